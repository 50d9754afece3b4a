/- WholeChip, in 7 texts: part 4. For every input; no condition. -/
import Derived.Test.YtbcodenfkijdnaaGreatPc3
import Derived.WalkKit
import Derived.Deep.RegionLaw
import Derived.Deep.LoopGhost
import Derived.Lib.SliceRun
import Derived.Lib.Walk
import Derived.Shelf.RegionOpenPlain
import Derived.Laws.AppendOwn
set_option linter.unusedVariables false
set_option linter.unusedSimpArgs false
set_option maxRecDepth 100000
namespace Go.Proofs.YtbcodenfkijdnaaGreat
open Go Go.RowKit Go.Shelf
open Go.Proofs.Tryz renaming prog→ZJ
open List renaming replicate→ZK,length_append→ZL,getD_eq_getElem?_getD→ZM,getElem?_eq_getElem→ZN,length_take→ZO,append_assoc→ZP,length_replicate→ZQ,length_set→ZT,length_map→ZU,length_drop→ZV,length_eraseIdx→ZW,not_mem_nil→Z0,getElem?_append_right→Z3,drop_eq_getElem_cons→Z4,range→Z5,length_range→Z6,toList_toArray→Z9,take_add_one→aaa,drop_append_of_le_length→aab,take_zero→aad,mem_or_eq_of_mem_set→aae,mem_cons→aaf,drop_eq_nil_of_le→aag,take_append_drop→aai,set_append_right→aaj,replicate_succ→aak,getElem?_drop→aam,size_toArray→aao,foldl_append→aap,drop_append→aaq,length_cons→aas,length_tail→aat,take_length→aau,nil_append→aaw,map_cons→aaz,flatten→aaA
open Bool renaming and_eq_true→ZR,or_eq_false_iff→Z1,or_eq_true→aac,true_and→aay
open Nat renaming le_trans→ZS,zero_le→ZX,le_refl→ZZ,add_mul→Z2,succ_le_succ→Z7,lt_succ_self→Z8,add_sub_cancel_left→aah,lt_succ_of_lt→aar,succ_lt_succ→aav,not_lt_zero→aax,succ_pos→aaB,mul_succ→aaE
open Int renaming natCast_mul→ZY,toNat_of_nonneg→aan
open Go.Result renaming andThen_ok→aal
open Go.Sem renaming run_bind→aaC,run_pure→aaD
namespace E
theorem Sq(g b d:Nat)(m:Mp)(f t x:Nat)(q:List Ak)(J:aO ⟨m,⟨1,f,t,x⟩,q⟩)(z:oy m f t x):aa ZJ 212 #[pt g 0] [pk (ar g b d ⟨m,⟨1,f,t,x⟩,q⟩)] [0] (λE=>[pk (ar g b d (cX ⟨m,⟨1,f,t,x⟩,q⟩).1),bc (E.val 0) ((cX ⟨m,⟨1,f,t,x⟩,q⟩).2)]) (λE=>(E.val 0)):=aa.pkW (n:=1) (N:=λE=>[bc (E.val 0) ((cX ⟨m,⟨1,f,t,x⟩,q⟩).2)]) (enters_of Tryz.func212 Kr rfl) λL P=>by
 obtain⟨rfl⟩:=P;refine⟨[0,1,2],λ_=>[ob g #[pt b 0,iN ((cX ⟨m,⟨1,f,t,x⟩,q⟩).1.j.A),iN ((cX ⟨m,⟨1,f,t,x⟩,q⟩).1.j.fr),iN ((cX ⟨m,⟨1,f,t,x⟩,q⟩).1.j.tg),iN ((cX ⟨m,⟨1,f,t,x⟩,q⟩).1.j.nx),pt d 0] 133,pk (aG b (cX ⟨m,⟨1,f,t,x⟩,q⟩).1.m),pk (bH d (cX ⟨m,⟨1,f,t,x⟩,q⟩).1.q)],?_,rfl,λE=>⟨rfl,rfl,rfl⟩⟩;have U:=J.m;have V:q.length≤256:=J.n;have Q:=wa J (show(1:Nat)≠0 by decide);refine fG Tryz.func212 λw W=>r0 [] [(2,.slice none 0 0)] [] (rr (λ_=>[(3,.l 0),(5,.s 3)]) (λu=>[(3,pt (B4 u) 0)]) [] (λu L=>L++[ob (B4 u) #[i6 1,iN f,iN t,iN x] 70]) λu=>rs [(4,.s 0)] 0 (ob g #[pt b 0,i6 0,i6 0,i6 0,i6 0,pt d 0] 133) (rT [(1,.l 3)] 17 (rs [(3,.l 0),(5,.l 3),(7,.l 3),(8,.c [1] [1] (Rh b m U f t z.hf z.t0 z.t1 z.df z.dt z.ne))] 1 ((pk (aG b (kr m f t)))) (rr (λ_=>[(1,.l 3),(3,.l 3),(5,g5 jx 4 1 [(⟨6,f,t⟩:Ev)])]) (λD=>[(4,.slice (some ⟨(D 5).y 0,0,none⟩) 1 1)]) [] (λD L=>L++[bc (.slice (some ⟨(D 5).y 0,0,none⟩) 1 1) ([(⟨6,f,t⟩:Ev)])]) λD=>?_))));refine nk (λk _=>k≤q.length∧(e3 q.length (ae ⟨m,⟨1,f,t,x⟩,q⟩)=e3 (q.length-k) (af (ae ⟨m,⟨1,f,t,x⟩,q⟩) k))) (λ_ a=>[(4,a)]) (λk a L=>(((L.set 0 (ob g #[pt b 0,iN ((af (ae ⟨m,⟨1,f,t,x⟩,q⟩) k).1.j.A),iN ((af (ae ⟨m,⟨1,f,t,x⟩,q⟩) k).1.j.fr),iN ((af (ae ⟨m,⟨1,f,t,x⟩,q⟩) k).1.j.tg),iN ((af (ae ⟨m,⟨1,f,t,x⟩,q⟩) k).1.j.nx),pt d 0] 133)).set 1 ((pk (aG b (af (ae ⟨m,⟨1,f,t,x⟩,q⟩) k).1.m)))).set 2 ((pk (bH d (af (ae ⟨m,⟨1,f,t,x⟩,q⟩) k).1.q)))).set 4 (bc a ((af (ae ⟨m,⟨1,f,t,x⟩,q⟩) k).2))) (λk _=>q.length-k) 0 (.slice (some ⟨(D 5).y 0,0,none⟩) 1 1) ⟨by omega,rfl⟩ Kr Kr (λk a ⟨T,K⟩=>?_);have M:aO (af (ae ⟨m,⟨1,f,t,x⟩,q⟩) k).1:=z4 Q k (show k≤q.length by omega);have R:=z3 (ae ⟨m,⟨1,f,t,x⟩,q⟩) k;have O:(ae ⟨m,⟨1,f,t,x⟩,q⟩).2.length=1:=rfl;have S:(af (ae ⟨m,⟨1,f,t,x⟩,q⟩) k).1.q.length=q.length-k:=wg (ae ⟨m,⟨1,f,t,x⟩,q⟩) k;refine rr (λ_=>[(1,.c [0,1,2] [1,2] (mY g b d ((af (ae ⟨m,⟨1,f,t,x⟩,q⟩) k).1)))]) (λ_=>[(44,.bool (!((((af (ae ⟨m,⟨1,f,t,x⟩,q⟩) k).1).j.A:Int) != 0)))]) [] (λ_ L=>(L.set 1 ((pk (aG b ((af (ae ⟨m,⟨1,f,t,x⟩,q⟩) k).1).m)))).set 2 ((pk (bH d ((af (ae ⟨m,⟨1,f,t,x⟩,q⟩) k).1).q)))) λX=>?_;refine cB (!((((af (ae ⟨m,⟨1,f,t,x⟩,q⟩) k).1).j.A:Int) != 0)) (λH=>?_) λH=>?_
 ·have v:(af (ae ⟨m,⟨1,f,t,x⟩,q⟩) k).1.j.A=0:=by simpa using H
  refine rr (λ_=>[(3,.l 0),(4,.c [2] [2] (FQ d (((af (ae ⟨m,⟨1,f,t,x⟩,q⟩) k).1).q))),(9,.s 5)]) (λi=>[(5,pt ((i 8).y 0) 0),(6,i6 (mq (((af (ae ⟨m,⟨1,f,t,x⟩,q⟩) k).1).q)))]) [] (λi L=>L.set 2 ((pk (bH d (((af (ae ⟨m,⟨1,f,t,x⟩,q⟩) k).1).q).tail)))++[ob ((i 8).y 0) #[iN (((((af (ae ⟨m,⟨1,f,t,x⟩,q⟩) k).1).q).headD aJ).k),iN (((((af (ae ⟨m,⟨1,f,t,x⟩,q⟩) k).1).q).headD aJ).w)] 285]) λi=>r0 [] [(54,.bool ((mq (((af (ae ⟨m,⟨1,f,t,x⟩,q⟩) k).1).q)) != 0))] [] ?_;refine mN (mq (((af (ae ⟨m,⟨1,f,t,x⟩,q⟩) k).1).q)) 0 (λF o=>?_) λF o=>?_
  ·refine mh ?_;have r:((af (ae ⟨m,⟨1,f,t,x⟩,q⟩) k).1.j.A≠0)∨(af (ae ⟨m,⟨1,f,t,x⟩,q⟩) k).1.q.length=0:=by(right;have y:=o;unfold mq at y;split at y<;>first | assumption | exact absurd rfl y)
   have p:cX ⟨m,⟨1,f,t,x⟩,q⟩=(af (ae ⟨m,⟨1,f,t,x⟩,q⟩) k):=by show e3 q.length (ae ⟨m,⟨1,f,t,x⟩,q⟩)=_;rw[K];rcases r with h | h;exact wi h _;rw[show q.length-k=0 by omega];rfl
   exact cl [ob g #[pt b 0,iN ((af (ae ⟨m,⟨1,f,t,x⟩,q⟩) k).1.j.A),iN ((af (ae ⟨m,⟨1,f,t,x⟩,q⟩) k).1.j.fr),iN ((af (ae ⟨m,⟨1,f,t,x⟩,q⟩) k).1.j.tg),iN ((af (ae ⟨m,⟨1,f,t,x⟩,q⟩) k).1.j.nx),pt d 0] 133,pk (aG b ((af (ae ⟨m,⟨1,f,t,x⟩,q⟩) k).1).m),pk (bH d (af (ae ⟨m,⟨1,f,t,x⟩,q⟩) k).1.q),ob (B4 u) #[i6 1,iN f,iN t,iN x] 70,bc a ((af (ae ⟨m,⟨1,f,t,x⟩,q⟩) k).2),ob ((i 8).y 0) #[iN (((((af (ae ⟨m,⟨1,f,t,x⟩,q⟩) k).1).q).headD aJ).k),iN (((((af (ae ⟨m,⟨1,f,t,x⟩,q⟩) k).1).q).headD aJ).w)] 285] (by(try rw[show(af (ae ⟨m,⟨1,f,t,x⟩,q⟩) k).1.q.tail=(af (ae ⟨m,⟨1,f,t,x⟩,q⟩) k).1.q from wh (r.resolve_left (λh=>h v))]);kernel_rfl) (r0 [] [(2,a)] [2] (lf (.l [] [] [a]) [0,1,2,4] [] [] (hf:=by rw[p];kernel_rfl)))
  have I:0<(af (ae ⟨m,⟨1,f,t,x⟩,q⟩) k).1.q.length:=by have y:=o;unfold mq at y;split at y<;>omega
  have C:=FX (s:=(ae ⟨m,⟨1,f,t,x⟩,q⟩)) (k:=k) (by show k<q.length;omega) K v;have A:=wb M;have B:eK (aZ (af (ae ⟨m,⟨1,f,t,x⟩,q⟩) k).1).m ((af (ae ⟨m,⟨1,f,t,x⟩,q⟩) k).1.q.headD aJ):=⟨(ts M I).k⟩;refine cl [ob g #[pt b 0,iN ((aZ (af (ae ⟨m,⟨1,f,t,x⟩,q⟩) k).1).j.A),iN ((aZ (af (ae ⟨m,⟨1,f,t,x⟩,q⟩) k).1).j.fr),iN ((aZ (af (ae ⟨m,⟨1,f,t,x⟩,q⟩) k).1).j.tg),iN ((aZ (af (ae ⟨m,⟨1,f,t,x⟩,q⟩) k).1).j.nx),pt d 0] 133,pk (aG b ((af (ae ⟨m,⟨1,f,t,x⟩,q⟩) k).1).m),pk (bH d (((af (ae ⟨m,⟨1,f,t,x⟩,q⟩) k).1).q).tail),ob (B4 u) #[i6 1,iN f,iN t,iN x] 70,bc a ((af (ae ⟨m,⟨1,f,t,x⟩,q⟩) k).2),ob ((i 8).y 0) #[iN (((((af (ae ⟨m,⟨1,f,t,x⟩,q⟩) k).1).q).headD aJ).k),iN (((((af (ae ⟨m,⟨1,f,t,x⟩,q⟩) k).1).q).headD aJ).w)] 285] (by skip;kernel_rfl) (cl [ob g #[pt b 0,iN ((aZ (af (ae ⟨m,⟨1,f,t,x⟩,q⟩) k).1).j.A),iN ((aZ (af (ae ⟨m,⟨1,f,t,x⟩,q⟩) k).1).j.fr),iN ((aZ (af (ae ⟨m,⟨1,f,t,x⟩,q⟩) k).1).j.tg),iN ((aZ (af (ae ⟨m,⟨1,f,t,x⟩,q⟩) k).1).j.nx),pt d 0] 133,pk (aG b (aZ (af (ae ⟨m,⟨1,f,t,x⟩,q⟩) k).1).m),pk (bH d (((af (ae ⟨m,⟨1,f,t,x⟩,q⟩) k).1).q).tail),ob (B4 u) #[i6 1,iN f,iN t,iN x] 70,bc a ((af (ae ⟨m,⟨1,f,t,x⟩,q⟩) k).2),ob ((i 8).y 0) #[iN (((((af (ae ⟨m,⟨1,f,t,x⟩,q⟩) k).1).q).headD aJ).k),iN (((((af (ae ⟨m,⟨1,f,t,x⟩,q⟩) k).1).q).headD aJ).w)] 285] (by skip;kernel_rfl) (cl [ob g #[pt b 0,iN ((aZ (af (ae ⟨m,⟨1,f,t,x⟩,q⟩) k).1).j.A),iN ((aZ (af (ae ⟨m,⟨1,f,t,x⟩,q⟩) k).1).j.fr),iN ((aZ (af (ae ⟨m,⟨1,f,t,x⟩,q⟩) k).1).j.tg),iN ((aZ (af (ae ⟨m,⟨1,f,t,x⟩,q⟩) k).1).j.nx),pt d 0] 133,pk (aG b (aZ (af (ae ⟨m,⟨1,f,t,x⟩,q⟩) k).1).m),pk (bH d (aZ (af (ae ⟨m,⟨1,f,t,x⟩,q⟩) k).1).q),ob (B4 u) #[i6 1,iN f,iN t,iN x] 70,bc a ((af (ae ⟨m,⟨1,f,t,x⟩,q⟩) k).2),ob ((i 8).y 0) #[iN (((((af (ae ⟨m,⟨1,f,t,x⟩,q⟩) k).1).q).headD aJ).k),iN (((((af (ae ⟨m,⟨1,f,t,x⟩,q⟩) k).1).q).headD aJ).w)] 285] (by skip;kernel_rfl) (r0 [(1,.l 5),(2,.c [0,1,2] [0,1,2] (pB g b d (aZ (af (ae ⟨m,⟨1,f,t,x⟩,q⟩) k).1) A ((((af (ae ⟨m,⟨1,f,t,x⟩,q⟩) k).1).q).headD aJ) B))] [(58,.bool (!(dc (aZ (af (ae ⟨m,⟨1,f,t,x⟩,q⟩) k).1) ((((af (ae ⟨m,⟨1,f,t,x⟩,q⟩) k).1).q).headD aJ))))] [] ?_)));refine cB (!(dc (aZ (af (ae ⟨m,⟨1,f,t,x⟩,q⟩) k).1) ((((af (ae ⟨m,⟨1,f,t,x⟩,q⟩) k).1).q).headD aJ))) (λG=>?_) λG=>?_
  ·exact rr (λe=>[(2,.l 5),(3,.c [0,1,2] [0,1,2,6] (z8 g b d (aZ (af (ae ⟨m,⟨1,f,t,x⟩,q⟩) k).1) A ((((af (ae ⟨m,⟨1,f,t,x⟩,q⟩) k).1).q).headD aJ) B)),(4,.m (mK 4 6 jx.hT (a) ((e 3).val 0) (xs:=(af (ae ⟨m,⟨1,f,t,x⟩,q⟩) k).2) (ys:=gb (aZ (af (ae ⟨m,⟨1,f,t,x⟩,q⟩) k).1) ((((af (ae ⟨m,⟨1,f,t,x⟩,q⟩) k).1).q).headD aJ)) (bc ((e 3).val 0) (gb (aZ (af (ae ⟨m,⟨1,f,t,x⟩,q⟩) k).1) ((((af (ae ⟨m,⟨1,f,t,x⟩,q⟩) k).1).q).headD aJ))) (λ_ h=>aq.src ((λ_ h=>h) _ h)) jx.one jx.lz (by simp only[LL,wc];omega)))]) (λe=>[(4,(e 4).val 0)]) [4] (λe L=>(((L.set 0 (ob g #[pt b 0,iN ((dg (aZ (af (ae ⟨m,⟨1,f,t,x⟩,q⟩) k).1) ((((af (ae ⟨m,⟨1,f,t,x⟩,q⟩) k).1).q).headD aJ)).j.A),iN ((dg (aZ (af (ae ⟨m,⟨1,f,t,x⟩,q⟩) k).1) ((((af (ae ⟨m,⟨1,f,t,x⟩,q⟩) k).1).q).headD aJ)).j.fr),iN ((dg (aZ (af (ae ⟨m,⟨1,f,t,x⟩,q⟩) k).1) ((((af (ae ⟨m,⟨1,f,t,x⟩,q⟩) k).1).q).headD aJ)).j.tg),iN ((dg (aZ (af (ae ⟨m,⟨1,f,t,x⟩,q⟩) k).1) ((((af (ae ⟨m,⟨1,f,t,x⟩,q⟩) k).1).q).headD aJ)).j.nx),pt d 0] 133)).set 1 ((pk (aG b (dg (aZ (af (ae ⟨m,⟨1,f,t,x⟩,q⟩) k).1) ((((af (ae ⟨m,⟨1,f,t,x⟩,q⟩) k).1).q).headD aJ)).m)))).set 2 ((pk (bH d (dg (aZ (af (ae ⟨m,⟨1,f,t,x⟩,q⟩) k).1) ((((af (ae ⟨m,⟨1,f,t,x⟩,q⟩) k).1).q).headD aJ)).q)))).set 4 (bc ((e 4).val 0) (((af (ae ⟨m,⟨1,f,t,x⟩,q⟩) k).2)++(gb (aZ (af (ae ⟨m,⟨1,f,t,x⟩,q⟩) k).1) ((((af (ae ⟨m,⟨1,f,t,x⟩,q⟩) k).1).q).headD aJ))))++[bc ((e 3).val 0) (gb (aZ (af (ae ⟨m,⟨1,f,t,x⟩,q⟩) k).1) ((((af (ae ⟨m,⟨1,f,t,x⟩,q⟩) k).1).q).headD aJ))]) λe=>mf (k+1) ((e 4).val 0) ⟨by omega,C⟩ Om Kr [0,1,2,3,4] (by(rw[FW (s:=(ae ⟨m,⟨1,f,t,x⟩,q⟩)) (k:=k) (by simpa using ‹(!dc (aZ (af (ae ⟨m,⟨1,f,t,x⟩,q⟩) k).1) ((af (ae ⟨m,⟨1,f,t,x⟩,q⟩) k).1.q.headD aJ))=true›)]);kernel_rfl)
  exact mf (k+1) a ⟨by omega,C⟩ Om Kr [0,1,2,3,4] (by(rw[FV (s:=(ae ⟨m,⟨1,f,t,x⟩,q⟩)) (k:=k) (by simpa using ‹(!dc (aZ (af (ae ⟨m,⟨1,f,t,x⟩,q⟩) k).1) ((af (ae ⟨m,⟨1,f,t,x⟩,q⟩) k).1.q.headD aJ))=false›)]);kernel_rfl)
 refine mh ?_;have r:((af (ae ⟨m,⟨1,f,t,x⟩,q⟩) k).1.j.A≠0)∨(af (ae ⟨m,⟨1,f,t,x⟩,q⟩) k).1.q.length=0:=by(left;simpa using H)
 have p:cX ⟨m,⟨1,f,t,x⟩,q⟩=(af (ae ⟨m,⟨1,f,t,x⟩,q⟩) k):=by show e3 q.length (ae ⟨m,⟨1,f,t,x⟩,q⟩)=_;rw[K];rcases r with h | h;exact wi h _;rw[show q.length-k=0 by omega];rfl
 exact cl [ob g #[pt b 0,iN ((af (ae ⟨m,⟨1,f,t,x⟩,q⟩) k).1.j.A),iN ((af (ae ⟨m,⟨1,f,t,x⟩,q⟩) k).1.j.fr),iN ((af (ae ⟨m,⟨1,f,t,x⟩,q⟩) k).1.j.tg),iN ((af (ae ⟨m,⟨1,f,t,x⟩,q⟩) k).1.j.nx),pt d 0] 133,pk (aG b ((af (ae ⟨m,⟨1,f,t,x⟩,q⟩) k).1).m),pk (bH d (af (ae ⟨m,⟨1,f,t,x⟩,q⟩) k).1.q),ob (B4 u) #[i6 1,iN f,iN t,iN x] 70,bc a ((af (ae ⟨m,⟨1,f,t,x⟩,q⟩) k).2)] (by(try rw[show(af (ae ⟨m,⟨1,f,t,x⟩,q⟩) k).1.q.tail=(af (ae ⟨m,⟨1,f,t,x⟩,q⟩) k).1.q from wh (r.resolve_left (λh=>h v))]);kernel_rfl) (r0 [] [(2,a)] [2] (lf (.l [] [] [a]) [0,1,2,4] [] [] (hf:=by rw[p];kernel_rfl)))
theorem Sr(g b d:Nat)(m:Mp)(f t x:Nat)(q:List Ak)(J:aO ⟨m,⟨2,f,t,x⟩,q⟩)(D:oz m f t x):aa ZJ 212 #[pt g 0] [pk (ar g b d ⟨m,⟨2,f,t,x⟩,q⟩)] [0] (λE=>[pk (ar g b d (cX ⟨m,⟨2,f,t,x⟩,q⟩).1),bc (E.val 0) ((cX ⟨m,⟨2,f,t,x⟩,q⟩).2)]) (λE=>(E.val 0)):=aa.pkW (n:=1) (N:=λE=>[bc (E.val 0) ((cX ⟨m,⟨2,f,t,x⟩,q⟩).2)]) (enters_of Tryz.func212 Kr rfl) λL P=>by
 obtain⟨rfl⟩:=P;refine⟨[0,1,2],λ_=>[ob g #[pt b 0,iN ((cX ⟨m,⟨2,f,t,x⟩,q⟩).1.j.A),iN ((cX ⟨m,⟨2,f,t,x⟩,q⟩).1.j.fr),iN ((cX ⟨m,⟨2,f,t,x⟩,q⟩).1.j.tg),iN ((cX ⟨m,⟨2,f,t,x⟩,q⟩).1.j.nx),pt d 0] 133,pk (aG b (cX ⟨m,⟨2,f,t,x⟩,q⟩).1.m),pk (bH d (cX ⟨m,⟨2,f,t,x⟩,q⟩).1.q)],?_,rfl,λE=>⟨rfl,rfl,rfl⟩⟩;have U:=J.m;have V:q.length≤256:=J.n;have Q:=wa J (show(2:Nat)≠0 by decide);refine fG Tryz.func212 λw W=>r0 [] [(2,.slice none 0 0)] [] (rr (λ_=>[(3,.l 0),(5,.s 3)]) (λu=>[(3,pt (B4 u) 0)]) [] (λu L=>L++[ob (B4 u) #[i6 2,iN f,iN t,iN x] 70]) λu=>rs [(4,.s 0)] 0 (ob g #[pt b 0,i6 0,i6 0,i6 0,i6 0,pt d 0] 133) (rF [(1,.l 3)] 17 (rs [(3,.l 0),(5,.l 3),(7,.l 3),(8,.c [1] [1] (Ri b m U f t D.hf D.t0 D.t1 D.hs))] 1 ((pk (aG b (ju m f t)))) (rr (λ_=>[(1,.l 3),(3,.l 3),(5,g5 jx 4 1 [(⟨6,f,t⟩:Ev)])]) (λC=>[(4,.slice (some ⟨(C 5).y 0,0,none⟩) 1 1)]) [] (λC L=>L++[bc (.slice (some ⟨(C 5).y 0,0,none⟩) 1 1) ([(⟨6,f,t⟩:Ev)])]) λC=>?_))));refine nk (λk _=>k≤q.length∧(e3 q.length (ae ⟨m,⟨2,f,t,x⟩,q⟩)=e3 (q.length-k) (af (ae ⟨m,⟨2,f,t,x⟩,q⟩) k))) (λ_ a=>[(4,a)]) (λk a L=>(((L.set 0 (ob g #[pt b 0,iN ((af (ae ⟨m,⟨2,f,t,x⟩,q⟩) k).1.j.A),iN ((af (ae ⟨m,⟨2,f,t,x⟩,q⟩) k).1.j.fr),iN ((af (ae ⟨m,⟨2,f,t,x⟩,q⟩) k).1.j.tg),iN ((af (ae ⟨m,⟨2,f,t,x⟩,q⟩) k).1.j.nx),pt d 0] 133)).set 1 ((pk (aG b (af (ae ⟨m,⟨2,f,t,x⟩,q⟩) k).1.m)))).set 2 ((pk (bH d (af (ae ⟨m,⟨2,f,t,x⟩,q⟩) k).1.q)))).set 4 (bc a ((af (ae ⟨m,⟨2,f,t,x⟩,q⟩) k).2))) (λk _=>q.length-k) 0 (.slice (some ⟨(C 5).y 0,0,none⟩) 1 1) ⟨by omega,rfl⟩ Kr Kr (λk a ⟨T,K⟩=>?_);have M:aO (af (ae ⟨m,⟨2,f,t,x⟩,q⟩) k).1:=z4 Q k (show k≤q.length by omega);have R:=z3 (ae ⟨m,⟨2,f,t,x⟩,q⟩) k;have O:(ae ⟨m,⟨2,f,t,x⟩,q⟩).2.length=1:=rfl;have S:(af (ae ⟨m,⟨2,f,t,x⟩,q⟩) k).1.q.length=q.length-k:=wg (ae ⟨m,⟨2,f,t,x⟩,q⟩) k;refine rr (λ_=>[(1,.c [0,1,2] [1,2] (mY g b d ((af (ae ⟨m,⟨2,f,t,x⟩,q⟩) k).1)))]) (λ_=>[(44,.bool (!((((af (ae ⟨m,⟨2,f,t,x⟩,q⟩) k).1).j.A:Int) != 0)))]) [] (λ_ L=>(L.set 1 ((pk (aG b ((af (ae ⟨m,⟨2,f,t,x⟩,q⟩) k).1).m)))).set 2 ((pk (bH d ((af (ae ⟨m,⟨2,f,t,x⟩,q⟩) k).1).q)))) λX=>?_;refine cB (!((((af (ae ⟨m,⟨2,f,t,x⟩,q⟩) k).1).j.A:Int) != 0)) (λH=>?_) λH=>?_
 ·have v:(af (ae ⟨m,⟨2,f,t,x⟩,q⟩) k).1.j.A=0:=by simpa using H
  refine rr (λ_=>[(3,.l 0),(4,.c [2] [2] (FQ d (((af (ae ⟨m,⟨2,f,t,x⟩,q⟩) k).1).q))),(9,.s 5)]) (λi=>[(5,pt ((i 8).y 0) 0),(6,i6 (mq (((af (ae ⟨m,⟨2,f,t,x⟩,q⟩) k).1).q)))]) [] (λi L=>L.set 2 ((pk (bH d (((af (ae ⟨m,⟨2,f,t,x⟩,q⟩) k).1).q).tail)))++[ob ((i 8).y 0) #[iN (((((af (ae ⟨m,⟨2,f,t,x⟩,q⟩) k).1).q).headD aJ).k),iN (((((af (ae ⟨m,⟨2,f,t,x⟩,q⟩) k).1).q).headD aJ).w)] 285]) λi=>r0 [] [(54,.bool ((mq (((af (ae ⟨m,⟨2,f,t,x⟩,q⟩) k).1).q)) != 0))] [] ?_;refine mN (mq (((af (ae ⟨m,⟨2,f,t,x⟩,q⟩) k).1).q)) 0 (λF o=>?_) λF o=>?_
  ·refine mh ?_;have r:((af (ae ⟨m,⟨2,f,t,x⟩,q⟩) k).1.j.A≠0)∨(af (ae ⟨m,⟨2,f,t,x⟩,q⟩) k).1.q.length=0:=by(right;have y:=o;unfold mq at y;split at y<;>first | assumption | exact absurd rfl y)
   have p:cX ⟨m,⟨2,f,t,x⟩,q⟩=(af (ae ⟨m,⟨2,f,t,x⟩,q⟩) k):=by show e3 q.length (ae ⟨m,⟨2,f,t,x⟩,q⟩)=_;rw[K];rcases r with h | h;exact wi h _;rw[show q.length-k=0 by omega];rfl
   exact cl [ob g #[pt b 0,iN ((af (ae ⟨m,⟨2,f,t,x⟩,q⟩) k).1.j.A),iN ((af (ae ⟨m,⟨2,f,t,x⟩,q⟩) k).1.j.fr),iN ((af (ae ⟨m,⟨2,f,t,x⟩,q⟩) k).1.j.tg),iN ((af (ae ⟨m,⟨2,f,t,x⟩,q⟩) k).1.j.nx),pt d 0] 133,pk (aG b ((af (ae ⟨m,⟨2,f,t,x⟩,q⟩) k).1).m),pk (bH d (af (ae ⟨m,⟨2,f,t,x⟩,q⟩) k).1.q),ob (B4 u) #[i6 2,iN f,iN t,iN x] 70,bc a ((af (ae ⟨m,⟨2,f,t,x⟩,q⟩) k).2),ob ((i 8).y 0) #[iN (((((af (ae ⟨m,⟨2,f,t,x⟩,q⟩) k).1).q).headD aJ).k),iN (((((af (ae ⟨m,⟨2,f,t,x⟩,q⟩) k).1).q).headD aJ).w)] 285] (by(try rw[show(af (ae ⟨m,⟨2,f,t,x⟩,q⟩) k).1.q.tail=(af (ae ⟨m,⟨2,f,t,x⟩,q⟩) k).1.q from wh (r.resolve_left (λh=>h v))]);kernel_rfl) (r0 [] [(2,a)] [2] (lf (.l [] [] [a]) [0,1,2,4] [] [] (hf:=by rw[p];kernel_rfl)))
  have I:0<(af (ae ⟨m,⟨2,f,t,x⟩,q⟩) k).1.q.length:=by have y:=o;unfold mq at y;split at y<;>omega
  have B:=FX (s:=(ae ⟨m,⟨2,f,t,x⟩,q⟩)) (k:=k) (by show k<q.length;omega) K v;have z:=wb M;have A:eK (aZ (af (ae ⟨m,⟨2,f,t,x⟩,q⟩) k).1).m ((af (ae ⟨m,⟨2,f,t,x⟩,q⟩) k).1.q.headD aJ):=⟨(ts M I).k⟩;refine cl [ob g #[pt b 0,iN ((aZ (af (ae ⟨m,⟨2,f,t,x⟩,q⟩) k).1).j.A),iN ((aZ (af (ae ⟨m,⟨2,f,t,x⟩,q⟩) k).1).j.fr),iN ((aZ (af (ae ⟨m,⟨2,f,t,x⟩,q⟩) k).1).j.tg),iN ((aZ (af (ae ⟨m,⟨2,f,t,x⟩,q⟩) k).1).j.nx),pt d 0] 133,pk (aG b ((af (ae ⟨m,⟨2,f,t,x⟩,q⟩) k).1).m),pk (bH d (((af (ae ⟨m,⟨2,f,t,x⟩,q⟩) k).1).q).tail),ob (B4 u) #[i6 2,iN f,iN t,iN x] 70,bc a ((af (ae ⟨m,⟨2,f,t,x⟩,q⟩) k).2),ob ((i 8).y 0) #[iN (((((af (ae ⟨m,⟨2,f,t,x⟩,q⟩) k).1).q).headD aJ).k),iN (((((af (ae ⟨m,⟨2,f,t,x⟩,q⟩) k).1).q).headD aJ).w)] 285] (by skip;kernel_rfl) (cl [ob g #[pt b 0,iN ((aZ (af (ae ⟨m,⟨2,f,t,x⟩,q⟩) k).1).j.A),iN ((aZ (af (ae ⟨m,⟨2,f,t,x⟩,q⟩) k).1).j.fr),iN ((aZ (af (ae ⟨m,⟨2,f,t,x⟩,q⟩) k).1).j.tg),iN ((aZ (af (ae ⟨m,⟨2,f,t,x⟩,q⟩) k).1).j.nx),pt d 0] 133,pk (aG b (aZ (af (ae ⟨m,⟨2,f,t,x⟩,q⟩) k).1).m),pk (bH d (((af (ae ⟨m,⟨2,f,t,x⟩,q⟩) k).1).q).tail),ob (B4 u) #[i6 2,iN f,iN t,iN x] 70,bc a ((af (ae ⟨m,⟨2,f,t,x⟩,q⟩) k).2),ob ((i 8).y 0) #[iN (((((af (ae ⟨m,⟨2,f,t,x⟩,q⟩) k).1).q).headD aJ).k),iN (((((af (ae ⟨m,⟨2,f,t,x⟩,q⟩) k).1).q).headD aJ).w)] 285] (by skip;kernel_rfl) (cl [ob g #[pt b 0,iN ((aZ (af (ae ⟨m,⟨2,f,t,x⟩,q⟩) k).1).j.A),iN ((aZ (af (ae ⟨m,⟨2,f,t,x⟩,q⟩) k).1).j.fr),iN ((aZ (af (ae ⟨m,⟨2,f,t,x⟩,q⟩) k).1).j.tg),iN ((aZ (af (ae ⟨m,⟨2,f,t,x⟩,q⟩) k).1).j.nx),pt d 0] 133,pk (aG b (aZ (af (ae ⟨m,⟨2,f,t,x⟩,q⟩) k).1).m),pk (bH d (aZ (af (ae ⟨m,⟨2,f,t,x⟩,q⟩) k).1).q),ob (B4 u) #[i6 2,iN f,iN t,iN x] 70,bc a ((af (ae ⟨m,⟨2,f,t,x⟩,q⟩) k).2),ob ((i 8).y 0) #[iN (((((af (ae ⟨m,⟨2,f,t,x⟩,q⟩) k).1).q).headD aJ).k),iN (((((af (ae ⟨m,⟨2,f,t,x⟩,q⟩) k).1).q).headD aJ).w)] 285] (by skip;kernel_rfl) (r0 [(1,.l 5),(2,.c [0,1,2] [0,1,2] (pB g b d (aZ (af (ae ⟨m,⟨2,f,t,x⟩,q⟩) k).1) z ((((af (ae ⟨m,⟨2,f,t,x⟩,q⟩) k).1).q).headD aJ) A))] [(58,.bool (!(dc (aZ (af (ae ⟨m,⟨2,f,t,x⟩,q⟩) k).1) ((((af (ae ⟨m,⟨2,f,t,x⟩,q⟩) k).1).q).headD aJ))))] [] ?_)));refine cB (!(dc (aZ (af (ae ⟨m,⟨2,f,t,x⟩,q⟩) k).1) ((((af (ae ⟨m,⟨2,f,t,x⟩,q⟩) k).1).q).headD aJ))) (λG=>?_) λG=>?_
  ·exact rr (λe=>[(2,.l 5),(3,.c [0,1,2] [0,1,2,6] (z8 g b d (aZ (af (ae ⟨m,⟨2,f,t,x⟩,q⟩) k).1) z ((((af (ae ⟨m,⟨2,f,t,x⟩,q⟩) k).1).q).headD aJ) A)),(4,.m (mK 4 6 jx.hT (a) ((e 3).val 0) (xs:=(af (ae ⟨m,⟨2,f,t,x⟩,q⟩) k).2) (ys:=gb (aZ (af (ae ⟨m,⟨2,f,t,x⟩,q⟩) k).1) ((((af (ae ⟨m,⟨2,f,t,x⟩,q⟩) k).1).q).headD aJ)) (bc ((e 3).val 0) (gb (aZ (af (ae ⟨m,⟨2,f,t,x⟩,q⟩) k).1) ((((af (ae ⟨m,⟨2,f,t,x⟩,q⟩) k).1).q).headD aJ))) (λ_ h=>aq.src ((λ_ h=>h) _ h)) jx.one jx.lz (by simp only[LL,wc];omega)))]) (λe=>[(4,(e 4).val 0)]) [4] (λe L=>(((L.set 0 (ob g #[pt b 0,iN ((dg (aZ (af (ae ⟨m,⟨2,f,t,x⟩,q⟩) k).1) ((((af (ae ⟨m,⟨2,f,t,x⟩,q⟩) k).1).q).headD aJ)).j.A),iN ((dg (aZ (af (ae ⟨m,⟨2,f,t,x⟩,q⟩) k).1) ((((af (ae ⟨m,⟨2,f,t,x⟩,q⟩) k).1).q).headD aJ)).j.fr),iN ((dg (aZ (af (ae ⟨m,⟨2,f,t,x⟩,q⟩) k).1) ((((af (ae ⟨m,⟨2,f,t,x⟩,q⟩) k).1).q).headD aJ)).j.tg),iN ((dg (aZ (af (ae ⟨m,⟨2,f,t,x⟩,q⟩) k).1) ((((af (ae ⟨m,⟨2,f,t,x⟩,q⟩) k).1).q).headD aJ)).j.nx),pt d 0] 133)).set 1 ((pk (aG b (dg (aZ (af (ae ⟨m,⟨2,f,t,x⟩,q⟩) k).1) ((((af (ae ⟨m,⟨2,f,t,x⟩,q⟩) k).1).q).headD aJ)).m)))).set 2 ((pk (bH d (dg (aZ (af (ae ⟨m,⟨2,f,t,x⟩,q⟩) k).1) ((((af (ae ⟨m,⟨2,f,t,x⟩,q⟩) k).1).q).headD aJ)).q)))).set 4 (bc ((e 4).val 0) (((af (ae ⟨m,⟨2,f,t,x⟩,q⟩) k).2)++(gb (aZ (af (ae ⟨m,⟨2,f,t,x⟩,q⟩) k).1) ((((af (ae ⟨m,⟨2,f,t,x⟩,q⟩) k).1).q).headD aJ))))++[bc ((e 3).val 0) (gb (aZ (af (ae ⟨m,⟨2,f,t,x⟩,q⟩) k).1) ((((af (ae ⟨m,⟨2,f,t,x⟩,q⟩) k).1).q).headD aJ))]) λe=>mf (k+1) ((e 4).val 0) ⟨by omega,B⟩ Om Kr [0,1,2,3,4] (by(rw[FW (s:=(ae ⟨m,⟨2,f,t,x⟩,q⟩)) (k:=k) (by simpa using ‹(!dc (aZ (af (ae ⟨m,⟨2,f,t,x⟩,q⟩) k).1) ((af (ae ⟨m,⟨2,f,t,x⟩,q⟩) k).1.q.headD aJ))=true›)]);kernel_rfl)
  exact mf (k+1) a ⟨by omega,B⟩ Om Kr [0,1,2,3,4] (by(rw[FV (s:=(ae ⟨m,⟨2,f,t,x⟩,q⟩)) (k:=k) (by simpa using ‹(!dc (aZ (af (ae ⟨m,⟨2,f,t,x⟩,q⟩) k).1) ((af (ae ⟨m,⟨2,f,t,x⟩,q⟩) k).1.q.headD aJ))=false›)]);kernel_rfl)
 refine mh ?_;have r:((af (ae ⟨m,⟨2,f,t,x⟩,q⟩) k).1.j.A≠0)∨(af (ae ⟨m,⟨2,f,t,x⟩,q⟩) k).1.q.length=0:=by(left;simpa using H)
 have p:cX ⟨m,⟨2,f,t,x⟩,q⟩=(af (ae ⟨m,⟨2,f,t,x⟩,q⟩) k):=by show e3 q.length (ae ⟨m,⟨2,f,t,x⟩,q⟩)=_;rw[K];rcases r with h | h;exact wi h _;rw[show q.length-k=0 by omega];rfl
 exact cl [ob g #[pt b 0,iN ((af (ae ⟨m,⟨2,f,t,x⟩,q⟩) k).1.j.A),iN ((af (ae ⟨m,⟨2,f,t,x⟩,q⟩) k).1.j.fr),iN ((af (ae ⟨m,⟨2,f,t,x⟩,q⟩) k).1.j.tg),iN ((af (ae ⟨m,⟨2,f,t,x⟩,q⟩) k).1.j.nx),pt d 0] 133,pk (aG b ((af (ae ⟨m,⟨2,f,t,x⟩,q⟩) k).1).m),pk (bH d (af (ae ⟨m,⟨2,f,t,x⟩,q⟩) k).1.q),ob (B4 u) #[i6 2,iN f,iN t,iN x] 70,bc a ((af (ae ⟨m,⟨2,f,t,x⟩,q⟩) k).2)] (by(try rw[show(af (ae ⟨m,⟨2,f,t,x⟩,q⟩) k).1.q.tail=(af (ae ⟨m,⟨2,f,t,x⟩,q⟩) k).1.q from wh (r.resolve_left (λh=>h v))]);kernel_rfl) (r0 [] [(2,a)] [2] (lf (.l [] [] [a]) [0,1,2,4] [] [] (hf:=by rw[p];kernel_rfl)))
theorem Ss(g a b:Nat)(r:Rp)(d:aO r)(e:r.j.A≠0):aa ZJ 212 #[pt g 0] [pk (ar g a b r)] [0] (λE=>[pk (ar g a b (cX r).1),bc (E.val 0) (cX r).2]) (λE=>E.val 0):=by
 obtain⟨m,⟨i,f,t,x⟩,q⟩:=r;rcases d.j.k with h | ⟨c,h⟩ | ⟨c,h⟩
 ·cases h;exact absurd rfl e
 ·cases c;exact Sq g a b m f t x q d h
 ·cases c;exact Sr g a b m f t x q d h
theorem Su(g a b:Nat)(r:Rp)(d:aO r)(c:r.j.A≠0):aa ZJ 212 #[pt g 0] (qH g a b r) [0,1,2] (λE=>qH g a b (cX r).1++[bc (E.val 0) (cX r).2]) (λE=>E.val 0):=(Ss g a b r d c).unpk (N:=λE=>[bc (E.val 0) (cX r).2])
theorem bz{r:Rp}(a:r.j.A≠0):((r.j.A:Int)==0)=false:=by rw[dj];omega
theorem Sw(g a b:Nat)(r:Rp)(d:aO r)(h:r.j.A≠0)(t:r.j.nx<eJ r.j.A r.m.B r.m.M r.m.C)(p:kQ r.m (br r).j=true):aa ZJ 165 #[pt g 0] [pk (ar g a b r)] [0] (λE=>[pk (ar g a b (cX (br r)).1),bc (E.val 0) ((cX (br r)).2)]) (λE=> .tuple #[(E.val 0),i6 0]):=aa.pkW (n:=1) (N:=λE=>[bc (E.val 0) ((cX (br r)).2)]) (enters_of Tryz.func165 Kr rfl) λL o=>by
 obtain⟨rfl⟩:=o;refine⟨[0,1,2],λ_=>[ob g #[pt a 0,iN ((cX (br r)).1.j.A),iN ((cX (br r)).1.j.fr),iN ((cX (br r)).1.j.tg),iN ((cX (br r)).1.j.nx),pt b 0] 133,pk (aG a (cX (br r)).1.m),pk (bH b (cX (br r)).1.q)],?_,rfl,λE=>⟨rfl,rfl,rfl⟩⟩;have f:=d.m;have B:=d.j;have y:=d.n;have A:=f.O;have u:=f.ly;have v:=f.np;have i:r.j.A=1∨r.j.A=2:=tq d h;have x:r.j.nx≤4096:=FT d;refine fG Tryz.func165 λw z=>r0 [] [(2,.slice none 0 0),(3,i6 0)] [] (r0 [(1,.c [0,1,2] [1,2] (mY g a b r))] [(6,.bool (!((r.j.A:Int) != 0)))] [] ?_);have k:(!((r.j.A:Int) != 0))=false:=by(rw[bne,bz h];rfl)
 exact cF (!((r.j.A:Int) != 0)) k (rs [(4,.l 0),(5,ad r.j.nx 1),(9,.s 0)] 0 (ob g #[pt a 0,iN r.j.A,iN r.j.fr,iN r.j.tg,iN (r.j.nx+1),pt b 0] 133) (rF [(3,.l 0),(7,.l 0),(8,.c [1] [1] (jv a r.m f)),(9,.c [] [] (aa.v ((FN r.m f r.j.A r.j.fr r.j.tg (r.j.nx+1) i)) λ_=>ALca Value.bool (show(kQ r.m ⟨r.j.A,r.j.fr,r.j.tg,(r.j.nx+1)⟩)=true from(by exact p))))] 26 (cl [ob g #[pt a 0,iN ((br r).j.A),iN ((br r).j.fr),iN ((br r).j.tg),iN ((br r).j.nx),pt b 0] 133,pk (aG a r.m),pk (bH b r.q)] (by skip;kernel_rfl) (cl [ob g #[pt a 0,iN ((br r).j.A),iN ((br r).j.fr),iN ((br r).j.tg),iN ((br r).j.nx),pt b 0] 133,pk (aG a (br r).m),pk (bH b r.q)] (by skip;kernel_rfl) (cl [ob g #[pt a 0,iN ((br r).j.A),iN ((br r).j.fr),iN ((br r).j.tg),iN ((br r).j.nx),pt b 0] 133,pk (aG a (br r).m),pk (bH b (br r).q)] (by skip;kernel_rfl) (rr (λ_=>[(1,.c [0,1,2] [0,1,2,3] (Su g a b (br r) (qG d h t) h))]) (λe=>[(2,(e 1).val 0),(3,i6 0)]) [2,3] (λe L=>((L.set 0 (ob g #[pt a 0,iN ((cX (br r)).1.j.A),iN ((cX (br r)).1.j.fr),iN ((cX (br r)).1.j.tg),iN ((cX (br r)).1.j.nx),pt b 0] 133)).set 1 ((pk (aG a (cX (br r)).1.m)))).set 2 ((pk (bH b (cX (br r)).1.q)))++[bc ((e 1).val 0) ((cX (br r)).2)]) λe=>lf (.l [] [] [((e 1).val 0),(e 1).val 0]) [0,1,2,3] [] []))))))
theorem Sx(g a b:Nat)(r:Rp)(e:aO r)(h:r.j.A≠0)(x:r.j.nx<eJ r.j.A r.m.B r.m.M r.m.C)(m:kQ r.m (br r).j=false):aa ZJ 165 #[pt g 0] [pk (ar g a b r)] [0] (λE=>[pk (ar g a b (br r)),bc (E.val 0) ([])]) (λE=> .tuple #[(E.val 0),i6 0]):=aa.pkW (n:=1) (N:=λE=>[bc (E.val 0) ([])]) (enters_of Tryz.func165 Kr rfl) λL k=>by
 obtain⟨rfl⟩:=k;refine⟨[0,1,2],λ_=>[ob g #[pt a 0,iN r.j.A,iN r.j.fr,iN r.j.tg,iN (r.j.nx+1),pt b 0] 133,pk (aG a r.m),pk (bH b r.q)],?_,rfl,λE=>⟨rfl,rfl,rfl⟩⟩;have d:=e.m;have y:=e.j;have t:=e.n;have v:=d.O;have o:=d.ly;have p:=d.np;have f:r.j.A=1∨r.j.A=2:=tq e h;have q:r.j.nx≤4096:=FT e;refine fG Tryz.func165 λw u=>r0 [] [(2,.slice none 0 0),(3,i6 0)] [] (r0 [(1,.c [0,1,2] [1,2] (mY g a b r))] [(6,.bool (!((r.j.A:Int) != 0)))] [] ?_);have i:(!((r.j.A:Int) != 0))=false:=by(rw[bne,bz h];rfl)
 exact cF (!((r.j.A:Int) != 0)) i (rs [(4,.l 0),(5,ad r.j.nx 1),(9,.s 0)] 0 (ob g #[pt a 0,iN r.j.A,iN r.j.fr,iN r.j.tg,iN (r.j.nx+1),pt b 0] 133) (rT [(3,.l 0),(7,.l 0),(8,.c [1] [1] (jv a r.m d)),(9,.c [] [] (aa.v ((FN r.m d r.j.A r.j.fr r.j.tg (r.j.nx+1) f)) λ_=>ALca Value.bool (show(kQ r.m ⟨r.j.A,r.j.fr,r.j.tg,(r.j.nx+1)⟩)=false from(by exact m))))] 26 (r0 [] [(2,.slice none 0 0),(3,i6 0)] [2,3] (cz jx (lf (.l [] [] [.slice none 0 0]) [0,1,2,3] [] [])))))
theorem Sz(g a b:Nat)(r:Rp)(f:aO r)(c:r.j.A≠0)(e:r.j.nx<eJ r.j.A r.m.B r.m.M r.m.C):aa ZJ 165 #[pt g 0] [pk (ar g a b r)] [0] (λE=>[pk (ar g a b (eR r).1),bc (E.val 0) (eR r).2]) (λE=> .tuple #[E.val 0,i6 0]):=by
 unfold eR;cases d:kQ r.m (br r).j with
 | true=>exact Sw g a b r f c e d
 | false=>exact Sx g a b r f c e d
theorem SA(a b:Nat):decide ((a:Int)<(b:Int))=decide (a<b):=by
 by_cases h:a<b
 ·rw[cd h,cd Om]
 ·rw[a8 h,a8 Om]
structure Bk where
 l:Nat
 a:Nat
deriving DecidableEq
def bg:Bk:=⟨0,0⟩
def z9(x:Bk):List Value:=[iN x.l,iN x.a]
def lG:Kd ZJ Bk:=⟨z9,[i6 0,i6 0],292,290,bg,2,λ_=>rfl,rfl,λ_=>rfl,eh.mk' Kr Kr rfl⟩
abbrev kR(v:Value)(xs:List Bk):aA:= .p (aq z9 ([i6 0,i6 0]) 290 v xs)
structure iZ (lim ev:Nat):Prop where
 l1:1≤lim
 l2:lim≤65536
 e1:1≤ev
 e2:ev≤65536
structure ff (ev:Nat) (l a:Nat):Prop where
 l:l≤65536
 a:a<ev
def ku(n a b:Int):Bool:=decide (a≤n)&&decide (n≤b)
def h8(l e:Int):Bool:=ku l 1 65536&&ku e 1 65536
theorem FY{l e:Int}(h:h8 l e=true): ∃a b:Nat,l=a∧e=b∧iZ a b:=by
 unfold h8 ku at h;simp only[ZR,decide_eq_true_eq] at h;exact⟨l.toNat,e.toNat,by omega,by omega,by omega,by omega,by omega,by omega⟩
theorem iZ.r{a b:Nat}(h:iZ a b):h8 a b=true:=by
 have:=h.l1;have:=h.l2;have:=h.e1;have:=h.e2;unfold h8 ku;simp only[ZR,decide_eq_true_eq];omega
def b6(l n:Nat):Nat:=l+min n (65536-l)
def cY(a l n:Nat):Bool:=decide (l<a)&&decide (a≤b6 l n)
def iF(ev l a:Nat):Nat:=if 1<ev-a then l else l-1
def iG(ev l a:Nat):Nat:=if 1<ev-a then a+1 else 0
theorem FZ{ev l a n:Nat}(h:ff ev l a):ff ev (b6 l n) a:=⟨by have:=h.l;unfold b6;omega,h.a⟩
theorem F0{ev l a:Nat}(h:ff ev l a):ff ev (iF ev l a) (iG ev l a):=by
 have:=h.l;have:=h.a;unfold iF iG
 constructor<;>split<;>omega
theorem wk(n a b:Int):aa ZJ 174 #[i6 n,i6 a,i6 b] [] [] N0 (λ_=> .bool (ku n a b)):=by
 exact fG Tryz.func174 λw c=>r0 [] [(6,.bool false)] [] (r0 [] [(6,.bool ((decide (a≤n))&&(decide (n≤b))))] [6] (ak (.bool ((decide (a≤n))&&(decide (n≤b)))) ab.zero a9 [] [] []))
theorem Aa(l e:Int):aa ZJ 136 #[.agg #[i6 l,i6 e]] [] [] N0 (λ_=> .bool (h8 l e)):=by
 exact fG Tryz.func136 λw b=>ra (λa=>[(1,pt (B0 a) 0),(2,.bool false)]) (λa=>[ob (B0 a) #[i6 l,i6 e] 27]) λa=>r0 [(1,.l 0),(2,.c [] [] (wk l 1 65536)),(5,.l 0),(6,.c [] [] (wk e 1 65536))] [(2,.bool ((ku l 1 65536)&&(ku e 1 65536)))] [2] (ak (.bool ((ku l 1 65536)&&(ku e 1 65536))) ab.zero a9 [] [] [])
theorem SB(a b:Nat)(h:iZ a b):aa ZJ 136 #[.agg #[iN a,iN b]] [] [] N0 (λ_=> .bool true):=by
 have c:=Aa a b;rwa [h.r] at c
theorem F1(d b l a:Nat)(f:iZ d b)(g:ff b l a):aa ZJ 260 #[.agg #[iN l,iN a],.agg #[iN d,iN b]] [] [] N0 (λ_=> .bool true):=by
 have i:=g.l;have j:=g.a;have k:=f.e2;exact fG Tryz.func260 λw h=>ra (λe=>[(2,pt (B0 e) 0),(3,pt (B1 e) 0),(4,.bool false)]) (λe=>[ob (B0 e) #[iN l,iN a] 290,ob (B1 e) #[iN d,iN b] 27]) λe=>r0 [(0,.m (ls 1 ([iN d,iN b]))),(1,.c [] [] (SB d b f)),(4,.m (ld 0 (iN l))),(5,.c [] [] (wk (l:Int) 0 65536)),(9,.m (ld 0 (iN a))),(11,.m (ld 1 (iN b))),(12,sI (b:Int) (1) Om),(13,.c [] [] (wk (a:Int) 0 ((b:Int)-1)))] [(4,.bool ((ku (l:Int) 0 65536)&&(ku (a:Int) 0 ((b:Int)-1))))] [4] (ak (.bool ((ku (l:Int) 0 65536)&&(ku (a:Int) 0 ((b:Int)-1)))) ab.zero (by exact ALca Value.bool (by unfold ku;simp only[ZR,decide_eq_true_eq];omega)) [] [] [])
theorem F2(d f l a n:Nat)(g:iZ d f)(i:ff f l a)(o:n≤65536):aa ZJ 237 #[.agg #[iN l,iN a],.agg #[iN d,iN f],iN n] [] [] N0 (λ_=> .tuple #[.agg #[iN (b6 l n),iN a],.bool (cY d l n)]):=by
 have k:=i.l;have h:=g.l2;refine fG Tryz.func237 λw j=>ra (λe=>[(3,pt (B0 e) 0),(4,pt (B1 e) 0),(6,pt (B2 e) 0),(7,.bool false)]) (λe=>[ob (B0 e) #[iN l,iN a] 290,ob (B1 e) #[iN d,iN f] 27,ob (B2 e) #[i6 0,i6 0] 290]) λe=>r0 [(0,.l 0),(1,.l 1),(2,.c [] [] (F1 d f l a g i))] [(16,.bool (decide ((n:Int)<0)))] [] ?_;have h:(decide ((n:Int)<0))=false:=by exact a8 Om
 exact cF (decide ((n:Int)<0)) h (r0 [(1,.l 0)] [(8,iN l)] [] (rs [(1,.l 0),(4,.l 0),(5,sI 65536 ((l:Int)) Om),(6,.t (tv (Builtin.min_ #[3,3] 3 #[iN n,i6 (65536-(l:Int))]) (λ_=>J0 _ _ _ _))),(7,.t (tv (av .add 3 (.tmp 21) (.tmp 26) (iN l) (i6 (min (n:Int) (65536-(l:Int))))) (λ_=>dN (b:=((b6 l n:Nat):Int)) (rE Om Om) (by unfold b6;omega)))),(9,.s 0)] 0 (ob (B0 e) #[iN (b6 l n),iN a] 290) (rr (λ_=>[(0,.m (ls 0 ([iN (b6 l n),iN a]))),(3,.m (ld 1 (iN d))),(7,.m (ld 0 (iN (b6 l n)))),(9,.m (ld 1 (iN d))),(12,.s 2)]) (λ_=>[(7,.bool ((decide ((l:Int)<(d:Int)))&&(decide ((d:Int)≤((b6 l n:Nat):Int)))))]) [7] (λ_ L=>L.set 2 (ob (B2 e) #[iN (b6 l n),iN a] 290)) λp=>ak (.tuple #[.agg #[iN (b6 l n),iN a],.bool ((decide ((l:Int)<(d:Int)))&&(decide ((d:Int)≤((b6 l n:Nat):Int))))]) ab.zero (by unfold cY;rw[←zS,←SA]) [] [] [2])))
theorem SC(g e l a:Nat)(h:iZ g e)(j:ff e l a):aa ZJ 244 #[.agg #[iN l,iN a],.agg #[iN g,iN e],i6 1] [] [] N0 (λ_=> .agg #[iN (iF e l a),iN (iG e l a)]):=by
 have o:=j.l;have p:=j.a;have q:=h.e2;have r:=h.e1;refine fG Tryz.func244 λw n=>ra (λf=>[(3,pt (B0 f) 0),(4,pt (B1 f) 0),(6,pt (B2 f) 0)]) (λf=>[ob (B0 f) #[iN l,iN a] 290,ob (B1 f) #[iN g,iN e] 27,ob (B2 f) #[i6 0,i6 0] 290]) λf=>rF [(0,.l 0),(1,.l 1),(2,.c [] [] (F1 g e l a h j))] 15 (r0 [(1,.l 1),(3,.l 0),(4,.t (tb (a:=iN e) (b:=iN a) λ_ _ _ _=>mi (a:=e) (b:=a) Om Om))] [(7,iN (e-a))] [] (r0 [] [(24,.bool (decide (1<((e-a:Nat):Int))))] [] ?_));refine cj 1 ((e-a:Nat):Int) (λk i=>?_) λk i=>?_
 ·exact rr (λ_=>[(1,.l 0),(3,ad a 1),(5,.s 0)]) N0 [] (λ_ L=>L.set 0 (ob (B0 f) #[iN l,iN (a+1)] 290)) λu=>rs [(0,.l 0),(1,.s 2)] 2 (ob (B2 f) #[iN l,iN (a+1)] 290) (ak (.agg #[iN l,iN (a+1)]) ab.zero (by unfold iF iG;(rw[ALifp (show 1<e-a by omega),ALifp (show 1<e-a by omega)])) [] [] [2])
 exact r0 [(2,.t (tv (av .sub 3 (.tmp 31) (.tmp 32) (i6 1) (iN (e-a))) (λ_=>dN (b:=0) (rG Om Om) Om)))] [(2,i6 0)] [2] (rs [(2,.l 1),(3,.t (tv (av .rem 3 (.tmp 34) (.tmp 36) (i6 0) (iN e)) (λ_=>dN (b:=0) (n8 (a:=0) (d:=e) Om) (by simp)))),(5,.s 0)] 0 (ob (B0 f) #[iN l,i6 0] 290) (rs [(1,.m (ld 0 (iN l))),(2,sI (l:Int) (1) Om),(5,.m (ld 1 (iN e))),(6,.t (tv (av .quo 3 (.tmp 42) (.tmp 44) (i6 0) (iN e)) (λ_=>dN (b:=0) (oT (a:=0) (d:=e) Om Om) (by simp)))),(8,sI ((l:Int)-1) (0) Om),(9,.t (tv (Builtin.max_ #[3,3] 3 #[i6 0,i6 (((l:Int)-1)-0)]) (λ_=>se _ _ _ _))),(11,.s 0)] 0 (ob (B0 f) #[i6 (max 0 (((l:Int)-1)-0)),i6 0] 290) (rs [(0,.l 0),(1,.s 2)] 2 (ob (B2 f) #[i6 (max 0 (((l:Int)-1)-0)),i6 0] 290) (ak (.agg #[i6 (max 0 (((l:Int)-1)-0)),i6 0]) ab.zero (by unfold iF iG;(rw[ALifn (show ¬1<e-a by omega),ALifn (show ¬1<e-a by omega)];exact ALca (λz:Int=>Value.agg #[i6 z,i6 0]) Om)) [] [] [2]))))
theorem F3(d b l a:Nat)(f:iZ d b)(g:ff b l a):aa ZJ 208 #[.agg #[iN l,iN a],.agg #[iN d,iN b]] [] [] N0 (λ_=> .agg #[iN (iF b l a),iN (iG b l a)]):=by
 exact fG Tryz.func208 λw h=>ra (λe=>[(2,pt (B0 e) 0),(3,pt (B1 e) 0),(4,pt (B2 e) 0)]) (λe=>[ob (B0 e) #[iN l,iN a] 290,ob (B1 e) #[iN d,iN b] 27,ob (B2 e) #[i6 0,i6 0] 290]) λe=>rs [(0,.l 0),(1,.l 1),(2,.c [] [] (SC d b l a f g)),(3,.s 2)] 2 (ob (B2 e) #[iN (iF b l a),iN (iG b l a)] 290) (lf ab.zero [] [] [2])
structure Re where
 s:Nat
 t:Nat
 k:Nat
 i:Nat
 o:Nat
deriving DecidableEq
def tt:Re:=⟨0,0,0,0,0⟩
def qJ(x:Re):List Value:=[iN x.s,iN x.t,iN x.k,iN x.i,iN x.o]
def iH:Kd ZJ Re:=⟨qJ,[i6 0,i6 0,i6 0,i6 0,i6 0],41,59,tt,5,λ_=>rfl,rfl,λ_=>rfl,eh.mk' Kr Kr rfl⟩
abbrev iI(v:Value)(xs:List Re):aA:= .p (aq qJ ([i6 0,i6 0,i6 0,i6 0,i6 0]) 59 v xs)
def a1{α:Type}(p:α→Bool):List α→Nat
 | []=>0
 | x::xs=>bif p x then 0 else a1 p xs+1
def iJ{α:Type}(p:α→Bool)(xs:List α):Int:=if a1 p xs=xs.length then -1 else(a1 p xs:Int)
theorem pC{α:Type}(p:α→Bool): ∀xs:List α,a1 p xs≤xs.length
 | []=>ZZ _
 | x::xs=>by
  unfold a1;cases p x with
  | true=>exact ZX _
  | false=>exact Z7 (pC p xs)
theorem F4{α:Type}{p:α→Bool}{d:α}: ∀{xs:List α},(∀j,j<xs.length→p (xs.getD j d)=false)→a1 p xs=xs.length
 | [],_=>rfl
 | x::xs,h=>by
  unfold a1;rw[show p x=false from h 0 (aaB _),ALcf,F4 (d:=d) λj a=>h (j+1) (aav a)];rfl
theorem F5{α:Type}{p:α→Bool}{d:α}: ∀{xs:List α} {k:Nat},k<xs.length→(∀j,j<k→p (xs.getD j d)=false)→p (xs.getD k d)=true→a1 p xs=k
 | [],k,b,_,_=>by cases b
 | x::xs,0,_,_,a=>by
  unfold a1;rw[show p x=true from a];rfl
 | x::xs,k+1,b,h,a=>by
  unfold a1;rw[show p x=false from h 0 (aaB _),ALcf,F5 (d:=d) (Nat.lt_of_succ_lt_succ b) (λj c=>h (j+1) (aav c)) a]
theorem F6{α:Type}{p:α→Bool}{d:α}{xs:List α}(h: ∀j,j<xs.length→p (xs.getD j d)=false):iJ p xs= -1:=by unfold iJ;rw[ALifp (F4 h)]
theorem F7{α:Type}{p:α→Bool}{d:α}{xs:List α}{k:Nat}(a:k<xs.length)(h: ∀j,j<k→p (xs.getD j d)=false)(h1:p (xs.getD k d)=true):iJ p xs=(k:Int):=by
 unfold iJ;rw[F5 a h h1,ALifn Om]
def c6(x:Re):Bool:= !((x.k:Int)==2)
structure Lg where
 l:List Re
 K:Nat
 next:Nat
 lost:Bool
structure gj (g:Lg):Prop where
 l:g.l.length≤g.K
 r1:1≤g.K
 r:g.K≤256
 n:g.next≤1000000000
abbrev az(g:Nat)(c:Lg)(L:ah):Prop:=∃v:Value,L=[ob g #[v,iN c.K,iN c.next,.bool c.lost] 124,iI v c.l]
def qK(x:Re)(n:Nat):Re:={x with s:=n}
def bT(c:Lg)(x:Re):Lg:=
 if c.l.length=c.K then
  (if c6 x=true∨a1 c6 c.l=c.l.length then{c with next:=c.next+1,lost:=true}
   else{c with l:=c.l.eraseIdx (a1 c6 c.l)++[qK x c.next],next:=c.next+1,lost:=true})
 else{c with l:=c.l++[qK x c.next],next:=c.next+1}
def F8(c:Lg)(x:Re):Bool:= !(decide (c.l.length=c.K)&&(c6 x||decide (a1 c6 c.l=c.l.length)))
def nI(c:Lg):Lg:={c with l:=[],lost:=false}
def pD(room:Nat):Lg:=⟨[],room,1,false⟩
theorem wm(x:Re):aa ZJ 19 #[.agg #[iN x.s,iN x.t,iN x.k,iN x.i,iN x.o]] [] [] N0 (λ_=> .bool ((x.k:Int)==2)):=by
 exact fG Tryz.func19 λw cs=>ra (λa=>[(1,pt (B0 a) 0),(2,.bool false)]) (λa=>[ob (B0 a) #[iN x.s,iN x.t,iN x.k,iN x.i,iN x.o] 59]) λa=>r0 [(1,.l 0)] [(2,.bool ((x.k:Int)==2))] [2] (lf ab.zero [] [] [])
theorem SD(x:Re):aa ZJ 277 #[.agg #[iN x.s,iN x.t,iN x.k,iN x.i,iN x.o]] [] [] N0 (λ_=> .bool (c6 x)):=by
 exact fG Tryz.func277 λw cs=>ra (λa=>[(1,pt (B0 a) 0),(2,.bool false)]) (λa=>[ob (B0 a) #[iN x.s,iN x.t,iN x.k,iN x.i,iN x.o] 59]) λa=>r0 [(0,.l 0),(1,.c [] [] (wm x))] [(2,.bool (!((x.k:Int)==2)))] [2] (ak (.bool (!((x.k:Int)==2))) ab.zero a9 [] [] [])
theorem SE(v:Value)(xs:List Re)(l:xs.length≤1000000):aa ZJ 276 #[v,.func (.func 277) #[] #[]] [.p (aK qJ v xs)] [] N0 (λ_=>i6 (iJ c6 xs)):=by
 refine fO Tryz.func276 0 rfl λe a=>fG Tryz.func276 λw cs=>r0 [] [(4,i6 0)] [] (r0 [(1,eG a.1 0)] [(7,iN xs.length),(8,i6 0)] [] ?_);refine lq (λk=>k≤xs.length∧(∀j,j<k→c6 (xs.getD j tt)=false)) (λk=>[(8,iN k)]) (λ_ L=>L) (λk=>xs.length-k) 0 ⟨by omega,(λ_ h=>absurd h (aax _))⟩ Kr Kr (λk ⟨i,d⟩=>?_);refine r0 [] [(9,.bool (decide ((k:Int)<(xs.length:Int))))] [] ?_;refine cj (k:Int) (xs.length:Int) (λf b=>?_) λf b=>?_
 ·refine r0 [] [(5,iN k)] [] (r0 [(3,fx a.1 0 k 5),(4,nm iH a.1 0 k 0 5),(5,.c [] [] (SD (xs.getD k tt)))] [(16,.bool (c6 (xs.getD k tt)))] [] ?_);refine cB (c6 (xs.getD k tt)) (λg=>?_) λg=>?_
  ·exact r0 [] [(4,iN k)] [] (ak (iN k) ab.zero (by(rw[F7 Om d As];done)) [] [(0,0)] [])
  exact r0 [(0,ad k 1)] [(8,iN (k+1))] [8] (le (k+1) ⟨by omega,zV d As⟩ Om Kr [0] Kr)
 obtain rfl:xs.length=k:=by omega
 exact lx (r0 [] [(4,i6 (-1))] [] (ak (i6 (-1)) ab.zero (by(rw[F6 d];done)) [] [(0,0)] []))
theorem F9(g:Nat)(c:Lg):aa ZJ 20 #[pt g 0] [pk (az g c)] [0] (λ_=>[pk (az g c)]) (λ_=>iN c.l.length):=aa.pkZ Tryz.func20 λL a=>by
 obtain⟨v,rfl⟩:=a;refine⟨[1],λ_=>[iI v c.l],?_,rfl,λE=>⟨rfl,rfl,⟨_,rfl⟩⟩⟩;exact fG Tryz.func20 λw cs=>r0 [] [(2,i6 0)] [] (r0 [(3,.l 0),(4,fw iH v c.l 1)] [(2,iN c.l.length)] [2] (lf ab.zero [1] [(0,0)] []))
theorem Ab(g:Nat)(v:Value)(l:List Re)(room next:Nat)(lost:Bool)(d:l.length≤1000000):aa ZJ 258 #[pt g 0] [ob g #[v,iN room,iN next,.bool lost] 124,.p (aK qJ v l)] [] N0 (λ_=>i6 (iJ c6 l)):=by
 exact fO Tryz.func258 1 rfl λa b=>fG Tryz.func258 λw cs=>r0 [] [(2,i6 0)] [] (r0 [(3,.l 0),(4,.c [1] [] (aa.at (rd':=[.c a]) (SE v l Om) (eD b (λ_ h=>h))))] [(2,i6 (iJ c6 l))] [2] (lf ab.zero [] [(0,0),(1,1)] []))
theorem SF(g:Nat)(v:Value)(l:List Re)(room next:Nat)(lost:Bool)(b:l.length≤1000000)(h:a1 c6 l<l.length):aa ZJ 258 #[pt g 0] [ob g #[v,iN room,iN next,.bool lost] 124,.p (aK qJ v l)] [] N0 (λ_=>iN (a1 c6 l)):=by
 have a:=Ab g v l room next lost b
 unfold iJ at a;rwa [ALifn Om] at a
theorem SG(g:Nat)(v:Value)(l:List Re)(room next:Nat)(lost:Bool)(b:l.length≤1000000)(h:a1 c6 l=l.length):aa ZJ 258 #[pt g 0] [ob g #[v,iN room,iN next,.bool lost] 124,.p (aK qJ v l)] [] N0 (λ_=>i6 (-1)):=by
 have a:=Ab g v l room next lost b
 unfold iJ at a;rwa [ALifp h] at a
theorem SH(room:Nat)(h1:1≤room)(h2:room≤256):aa ZJ 139 #[iN room] [] [] (λE=>[ob (E.y 0) #[.slice none 0 0,iN room,i6 1,.bool false] 124]) (λE=> .tuple #[pt ((E.y 0)) 0,i6 0]):=by
 refine fG Tryz.func139 λw cs=>r0 [] [(2,.pointer none),(3,i6 0)] [] (r0 [] [(9,.bool ((decide ((room:Int)<1))||(decide (256<(room:Int)))))] [] ?_);have b:((decide ((room:Int)<1))||(decide (256<(room:Int))))=false:=by rw[Z1];exact⟨a8 Om,a8 Om⟩
 exact cF ((decide ((room:Int)<1))||(decide (256<(room:Int)))) b (rr N0 (λa=>[(2,pt (B2 a) 0),(3,i6 0)]) [2,3] (λa L=>L++[ob (B2 a) #[.slice none 0 0,iN room,i6 1,.bool false] 124]) λa=>lf (.l [(a 2).y 0] [] []) [0] [] [])
theorem Ad{α:Type}{en:α→List Value}{z:List Value}{T:TypeId}{S:ah→Prop}{L:ah}{ds:List ay}(b:S (L++[.p (aq en z T (.slice none 0 0) ([]:List α))]))(h:bq L ds): ∃a,bq [pk S] a∧a.flatten=ds.flatten:=
 ⟨[ds.flatten],⟨⟨_,ds++[[]],b,kA h ⟨aq.nil none,trivial⟩,by simp⟩,trivial⟩,by simp⟩
theorem SI(room:Nat)(h1:1≤room)(h2:room≤256):aa ZJ 139 #[iN room] [] [] (λE=>[pk (az (E.y 0) (pD room))]) (λE=> .tuple #[pt (E.y 0) 0,i6 0]):=(SH room h1 h2).outs λE b a=>Ad ⟨_,rfl⟩ a
theorem SJ(g:Nat)(c:Lg):aa ZJ 167 #[pt g 0] [pk (az g c)] [0] (λ_=>[pk (az g (nI c))]) (λ_=>iN c.l.length):=aa.pkZ Tryz.func167 λL a=>by
 obtain⟨v,rfl⟩:=a;refine⟨[0,1],λ_=>[ob g #[.slice none 0 0,iN c.K,iN c.next,.bool false] 124,iI (.slice none 0 0) ([])],?_,rfl,λE=>⟨rfl,rfl,⟨_,rfl⟩⟩⟩;exact fG Tryz.func167 λw cs=>r0 [] [(2,i6 0)] [] (r0 [(3,.l 0),(4,fw iH v c.l 1)] [(3,iN c.l.length)] [] (rs [(4,.s 0),(7,.s 0)] 0 (ob g #[.slice none 0 0,iN c.K,iN c.next,.bool false] 124) (r0 [] [(2,iN c.l.length)] [2] (cz iH (lf ab.zero [0,2] [] [])))))
section
open Go.Lib
theorem Ga{P:Program}{p:Array Oper}{o:Oper}{a:Act}{w:World}{K:Act→World→Prop}{Q:Exit→Act→World→Prop}{E:Prop}
  (B:o.guard=none) (s x:Operand) (t:TypeId) (v:o.op=Op.call {callee:=Callee.builtin Builtin.append,args:=#[s,x],argTypes:=#[t,t]})
  (e:TypeId) (i:TypeInfo) (b:Nat) (h1:P.underlying t=some (.slice e)) (h2:P.info? e=some i) (z:i.size=b)
  (g n f:Nat) (d:Array Value) (r:w.heap[g]? =some (.cells d e (0,0))) (hs:a.eval s= .slice (some ⟨g,0,none⟩) n f)
  (ad:Addr) (m c:Nat) (news:List Value) (F:a.eval x= .slice (some ad) m c) (C:news.length=m*b) (A: ∀j u,news[j]? =some u→w.cell? (ad.add j)=some u) (q: ∀u∈news,u.oneCell'=true)
  (h:n+m≤f) (k:n*b+news.length≤d.size)
  (y:K (a.put o.dst (.slice (some ⟨g,0,none⟩) (n+m) f)) (w.setRow g (d.toList.take (n*b)++news++d.toList.drop (n*b+news.length)).toArray)):
  if Region.wanted o (yielded p a.tmps)=true then Oper.wp P o a w K Q else E:=by
 have D:Region.wanted o (yielded p a.tmps)=true:=by simp [Region.wanted,B]
 rw[ALifp D];subst z;have l:=run_append_room (P:=P) w t o.type e i h1 h2 g n f d r ad m c news C A q h k;unfold Oper.wp;simp [execOp,v,resolve,invoke,builtin,hs,F,l,Result.andThen];rw[ZP] at y;exact y
theorem Gb{P:Program}{T' e y t:TypeId}{z:List Value}{w:World}{g off m c:Nat}{cs:Array Value}(p:eh P T' e z)(q:w.heap[g]? =some (.cells cs t (0,0)))(B:0<m)(A:off+m*z.length≤cs.size)(h1: ∀u∈z,u.oneCell'=true):
  (Builtin.clear_ #[T'] y #[.slice (some ⟨g,off,none⟩) m c]).run P w= .ok (.tuple #[]) (w.setRow g (cs.toList.take off++(ZK m z).flatten++cs.toList.drop (off+m*z.length)).toArray):=by
 obtain⟨v,⟨i,n,s,x,C,b,r⟩,o⟩:=p;have j:0<n.cells.size:=by rw[←Array.length_toList,b];exact o
 have h:(zeroValue e).run P w= .ok n w:=by simp [zeroValue,typeInfo,s,x]
 have d:=rZ z m;have a:=run_storeCells_at P g off t (ZK m z).flatten 0 cs w q (by rw[d];omega) (λu f=>by
  obtain⟨l,d,f⟩:=List.mem_flatten.1 f;rw[List.eq_of_mem_replicate d] at f;exact h1 u f)
 simp only[Nat.add_zero] at a;obtain⟨m,rfl⟩: ∃k,m=k+1:=⟨m-1,by omega⟩;rw[d] at a;simp [Builtin.clear_,run_underlying v,h,xN _ _ j,b,a]
set_option maxRecDepth 1000000 in
set_option maxHeartbeats 1000000 in
theorem SK(g n b i j:Nat)(w:World)(S:i<j)(R:j≤n)(H:n≤b)(a:Array Value)(x:w.heap[g]? =some (.cells a 59 (0,0)))(news:List Value)(d:news.length=(n-(j))*5)(m: ∀u∈news,u.oneCell'=true)(o: ∀t u,news[t]? =some u→w.cell? ⟨g,(j)*5+t,none⟩=some u)(k:i*5+news.length≤a.size)(C:n*5≤a.size):Calls ZJ 259 #[.slice (some ⟨g,0,none⟩) n b,.int .i64 (i:Int),.int .i64 (j:Int)] w λe w'=>e= .returned (.slice (some ⟨g,0,none⟩) (n-(j-i)) b)∧w'=(w.drew.setRow g (a.toList.take (i*5)++news++a.toList.drop (i*5+news.length)).toArray).setRow g ((a.toList.take (i*5)++news++a.toList.drop (i*5+news.length)).toArray.toList.take ((i+(n-j))*5)++(ZK (n-(i+(n-j))) iH.z).flatten++(a.toList.take (i*5)++news++a.toList.drop (i*5+news.length)).toArray.toList.drop ((i+(n-j))*5+(n-(i+(n-j)))*5)).toArray:=by
 have F:Tryz.prog.follows .mixedOrders=true:=by kernel_rfl
 have P:i≤b:=by omega
 have Q:j≤b:=by omega
 obtain⟨V,Z,B,T,D,U,N⟩:=iH.hT.hi;obtain⟨A,hA,s⟩: ∃A:Addr,(if b=j then some (⟨g,0,none⟩:Addr) else some ⟨g,(j)*5,none⟩)=some A∧Hid (∀t u,news[t]? =some u→w.drew.cell? (A.add t)=some u):=by
  by_cases h:b=j
  ·refine⟨⟨g,0,none⟩,by simp [h],λt u v=>?_⟩;have K:news.length=0:=by rw[d];omega
   rw[List.length_eq_zero_iff.1 K] at v;simp at v
  ·exact⟨⟨g,(j)*5,none⟩,by simp [h],λt u v=>by rw[Addr.add_lit];exact o t u v⟩
 have W:Hid (news.length=(n-(j))*5):=d;have X:Hid (∀u∈news,u.oneCell'=true):=m;have Y:Hid (i*5+news.length≤a.size):=k;have I:Hid (w.drew.heap[g]? =some (.cells a 59 (0,0))):=x;obtain⟨p,q⟩: ∃p,p=w.drew.setRow g (a.toList.take (i*5)++news++a.toList.drop (i*5+news.length)).toArray:=⟨_,rfl⟩;have G:Hid (p=w.drew.setRow g (a.toList.take (i*5)++news++a.toList.drop (i*5+news.length)).toArray):=q;obtain⟨c,f⟩: ∃c,c=(a.toList.take (i*5)++news++a.toList.drop (i*5+news.length)).toArray:=⟨_,rfl⟩;have y:c.size=a.size:=by
  rw[f];simp only[aao,ZL,ZO,ZV,Array.length_toList];omega
 have l:p.heap[g]? =some (.cells c 59 (0,0)):=by rw[q,←f];exact setRow_heap _ g a _ _ _ I.out
 obtain⟨z,r⟩: ∃z,z=p.setRow g (c.toList.take ((i+(n-j))*5)++(ZK (n-(i+(n-j))) iH.z).flatten++c.toList.drop ((i+(n-j))*5+(n-(i+(n-j)))*5)).toArray:=⟨_,rfl⟩;have O: ∀J,(Builtin.clear_ #[41] J #[.slice (some ⟨g,(i+(n-j))*5,none⟩) (n-(i+(n-j))) (b-(i+(n-j)))]).run ZJ p= .ok (.tuple #[]) z:=λJ=>by
  rw[r];exact Gb iH.hT l Om (by show _+_*5≤_;rw[y];omega) (λu v=>by
   simp only[iH,aaf,Z0,or_false] at v;rcases v with rfl | rfl | rfl | rfl | rfl<;>rfl)
 have L:Hid (z=p.setRow g (c.toList.take ((i+(n-j))*5)++(ZK (n-(i+(n-j))) iH.z).flatten++c.toList.drop ((i+(n-j))*5+(n-(i+(n-j)))*5)).toArray):=r;have M:Hid (c=(a.toList.take (i*5)++news++a.toList.drop (i*5+news.length)).toArray):=f;clear q o d m k x r l y f
 go_enter Tryz.func259,Tryz.ntmps259
 go_wp2_with fail
 go_region_law_o (refine Ga rfl (.tmp 22) (.tmp 25) 41 rfl 59 V 5 iH.hT.ht B D g i b a I.out (by simp [Act.eval,Act.put]) A (n-(j)) (b-(j)) news (by simp [Act.eval,Act.put]) W.out s.out X.out Om Y.out ?_;rw[←G.out])
 go_wp2
 go_ret
 refine⟨by rw[show n-(j-i)=i+(n-j) by omega];rfl,?_⟩;rw[L.out,G.out,M.out]
theorem SL(A B C Z a:List Value)(h:B.length=a.length):
  ((A++(B++(C++Z))).take A.length++C++(A++(B++(C++Z))).drop (A.length+C.length)).take (A.length+C.length)++a++((A++(B++(C++Z))).take A.length++C++(A++(B++(C++Z))).drop (A.length+C.length)).drop (A.length+C.length+a.length)=A++C++(a++Z):=by
 have b:(A++(B++(C++Z))).take A.length=A:=List.take_left;have c:(A++(B++(C++Z))).drop (A.length+C.length)=(B++C).drop C.length++Z:=by
  rw[aaq,aag Om,aaw,aah,←ZP B,aab (by rw[ZL];omega)]
 have d:((B++C).drop C.length).length=a.length:=by rw[ZV,ZL];omega
 rw[b,c];have e:(A++C++((B++C).drop C.length++Z)).take (A.length+C.length)=A++C:=List.take_left' (by rw[ZL]);have f:(A++C++((B++C).drop C.length++Z)).drop (A.length+C.length+a.length)=Z:=by
  rw[←ZP (A++C)];exact List.drop_left' (by rw[ZL,ZL,d])
 rw[e,f,ZP (A++C)]
theorem Gc{P:Program}{f:FuncId}{α:Type}(K:Kd P α){v:Value}{xs:List α}{i:Nat}(N:Enters P f)(C:i<xs.length)
  (o: ∀(g k:Nat) (w:World) (a:Array Value) (news:List Value),xs.length≤k→w.heap[g]? =some (.cells a K.T (0,0))→news.length=(xs.length-(i+1))*K.k→(∀u∈news,u.oneCell'=true)→(∀t u,news[t]? =some u→w.cell? ⟨g,(i+1)*K.k+t,none⟩=some u)→i*K.k+news.length≤a.size→xs.length*K.k≤a.size→
   Calls P f #[.slice (some ⟨g,0,none⟩) xs.length k,.int .i64 (i:Int),.int .i64 ((i+1:Nat):Int)] w λe w'=>e= .returned (.slice (some ⟨g,0,none⟩) (xs.length-(i+1-i)) k)∧w'=(w.drew.setRow g (a.toList.take (i*K.k)++news++a.toList.drop (i*K.k+news.length)).toArray).setRow g ((a.toList.take (i*K.k)++news++a.toList.drop (i*K.k+news.length)).toArray.toList.take ((i+(xs.length-(i+1)))*K.k)++(ZK (xs.length-(i+(xs.length-(i+1)))) K.z).flatten++(a.toList.take (i*K.k)++news++a.toList.drop (i*K.k+news.length)).toArray.toList.drop ((i+(xs.length-(i+1)))*K.k+(xs.length-(i+(xs.length-(i+1))))*K.k)).toArray):
  aa P f #[v,.int .i64 (i:Int),.int .i64 ((i+1:Nat):Int)] [sl K v xs] [0] (λE=>[sl K (E.val 0) (xs.eraseIdx i)]) (λE=>E.val 0):=by
 refine⟨N,λw cs R Q=>?_⟩;obtain⟨bs,cs,rfl,y,l⟩:=eA R;have l:=oL l;subst l;obtain⟨g,r,rfl,rfl⟩: ∃g r,v= .slice (some ⟨g,0,none⟩) xs.length (xs.length+r)∧bs=[(g,.cells (bE (aj K.en xs) K.z r) K.T (0,0))]:=by
  rcases y with⟨rfl,_,_⟩ | h
  ·cases C
  ·exact h
 have m:w.heap[g]? =some (.cells (bE (aj K.en xs) K.z r) K.T (0,0)):=Q.obj (g,_) (by simp);have F:=K.hz
 have hA:(aj K.en (xs.take i)).length=i*K.k:=fS K.hk (by rw[ZO];omega);have hC:(aj K.en (xs.drop (i+1))).length=(xs.length-(i+1))*K.k:=fS K.hk (by rw[ZV]);have hB:(K.en xs[i]).length=K.z.length:=(K.hk _).trans F;have j:(bE (aj K.en xs) K.z r).toList=aj K.en (xs.take i)++(K.en xs[i]++(aj K.en (xs.drop (i+1))++(ZK r K.z).flatten)):=by
  have e:xs=xs.take i++(xs[i]::xs.drop (i+1)):=by rw[←Z4 C,aai]
  have A:aj K.en xs=aj K.en (xs.take i)++(K.en xs[i]++aj K.en (xs.drop (i+1))):=by
   conv=>lhs;rw[e]
   rw[kC];rfl
  unfold bE;show aj K.en xs++_=_;rw[A,ZP,ZP]
 have G:(xs.length-(i+1))*K.k+i*K.k+K.k=xs.length*K.k:=by
  have:xs.length=(xs.length-(i+1))+i+1:=by omega
  conv=>rhs;rw[this]
  rw[Z2,Z2,Nat.one_mul]
 have s:(bE (aj K.en xs) K.z r).size=xs.length*K.k+r*K.k:=by
  rw[←Array.length_toList];unfold bE;rw[ZL,fS K.hk rfl,rZ,←F]
 have B:=o g (xs.length+r) w (bE (aj K.en xs) K.z r) (aj K.en (xs.drop (i+1))) Om m hC (Ck K.one) (λt u H=>by
  have M:(bE (aj K.en xs) K.z r).toList[(i+1)*K.k+t]? =some u:=by
   rw[j,Z3 (by rw[hA,Z2];omega),hA,Z3 (by rw[K.hk,Z2];omega),K.hk,show(i+1)*K.k+t-i*K.k-K.k=t by rw[Z2];omega];have D:=(List.getElem?_eq_some_iff.1 H).1;rw[List.getElem?_append_left D];exact H
  rw[cell_of_row w g _ _ _ _ m,←Array.getElem?_toList];exact M) (by rw[hC,s];omega) (by rw[s];omega)
 refine(callsIn_wide (n:=6)).1 ((callsIn_wide.2 B).mono λe w' O=>?_);obtain⟨rfl,rfl⟩:=O;have q:(xs.eraseIdx i).length=xs.length-1:=by rw[ZW,ALifp C]
 have p:(((bE (aj K.en xs) K.z r).toList.take (i*K.k)++aj K.en (xs.drop (i+1))++(bE (aj K.en xs) K.z r).toList.drop (i*K.k+(aj K.en (xs.drop (i+1))).length)).toArray.toList.take ((i+(xs.length-(i+1)))*K.k)++(ZK (xs.length-(i+(xs.length-(i+1)))) K.z).flatten++((bE (aj K.en xs) K.z r).toList.take (i*K.k)++aj K.en (xs.drop (i+1))++(bE (aj K.en xs) K.z r).toList.drop (i*K.k+(aj K.en (xs.drop (i+1))).length)).toArray.toList.drop ((i+(xs.length-(i+1)))*K.k+(xs.length-(i+(xs.length-(i+1))))*K.k)).toArray=bE (aj K.en (xs.eraseIdx i)) K.z (r+1):=by
  have J:xs.length-(i+(xs.length-(i+1)))=1:=by omega
  have A:(i+(xs.length-(i+1)))*K.k=(aj K.en (xs.take i)).length+(aj K.en (xs.drop (i+1))).length:=by rw[hA,hC,Z2]
  have L:(ZK 1 K.z).flatten=K.z:=by simp
  rw[J,A,←hA,j,Nat.one_mul,L,F,Z9,SL _ _ _ _ _ hB];unfold bE;rw[List.eraseIdx_eq_take_drop_succ,kC,aak,List.flatten_cons]
 rw[p];refine⟨ab.ov _,[[(g,.cells (bE (aj K.en (xs.eraseIdx i)) K.z (r+1)) K.T (0,0))]],rfl,⟨.inr ⟨g,r+1,?_,rfl⟩,trivial⟩,?_⟩
 ·show Value.slice _ _ _=_;rw[q,show xs.length-(i+1-i)=xs.length-1 by omega,show xs.length-1+(r+1)=xs.length+r by omega]
 ·have c:=a6.setRow (W:=w.drew) ((bE (aj K.en xs) K.z r).toList.take (i*K.k)++aj K.en (xs.drop (i+1))++(bE (aj K.en xs) K.z r).toList.drop (i*K.k+(aj K.en (xs.drop (i+1))).length)).toArray m;have d:=a6.setRow (bE (aj K.en (xs.eraseIdx i)) K.z (r+1)) (c.obj _ (List.mem_singleton.2 rfl));exact⟨d.os.trans c.os,d.tape.trans c.tape,d.output.trans c.output,ZS c.size d.size,by simpa using d.obj,λx I=>by simp at I;left;simp [I],by simp,λb y z=>by
   have z:b∉[g]:=by simpa using z
   exact(d.far b (Nat.lt_of_lt_of_le y c.size) z).trans (c.far b y z)⟩
theorem SM(v:Value)(xs:List Re)(i:Nat)(k:i<xs.length):aa ZJ 259 #[v,iN i,iN (i+1)] [iI v xs] [0] (λE=>[iI (E.val 0) (xs.eraseIdx i)]) (λE=>E.val 0):=
 Gc iH (enters_of Tryz.func259 Kr rfl) k λg f w h e b j m l d c a=>SK g xs.length f i (i+1) w (Z8 i) k b h j e m l d c a
end
theorem SN(g:Nat)(c:Lg)(x:Re)(d:gj c)(j:c.l.length≠c.K):aa ZJ 235 #[pt g 0,.agg #[iN x.s,iN x.t,iN x.k,iN x.i,iN x.o]] [pk (az g c)] [0] (λ_=>[pk (az g {c with l:=c.l++[qK x c.next],next:=c.next+1})]) (λ_=> .tuple #[.agg #[iN c.next,iN x.t,iN x.k,iN x.i,iN x.o],.bool true]):=aa.pkZ Tryz.func235 λL e=>by
 obtain⟨v,rfl⟩:=e;refine⟨[0,1],λE=>[ob g #[(E.val 0),iN c.K,iN (c.next+1),.bool c.lost] 124,iI (E.val 0) (c.l++([(⟨c.next,x.t,x.k,x.i,x.o⟩:Re)]))],?_,rfl,λE=>⟨rfl,rfl,⟨_,rfl⟩⟩⟩;have f:=d.l;have k:=d.r;have i:=d.n;exact fG Tryz.func235 λw cs=>ra (λa=>[(3,pt (B0 a) 0),(4,pt (B1 a) 0),(5,.bool false)]) (λa=>[ob (B0 a) #[iN x.s,iN x.t,iN x.k,iN x.i,iN x.o] 59,ob (B1 a) #[i6 0,i6 0,i6 0,i6 0,i6 0] 59]) λa=>rs [(3,.l 0),(5,.s 2)] 2 (ob (B0 a) #[iN c.next,iN x.t,iN x.k,iN x.i,iN x.o] 59) (rs [(3,.l 0),(4,ad c.next 1),(7,.s 0)] 0 (ob g #[v,iN c.K,iN (c.next+1),.bool c.lost] 124) (rF [(3,.l 0),(4,fw iH v c.l 1),(8,.l 0),(9,.t (tk (show Value.bool ((c.l.length:Int)==(c.K:Int))= .bool false from ALca Value.bool (by rw[dj];omega))))] 28 (rr (λb=>[(4,.l 0),(5,.l 2),(6,.m (bs 4 1)),(7,fF iH (v) c.l 1 4 ([(⟨c.next,x.t,x.k,x.i,x.o⟩:Re)])),(10,.m (fT 0 1 (iI ((b 7).val 0) (c.l++([(⟨c.next,x.t,x.k,x.i,x.o⟩:Re)]))) ((b 7).val 0) λbs h=>aq.one ((λ_ h=>h) bs h)))]) N0 [] (λb L=>(L.set 0 (ob g #[(b 7).val 0,iN c.K,iN (c.next+1),.bool c.lost] 124)).set 1 (iI ((b 7).val 0) (c.l++([(⟨c.next,x.t,x.k,x.i,x.o⟩:Re)])))++[ob (B6 b) #[iN c.next,iN x.t,iN x.k,iN x.i,iN x.o] 59]) λb=>rr (λ_=>[(0,.l 2),(1,.s 3)]) (λ_=>[(5,.bool true)]) [5] (λ_ L=>L.set 3 (ob (B1 a) #[iN c.next,iN x.t,iN x.k,iN x.i,iN x.o] 59)) λn=>lf (.l [] [] [(b 7).val 0]) [0,1] [] [3])))
theorem SO(g:Nat)(c:Lg)(x:Re)(b:gj c)(f:c.l.length=c.K)(i:c6 x=true):aa ZJ 235 #[pt g 0,.agg #[iN x.s,iN x.t,iN x.k,iN x.i,iN x.o]] [pk (az g c)] [0] (λ_=>[pk (az g {c with next:=c.next+1,lost:=true})]) (λ_=> .tuple #[.agg #[iN c.next,iN x.t,iN x.k,iN x.i,iN x.o],.bool false]):=aa.pkZ Tryz.func235 λL e=>by
 obtain⟨v,rfl⟩:=e;refine⟨[0,1],λ_=>[ob g #[v,iN c.K,iN (c.next+1),.bool true] 124,iI v c.l],?_,rfl,λE=>⟨rfl,rfl,⟨_,rfl⟩⟩⟩;have j:=b.l;have n:=b.r;have m:=b.n;refine fG Tryz.func235 λw cs=>ra (λa=>[(3,pt (B0 a) 0),(4,pt (B1 a) 0),(5,.bool false)]) (λa=>[ob (B0 a) #[iN x.s,iN x.t,iN x.k,iN x.i,iN x.o] 59,ob (B1 a) #[i6 0,i6 0,i6 0,i6 0,i6 0] 59]) λa=>rs [(3,.l 0),(5,.s 2)] 2 (ob (B0 a) #[iN c.next,iN x.t,iN x.k,iN x.i,iN x.o] 59) (rs [(3,.l 0),(4,ad c.next 1),(7,.s 0)] 0 (ob g #[v,iN c.K,iN (c.next+1),.bool c.lost] 124) (rT [(3,.l 0),(4,fw iH v c.l 1),(8,.l 0),(9,.t (tk (show Value.bool ((c.l.length:Int)==(c.K:Int))= .bool true from ALca Value.bool (by rw[f];exact beq_self_eq_true _))))] 28 (rs [(3,.s 0)] 0 (ob g #[v,iN c.K,iN (c.next+1),.bool true] 124) (r0 [(1,.c [0,1] [] (aa.at (rd':=[ob g #[v,iN c.K,iN (c.next+1),.bool true] 124,iI v c.l]) (Ab g v c.l c.K (c.next+1) true Om) (atS (bM (λ_ h=>aq.sq h) (λ_ h=>h)))))] [(6,i6 (iJ c6 c.l))] [] (r0 [(0,.l 2),(1,.c [] [] (wm (⟨c.next,x.t,x.k,x.i,x.o⟩:Re)))] [(40,.bool ((!(((⟨c.next,x.t,x.k,x.i,x.o⟩:Re).k:Int)==2))||(decide ((iJ c6 c.l)<0))))] [] ?_)))));have d:((!(((⟨c.next,x.t,x.k,x.i,x.o⟩:Re).k:Int)==2))||(decide ((iJ c6 c.l)<0)))=true:=by rw[show(!((x.k:Int)==2))=true from i];rfl
 exact cT ((!(((⟨c.next,x.t,x.k,x.i,x.o⟩:Re).k:Int)==2))||(decide ((iJ c6 c.l)<0))) d (rr (λ_=>[(0,.l 2),(1,.s 3)]) (λ_=>[(5,.bool false)]) [5] (λ_ L=>L.set 3 (ob (B1 a) #[iN c.next,iN x.t,iN x.k,iN x.i,iN x.o] 59)) λo=>lf ab.zero [0,1] [] [3])
theorem SP(g:Nat)(c:Lg)(x:Re)(b:gj c)(f:c.l.length=c.K)(o:c6 x=false)(i:a1 c6 c.l=c.l.length):aa ZJ 235 #[pt g 0,.agg #[iN x.s,iN x.t,iN x.k,iN x.i,iN x.o]] [pk (az g c)] [0] (λ_=>[pk (az g {c with next:=c.next+1,lost:=true})]) (λ_=> .tuple #[.agg #[iN c.next,iN x.t,iN x.k,iN x.i,iN x.o],.bool false]):=aa.pkZ Tryz.func235 λL e=>by
 obtain⟨v,rfl⟩:=e;refine⟨[0,1],λ_=>[ob g #[v,iN c.K,iN (c.next+1),.bool true] 124,iI v c.l],?_,rfl,λE=>⟨rfl,rfl,⟨_,rfl⟩⟩⟩;have j:=b.l;have n:=b.r;have m:=b.n;refine fG Tryz.func235 λw cs=>ra (λa=>[(3,pt (B0 a) 0),(4,pt (B1 a) 0),(5,.bool false)]) (λa=>[ob (B0 a) #[iN x.s,iN x.t,iN x.k,iN x.i,iN x.o] 59,ob (B1 a) #[i6 0,i6 0,i6 0,i6 0,i6 0] 59]) λa=>rs [(3,.l 0),(5,.s 2)] 2 (ob (B0 a) #[iN c.next,iN x.t,iN x.k,iN x.i,iN x.o] 59) (rs [(3,.l 0),(4,ad c.next 1),(7,.s 0)] 0 (ob g #[v,iN c.K,iN (c.next+1),.bool c.lost] 124) (rT [(3,.l 0),(4,fw iH v c.l 1),(8,.l 0),(9,.t (tk (show Value.bool ((c.l.length:Int)==(c.K:Int))= .bool true from ALca Value.bool (by rw[f];exact beq_self_eq_true _))))] 28 (rs [(3,.s 0)] 0 (ob g #[v,iN c.K,iN (c.next+1),.bool true] 124) (r0 [(1,.c [0,1] [] (aa.at (rd':=[ob g #[v,iN c.K,iN (c.next+1),.bool true] 124,iI v c.l]) (SG g v c.l c.K (c.next+1) true Om Om) (atS (bM (λ_ h=>aq.sq h) (λ_ h=>h)))))] [(6,i6 (-1))] [] (r0 [(0,.l 2),(1,.c [] [] (wm (⟨c.next,x.t,x.k,x.i,x.o⟩:Re)))] [(40,.bool ((!(((⟨c.next,x.t,x.k,x.i,x.o⟩:Re).k:Int)==2))||true))] [] ?_)))));have d:((!(((⟨c.next,x.t,x.k,x.i,x.o⟩:Re).k:Int)==2))||true)=true:=by rw[Bool.or_true]
 exact cT ((!(((⟨c.next,x.t,x.k,x.i,x.o⟩:Re).k:Int)==2))||true) d (rr (λ_=>[(0,.l 2),(1,.s 3)]) (λ_=>[(5,.bool false)]) [5] (λ_ L=>L.set 3 (ob (B1 a) #[iN c.next,iN x.t,iN x.k,iN x.i,iN x.o] 59)) λp=>lf ab.zero [0,1] [] [3])
theorem SQ(g:Nat)(c:Lg)(x:Re)(e:gj c)(o:c.l.length=c.K)(p:c6 x=false)(n:a1 c6 c.l<c.l.length):aa ZJ 235 #[pt g 0,.agg #[iN x.s,iN x.t,iN x.k,iN x.i,iN x.o]] [pk (az g c)] [0] (λ_=>[pk (az g {c with l:=c.l.eraseIdx (a1 c6 c.l)++[qK x c.next],next:=c.next+1,lost:=true})]) (λ_=> .tuple #[.agg #[iN c.next,iN x.t,iN x.k,iN x.i,iN x.o],.bool true]):=aa.pkZ Tryz.func235 λL i=>by
 obtain⟨v,rfl⟩:=i;refine⟨[0,1],λE=>[ob g #[(E.val 0),iN c.K,iN (c.next+1),.bool true] 124,iI (E.val 0) ((c.l.eraseIdx (a1 c6 c.l))++([(⟨c.next,x.t,x.k,x.i,x.o⟩:Re)]))],?_,rfl,λE=>⟨rfl,rfl,⟨_,rfl⟩⟩⟩;have r:=e.l;have y:=e.r;have u:=e.n;have j:(c.l.eraseIdx (a1 c6 c.l)).length=c.l.length-1:=by rw[ZW,ALifp n]
 refine fG Tryz.func235 λw cs=>ra (λb=>[(3,pt (B0 b) 0),(4,pt (B1 b) 0),(5,.bool false)]) (λb=>[ob (B0 b) #[iN x.s,iN x.t,iN x.k,iN x.i,iN x.o] 59,ob (B1 b) #[i6 0,i6 0,i6 0,i6 0,i6 0] 59]) λb=>rs [(3,.l 0),(5,.s 2)] 2 (ob (B0 b) #[iN c.next,iN x.t,iN x.k,iN x.i,iN x.o] 59) (rs [(3,.l 0),(4,ad c.next 1),(7,.s 0)] 0 (ob g #[v,iN c.K,iN (c.next+1),.bool c.lost] 124) (rT [(3,.l 0),(4,fw iH v c.l 1),(8,.l 0),(9,.t (tk (show Value.bool ((c.l.length:Int)==(c.K:Int))= .bool true from ALca Value.bool (by rw[o];exact beq_self_eq_true _))))] 28 (rs [(3,.s 0)] 0 (ob g #[v,iN c.K,iN (c.next+1),.bool true] 124) (r0 [(1,.c [0,1] [] (aa.at (rd':=[ob g #[v,iN c.K,iN (c.next+1),.bool true] 124,iI v c.l]) (SF g v c.l c.K (c.next+1) true Om Om) (atS (bM (λ_ h=>aq.sq h) (λ_ h=>h)))))] [(6,iN (a1 c6 c.l))] [] (r0 [(0,.l 2),(1,.c [] [] (wm (⟨c.next,x.t,x.k,x.i,x.o⟩:Re)))] [(40,.bool ((!(((⟨c.next,x.t,x.k,x.i,x.o⟩:Re).k:Int)==2))||(decide (((a1 c6 c.l:Nat):Int)<0))))] [] ?_)))));have f:((!(((⟨c.next,x.t,x.k,x.i,x.o⟩:Re).k:Int)==2))||(decide (((a1 c6 c.l:Nat):Int)<0)))=false:=by rw[show(!((x.k:Int)==2))=false from p,Bool.false_or];exact a8 Om
 exact cF ((!(((⟨c.next,x.t,x.k,x.i,x.o⟩:Re).k:Int)==2))||(decide (((a1 c6 c.l:Nat):Int)<0))) f (rr (λd=>[(4,.m (ld 0 (v))),(7,ad (a1 c6 c.l) 1),(8,.c [1] [1] (SM v c.l (a1 c6 c.l) Om)),(11,.m (fT 0 1 (iI ((d 8).val 0) (c.l.eraseIdx (a1 c6 c.l))) ((d 8).val 0) λbs h=>aq.one ((λ_ h=>h) bs h)))]) N0 [] (λd L=>(L.set 0 (ob g #[(d 8).val 0,iN c.K,iN (c.next+1),.bool true] 124)).set 1 (iI ((d 8).val 0) (c.l.eraseIdx (a1 c6 c.l)))) λd=>rr (λa=>[(4,.l 0),(5,.l 2),(6,.m (bs 4 1)),(7,fF iH ((d 8).val 0) (c.l.eraseIdx (a1 c6 c.l)) 1 4 ([(⟨c.next,x.t,x.k,x.i,x.o⟩:Re)])),(10,.m (fT 0 1 (iI ((a 7).val 0) ((c.l.eraseIdx (a1 c6 c.l))++([(⟨c.next,x.t,x.k,x.i,x.o⟩:Re)]))) ((a 7).val 0) λbs h=>aq.one ((λ_ h=>h) bs h)))]) N0 [] (λa L=>(L.set 0 (ob g #[(a 7).val 0,iN c.K,iN (c.next+1),.bool true] 124)).set 1 (iI ((a 7).val 0) ((c.l.eraseIdx (a1 c6 c.l))++([(⟨c.next,x.t,x.k,x.i,x.o⟩:Re)])))++[ob (B6 a) #[iN c.next,iN x.t,iN x.k,iN x.i,iN x.o] 59]) λa=>rr (λ_=>[(0,.l 2),(1,.s 3)]) (λ_=>[(5,.bool true)]) [5] (λ_ L=>L.set 3 (ob (B1 b) #[iN c.next,iN x.t,iN x.k,iN x.i,iN x.o] 59)) λq=>lf (.l [] [] [(a 7).val 0]) [0,1] [] [3])
theorem SR(g:Nat)(c:Lg)(x:Re)(d:gj c):aa ZJ 235 #[pt g 0,.agg #[iN x.s,iN x.t,iN x.k,iN x.i,iN x.o]] [pk (az g c)] [0] (λ_=>[pk (az g (bT c x))]) (λ_=> .tuple #[.agg #[iN c.next,iN x.t,iN x.k,iN x.i,iN x.o],.bool (F8 c x)]):=by
 unfold bT F8;by_cases a:c.l.length=c.K
 ·rw[ALifp a,cd a];cases e:c6 x with
  | true=>rw[ALifp (.inl rfl)];exact SO g c x d a e
  | false=>
   by_cases b:a1 c6 c.l=c.l.length
   ·rw[ALifp (.inr b),cd b];exact SP g c x d a e b
   ·rw[ALifn (λh=>h.elim (λh=>by cases h) b),a8 b];exact SQ g c x d a e (by have:=pC c6 c.l;omega)
 ·rw[ALifn a,a8 a];exact SN g c x d a
section
section
variable {α:Type} {P:Program} {en:α→List Value} {z:List Value} {e T:TypeId} {v:Value} {xs ys:List α} {bs:ay} {w:World}
theorem SS{i:Nat}(a:i<xs.length):aj en xs=aj en (xs.take i)++(en xs[i]++aj en (xs.drop (i+1))):=by
 have e:xs=xs.take i++(xs[i]::xs.drop (i+1)):=by rw[←Z4 a,aai]
 conv=>lhs;rw[e]
 rw[kC];rfl
theorem SU{i:Nat}{a:α}(b:i<xs.length):aj en (xs.set i a)=aj en (xs.take i)++(en a++aj en (xs.drop (i+1))):=by
 rw[List.set_eq_take_append_cons_drop,ALifp b,kC];rfl
theorem SV(A X C l:List Value)(f:Nat)(c:f+l.length≤X.length):(A++(X++C)).take (A.length+f)++l++(A++(X++C)).drop (A.length+f+l.length)=A++((X.take f++l++X.drop (f+l.length))++C):=by
 have a:(A++(X++C)).take (A.length+f)=A++X.take f:=by
  rw[List.take_append,List.take_of_length_le Om,aah,List.take_append_of_le_length Om]
 have b:(A++(X++C)).drop (A.length+f+l.length)=X.drop (f+l.length)++C:=by
  rw[aaq,aag Om,aaw,show A.length+f+l.length-A.length=f+l.length by omega,aab c]
 rw[a,b];simp only[ZP]
theorem SW(p i k f:Nat){a d:α}{l:List Value}(u: ∀y,(en y).length=k)(m:i<xs.length)(N:f+l.length≤k)(Q:en a=(en (xs.getD i d)).take f++l++(en (xs.getD i d)).drop (f+l.length)):MD.ok P (λ_=>undef) (qd P p (.p (aq en z T v xs)) (.p (aq en z T v (xs.set i a))) v (i*k+f) l) [p]:=by
 intro o ρ C j w c s;unfold qd at j s⊢
 split at j
 ·rename_i I x y n;simp only[n] at s⊢;simp only[aaf,Z0,or_false,forall_eq_or_imp,forall_eq,sE,sB] at j;obtain⟨F,M,K,L⟩:=j;obtain⟨J,D⟩:=s.ent;obtain⟨g,r,rfl,G⟩:=aq.some (show aq en z T v xs (c p) from J) m;rw[G] at D;have b:=D.one;have t:xs.getD i d=xs[i]:=by rw[ZM,ZN m];rfl
  have hA:(aj en (xs.take i)).length=i*k:=fS u (by rw[ZO];omega);have O:(bE (aj en xs) z r).toList.take (0+(i*k+f))++l++(bE (aj en xs) z r).toList.drop (0+(i*k+f)+l.length)=(bE (aj en (xs.set i a)) z r).toList:=by
   unfold bE;rw[Z9,Z9,SS (en:=en) m,SU m,Q,t,Nat.zero_add,←hA];have:=SV (aj en (xs.take i)) (en xs[i]) (aj en (xs.drop (i+1))++(ZK r z).flatten) l f (by rw[u];exact N);simp only[ZP] at this⊢;exact this
  have A:0+(i*k+f)+l.length≤(bE (aj en xs) z r).size:=by
   rw[uE,fS u rfl];have:=Nat.mul_le_mul_right k (show i+1≤xs.length from m);rw[Z2] at this;omega
  simp only[fl,add_lit] at F;have B:=a6.setRow (bE (aj en (xs.set i a)) z r) b;refine⟨ab.zero,λ_=>[(g,.cells (bE (aj en (xs.set i a)) z r) T (0,0))],w.setRow g (bE (aj en (xs.set i a)) z r),.inr ⟨?_,by simp⟩,λq h=>?_,?_⟩
  ·unfold execOp;have H:=uy (P:=P) (T:=I) b A (List.all_eq_true.1 K) L;rw[O,Array.toArray_toList] at H;simp only[n,F,uz M,Instr.storeAt,Instr.sureAddr,aaC,aaD,aal,H]
  ·rw[List.mem_singleton.1 h];exact .inr ⟨g,r,by rw[ZT],rfl⟩
  ·rw[show([p].flatMap λp=>bL (c p))=_ by simp only[List.flatMap_cons,List.flatMap_nil,G,bL];rfl];exact B
 ·exact(bD j).elim
def Gd(K:Kd P α)(v:Value)(xs:List α)(p i f:Nat)(a:α)(l:List Value)(g:K.en a=(K.en (xs.getD i K.d)).take f++l++(K.en (xs.getD i K.d)).drop (f+l.length))(b:i<xs.length:=by omega)(c:f+l.length≤K.k:=by exact Nat.le_of_ble_eq_true rfl):cr P:=
 .m ⟨[p],qd P p (.p (aq K.en K.z K.T v xs)) (.p (aq K.en K.z K.T v (xs.set i a))) v (i*K.k+f) l,SW (d:=K.d) p i K.k f K.hk b c g⟩
end
end
structure Pa where
 k:Nat
 l:Nat
 a:Nat
deriving DecidableEq
def bt:Pa:=⟨0,0,0⟩
def pE(x:Pa):List Value:=[iN x.k,iN x.l,iN x.a]
def eS:Kd ZJ Pa:=⟨pE,[i6 0,i6 0,i6 0],354,386,bt,3,λ_=>rfl,rfl,λ_=>rfl,eh.mk' Kr Kr rfl⟩
abbrev eo(v:Value)(xs:List Pa):aA:= .p (aq pE ([i6 0,i6 0,i6 0]) 386 v xs)
def bK(k:Nat)(x:Pa):Bool:=(x.k:Int)==(k:Int)
structure Tb where
 l:List Pa
 K:Nat
structure iK (ev:Nat) (t:Tb):Prop where
 l:t.l.length≤t.K
 r1:1≤t.K
 r:t.K≤256
 b: ∀i,i<t.l.length→ff ev (t.l.getD i bt).l (t.l.getD i bt).a
abbrev dZ(g:Nat)(t:Tb)(L:ah):Prop:=∃v:Value,L=[ob g #[v,iN t.K,.func (.func 178) #[] #[]] 356,eo v t.l]
def et(xs:List Pa):Nat→Nat×Nat
 | 0=>(0,0)
 | k+1=>if k=0∨(xs.getD k bt).l<(et xs k).2 then(k,(xs.getD k bt).l) else et xs k
theorem Ae(xs:List Pa): ∀k,1≤k→(et xs k).1<k
 | 0,h=>by omega
 | 1,_=>by unfold et;rw[ALifp (.inl rfl)];exact Nat.zero_lt_one
 | k+2,_=>by
  unfold et
  split
  ·exact Z8 _
  ·exact aar (Ae xs (k+1) Om)
theorem SX{xs:List Pa}{k:Nat}(h:(((k:Int)==0)||decide ((((xs.getD k bt).l:Nat):Int)<(((et xs k).2:Nat):Int)))=true):et xs (k+1)=(k,(xs.getD k bt).l):=by
 rw[et,ALifp];simp only[aac,decide_eq_true_eq,beq_iff_eq] at h;omega
theorem SY{xs:List Pa}{k:Nat}(h:(((k:Int)==0)||decide ((((xs.getD k bt).l:Nat):Int)<(((et xs k).2:Nat):Int)))=false):et xs (k+1)=et xs k:=by
 rw[et,ALifn];simp only[Z1,decide_eq_false_iff_not,dj] at h;omega
def dh(t:Tb)(k:Nat):Bk:=if a1 (bK k) t.l=t.l.length then bg else⟨(t.l.getD (a1 (bK k) t.l) bt).l,(t.l.getD (a1 (bK k) t.l) bt).a⟩
def wo(t:Tb)(k:Nat):Bool:= !decide (a1 (bK k) t.l=t.l.length)
def pF(t:Tb)(k l a:Nat):Tb:=
 if a1 (bK k) t.l=t.l.length then
  (if t.l.length=t.K then{t with l:=t.l.eraseIdx (et t.l t.l.length).1++[⟨k,l,a⟩]} else{t with l:=t.l++[⟨k,l,a⟩]})
 else{t with l:=t.l.set (a1 (bK k) t.l) ⟨(t.l.getD (a1 (bK k) t.l) bt).k,l,a⟩}
def pG(t:Tb)(k:Nat):Tb:=if a1 (bK k) t.l=t.l.length then t else{t with l:=t.l.eraseIdx (a1 (bK k) t.l)}
def Ge(t:Tb)(k:Nat):Nat:=if a1 (bK k) t.l=t.l.length∧t.l.length=t.K then(t.l.getD (et t.l t.l.length).1 bt).k else 0
def Gf(t:Tb)(k:Nat):Bool:=decide (a1 (bK k) t.l=t.l.length)&&decide (t.l.length=t.K)
structure Tk where
 lr:Nat
 er:Nat
 lp:Nat
 ep:Nat
 K:Nat
 J:Nat
 F:List Bk
 t:Tb
structure dV (c:Tk):Prop where
 r:iZ c.lr c.er
 p:iZ c.lp c.ep
 h1:1≤c.J
 h2:c.J≤65536
 n:c.F.length≤8
 b: ∀i,i<c.F.length→ff c.er (c.F.getD i bg).l (c.F.getD i bg).a
 t:iK c.ep c.t
abbrev aD(g a:Nat)(c:Tk)(L:ah):Prop:=∃v:Value,L=[ob g #[iN c.lr,iN c.er,iN c.lp,iN c.ep,iN c.K,iN c.J,v,pt a 0] 294,kR v c.F,pk (dZ a c.t)]
def fI(c:Tk)(r p n:Nat):Tk:={c with F:=c.F.set r ⟨b6 (c.F.getD r bg).l n,(c.F.getD r bg).a⟩,t:=pF c.t p (b6 (dh c.t p).l n) (dh c.t p).a}
def pH(c:Tk)(r:Nat):Tk:={c with F:=c.F.set r ⟨0,0⟩}
def qL(c:Tk)(p:Nat):Tk:={c with t:=pG c.t p}
theorem iK.get{ev:Nat}{t:Tb}(h:iK ev t)(b:1≤ev)(k:Nat):ff ev (dh t k).l (dh t k).a:=by
 unfold dh
 split
 ·exact⟨ZX _,b⟩
 ·have:=pC (bK k) t.l;exact h.b _ Om
theorem SZ(l a:Nat):aa ZJ 178 #[.agg #[iN l,iN a]] [] [] N0 (λ_=>iN l):=by
 exact fG Tryz.func178 λw cs=>ra (λb=>[(1,pt (B0 b) 0),(2,i6 0)]) (λb=>[ob (B0 b) #[iN l,iN a] 290]) λb=>r0 [(1,.l 0)] [(2,iN l)] [2] (lf ab.zero [] [] [])
theorem S1(b k:Nat)(x:Pa):aa ZJ 279 #[.agg #[iN x.k,iN x.l,iN x.a],pt b 0] [ob b #[iN k] 3] [] N0 (λ_=> .bool (bK k x)):=by
 exact fG Tryz.func279 λw cs=>ra (λa=>[(2,pt (B0 a) 0),(3,.bool false)]) (λa=>[ob (B0 a) #[iN x.k,iN x.l,iN x.a] 386]) λa=>r0 [(1,.l 1),(2,.l 0)] [(3,.bool ((x.k:Int)==(k:Int)))] [3] (ak (.bool ((x.k:Int)==(k:Int))) ab.zero a9 [] [(0,0)] [])
theorem S2(v:Value)(b k:Nat)(xs:List Pa)(m:xs.length≤1000000):aa ZJ 278 #[v,.func (.func 279) #[] #[pt b 0]] [ob b #[iN k] 3,.p (aK pE v xs)] [] N0 (λ_=>i6 (iJ (bK k) xs)):=by
 refine fO Tryz.func278 1 rfl λf a=>fG Tryz.func278 λw cs=>r0 [] [(4,i6 0)] [] (r0 [(1,eG a.1 1)] [(7,iN xs.length),(8,i6 0)] [] ?_);refine lq (λn=>n≤xs.length∧(∀j,j<n→bK k (xs.getD j bt)=false)) (λn=>[(8,iN n)]) (λ_ L=>L) (λn=>xs.length-n) 0 ⟨by omega,(λ_ h=>absurd h (aax _))⟩ Kr Kr (λn ⟨l,e⟩=>?_);refine r0 [] [(9,.bool (decide ((n:Int)<(xs.length:Int))))] [] ?_;refine cj (n:Int) (xs.length:Int) (λg d=>?_) λg d=>?_
 ·refine r0 [] [(5,iN n)] [] (r0 [(3,fx a.1 1 n 3),(4,nm eS a.1 1 n 0 3),(5,.c [0] [] (S1 b k (xs.getD n bt)))] [(16,.bool (bK k (xs.getD n bt)))] [] ?_);refine cB (bK k (xs.getD n bt)) (λi=>?_) λi=>?_
  ·exact r0 [] [(4,iN n)] [] (ak (iN n) ab.zero (by(rw[F7 Om e As];done)) [] [(0,0),(1,1)] [])
  exact r0 [(0,ad n 1)] [(8,iN (n+1))] [8] (le (n+1) ⟨by omega,zV e As⟩ Om Kr [0,1] Kr)
 obtain rfl:xs.length=n:=by omega
 exact lx (r0 [] [(4,i6 (-1))] [] (ak (i6 (-1)) ab.zero (by(rw[F6 e];done)) [] [(0,0),(1,1)] []))
theorem Gg(g:Nat)(v:Value)(l:List Pa)(room k:Nat)(e:l.length≤1000000):aa ZJ 261 #[pt g 0,iN k] [ob g #[v,iN room,.func (.func 178) #[] #[]] 356,.p (aK pE v l)] [] N0 (λ_=>i6 (iJ (bK k) l)):=by
 exact fO Tryz.func261 1 rfl λb d=>fG Tryz.func261 λw cs=>ra (λa=>[(3,pt (B0 a) 0),(4,i6 0)]) (λa=>[ob (B0 a) #[iN k] 3]) λa=>r0 [(3,.l 0),(5,.c [2,1] [] (aa.at (rd':=[ob (B0 a) #[iN k] 3,.c b]) (S2 v (B0 a) k l Om) (atS (eD d (λ_ h=>h)))))] [(4,i6 (iJ (bK k) l))] [4] (lf ab.zero [] [(0,0),(1,1)] [])
theorem Af(g:Nat)(v:Value)(l:List Pa)(room k:Nat)(b:l.length≤1000000)(h:a1 (bK k) l<l.length):aa ZJ 261 #[pt g 0,iN k] [ob g #[v,iN room,.func (.func 178) #[] #[]] 356,.p (aK pE v l)] [] N0 (λ_=>iN (a1 (bK k) l)):=by
 have a:=Gg g v l room k b;unfold iJ at a;rwa [ALifn Om] at a
theorem wq(g:Nat)(v:Value)(l:List Pa)(room k:Nat)(b:l.length≤1000000)(h:a1 (bK k) l=l.length):aa ZJ 261 #[pt g 0,iN k] [ob g #[v,iN room,.func (.func 178) #[] #[]] 356,.p (aK pE v l)] [] N0 (λ_=>i6 (-1)):=by
 have a:=Gg g v l room k b;unfold iJ at a;rwa [ALifp h] at a
theorem S3(g:Nat)(v:Value)(l:List Pa)(room:Nat)(m:l.length≤1000000):aa ZJ 263 #[pt g 0] [ob g #[v,iN room,.func (.func 178) #[] #[]] 356,.p (aK pE v l)] [] N0 (λ_=>iN ((et l l.length).1)):=by
 refine fO Tryz.func263 1 rfl λh b=>fG Tryz.func263 λw cs=>r0 [] [(2,i6 0)] [] (r0 [] [(3,i6 0),(4,i6 0)] [] (r0 [(3,.l 0),(4,eG b.1 1)] [(11,v),(12,iN l.length),(13,i6 0)] [] ?_));refine lq (λk=>k≤l.length) (λk=>[(3,iN ((et l k).1)),(4,iN ((et l k).2)),(13,iN k)]) (λ_ L=>L) (λk=>l.length-k) 0 Om Kr Kr (λk j=>?_);refine r0 [] [(14,.bool (decide ((k:Int)<(l.length:Int))))] [] ?_;refine cj (k:Int) (l.length:Int) (λi e=>?_) λi e=>?_
 ·refine rr (λ_=>[(1,fx b.1 1 k 3),(2,nm eS b.1 1 k 0 3),(5,.s 2)]) (λd=>[(6,pt (B3 d) 0),(5,iN k)]) [] (λd L=>L++[ob (B3 d) #[iN ((l.getD k bt).k),iN ((l.getD k bt).l),iN ((l.getD k bt).a)] 386]) λd=>r0 [(3,.l 0),(5,.l 2),(6,.c [] [] (SZ ((l.getD k bt).l) ((l.getD k bt).a)))] [(7,iN ((l.getD k bt).l))] [] (r0 [] [(31,.bool (((k:Int)==0)||(decide ((((l.getD k bt).l:Nat):Int)<(((et l k).2:Nat):Int)))))] [] ?_);refine cB (((k:Int)==0)||(decide ((((l.getD k bt).l:Nat):Int)<(((et l k).2:Nat):Int)))) (λf=>?_) λf=>?_
  ·exact r0 [] [(3,iN k),(4,iN ((l.getD k bt).l))] [3,4] (r0 [(0,ad k 1)] [(13,iN (k+1))] [13] (le (k+1) Om Om (by(rw[SX As]);kernel_rfl) [0,1] Kr))
  exact r0 [(0,ad k 1)] [(13,iN (k+1))] [13] (le (k+1) Om Om (by(rw[SY As]);kernel_rfl) [0,1] Kr)
 obtain rfl:l.length=k:=by omega
 exact lx (r0 [] [(2,iN ((et l l.length).1))] [2] (lf ab.zero [] [(0,0),(1,1)] []))
section
open Go.Lib
set_option maxRecDepth 1000000 in
set_option maxHeartbeats 1000000 in
theorem S4(g n b i j:Nat)(w:World)(S:i<j)(R:j≤n)(H:n≤b)(a:Array Value)(x:w.heap[g]? =some (.cells a 386 (0,0)))(news:List Value)(d:news.length=(n-(j))*3)(m: ∀u∈news,u.oneCell'=true)(o: ∀t u,news[t]? =some u→w.cell? ⟨g,(j)*3+t,none⟩=some u)(k:i*3+news.length≤a.size)(C:n*3≤a.size):Calls ZJ 280 #[.slice (some ⟨g,0,none⟩) n b,.int .i64 (i:Int),.int .i64 (j:Int)] w λe w'=>e= .returned (.slice (some ⟨g,0,none⟩) (n-(j-i)) b)∧w'=(w.drew.setRow g (a.toList.take (i*3)++news++a.toList.drop (i*3+news.length)).toArray).setRow g ((a.toList.take (i*3)++news++a.toList.drop (i*3+news.length)).toArray.toList.take ((i+(n-j))*3)++(ZK (n-(i+(n-j))) eS.z).flatten++(a.toList.take (i*3)++news++a.toList.drop (i*3+news.length)).toArray.toList.drop ((i+(n-j))*3+(n-(i+(n-j)))*3)).toArray:=by
 have F:Tryz.prog.follows .mixedOrders=true:=by kernel_rfl
 have P:i≤b:=by omega
 have Q:j≤b:=by omega
 obtain⟨V,Z,B,T,D,U,N⟩:=eS.hT.hi;obtain⟨A,hA,s⟩: ∃A:Addr,(if b=j then some (⟨g,0,none⟩:Addr) else some ⟨g,(j)*3,none⟩)=some A∧Hid (∀t u,news[t]? =some u→w.drew.cell? (A.add t)=some u):=by
  by_cases h:b=j
  ·refine⟨⟨g,0,none⟩,by simp [h],λt u v=>?_⟩;have K:news.length=0:=by rw[d];omega
   rw[List.length_eq_zero_iff.1 K] at v;simp at v
  ·exact⟨⟨g,(j)*3,none⟩,by simp [h],λt u v=>by rw[Addr.add_lit];exact o t u v⟩
 have W:Hid (news.length=(n-(j))*3):=d;have X:Hid (∀u∈news,u.oneCell'=true):=m;have Y:Hid (i*3+news.length≤a.size):=k;have I:Hid (w.drew.heap[g]? =some (.cells a 386 (0,0))):=x;obtain⟨p,q⟩: ∃p,p=w.drew.setRow g (a.toList.take (i*3)++news++a.toList.drop (i*3+news.length)).toArray:=⟨_,rfl⟩;have G:Hid (p=w.drew.setRow g (a.toList.take (i*3)++news++a.toList.drop (i*3+news.length)).toArray):=q;obtain⟨c,f⟩: ∃c,c=(a.toList.take (i*3)++news++a.toList.drop (i*3+news.length)).toArray:=⟨_,rfl⟩;have y:c.size=a.size:=by
  rw[f];simp only[aao,ZL,ZO,ZV,Array.length_toList];omega
 have l:p.heap[g]? =some (.cells c 386 (0,0)):=by rw[q,←f];exact setRow_heap _ g a _ _ _ I.out
 obtain⟨z,r⟩: ∃z,z=p.setRow g (c.toList.take ((i+(n-j))*3)++(ZK (n-(i+(n-j))) eS.z).flatten++c.toList.drop ((i+(n-j))*3+(n-(i+(n-j)))*3)).toArray:=⟨_,rfl⟩;have O: ∀J,(Builtin.clear_ #[354] J #[.slice (some ⟨g,(i+(n-j))*3,none⟩) (n-(i+(n-j))) (b-(i+(n-j)))]).run ZJ p= .ok (.tuple #[]) z:=λJ=>by
  rw[r];exact Gb eS.hT l Om (by show _+_*3≤_;rw[y];omega) (λu v=>by
   simp only[eS,aaf,Z0,or_false] at v;rcases v with rfl | rfl | rfl<;>rfl)
 have L:Hid (z=p.setRow g (c.toList.take ((i+(n-j))*3)++(ZK (n-(i+(n-j))) eS.z).flatten++c.toList.drop ((i+(n-j))*3+(n-(i+(n-j)))*3)).toArray):=r;have M:Hid (c=(a.toList.take (i*3)++news++a.toList.drop (i*3+news.length)).toArray):=f;clear q o d m k x r l y f
 go_enter Tryz.func280,Tryz.ntmps280
 go_wp2_with fail
 go_region_law_o (refine Ga rfl (.tmp 22) (.tmp 25) 354 rfl 386 V 3 eS.hT.ht B D g i b a I.out (by simp [Act.eval,Act.put]) A (n-(j)) (b-(j)) news (by simp [Act.eval,Act.put]) W.out s.out X.out Om Y.out ?_;rw[←G.out])
 go_wp2
 go_ret
 refine⟨by rw[show n-(j-i)=i+(n-j) by omega];rfl,?_⟩;rw[L.out,G.out,M.out]
theorem S5(v:Value)(xs:List Pa)(i:Nat)(k:i<xs.length):aa ZJ 280 #[v,iN i,iN (i+1)] [eo v xs] [0] (λE=>[eo (E.val 0) (xs.eraseIdx i)]) (λE=>E.val 0):=
 Gc eS (enters_of Tryz.func280 Kr rfl) k λg f w h e b j m l d c a=>S4 g xs.length f i (i+1) w (Z8 i) k b h j e m l d c a
end
theorem Gh(g:Nat)(v:Value)(l:List Pa)(room i:Nat)(b:i<l.length)(d:l.length≤1000000):aa ZJ 262 #[pt g 0,iN i] [ob g #[v,iN room,.func (.func 178) #[] #[]] 356,eo v l] [0,1] (λE=>[ob g #[(E.val 0),iN room,.func (.func 178) #[] #[]] 356,eo (E.val 0) (l.eraseIdx i)]) (λ_=>iN ((l.getD i bt).k)):=by
 exact fG Tryz.func262 λw cs=>r0 [] [(4,i6 0)] [] (r0 [(3,.l 0),(5,cU eS v l 1 i),(6,u4 eS v l 1 (i*3) 0),(7,fa eS v l 1 i 0)] [(5,iN ((l.getD i bt).k))] [] (rr (λa=>[(4,.m (ld 0 (v))),(7,ad i 1),(8,.c [1] [1] (S5 v l i Om)),(11,.m (fT 0 1 (eo ((a 8).val 0) (l.eraseIdx i)) ((a 8).val 0) λbs h=>aq.one ((λ_ h=>h) bs h)))]) N0 [] (λa L=>(L.set 0 (ob g #[(a 8).val 0,iN room,.func (.func 178) #[] #[]] 356)).set 1 (eo ((a 8).val 0) (l.eraseIdx i))) λa=>r0 [] [(4,iN ((l.getD i bt).k))] [4] (lf (.l [] [] [((a 8).val 0)]) [0,1] [] [])))
theorem S6(g:Nat)(t:Tb)(k:Nat)(e:t.l.length≤1000000)(h:a1 (bK k) t.l<t.l.length):aa ZJ 238 #[pt g 0,iN k] [pk (dZ g t)] [0] (λ_=>[pk (dZ g t)]) (λ_=> .tuple #[.agg #[iN ((t.l.getD (a1 (bK k) t.l) bt).l),iN ((t.l.getD (a1 (bK k) t.l) bt).a)],.bool true]):=aa.pkZ Tryz.func238 λL d=>by
 obtain⟨v,rfl⟩:=d;refine⟨[1],λ_=>[eo v t.l],?_,rfl,λE=>⟨rfl,rfl,⟨_,rfl⟩⟩⟩;exact fG Tryz.func238 λw cs=>ra (λb=>[(4,pt (B0 b) 0),(5,.bool false)]) (λb=>[ob (B0 b) #[i6 0,i6 0] 290]) λb=>r0 [(2,.c [0,1] [] (aa.at (rd':=[ob g #[v,iN t.K,.func (.func 178) #[] #[]] 356,eo v t.l]) (Af g v t.l t.K k Om Om) (atS (bM (λ_ h=>aq.sq h) (λ_ h=>h)))))] [(6,iN (a1 (bK k) t.l))] [] (rF [(1,.t (tk (show Value.bool (decide (((a1 (bK k) t.l:Nat):Int)<0))= .bool false from ALca Value.bool (by exact a8 Om))))] 12 (rr (λ_=>[(3,.l 0),(5,cU eS v t.l 1 (a1 (bK k) t.l)),(6,u4 eS v t.l 1 ((a1 (bK k) t.l)*3) 1),(7,qg eS v t.l 1 (a1 (bK k) t.l) 1 2),(8,.s 2)]) (λ_=>[(5,.bool true)]) [5] (λ_ L=>L.set 2 (ob (B0 b) #[iN ((t.l.getD (a1 (bK k) t.l) bt).l),iN ((t.l.getD (a1 (bK k) t.l) bt).a)] 290)) λf=>lf ab.zero [1] [(0,0)] [2]))
theorem S7(g:Nat)(t:Tb)(k:Nat)(e:t.l.length≤1000000)(h:a1 (bK k) t.l=t.l.length):aa ZJ 238 #[pt g 0,iN k] [pk (dZ g t)] [0] (λ_=>[pk (dZ g t)]) (λ_=> .tuple #[.agg #[i6 0,i6 0],.bool false]):=aa.pkZ Tryz.func238 λL d=>by
 obtain⟨v,rfl⟩:=d;refine⟨[1],λ_=>[eo v t.l],?_,rfl,λE=>⟨rfl,rfl,⟨_,rfl⟩⟩⟩;exact fG Tryz.func238 λw cs=>ra (λa=>[(4,pt (B0 a) 0),(5,.bool false)]) (λa=>[ob (B0 a) #[i6 0,i6 0] 290]) λa=>r0 [(2,.c [0,1] [] (aa.at (rd':=[ob g #[v,iN t.K,.func (.func 178) #[] #[]] 356,eo v t.l]) (wq g v t.l t.K k Om Om) (atS (bM (λ_ h=>aq.sq h) (λ_ h=>h)))))] [(6,i6 (-1))] [] (rT [] 12 (ra (λb=>[(7,pt (B0 b) 0)]) (λb=>[ob (B0 b) #[i6 0,i6 0] 290]) λb=>r0 [(0,.l 3),(1,.s 2)] [(5,.bool false)] [5] (lf ab.zero [1] [(0,0)] [2])))
theorem S8(g:Nat)(t:Tb)(k l a:Nat)(e:t.l.length≤1000000)(h:a1 (bK k) t.l<t.l.length):aa ZJ 239 #[pt g 0,iN k,.agg #[iN l,iN a]] [pk (dZ g t)] [0] (λ_=>[pk (dZ g {t with l:=t.l.set (a1 (bK k) t.l) ⟨(t.l.getD (a1 (bK k) t.l) bt).k,l,a⟩})]) (λ_=> .tuple #[i6 0,.bool false]):=aa.pkZ Tryz.func239 λL d=>by
 obtain⟨v,rfl⟩:=d;refine⟨[1],λ_=>[eo v (t.l.set (a1 (bK k) t.l) (⟨(t.l.getD (a1 (bK k) t.l) bt).k,l,a⟩:Pa))],?_,rfl,λE=>⟨rfl,rfl,⟨_,rfl⟩⟩⟩;exact fG Tryz.func239 λw cs=>ra (λb=>[(5,pt (B0 b) 0),(6,i6 0),(7,.bool false)]) (λb=>[ob (B0 b) #[iN l,iN a] 290]) λb=>r0 [(2,.c [0,1] [] (aa.at (rd':=[ob g #[v,iN t.K,.func (.func 178) #[] #[]] 356,eo v t.l]) (Af g v t.l t.K k Om Om) (atS (bM (λ_ h=>aq.sq h) (λ_ h=>h)))))] [(8,iN (a1 (bK k) t.l))] [] (rT [(1,.t (tk (show Value.bool (decide (0≤((a1 (bK k) t.l:Nat):Int)))= .bool true from ALca Value.bool (by exact cd Om))))] 13 (rs [(3,.l 0),(5,.l 2),(6,cU eS v t.l 1 (a1 (bK k) t.l)),(7,u4 eS v t.l 1 ((a1 (bK k) t.l)*3) 1),(8,Gd eS v t.l 1 (a1 (bK k) t.l) 1 (⟨(t.l.getD (a1 (bK k) t.l) bt).k,l,a⟩:Pa) [iN l,iN a] Kr Om)] 1 (eo v (t.l.set (a1 (bK k) t.l) (⟨(t.l.getD (a1 (bK k) t.l) bt).k,l,a⟩:Pa))) (r0 [] [(6,i6 0),(7,.bool false)] [6,7] (lf ab.zero [1] [(0,0)] []))))
theorem S9(g:Nat)(t:Tb)(k l a:Nat)(f:t.l.length≤1000)(h:a1 (bK k) t.l=t.l.length)(i:t.l.length≠t.K):aa ZJ 239 #[pt g 0,iN k,.agg #[iN l,iN a]] [pk (dZ g t)] [0] (λ_=>[pk (dZ g {t with l:=t.l++[⟨k,l,a⟩]})]) (λ_=> .tuple #[i6 0,.bool false]):=aa.pkZ Tryz.func239 λL e=>by
 obtain⟨v,rfl⟩:=e;refine⟨[0,1],λE=>[ob g #[(E.val 0),iN t.K,.func (.func 178) #[] #[]] 356,eo (E.val 0) (t.l++([(⟨k,l,a⟩:Pa)]))],?_,rfl,λE=>⟨rfl,rfl,⟨_,rfl⟩⟩⟩;exact fG Tryz.func239 λw cs=>ra (λd=>[(5,pt (B0 d) 0),(6,i6 0),(7,.bool false)]) (λd=>[ob (B0 d) #[iN l,iN a] 290]) λd=>r0 [(2,.c [0,1] [] (aa.at (rd':=[ob g #[v,iN t.K,.func (.func 178) #[] #[]] 356,eo v t.l]) (wq g v t.l t.K k Om Om) (atS (bM (λ_ h=>aq.sq h) (λ_ h=>h)))))] [(8,i6 (-1))] [] (rF [] 13 (rF [(3,.l 0),(4,fw eS v t.l 1),(8,.l 0),(9,.t (tk (show Value.bool ((t.l.length:Int)==(t.K:Int))= .bool false from ALca Value.bool (by rw[dj];omega))))] 32 (rr (λb=>[(4,.m (ld 0 (v))),(6,.m (ls 2 ([iN l,iN a]))),(8,.m (bs 3 1)),(9,fF eS (v) t.l 1 3 ([(⟨k,l,a⟩:Pa)])),(12,.m (fT 0 1 (eo ((b 9).val 0) (t.l++([(⟨k,l,a⟩:Pa)]))) ((b 9).val 0) λbs h=>aq.one ((λ_ h=>h) bs h)))]) N0 [] (λb L=>(L.set 0 (ob g #[(b 9).val 0,iN t.K,.func (.func 178) #[] #[]] 356)).set 1 (eo ((b 9).val 0) (t.l++([(⟨k,l,a⟩:Pa)])))++[ob ((b 8).y 0) #[iN k,iN l,iN a] 386]) λb=>r0 [] [(6,i6 0),(7,.bool false)] [6,7] (lf (.l [] [] [(b 9).val 0]) [0,1] [] []))))
theorem Ta(g:Nat)(t:Tb)(k l a:Nat)(o:t.l.length≤1000)(h1:1≤t.l.length)(h:a1 (bK k) t.l=t.l.length)(n:t.l.length=t.K):aa ZJ 239 #[pt g 0,iN k,.agg #[iN l,iN a]] [pk (dZ g t)] [0] (λ_=>[pk (dZ g {t with l:=t.l.eraseIdx (et t.l t.l.length).1++[⟨k,l,a⟩]})]) (λ_=> .tuple #[iN ((t.l.getD ((et t.l t.l.length).1) bt).k),.bool true]):=aa.pkZ Tryz.func239 λL i=>by
 obtain⟨v,rfl⟩:=i;refine⟨[0,1],λE=>[ob g #[(E.val 0),iN t.K,.func (.func 178) #[] #[]] 356,eo (E.val 0) ((t.l.eraseIdx ((et t.l t.l.length).1))++([(⟨k,l,a⟩:Pa)]))],?_,rfl,λE=>⟨rfl,rfl,⟨_,rfl⟩⟩⟩;have f:=Ae t.l t.l.length h1;have j:(t.l.eraseIdx (et t.l t.l.length).1).length=t.l.length-1:=by rw[ZW,ALifp f]
 exact fG Tryz.func239 λw cs=>ra (λe=>[(5,pt (B0 e) 0),(6,i6 0),(7,.bool false)]) (λe=>[ob (B0 e) #[iN l,iN a] 290]) λe=>r0 [(2,.c [0,1] [] (aa.at (rd':=[ob g #[v,iN t.K,.func (.func 178) #[] #[]] 356,eo v t.l]) (wq g v t.l t.K k Om Om) (atS (bM (λ_ h=>aq.sq h) (λ_ h=>h)))))] [(8,i6 (-1))] [] (rF [] 13 (rT [(3,.l 0),(4,fw eS v t.l 1),(8,.l 0),(9,.t (tk (show Value.bool ((t.l.length:Int)==(t.K:Int))= .bool true from ALca Value.bool (by rw[n];exact beq_self_eq_true _))))] 32 (rr (λ_=>[(2,.c [0,1] [] (aa.at (rd':=[ob g #[v,iN t.K,.func (.func 178) #[] #[]] 356,eo v t.l]) (S3 g v t.l t.K Om) (atS (bM (λ_ h=>aq.sq h) (λ_ h=>h))))),(3,.c [0,1] [0,1] (Gh g v t.l t.K ((et t.l t.l.length).1) Om Om))]) (λ_=>[(6,iN ((t.l.getD ((et t.l t.l.length).1) bt).k)),(7,.bool true)]) [6,7] (λd L=>(L.set 0 (ob g #[((d 3).val 0),iN t.K,.func (.func 178) #[] #[]] 356)).set 1 (eo ((d 3).val 0) (t.l.eraseIdx ((et t.l t.l.length).1)))) λd=>rr (λb=>[(4,.m (ld 0 (((d 3).val 0)))),(6,.m (ls 2 ([iN l,iN a]))),(8,.m (bs 3 1)),(9,fF eS (((d 3).val 0)) (t.l.eraseIdx ((et t.l t.l.length).1)) 1 3 ([(⟨k,l,a⟩:Pa)])),(12,.m (fT 0 1 (eo ((b 9).val 0) ((t.l.eraseIdx ((et t.l t.l.length).1))++([(⟨k,l,a⟩:Pa)]))) ((b 9).val 0) λbs h=>aq.one ((λ_ h=>h) bs h)))]) N0 [] (λb L=>(L.set 0 (ob g #[(b 9).val 0,iN t.K,.func (.func 178) #[] #[]] 356)).set 1 (eo ((b 9).val 0) ((t.l.eraseIdx ((et t.l t.l.length).1))++([(⟨k,l,a⟩:Pa)])))++[ob ((b 8).y 0) #[iN k,iN l,iN a] 386]) λb=>r0 [] [(6,iN ((t.l.getD ((et t.l t.l.length).1) bt).k)),(7,.bool true)] [6,7] (lf (.l [] [] [(b 9).val 0]) [0,1] [] []))))
theorem Tc(g:Nat)(t:Tb)(k:Nat)(d:t.l.length≤1000000)(h:a1 (bK k) t.l<t.l.length):aa ZJ 270 #[pt g 0,iN k] [pk (dZ g t)] [0] (λ_=>[pk (dZ g {t with l:=t.l.eraseIdx (a1 (bK k) t.l)})]) (λ_=> .bool true):=aa.pkZ Tryz.func270 λL b=>by
 obtain⟨v,rfl⟩:=b;refine⟨[0,1],λE=>[ob g #[(E.val 0),iN t.K,.func (.func 178) #[] #[]] 356,eo (E.val 0) (t.l.eraseIdx (a1 (bK k) t.l))],?_,rfl,λE=>⟨rfl,rfl,⟨_,rfl⟩⟩⟩;exact fG Tryz.func270 λw cs=>r0 [] [(4,.bool false)] [] (r0 [(2,.c [0,1] [] (aa.at (rd':=[ob g #[v,iN t.K,.func (.func 178) #[] #[]] 356,eo v t.l]) (Af g v t.l t.K k Om Om) (atS (bM (λ_ h=>aq.sq h) (λ_ h=>h)))))] [(5,iN (a1 (bK k) t.l))] [] (rF [(1,.t (tk (show Value.bool (decide (((a1 (bK k) t.l:Nat):Int)<0))= .bool false from ALca Value.bool (by exact a8 Om))))] 10 (rr (λ_=>[(2,.c [0,1] [0,1] (Gh g v t.l t.K (a1 (bK k) t.l) Om Om))]) N0 [] (λa L=>(L.set 0 (ob g #[((a 2).val 0),iN t.K,.func (.func 178) #[] #[]] 356)).set 1 (eo ((a 2).val 0) (t.l.eraseIdx (a1 (bK k) t.l)))) λa=>r0 [] [(4,.bool true)] [4] (lf (.l [] [] [((a 2).val 0)]) [0,1] [] []))))
theorem Td(g:Nat)(t:Tb)(k:Nat)(b:t.l.length≤1000000)(h:a1 (bK k) t.l=t.l.length):aa ZJ 270 #[pt g 0,iN k] [pk (dZ g t)] [0] (λ_=>[pk (dZ g t)]) (λ_=> .bool false):=aa.pkZ Tryz.func270 λL a=>by
 obtain⟨v,rfl⟩:=a;refine⟨[1],λ_=>[eo v t.l],?_,rfl,λE=>⟨rfl,rfl,⟨_,rfl⟩⟩⟩;exact fG Tryz.func270 λw cs=>r0 [] [(4,.bool false)] [] (r0 [(2,.c [0,1] [] (aa.at (rd':=[ob g #[v,iN t.K,.func (.func 178) #[] #[]] 356,eo v t.l]) (wq g v t.l t.K k Om Om) (atS (bM (λ_ h=>aq.sq h) (λ_ h=>h)))))] [(5,i6 (-1))] [] (rT [] 10 (r0 [] [(4,.bool false)] [4] (lf ab.zero [1] [(0,0)] []))))
theorem Te(g:Nat)(t:Tb)(k:Nat)(b:t.l.length≤1000000):aa ZJ 238 #[pt g 0,iN k] [pk (dZ g t)] [0] (λ_=>[pk (dZ g t)]) (λ_=> .tuple #[.agg #[iN ((dh t k).l),iN ((dh t k).a)],.bool (wo t k)]):=by
 unfold dh wo;by_cases h:a1 (bK k) t.l=t.l.length
 ·rw[ALifp h,cd h];exact S7 g t k b h
 ·rw[ALifn h,a8 h];exact S6 g t k b (by have:=pC (bK k) t.l;omega)
theorem Tf(g:Nat)(t:Tb)(k l a:Nat)(c:t.l.length≤1000)(h1:1≤t.K):aa ZJ 239 #[pt g 0,iN k,.agg #[iN l,iN a]] [pk (dZ g t)] [0] (λ_=>[pk (dZ g (pF t k l a))]) (λ_=> .tuple #[iN (Ge t k),.bool (Gf t k)]):=by
 unfold pF Ge Gf;by_cases h:a1 (bK k) t.l=t.l.length
 ·by_cases b:t.l.length=t.K
  ·rw[ALifp h,ALifp b,ALifp ⟨h,b⟩,cd h,cd b];exact Ta g t k l a c Om h b
  ·rw[ALifp h,ALifn b,ALifn (λq=>b q.2),cd h,a8 b];exact S9 g t k l a c h b
 ·rw[ALifn h,ALifn (λq=>h q.1),a8 h];exact S8 g t k l a Om (by have:=pC (bK k) t.l;omega)
theorem Tg(g:Nat)(t:Tb)(k:Nat)(a:t.l.length≤1000000):aa ZJ 270 #[pt g 0,iN k] [pk (dZ g t)] [0] (λ_=>[pk (dZ g (pG t k))]) (λ_=> .bool (wo t k)):=by
 unfold pG wo;by_cases h:a1 (bK k) t.l=t.l.length
 ·rw[ALifp h,cd h];exact Td g t k a h
 ·rw[ALifn h,a8 h];exact Tc g t k a (by have:=pC (bK k) t.l;omega)
theorem Gi(g:Nat)(v:Value)(rs:List Bk)(j c d e f h i r:Nat)(k:r<rs.length):aa ZJ 236 #[pt g 0,iN r] [ob g #[iN c,iN d,iN e,iN f,iN h,iN i,v,pt j 0] 294,.p (aK z9 v rs)] [] N0 (λ_=> .bool true):=by
 exact fO Tryz.func236 1 rfl λb a=>fG Tryz.func236 λw cs=>r0 [] [(4,.bool false)] [] (r0 [(7,.m (ld 0 (v))),(8,eG a.1 1),] [(4,.bool ((decide (0≤(r:Int)))&&(decide ((r:Int)<(rs.length:Int)))))] [4] (ak (.bool ((decide (0≤(r:Int)))&&(decide ((r:Int)<(rs.length:Int))))) ab.zero (by exact ALca Value.bool (by simp only[ZR,decide_eq_true_eq];omega)) [] [(0,0),(1,1)] []))
theorem Gj(g b:Nat)(c:Tk)(d:dV c)(r p n:Nat)(x:r<c.F.length)(u:n≤65536):aa ZJ 206 #[pt g 0,iN r,iN p,iN n] [pk (aD g b c)] [0] (λ_=>[pk (aD g b (fI c r p n))]) (λ_=> .tuple #[.agg #[.bool (cY c.lr ((c.F.getD r bg).l) n),.bool (cY c.lp ((dh c.t p).l) n)],i6 0]):=aa.pkZ Tryz.func206 λL t=>by
 obtain⟨v,rfl⟩:=t;refine⟨[1,2],λ_=>[kR v (c.F.set r (⟨b6 ((c.F.getD r bg).l) n,(c.F.getD r bg).a⟩:Bk)),pk (dZ b (pF c.t p (b6 ((dh c.t p).l) n) ((dh c.t p).a)))],?_,rfl,λE=>⟨rfl,rfl,⟨_,rfl⟩⟩⟩;have y:=d.t.l;have z:=d.t.r;have o:=d.t.r1;have A:=d.n;have j:=d.b r x;have k:=d.t.get d.p.e1 p;refine fG Tryz.func206 λw cs=>ra (λf=>[(8,pt (B0 f) 0),(9,i6 0)]) (λf=>[ob (B0 f) #[.bool false,.bool false] 339]) λf=>r0 [(2,.c [0,1] [] (aa.at (rd':=[ob g #[iN c.lr,iN c.er,iN c.lp,iN c.ep,iN c.K,iN c.J,v,pt b 0] 294,kR v c.F]) (Gi g v c.F b c.lr c.er c.lp c.ep c.K c.J r Om) (atS (bM (λ_ h=>aq.sq h) (λ_ h=>h)))))] [(20,.bool (decide ((n:Int)<0)))] [] ?_;have q:(decide ((n:Int)<0))=false:=by exact a8 Om
 exact cF (decide ((n:Int)<0)) q (ra (λe=>[(10,pt (B0 e) 0)]) (λe=>[ob (B0 e) #[.bool false,.bool false] 339]) λe=>rr (λ_=>[(3,.m (ld 0 (v))),(8,.m (ld 0 (v))),(10,cU lG v c.F 1 r),(11,qg lG v c.F 1 r 0 2),(16,.m (ls 0 ([iN c.lr,iN c.er]))),(18,.c [] [] (F2 c.lr c.er ((c.F.getD r bg).l) ((c.F.getD r bg).a) n (by exact d.r) (by exact j) Om)),(22,cU lG v c.F 1 r),(23,su lG v c.F 1 r (⟨b6 ((c.F.getD r bg).l) n,(c.F.getD r bg).a⟩:Bk)),(25,.s 4)]) N0 [] (λ_ L=>(L.set 1 (kR v (c.F.set r (⟨b6 ((c.F.getD r bg).l) n,(c.F.getD r bg).a⟩:Bk)))).set 4 (ob (B0 e) #[.bool (cY c.lr ((c.F.getD r bg).l) n),.bool false] 339)) λB=>rr (λ_=>[(3,.m (ld 0 (pt b 0))),(5,.c [2] [2] (Te b c.t p Om)),(9,.m (al 5)),(10,.s 5)]) (λi=>[(11,pt ((i 9).y 0) 0)]) [] (λi L=>L++[ob ((i 9).y 0) #[iN ((dh c.t p).l),iN ((dh c.t p).a)] 290]) λi=>rr (λ_=>[(0,.m (ls 5 ([iN ((dh c.t p).l),iN ((dh c.t p).a)]))),(5,.m (ls 0 ([iN c.lp,iN c.ep]))),(7,.c [] [] (F2 c.lp c.ep ((dh c.t p).l) ((dh c.t p).a) n (by exact d.p) (by exact k) Om)),(11,.s 5),(13,.s 4)]) N0 [] (λ_ L=>(L.set 4 (ob (B0 e) #[.bool (cY c.lr ((c.F.getD r bg).l) n),.bool (cY c.lp ((dh c.t p).l) n)] 339)).set 5 (ob ((i 9).y 0) #[iN (b6 ((dh c.t p).l) n),iN ((dh c.t p).a)] 290)) λC=>rs [(3,.l 0),(5,.l 5),(6,.c [2] [2] (Tf b c.t p (b6 ((dh c.t p).l) n) ((dh c.t p).a) Om Om))] 2 ((pk (dZ b (pF c.t p (b6 ((dh c.t p).l) n) ((dh c.t p).a))))) (rr (λ_=>[(0,.l 4),(1,.s 3)]) (λ_=>[(9,i6 0)]) [9] (λ_ L=>L.set 3 (ob (B0 f) #[.bool (cY c.lr ((c.F.getD r bg).l) n),.bool (cY c.lp ((dh c.t p).l) n)] 339)) λD=>lf ab.zero [1,2] [(0,0)] [3]))
theorem Th(g a:Nat)(c:Tk)(b:dV c)(p:Nat):aa ZJ 249 #[pt g 0,iN p] [pk (aD g a c)] [0] (λ_=>[pk (aD g a (qL c p))]) (λ_=> .tuple #[]):=aa.pkZ Tryz.func249 λL e=>by
 obtain⟨v,rfl⟩:=e;refine⟨[1,2],λ_=>[kR v c.F,pk (dZ a (pG c.t p))],?_,rfl,λE=>⟨rfl,rfl,⟨_,rfl⟩⟩⟩;have f:=b.t.l;have h:=b.t.r;have d:=b.t.r1;have i:=b.n;refine fG Tryz.func249 λw cs=>rs [(3,.l 0),(5,.c [2] [2] (Tg a c.t p Om))] 2 ((pk (dZ a (pG c.t p)))) ?_;exact eF ab.zero [1,2] [(0,0)] []
theorem Ti(g a:Nat)(c:Tk)(b:dV c)(r:Nat)(k:r<c.F.length):aa ZJ 250 #[pt g 0,iN r] [pk (aD g a c)] [0] (λ_=>[pk (aD g a (pH c r))]) (λ_=> .tuple #[]):=aa.pkZ Tryz.func250 λL e=>by
 obtain⟨v,rfl⟩:=e;refine⟨[1,2],λ_=>[kR v (c.F.set r (⟨0,0⟩:Bk)),pk (dZ a c.t)],?_,rfl,λE=>⟨rfl,rfl,⟨_,rfl⟩⟩⟩;have f:=b.t.l;have i:=b.t.r;have d:=b.t.r1;have j:=b.n;refine fG Tryz.func250 λw cs=>rT [(2,.c [0,1] [] (aa.at (rd':=[ob g #[iN c.lr,iN c.er,iN c.lp,iN c.ep,iN c.K,iN c.J,v,pt a 0] 294,kR v c.F]) (Gi g v c.F a c.lr c.er c.lp c.ep c.K c.J r Om) (atS (bM (λ_ h=>aq.sq h) (λ_ h=>h)))))] 6 (rs [(3,.l 0),(6,cU lG v c.F 1 r),(7,su lG v c.F 1 r (⟨0,0⟩:Bk))] 1 (kR v (c.F.set r (⟨0,0⟩:Bk))) ?_);exact eF ab.zero [1,2] [(0,0)] []
section
def a2{α:Type}(f:α→α)(l:List α)(k:Nat):List α:=(l.take k).map f++l.drop k
section
variable {α:Type} {f:α→α} {l:List α} {k:Nat} {d:α}
theorem tu(f:α→α)(l:List α)(k:Nat):(a2 f l k).length=l.length:=by unfold a2;rw[ZL,ZU,ZO,ZV];omega
theorem wu(a:k<l.length):(a2 f l k).getD k d=l.getD k d:=by
 unfold a2;rw[ZM,Z3 (by rw[ZU,ZO];omega),ZU,ZO,aam,ZM]
 congr 2;omega
theorem Gk(f:α→α)(l:List α):a2 f l 0=l:=by unfold a2;simp
theorem Gl(f:α→α)(l:List α):a2 f l l.length=l.map f:=by unfold a2;simp
theorem Gm(a:k<l.length):(a2 f l k).set k (f (l.getD k d))=a2 f l (k+1):=by
 unfold a2;rw[aaj _ _ (by rw[ZU,ZO];omega),ZU,ZO,show k-min k l.length=0 by omega,Z4 a,aaa,ZN a,List.map_append,ZP,ZM,ZN a];rfl
end
def eb(ev:Nat)(b:Bk):Bk:=⟨iF ev b.l b.a,iG ev b.l b.a⟩
def c7(ev:Nat)(p:Pa):Pa:=⟨p.k,iF ev p.l p.a,iG ev p.l p.a⟩
theorem Tj{ev:Nat}{l:List Bk}{k:Nat}(b:k<l.length):(a2 (eb ev) l k).set k ⟨iF ev ((a2 (eb ev) l k).getD k bg).l ((a2 (eb ev) l k).getD k bg).a,iG ev ((a2 (eb ev) l k).getD k bg).l ((a2 (eb ev) l k).getD k bg).a⟩=a2 (eb ev) l (k+1):=by
 rw[←Gm (d:=bg) b,wu b];rfl
theorem Tl{ev:Nat}{l:List Pa}{k:Nat}(b:k<l.length):(a2 (c7 ev) l k).set k ⟨((a2 (c7 ev) l k).getD k bt).k,iF ev ((a2 (c7 ev) l k).getD k bt).l ((a2 (c7 ev) l k).getD k bt).a,iG ev ((a2 (c7 ev) l k).getD k bt).l ((a2 (c7 ev) l k).getD k bt).a⟩=a2 (c7 ev) l (k+1):=by
 rw[←Gm (d:=bt) b,wu b];rfl
def tx(t:Tb)(ev:Nat):Tb:={t with l:=a2 (c7 ev) t.l t.l.length}
def mZ(c:Tk):Tk:={c with F:=a2 (eb c.er) c.F c.F.length,t:=tx c.t c.ep}
end
theorem Tm(b g e:Nat)(c:Tk)(hp:iZ c.lp c.ep)(v:Value)(k l a:Nat)(f:ff c.ep l a):aa ZJ 210 #[iN k,.agg #[iN l,iN a],pt b 0] [ob b #[pt g 0] 120,ob g #[iN c.lr,iN c.er,iN c.lp,iN c.ep,iN c.K,iN c.J,v,pt e 0] 294] [] N0 (λ_=> .agg #[iN (iF c.ep l a),iN (iG c.ep l a)]):=by
 exact fG Tryz.func210 λw cs=>ra (λd=>[(4,pt (B0 d) 0),(5,pt (B1 d) 0)]) (λd=>[ob (B0 d) #[iN l,iN a] 290,ob (B1 d) #[i6 0,i6 0] 290]) λd=>rs [(0,.l 2),(1,.l 0),(5,.l 1),(6,.c [] [] (F3 c.lp c.ep l a hp f)),(7,.s 3)] 3 (ob (B1 d) #[iN (iF c.ep l a),iN (iG c.ep l a)] 290) (lf ab.zero [] [(0,0),(1,1)] [3])
theorem Tn(e:Nat)(t:Tb)(b g:Nat)(c:Tk)(o:dV c)(ht:iK c.ep t)(v:Value):aa ZJ 209 #[pt e 0,.func (.func 210) #[] #[pt b 0]] [pk (dZ e t),ob b #[pt g 0] 120,ob g #[iN c.lr,iN c.er,iN c.lp,iN c.ep,iN c.K,iN c.J,v,pt e 0] 294] [0] (λ_=>[pk (dZ e (tx t c.ep))]) (λ_=> .tuple #[]):=aa.pkZ Tryz.func209 λL n=>by
 obtain⟨d,rfl⟩:=n;refine⟨[1],λ_=>[eo d (a2 (c7 c.ep) t.l t.l.length)],?_,rfl,λE=>⟨rfl,rfl,⟨_,rfl⟩⟩⟩;have r:=ht.l;have u:=ht.r;refine fG Tryz.func209 λw cs=>r0 [(3,.l 0),(4,fw eS d t.l 1)] [(9,d),(10,iN t.l.length),(11,i6 0)] [] ?_;refine lq (λk=>k≤t.l.length) (λk=>[(11,iN k)]) (λk L=>L.set 1 (eo d (a2 (c7 c.ep) t.l k))) (λk=>t.l.length-k) 0 Om Kr (by rw[Gk];kernel_rfl) (λk p=>?_);have q:=tu (c7 c.ep) t.l k;refine r0 [] [(12,.bool (decide ((k:Int)<(t.l.length:Int))))] [] ?_;refine cj (k:Int) (t.l.length:Int) (λj h=>?_) λj h=>?_
 ·refine rr (λ_=>[(1,cU eS d (a2 (c7 c.ep) t.l k) 1 k),(2,qg eS d (a2 (c7 c.ep) t.l k) 1 k 0 3),(5,.s 4)]) (λf=>[(5,pt (B3 f) 0),(4,iN k)]) [] (λf L=>L++[ob (B3 f) #[iN (((a2 (c7 c.ep) t.l k).getD k bt).k),iN (((a2 (c7 c.ep) t.l k).getD k bt).l),iN (((a2 (c7 c.ep) t.l k).getD k bt).a)] 386]) λf=>?_;have i:ff c.ep ((a2 (c7 c.ep) t.l k).getD k bt).l ((a2 (c7 c.ep) t.l k).getD k bt).a:=by rw[wu Om];exact ht.b k Om
  exact rs [(3,.m (ld 0 (d))),(7,.m (ld 4 (iN (((a2 (c7 c.ep) t.l k).getD k bt).k)))),(9,.m (ls 4 ([iN (((a2 (c7 c.ep) t.l k).getD k bt).l),iN (((a2 (c7 c.ep) t.l k).getD k bt).a)]))),(10,.c [2,3] [] (Tm b g e c o.p v (((a2 (c7 c.ep) t.l k).getD k bt).k) (((a2 (c7 c.ep) t.l k).getD k bt).l) (((a2 (c7 c.ep) t.l k).getD k bt).a) i)),(11,cU eS d (a2 (c7 c.ep) t.l k) 1 k),(12,u4 eS d (a2 (c7 c.ep) t.l k) 1 (k*3) 1),(13,Gd eS d (a2 (c7 c.ep) t.l k) 1 k 1 (⟨((a2 (c7 c.ep) t.l k).getD k bt).k,iF c.ep (((a2 (c7 c.ep) t.l k).getD k bt).l) (((a2 (c7 c.ep) t.l k).getD k bt).a),iG c.ep (((a2 (c7 c.ep) t.l k).getD k bt).l) (((a2 (c7 c.ep) t.l k).getD k bt).a)⟩:Pa) [iN (iF c.ep (((a2 (c7 c.ep) t.l k).getD k bt).l) (((a2 (c7 c.ep) t.l k).getD k bt).a)),iN (iG c.ep (((a2 (c7 c.ep) t.l k).getD k bt).l) (((a2 (c7 c.ep) t.l k).getD k bt).a))] Kr Om)] 1 (eo d ((a2 (c7 c.ep) t.l k).set k (⟨((a2 (c7 c.ep) t.l k).getD k bt).k,iF c.ep (((a2 (c7 c.ep) t.l k).getD k bt).l) (((a2 (c7 c.ep) t.l k).getD k bt).a),iG c.ep (((a2 (c7 c.ep) t.l k).getD k bt).l) (((a2 (c7 c.ep) t.l k).getD k bt).a)⟩:Pa))) (r0 [(0,ad k 1)] [(11,iN (k+1))] [11] (le (k+1) Om Om Kr [0,1,2,3] (by rw[←Tl Om];kernel_rfl)))
 obtain rfl:t.l.length=k:=by omega
 refine lx ?_;exact eF ab.zero [1] [(0,0),(2,2),(3,3)] []
theorem To(g d:Nat)(c:Tk)(b:dV c):aa ZJ 164 #[pt g 0] [pk (aD g d c)] [0] (λ_=>[pk (aD g d (mZ c))]) (λ_=> .tuple #[]):=aa.pkZ Tryz.func164 λL o=>by
 obtain⟨v,rfl⟩:=o;refine⟨[1,2],λ_=>[kR v (a2 (eb c.er) c.F c.F.length),pk (dZ d (tx c.t c.ep))],?_,rfl,λE=>⟨rfl,rfl,⟨_,rfl⟩⟩⟩;have r:=b.t.l;have t:=b.t.r;have j:=b.t.r1;have u:=b.n;refine fG Tryz.func164 λw cs=>ra (λe=>[(1,pt (B0 e) 0)]) (λe=>[ob (B0 e) #[pt g 0] 120]) λe=>r0 [(0,.l 3),(3,.l 0),(4,fw lG v c.F 1)] [(7,v),(8,iN c.F.length),(9,i6 0)] [] ?_;refine lq (λk=>k≤c.F.length) (λk=>[(9,iN k)]) (λk L=>L.set 1 (kR v (a2 (eb c.er) c.F k))) (λk=>c.F.length-k) 0 Om Kr (by rw[Gk];kernel_rfl) (λk p=>?_);have q:=tu (eb c.er) c.F k;refine r0 [] [(10,.bool (decide ((k:Int)<(c.F.length:Int))))] [] ?_;refine cj (k:Int) (c.F.length:Int) (λn h=>?_) λn h=>?_
 ·refine rr (λ_=>[(1,cU lG v (a2 (eb c.er) c.F k) 1 k),(2,qg lG v (a2 (eb c.er) c.F k) 1 k 0 2),(5,.s 4)]) (λf=>[(3,pt (B3 f) 0),(2,iN k)]) [] (λf L=>L++[ob (B3 f) #[iN (((a2 (eb c.er) c.F k).getD k bg).l),iN (((a2 (eb c.er) c.F k).getD k bg).a)] 290]) λf=>?_;have i:ff c.er ((a2 (eb c.er) c.F k).getD k bg).l ((a2 (eb c.er) c.F k).getD k bg).a:=by rw[wu Om];exact b.b k Om
  exact rs [(0,.m (ld 3 (pt g 0))),(3,.m (ld 0 (v))),(5,.m (ls 4 ([iN (((a2 (eb c.er) c.F k).getD k bg).l),iN (((a2 (eb c.er) c.F k).getD k bg).a)]))),(6,.m (ld 3 (pt g 0))),(10,.m (ls 0 ([iN c.lr,iN c.er]))),(11,.c [] [] (F3 c.lr c.er (((a2 (eb c.er) c.F k).getD k bg).l) (((a2 (eb c.er) c.F k).getD k bg).a) b.r i)),(12,cU lG v (a2 (eb c.er) c.F k) 1 k),(13,su lG v (a2 (eb c.er) c.F k) 1 k (⟨iF c.er (((a2 (eb c.er) c.F k).getD k bg).l) (((a2 (eb c.er) c.F k).getD k bg).a),iG c.er (((a2 (eb c.er) c.F k).getD k bg).l) (((a2 (eb c.er) c.F k).getD k bg).a)⟩:Bk))] 1 (kR v ((a2 (eb c.er) c.F k).set k (⟨iF c.er (((a2 (eb c.er) c.F k).getD k bg).l) (((a2 (eb c.er) c.F k).getD k bg).a),iG c.er (((a2 (eb c.er) c.F k).getD k bg).l) (((a2 (eb c.er) c.F k).getD k bg).a)⟩:Bk))) (r0 [(0,ad k 1)] [(9,iN (k+1))] [9] (le (k+1) Om Om Kr [0,1,2,3] (by rw[←Tj Om];kernel_rfl)))
 obtain rfl:c.F.length=k:=by omega
 refine lx (rs [(0,.l 3),(3,.l 0),(5,.c [2,3,0] [2] (Tn d c.t (B0 e) g c b b.t v))] 2 ((pk (dZ d (tx c.t c.ep)))) ?_);exact eF ab.zero [1,2] [(0,0)] []
theorem Tp(room:Nat)(h1:1≤room)(h2:room≤256):aa ZJ 177 #[iN room,.func (.func 178) #[] #[]] [] [] (λE=>[ob (E.y 0) #[.slice none 0 0,iN room,.func (.func 178) #[] #[]] 356]) (λE=> .tuple #[pt ((E.y 0)) 0,i6 0]):=by
 refine fG Tryz.func177 λw cs=>r0 [] [(4,.pointer none),(5,i6 0)] [] (r0 [] [(11,.bool ((decide ((room:Int)<1))||(decide (256<(room:Int)))))] [] ?_);have b:((decide ((room:Int)<1))||(decide (256<(room:Int))))=false:=by rw[Z1];exact⟨a8 Om,a8 Om⟩
 exact cF ((decide ((room:Int)<1))||(decide (256<(room:Int)))) b (rr N0 (λa=>[(4,pt (B3 a) 0),(5,i6 0)]) [4,5] (λa L=>L++[ob (B3 a) #[.slice none 0 0,iN room,.func (.func 178) #[] #[]] 356]) λa=>lf (.l [(a 3).y 0] [] []) [0] [] [])
theorem Tq(room:Nat)(h1:1≤room)(h2:room≤256):aa ZJ 177 #[iN room,.func (.func 178) #[] #[]] [] [] (λE=>[pk (dZ (E.y 0) ⟨[],room⟩)]) (λE=> .tuple #[pt (E.y 0) 0,i6 0]):=(Tp room h1 h2).outs λE b a=>Ad ⟨_,rfl⟩ a
theorem Gn(f d e b a heavy:Int):aa ZJ 110 #[.agg #[i6 f,i6 d,i6 e,i6 b,i6 a,i6 heavy]] [] [] N0 (λ_=> .bool (((((h8 f d&&h8 e b)&&decide (1≤a))&&decide (a≤256))&&decide (1≤heavy))&&decide (heavy≤65536))):=by
 exact fG Tryz.func110 λw cs=>ra (λg=>[(1,pt (B0 g) 0),(2,.bool false)]) (λg=>[ob (B0 g) #[i6 f,i6 d,i6 e,i6 b,i6 a,i6 heavy] 29]) λg=>r0 [(1,.m (ls 0 ([i6 f,i6 d]))),(2,.c [] [] (Aa f d)),(5,.m (ls 0 ([i6 e,i6 b]))),(6,.c [] [] (Aa e b)),(10,.m (ld 0 (i6 a))),(15,.m (ld 0 (i6 a))),(20,.m (ld 0 (i6 heavy))),(25,.m (ld 0 (i6 heavy))),] [(2,.bool ((((((h8 f d)&&(h8 e b))&&(decide (1≤a)))&&(decide (a≤256)))&&(decide (1≤heavy)))&&(decide (heavy≤65536))))] [2] (ak (.bool ((((((h8 f d)&&(h8 e b))&&(decide (1≤a)))&&(decide (a≤256)))&&(decide (1≤heavy)))&&(decide (heavy≤65536)))) ab.zero a9 [] [] [])
def pI(e c d b a heavy f:Nat):Tk:=⟨e,c,d,b,a,heavy,ZK f bg,⟨[],a⟩⟩
theorem Tr(h f g e a heavy b:Nat)(m:iZ h f)(k:iZ g e)(h1:1≤a)(h2:a≤256)(o:1≤heavy)(n:heavy≤65536)(p:1≤b)(q:b≤8):aa ZJ 138 #[.agg #[iN h,iN f,iN g,iN e,iN a,iN heavy],iN b] [] [] (λE=>[ob (E.y 0) #[iN h,iN f,iN g,iN e,iN a,iN heavy,(E.val 0),pt ((E.y 1)) 0] 294,kR (E.val 0) (ZK b bg),pk (dZ (E.y 1) ⟨[],a⟩)]) (λE=> .tuple #[pt ((E.y 0)) 0,i6 0]):=by
 refine fG Tryz.func138 λw cs=>ra (λj=>[(2,pt (B0 j) 0),(4,.pointer none),(5,i6 0)]) (λj=>[ob (B0 j) #[iN h,iN f,iN g,iN e,iN a,iN heavy] 29]) λj=>rF [(0,.l 0),(1,.c [] [] (aa.v ((Gn (h:Int) (f:Int) (g:Int) (e:Int) (a:Int) (heavy:Int))) λ_=>ALca Value.bool (show(((((h8 (h:Int) (f:Int)&&h8 (g:Int) (e:Int))&&decide (1≤(a:Int)))&&decide ((a:Int)≤256))&&decide (1≤(heavy:Int)))&&decide ((heavy:Int)≤65536))=true from(by rw[m.r,k.r];simp only[ZR,decide_eq_true_eq,true_and];omega))))] 8 (r0 [] [(12,.bool ((decide ((b:Int)<1))||(decide (8<(b:Int)))))] [] ?_);have n:((decide ((b:Int)<1))||(decide (8<(b:Int))))=false:=by rw[Z1];exact⟨a8 Om,a8 Om⟩
 exact cF ((decide ((b:Int)<1))||(decide (8<(b:Int)))) n (rr (λ_=>[(1,.l 0),(2,.c [] [1] (Tq a Om Om))]) (λi=>[(6,pt ((B2 i)) 0),(7,i6 0)]) [] (λi L=>L++[pk (dZ (B2 i) ⟨[],a⟩)]) λi=>rF [] 26 (rr (λ_=>[(0,.l 0),(2,sG lG 2 b)]) (λd=>[(4,pt (B5 d) 0),(5,i6 0)]) [4,5] (λd L=>L++[kR (.slice (some ⟨(d 2).y 0,0,none⟩) b b) (ZK b bg),ob (B5 d) #[iN h,iN f,iN g,iN e,iN a,iN heavy,.slice (some ⟨(d 2).y 0,0,none⟩) b b,pt ((B2 i)) 0] 294]) λd=>lf (.l [(d 5).y 0,(B2 i)] [] [.slice (some ⟨(d 2).y 0,0,none⟩) b b]) [3,2,1] [] []))
theorem Ts(f d e c a heavy b:Nat)(h:iZ f d)(g:iZ e c)(h1:1≤a)(h2:a≤256)(i:1≤heavy)(j:heavy≤65536)(k:1≤b)(l:b≤8):aa ZJ 138 #[.agg #[iN f,iN d,iN e,iN c,iN a,iN heavy],iN b] [] [] (λE=>[pk (aD (E.y 0) (E.y 1) (pI f d e c a heavy b))]) (λE=> .tuple #[pt ((E.y 0)) 0,i6 0]):=(Tr f d e c a heavy b h g h1 h2 i j k l).outs λE n m=>td ⟨_,rfl⟩ m
def lH(r s b m c way a:Int):Bool:=(((((jr r s b m c&&decide (0≤way))&&decide (way<4))&&decide (0≤a))&&decide (a≤64))&&decide (a<r*b*m))
theorem Tt(R S B M C:Nat)(d:cM R S B M C)(way a:Int):aa ZJ 106 #[.agg #[iN R,iN S,iN B,iN M,iN C,i6 way,i6 a]] [] [] N0 (λ_=> .bool (lH R S B M C way a)):=by
 exact fG Tryz.func106 λw cs=>ra (λb=>[(1,pt (B0 b) 0),(2,.bool false)]) (λb=>[ob (B0 b) #[iN R,iN S,iN B,iN M,iN C,i6 way,i6 a] 25]) λb=>r0 [(1,.m (ls 0 ([iN R,iN S,iN B,iN M,iN C]))),(3,.m (ld 0 (i6 way))),(4,.c [] [] (zN (R:Int) (S:Int) (B:Int) (M:Int) (C:Int) way)),(7,.m (ld 0 (i6 a))),(12,.m (ld 0 (i6 a))),(17,.m (ld 0 (i6 a))),(19,.m (ls 0 ([iN R,iN S,iN B,iN M,iN C]))),(20,.c [] [] (mU R S B M C d)),] [(2,.bool ((((((jr (R:Int) (S:Int) (B:Int) (M:Int) (C:Int))&&(decide (0≤way)))&&(decide (way<4)))&&(decide (0≤a)))&&(decide (a≤64)))&&(decide (a<(((R*B)*M:Nat):Int)))))] [2] (ak (.bool ((((((jr (R:Int) (S:Int) (B:Int) (M:Int) (C:Int))&&(decide (0≤way)))&&(decide (way<4)))&&(decide (0≤a)))&&(decide (a≤64)))&&(decide (a<(((R*B)*M:Nat):Int))))) ab.zero (by unfold lH;rw[ZY,ZY]) [] [] [])
theorem Tu(r s b m c way a:Int)(f:jr r s b m c=false):aa ZJ 106 #[.agg #[i6 r,i6 s,i6 b,i6 m,i6 c,i6 way,i6 a]] [] [] N0 (λ_=> .bool (lH r s b m c way a)):=by
 exact fG Tryz.func106 λw cs=>ra (λe=>[(1,pt (B0 e) 0),(2,.bool false)]) (λe=>[ob (B0 e) #[i6 r,i6 s,i6 b,i6 m,i6 c,i6 way,i6 a] 25]) λe=>r0 [(1,.m (ls 0 ([i6 r,i6 s,i6 b,i6 m,i6 c]))),(3,.m (ld 0 (i6 way))),(4,.c [] [] (aa.v ((zN r s b m c way)) λ_=>ALca Value.bool (show(((jr r s b m c)&&(decide (0≤way)))&&(decide (way<4)))=false from(by rw[f];rfl)))),(6,.d),(7,.d),(8,.d),(11,.d),(12,.d),(13,.d),(16,.d),(17,.d),(18,.d),(19,.d),(20,.d),(21,.d)] [(2,.bool false)] [2] (ak (.bool false) ab.zero (by unfold lH;rw[f];rfl) [] [] [])
theorem Tv(r s b m c way a:Int):aa ZJ 106 #[.agg #[i6 r,i6 s,i6 b,i6 m,i6 c,i6 way,i6 a]] [] [] N0 (λ_=> .bool (lH r s b m c way a)):=by
 cases d:jr r s b m c with
 | false=>exact Tu r s b m c way a d
 | true=>
  obtain⟨R,S,B,M,C,rfl,rfl,rfl,rfl,rfl,e⟩:=Fh d;exact Tt R S B M C e way a
def m0(r s b m c way e mode i g h f a heavy d:Int):Bool:=((((lH r s b m c way e&&((mode==1)||(mode==2)))&&(((((h8 i g&&h8 h f)&&decide (1≤a))&&decide (a≤256))&&decide (1≤heavy))&&decide (heavy≤65536)))&&decide (1≤d))&&decide (d≤256))
theorem Gp(r s b m c way e mode j h i g a heavy d:Int)(f:Bool):aa ZJ 79 #[.agg #[i6 r,i6 s,i6 b,i6 m,i6 c,i6 way,i6 e,i6 mode,i6 j,i6 h,i6 i,i6 g,i6 a,i6 heavy,i6 d,.bool f]] [] [] N0 (λ_=> .bool (m0 r s b m c way e mode j h i g a heavy d)):=by
 exact fG Tryz.func79 λw cs=>ra (λk=>[(1,pt (B0 k) 0),(2,.bool false)]) (λk=>[ob (B0 k) #[i6 r,i6 s,i6 b,i6 m,i6 c,i6 way,i6 e,i6 mode,i6 j,i6 h,i6 i,i6 g,i6 a,i6 heavy,i6 d,.bool f] 31]) λk=>r0 [(1,.m (ls 0 ([i6 r,i6 s,i6 b,i6 m,i6 c,i6 way,i6 e]))),(2,.c [] [] (Tv r s b m c way e)),(5,.m (ld 0 (i6 mode))),(6,.c [] [] (pb mode)),(10,.m (ls 0 ([i6 j,i6 h,i6 i,i6 g,i6 a,i6 heavy]))),(11,.c [] [] (Gn j h i g a heavy)),(15,.m (ld 0 (i6 d))),(20,.m (ld 0 (i6 d))),] [(2,.bool (((((lH r s b m c way e)&&((mode==1)||(mode==2)))&&(((((h8 j h&&h8 i g)&&decide (1≤a))&&decide (a≤256))&&decide (1≤heavy))&&decide (heavy≤65536)))&&(decide (1≤d)))&&(decide (d≤256))))] [2] (ak (.bool (((((lH r s b m c way e)&&((mode==1)||(mode==2)))&&(((((h8 j h&&h8 i g)&&decide (1≤a))&&decide (a≤256))&&decide (1≤heavy))&&decide (heavy≤65536)))&&(decide (1≤d)))&&(decide (d≤256)))) ab.zero a9 [] [] [])
structure Cf where
 R:Nat
 S:Nat
 B:Nat
 M:Nat
 C:Nat
 G:Nat
 res:Nat
 E:Nat
 lr:Nat
 er:Nat
 lp:Nat
 ep:Nat
 K:Nat
 J:Nat
 log:Nat
 Y:Bool
abbrev cA(c:Cf):Array Value:=#[i6 (c.R:Int),i6 (c.S:Int),i6 (c.B:Int),i6 (c.M:Int),i6 (c.C:Int),i6 (c.G:Int),i6 (c.res:Int),i6 (c.E:Int),i6 (c.lr:Int),i6 (c.er:Int),i6 (c.lp:Int),i6 (c.ep:Int),i6 (c.K:Int),i6 (c.J:Int),i6 (c.log:Int),.bool c.Y]
abbrev lA(c:Cf)(a b d t:Nat):Array Value:=#[i6 (c.R:Int),i6 (c.S:Int),i6 (c.B:Int),i6 (c.M:Int),i6 (c.C:Int),i6 (c.G:Int),i6 (c.res:Int),i6 (c.E:Int),i6 (c.lr:Int),i6 (c.er:Int),i6 (c.lp:Int),i6 (c.ep:Int),i6 (c.K:Int),i6 (c.J:Int),i6 (c.log:Int),.bool c.Y,pt a 0,pt b 0,pt d 0,i6 (t:Int)]
structure c8 (c:Cf):Prop where
 ly:iD c.R c.S c.B c.M c.C c.G c.res
 E:c.E=1∨c.E=2
 r:iZ c.lr c.er
 p:iZ c.lp c.ep
 m1:1≤c.K
 m2:c.K≤256
 h1:1≤c.J
 h2:c.J≤65536
 l1:1≤c.log
 l2:c.log≤256
theorem Tw{k:Nat}{w:World}(h:k<3):(Instr.index 228 (.agg #[i6 0,i6 0,i6 0]) (.int .i64 (k:Int))).run ZJ w= .ok (i6 0) w:=by
 rcases k with _ | _ | _ | k
 ·kernel_rfl
 ·kernel_rfl
 ·kernel_rfl
 ·omega
theorem iD.v{R S B M C way a:Nat}(h:iD R S B M C way a):lH R S B M C way a=true:=by
 have b:=h.G;have c:=h.r64;have d:=h.rp;unfold lH;rw[h.O.ok];simp only[aay,ZR,decide_eq_true_eq];rw[←ZY,←ZY];omega
theorem c8.v{c:Cf}(h:c8 c):m0 c.R c.S c.B c.M c.C c.G c.res c.E c.lr c.er c.lp c.ep c.K c.J c.log=true:=by
 have a:=h.m1;have b:=h.m2;have d:=h.h1;have f:=h.h2;have g:=h.l1;have i:=h.l2;unfold m0;rw[h.ly.v,h.r.r,h.p.r];simp only[aay,ZR,aac,decide_eq_true_eq,beq_iff_eq];rcases h.E with e | e<;>omega
theorem Tx{r s b m c way a:Int}(h:lH r s b m c way a=true): ∃R S B M C w q:Nat,r=R∧s=S∧b=B∧m=M∧c=C∧way=w∧a=q∧iD R S B M C w q:=by
 unfold lH at h;simp only[ZR,decide_eq_true_eq] at h;obtain⟨⟨⟨⟨⟨f,g⟩,i⟩,j⟩,k⟩,d⟩:=h;obtain⟨R,S,B,M,C,rfl,rfl,rfl,rfl,rfl,e⟩:=Fh f;rw[←ZY,←ZY] at d;exact⟨R,S,B,M,C,way.toNat,a.toNat,rfl,rfl,rfl,rfl,rfl,by omega,by omega,e,by omega,by omega,by omega⟩
theorem Ty{r s b m c way f mode k i j g a heavy d:Int}(e:Bool)(h:m0 r s b m c way f mode k i j g a heavy d=true): ∃q:Cf,r=q.R∧s=q.S∧b=q.B∧m=q.M∧c=q.C∧way=q.G∧f=q.res∧mode=q.E∧k=q.lr∧i=q.er∧j=q.lp∧g=q.ep∧a=q.K∧heavy=q.J∧d=q.log∧e=q.Y∧c8 q:=by
 unfold m0 at h;simp only[ZR,aac,decide_eq_true_eq,beq_iff_eq] at h;obtain⟨⟨⟨⟨p,D⟩,⟨⟨⟨⟨⟨t,hp⟩,u⟩,v⟩,x⟩,y⟩⟩,z⟩,A⟩:=h;obtain⟨R,S,B,M,C,w,q,rfl,rfl,rfl,rfl,rfl,rfl,rfl,l⟩:=Tx p;obtain⟨k,i,rfl,rfl,o⟩:=FY t;obtain⟨j,g,rfl,rfl,n⟩:=FY hp;exact⟨⟨R,S,B,M,C,w,q,mode.toNat,k,i,j,g,a.toNat,heavy.toNat,d.toNat,e⟩,rfl,rfl,rfl,rfl,rfl,rfl,rfl,by show mode=(mode.toNat:Int);omega,rfl,rfl,rfl,rfl,by show a=(a.toNat:Int);omega,by show heavy=(heavy.toNat:Int);omega,by show d=(d.toNat:Int);omega,rfl,l,by show mode.toNat=1∨mode.toNat=2;omega,o,n,by show 1≤a.toNat;omega,by show a.toNat≤256;omega,by show 1≤heavy.toNat;omega,by show heavy.toNat≤65536;omega,by show 1≤d.toNat;omega,by show d.toNat≤256;omega⟩
theorem Ag(c:Cf)(h:c8 c):aa ZJ 79 #[.agg (cA c)] [] [] N0 (λ_=> .bool true):=by
 have a:=Gp c.R c.S c.B c.M c.C c.G c.res c.E c.lr c.er c.lp c.ep c.K c.J c.log c.Y;rwa [h.v] at a
theorem Tz(c:Cf)(a:c8 c):aa ZJ 114 #[.agg (cA c)] [] [] (λE=>[ob (E.y 0) #[iN c.R,iN c.S,iN c.B,iN c.M,iN c.C,iN c.G,iN c.res,iN c.E,iN c.lr,iN c.er,iN c.lp,iN c.ep,iN c.K,iN c.J,iN c.log,.bool c.Y,pt ((E.y 1)) 0,pt ((E.y 2)) 0,pt ((E.y 3)) 0,i6 0] 122,pk (ar (E.y 1) ((E.y 4)) ((E.y 5)) ⟨lF c.R c.S c.B c.M c.C c.G c.res,kt,[]⟩),pk (aD (E.y 2) ((E.y 6)) (pI c.lr c.er c.lp c.ep c.K c.J c.R)),pk (az (E.y 3) (pD c.log))]) (λE=> .tuple #[pt ((E.y 0)) 0,i6 0]):=by
 have f:=a.ly;have p:=a.r;have o:=a.p;have y:=a.m1;have z:=a.m2;have q:=a.h1;have r:=a.h2;have v:=a.l1;have x:=a.l2;have A:=f.O.bd.r1;have B:=f.O.bd.r8;refine fG Tryz.func114 λw cs=>ra (λi=>[(1,pt (B0 i) 0),(2,.pointer none),(3,i6 0)]) (λi=>[ob (B0 i) (cA c) 31]) λi=>rF [(0,.l 0),(1,.c [] [] (Ag c a))] 10 (rr (λ_=>[(0,.l 0)]) (λd=>[(4,pt (B2 d) 0)]) [] (λd L=>L++[ob (B2 d) #[iN c.R,iN c.S,iN c.B,iN c.M,iN c.C,iN c.G,iN c.res,iN c.E,iN c.lr,iN c.er,iN c.lp,iN c.ep,iN c.K,iN c.J,iN c.log,.bool c.Y,.pointer none,.pointer none,.pointer none,i6 0] 122]) λd=>ra (λj=>[(5,pt (B0 j) 0)]) (λj=>[ob (B0 j) #[i6 0,i6 0,i6 0] 228]) λj=>rr (λb=>[(2,.m (ls 0 ([iN c.R,iN c.S,iN c.B,iN c.M,iN c.C,iN c.G,iN c.res]))),(3,.c [] [3] (R7 c.R c.S c.B c.M c.C c.G c.res f)),(9,.s 1),(11,.s 2)]) N0 [] (λb L=>L.set 1 (ob (B2 d) #[iN c.R,iN c.S,iN c.B,iN c.M,iN c.C,iN c.G,iN c.res,iN c.E,iN c.lr,iN c.er,iN c.lp,iN c.ep,iN c.K,iN c.J,iN c.log,.bool c.Y,pt ((B3 b)) 0,.pointer none,.pointer none,i6 0] 122)++[pk (ar (B3 b) ((b 3).y 1) ((b 3).y 2) ⟨lF c.R c.S c.B c.M c.C c.G c.res,kt,[]⟩)]) λb=>rr (λe=>[(2,.m (ls 0 ([iN c.lr,iN c.er,iN c.lp,iN c.ep,iN c.K,iN c.J]))),(6,.m (ld 0 (iN c.R))),(7,.c [] [4] (Ts c.lr c.er c.lp c.ep c.K c.J c.R p o Om Om Om Om Om Om)),(13,.s 1),(15,.s 2)]) N0 [] (λe L=>L.set 1 (ob (B2 d) #[iN c.R,iN c.S,iN c.B,iN c.M,iN c.C,iN c.G,iN c.res,iN c.E,iN c.lr,iN c.er,iN c.lp,iN c.ep,iN c.K,iN c.J,iN c.log,.bool c.Y,pt ((B3 b)) 0,pt ((B7 e)) 0,.pointer none,i6 0] 122)++[pk (aD (B7 e) ((e 7).y 1) (pI c.lr c.er c.lp c.ep c.K c.J c.R))]) λe=>rr (λh=>[(2,.m (ld 0 (iN c.log))),(3,.c [] [5] (SI c.log Om Om)),(9,.s 1),(11,.s 2)]) N0 [] (λh L=>L.set 1 (ob (B2 d) #[iN c.R,iN c.S,iN c.B,iN c.M,iN c.C,iN c.G,iN c.res,iN c.E,iN c.lr,iN c.er,iN c.lp,iN c.ep,iN c.K,iN c.J,iN c.log,.bool c.Y,pt ((B3 b)) 0,pt ((B7 e)) 0,pt ((B3 h)) 0,i6 0] 122)++[pk (az (B3 h) (pD c.log))]) λh=>r0 [(0,.l 2)] [(48,.agg #[i6 0,i6 0,i6 0]),(49,i6 0)] [] ?_);refine lq (λk=>k≤3) (λk=>[(49,iN k)]) (λ_ L=>L) (λk=>3-k) 0 Om Kr Kr (λk u=>?_);refine r0 [] [(50,.bool (decide ((k:Int)<3)))] [] ?_;refine cj (k:Int) 3 (λn g=>?_) λn g=>?_
 ·exact r0 [(0,.t (tv (Instr.index 228 (.agg #[i6 0,i6 0,i6 0]) (iN k)) (λ_=>Tw Om)))] [(7,i6 0)] [] (rF [] 53 (r0 [(0,ad k 1)] [(49,iN (k+1))] [49] (le (k+1) Om Om Kr [0,1,2,3,4,5] Kr)))
 obtain rfl:k=3:=by omega
 exact lx (r0 [] [(2,pt (B2 d) 0),(3,i6 0)] [] (lf (.l [(d 2).y 0,(B3 b),(B7 e),(B3 h),(b 3).y 1,(b 3).y 2,(e 7).y 1] [] []) [1,3,4,5] [] []))
theorem nJ(b e d a:Nat)(c:Cf)(time:Nat)(g:Lg)(f:gj g)(k i o:Nat):aa ZJ 205 #[pt b 0,iN k,iN i,iN o] [ob b (lA c e d a time) 122,pk (az a g)] [1] (λ_=>[pk (az a (bT g ⟨0,time,k,i,o⟩))]) (λ_=> .tuple #[]):=by
 refine fG Tryz.func205 λw cs=>rs [(3,.m (ld 0 (pt a 0))),(7,.m (ld 0 (iN time))),(12,.c [1] [1] (SR a g ⟨0,time,k,i,o⟩ f))] 1 ((pk (az a (bT g ⟨0,time,k,i,o⟩)))) ?_;exact eF ab.zero [1] [(0,0)] [] (hf:=by kernel_rfl)
theorem TA(g a b:Nat)(r:Rp)(d:aO r)(p:Nat)(hp:p<r.m.R*r.m.B*r.m.M):aa ZJ 64 #[pt a 0,iN p] [pk (ar g a b r)] [0] (λ_=>[pk (ar g a b r)]) (λ_=> .tuple #[iN (bu r.m p),i6 0]):=(FE a r.m d.m p hp).inW λL c=>⟨1,by rw[c];rfl,by rw[c];rfl⟩
theorem TB(g a b:Nat)(r:Rp)(d:aO r)(p:Nat)(hp:p<r.m.R*r.m.B*r.m.M):aa ZJ 86 #[pt a 0,iN p] [pk (ar g a b r)] [0] (λ_=>[pk (ar g a b r)]) (λ_=> .bool (decide (p<r.m.R*r.m.B*r.m.M-r.m.res+r.m.P)&& !r.m.Q.getD p false)):=(Q9 a r.m d.m p hp).inW λL c=>⟨1,by rw[c];rfl,by rw[c];rfl⟩
theorem Gq(g a b:Nat)(r:Rp)(d:aO r):aa ZJ 63 #[pt a 0] [pk (ar g a b r)] [0] (λ_=>[pk (ar g a b r)]) (λ_=> .agg #[iN r.m.R,iN r.m.S,iN r.m.B,iN r.m.M,iN r.m.C,iN r.m.G,iN r.m.res]):=(jv a r.m d.m).inW λL c=>⟨1,by rw[c];rfl,by rw[c];rfl⟩
theorem qM(g a i h d e:Nat)(c:Cf)(time:Nat)(r:Rp)(f:aO r)(p:Nat)(hp:p<r.m.R*r.m.B*r.m.M):aa ZJ 248 #[pt g 0,iN p] [ob g (lA c a i h time) 122,pk (ar a d e r)] [1] (λ_=>[pk (ar a d e r)]) (λ_=>iN (bu r.m p*64)):=by
 have j:=vZ f.m hp;exact fG Tryz.func248 λw cs=>r0 [] [(4,i6 0)] [] (r0 [(3,.m (ld 0 (pt a 0))),(4,.c [1] [1] (wj a d e r f)),(6,.c [1] [1] (TA a d e r f p hp)),] [(5,iN (bu r.m p))] [] (r0 [(1,.t (tv (av .shl 3 (.tmp 17) (.const (u6 6)) (iN (bu r.m p)) (u6 6)) (λ_=>dN (b:=((bu r.m p*64:Nat):Int)) (fV 6 Dc Om Om) Om)))] [(4,iN (bu r.m p*64))] [4] (lf ab.zero [1] [(0,0)] [])))
theorem TC(i h e a j m p:Nat)(c:Cf)(time:Nat)(r:Rp)(n:aO r)(k:Tk)(y:dV k)(g:Lg)(s:gj g)(f t:Nat)(q:f<r.m.R*r.m.B*r.m.M)(x:t<r.m.R*r.m.B*r.m.M):aa ZJ 213 #[pt i 0,i6 1,.agg #[i6 3,iN f,iN t]] [ob i (lA c h e a time) 122,pk (ar h j m r),pk (aD e p k),pk (az a g)] [1,2,3] (λ_=>[pk (ar h j m r),pk (aD e p k),pk (az a (bT g ⟨0,time,3,(bu r.m f*64),(bu r.m t*64)⟩))]) (λ_=> .tuple #[]):=by
 have u:=n.m.np;have v:=n.m.ly.rp;refine fG Tryz.func213 λw cs=>ra (λo=>[(5,pt (B0 o) 0)]) (λo=>[ob (B0 o) #[i6 3,iN f,iN t] 349]) λo=>r0 [(1,.l 4),(2,.t (tv (av .shl 3 (.tmp 9) (.const (u6 20)) (iN f) (u6 20)) (λ_=>dN (b:=((f*1048576:Nat):Int)) (fV 20 Dc Om Om) Om))),(4,.l 4),(5,.t (tv (av .shl 3 (.tmp 12) (.const (u6 20)) (iN t) (u6 20)) (λ_=>dN (b:=((t*1048576:Nat):Int)) (fV 20 Dc Om Om) Om)))] [(6,iN (f*1048576)),(7,iN (t*1048576))] [] (rT [] 15 (r0 [(2,.l 4),(3,.c [0,1] [1] (qM i h e a j m c time r n f Om)),(6,.l 4),(7,.c [0,1] [1] (qM i h e a j m c time r n t Om))] [(6,iN (bu r.m f*64)),(7,iN (bu r.m t*64))] [6,7] (rF [(1,.l 4)] 26 (rs [(2,.l 4),(5,.c [0,3] [3] (nJ i h e a c time g s 3 (bu r.m f*64) (bu r.m t*64)))] 3 ((pk (az a (bT g ⟨0,time,3,(bu r.m f*64),(bu r.m t*64)⟩)))) (rF [(1,.l 4),(4,.d),(5,.d)] 35 (rF [(1,.l 4)] 50 ?_))))));exact eF ab.zero [1,2,3] [(0,0)] []
theorem TE(i h e a j m p:Nat)(c:Cf)(time:Nat)(r:Rp)(n:aO r)(k:Tk)(x:dV k)(g:Lg)(s:gj g)(f:Nat)(q:f<r.m.R*r.m.B*r.m.M):aa ZJ 213 #[pt i 0,i6 1,.agg #[i6 5,iN f,i6 0]] [ob i (lA c h e a time) 122,pk (ar h j m r),pk (aD e p k),pk (az a g)] [1,2,3] (λ_=>[pk (ar h j m r),pk (aD e p k),pk (az a (bT g ⟨0,time,5,(bu r.m f*64),0⟩))]) (λ_=> .tuple #[]):=by
 have u:=n.m.np;have v:=n.m.ly.rp;refine fG Tryz.func213 λw cs=>ra (λo=>[(5,pt (B0 o) 0)]) (λo=>[ob (B0 o) #[i6 5,iN f,i6 0] 349]) λo=>r0 [(1,.l 4),(2,.t (tv (av .shl 3 (.tmp 9) (.const (u6 20)) (iN f) (u6 20)) (λ_=>dN (b:=((f*1048576:Nat):Int)) (fV 20 Dc Om Om) Om))),(4,.l 4),(5,.t (tv (av .shl 3 (.tmp 12) (.const (u6 20)) (i6 0) (u6 20)) (λ_=>dN (b:=((0:Nat):Int)) (fV 20 Dc Om Om) Om)))] [(6,iN (f*1048576)),(7,i6 0)] [] (rT [] 15 (r0 [(2,.l 4),(3,.c [0,1] [1] (qM i h e a j m c time r n f Om)),(6,.l 4),(7,.c [0,1] [1] (qM i h e a j m c time r n 0 Om))] [(6,iN (bu r.m f*64)),(7,iN (bu r.m 0*64))] [6,7] (rT [(1,.l 4)] 26 (r0 [(1,.l 4)] [(7,i6 0)] [7] (rs [(2,.l 4),(5,.c [0,3] [3] (nJ i h e a c time g s 5 (bu r.m f*64) 0))] 3 ((pk (az a (bT g ⟨0,time,5,(bu r.m f*64),0⟩)))) (rF [(1,.l 4),(4,.d),(5,.d)] 35 (rF [(1,.l 4)] 50 ?_)))))));exact eF ab.zero [1,2,3] [(0,0)] []
theorem TF(h e a d i j m:Nat)(c:Cf)(time:Nat)(r:Rp)(n:aO r)(k:Tk)(s:dV k)(g:Lg)(q:gj g)(f t:Nat)(p:f<r.m.R*r.m.B*r.m.M)(x:t<r.m.R*r.m.B*r.m.M):aa ZJ 213 #[pt h 0,i6 1,.agg #[i6 6,iN f,iN t]] [ob h (lA c e a d time) 122,pk (ar e i j r),pk (aD a m k),pk (az d g)] [1,2,3] (λ_=>[pk (ar e i j r),pk (aD a m (qL k f)),pk (az d (bT g ⟨0,time,6,(bu r.m f*64),(bu r.m t*64)⟩))]) (λ_=> .tuple #[]):=by
 have u:=n.m.np;have v:=n.m.ly.rp;refine fG Tryz.func213 λw cs=>ra (λo=>[(5,pt (B0 o) 0)]) (λo=>[ob (B0 o) #[i6 6,iN f,iN t] 349]) λo=>r0 [(1,.l 4),(2,.t (tv (av .shl 3 (.tmp 9) (.const (u6 20)) (iN f) (u6 20)) (λ_=>dN (b:=((f*1048576:Nat):Int)) (fV 20 Dc Om Om) Om))),(4,.l 4),(5,.t (tv (av .shl 3 (.tmp 12) (.const (u6 20)) (iN t) (u6 20)) (λ_=>dN (b:=((t*1048576:Nat):Int)) (fV 20 Dc Om Om) Om)))] [(6,iN (f*1048576)),(7,iN (t*1048576))] [] (rT [] 15 (r0 [(2,.l 4),(3,.c [0,1] [1] (qM h e a d i j c time r n f Om)),(6,.l 4),(7,.c [0,1] [1] (qM h e a d i j c time r n t Om))] [(6,iN (bu r.m f*64)),(7,iN (bu r.m t*64))] [6,7] (rF [(1,.l 4)] 26 (rs [(2,.l 4),(5,.c [0,3] [3] (nJ h e a d c time g q 6 (bu r.m f*64) (bu r.m t*64)))] 3 ((pk (az d (bT g ⟨0,time,6,(bu r.m f*64),(bu r.m t*64)⟩)))) (rT [(1,.l 4)] 35 (rs [(3,.l 0),(5,.l 4),(6,.c [2] [2] (Th a m k s f))] 2 ((pk (aD a m (qL k f)))) ?_))))));exact eF ab.zero [1,2,3] [(0,0)] []
theorem TG(j h e a m n o:Nat)(c:Cf)(time:Nat)(r:Rp)(p:aO r)(k:Tk)(y:dV k)(g:Lg)(s:gj g)(f t:Nat)(q:f<8)(x:t<8):aa ZJ 213 #[pt j 0,i6 2,.agg #[i6 4,iN f,iN t]] [ob j (lA c h e a time) 122,pk (ar h m n r),pk (aD e o k),pk (az a g)] [1,2,3] (λ_=>[pk (ar h m n r),pk (aD e o k),pk (az a (bT g ⟨0,time,4,(f*1048576),(t*1048576)⟩))]) (λ_=> .tuple #[]):=by
 have u:=p.m.np;have v:=p.m.ly.rp;refine fG Tryz.func213 λw cs=>ra (λi=>[(5,pt (B0 i) 0)]) (λi=>[ob (B0 i) #[i6 4,iN f,iN t] 349]) λi=>r0 [(1,.l 4),(2,.t (tv (av .shl 3 (.tmp 9) (.const (u6 20)) (iN f) (u6 20)) (λ_=>dN (b:=((f*1048576:Nat):Int)) (fV 20 Dc Om Om) Om))),(4,.l 4),(5,.t (tv (av .shl 3 (.tmp 12) (.const (u6 20)) (iN t) (u6 20)) (λ_=>dN (b:=((t*1048576:Nat):Int)) (fV 20 Dc Om Om) Om)))] [(6,iN (f*1048576)),(7,iN (t*1048576))] [] (rF [] 15 (rF [(1,.l 4)] 26 (rs [(2,.l 4),(5,.c [0,3] [3] (nJ j h e a c time g s 4 (f*1048576) (t*1048576)))] 3 ((pk (az a (bT g ⟨0,time,4,(f*1048576),(t*1048576)⟩)))) (rF [(1,.l 4),(4,.d),(5,.d)] 35 (rF [(1,.l 4)] 50 ?_)))));exact eF ab.zero [1,2,3] [(0,0)] []
theorem TI(j h e a m n o:Nat)(c:Cf)(time:Nat)(r:Rp)(p:aO r)(k:Tk)(x:dV k)(g:Lg)(s:gj g)(f:Nat)(q:f<8):aa ZJ 213 #[pt j 0,i6 2,.agg #[i6 5,iN f,i6 1]] [ob j (lA c h e a time) 122,pk (ar h m n r),pk (aD e o k),pk (az a g)] [1,2,3] (λ_=>[pk (ar h m n r),pk (aD e o k),pk (az a (bT g ⟨0,time,5,(f*1048576),1⟩))]) (λ_=> .tuple #[]):=by
 have u:=p.m.np;have v:=p.m.ly.rp;refine fG Tryz.func213 λw cs=>ra (λi=>[(5,pt (B0 i) 0)]) (λi=>[ob (B0 i) #[i6 5,iN f,i6 1] 349]) λi=>r0 [(1,.l 4),(2,.t (tv (av .shl 3 (.tmp 9) (.const (u6 20)) (iN f) (u6 20)) (λ_=>dN (b:=((f*1048576:Nat):Int)) (fV 20 Dc Om Om) Om))),(4,.l 4),(5,.t (tv (av .shl 3 (.tmp 12) (.const (u6 20)) (i6 1) (u6 20)) (λ_=>dN (b:=((1048576:Nat):Int)) (fV 20 Dc Om Om) Om)))] [(6,iN (f*1048576)),(7,i6 1048576)] [] (rF [] 15 (rT [(1,.l 4)] 26 (r0 [(1,.l 4)] [(7,i6 1)] [7] (rs [(2,.l 4),(5,.c [0,3] [3] (nJ j h e a c time g s 5 (f*1048576) 1))] 3 ((pk (az a (bT g ⟨0,time,5,(f*1048576),1⟩)))) (rF [(1,.l 4),(4,.d),(5,.d)] 35 (rF [(1,.l 4)] 50 ?_))))));exact eF ab.zero [1,2,3] [(0,0)] []
theorem TJ(j e a d m n h:Nat)(c:Cf)(time:Nat)(r:Rp)(o:aO r)(k:Tk)(u:dV k)(g:Lg)(s:gj g)(f t:Nat)(p:f<8)(y:t<8)(q:f<k.F.length):aa ZJ 213 #[pt j 0,i6 2,.agg #[i6 6,iN f,iN t]] [ob j (lA c e a d time) 122,pk (ar e m n r),pk (aD a h k),pk (az d g)] [1,2,3] (λ_=>[pk (ar e m n r),pk (aD a h (pH k f)),pk (az d (bT g ⟨0,time,6,(f*1048576),(t*1048576)⟩))]) (λ_=> .tuple #[]):=by
 have v:=o.m.np;have x:=o.m.ly.rp;refine fG Tryz.func213 λw cs=>ra (λi=>[(5,pt (B0 i) 0)]) (λi=>[ob (B0 i) #[i6 6,iN f,iN t] 349]) λi=>r0 [(1,.l 4),(2,.t (tv (av .shl 3 (.tmp 9) (.const (u6 20)) (iN f) (u6 20)) (λ_=>dN (b:=((f*1048576:Nat):Int)) (fV 20 Dc Om Om) Om))),(4,.l 4),(5,.t (tv (av .shl 3 (.tmp 12) (.const (u6 20)) (iN t) (u6 20)) (λ_=>dN (b:=((t*1048576:Nat):Int)) (fV 20 Dc Om Om) Om)))] [(6,iN (f*1048576)),(7,iN (t*1048576))] [] (rF [] 15 (rF [(1,.l 4)] 26 (rs [(2,.l 4),(5,.c [0,3] [3] (nJ j e a d c time g s 6 (f*1048576) (t*1048576)))] 3 ((pk (az d (bT g ⟨0,time,6,(f*1048576),(t*1048576)⟩)))) (rF [(1,.l 4)] 35 (rT [(1,.l 4)] 50 (rs [(3,.l 0),(5,.l 4),(6,.c [2] [2] (Ti a h k u f Om))] 2 ((pk (aD a h (pH k f)))) ?_))))));exact eF ab.zero [1,2,3] [(0,0)] []
theorem TK(m:Nat)(a:m<18446744073709551616):aa ZJ 131 #[u6 (m:Int)] [] [] N0 (λ_=> .bool (decide (pc m=64))):=by
 exact fG Tryz.func131 λw cs=>r0 [] [(2,.bool false)] [] (r0 [(1,.c [] [] (sJ m Om))] [(2,.bool ((((pc m):Nat):Int)==64))] [2] (ak (.bool ((((pc m):Nat):Int)==64)) ab.zero (by exact ALca Value.bool (mo (pc m) 64)) [] [] []))
def fg(x:UInt8)(k:Nat):List UInt8:=ZK k x++ZK (64-k) 0
theorem TL{x:UInt8}{k:Nat}(h:k≤64):(fg x k).length=64:=by unfold fg;rw[ZL,ZQ,ZQ];omega
theorem TM{x:UInt8}{k:Nat}(h:k<64):(fg x k).set k x=fg x (k+1):=by
 unfold fg;rw[aaj _ _ (by rw[ZQ];exact ZZ _),ZQ,Nat.sub_self,show 64-k=(64-(k+1))+1 by omega,aak,List.replicate_succ',ZP];rfl
theorem TN(x:UInt8):aa ZJ 46 #[u1 (x.toNat:Int)] [] [] N0 (λ_=> .agg (rB 64 (fg x 64)).toArray):=by
 refine fG Tryz.func46 λw cs=>ra (λb=>[(2,pt (B0 b) 0)]) (λb=>[ob (B0 b) (rB 64 z6).toArray 43]) λb=>ra (λa=>[(3,pt (B0 a) 0)]) (λa=>[ob (B0 a) (rB 64 z6).toArray 43]) λa=>r0 [] [(5,i6 0)] [] ?_;refine lq (λk=>k≤64) (λk=>[(5,iN k)]) (λk L=>L.set 1 (ob (B0 a) (rB 64 (fg x k)).toArray 43)) (λk=>64-k) 0 Om Kr (by rw[show fg x 0=ZK 64 0 from rfl];kernel_rfl) (λk f=>?_);have d:=TL (x:=x) (k:=k) Om;refine r0 [] [(6,.bool (decide ((k:Int)<64)))] [] ?_;refine cj (k:Int) 64 (λe c=>?_) λe c=>?_
 ·exact r0 [] [(4,iN k)] [] (rs [(2,iA 43 .i64 (B0 a) 0 64 1 k),(3,wD 1 (B0 a) k 43 (u1 (x.toNat:Int)) (rB 64 (fg x k)) (rB 64 ((fg x k).set k x)) (ka Om) (mJ (show(fg x k).length=64 by(simp only[LL,d];done))))] 1 (ob (B0 a) (rB 64 ((fg x k).set k x)).toArray 43) (r0 [(0,ad k 1)] [(5,iN (k+1))] [5] (le (k+1) Om Om Kr [0,1] (by rw[←TM Om];kernel_rfl))))
 obtain rfl:k=64:=by omega
 exact lx (rs [(0,.l 1),(1,.s 0)] 0 (ob (B0 b) (rB 64 (fg x 64)).toArray 43) (lf ab.zero [] [] [0]))
theorem Gr(v:Value)(xs:List UInt8)(e:xs.length=64):aa ZJ 130 #[v] [.p (aK eB v xs)] [] N0 (λ_=> .tuple #[.agg (rB 64 xs).toArray,i6 0]):=by
 exact fO Tryz.func130 0 rfl λb a=>fG Tryz.func130 λw cs=>ra (λd=>[(2,pt (B0 d) 0),(3,i6 0)]) (λd=>[ob (B0 d) (rB 64 z6).toArray 43]) λd=>rF [(1,eG a.1 0),(2,.t (tk (show Value.bool ((xs.length:Int) != 64)= .bool false from ALca Value.bool (by rw[e];rfl))))] 6 (rr (λ_=>[(1,.m (C6 0 (.c b) 64 (cP a.1) Dc Om)),(2,.m (C7 0 (.c b) 64 (rB 64 xs) (cP a.1) (kY e).symm Om (C8 (λ_=>rfl) e))),(3,.s 1)]) (λ_=>[(3,i6 0)]) [3] (λ_ L=>L.set 1 (ob (B0 d) (rB 64 xs).toArray 43)) λf=>lf ab.zero [] [(0,0)] [1])
def jy(l o:List UInt8)(is:List Nat):List UInt8:=is.foldl (λl i=>l.set i (o.getD i 0)) l
def gn(l o:List UInt8)(m:Nat):List UInt8:=jy l o (bj m)
theorem wv(o:List UInt8): ∀(is:List Nat) (l:List UInt8),(jy l o is).length=l.length
 | [],_=>rfl
 | i::is,l=>by
  show(jy (l.set i (o.getD i 0)) o is).length=_;rw[wv o is,ZT]
theorem TO{l o:List UInt8}{is:List Nat}{k:Nat}(h:k<is.length):(jy l o (is.take k)).set (is.getD k 0) (o.getD (is.getD k 0) 0)=jy l o (is.take (k+1)):=by
 unfold jy;rw[aaa,ZN h,aap,ZM,ZN h];rfl
theorem TP(l y:List UInt8)(m:Nat)(f:l.length=64)(h:y.length=64)(u:m<18446744073709551616):aa ZJ 94 #[.agg (rB 64 l).toArray,.agg (rB 64 y).toArray,u6 (m:Int)] [] [] N0 (λ_=> .agg (rB 64 (jy l y ((bj m).take ((bj m).length)))).toArray):=by
 refine fG Tryz.func94 λw cs=>ra (λa=>[(3,pt (B0 a) 0),(4,pt (B1 a) 0),(6,pt (B2 a) 0)]) (λa=>[ob (B0 a) (rB 64 l).toArray 43,ob (B1 a) (rB 64 y).toArray 43,ob (B2 a) (rB 64 z6).toArray 43]) λa=>rr (λ_=>[(1,.c [] [3] (Df m))]) (λb=>[(9,.func (.func 172) #[] #[pt ((B1 b)) 0])]) [] (λb L=>L++[ob (B1 b) #[u6 (m:Int)] 44]) λb=>?_;refine CS (encs:=λ(i:Nat)=>#[iN i]) (xs:=bj m) (XO:=[((B1 b),.cells #[u6 (m:Int)] 44 (0,0))]) (KO:=[]) (De (B1 b) m Om) (enters_of Tryz.func172 Kr rfl) (λk=>k≤(bj m).length) (λk L=>L.set 0 (ob (B0 a) (rB 64 (jy l y ((bj m).take k))).toArray 43)) [ob (B0 a) (rB 64 l).toArray 43,ob (B1 a) (rB 64 y).toArray 43,ob (B2 a) (rB 64 z6).toArray 43] [0,1,2,3] [3] [] Om (by rw[show jy l y ((bj m).take 0)=l by rw[aad];rfl];kernel_rfl) (λv k x p r g e=>?_) (λo e=>?_)
 ·obtain⟨d,rfl⟩:=rY 0 g;have j:=(wv y ((bj m).take k) l).trans f;have n:=Eb d;refine r0 [] [(7,iN ((bj m).getD k 0))] [] ?_;refine ag [] (λq t=>?_);exact rs [(2,iA 43 .i64 (B1 a) 0 64 1 ((bj m).getD k 0)),(3,rD 1 (B1 a) ((bj m).getD k 0) 43 (rB 64 y) (n7 Om)),(4,iA 43 .i64 (B0 a) 0 64 1 ((bj m).getD k 0)),(5,wD 0 (B0 a) ((bj m).getD k 0) 43 (u1 ((y.getD ((bj m).getD k 0) 0).toNat:Int)) (rB 64 (jy l y ((bj m).take k))) (rB 64 ((jy l y ((bj m).take k)).set ((bj m).getD k 0) (y.getD ((bj m).getD k 0) 0))) (ka Om) (mJ (show(jy l y ((bj m).take k)).length=64 by(simp only[LL,f,h,wv,f,h];done))))] 0 (ob (B0 a) (rB 64 ((jy l y ((bj m).take k)).set ((bj m).getD k 0) (y.getD ((bj m).getD k 0) 0))).toArray 43) (ne _ ⟨Om,rfl⟩ [0,1,2] (by rw[←TO Om];kernel_rfl))
 exact rs [(0,.l 0),(1,.s 2)] 2 (ob (B2 a) (rB 64 (jy l y ((bj m).take ((bj m).length)))).toArray 43) (lf ab.zero [] [] [2])
section
theorem oB{α:Type}{p:α→Prop}{l:List α}(d:α):(∀i,i<l.length→p (l.getD i d))↔∀x∈l,p x:=by
 constructor
 ·intro h x b;obtain⟨i,a,rfl⟩:=List.getElem_of_mem b;have:=h i a;rwa [ZM,ZN a] at this
 ·intro h i a;rw[ZM,ZN a];exact h _ (List.getElem_mem a)
theorem Gs{α:Type}{l:List α}{i:Nat}(h:i<l.length):(l.eraseIdx i).length=l.length-1:=by rw[ZW,ALifp h]
theorem m3(g:Lg)(x:Re):(bT g x).next=g.next+1:=by
 unfold bT
 split
 ·split<;>rfl
 ·rfl
theorem Ah(g:Lg)(x:Re):(bT g x).K=g.K:=by
 unfold bT
 split
 ·split<;>rfl
 ·rfl
theorem gj.add{g:Lg}(h:gj g)(x:Re)(b:g.next+1≤1000000000):gj (bT g x):=by
 refine⟨?_,by rw[Ah];exact h.r1,by rw[Ah];exact h.r,by rw[m3];exact b⟩;rw[Ah];have d:=h.l;have f:=pC c6 g.l;unfold bT
 split
 ·rename_i e
  split
  ·exact h.l
  ·rename_i c;have a:a1 c6 g.l<g.l.length:=by omega
   show(g.l.eraseIdx (a1 c6 g.l)++[qK x g.next]).length≤g.K;rw[ZL,Gs a];show g.l.length-1+1≤g.K;omega
 ·show(g.l++[qK x g.next]).length≤g.K;rw[ZL];show g.l.length+1≤g.K;omega
theorem gj.clear{g:Lg}(h:gj g):gj (nI g):=⟨ZX _,h.r1,h.r,h.n⟩
theorem Gt{α:Type}{l:List α}{i:Nat}{x:α}(h:x∈l.eraseIdx i):x∈l:=List.mem_of_mem_eraseIdx h
section
variable {ev:Nat} {t:Tb}
theorem iK.mk'{a:Tb}(h:iK ev t)(b:a.K=t.K)(d:a.l.length≤t.K)(c: ∀x∈a.l,ff ev x.l x.a):iK ev a:=⟨by rw[b];exact d,by rw[b];exact h.r1,by rw[b];exact h.r,(oB (p:=λx:Pa=>ff ev x.l x.a) bt).2 c⟩
theorem iK.mem(h:iK ev t): ∀x∈t.l,ff ev x.l x.a:=(oB (p:=λx:Pa=>ff ev x.l x.a) bt).1 h.b
theorem iK.put(h:iK ev t){k l a:Nat}(c:ff ev l a):iK ev (pF t k l a):=by
 have d:=h.l;have f:=h.r1;unfold pF
 split
 ·split
  ·rename_i e;refine h.mk' rfl ?_ λx b=>?_
   ·show(t.l.eraseIdx (et t.l t.l.length).1++[(⟨k,l,a⟩:Pa)]).length≤t.K;rw[ZL,Gs (Ae t.l t.l.length Om)];show t.l.length-1+1≤t.K;omega
   ·rcases List.mem_append.1 b with b | b
    ·exact h.mem x (Gt b)
    ·rw[List.mem_singleton.1 b];exact c
  ·rename_i e;refine h.mk' rfl ?_ λx b=>?_
   ·show(t.l++[(⟨k,l,a⟩:Pa)]).length≤t.K;rw[ZL];show t.l.length+1≤t.K;omega
   ·rcases List.mem_append.1 b with b | b
    ·exact h.mem x b
    ·rw[List.mem_singleton.1 b];exact c
 ·refine h.mk' rfl ?_ λx b=>?_
  ·show(t.l.set _ _).length≤t.K;rw[ZT];exact h.l
  ·rcases aae b with b | rfl
   ·exact h.mem x b
   ·exact c
theorem iK.drop(h:iK ev t)(k:Nat):iK ev (pG t k):=by
 unfold pG
 split
 ·exact h
 ·refine h.mk' rfl ?_ λx a=>h.mem x (Gt a);show(t.l.eraseIdx _).length≤t.K;rw[ZW];have:=h.l
  split<;>omega
theorem iK.tick(h:iK ev t):iK ev (tx t ev):=by
 refine h.mk' rfl ?_ λx a=>?_
 ·show(a2 (c7 ev) t.l t.l.length).length≤t.K;rw[tu];exact h.l
 ·have a:x∈a2 (c7 ev) t.l t.l.length:=a;rw[Gl] at a;obtain⟨y,b,rfl⟩:=List.mem_map.1 a;exact F0 (h.mem y b)
end
section
variable {k:Tk}
theorem dV.rk(h:dV k): ∀x∈k.F,ff k.er x.l x.a:=(oB (p:=λx:Bk=>ff k.er x.l x.a) bg).1 h.b
theorem dV.set(h:dV k)(r:Nat){b:Bk}(d:ff k.er b.l b.a): ∀i,i<(k.F.set r b).length→ff k.er ((k.F.set r b).getD i bg).l ((k.F.set r b).getD i bg).a:=
 (oB (p:=λx:Bk=>ff k.er x.l x.a) bg).2 λx c=>by
  rcases aae c with c | rfl
  ·exact h.rk x c
  ·exact d
theorem dV.note(h:dV k){r:Nat}(p n:Nat)(c:r<k.F.length):dV (fI k r p n):=
 ⟨h.r,h.p,h.h1,h.h2,by show(k.F.set r _).length≤8;rw[ZT];exact h.n,h.set r (b:=⟨b6 (k.F.getD r bg).l n,(k.F.getD r bg).a⟩) (FZ (h.b r c)),h.t.put (FZ (h.t.get h.p.e1 p))⟩
theorem dV.reset(h:dV k)(r:Nat):dV (pH k r):=
 ⟨h.r,h.p,h.h1,h.h2,by show(k.F.set r _).length≤8;rw[ZT];exact h.n,h.set r (b:=⟨0,0⟩) ⟨ZX _,h.r.e1⟩,h.t⟩
theorem dV.drop(h:dV k)(p:Nat):dV (qL k p):=⟨h.r,h.p,h.h1,h.h2,h.n,h.b,h.t.drop p⟩
theorem dV.tick(h:dV k):dV (mZ k):=by
 refine⟨h.r,h.p,h.h1,h.h2,?_,(oB (p:=λx:Bk=>ff k.er x.l x.a) bg).2 λx a=>?_,h.t.tick⟩
 ·show(a2 (eb k.er) k.F k.F.length).length≤8;rw[tu];exact h.n
 ·have a:x∈a2 (eb k.er) k.F k.F.length:=a;rw[Gl] at a;obtain⟨y,b,rfl⟩:=List.mem_map.1 a;exact F0 (h.rk y b)
theorem TQ(k:Tk)(r p n:Nat):(fI k r p n).F.length=k.F.length:=ZT
theorem TR(k:Tk)(r:Nat):(pH k r).F.length=k.F.length:=ZT
theorem TT(k:Tk):(mZ k).F.length=k.F.length:=tu ..
end
def gp(of:Nat)(v:Ev):Nat:=if v.k=3 then 1 else if v.k=4 then 2 else if v.k=5 then 1+v.t else of
def gK(of:Nat)(k:Tk)(v:Ev):Tk:=if v.k=6 then(if of=1 then qL k v.f else pH k v.f) else k
def oC(m:Mp)(of x:Nat):Nat:=if of=1 then bu m x*64 else x*1048576
def ja(m:Mp)(of time:Nat)(v:Ev):Re:=⟨0,time,v.k,oC m of v.f,if v.k=5 then v.t else oC m of v.t⟩
structure jc (np n of:Nat) (v:Ev):Prop where
 k:(of=1∧v.f<np∧(v.k=3∨v.k=6)∧v.t<np)∨(of=1∧v.f<np∧v.k=5∧v.t=0)∨(of=2∧v.f<n∧(v.k=4∨v.k=6)∧v.t<8)∨(of=2∧v.f<n∧v.k=5∧v.t=1)
theorem TU(of:Nat)(k:Tk)(v:Ev):(gK of k v).F.length=k.F.length:=by
 unfold gK
 split
 ·split
  ·rfl
  ·exact TR _ _
 ·rfl
theorem TV{k:Tk}(h:dV k)(of:Nat)(v:Ev):dV (gK of k v):=by
 unfold gK
 split
 ·split
  ·exact h.drop _
  ·exact h.reset _
 ·exact h
def fq(of:Nat)(k:Tk)(l:List Ev):Tk:=l.foldl (λk v=>gK (gp of v) k v) k
def eT(m:Mp)(of time:Nat)(g:Lg)(l:List Ev):Lg:=l.foldl (λg v=>bT g (ja m (gp of v) time v)) g
theorem Ai(of:Nat): ∀(l:List Ev) {k:Tk},dV k→dV (fq of k l)
 | [],_,h=>h
 | v::l,_,h=>Ai of l (TV h (gp of v) v)
theorem Aj(of:Nat): ∀(l:List Ev) (k:Tk),(fq of k l).F.length=k.F.length
 | [],_=>rfl
 | v::l,k=>(Aj of l (gK (gp of v) k v)).trans (TU _ k v)
theorem wx(m:Mp)(of time:Nat): ∀(l:List Ev) (g:Lg),(eT m of time g l).next=g.next+l.length
 | [],_=>rfl
 | v::l,g=>(wx m of time l (bT g (ja m (gp of v) time v))).trans (by rw[m3,aas];omega)
theorem Al(m:Mp)(of time:Nat): ∀(l:List Ev) {g:Lg},gj g→g.next+l.length≤1000000000→gj (eT m of time g l)
 | [],_,h,_=>h
 | v::l,g,h,a=>by
  rw[aas] at a;exact Al m of time l (h.add _ Om) (by rw[m3];omega)
theorem Am{α β:Type}{f:β→α→β}{b:β}{l:List α}{i:Nat}{d:α}(h:i<l.length):(l.take (i+1)).foldl f b=f ((l.take i).foldl f b) (l.getD i d):=by
 rw[aaa,ZN h,aap,ZM,ZN h];rfl
theorem TW{of:Nat}{k:Tk}{l:List Ev}{i:Nat}(h:i<l.length):fq of k (l.take (i+1))=gK (gp of (l.getD i cV)) (fq of k (l.take i)) (l.getD i cV):=Am h
theorem TX{m:Mp}{of time:Nat}{g:Lg}{l:List Ev}{i:Nat}(h:i<l.length):eT m of time g (l.take (i+1))=bT (eT m of time g (l.take i)) (ja m (gp of (l.getD i cV)) time (l.getD i cV)):=Am h
structure eM (m m':Mp):Prop where
 R:m'.R=m.R
 S:m'.S=m.S
 B:m'.B=m.B
 M:m'.M=m.M
 C:m'.C=m.C
 G:m'.G=m.G
 res:m'.res=m.res
theorem eM.rfl'(m:Mp):eM m m:=⟨rfl,rfl,rfl,rfl,rfl,rfl,rfl⟩
theorem eM.tr{a b c:Mp}(h:eM a b)(g:eM b c):eM a c:=⟨g.R.trans h.R,g.S.trans h.S,g.B.trans h.B,g.M.trans h.M,g.C.trans h.C,g.G.trans h.G,g.res.trans h.res⟩
theorem Gu(r:Rp)(a:Ak):eM r.m (dg r a).m:=by
 unfold dg;cases a.k==1<;>cases dz r.m<;>cases dY r.m<;>exact⟨rfl,rfl,rfl,rfl,rfl,rfl,rfl⟩
theorem oD(r:Rp)(a:Ak):eM r.m (bo r a).m:=by
 unfold bo;cases dc r a
 ·cases r.j.A==0
  ·exact eM.rfl' _
  ·exact Gu r a
 ·exact eM.rfl' _
theorem Ao(r:Rp):eM r.m (gS r).m:=by
 unfold gS;cases r.j.A==1<;>exact⟨rfl,rfl,rfl,rfl,rfl,rfl,rfl⟩
theorem Ap(s:Rp×List Ev):eM s.1.m (gJ s).1.m:=by
 unfold gJ;cases dc (aZ s.1) (s.1.q.headD aJ)
 ·exact Gu (aZ s.1) _
 ·exact eM.rfl' _
theorem Gv: ∀(n:Nat) (s:Rp×List Ev),eM s.1.m (e3 n s).1.m
 | 0,s=>eM.rfl' _
 | n+1,s=>by
  unfold e3
  split
  ·exact(Ap s).tr (Gv n _)
  ·exact eM.rfl' _
theorem wy(r:Rp):eM r.m (eR r).1.m:=by
 unfold eR;cases kQ r.m (br r).j
 ·exact eM.rfl' _
 ·exact(Ao (br r)).tr (Gv _ (ae (br r)))
theorem TZ{r:Rp}{a:Ak}(h:aO r)(c:eK r.m a):aO (bo r a):=by
 unfold bo;cases hv:dc r a
 ·rw[ALcf];cases r.j.A==0
  ·refine⟨h.m,h.j,λx b=>?_,?_,h.fr⟩
   ·have b:x∈qD r.q a:=b;unfold qD at b
    split at b
    ·exact h.q x b
    ·split at b
     ·exact h.q x b
     ·rcases List.mem_append.1 b with b | b
      ·exact h.q x b
      ·rw[List.mem_singleton.1 b];exact c
   ·show(qD r.q a).length≤256;have:=h.n;unfold qD
    split
    ·exact h.n
    ·split
     ·exact h.n
     ·rw[ZL];show r.q.length+1≤256;omega
  ·exact FR h c hv
 ·exact h
theorem Gw{r:Rp}{a:Ak}(h:aO r)(d:eK r.m a)(of:Nat): ∀v∈gb r a,jc (r.m.R*r.m.B*r.m.M) r.m.R (gp of v) v:=by
 have i:=h.m.O.bd.r8;have e:=h.m.pg;have f:=h.m.rk;have g:=h.m.ly.rp;unfold gb;rcases d.k with⟨b,c⟩ | ⟨b,c⟩
 ·rw[b];show ∀v∈(bif dz r.m then _ else _),_;cases hp:dz r.m
  ·intro v hv;obtain rfl:=List.mem_singleton.1 hv;exact⟨.inr (.inl ⟨by rw[b];rfl,c,rfl,by rw[b]⟩)⟩
  ·intro v hv;obtain rfl:=List.mem_singleton.1 hv;refine⟨.inl ⟨rfl,c,.inl rfl,?_⟩⟩;show dG r.m<_;have:r.m.P≠r.m.res:=by unfold dz at hp;simpa using hp
   unfold dG;rw[ALifn this];show r.m.R*r.m.B*r.m.M-r.m.res+r.m.P<_;omega
 ·rw[b];show ∀v∈(bif dY r.m then _ else _),_;cases hp:dY r.m
  ·intro v hv;obtain rfl:=List.mem_singleton.1 hv;exact⟨.inr (.inr (.inr ⟨by rw[b];rfl,c,rfl,by rw[b]⟩))⟩
  ·intro v hv;obtain rfl:=List.mem_singleton.1 hv;refine⟨.inr (.inr (.inl ⟨rfl,c,.inl rfl,?_⟩))⟩;show fo r.m<_;have:r.m.F≠r.m.S:=by unfold dY at hp;simpa using hp
   unfold fo;rw[ALifn this];omega
theorem qN{r:Rp}{a:Ak}(h:aO r)(d:eK r.m a)(of:Nat): ∀v∈bR r a,jc (r.m.R*r.m.B*r.m.M) r.m.R (gp of v) v:=by
 unfold bR;cases dc r a
 ·rw[ALcf];cases r.j.A==0
  ·rw[ALcf];cases v8 r.q a==14
   ·intro v hv;cases hv
   ·intro v hv;obtain rfl:=List.mem_singleton.1 hv;rcases d.k with⟨b,c⟩ | ⟨b,c⟩
    ·exact⟨.inr (.inl ⟨by rw[b];rfl,c,rfl,by rw[b]⟩)⟩
    ·exact⟨.inr (.inr (.inr ⟨by rw[b];rfl,c,rfl,by rw[b]⟩))⟩
  ·exact Gw h d of
 ·intro v hv;cases hv
theorem pJ(r:Rp)(a:Ak):(bR r a).length≤1:=by
 unfold bR;cases dc r a
 ·rw[ALcf];cases r.j.A==0
  ·rw[ALcf];cases v8 r.q a==14
   ·exact ZX _
   ·exact ZZ _
  ·rw[ALct,wc];exact ZZ _
 ·exact ZX _
theorem T0{s:Rp×List Ev}(h:aO s.1)(b:0<s.1.q.length)(of:Nat)(a: ∀v∈s.2,jc (s.1.m.R*s.1.m.B*s.1.m.M) s.1.m.R (gp of v) v): ∀v∈(gJ s).2,jc (s.1.m.R*s.1.m.B*s.1.m.M) s.1.m.R (gp of v) v:=by
 unfold gJ;cases dc (aZ s.1) (s.1.q.headD aJ)
 ·intro v hv;rcases List.mem_append.1 hv with hv | hv
  ·exact a v hv
  ·exact Gw (r:=aZ s.1) (wb h) ⟨(ts h b).k⟩ of v hv
 ·exact a
theorem Gx: ∀(n:Nat) (s:Rp×List Ev),n=s.1.q.length→aO s.1→∀b,(∀v∈s.2,jc (s.1.m.R*s.1.m.B*s.1.m.M) s.1.m.R (gp b v) v)→aO (e3 n s).1∧(e3 n s).2.length≤s.2.length+n∧∀v∈(e3 n s).2,jc (s.1.m.R*s.1.m.B*s.1.m.M) s.1.m.R (gp b v) v
 | 0,s,_,h,b,c=>⟨h,ZZ _,c⟩
 | n+1,s,i,h,b,c=>by
  unfold e3
  split
  ·have e:0<s.1.q.length:=by omega
   have a:=Ap s;obtain⟨f,g,d⟩:=Gx n (gJ s) (by rw[z0,aat];omega) (zZ h e) b (by rw[a.R,a.B,a.M];exact T0 h e b c);rw[a.R,a.B,a.M] at d;exact⟨f,by have:=FU s;omega,d⟩
  ·exact⟨h,by omega,c⟩
theorem Gy{r:Rp}(h:aO r)(b:r.j.A≠0)(f:r.j.nx<eJ r.j.A r.m.B r.m.M r.m.C):aO (eR r).1∧(eR r).2.length≤257∧∀v∈(eR r).2,jc (r.m.R*r.m.B*r.m.M) r.m.R (gp r.j.A v) v:=by
 unfold eR;cases kQ r.m (br r).j
 ·exact⟨qG h b f,ZX _,λv hv=>by cases hv⟩
 ·rw[ALct];have l:=qG h b f;have a:=Ao (br r);have i: ∀v∈(ae (br r)).2,jc (r.m.R*r.m.B*r.m.M) r.m.R (gp r.j.A v) v:=by
   intro v hv;obtain rfl:=List.mem_singleton.1 hv;have w:=h.m.O.bd.r8;have n:=h.m.rk;rcases h.j.k with e | ⟨e,c⟩ | ⟨e,c⟩
   ·rw[e] at b;exact absurd rfl b
   ·rw[e];exact⟨.inl ⟨rfl,c.hf,.inr rfl,c.ht⟩⟩
   ·rw[e];refine⟨.inr (.inr (.inl ⟨rfl,c.hf,.inr rfl,?_⟩))⟩;have:=c.t1;show r.j.tg<8;omega
  obtain⟨g,o,d⟩:=Gx (br r).q.length (ae (br r)) (by unfold ae gS;rfl) (wa l b) r.j.A (by
   show ∀v∈(ae (br r)).2,jc ((gS (br r)).m.R*(gS (br r)).m.B*(gS (br r)).m.M) (gS (br r)).m.R _ v;rw[a.R,a.B,a.M];exact i)
  have d: ∀v∈(cX (br r)).2,jc ((gS (br r)).m.R*(gS (br r)).m.B*(gS (br r)).m.M) (gS (br r)).m.R (gp r.j.A v) v:=d;rw[a.R,a.B,a.M] at d;refine⟨g,?_,d⟩;have p:=h.n;have s:(br r).q.length=r.q.length:=rfl;have u:(ae (br r)).2.length=1:=rfl;show(e3 (br r).q.length (ae (br r))).2.length≤257;omega
theorem T1(of:Nat)(v:Ev):(((bif ((v.k:Nat):Int)==3 then 1 else(bif ((v.k:Nat):Int)==4 then 2 else(bif ((v.k:Nat):Int)==5 then 1+v.t else of))):Nat):Int)=((gp of v:Nat):Int):=by
 unfold gp;by_cases a:v.k=3
 ·rw[a];rfl
 by_cases b:v.k=4
 ·rw[b];rfl
 by_cases c:v.k=5
 ·rw[c];rfl
 have d:(((v.k:Nat):Int)==3)=false:=by rw[dj];omega
 have e:(((v.k:Nat):Int)==4)=false:=by rw[dj];omega
 have f:(((v.k:Nat):Int)==5)=false:=by rw[dj];omega
 rw[d,e,f,ALifn a,ALifn b,ALifn c];rfl
structure Le where
 r:Rp
 k:Tk
 g:Lg
 time:Nat
structure da (s:Le) (K:Nat):Prop where
 r:aO s.r
 k:dV s.k
 g:gj s.g
 n:s.g.next≤K
 rk:s.k.F.length=s.r.m.R
theorem da.mono{s:Le}{K a:Nat}(h:da s K)(b:K≤a):da s a:=⟨h.r,h.k,h.g,ZS h.n b,h.rk⟩
def Aq(of:Nat)(s:Le)(l:List Ev):Le:={s with k:=fq of s.k l,g:=eT s.r.m of s.time s.g l}
theorem Gz{s:Le}{K:Nat}(h:da s K)(of:Nat)(l:List Ev)(a:K+l.length≤1000000000):da (Aq of s l) (K+l.length):=by
 have b:=h.n;exact⟨h.r,Ai of l h.k,Al _ of _ l h.g Om,by show(eT _ of _ s.g l).next≤_;rw[wx];omega,(Aj of l s.k).trans h.rk⟩
def Ar(s:Le)(x:Re):Le:={s with g:=bT s.g x}
theorem wz{s:Le}{K:Nat}(h:da s K)(x:Re)(a:K+1≤1000000000):da (Ar s x) (K+1):=by
 have b:=h.n;exact⟨h.r,h.k,h.g.add x Om,by show(bT s.g x).next≤_;rw[m3];omega,h.rk⟩
def GA(s:Le)(r p n:Nat):Le:={s with k:=fI s.k r p n}
theorem At{s:Le}{K:Nat}(h:da s K){r:Nat}(p n:Nat)(a:r<s.r.m.R):da (GA s r p n) K:=⟨h.r,h.k.note p n (by rw[h.rk];exact a),h.g,h.n,(TQ ..).trans h.rk⟩
def wA(s:Le)(r:Rp):Le:={s with r:=r}
theorem pK{s:Le}{K:Nat}(h:da s K){a:Ak}(b:eK s.r.m a):da (wA s (bo s.r a)) K:=⟨TZ h.r b,h.k,h.g,h.n,h.rk.trans (oD s.r a).R.symm⟩
def qO(s:Le)(a:Ak):Le:=Aq a.k (wA s (bo s.r a)) (bR s.r a)
theorem wB{s:Le}{K:Nat}(h:da s K){a:Ak}(b:eK s.r.m a)(c:K+1≤1000000000):da (qO s a) (K+1):=by
 have d:=pJ s.r a;exact(Gz (pK h b) a.k (bR s.r a) Om).mono Om
theorem wE(s:Le)(a:Ak):eM s.r.m (qO s a).r.m:=oD s.r a
theorem eK.ly{m b:Mp}{a:Ak}(h:eK m a)(e:eM m b):eK b a:=⟨by rw[e.R,e.B,e.M];exact h.k⟩
theorem jc.ly{m a:Mp}{of:Nat}{v:Ev}(h:jc (m.R*m.B*m.M) m.R of v)(e:eM m a):jc (a.R*a.B*a.M) a.R of v:=by rw[e.R,e.B,e.M];exact h
def nK(s:Le)(b a w:Nat)(x:Re):Le:=GA (Ar s x) b a w
def gu(s:Le)(b a w:Nat)(x:Re):Le:=bif cY s.k.lp (dh s.k.t a).l w then qO (nK s b a w x) ⟨1,a⟩ else nK s b a w x
def fh(s:Le)(a b w:Nat)(x:Re):Le:=bif cY s.k.lr (s.k.F.getD a bg).l w then qO (gu s a b w x) ⟨2,a⟩ else gu s a b w x
theorem GB{s:Le}{K b a w:Nat}(x:Re)(h:da s K)(e:b<s.r.m.R)(d:a<s.r.m.R*s.r.m.B*s.r.m.M)(f:K+3≤1000000000):da (gu s b a w x) (K+2):=by
 have c:=At (wz h x Om) a w e;unfold gu;cases cY s.k.lp (dh s.k.t a).l w
 ·exact c.mono Om
 ·exact(wB c ⟨.inl ⟨rfl,d⟩⟩ Om).mono Om
theorem tz(s:Le)(b a w:Nat)(x:Re):eM s.r.m (gu s b a w x).r.m:=by
 unfold gu;cases cY s.k.lp (dh s.k.t a).l w
 ·exact eM.rfl' _
 ·exact wE (nK s b a w x) _
theorem GC{s:Le}{K a b w:Nat}(x:Re)(h:da s K)(d:a<s.r.m.R)(f:b<s.r.m.R*s.r.m.B*s.r.m.M)(e:K+3≤1000000000):da (fh s a b w x) (K+3):=by
 have c:=GB (w:=w) x h d f e;unfold fh;cases cY s.k.lr (s.k.F.getD a bg).l w
 ·exact c.mono Om
 ·exact(wB c ⟨.inr ⟨rfl,by rw[(tz s a b w x).R];exact d⟩⟩ Om).mono Om
theorem GD(s:Le)(a b w:Nat)(x:Re):eM s.r.m (fh s a b w x).r.m:=by
 unfold fh;cases cY s.k.lr (s.k.F.getD a bg).l w
 ·exact tz ..
 ·exact(tz s a b w x).tr (wE _ _)
structure Nt where
 k:Nat
 v:Nat
 f:Nat
 i:Nat
 h:Nat
 r:Nat
def dA(heavy:Nat)(s:Le)(n:Nt):Le:=if n.v=0 then s else if n.v=1 then fh s n.r n.h 1 ⟨0,s.time,1,n.i,n.f⟩ else if n.v=2 then Ar s ⟨0,s.time,2,n.i,1⟩ else fh s n.r n.h heavy ⟨0,s.time,2,n.i,0⟩
theorem T2(heavy:Nat)(s:Le)(n:Nt):eM s.r.m (dA heavy s n).r.m:=by
 unfold dA
 split
 ·exact eM.rfl' _
 split
 ·exact GD ..
 split
 ·exact eM.rfl' _
 ·exact GD ..
theorem T3{heavy K:Nat}{s:Le}{n:Nt}(h:da s K)(c:n.r<s.r.m.R)(b:n.h<s.r.m.R*s.r.m.B*s.r.m.M)(a:K+3≤1000000000):da (dA heavy s n) (K+3):=by
 unfold dA
 split
 ·exact h.mono Om
 split
 ·exact GC _ h c b a
 split
 ·exact(wz h _ Om).mono Om
 ·exact GC _ h c b a
def iL(s:Le):Le:=Aq s.r.j.A (wA s (eR s.r).1) (eR s.r).2
theorem T4{s:Le}{K:Nat}(h:da s K)(c:s.r.j.A≠0)(d:s.r.j.nx<eJ s.r.j.A s.r.m.B s.r.m.M s.r.m.C)(g:K+257≤1000000000):da (iL s) (K+257):=by
 obtain⟨a,e,f⟩:=Gy h.r c d;have b:da (wA s (eR s.r).1) K:=⟨a,h.k,h.g,h.n,h.rk.trans (wy s.r).R.symm⟩;exact(Gz b _ (eR s.r).2 Om).mono Om
theorem T5(s:Le):eM s.r.m (iL s).r.m:=wy s.r
def GF(s:Le):Le:={s with k:=mZ s.k,time:=s.time+1}
def GG(s:Le):Le:={s with g:=nI s.g}
theorem T6{s:Le}{K:Nat}(h:da s K):da (GF s) K:=⟨h.r,h.k.tick,h.g,h.n,(TT _).trans h.rk⟩
theorem T7{s:Le}{K:Nat}(h:da s K):da (GG s) K:=⟨h.r,h.k,h.g.clear,h.n,h.rk⟩
end
theorem T8(j h f e l m n:Nat)(c:Cf)(time:Nat)(r:Rp)(o:aO r)(k:Tk)(s:dV k)(g:Lg)(q:gj g)(of:Nat)(v:Ev)(hv:jc (r.m.R*r.m.B*r.m.M) r.m.R of v)(t:k.F.length=r.m.R):aa ZJ 213 #[pt j 0,iN of,.agg #[iN v.k,iN v.f,iN v.t]] [ob j (lA c h f e time) 122,pk (ar h l m r),pk (aD f n k),pk (az e g)] [1,2,3] (λ_=>[pk (ar h l m r),pk (aD f n (gK of k v)),pk (az e (bT g (ja r.m of time v)))]) (λ_=> .tuple #[]):=by
 have u:=o.m.O.bd.r8;obtain⟨w,a,b⟩:=v;obtain⟨hv⟩:=hv;simp only at hv;rcases hv with⟨rfl,p,d,i⟩ | ⟨rfl,p,d,i⟩ | ⟨rfl,p,d,i⟩ | ⟨rfl,p,d,i⟩
 ·rcases d with rfl | rfl
  ·rw[show ja r.m 1 time ⟨3,a,b⟩=⟨0,time,3,bu r.m a*64,bu r.m b*64⟩ by simp [ja,oC],show gK 1 k ⟨3,a,b⟩=k by simp [gK]];exact TC j h f e l m n c time r o k s g q a b p i
  ·rw[show ja r.m 1 time ⟨6,a,b⟩=⟨0,time,6,bu r.m a*64,bu r.m b*64⟩ by simp [ja,oC],show gK 1 k ⟨6,a,b⟩=qL k a by simp [gK]];exact TF j h f e l m n c time r o k s g q a b p i
 ·subst d;subst i;rw[show ja r.m 1 time ⟨5,a,0⟩=⟨0,time,5,bu r.m a*64,0⟩ by simp [ja,oC],show gK 1 k ⟨5,a,0⟩=k by simp [gK]];exact TE j h f e l m n c time r o k s g q a p
 ·rcases d with rfl | rfl
  ·rw[show ja r.m 2 time ⟨4,a,b⟩=⟨0,time,4,a*1048576,b*1048576⟩ by simp [ja,oC],show gK 2 k ⟨4,a,b⟩=k by simp [gK]];exact TG j h f e l m n c time r o k s g q a b Om i
  ·rw[show ja r.m 2 time ⟨6,a,b⟩=⟨0,time,6,a*1048576,b*1048576⟩ by simp [ja,oC],show gK 2 k ⟨6,a,b⟩=pH k a by simp [gK]];exact TJ j h f e l m n c time r o k s g q a b Om i Om
 ·subst d;subst i;rw[show ja r.m 2 time ⟨5,a,1⟩=⟨0,time,5,a*1048576,1⟩ by simp [ja,oC],show gK 2 k ⟨5,a,1⟩=k by simp [gK]];exact TI j h f e l m n c time r o k s g q a Om
theorem jc.tb{np n of:Nat}{v:Ev}(h:jc np n of v)(a:np≤4096):v.t<4096:=by
 obtain⟨h⟩:=h;omega
theorem pL(m d b a n o j:Nat)(c:Cf)(time:Nat)(r:Rp)(I:aO r)(k:Tk)(R:dV k)(g:Lg)(Q:gj g)(of:Nat)(v:Value)(l:List Ev)(V:l.length≤300)(T:g.next+l.length≤1000000000)(P: ∀e∈l,jc (r.m.R*r.m.B*r.m.M) r.m.R (gp of e) e)(G:k.F.length=r.m.R):aa ZJ 166 #[pt m 0,iN of,v] [ob m (lA c d b a time) 122,pk (ar d n o r),pk (aD b j k),pk (az a g),.p (aK zX v l)] [1,2,3] (λ_=>[pk (ar d n o r),pk (aD b j (fq of k l)),pk (az a (eT r.m of time g l))]) (λ_=> .tuple #[]):=by
 refine fO Tryz.func166 4 rfl λh x=>fG Tryz.func166 λw cs=>r0 [(1,eG x.1 4)] [(9,v),(10,iN l.length),(11,i6 0)] [] ?_;refine lq (λi=>i≤l.length) (λi=>[(11,iN i)]) (λi L=>(L.set 2 ((pk (aD b j (fq of k (l.take i)))))).set 3 ((pk (az a (eT r.m of time g (l.take i)))))) (λi=>l.length-i) 0 Om Kr (by rw[aad];kernel_rfl) (λi S=>?_);have K:=Ai of (l.take i) R;have M:(l.take i).length≤l.length:=by rw[ZO];omega
 have J:=Al r.m of time (l.take i) Q Om;have B:=(Aj of (l.take i) k).trans G;refine r0 [] [(12,.bool (decide ((i:Int)<(l.length:Int))))] [] ?_;refine cj (i:Int) (l.length:Int) (λO C=>?_) λO C=>?_
 ·have H:=(oB cV).2 P i Om;have N:=H.tb I.m.np;refine rr (λ_=>[(0,fx x.1 4 i 3),(1,nm jx x.1 4 i 0 3),(3,.s 5)]) (λy=>[(7,pt (B2 y) 0)]) [] (λy L=>L++[ob (B2 y) #[iN ((l.getD i cV).k),iN ((l.getD i cV).f),iN ((l.getD i cV).t)] 349]) λy=>r0 [] [(8,iN of)] [] (r0 [(1,.l 5)] [(17,iN ((l.getD i cV).k))] [] (r0 [] [(18,.bool ((((l.getD i cV).k:Nat):Int)==3))] [] ?_));refine cJ ((((l.getD i cV).k:Nat):Int)==3) (λc=>[(8,iN (bif c then 1 else(bif (((l.getD i cV).k:Nat):Int)==4 then 2 else(bif (((l.getD i cV).k:Nat):Int)==5 then 1+((l.getD i cV).t) else of))))]) (λ_=>[ob m (lA c d b a time) 122,pk (ar d n o r),pk (aD b j (fq of k (l.take i))),pk (az a (eT r.m of time g (l.take i))),.c h,ob (B2 y) #[iN ((l.getD i cV).k),iN ((l.getD i cV).f),iN ((l.getD i cV).t)] 349]) (λF=>?_) (λF=>?_) ?_
  ·have D:=eq_of_beq F;refine r0 [] [(8,i6 1)] [8] ?_;exact cm Kr [0,1,2,3,4,5] Kr
  ·have D:=ne_of_beq_false F;refine r0 [] [(20,.bool ((((l.getD i cV).k:Nat):Int)==4))] [] ?_;refine cJ ((((l.getD i cV).k:Nat):Int)==4) (λc=>[(8,iN (bif c then 2 else(bif (((l.getD i cV).k:Nat):Int)==5 then 1+((l.getD i cV).t) else of)))]) (λ_=>[ob m (lA c d b a time) 122,pk (ar d n o r),pk (aD b j (fq of k (l.take i))),pk (az a (eT r.m of time g (l.take i))),.c h,ob (B2 y) #[iN ((l.getD i cV).k),iN ((l.getD i cV).f),iN ((l.getD i cV).t)] 349]) (λq=>?_) (λq=>?_) ?_
   ·have z:=eq_of_beq q;refine r0 [] [(8,i6 2)] [8] ?_;exact cm Kr [0,1,2,3,4,5] Kr
   ·have z:=ne_of_beq_false q;refine r0 [] [(22,.bool ((((l.getD i cV).k:Nat):Int)==5))] [] ?_;refine cJ ((((l.getD i cV).k:Nat):Int)==5) (λc=>[(8,iN (bif c then 1+((l.getD i cV).t) else of))]) (λ_=>[ob m (lA c d b a time) 122,pk (ar d n o r),pk (aD b j (fq of k (l.take i))),pk (az a (eT r.m of time g (l.take i))),.c h,ob (B2 y) #[iN ((l.getD i cV).k),iN ((l.getD i cV).f),iN ((l.getD i cV).t)] 349]) (λu=>?_) (λu=>?_) ?_
    ·have A:=eq_of_beq u;refine r0 [(1,.l 5),(2,ad 1 ((l.getD i cV).t))] [(8,iN (1+((l.getD i cV).t)))] [8] ?_;exact cm Kr [0,1,2,3,4,5] Kr
    ·have A:=ne_of_beq_false u;exact cm Kr [0,1,2,3,4,5] Kr
    exact cm Kr [0,1,2,3,4,5] Kr
   exact cm Kr [0,1,2,3,4,5] Kr
  exact rr (λ_=>[(1,.t (tk (show iN (bif (((l.getD i cV).k:Nat):Int)==3 then 1 else(bif (((l.getD i cV).k:Nat):Int)==4 then 2 else(bif (((l.getD i cV).k:Nat):Int)==5 then 1+((l.getD i cV).t) else of)))=iN (gp of (l.getD i cV)) from ALca (Value.int .i64) (T1 of (l.getD i cV))))),(2,.l 5),(3,.c [0,1,2,3] [1,2,3] (T8 m d b a n o j c time r I (fq of k (l.take i)) K (eT r.m of time g (l.take i)) J (gp of (l.getD i cV)) (l.getD i cV) H B))]) N0 [] (λ_ L=>(L.set 2 ((pk (aD b j (gK (gp of (l.getD i cV)) (fq of k (l.take i)) (l.getD i cV)))))).set 3 ((pk (az a (bT (eT r.m of time g (l.take i)) (ja r.m (gp of (l.getD i cV)) time (l.getD i cV))))))) λU=>r0 [(0,ad i 1)] [(11,iN (i+1))] [11] (le (i+1) Om Om Kr [0,1,2,3,4] (by rw[TW Om,TX Om];kernel_rfl))
 obtain rfl:i=l.length:=by omega
 refine cl [ob m (lA c d b a time) 122,pk (ar d n o r),pk (aD b j (fq of k l)),pk (az a (eT r.m of time g l)),.c h] (by rw[aau];kernel_rfl) (lx ?_);exact eF ab.zero [1,2,3] [(0,0),(4,4)] []
theorem T9(q d b j n o p:Nat)(c:Cf)(s:Le)(K:Nat)(hs:da s K)(hK:K+3≤1000000000)(Y:c.J≤65536)(i h a f:Nat)(A:a<s.r.m.R)(V:h<s.r.m.R*s.r.m.B*s.r.m.M):aa ZJ 163 #[pt q 0,.agg #[i6 1,i6 1,iN f,iN i,iN h,iN a]] [ob q (lA c d b j s.time) 122,pk (ar d n o s.r),pk (aD b p s.k),pk (az j s.g)] [1,2,3] (λ_=>[pk (ar d n o (fh s a h (1) ⟨0,s.time,1,i,f⟩).r),pk (aD b p (fh s a h (1) ⟨0,s.time,1,i,f⟩).k),pk (az j (fh s a h (1) ⟨0,s.time,1,i,f⟩).g)]) (λ_=> .tuple #[]):=by
 have N:=hs.rk;have X:=hs.n;have U:=wz hs ⟨0,s.time,1,i,f⟩ Om;have z:=At U h (1) A;have H:eK (nK s a h (1) ⟨0,s.time,1,i,f⟩).r.m ⟨1,h⟩:=⟨.inl ⟨rfl,V⟩⟩;have I:eK (nK s a h (1) ⟨0,s.time,1,i,f⟩).r.m ⟨2,a⟩:=⟨.inr ⟨rfl,A⟩⟩;have O:=pK z H;have R:=qN z.r H 1;have Z:=pJ s.r ⟨1,h⟩;have F:=wB z H Om;have P:=pK z I;have S:=qN z.r I 2;have l5:=pJ s.r ⟨2,a⟩;have M:eK (qO (nK s a h (1) ⟨0,s.time,1,i,f⟩) ⟨1,h⟩).r.m ⟨2,a⟩:=I.ly (wE _ _);have Q:=pK F M;have T:=qN F.r M 2;have l6:=pJ (bo s.r ⟨1,h⟩) ⟨2,a⟩;have y3:=oD s.r ⟨1,h⟩;have y5:=oD s.r ⟨2,a⟩;have y6:=oD (bo s.r ⟨1,h⟩) ⟨2,a⟩;have n3:(bT s.g ⟨0,s.time,1,i,f⟩).next+(bR s.r ⟨1,h⟩).length≤1000000000:=by rw[m3];omega
 have n5:(bT s.g ⟨0,s.time,1,i,f⟩).next+(bR s.r ⟨2,a⟩).length≤1000000000:=by rw[m3];omega
 have n6:(eT (bo s.r ⟨1,h⟩).m 1 s.time (bT s.g ⟨0,s.time,1,i,f⟩) (bR s.r ⟨1,h⟩)).next+(bR (bo s.r ⟨1,h⟩) ⟨2,a⟩).length≤1000000000:=by rw[wx,m3];omega
 have W:=A;refine fG Tryz.func163 λw cs=>ra (λD=>[(3,pt (B0 D) 0)]) (λD=>[ob (B0 D) #[i6 1,i6 1,iN f,iN i,iN h,iN a] 81]) λD=>r0 [] [(4,i6 0)] [] (r0 [(2,.l 4)] [(9,i6 1)] [] (rF [] 20 (rT [] 22 (r0 [] [(4,i6 1)] [4] (rs [(2,.l 4),(5,.l 4),(6,.c [0,3] [3] (nJ q d b j c s.time s.g hs.g 1 i f))] 3 ((pk (az j (bT s.g ⟨0,s.time,1,i,f⟩)))) (rr (λ_=>[(0,.v (pt q 0)),(1,.v (pt q 0)),(2,.v (pt q 17)),(3,.m (ld 0 (pt b 0))),(4,.v (pt (B0 D) 5)),(5,.m (ld 4 (iN a))),(6,.v (pt (B0 D) 4)),(7,.m (ld 4 (iN h))),(8,.v (i6 1)),(9,.c [2] [2] (Gj b p s.k hs.k a h 1 (by rw[N];exact A) Om)),(10,.v (.tuple #[.agg #[.bool (cY s.k.lr ((s.k.F.getD a bg).l) 1),.bool (cY s.k.lp ((dh s.k.t h).l) 1)],i6 0])),(11,.v (.agg #[.bool (cY s.k.lr ((s.k.F.getD a bg).l) 1),.bool (cY s.k.lp ((dh s.k.t h).l) 1)])),(12,.v (i6 0)),(13,.m (al 5)),(14,.s 5),(15,.v (i6 0))]) (λJ=>[(5,pt ((J 13).y 0) 0)]) [] (λJ L=>L.set 2 ((pk (aD b p (fI s.k a h 1))))++[ob ((J 13).y 0) #[.bool (cY s.k.lr ((s.k.F.getD a bg).l) 1),.bool (cY s.k.lp ((dh s.k.t h).l) 1)] 339]) λJ=>r0 [(1,.l 5)] [(51,.bool (cY s.k.lp ((dh s.k.t h).l) 1))] [] ?_))))));refine cB (cY s.k.lp ((dh s.k.t h).l) 1) (λt=>?_) λt=>?_
 ·refine rr (λu=>[(4,.l 0),(6,.l 4),(8,.c [1] [1,6] (qI d n o s.r (by exact hs.r) (⟨1,h⟩:Ak) (by exact H))),(9,.c [0,1,2,3,6] [1,2,3] (aa.at (rd':=[ob q (lA c d b j s.time) 122,pk (ar d n o (bo s.r (⟨1,h⟩:Ak))),pk (aD b p (fI s.k a h 1)),pk (az j (bT s.g ⟨0,s.time,1,i,f⟩)),bc ((u 8).val 0) (bR s.r (⟨1,h⟩:Ak))]) (pL q d b j n o p c s.time (bo s.r (⟨1,h⟩:Ak)) (by exact O.r) (fI s.k a h 1) (by exact z.k) (bT s.g ⟨0,s.time,1,i,f⟩) (by exact z.g) 1 ((u 8).val 0) (bR s.r (⟨1,h⟩:Ak)) (by exact ZS Z Dc) (by exact n3) (by exact λe G=>(R e G).ly y3) (by exact O.rk)) (atS (atS (atS (atS (bM (λ_ h=>aq.sq h) (λ_ h=>h))))))))]) N0 [] (λu L=>((L.set 1 ((pk (ar d n o (bo s.r (⟨1,h⟩:Ak)))))).set 2 ((pk (aD b p (fq 1 (fI s.k a h 1) (bR s.r (⟨1,h⟩:Ak))))))).set 3 ((pk (az j (eT (bo s.r (⟨1,h⟩:Ak)).m 1 s.time (bT s.g ⟨0,s.time,1,i,f⟩) (bR s.r (⟨1,h⟩:Ak))))))++[bc ((u 8).val 0) (bR s.r (⟨1,h⟩:Ak))]) λu=>r0 [(1,.l 5)] [(63,.bool (cY s.k.lr ((s.k.F.getD a bg).l) 1))] [] ?_;refine cB (cY s.k.lr ((s.k.F.getD a bg).l) 1) (λB=>?_) λB=>?_
  ·refine rr (λx=>[(4,.l 0),(6,.l 4),(8,.c [1] [1,7] (qI d n o (bo s.r (⟨1,h⟩:Ak)) (by exact F.r) (⟨2,a⟩:Ak) (by exact M))),(9,.c [0,1,2,3,7] [1,2,3] (aa.at (rd':=[ob q (lA c d b j s.time) 122,pk (ar d n o (bo (bo s.r (⟨1,h⟩:Ak)) (⟨2,a⟩:Ak))),pk (aD b p (fq 1 (fI s.k a h 1) (bR s.r (⟨1,h⟩:Ak)))),pk (az j (eT (bo s.r (⟨1,h⟩:Ak)).m 1 s.time (bT s.g ⟨0,s.time,1,i,f⟩) (bR s.r (⟨1,h⟩:Ak)))),bc ((x 8).val 0) (bR (bo s.r (⟨1,h⟩:Ak)) (⟨2,a⟩:Ak))]) (pL q d b j n o p c s.time (bo (bo s.r (⟨1,h⟩:Ak)) (⟨2,a⟩:Ak)) (by exact Q.r) (fq 1 (fI s.k a h 1) (bR s.r (⟨1,h⟩:Ak))) (by exact F.k) (eT (bo s.r (⟨1,h⟩:Ak)).m 1 s.time (bT s.g ⟨0,s.time,1,i,f⟩) (bR s.r (⟨1,h⟩:Ak))) (by exact F.g) 2 ((x 8).val 0) (bR (bo s.r (⟨1,h⟩:Ak)) (⟨2,a⟩:Ak)) (by exact ZS l6 Dc) (by exact n6) (by exact λe G=>(T e G).ly y6) (by exact Q.rk)) (atS (atS (atS (atS (bM (λ_ h=>aq.sq h) (λ_ h=>h))))))))]) N0 [] (λx L=>((L.set 1 ((pk (ar d n o (bo (bo s.r (⟨1,h⟩:Ak)) (⟨2,a⟩:Ak)))))).set 2 ((pk (aD b p (fq 2 (fq 1 (fI s.k a h 1) (bR s.r (⟨1,h⟩:Ak))) (bR (bo s.r (⟨1,h⟩:Ak)) (⟨2,a⟩:Ak))))))).set 3 ((pk (az j (eT (bo (bo s.r (⟨1,h⟩:Ak)) (⟨2,a⟩:Ak)).m 2 s.time (eT (bo s.r (⟨1,h⟩:Ak)).m 1 s.time (bT s.g ⟨0,s.time,1,i,f⟩) (bR s.r (⟨1,h⟩:Ak))) (bR (bo s.r (⟨1,h⟩:Ak)) (⟨2,a⟩:Ak))))))++[bc ((x 8).val 0) (bR (bo s.r (⟨1,h⟩:Ak)) (⟨2,a⟩:Ak))]) λx=>?_;exact eF ab.zero [1,2,3] [(0,0)] [] (hf:=by unfold fh gu;(repeat (first | rw[t] | rw[B] | rw[ALct]));kernel_rfl)
  exact eF ab.zero [1,2,3] [(0,0)] [] (hf:=by unfold fh gu;(repeat (first | rw[t] | rw[B] | rw[ALct] | rw[ALcf]));kernel_rfl)
 refine r0 [(1,.l 5)] [(63,.bool (cY s.k.lr ((s.k.F.getD a bg).l) 1))] [] ?_;refine cB (cY s.k.lr ((s.k.F.getD a bg).l) 1) (λC=>?_) λC=>?_
 ·refine rr (λy=>[(4,.l 0),(6,.l 4),(8,.c [1] [1,6] (qI d n o s.r (by exact hs.r) (⟨2,a⟩:Ak) (by exact I))),(9,.c [0,1,2,3,6] [1,2,3] (aa.at (rd':=[ob q (lA c d b j s.time) 122,pk (ar d n o (bo s.r (⟨2,a⟩:Ak))),pk (aD b p (fI s.k a h 1)),pk (az j (bT s.g ⟨0,s.time,1,i,f⟩)),bc ((y 8).val 0) (bR s.r (⟨2,a⟩:Ak))]) (pL q d b j n o p c s.time (bo s.r (⟨2,a⟩:Ak)) (by exact P.r) (fI s.k a h 1) (by exact z.k) (bT s.g ⟨0,s.time,1,i,f⟩) (by exact z.g) 2 ((y 8).val 0) (bR s.r (⟨2,a⟩:Ak)) (by exact ZS l5 Dc) (by exact n5) (by exact λe G=>(S e G).ly y5) (by exact P.rk)) (atS (atS (atS (atS (bM (λ_ h=>aq.sq h) (λ_ h=>h))))))))]) N0 [] (λy L=>((L.set 1 ((pk (ar d n o (bo s.r (⟨2,a⟩:Ak)))))).set 2 ((pk (aD b p (fq 2 (fI s.k a h 1) (bR s.r (⟨2,a⟩:Ak))))))).set 3 ((pk (az j (eT (bo s.r (⟨2,a⟩:Ak)).m 2 s.time (bT s.g ⟨0,s.time,1,i,f⟩) (bR s.r (⟨2,a⟩:Ak))))))++[bc ((y 8).val 0) (bR s.r (⟨2,a⟩:Ak))]) λy=>?_;exact eF ab.zero [1,2,3] [(0,0)] [] (hf:=by unfold fh gu;(repeat (first | rw[t] | rw[C] | rw[ALct] | rw[ALcf]));kernel_rfl)
 exact eF ab.zero [1,2,3] [(0,0)] [] (hf:=by unfold fh gu;(repeat (first | rw[t] | rw[C] | rw[ALcf]));kernel_rfl)
theorem Ua(q d b j n o p:Nat)(c:Cf)(s:Le)(K:Nat)(hs:da s K)(hK:K+3≤1000000000)(Y:c.J≤65536)(i h a f:Nat)(A:a<s.r.m.R)(V:h<s.r.m.R*s.r.m.B*s.r.m.M):aa ZJ 163 #[pt q 0,.agg #[i6 1,i6 3,iN f,iN i,iN h,iN a]] [ob q (lA c d b j s.time) 122,pk (ar d n o s.r),pk (aD b p s.k),pk (az j s.g)] [1,2,3] (λ_=>[pk (ar d n o (fh s a h (c.J) ⟨0,s.time,2,i,0⟩).r),pk (aD b p (fh s a h (c.J) ⟨0,s.time,2,i,0⟩).k),pk (az j (fh s a h (c.J) ⟨0,s.time,2,i,0⟩).g)]) (λ_=> .tuple #[]):=by
 have N:=hs.rk;have X:=hs.n;have U:=wz hs ⟨0,s.time,2,i,0⟩ Om;have z:=At U h (c.J) A;have H:eK (nK s a h (c.J) ⟨0,s.time,2,i,0⟩).r.m ⟨1,h⟩:=⟨.inl ⟨rfl,V⟩⟩;have I:eK (nK s a h (c.J) ⟨0,s.time,2,i,0⟩).r.m ⟨2,a⟩:=⟨.inr ⟨rfl,A⟩⟩;have O:=pK z H;have R:=qN z.r H 1;have Z:=pJ s.r ⟨1,h⟩;have F:=wB z H Om;have P:=pK z I;have S:=qN z.r I 2;have l5:=pJ s.r ⟨2,a⟩;have M:eK (qO (nK s a h (c.J) ⟨0,s.time,2,i,0⟩) ⟨1,h⟩).r.m ⟨2,a⟩:=I.ly (wE _ _);have Q:=pK F M;have T:=qN F.r M 2;have l6:=pJ (bo s.r ⟨1,h⟩) ⟨2,a⟩;have y3:=oD s.r ⟨1,h⟩;have y5:=oD s.r ⟨2,a⟩;have y6:=oD (bo s.r ⟨1,h⟩) ⟨2,a⟩;have n3:(bT s.g ⟨0,s.time,2,i,0⟩).next+(bR s.r ⟨1,h⟩).length≤1000000000:=by rw[m3];omega
 have n5:(bT s.g ⟨0,s.time,2,i,0⟩).next+(bR s.r ⟨2,a⟩).length≤1000000000:=by rw[m3];omega
 have n6:(eT (bo s.r ⟨1,h⟩).m 1 s.time (bT s.g ⟨0,s.time,2,i,0⟩) (bR s.r ⟨1,h⟩)).next+(bR (bo s.r ⟨1,h⟩) ⟨2,a⟩).length≤1000000000:=by rw[wx,m3];omega
 have W:=A;refine fG Tryz.func163 λw cs=>ra (λD=>[(3,pt (B0 D) 0)]) (λD=>[ob (B0 D) #[i6 1,i6 3,iN f,iN i,iN h,iN a] 81]) λD=>r0 [] [(4,i6 0)] [] (r0 [(2,.l 4)] [(9,i6 3)] [] (rF [] 20 (rF [] 22 (rF [] 31 (r0 [(5,.l 0)] [(4,iN c.J)] [4] (rs [(2,.l 4),(3,.c [0,3] [3] (nJ q d b j c s.time s.g hs.g 2 i 0))] 3 ((pk (az j (bT s.g ⟨0,s.time,2,i,0⟩)))) (rr (λ_=>[(0,.v (pt q 0)),(1,.v (pt q 0)),(2,.v (pt q 17)),(3,.m (ld 0 (pt b 0))),(4,.v (pt (B0 D) 5)),(5,.m (ld 4 (iN a))),(6,.v (pt (B0 D) 4)),(7,.m (ld 4 (iN h))),(8,.v (iN c.J)),(9,.c [2] [2] (Gj b p s.k hs.k a h c.J (by rw[N];exact A) Om)),(10,.v (.tuple #[.agg #[.bool (cY s.k.lr ((s.k.F.getD a bg).l) c.J),.bool (cY s.k.lp ((dh s.k.t h).l) c.J)],i6 0])),(11,.v (.agg #[.bool (cY s.k.lr ((s.k.F.getD a bg).l) c.J),.bool (cY s.k.lp ((dh s.k.t h).l) c.J)])),(12,.v (i6 0)),(13,.m (al 5)),(14,.s 5),(15,.v (i6 0))]) (λJ=>[(5,pt ((J 13).y 0) 0)]) [] (λJ L=>L.set 2 ((pk (aD b p (fI s.k a h c.J))))++[ob ((J 13).y 0) #[.bool (cY s.k.lr ((s.k.F.getD a bg).l) c.J),.bool (cY s.k.lp ((dh s.k.t h).l) c.J)] 339]) λJ=>r0 [(1,.l 5)] [(51,.bool (cY s.k.lp ((dh s.k.t h).l) c.J))] [] ?_)))))));refine cB (cY s.k.lp ((dh s.k.t h).l) c.J) (λt=>?_) λt=>?_
 ·refine rr (λu=>[(4,.l 0),(6,.l 4),(8,.c [1] [1,6] (qI d n o s.r (by exact hs.r) (⟨1,h⟩:Ak) (by exact H))),(9,.c [0,1,2,3,6] [1,2,3] (aa.at (rd':=[ob q (lA c d b j s.time) 122,pk (ar d n o (bo s.r (⟨1,h⟩:Ak))),pk (aD b p (fI s.k a h c.J)),pk (az j (bT s.g ⟨0,s.time,2,i,0⟩)),bc ((u 8).val 0) (bR s.r (⟨1,h⟩:Ak))]) (pL q d b j n o p c s.time (bo s.r (⟨1,h⟩:Ak)) (by exact O.r) (fI s.k a h c.J) (by exact z.k) (bT s.g ⟨0,s.time,2,i,0⟩) (by exact z.g) 1 ((u 8).val 0) (bR s.r (⟨1,h⟩:Ak)) (by exact ZS Z Dc) (by exact n3) (by exact λe G=>(R e G).ly y3) (by exact O.rk)) (atS (atS (atS (atS (bM (λ_ h=>aq.sq h) (λ_ h=>h))))))))]) N0 [] (λu L=>((L.set 1 ((pk (ar d n o (bo s.r (⟨1,h⟩:Ak)))))).set 2 ((pk (aD b p (fq 1 (fI s.k a h c.J) (bR s.r (⟨1,h⟩:Ak))))))).set 3 ((pk (az j (eT (bo s.r (⟨1,h⟩:Ak)).m 1 s.time (bT s.g ⟨0,s.time,2,i,0⟩) (bR s.r (⟨1,h⟩:Ak))))))++[bc ((u 8).val 0) (bR s.r (⟨1,h⟩:Ak))]) λu=>r0 [(1,.l 5)] [(63,.bool (cY s.k.lr ((s.k.F.getD a bg).l) c.J))] [] ?_;refine cB (cY s.k.lr ((s.k.F.getD a bg).l) c.J) (λB=>?_) λB=>?_
  ·refine rr (λx=>[(4,.l 0),(6,.l 4),(8,.c [1] [1,7] (qI d n o (bo s.r (⟨1,h⟩:Ak)) (by exact F.r) (⟨2,a⟩:Ak) (by exact M))),(9,.c [0,1,2,3,7] [1,2,3] (aa.at (rd':=[ob q (lA c d b j s.time) 122,pk (ar d n o (bo (bo s.r (⟨1,h⟩:Ak)) (⟨2,a⟩:Ak))),pk (aD b p (fq 1 (fI s.k a h c.J) (bR s.r (⟨1,h⟩:Ak)))),pk (az j (eT (bo s.r (⟨1,h⟩:Ak)).m 1 s.time (bT s.g ⟨0,s.time,2,i,0⟩) (bR s.r (⟨1,h⟩:Ak)))),bc ((x 8).val 0) (bR (bo s.r (⟨1,h⟩:Ak)) (⟨2,a⟩:Ak))]) (pL q d b j n o p c s.time (bo (bo s.r (⟨1,h⟩:Ak)) (⟨2,a⟩:Ak)) (by exact Q.r) (fq 1 (fI s.k a h c.J) (bR s.r (⟨1,h⟩:Ak))) (by exact F.k) (eT (bo s.r (⟨1,h⟩:Ak)).m 1 s.time (bT s.g ⟨0,s.time,2,i,0⟩) (bR s.r (⟨1,h⟩:Ak))) (by exact F.g) 2 ((x 8).val 0) (bR (bo s.r (⟨1,h⟩:Ak)) (⟨2,a⟩:Ak)) (by exact ZS l6 Dc) (by exact n6) (by exact λe G=>(T e G).ly y6) (by exact Q.rk)) (atS (atS (atS (atS (bM (λ_ h=>aq.sq h) (λ_ h=>h))))))))]) N0 [] (λx L=>((L.set 1 ((pk (ar d n o (bo (bo s.r (⟨1,h⟩:Ak)) (⟨2,a⟩:Ak)))))).set 2 ((pk (aD b p (fq 2 (fq 1 (fI s.k a h c.J) (bR s.r (⟨1,h⟩:Ak))) (bR (bo s.r (⟨1,h⟩:Ak)) (⟨2,a⟩:Ak))))))).set 3 ((pk (az j (eT (bo (bo s.r (⟨1,h⟩:Ak)) (⟨2,a⟩:Ak)).m 2 s.time (eT (bo s.r (⟨1,h⟩:Ak)).m 1 s.time (bT s.g ⟨0,s.time,2,i,0⟩) (bR s.r (⟨1,h⟩:Ak))) (bR (bo s.r (⟨1,h⟩:Ak)) (⟨2,a⟩:Ak))))))++[bc ((x 8).val 0) (bR (bo s.r (⟨1,h⟩:Ak)) (⟨2,a⟩:Ak))]) λx=>?_;exact eF ab.zero [1,2,3] [(0,0)] [] (hf:=by unfold fh gu;(repeat (first | rw[t] | rw[B] | rw[ALct]));kernel_rfl)
  exact eF ab.zero [1,2,3] [(0,0)] [] (hf:=by unfold fh gu;(repeat (first | rw[t] | rw[B] | rw[ALct] | rw[ALcf]));kernel_rfl)
 refine r0 [(1,.l 5)] [(63,.bool (cY s.k.lr ((s.k.F.getD a bg).l) c.J))] [] ?_;refine cB (cY s.k.lr ((s.k.F.getD a bg).l) c.J) (λC=>?_) λC=>?_
 ·refine rr (λy=>[(4,.l 0),(6,.l 4),(8,.c [1] [1,6] (qI d n o s.r (by exact hs.r) (⟨2,a⟩:Ak) (by exact I))),(9,.c [0,1,2,3,6] [1,2,3] (aa.at (rd':=[ob q (lA c d b j s.time) 122,pk (ar d n o (bo s.r (⟨2,a⟩:Ak))),pk (aD b p (fI s.k a h c.J)),pk (az j (bT s.g ⟨0,s.time,2,i,0⟩)),bc ((y 8).val 0) (bR s.r (⟨2,a⟩:Ak))]) (pL q d b j n o p c s.time (bo s.r (⟨2,a⟩:Ak)) (by exact P.r) (fI s.k a h c.J) (by exact z.k) (bT s.g ⟨0,s.time,2,i,0⟩) (by exact z.g) 2 ((y 8).val 0) (bR s.r (⟨2,a⟩:Ak)) (by exact ZS l5 Dc) (by exact n5) (by exact λe G=>(S e G).ly y5) (by exact P.rk)) (atS (atS (atS (atS (bM (λ_ h=>aq.sq h) (λ_ h=>h))))))))]) N0 [] (λy L=>((L.set 1 ((pk (ar d n o (bo s.r (⟨2,a⟩:Ak)))))).set 2 ((pk (aD b p (fq 2 (fI s.k a h c.J) (bR s.r (⟨2,a⟩:Ak))))))).set 3 ((pk (az j (eT (bo s.r (⟨2,a⟩:Ak)).m 2 s.time (bT s.g ⟨0,s.time,2,i,0⟩) (bR s.r (⟨2,a⟩:Ak))))))++[bc ((y 8).val 0) (bR s.r (⟨2,a⟩:Ak))]) λy=>?_;exact eF ab.zero [1,2,3] [(0,0)] [] (hf:=by unfold fh gu;(repeat (first | rw[t] | rw[C] | rw[ALct] | rw[ALcf]));kernel_rfl)
 exact eF ab.zero [1,2,3] [(0,0)] [] (hf:=by unfold fh gu;(repeat (first | rw[t] | rw[C] | rw[ALcf]));kernel_rfl)
theorem Ub(g e d b j k m:Nat)(c:Cf)(s:Le)(K:Nat)(hs:da s K)(i h n f:Nat):aa ZJ 163 #[pt g 0,.agg #[i6 1,i6 0,iN f,iN i,iN h,iN n]] [ob g (lA c e d b s.time) 122,pk (ar e j k s.r),pk (aD d m s.k),pk (az b s.g)] [1,2,3] (λ_=>[pk (ar e j k s.r),pk (aD d m s.k),pk (az b s.g)]) (λ_=> .tuple #[]):=by
 exact fG Tryz.func163 λw cs=>ra (λa=>[(3,pt (B0 a) 0)]) (λa=>[ob (B0 a) #[i6 1,i6 0,iN f,iN i,iN h,iN n] 81]) λa=>r0 [] [(4,i6 0)] [] (r0 [(2,.l 4)] [(9,i6 0)] [] (rT [] 20 (lf ab.zero [1,2,3] [(0,0)] [])))
theorem Uc(g d b a j k m:Nat)(c:Cf)(s:Le)(K:Nat)(hs:da s K)(o:K+3≤1000000000)(i h n f:Nat):aa ZJ 163 #[pt g 0,.agg #[i6 1,i6 2,iN f,iN i,iN h,iN n]] [ob g (lA c d b a s.time) 122,pk (ar d j k s.r),pk (aD b m s.k),pk (az a s.g)] [1,2,3] (λ_=>[pk (ar d j k s.r),pk (aD b m s.k),pk (az a (bT s.g ⟨0,s.time,2,i,1⟩))]) (λ_=> .tuple #[]):=by
 exact fG Tryz.func163 λw cs=>ra (λe=>[(3,pt (B0 e) 0)]) (λe=>[ob (B0 e) #[i6 1,i6 2,iN f,iN i,iN h,iN n] 81]) λe=>r0 [] [(4,i6 0)] [] (r0 [(2,.l 4)] [(9,i6 2)] [] (rF [] 20 (rF [] 22 (rT [] 31 (rs [(2,.l 4),(3,.c [0,3] [3] (nJ g d b a c s.time s.g hs.g 2 i 1))] 3 ((pk (az a (bT s.g ⟨0,s.time,2,i,1⟩)))) (lf ab.zero [1,2,3] [(0,0)] []))))))
theorem GH(m:Nat)(a:m=1∨m=2):aa ZJ 75 #[iN m] [] [] N0 (λ_=>iN (aN (m:Int))):=by
 rcases a with rfl | rfl
 ·exact vC
 ·exact vD
theorem GI(m:Nat)(a:m=1∨m=2):aa ZJ 192 #[iN m] [] [] N0 (λ_=>iN (dy (m:Int))):=by
 rcases a with rfl | rfl
 ·exact yZ
 ·exact y0
structure Fa where
 x0:Int
 x1:Int
 x2:Int
 x3:Int
 x4:Int
 x5:Int
 x6:Int
 x7:Int
def b7:Fa:=⟨0,0,0,0,0,0,0,0⟩
def pM(x:Fa):List Value:=[i6 x.x0,i6 x.x1,i6 x.x2,i6 x.x3,i6 x.x4,i6 x.x5,i6 x.x6,i6 x.x7]
def mv:Kd ZJ Fa:=⟨pM,[i6 0,i6 0,i6 0,i6 0,i6 0,i6 0,i6 0,i6 0],93,48,b7,8,λ_=>rfl,rfl,λ_=>rfl,eh.mk' Kr Kr rfl⟩
abbrev dw(v:Value)(xs:List Fa):aA:= .p (aq pM ([i6 0,i6 0,i6 0,i6 0,i6 0,i6 0,i6 0,i6 0]) 48 v xs)
theorem Au(i n:Int):aa ZJ 74 #[i6 i,i6 n] [] [] N0 (λ_=> .bool (bG i n)):=by
 exact fG Tryz.func74 λw cs=>r0 [] [(4,.bool false)] [] (r0 [] [(4,.bool ((decide (0≤i))&&(decide (i<n))))] [4] (ak (.bool ((decide (0≤i))&&(decide (i<n)))) ab.zero a9 [] [] []))
def iM(f:Fa):Bool:=(decide (2≤f.x0))&&(decide (f.x0≤5))
theorem GJ(f:Fa):aa ZJ 169 #[.agg #[i6 f.x0,i6 f.x1,i6 f.x2,i6 f.x3,i6 f.x4,i6 f.x5,i6 f.x6,i6 f.x7]] [] [] N0 (λ_=> .bool (iM f)):=by
 exact fG Tryz.func169 λw cs=>ra (λa=>[(1,pt (B0 a) 0),(2,.bool false)]) (λa=>[ob (B0 a) #[i6 f.x0,i6 f.x1,i6 f.x2,i6 f.x3,i6 f.x4,i6 f.x5,i6 f.x6,i6 f.x7] 48]) λa=>r0 [(1,.l 0),(5,.l 0)] [(2,.bool ((decide (2≤f.x0))&&(decide (f.x0≤5))))] [2] (ak (.bool ((decide (2≤f.x0))&&(decide (f.x0≤5)))) ab.zero a9 [] [] [])
def lI(f:Fa)(a b c d:Int):Bool:=(bif (bif f.x0==1 then f.x0==1 else f.x0==2) then(a==f.x1&&(b==f.x2&&(c==f.x3&&(d==f.x4&&true)))) else(bif f.x0==3 then(a==f.x1&&(b==f.x2&&(c==f.x3&&(f.x4==f.x4&&true)))) else(bif f.x0==4 then(a==f.x1&&(b==f.x2&&(f.x3==f.x3&&(d==f.x4&&true)))) else(bif f.x0==5 then a==f.x1 else false))))
theorem Ud(f:Fa)(a b i j:Int):aa ZJ 69 #[.agg #[i6 f.x0,i6 f.x1,i6 f.x2,i6 f.x3,i6 f.x4,i6 f.x5,i6 f.x6,i6 f.x7],.agg #[i6 a,i6 b,i6 i,i6 j]] [] [] N0 (λ_=> .bool (lI f a b i j)):=by
 refine fG Tryz.func69 λw cs=>ra (λg=>[(2,pt (B0 g) 0),(3,pt (B1 g) 0),(4,.bool false)]) (λg=>[ob (B0 g) #[i6 f.x0,i6 f.x1,i6 f.x2,i6 f.x3,i6 f.x4,i6 f.x5,i6 f.x6,i6 f.x7] 48,ob (B1 g) #[i6 a,i6 b,i6 i,i6 j] 46]) λg=>rr (λ_=>[(1,.l 0),(3,.s 2)]) (λq=>[(5,pt (B2 q) 0)]) [] (λq L=>L++[ob (B2 q) #[i6 f.x1,i6 f.x2,i6 f.x3,i6 f.x4] 46]) λq=>r0 [(1,.l 0)] [(9,i6 f.x0)] [] (r0 [] [(10,.bool (f.x0==1))] [] ?_);refine cJ (f.x0==1) (λc=>[(10,.bool (bif c then f.x0==1 else f.x0==2))]) (λ_=>[ob (B0 g) #[i6 f.x0,i6 f.x1,i6 f.x2,i6 f.x3,i6 f.x4,i6 f.x5,i6 f.x6,i6 f.x7] 48,ob (B1 g) #[i6 a,i6 b,i6 i,i6 j] 46,ob (B2 q) #[i6 f.x1,i6 f.x2,i6 f.x3,i6 f.x4] 46]) (λt=>?_) (λt=>?_) ?_
 ·have r:=eq_of_beq t;exact cm Kr [0,1,2] Kr
 ·have r:=ne_of_beq_false t;refine r0 [] [(10,.bool (f.x0==2))] [10] ?_;exact cm Kr [0,1,2] Kr
 refine cB ((bif f.x0==1 then f.x0==1 else f.x0==2)) (λm=>?_) λm=>?_
 ·exact r0 [(0,.l 1),(1,.l 2),(2,.e)] [(4,.bool (a==f.x1&&(b==f.x2&&(i==f.x3&&(j==f.x4&&true)))))] [4] (ak (.bool (a==f.x1&&(b==f.x2&&(i==f.x3&&(j==f.x4&&true))))) ab.zero (by((try simp only[lI]);(repeat (first | rw[m] | rw[ALct])))<;>rfl) [] [] [])
 refine r0 [] [(16,.bool (f.x0==3))] [] ?_;refine c0 f.x0 3 (λd n=>?_) λd n=>?_
 ·exact rr (λ_=>[(1,.l 2),(3,.s 1)]) N0 [] (λ_ L=>L.set 1 (ob (B1 g) #[i6 a,i6 b,i6 i,i6 f.x4] 46)) λu=>r0 [(0,.l 1),(1,.l 2),(2,.e)] [(4,.bool (a==f.x1&&(b==f.x2&&(i==f.x3&&(f.x4==f.x4&&true)))))] [4] (ak (.bool (a==f.x1&&(b==f.x2&&(i==f.x3&&(f.x4==f.x4&&true))))) ab.zero (by((try simp only[lI]);(repeat (first | rw[m] | rw[d] | rw[ALct] | rw[ALcf])))<;>rfl) [] [] [])
 refine r0 [] [(24,.bool (f.x0==4))] [] ?_;refine c0 f.x0 4 (λh o=>?_) λh o=>?_
 ·exact rr (λ_=>[(1,.l 2),(3,.s 1)]) N0 [] (λ_ L=>L.set 1 (ob (B1 g) #[i6 a,i6 b,i6 f.x3,i6 j] 46)) λv=>r0 [(0,.l 1),(1,.l 2),(2,.e)] [(4,.bool (a==f.x1&&(b==f.x2&&(f.x3==f.x3&&(j==f.x4&&true)))))] [4] (ak (.bool (a==f.x1&&(b==f.x2&&(f.x3==f.x3&&(j==f.x4&&true))))) ab.zero (by((try simp only[lI]);(repeat (first | rw[m] | rw[d] | rw[h] | rw[ALct] | rw[ALcf])))<;>rfl) [] [] [])
 refine r0 [] [(32,.bool (f.x0==5))] [] ?_;refine c0 f.x0 5 (λk p=>?_) λk p=>?_
 ·exact r0 [(1,.l 1),(3,.l 2)] [(4,.bool (a==f.x1))] [4] (ak (.bool (a==f.x1)) ab.zero (by((try simp only[lI]);(repeat (first | rw[m] | rw[d] | rw[h] | rw[k] | rw[ALct] | rw[ALcf])))<;>rfl) [] [] [])
 exact r0 [] [(4,.bool false)] [4] (ak (.bool false) ab.zero (by((try simp only[lI]);(repeat (first | rw[m] | rw[d] | rw[h] | rw[k] | rw[ALcf])))<;>rfl) [] [] [])
def jz(f:Fa):Int:=(bif f.x0==1 then f.x1 else(bif f.x0==2 then f.x1 else(bif f.x0==3 then f.x1 else(bif f.x0==4 then f.x1 else(bif f.x0==5 then f.x1 else(bif f.x0==7 then 0 else f.x1))))))
def jA(f:Fa):Int:=(bif f.x0==1 then(bif f.x0==3 then f.x2 else(bif f.x0==4 then f.x2 else(bif f.x0==5 then 0 else f.x2))) else(bif f.x0==2 then(bif f.x0==3 then f.x2 else(bif f.x0==4 then f.x2 else(bif f.x0==5 then 0 else f.x2))) else(bif f.x0==3 then f.x2 else(bif f.x0==4 then f.x2 else(bif f.x0==5 then 0 else(bif f.x0==7 then 0 else f.x2))))))
def jB(f:Fa):Int:=(bif f.x0==1 then(bif f.x0==3 then f.x3 else(bif f.x0==4 then 0 else(bif f.x0==5 then 0 else f.x3))) else(bif f.x0==2 then(bif f.x0==3 then f.x3 else(bif f.x0==4 then 0 else(bif f.x0==5 then 0 else f.x3))) else(bif f.x0==3 then f.x3 else(bif f.x0==4 then 0 else(bif f.x0==5 then 0 else(bif f.x0==7 then 0 else f.x3))))))
def jC(f:Fa):Int:=(bif f.x0==1 then(bif f.x0==3 then 0 else(bif f.x0==4 then f.x4 else(bif f.x0==5 then 0 else f.x4))) else(bif f.x0==2 then(bif f.x0==3 then 0 else(bif f.x0==4 then f.x4 else(bif f.x0==5 then 0 else f.x4))) else(bif f.x0==3 then 0 else(bif f.x0==4 then f.x4 else(bif f.x0==5 then 0 else(bif f.x0==7 then 0 else f.x4))))))
def jD(f:Fa):Int:=(bif f.x0==1 then 0 else(bif f.x0==2 then 0 else(bif f.x0==3 then f.x5 else(bif f.x0==4 then f.x5 else(bif f.x0==5 then f.x5 else 0)))))
def jE(f:Fa):Int:=(bif f.x0==1 then f.x6 else(bif f.x0==2 then f.x6 else 0))
def jG(f:Fa):Int:=(bif f.x0==1 then 0 else(bif f.x0==2 then f.x7 else(bif f.x0==3 then f.x7 else(bif f.x0==4 then f.x7 else(bif f.x0==5 then f.x7 else 0)))))
theorem Ue(f:Fa):aa ZJ 72 #[.agg #[i6 f.x0,i6 f.x1,i6 f.x2,i6 f.x3,i6 f.x4,i6 f.x5,i6 f.x6,i6 f.x7]] [] [] N0 (λ_=> .agg #[i6 f.x0,i6 (jz f),i6 (jA f),i6 (jB f),i6 (jC f),i6 (jD f),i6 (jE f),i6 (jG f)]):=by
 refine fG Tryz.func72 λw cs=>ra (λd=>[(1,pt (B0 d) 0),(2,pt (B1 d) 0)]) (λd=>[ob (B0 d) #[i6 f.x0,i6 f.x1,i6 f.x2,i6 f.x3,i6 f.x4,i6 f.x5,i6 f.x6,i6 f.x7] 48,ob (B1 d) #[i6 0,i6 0,i6 0,i6 0,i6 0,i6 0,i6 0,i6 0] 48]) λd=>rr (λ_=>[(1,.l 0),(3,.l 0),(6,.s 2)]) (λe=>[(3,pt (B5 e) 0)]) [] (λe L=>L++[ob (B5 e) #[i6 f.x0,i6 f.x1,i6 f.x2,i6 f.x3,i6 f.x4,i6 0,i6 0,i6 0] 48]) λe=>r0 [(1,.l 0)] [(10,i6 f.x0)] [] (r0 [] [(11,.bool (f.x0==1))] [] ?_);refine c0 f.x0 1 (λh D=>?_) λh D=>?_
 ·refine rr (λ_=>[(1,.l 0),(3,.s 2)]) N0 [] (λ_ L=>L.set 2 (ob (B5 e) #[i6 f.x0,i6 f.x1,i6 f.x2,i6 f.x3,i6 f.x4,i6 0,i6 f.x6,i6 0] 48)) λQ=>r0 [(1,.l 0)] [(39,i6 f.x0)] [] (r0 [] [(40,.bool (f.x0==3))] [] ?_);refine c0 f.x0 3 (λC F=>?_) λC F=>?_
  ·exact rr (λ_=>[(2,.s 2)]) N0 [] (λ_ L=>L.set 2 (ob (B5 e) #[i6 f.x0,i6 f.x1,i6 f.x2,i6 f.x3,i6 0,i6 0,i6 f.x6,i6 0] 48)) λG=>rs [(0,.l 2),(1,.s 1)] 1 (ob (B1 d) #[i6 f.x0,i6 f.x1,i6 f.x2,i6 f.x3,i6 0,i6 0,i6 f.x6,i6 0] 48) (ak (.agg #[i6 f.x0,i6 f.x1,i6 f.x2,i6 f.x3,i6 0,i6 0,i6 f.x6,i6 0]) ab.zero (by((try simp only[jz,jA,jB,jC,jD,jE,jG]);(repeat (first | rw[h] | rw[C] | rw[ALct])))<;>rfl) [] [] [1])
  refine r0 [] [(44,.bool (f.x0==4))] [] ?_;refine c0 f.x0 4 (λj p=>?_) λj p=>?_
  ·exact rr (λ_=>[(2,.s 2)]) N0 [] (λ_ L=>L.set 2 (ob (B5 e) #[i6 f.x0,i6 f.x1,i6 f.x2,i6 0,i6 f.x4,i6 0,i6 f.x6,i6 0] 48)) λH=>rs [(0,.l 2),(1,.s 1)] 1 (ob (B1 d) #[i6 f.x0,i6 f.x1,i6 f.x2,i6 0,i6 f.x4,i6 0,i6 f.x6,i6 0] 48) (ak (.agg #[i6 f.x0,i6 f.x1,i6 f.x2,i6 0,i6 f.x4,i6 0,i6 f.x6,i6 0]) ab.zero (by((try simp only[jz,jA,jB,jC,jD,jE,jG]);(repeat (first | rw[h] | rw[C] | rw[j] | rw[ALct] | rw[ALcf])))<;>rfl) [] [] [1])
  refine r0 [] [(48,.bool (f.x0==5))] [] ?_;refine c0 f.x0 5 (λm q=>?_) λm q=>?_
  ·exact rr (λ_=>[(2,.l 0),(5,.s 2)]) N0 [] (λ_ L=>L.set 2 (ob (B5 e) #[i6 f.x0,i6 f.x1,i6 0,i6 0,i6 0,i6 0,i6 f.x6,i6 0] 48)) λI=>rs [(0,.l 2),(1,.s 1)] 1 (ob (B1 d) #[i6 f.x0,i6 f.x1,i6 0,i6 0,i6 0,i6 0,i6 f.x6,i6 0] 48) (ak (.agg #[i6 f.x0,i6 f.x1,i6 0,i6 0,i6 0,i6 0,i6 f.x6,i6 0]) ab.zero (by((try simp only[jz,jA,jB,jC,jD,jE,jG]);(repeat (first | rw[h] | rw[C] | rw[j] | rw[m] | rw[ALct] | rw[ALcf])))<;>rfl) [] [] [1])
  exact rs [(0,.l 2),(1,.s 1)] 1 (ob (B1 d) #[i6 f.x0,i6 f.x1,i6 f.x2,i6 f.x3,i6 f.x4,i6 0,i6 f.x6,i6 0] 48) (ak (.agg #[i6 f.x0,i6 f.x1,i6 f.x2,i6 f.x3,i6 f.x4,i6 0,i6 f.x6,i6 0]) ab.zero (by((try simp only[jz,jA,jB,jC,jD,jE,jG]);(repeat (first | rw[h] | rw[C] | rw[j] | rw[m] | rw[ALct] | rw[ALcf])))<;>rfl) [] [] [1])
 refine r0 [] [(16,.bool (f.x0==2))] [] ?_;refine c0 f.x0 2 (λb r=>?_) λb r=>?_
 ·refine rr (λ_=>[(1,.l 0),(3,.l 0),(5,.s 2),(7,.s 2)]) N0 [] (λ_ L=>L.set 2 (ob (B5 e) #[i6 f.x0,i6 f.x1,i6 f.x2,i6 f.x3,i6 f.x4,i6 0,i6 f.x6,i6 f.x7] 48)) λJ=>r0 [(1,.l 0)] [(39,i6 f.x0)] [] (r0 [] [(40,.bool (f.x0==3))] [] ?_);refine c0 f.x0 3 (λi u=>?_) λi u=>?_
  ·exact rr (λ_=>[(2,.s 2)]) N0 [] (λ_ L=>L.set 2 (ob (B5 e) #[i6 f.x0,i6 f.x1,i6 f.x2,i6 f.x3,i6 0,i6 0,i6 f.x6,i6 f.x7] 48)) λK=>rs [(0,.l 2),(1,.s 1)] 1 (ob (B1 d) #[i6 f.x0,i6 f.x1,i6 f.x2,i6 f.x3,i6 0,i6 0,i6 f.x6,i6 f.x7] 48) (ak (.agg #[i6 f.x0,i6 f.x1,i6 f.x2,i6 f.x3,i6 0,i6 0,i6 f.x6,i6 f.x7]) ab.zero (by((try simp only[jz,jA,jB,jC,jD,jE,jG]);(repeat (first | rw[h] | rw[b] | rw[i] | rw[ALct] | rw[ALcf])))<;>rfl) [] [] [1])
  refine r0 [] [(44,.bool (f.x0==4))] [] ?_;refine c0 f.x0 4 (λk v=>?_) λk v=>?_
  ·exact rr (λ_=>[(2,.s 2)]) N0 [] (λ_ L=>L.set 2 (ob (B5 e) #[i6 f.x0,i6 f.x1,i6 f.x2,i6 0,i6 f.x4,i6 0,i6 f.x6,i6 f.x7] 48)) λM=>rs [(0,.l 2),(1,.s 1)] 1 (ob (B1 d) #[i6 f.x0,i6 f.x1,i6 f.x2,i6 0,i6 f.x4,i6 0,i6 f.x6,i6 f.x7] 48) (ak (.agg #[i6 f.x0,i6 f.x1,i6 f.x2,i6 0,i6 f.x4,i6 0,i6 f.x6,i6 f.x7]) ab.zero (by((try simp only[jz,jA,jB,jC,jD,jE,jG]);(repeat (first | rw[h] | rw[b] | rw[i] | rw[k] | rw[ALct] | rw[ALcf])))<;>rfl) [] [] [1])
  refine r0 [] [(48,.bool (f.x0==5))] [] ?_;refine c0 f.x0 5 (λn x=>?_) λn x=>?_
  ·exact rr (λ_=>[(2,.l 0),(5,.s 2)]) N0 [] (λ_ L=>L.set 2 (ob (B5 e) #[i6 f.x0,i6 f.x1,i6 0,i6 0,i6 0,i6 0,i6 f.x6,i6 f.x7] 48)) λN=>rs [(0,.l 2),(1,.s 1)] 1 (ob (B1 d) #[i6 f.x0,i6 f.x1,i6 0,i6 0,i6 0,i6 0,i6 f.x6,i6 f.x7] 48) (ak (.agg #[i6 f.x0,i6 f.x1,i6 0,i6 0,i6 0,i6 0,i6 f.x6,i6 f.x7]) ab.zero (by((try simp only[jz,jA,jB,jC,jD,jE,jG]);(repeat (first | rw[h] | rw[b] | rw[i] | rw[k] | rw[n] | rw[ALct] | rw[ALcf])))<;>rfl) [] [] [1])
  exact rs [(0,.l 2),(1,.s 1)] 1 (ob (B1 d) #[i6 f.x0,i6 f.x1,i6 f.x2,i6 f.x3,i6 f.x4,i6 0,i6 f.x6,i6 f.x7] 48) (ak (.agg #[i6 f.x0,i6 f.x1,i6 f.x2,i6 f.x3,i6 f.x4,i6 0,i6 f.x6,i6 f.x7]) ab.zero (by((try simp only[jz,jA,jB,jC,jD,jE,jG]);(repeat (first | rw[h] | rw[b] | rw[i] | rw[k] | rw[n] | rw[ALct] | rw[ALcf])))<;>rfl) [] [] [1])
 refine r0 [] [(24,.bool (f.x0==3))] [] ?_;refine c0 f.x0 3 (λa y=>?_) λa y=>?_
 ·exact cT (f.x0==3) a (rs [(1,.l 0),(3,.l 0),(5,.s 2),(7,.s 2)] 2 (ob (B5 e) #[i6 f.x0,i6 f.x1,i6 f.x2,i6 f.x3,i6 f.x4,i6 f.x5,i6 0,i6 f.x7] 48) (r0 [(1,.l 0)] [(39,i6 f.x0)] [] (rT [(0,.t (tk (show Value.bool (f.x0==3)= .bool true from ALca Value.bool a)))] 40 (rs [(2,.s 2)] 2 (ob (B5 e) #[i6 f.x0,i6 f.x1,i6 f.x2,i6 f.x3,i6 0,i6 f.x5,i6 0,i6 f.x7] 48) (rs [(0,.l 2),(1,.s 1)] 1 (ob (B1 d) #[i6 f.x0,i6 f.x1,i6 f.x2,i6 f.x3,i6 0,i6 f.x5,i6 0,i6 f.x7] 48) (ak (.agg #[i6 f.x0,i6 f.x1,i6 f.x2,i6 f.x3,i6 0,i6 f.x5,i6 0,i6 f.x7]) ab.zero (by((try simp only[jz,jA,jB,jC,jD,jE,jG]);(repeat (first | rw[h] | rw[b] | rw[a] | rw[ALct] | rw[ALcf])))<;>rfl) [] [] [1]))))))
 refine r0 [] [(24,.bool (f.x0==4))] [24] ?_;refine c0 f.x0 4 (λc z=>?_) λc z=>?_
 ·exact cT (f.x0==4) c (rs [(1,.l 0),(3,.l 0),(5,.s 2),(7,.s 2)] 2 (ob (B5 e) #[i6 f.x0,i6 f.x1,i6 f.x2,i6 f.x3,i6 f.x4,i6 f.x5,i6 0,i6 f.x7] 48) (r0 [(1,.l 0)] [(39,i6 f.x0)] [] (rF [(0,.t (tk (show Value.bool (f.x0==3)= .bool false from ALca Value.bool a)))] 40 (rT [(0,.t (tk (show Value.bool (f.x0==4)= .bool true from ALca Value.bool c)))] 44 (rs [(2,.s 2)] 2 (ob (B5 e) #[i6 f.x0,i6 f.x1,i6 f.x2,i6 0,i6 f.x4,i6 f.x5,i6 0,i6 f.x7] 48) (rs [(0,.l 2),(1,.s 1)] 1 (ob (B1 d) #[i6 f.x0,i6 f.x1,i6 f.x2,i6 0,i6 f.x4,i6 f.x5,i6 0,i6 f.x7] 48) (ak (.agg #[i6 f.x0,i6 f.x1,i6 f.x2,i6 0,i6 f.x4,i6 f.x5,i6 0,i6 f.x7]) ab.zero (by((try simp only[jz,jA,jB,jC,jD,jE,jG]);(repeat (first | rw[h] | rw[b] | rw[a] | rw[c] | rw[ALct] | rw[ALcf])))<;>rfl) [] [] [1])))))))
 refine r0 [] [(24,.bool (f.x0==5))] [24] ?_;refine c0 f.x0 5 (λg A=>?_) λg A=>?_
 ·exact rr (λ_=>[(1,.l 0),(3,.l 0),(5,.s 2),(7,.s 2)]) N0 [] (λ_ L=>L.set 2 (ob (B5 e) #[i6 f.x0,i6 f.x1,i6 f.x2,i6 f.x3,i6 f.x4,i6 f.x5,i6 0,i6 f.x7] 48)) λO=>r0 [(1,.l 0)] [(39,i6 f.x0)] [] (rF [(0,.t (tk (show Value.bool (f.x0==3)= .bool false from ALca Value.bool a)))] 40 (rF [(0,.t (tk (show Value.bool (f.x0==4)= .bool false from ALca Value.bool c)))] 44 (rT [(0,.t (tk (show Value.bool (f.x0==5)= .bool true from ALca Value.bool g)))] 48 (rs [(2,.l 0),(5,.s 2)] 2 (ob (B5 e) #[i6 f.x0,i6 f.x1,i6 0,i6 0,i6 0,i6 f.x5,i6 0,i6 f.x7] 48) (rs [(0,.l 2),(1,.s 1)] 1 (ob (B1 d) #[i6 f.x0,i6 f.x1,i6 0,i6 0,i6 0,i6 f.x5,i6 0,i6 f.x7] 48) (ak (.agg #[i6 f.x0,i6 f.x1,i6 0,i6 0,i6 0,i6 f.x5,i6 0,i6 f.x7]) ab.zero (by((try simp only[jz,jA,jB,jC,jD,jE,jG]);(repeat (first | rw[h] | rw[b] | rw[a] | rw[c] | rw[g] | rw[ALct] | rw[ALcf])))<;>rfl) [] [] [1]))))))
 refine r0 [] [(34,.bool (f.x0==7))] [] ?_;refine c0 f.x0 7 (λo B=>?_) λo B=>?_
 ·exact rr (λ_=>[(2,.s 2)]) N0 [] (λ_ L=>L.set 2 (ob (B5 e) #[i6 f.x0,i6 0,i6 0,i6 0,i6 0,i6 0,i6 0,i6 0] 48)) λP=>r0 [(1,.l 0)] [(39,i6 f.x0)] [] (rF [(0,.t (tk (show Value.bool (f.x0==3)= .bool false from ALca Value.bool a)))] 40 (rF [(0,.t (tk (show Value.bool (f.x0==4)= .bool false from ALca Value.bool c)))] 44 (rF [(0,.t (tk (show Value.bool (f.x0==5)= .bool false from ALca Value.bool g)))] 48 (rs [(0,.l 2),(1,.s 1)] 1 (ob (B1 d) #[i6 f.x0,i6 0,i6 0,i6 0,i6 0,i6 0,i6 0,i6 0] 48) (ak (.agg #[i6 f.x0,i6 0,i6 0,i6 0,i6 0,i6 0,i6 0,i6 0]) ab.zero (by((try simp only[jz,jA,jB,jC,jD,jE,jG]);(repeat (first | rw[h] | rw[b] | rw[a] | rw[c] | rw[g] | rw[o] | rw[ALct] | rw[ALcf])))<;>rfl) [] [] [1])))))
 exact r0 [(1,.l 0)] [(39,i6 f.x0)] [] (rF [(0,.t (tk (show Value.bool (f.x0==3)= .bool false from ALca Value.bool a)))] 40 (rF [(0,.t (tk (show Value.bool (f.x0==4)= .bool false from ALca Value.bool c)))] 44 (rF [(0,.t (tk (show Value.bool (f.x0==5)= .bool false from ALca Value.bool g)))] 48 (rs [(0,.l 2),(1,.s 1)] 1 (ob (B1 d) #[i6 f.x0,i6 f.x1,i6 f.x2,i6 f.x3,i6 f.x4,i6 0,i6 0,i6 0] 48) (ak (.agg #[i6 f.x0,i6 f.x1,i6 f.x2,i6 f.x3,i6 f.x4,i6 0,i6 0,i6 0]) ab.zero (by((try simp only[jz,jA,jB,jC,jD,jE,jG]);(repeat (first | rw[h] | rw[b] | rw[a] | rw[c] | rw[g] | rw[o] | rw[ALcf])))<;>rfl) [] [] [1])))))
def nM(f:Fa)(R S B M C m:Nat):Bool:=(((((((decide (1≤f.x0))&&(decide (f.x0≤7)))&&(((m:Int)==1)||((m:Int)==2)))&&(f.x0==f.x0&&(f.x1==(jz f)&&(f.x2==(jA f)&&(f.x3==(jB f)&&(f.x4==(jC f)&&(f.x5==(jD f)&&(f.x6==(jE f)&&(f.x7==(jG f)&&true)))))))))&&(hold R S B M C f.x1 f.x2 f.x3 f.x4))&&(bG f.x6 576))&&(bG f.x5 ((aN (m:Int):Nat):Int)))&&(bG f.x7 (bif f.x0==2 then 2 else 256))
theorem Av(f:Fa)(R S B M C m:Nat)(g:cM R S B M C)(h:m=1∨m=2):aa ZJ 38 #[.agg #[i6 f.x0,i6 f.x1,i6 f.x2,i6 f.x3,i6 f.x4,i6 f.x5,i6 f.x6,i6 f.x7],.agg #[iN R,iN S,iN B,iN M,iN C],iN m] [] [] N0 (λ_=> .bool (nM f R S B M C m)):=by
 refine fG Tryz.func38 λw cs=>ra (λa=>[(3,pt (B0 a) 0),(4,pt (B1 a) 0),(6,.bool false)]) (λa=>[ob (B0 a) #[i6 f.x0,i6 f.x1,i6 f.x2,i6 f.x3,i6 f.x4,i6 f.x5,i6 f.x6,i6 f.x7] 48,ob (B1 a) #[iN R,iN S,iN B,iN M,iN C] 23]) λa=>r0 [] [(7,i6 256)] [] (r0 [(1,.l 0)] [(10,.bool (f.x0==2))] [] ?_);refine cJ (f.x0==2) (λc=>[(7,i6 (bif c then 2 else 256))]) (λ_=>[ob (B0 a) #[i6 f.x0,i6 f.x1,i6 f.x2,i6 f.x3,i6 f.x4,i6 f.x5,i6 f.x6,i6 f.x7] 48,ob (B1 a) #[iN R,iN S,iN B,iN M,iN C] 23]) (λd=>?_) (λd=>?_) ?_
 ·have b:=eq_of_beq d;refine r0 [] [(7,i6 2)] [7] ?_;exact cm Kr [0,1] Kr
 ·have b:=ne_of_beq_false d;exact cm Kr [0,1] Kr
 exact r0 [(1,.m (ld 0 (i6 f.x0))),(5,.m (ld 0 (i6 f.x0))),(10,.c [] [] (pb (m:Int))),(13,.m (ls 0 ([i6 f.x0,i6 f.x1,i6 f.x2,i6 f.x3,i6 f.x4,i6 f.x5,i6 f.x6,i6 f.x7]))),(14,.m (ls 0 ([i6 f.x0,i6 f.x1,i6 f.x2,i6 f.x3,i6 f.x4,i6 f.x5,i6 f.x6,i6 f.x7]))),(15,.c [] [] (Ue f)),(16,.e),(19,.m (ls 1 ([iN R,iN S,iN B,iN M,iN C]))),(21,.m (ls 0 ([i6 f.x1,i6 f.x2,i6 f.x3,i6 f.x4]))),(22,.c [] [] (sY R S B M C g f.x1 f.x2 f.x3 f.x4)),(26,.m (ld 0 (i6 f.x6))),(27,.c [] [] (Au f.x6 576)),(31,.m (ld 0 (i6 f.x5))),(33,.c [] [] (GH m h)),(34,.c [] [] (Au f.x5 ((aN (m:Int):Nat):Int))),(38,.m (ld 0 (i6 f.x7))),(40,.c [] [] (Au f.x7 (bif f.x0==2 then 2 else 256)))] [(6,.bool ((((((((decide (1≤f.x0))&&(decide (f.x0≤7)))&&(((m:Int)==1)||((m:Int)==2)))&&(f.x0==f.x0&&(f.x1==(jz f)&&(f.x2==(jA f)&&(f.x3==(jB f)&&(f.x4==(jC f)&&(f.x5==(jD f)&&(f.x6==(jE f)&&(f.x7==(jG f)&&true)))))))))&&(hold R S B M C f.x1 f.x2 f.x3 f.x4))&&(bG f.x6 576))&&(bG f.x5 ((aN (m:Int):Nat):Int)))&&(bG f.x7 (bif f.x0==2 then 2 else 256))))] [6] (lf ab.zero [] [] [])
theorem Uf{P:Program}{T:TypeId}{x y:Operand}{w:World}{yk:IntKind}{a:Nat}(n:Nat)(b:n≤8):(av .shr T x y (.int .u8 (a:Int)) (.int yk (n:Int))).run P w= .ok (.int .u8 ((a/2^n:Nat):Int)) w:=by
 unfold av;simp only[aaC,eqGuard_shr,aaD,aal,binOp_shr,shift_shr_u8 _ _ _ (Int.natCast_nonneg n) Om,Int.toNat_natCast];push_cast;rfl
def oE(xs:List UInt8)(b:Nat):Nat:=(xs.getD (b/8) 0).toNat/2^(b%8)%2
theorem Ug(x:UInt8)(n:Nat):x.toNat/2^n<256:=Nat.lt_of_le_of_lt (Nat.div_le_self _ _) x.toNat_lt
theorem Uh(v:Value)(xs:List UInt8)(g:xs.length=72)(b:Int)(h0:0≤b)(h1:b<576):aa ZJ 284 #[v,i6 b] [.p (aK eB v xs)] [] N0 (λ_=>iN (oE xs b.toNat)):=by
 exact fO Tryz.func284 0 rfl λd c=>fG Tryz.func284 λw cs=>r0 [] [(4,i6 0)] [] (rF [(1,.t (tk (show Value.bool (decide (b<0))= .bool false from ALca Value.bool (by exact a8 Om)))),(4,.t (tv (av .shr 3 (.tmp 8) (.const (u6 3)) (i6 b) (u6 3)) (λ_=>dN (b:=((b.toNat/8:Nat):Int)) (iQ 3 Dc) Om))),(6,eG c.1 0),(7,.t (tk (show Value.bool (decide ((xs.length:Int)≤((b.toNat/8:Nat):Int)))= .bool false from ALca Value.bool (by exact a8 Om))))] 13 (r0 [(2,.t (tv (av .shr 3 (.tmp 15) (.const (u6 3)) (i6 b) (u6 3)) (λ_=>dN (b:=((b.toNat/8:Nat):Int)) (iQ 3 Dc) Om))),(3,fx c.1 0 (b.toNat/8) 1),(4,jk kB c.1 0 (b.toNat/8) 0),(6,.t (tv (av .and 3 (.tmp 19) (.const (i6 7)) (i6 b) (i6 7)) (λ_=>dN (b:=((b.toNat%8:Nat):Int)) (mO _ 3 8 Dc Dc Dc Dc) Om))),(7,.t (tc (k:= .i64) (l:= .u64) (a:=iN (b.toNat%8)) λ_ _ _ e f=>ng e f Om)),(8,.t (tv (av .shr 5 (.tmp 18) (.tmp 21) (u1 ((xs.getD (b.toNat/8) 0).toNat:Int)) (u6 ((b.toNat%8:Nat):Int))) (λ_=>Uf (b.toNat%8) Om))),(9,.t (tv (convert 5 3 (u1 (((xs.getD (b.toNat/8) 0).toNat/2^(b.toNat%8):Nat):Int))) (λ_=>J6 Tryz.underlying5 Tryz.underlying3 (Ug _ _)))),(10,.t (tv (av .and 3 (.tmp 23) (.const (i6 1)) (iN ((xs.getD (b.toNat/8) 0).toNat/2^(b.toNat%8))) (i6 1)) (λ_=>C2)))] [(4,iN (oE xs b.toNat))] [4] (lf ab.zero [] [(0,0)] [])))
theorem GK(xs:List UInt8)(g:xs.length=72)(b:Int)(h0:0≤b)(h1:b<576):aa ZJ 168 #[.agg (rB 72 xs).toArray,i6 b] [] [] N0 (λ_=> .agg (rB 72 (xs.set (b.toNat/8) ((xs.getD (b.toNat/8) 0)^^^(UInt8.ofNat (1*2^(b.toNat%8)))))).toArray):=by
 refine fG Tryz.func168 λw cs=>ra (λc=>[(2,pt (B0 c) 0),(4,pt (B1 c) 0)]) (λc=>[ob (B0 c) (rB 72 xs).toArray 217,ob (B1 c) (rB 72 (ZK 72 0)).toArray 217]) λc=>r0 [] [(10,.bool ((decide (0≤b))&&(decide (b<576))))] [] ?_;have d:((decide (0≤b))&&(decide (b<576)))=true:=by rw[cd Om,cd Om];rfl
 exact cT ((decide (0≤b))&&(decide (b<576))) d (rs [(1,.t (tv (av .shr 3 (.tmp 11) (.const (u6 3)) (i6 b) (u6 3)) (λ_=>dN (b:=((b.toNat/8:Nat):Int)) (iQ 3 Dc) Om))),(2,iA 217 .i64 (B0 c) 0 72 1 (b.toNat/8)),(3,rD 0 (B0 c) (b.toNat/8) 217 (rB 72 xs) (n7 Om)),(5,.t (tv (av .and 3 (.tmp 15) (.const (i6 7)) (i6 b) (i6 7)) (λ_=>dN (b:=((b.toNat%8:Nat):Int)) (mO _ 3 8 Dc Dc Dc Dc) Om))),(6,.t (tc (k:= .i64) (l:= .u64) (a:=iN (b.toNat%8)) λ_ _ _ e f=>ng e f Om)),(7,.t (tv (av .shl 5 (.const (u1 1)) (.tmp 17) (u1 1) (u6 ((b.toNat%8:Nat):Int))) (λ_=>ve (a:=1) (b.toNat%8) Om))),(8,.t (tb (a:=u1 ((xs.getD (b.toNat/8) 0).toNat:Int)) (b:=u1 ((UInt8.ofNat (1*2^(b.toNat%8))).toNat:Int)) λ_ _ _ _=>l8 (xs.getD (b.toNat/8) 0) ((UInt8.ofNat (1*2^(b.toNat%8)))))),(9,iA 217 .i64 (B0 c) 0 72 1 (b.toNat/8)),(10,wD 0 (B0 c) (b.toNat/8) 217 (u1 (((xs.getD (b.toNat/8) 0)^^^(UInt8.ofNat (1*2^(b.toNat%8)))).toNat:Int)) (rB 72 xs) (rB 72 (xs.set (b.toNat/8) ((xs.getD (b.toNat/8) 0)^^^(UInt8.ofNat (1*2^(b.toNat%8)))))) (ka Om) (mJ g))] 0 (ob (B0 c) (rB 72 (xs.set (b.toNat/8) ((xs.getD (b.toNat/8) 0)^^^(UInt8.ofNat (1*2^(b.toNat%8)))))).toArray 217) (rs [(0,.l 0),(1,.s 1)] 1 (ob (B1 c) (rB 72 (xs.set (b.toNat/8) ((xs.getD (b.toNat/8) 0)^^^(UInt8.ofNat (1*2^(b.toNat%8)))))).toArray 217) (lf ab.zero [] [] [1])))
section
theorem Ui{α:Type}{en:α→List Value}{d:α}{a m:Nat}{ys:List α}{t:TypeId}(h1: ∀x,(en x).length=1)(h:ys.length=m):aK en (.slice (some ⟨a,0,none⟩) m m) ys [(a,.cells ((cS en d m ys).toArray) t (0,0))]:=⟨o1 h1 h,some ⟨a,0,none⟩,0,by rw[h];rfl⟩
theorem wF(m:Int):aN m≤36:=by unfold aN;split<;>(try split)<;>omega
theorem GL(m:Int):dy m≤8:=by unfold dy;split<;>(try split)<;>omega
theorem Aw{m:Int}{k:Nat}(c:k≤dy m):aN m*k≤72:=by
 by_cases b:m=1
 ·subst b;have a:k≤8:=c;show 9*k≤72;omega
 ·by_cases a:m=2
  ·subst a;have d:k≤2:=c;show 36*k≤72;omega
  ·unfold aN;rw[ALifn b,ALifn a];omega
theorem Ax{m:Int}{xs ys:List UInt8}(o:Nat): ∀k,bZ (λi=>cN m (xs.getD (o+i) 0) (ys.getD (o+i) 0)) k≤8*k
 | 0=>ZZ _
 | k+1=>by
  rw[bZ];have h:=Ax (m:=m) (xs:=xs) (ys:=ys) o k;have a:=EA m (xs.getD (o+k) 0) (ys.getD (o+k) 0);have b:cN m (xs.getD (o+k) 0) (ys.getD (o+k) 0)≤8:=by
   split at a<;>omega
  omega
theorem GN{m:Int}{xs ys:List UInt8}(k:Nat):bZ (λi=>cN m (xs.getD i 0) (ys.getD i 0)) k≤8*k:=by
 have h:=Ax (m:=m) (xs:=xs) (ys:=ys) 0 k;simpa using h
theorem GO{f g:Nat→Nat}: ∀{n:Nat},(∀i,i<n→f i=g i)→bZ f n=bZ g n
 | 0,_=>rfl
 | n+1,h=>by rw[bZ,bZ,GO λi a=>h i (aar a),h n (Z8 n)]
theorem GP{xs:List UInt8}{o n i:Nat}(h:i<n):((xs.drop o).take n).getD i 0=xs.getD (o+i) 0:=by
 rw[ZM,List.getElem?_take,ALifp h,aam,ZM]
theorem Uj(a b:UInt8):cN 1 a b=pc (a^^^b).toNat:=ALifp rfl
theorem Uk{a b:UInt8}(h:((a.toNat:Int) != (b.toNat:Int))=true):cN 2 a b=1:=by
 unfold cN;rw[ALifn Dc,ALifn (λe=>by subst e;simp at h)]
theorem Ul{a b:UInt8}(h:((a.toNat:Int) != (b.toNat:Int))=false):cN 2 a b=0:=by
 unfold cN;have c:=bne_eq_false_iff_eq.1 h;rw[ALifn Dc,ALifp (UInt8.toNat_inj.1 Om)]
theorem Um(m:Int)(a b:List UInt8)(k:Nat):((kp m a b (k+1):Nat):Int)=max ((kp m a b k:Nat):Int) ((bZ (λi=>cN m (((a.drop (aN m*k)).take (aN m)).getD i 0) (((b.drop (aN m*k)).take (aN m)).getD i 0)) (aN m):Nat):Int):=by
 rw[show bZ (λi=>cN m (((a.drop (aN m*k)).take (aN m)).getD i 0) (((b.drop (aN m*k)).take (aN m)).getD i 0)) (aN m)=wC m a b k from GO λi c=>by rw[GP c,GP c],kp];omega
theorem Un(xs ys:List UInt8)(k:Nat):bZ (λz=>cN 1 (xs.getD z 0) (ys.getD z 0)) (k+1)=bZ (λz=>cN 1 (xs.getD z 0) (ys.getD z 0)) k+pc (xs.getD k 0^^^ys.getD k 0).toNat:=by rw[bZ,Uj]
theorem Uo(xs ys:List UInt8)(k:Nat):bZ (λz=>cN 2 (xs.getD z 0) (ys.getD z 0)) (k+1)=bif ((xs.getD k 0).toNat:Int) != ((ys.getD k 0).toNat:Int) then bZ (λz=>cN 2 (xs.getD z 0) (ys.getD z 0)) k+1 else bZ (λz=>cN 2 (xs.getD z 0) (ys.getD z 0)) k:=by
 rw[bZ];cases h:((xs.getD k 0).toNat:Int) != ((ys.getD k 0).toNat:Int) with
 | true=>rw[Uk h];rfl
 | false=>rw[Ul h];rfl
theorem Up(b:UInt8):pc b.toNat≤8:=Ez b.toNat_lt
theorem GQ(f:Nat→Nat):bZ f 0=0:=by rw[bZ]
theorem GR(m:Nat)(c:m=1∨m=2)(xs:List UInt8)(b:xs.length=72)(q:Nat)(a:q<dy (m:Int)):aa ZJ 194 #[.agg (rB 72 xs).toArray,iN m,iN q] [] [] (λE=>[bB (E.val 0) ((xs.drop (aN (m:Int)*q)).take (aN (m:Int)))]) (λE=>E.val 0):=by
 rcases c with rfl | rfl
 ·exact Eh xs b q a
 ·exact Ei xs b q a
attribute [local irreducible] bZ kp pc cN aN dy oE
theorem Uq(v u:Value)(xs ys:List UInt8)(l:ys.length=xs.length)(r:xs.length≤100):aa ZJ 226 #[v,u] [.p (aK eB v xs),.p (aK eB u ys)] [] N0 (λ_=>i6 ((bZ (λz=>cN 1 (xs.getD z 0) (ys.getD z 0)) xs.length:Nat):Int)):=by
 refine fO Tryz.func226 0 rfl λg d=>?_;refine fO Tryz.func226 1 rfl λh e=>?_;refine fG Tryz.func226 λw cs=>?_;refine r0 [] [(4,i6 0)] [] (rF [(1,eG d.1 0),(3,eG e.1 1),(4,.t (tk (show Value.bool (decide ((ys.length:Int)<(xs.length:Int)))= .bool false from ALca Value.bool (by exact a8 Om))))] 12 (r0 [(1,eG e.1 1),(3,eG d.1 0),(4,.t (tv (av .sub 3 (.tmp 16) (.tmp 18) (iN ys.length) (iN xs.length)) (λ_=>dN (b:=0) (rG Om Om) Om)))] [(5,i6 0)] [] (r0 [(1,eG d.1 0)] [(21,v),(22,iN xs.length),(23,i6 0)] [] ?_)));refine lq (λi=>i≤xs.length) (λi=>[(23,iN i),(5,i6 ((bZ (λz=>cN 1 (xs.getD z 0) (ys.getD z 0)) i:Nat):Int))]) (λ_ L=>L) (λi=>xs.length-i) 0 Om (by rw[GQ];kernel_rfl) Kr (λi k=>?_);have o:=GN (m:=1) (xs:=xs) (ys:=ys) i;have n:=Up (xs.getD i 0^^^ys.getD i 0);have q:=(xs.getD i 0^^^ys.getD i 0).toNat_lt;refine r0 [] [(24,.bool (decide ((i:Int)<(xs.length:Int))))] [] ?_;refine cj (i:Int) (xs.length:Int) (λj f=>?_) λj f=>?_
 ·refine r0 [(1,fx d.1 0 i 1),(2,jk kB d.1 0 i 0)] [(6,iN i),(7,u1 ((xs.getD i 0).toNat:Int))] [] ?_;refine r0 [(4,fx e.1 1 i 1),(5,jk kB e.1 1 i 0),(6,.t (tb (a:=u1 ((xs.getD i 0).toNat:Int)) (b:=u1 ((ys.getD i 0).toNat:Int)) λ_ _ _ _=>l8 (xs.getD i 0) (ys.getD i 0))),(7,.c [] [] (C9 (((xs.getD i 0)^^^(ys.getD i 0)).toNat) Om)),(8,ad (bZ (λz=>cN 1 (xs.getD z 0) (ys.getD z 0)) i) (pc (((xs.getD i 0)^^^(ys.getD i 0)).toNat)))] [(5,i6 (((bZ (λz=>cN 1 (xs.getD z 0) (ys.getD z 0)) i)+(pc (((xs.getD i 0)^^^(ys.getD i 0)).toNat)):Nat):Int))] [5] (r0 [(0,ad i 1)] [(23,i6 ((i+1:Nat):Int))] [23] ?_);exact le (i+1) Om Om (by rw[Un];kernel_rfl) [0,1] Kr
 obtain rfl:i=xs.length:=by omega
 refine lx ?_;exact r0 [] [(4,i6 ((bZ (λz=>cN 1 (xs.getD z 0) (ys.getD z 0)) xs.length:Nat):Int))] [4] (lf ab.zero [] [(0,0),(1,1)] [])
theorem Ur(v u:Value)(xs ys:List UInt8)(f:ys.length=xs.length)(g:xs.length≤100):aa ZJ 193 #[i6 1,v,u] [.p (aK eB v xs),.p (aK eB u ys)] [] N0 (λ_=>i6 ((bZ (λz=>cN 1 (xs.getD z 0) (ys.getD z 0)) xs.length:Nat):Int)):=by
 refine fO Tryz.func193 0 rfl λa d=>?_;refine fO Tryz.func193 1 rfl λb e=>?_;refine fG Tryz.func193 λw cs=>?_;exact r0 [] [(6,i6 0)] [] (rT [] 11 (r0 [(2,.c [0,1] [] (aa.at (rd':=[.c a,.c b]) (Uq v u xs ys Om Om) (eD d (eD e (λ_ h=>h)))))] [(6,i6 ((bZ (λz=>cN 1 (xs.getD z 0) (ys.getD z 0)) xs.length:Nat):Int))] [6] (lf ab.zero [] [(0,0),(1,1)] [])))
theorem Us(v u:Value)(xs ys:List UInt8)(l:ys.length=xs.length)(o:xs.length≤100):aa ZJ 193 #[i6 2,v,u] [.p (aK eB v xs),.p (aK eB u ys)] [] N0 (λ_=>i6 ((bZ (λz=>cN 2 (xs.getD z 0) (ys.getD z 0)) xs.length:Nat):Int)):=by
 refine fO Tryz.func193 0 rfl λf b=>?_;refine fO Tryz.func193 1 rfl λg e=>?_;refine fG Tryz.func193 λw cs=>?_;refine r0 [] [(6,i6 0)] [] (rF [] 11 (r0 [] [(7,i6 0)] [] (r0 [(1,eG b.1 0)] [(15,v),(16,iN xs.length),(17,i6 0)] [] ?_)));refine lq (λi=>i≤xs.length) (λi=>[(17,iN i),(7,i6 ((bZ (λz=>cN 2 (xs.getD z 0) (ys.getD z 0)) i:Nat):Int))]) (λ_ L=>L) (λi=>xs.length-i) 0 Om (by rw[GQ];kernel_rfl) Kr (λi k=>?_);have n:=GN (m:=2) (xs:=xs) (ys:=ys) i;refine r0 [] [(18,.bool (decide ((i:Int)<(xs.length:Int))))] [] ?_;refine cj (i:Int) (xs.length:Int) (λj h=>?_) λj h=>?_
 ·refine r0 [(1,fx b.1 0 i 1),(2,jk kB b.1 0 i 0)] [(8,iN i),(9,u1 ((xs.getD i 0).toNat:Int))] [] ?_;refine r0 [(3,fx e.1 1 i 1),(4,jk kB e.1 1 i 0)] [(27,.bool (((xs.getD i 0).toNat:Int) != ((ys.getD i 0).toNat:Int)))] [] ?_;refine cJ (((xs.getD i 0).toNat:Int) != ((ys.getD i 0).toNat:Int)) (λc=>[(7,i6 (((bif c then(bZ (λz=>cN 2 (xs.getD z 0) (ys.getD z 0)) i)+1 else bZ (λz=>cN 2 (xs.getD z 0) (ys.getD z 0)) i):Nat):Int))]) (λ_=>[.c f,.c g]) (λa=>?_) (λa=>?_) ?_
  ·have d:=bne_iff_ne.1 a;refine r0 [(1,ad (bZ (λz=>cN 2 (xs.getD z 0) (ys.getD z 0)) i) 1)] [(7,i6 (((bZ (λz=>cN 2 (xs.getD z 0) (ys.getD z 0)) i)+1:Nat):Int))] [7] ?_;exact cm Kr [0,1] Kr
  ·have d:=Cq a;exact cm Kr [0,1] Kr
  refine r0 [(0,ad i 1)] [(17,i6 ((i+1:Nat):Int))] [17] ?_;exact le (i+1) Om Om (by rw[Uo];kernel_rfl) [0,1] Kr
 obtain rfl:i=xs.length:=by omega
 refine lx ?_;exact r0 [] [(6,i6 ((bZ (λz=>cN 2 (xs.getD z 0) (ys.getD z 0)) xs.length:Nat):Int))] [6] (lf ab.zero [] [(0,0),(1,1)] [])
theorem Ut(m:Nat)(c:m=1∨m=2)(v u:Value)(xs ys:List UInt8)(n:Nat)(d:xs.length=n)(b:ys.length=n)(a:n≤100):aa ZJ 193 #[iN m,v,u] [.p (aK eB v xs),.p (aK eB u ys)] [] N0 (λ_=>i6 ((bZ (λi=>cN (m:Int) (xs.getD i 0) (ys.getD i 0)) n:Nat):Int)):=by
 subst d;rcases c with rfl | rfl
 ·exact Ur v u xs ys b a
 ·exact Us v u xs ys b a
theorem GS{xs:List UInt8}{m:Int}{k:Nat}(b:xs.length=72)(a:k<dy m):((xs.drop (aN m*k)).take (aN m)).length=aN m:=by
 have h:=Aw (m:=m) (k:=k+1) a;rw[aaE] at h;rw[ZO,ZV];omega
theorem GU(m:Nat)(hm:m=1∨m=2)(a b:List UInt8)(ha:a.length=72)(hb:b.length=72):aa ZJ 149 #[iN m,.agg (rB 72 a).toArray,.agg (rB 72 b).toArray] [] [] N0 (λ_=>i6 ((cI (m:Int) a b:Nat):Int)):=by
 refine fG Tryz.func149 λw cs=>?_
 refine ra (λq1=>[(4,pt (B0 q1) 0),(5,pt (B1 q1) 0),(6,i6 0)]) (λq1=>[ob (B0 q1) (rB 72 a).toArray 217,ob (B1 q1) (rB 72 b).toArray 217]) λq1=>r0 [] [(7,i6 0)] [] (r0 [(1,.c [] [] (GI m hm))] [(10,i6 ((dy (m:Int):Nat):Int)),(11,i6 0)] [] ?_)
 refine lq (λk=>k≤(dy (m:Int))) (λk=>[(11,iN k),(7,i6 ((kp (m:Int) a b k:Nat):Int))]) (λ_ L=>L) (λk=>(dy (m:Int))-k) 0 Om (by rw[kp];kernel_rfl) Kr (λk hk4=>?_)
 have hw8:=GL (m:Int)
 refine r0 [] [(12,.bool (decide ((k:Int)<((dy (m:Int):Nat):Int))))] [] ?_
 refine cj (k:Int) ((dy (m:Int):Nat):Int) (λh6 dh6=>?_) λh6 dh6=>?_
 ·have HLA:=GS (m:=(m:Int)) (k:=k) ha Om
  have HLB:=GS (m:=(m:Int)) (k:=k) hb Om
  have HLC:aN (m:Int)≤100:=ZS (wF _) Dc
  refine r0 [] [(8,iN k)] [] (rr (λq8=>[(2,.m (ls 0 (rB 72 a))),(5,.c [] [2] (GR m hm a (by(simp only[LL,ha,hb,ha,hb];done)) k Om)),(6,.m (ls 1 (rB 72 b))),(9,.c [] [3] (GR m hm b (by(simp only[LL,ha,hb,ha,hb];done)) k Om)),(10,.c [2,3] [] (aa.at (rd':=[bB ((q8 5).val 0) ((a.drop (aN (m:Int)*k)).take (aN (m:Int))),bB ((q8 9).val 0) ((b.drop (aN (m:Int)*k)).take (aN (m:Int)))]) (Ut m hm ((q8 5).val 0) ((q8 9).val 0) ((a.drop (aN (m:Int)*k)).take (aN (m:Int))) ((b.drop (aN (m:Int)*k)).take (aN (m:Int))) (aN (m:Int)) HLA HLB HLC) (bM (λ_ h=>aq.sq h) (bM (λ_ h=>aq.sq h) (λ_ h=>h))))),(11,.t (tv (Builtin.max_ #[3,3] 3 #[i6 ((kp (m:Int) a b k:Nat):Int),i6 ((bZ (λz=>cN (m:Int) (((a.drop (aN (m:Int)*k)).take (aN (m:Int))).getD z 0) (((b.drop (aN (m:Int)*k)).take (aN (m:Int))).getD z 0)) (aN (m:Int)):Nat):Int)]) (λ_=>se _ _ _ _)))]) (λ_=>[(7,i6 (max ((kp (m:Int) a b k:Nat):Int) ((bZ (λz=>cN (m:Int) (((a.drop (aN (m:Int)*k)).take (aN (m:Int))).getD z 0) (((b.drop (aN (m:Int)*k)).take (aN (m:Int))).getD z 0)) (aN (m:Int)):Nat):Int)))]) [7] (λq8 L=>L++[bB ((q8 5).val 0) ((a.drop (aN (m:Int)*k)).take (aN (m:Int))),bB ((q8 9).val 0) ((b.drop (aN (m:Int)*k)).take (aN (m:Int)))]) λq8=>r0 [(0,ad k 1)] [(11,i6 ((k+1:Nat):Int))] [11] ?_)
  exact le (k+1) Om Om (by rw[Um];kernel_rfl) [0,1] Kr
 obtain rfl:k=(dy (m:Int)):=by omega
 refine lx ?_
 refine r0 [] [(6,i6 ((kp (m:Int) a b (dy (m:Int)):Nat):Int))] [6] ?_
 exact ak (i6 ((kp (m:Int) a b (dy (m:Int)):Nat):Int)) ab.zero a9 [] [] []
end
section
attribute [local irreducible] aN dy oE
theorem Uu(e f c m:Nat)(i:m=1∨m=2)(D:c<aN (m:Int)):fv 5 ZJ 288 #[pt e 0,pt f 0] (λ(x:Nat)=>#[iN x]) ((Z5 (dy (m:Int))).map λk=>aN (m:Int)*k+c) (aaA [[(e,.cells #[iN m] 3 (0,0))],[(f,.cells #[iN c] 3 (0,0))]]):=by
 have r:=wF (m:Int);have t:=GL (m:Int);refine gi (KO:=[[(e,.cells #[iN m] 3 (0,0))],[(f,.cells #[iN c] 3 (0,0))]]) Tryz.func288 (λu y w C A h q p=>?_);refine r0 [(0,.l 0),(1,.c [] [] (GH m i))] [(4,iN (aN (m:Int)))] [] (r0 [(0,.l 1),(3,.l 1)] [(14,.bool ((decide ((c:Int)<0))||(decide (((aN (m:Int):Nat):Int)≤(c:Int)))))] [] ?_);have o:((decide ((c:Int)<0))||(decide (((aN (m:Int):Nat):Int)≤(c:Int))))=false:=by rw[a8 Om,a8 Om];rfl
 refine cF ((decide ((c:Int)<0))||(decide (((aN (m:Int):Nat):Int)≤(c:Int)))) o (r0 [(0,.l 0),(1,.c [] [] (GI m i))] [(16,iN (dy (m:Int))),(17,i6 0)] [] ?_);refine kd (λk=>k≤(dy (m:Int))) (λk=>[(17,iN k)]) (λ_ L=>L) (λk=>(dy (m:Int))-k) (λk=>k) 0 Om p Kr Kr (λk z B s d=>?_);have vH:=Aw (m:=(m:Int)) (k:=k) Om;refine r0 [] [(18,.bool (decide ((k:Int)<((dy (m:Int):Nat):Int))))] [] ?_;refine cj (k:Int) ((dy (m:Int):Nat):Int) (λg a=>?_) λg a=>?_
 ·refine r0 [] [(5,iN k)] [] ?_;refine iy h q d 6 (λ_=>[(3,ml (aN (m:Int)) k),(4,.l 1),(5,ad ((aN (m:Int))*k) c)]) (λ_=>[(20,.func (.yield u) #[] #[]),(25,iN (((aN (m:Int))*k)+c))]) [] (λ_ L=>L) N0 [0,1] (oP Om) (λv j n b=>?_);refine cF _ rfl (r0 [(0,ad k 1)] [(17,iN (k+1))] [17] ?_);exact iT (k+1) Om b Om Kr [0,1] Kr
 refine ke ?_;exact k9 h d (by(rw[ZU,Z6];omega)) [] [0,1]
theorem Uv(m c:Nat):aa ZJ 285 #[iN m,iN c] [] [] (λE=>[ob (E.y 0) #[iN m] 3,ob (E.y 1) #[iN c] 3]) (λE=> .func (.func 288) #[] #[pt ((E.y 0)) 0,pt ((E.y 1)) 0]):=by
 exact fG Tryz.func285 λw cs=>ra (λa=>[(2,pt (B0 a) 0),(3,pt (B1 a) 0),(4,.nilFunc)]) (λa=>[ob (B0 a) #[iN m] 3,ob (B1 a) #[iN c] 3]) λa=>r0 [] [(4,.func (.func 288) #[] #[pt (B0 a) 0,pt (B1 a) 0])] [4] (lf (.l [(a 0).y 0,(a 1).y 0] [] []) [0,1] [] [])
def gv(n c:Nat)(v:UInt8)(xs:List UInt8):Nat→List UInt8
 | 0=>xs
 | k+1=>(gv n c v xs k).set (n*k+c) v
theorem tA(n c:Nat)(v:UInt8)(xs:List UInt8): ∀k,(gv n c v xs k).length=xs.length
 | 0=>rfl
 | k+1=>by rw[gv,ZT,tA]
theorem Uw(n c:Nat)(v:UInt8)(xs:List UInt8):gv n c v xs 0=xs:=rfl
theorem Ux(n c k:Nat)(v:UInt8)(xs:List UInt8):gv n c v xs (k+1)=(gv n c v xs k).set (n*k+c) v:=rfl
def nN(xs:List UInt8)(b v:Int):List UInt8:=bif (!(((oE xs b.toNat:Nat):Int)==v%2)) then xs.set (b.toNat/8) (xs.getD (b.toNat/8) 0^^^UInt8.ofNat (1*2^(b.toNat%8))) else xs
theorem Uy(xs:List UInt8)(b v:Int):(nN xs b v).length=xs.length:=by
 unfold nN;cases (!(((oE xs b.toNat:Nat):Int)==v%2))
 ·rfl
 ·exact ZT
attribute [local irreducible] gv
theorem Uz(xs:List UInt8)(g:xs.length=72)(b v:Int)(h0:0≤b)(h1:b<576):aa ZJ 271 #[.agg (rB 72 xs).toArray,i6 b,i6 v] [] [] N0 (λ_=> .agg (rB 72 (nN xs b v)).toArray):=by
 refine fG Tryz.func271 λw cs=>ra (λa=>[(3,pt (B0 a) 0),(6,pt (B1 a) 0)]) (λa=>[ob (B0 a) (rB 72 xs).toArray 217,ob (B1 a) (rB 72 (ZK 72 0)).toArray 217]) λa=>r0 [(0,aS 217 (B0 a) 72 1),(2,.c [0] [] (aa.at (rd':=[ob (B0 a) (rB 72 xs).toArray 217]) (Uh (.slice (some ⟨(a 0).y 0,0,none⟩) 72 72) xs (by(simp only[LL,g];done)) b Om Om) (eD (Ui (d:=0) (λ_=>rfl) g) (λ_ h=>h)))),(4,.t (tv (av .and 3 (.tmp 10) (.const (i6 1)) (i6 v) (i6 1)) (λ_=>mO _ 1 2 Dc Dc Dc Dc)))] [(12,.bool (((oE xs b.toNat:Nat):Int) != (v%2)))] [] ?_;refine mN ((oE xs b.toNat:Nat):Int) (v%2) (λf e=>?_) λf e=>?_
 ·exact rr (λ_=>[(0,.l 0),(2,.c [] [] (GK xs (by(simp only[LL,g];done)) b Om Om)),(3,.s 1)]) N0 [] (λ_ L=>L.set 1 (ob (B1 a) (rB 72 (xs.set (b.toNat/8) ((xs.getD (b.toNat/8) 0)^^^(UInt8.ofNat (1*2^(b.toNat%8)))))).toArray 217)) λi=>ak (.agg (rB 72 (xs.set (b.toNat/8) ((xs.getD (b.toNat/8) 0)^^^(UInt8.ofNat (1*2^(b.toNat%8)))))).toArray) ab.zero (by unfold nN;(repeat (first | rw[f] | rw[ALct]))) [] [] [1]
 exact rs [(0,.l 0),(1,.s 1)] 1 (ob (B1 a) (rB 72 xs).toArray 217) (ak (.agg (rB 72 xs).toArray) ab.zero (by unfold nN;(repeat (first | rw[f] | rw[ALcf]))) [] [] [1])
theorem UA(xs:List UInt8)(f:xs.length=72)(c m:Nat)(o:m=1∨m=2)(i:c<aN (m:Int))(v:UInt8):aa ZJ 272 #[.agg (rB 72 xs).toArray,iN m,iN c,u1 (v.toNat:Int)] [] [] N0 (λ_=> .agg (rB 72 (gv (aN (m:Int)) c v xs (dy (m:Int)))).toArray):=by
 have n:=wF (m:Int);have d:=f;refine fG Tryz.func272 λw cs=>ra (λa=>[(4,pt (B0 a) 0),(7,pt (B1 a) 0),(8,pt (B2 a) 0)]) (λa=>[ob (B0 a) (rB 72 xs).toArray 217,ob (B1 a) #[u1 (v.toNat:Int)] 5,ob (B2 a) (rB 72 (ZK 72 0)).toArray 217]) λa=>rr (λ_=>[(2,.c [] [3,4] (Uv m c))]) (λb=>[(12,.func (.func 288) #[] #[pt ((B2 b)) 0,pt (((b 2).y 1)) 0])]) [] (λb L=>L++[ob (B2 b) #[iN m] 3,ob ((b 2).y 1) #[iN c] 3]) λb=>?_;refine oZ (encs:=λ(x:Nat)=>#[iN x]) (xs:=(Z5 (dy (m:Int))).map λk=>aN (m:Int)*k+c) (KO:=[[((B2 b),.cells #[iN m] 3 (0,0))],[(((b 2).y 1),.cells #[iN c] 3 (0,0))]]) (Uu (B2 b) ((b 2).y 1) c m o i) (enters_of Tryz.func288 Kr rfl) (λk=>k≤dy (m:Int)) (λk L=>L.set 0 (ob (B0 a) (rB 72 (gv (aN (m:Int)) c v xs k)).toArray 217)) [3,4] Om (by rw[Uw];kernel_rfl) (λy k z q t g e=>?_) (λp e=>?_)
 ·obtain⟨h,rfl⟩:=n2 g;have d:=(tA (aN (m:Int)) c v xs k).trans f;have vH:=Aw (m:=(m:Int)) (k:=k+1) Om;have j:aN (m:Int)*(k+1)=aN (m:Int)*k+aN (m:Int):=aaE _ _;refine r0 [] [(9,iN (aN (m:Int)*k+c))] [] ?_;refine ag [3,4] (λr u=>?_);exact rs [(1,.l 1),(2,iA 217 .i64 (B0 a) 0 72 1 (aN (m:Int)*k+c)),(3,wD 0 (B0 a) (aN (m:Int)*k+c) 217 (u1 (v.toNat:Int)) (rB 72 (gv (aN (m:Int)) c v xs k)) (rB 72 ((gv (aN (m:Int)) c v xs k).set (aN (m:Int)*k+c) v)) (ka Om) (mJ (show(gv (aN (m:Int)) c v xs k).length=72 by(simp only[LL,f,d,f];done))))] 0 (ob (B0 a) (rB 72 ((gv (aN (m:Int)) c v xs k).set (aN (m:Int)*k+c) v)).toArray 217) (ne _ ⟨Om,rfl⟩ [0,1,2,3,4] (by rw[Ux];kernel_rfl))
 refine cl [ob (B0 a) (rB 72 (gv (aN (m:Int)) c v xs (dy (m:Int)))).toArray 217,ob (B1 a) #[u1 (v.toNat:Int)] 5,ob (B2 a) (rB 72 (ZK 72 0)).toArray 217,ob (B2 b) #[iN m] 3,ob ((b 2).y 1) #[iN c] 3] (by rw[ZU,Z6];kernel_rfl) ?_;simp only[ZU,Z6] at e;have d:=(tA (aN (m:Int)) c v xs (dy (m:Int))).trans f;exact rs [(0,.l 0),(1,.s 2)] 2 (ob (B2 a) (rB 72 (gv (aN (m:Int)) c v xs (dy (m:Int)))).toArray 217) (lf ab.zero [] [] [2])
end
section
structure mw (c:Cf) (f:Fa):Prop where
 ok:nM f c.R c.S c.B c.M c.C c.E=true
section
variable {c:Cf} {f:Fa}
theorem mw.all(h:mw c f):hold c.R c.S c.B c.M c.C f.x1 f.x2 f.x3 f.x4=true∧(0≤f.x6∧f.x6<576)∧(0≤f.x5∧f.x5<((aN (c.E:Int):Nat):Int)):=by
 have a:=h.ok;unfold nM at a;simp only[ZR] at a;exact⟨a.1.1.1.2,mn.1 a.1.1.2,mn.1 a.1.2⟩
end
theorem UB(xs:List UInt8)(d:xs.length=72)(c:Int)(m:Nat)(b:m=1∨m=2)(a:0≤c∧c<((aN (m:Int):Nat):Int))(v:UInt8):aa ZJ 272 #[.agg (rB 72 xs).toArray,iN m,i6 c,u1 (v.toNat:Int)] [] [] N0 (λ_=> .agg (rB 72 (gv (aN (m:Int)) c.toNat v xs (dy (m:Int)))).toArray):=by
 obtain⟨n,rfl⟩:=Int.eq_ofNat_of_zero_le a.1;exact UA xs d n m b Om v
def lJ(m:Nat)(a b d e:Int)(xs:List UInt8)(f:Fa):List UInt8:=bif ((!(iM f))||(!(lI f a b d e))) then xs else(bif (f.x0==2) then nN xs f.x6 f.x7 else gv (aN (m:Int)) f.x5.toNat (aP f.x7) xs (dy (m:Int)))
theorem GV(m:Nat)(a b d e:Int)(xs:List UInt8)(f:Fa):(lJ m a b d e xs f).length=xs.length:=by
 unfold lJ;cases ((!(iM f))||(!(lI f a b d e)))
 ·cases (f.x0==2)
  ·exact tA ..
  ·exact Uy ..
 ·rfl
def jd(m:Nat)(a b d e:Int)(xs:List UInt8)(l:List Fa):List UInt8:=l.foldl (lJ m a b d e) xs
theorem wG(m:Nat)(a b d e:Int): ∀(l:List Fa) (xs:List UInt8),(jd m a b d e xs l).length=xs.length
 | [],_=>rfl
 | f::l,xs=>(wG m a b d e l _).trans (GV ..)
theorem UC{m:Nat}{a b d e:Int}{xs:List UInt8}{l:List Fa}{i:Nat}(h:i<l.length):jd m a b d e xs (l.take (i+1))=lJ m a b d e (jd m a b d e xs (l.take i)) (l.getD i b7):=Am h
attribute [local irreducible] lI iM aN dy gv nN hold dS
theorem UD(c:Cf)(f:Fa)(p:mw c f)(z:c.E=1∨c.E=2)(e g h i:Int)(xs:List UInt8)(m:xs.length=72):aa ZJ 252 #[.agg #[i6 f.x0,i6 f.x1,i6 f.x2,i6 f.x3,i6 f.x4,i6 f.x5,i6 f.x6,i6 f.x7],iN c.E,.agg #[i6 e,i6 g,i6 h,i6 i],.agg (rB 72 xs).toArray] [] [] N0 (λ_=> .agg (rB 72 (lJ c.E e g h i xs f)).toArray):=by
 have d:=p.all;have x:=d.2.1.1;have y:=d.2.1.2;have q:=d.2.2;have r:=z;refine fG Tryz.func252 λw cs=>ra (λb=>[(4,pt (B0 b) 0),(6,pt (B1 b) 0),(7,pt (B2 b) 0),(8,pt (B3 b) 0)]) (λb=>[ob (B0 b) #[i6 f.x0,i6 f.x1,i6 f.x2,i6 f.x3,i6 f.x4,i6 f.x5,i6 f.x6,i6 f.x7] 48,ob (B1 b) #[i6 e,i6 g,i6 h,i6 i] 46,ob (B2 b) (rB 72 xs).toArray 217,ob (B3 b) (rB 72 (ZK 72 0)).toArray 217]) λb=>r0 [(0,.l 0),(1,.c [] [] (GJ f)),(4,.l 0),(5,.l 1),(6,.c [] [] (Ud f e g h i))] [(9,.bool ((!(iM f))||(!(lI f e g h i))))] [] ?_;refine cB ((!(iM f))||(!(lI f e g h i))) (λj=>?_) λj=>?_
 ·exact rr (λ_=>[(0,.l 2),(1,.s 3)]) N0 [] (λ_ L=>L.set 3 (ob (B3 b) (rB 72 xs).toArray 217)) λA=>ak (.agg (rB 72 xs).toArray) ab.zero (by unfold lJ;(repeat (first | rw[j] | rw[ALct]))) [] [] [3]
 refine r0 [(1,.l 0)] [(20,.bool (f.x0==2))] [] ?_;refine c0 f.x0 2 (λo n=>?_) λo n=>?_
 ·exact rr (λ_=>[(0,.l 2),(2,.l 0),(4,.l 0),(5,.c [] [] (Uz xs (by(simp only[LL,m,m];done)) f.x6 f.x7 Om Om)),(6,.s 3)]) N0 [] (λ_ L=>L.set 3 (ob (B3 b) (rB 72 (nN xs f.x6 f.x7)).toArray 217)) λB=>ak (.agg (rB 72 (nN xs f.x6 f.x7)).toArray) ab.zero (by unfold lJ;(repeat (first | rw[j] | rw[o] | rw[ALct] | rw[ALcf]))) [] [] [3]
 exact rs [(0,.l 2),(3,.l 0),(5,.l 0),(6,.t (tc (k:= .i64) (l:= .u8) (a:=i6 f.x7) λ_ _ _ u v=>oJ u v)),(7,.c [] [] (UB xs (by(simp only[LL,m,m];done)) f.x5 c.E r q (aP f.x7))),(8,.s 3)] 3 (ob (B3 b) (rB 72 (gv (aN (c.E:Int)) (f.x5).toNat (aP f.x7) xs (dy (c.E:Int)))).toArray 217) (ak (.agg (rB 72 (gv (aN (c.E:Int)) (f.x5).toNat (aP f.x7) xs (dy (c.E:Int)))).toArray) ab.zero (by unfold lJ;(repeat (first | rw[j] | rw[o] | rw[ALcf]))) [] [] [3])
attribute [local irreducible] lJ
theorem UE(c:Cf)(z:c.E=1∨c.E=2)(v:Value)(l:List Fa)(y:l.length≤1000)(r: ∀f∈l,mw c f)(a b d e:Int)(xs:List UInt8)(j:xs.length=72):aa ZJ 225 #[v,iN c.E,.agg #[i6 a,i6 b,i6 d,i6 e],.agg (rB 72 xs).toArray] [.p (aK pM v l)] [] N0 (λ_=> .agg (rB 72 (jd c.E a b d e xs l)).toArray):=by
 refine fO Tryz.func225 0 rfl λo i=>fG Tryz.func225 λw cs=>ra (λg=>[(6,pt (B0 g) 0),(7,pt (B1 g) 0),(8,pt (B2 g) 0)]) (λg=>[ob (B0 g) #[i6 a,i6 b,i6 d,i6 e] 46,ob (B1 g) (rB 72 xs).toArray 217,ob (B2 g) (rB 72 (ZK 72 0)).toArray 217]) λg=>r0 [(1,eG i.1 0)] [(11,v),(12,iN l.length),(13,i6 0)] [] ?_;refine lq (λk=>k≤l.length) (λk=>[(13,iN k)]) (λk L=>L.set 2 (ob (B1 g) (rB 72 (jd c.E a b d e xs (l.take k))).toArray 217)) (λk=>l.length-k) 0 Om Kr (by rw[aad];kernel_rfl) (λk x=>?_);have h:=(wG c.E a b d e (l.take k) xs).trans j;refine r0 [] [(14,.bool (decide ((k:Int)<(l.length:Int))))] [] ?_;refine cj (k:Int) (l.length:Int) (λu q=>?_) λu q=>?_
 ·refine rr (λ_=>[(0,fx i.1 0 k 8),(1,nm mv i.1 0 k 0 8),(3,.s 4)]) (λm=>[(10,pt (B2 m) 0)]) [] (λm L=>L++[ob (B2 m) #[i6 ((l.getD k b7).x0),i6 ((l.getD k b7).x1),i6 ((l.getD k b7).x2),i6 ((l.getD k b7).x3),i6 ((l.getD k b7).x4),i6 ((l.getD k b7).x5),i6 ((l.getD k b7).x6),i6 ((l.getD k b7).x7)] 48]) λm=>?_;have n:=(oB b7).2 r k Om;have t:=(GV c.E a b d e (jd c.E a b d e xs (l.take k)) (l.getD k b7)).trans h;exact rs [(0,.l 4),(2,.l 1),(3,.l 2),(4,.c [] [] (UD c (l.getD k b7) n z a b d e (jd c.E a b d e xs (l.take k)) (by(simp only[LL,j,h,t,j];done)))),(5,.s 2)] 2 (ob (B1 g) (rB 72 (lJ c.E a b d e (jd c.E a b d e xs (l.take k)) (l.getD k b7))).toArray 217) (r0 [(0,ad k 1)] [(13,iN (k+1))] [13] (le (k+1) Om Om Kr [0,1,2,3] (by rw[UC Om];kernel_rfl)))
 obtain rfl:k=l.length:=by omega
 refine cl [.c o,ob (B0 g) #[i6 a,i6 b,i6 d,i6 e] 46,ob (B1 g) (rB 72 (jd c.E a b d e xs l)).toArray 217,ob (B2 g) (rB 72 (ZK 72 0)).toArray 217] (by rw[aau];kernel_rfl) (lx ?_);have h:=(wG c.E a b d e l xs).trans j;exact rs [(0,.l 2),(1,.s 3)] 3 (ob (B2 g) (rB 72 (jd c.E a b d e xs l)).toArray 217) (lf ab.zero [] [(0,0)] [3])
end
theorem GW(c:Cf)(b:cM c.R c.S c.B c.M c.C)(a p1 p2 p3:Int)(d:hold c.R c.S c.B c.M c.C a p1 p2 p3=true):aa ZJ 147 #[.agg #[iN c.R,iN c.S,iN c.B,iN c.M,iN c.C],.agg #[i6 a,i6 p1,i6 p2,i6 p3]] [] [] N0 (λ_=> .tuple #[i6 (dS a p1 p2 p3),i6 0]):=by
 have h:=Fk c.R c.S c.B c.M c.C b a p1 p2 p3;unfold sZ s4 at h;rw[d] at h;exact h
theorem Ay(c:Cf)(b:cM c.R c.S c.B c.M c.C)(i:Int)(a:gz c.R c.S c.B c.M c.C i=true):aa ZJ 68 #[.agg #[iN c.R,iN c.S,iN c.B,iN c.M,iN c.C],i6 i] [] [] N0 (λ_=> .tuple #[.agg #[i6 (i/1048576),i6 (i/65536%16),i6 (i/64%1024),i6 (i%64)],i6 0]):=by
 have h:=Fl c.R c.S c.B c.M c.C b i;unfold s5 s6 s7 s8 s9 at h;unfold gz at a;rw[Bool.not_eq_true'] at a;rw[a] at h;exact h
theorem UF{i:Nat}{w:World}{α:Type}{en:α→List Value}{v:Value}{xs:List α}{bs:ay}(h:aK en v xs bs):(av .eql 93 (.tmp i) (.const (.slice none 0 0)) v (.slice none 0 0)).run ZJ w= .ok (.bool (o7 v)) w:=by
 obtain⟨a,r,rfl⟩:=h.2;cases a<;>kernel_rfl
theorem UG(v:Value)(xs:List Fa)(f:xs.length≤1000):aa ZJ 70 #[v] [.p (aK pM v xs)] [] (λE=>[dw (E.val 0) xs]) (λE=>(E.val 0)):=by
 refine fO Tryz.func70 0 rfl λd a=>fG Tryz.func70 λw cs=>r0 [] [(2,.slice none 0 0)] [] (r0 [(1,.t (tv (av .eql 93 (.tmp 3) (.const (.slice none 0 0)) (v) (.slice none 0 0)) (λ_=>UF a)))] [(4,.bool (o7 v))] [] ?_);refine cB (o7 v) (λe=>?_) λe=>?_
 ·exact r0 [] [(2,.slice none 0 0)] [2] (cz mv (lf (.l [] [] [.slice none 0 0]) [1] [(0,0)] [] (hf:=by(try rewrite [vw a As]);kernel_rfl)))
 exact rr (λb=>[(0,.m (sj 1 pM ([i6 0,i6 0,i6 0,i6 0,i6 0,i6 0,i6 0,i6 0]) 48)),(2,.m (mK 1 0 mv.hT (.slice (some ⟨(b 0).y 0,0,none⟩) 0 0) (v) (xs:=[]) (ys:=xs) (.c d) (cP a.1) mv.one mv.lz (by simp only[LL];omega)))]) (λb=>[(2,(b 2).val 0)]) [2] (λb L=>L++[dw ((b 2).val 0) (([])++xs)]) λb=>lf (.l [] [] [(b 2).val 0]) [1] [(0,0)] [] (hf:=by(try rewrite [vw a As]);kernel_rfl)
theorem UH(v:Value)(xs:List Fa)(l:Nat)(a:l≤xs.length)(b:xs.length≤1000):aa ZJ 70 #[gY v l xs.length 8] [.p (aK pM v xs)] [] (λE=>[dw (E.val 0) (xs.drop l)]) (λE=>E.val 0):=
 aa.at (UG (gY v l xs.length 8) (xs.drop l) (by rw[ZV];omega)) (bM (λ_ h=>aK.drop (en:=pM) (k:=8) (λ_=>rfl) h a) λ_ h=>h)
def kv(xs:List Fa):Int:=(bif decide (256≤(xs.length:Int)) then 14 else 0)
def je(xs:List Fa)(f:Fa):List Fa:=(bif decide (256≤(xs.length:Int)) then xs else xs++([f]))
theorem GX(v:Value)(xs:List Fa)(f:Fa):aa ZJ 170 #[v,.agg #[i6 f.x0,i6 f.x1,i6 f.x2,i6 f.x3,i6 f.x4,i6 f.x5,i6 f.x6,i6 f.x7]] [dw v xs] [0] (λE=>[dw (E.val 0) (je xs f)]) (λE=> .tuple #[(E.val 0),i6 (kv xs)]):=by
 refine fG Tryz.func170 λw cs=>ra (λc=>[(3,pt (B0 c) 0),(4,.slice none 0 0),(5,i6 0)]) (λc=>[ob (B0 c) #[i6 f.x0,i6 f.x1,i6 f.x2,i6 f.x3,i6 f.x4,i6 f.x5,i6 f.x6,i6 f.x7] 48]) λc=>r0 [(1,fw mv v xs 0)] [(8,.bool (decide (256≤(xs.length:Int))))] [] ?_;refine oX 256 (xs.length:Int) (λb d=>?_) λb d=>?_
 ·exact r0 [] [(4,v),(5,i6 14)] [4,5] (ak (.tuple #[v,i6 14]) (.l [] [] [v]) (by((try simp only[kv,je]);(repeat (first | rw[b] | rw[ALct])))<;>rfl) [0] [] [] (hf:=by(try simp only[kv,je]);(repeat (first | rw[b] | rw[ALct]));kernel_rfl))
 exact rr (λ_=>[(1,.l 1),(2,.m (bs 2 1)),(3,fF mv (v) xs 0 2 ([f]))]) (λa=>[(4,(a 3).val 0),(5,i6 0)]) [4,5] (λa L=>L.set 0 (dw ((a 3).val 0) (xs++([f])))++[ob (B2 a) #[i6 f.x0,i6 f.x1,i6 f.x2,i6 f.x3,i6 f.x4,i6 f.x5,i6 f.x6,i6 f.x7] 48]) λa=>ak (.tuple #[(a 3).val 0,i6 0]) (.l [] [] [(a 3).val 0]) (by((try simp only[kv,je]);(repeat (first | rw[b] | rw[ALcf])))<;>rfl) [0] [] [] (hf:=by(try simp only[kv,je]);(repeat (first | rw[b] | rw[ALcf]));kernel_rfl)
structure Dr where
 cells:Int→List UInt8
 X:List Fa
 H:List Fa
def lK:List UInt8:=ZK 72 0
def qP(r:List UInt8):Value:= .agg (rB 72 r).toArray
abbrev eU(f:Int→List UInt8)(g:Nat):aA:= .p (mb qP lK f g)
abbrev gA(g:Nat)(c:Cf)(D:Dr)(L:ah):Prop:=∃(gm:Nat) (a b:Value),L=[ob g #[iN c.R,iN c.S,iN c.B,iN c.M,iN c.C,iN c.E,.map (some gm),a,b] 162,eU D.cells gm,dw a D.X,dw b D.H]
structure iO (c:Cf) (D:Dr):Prop where
 cl: ∀k,(D.cells k).length=72
 l1:D.X.length≤256
 l2:D.H.length≤256
 f1: ∀f∈D.X,mw c f
 f2: ∀f∈D.H,mw c f
def tB:Dr:=⟨λ_=>lK,[],[]⟩
theorem UI(c:Cf):iO c tB:=⟨λ_=>ZQ,ZX _,ZX _,λf h=>absurd h Z0,λf h=>absurd h Z0⟩
def aQ(D:Dr)(i:Int):Int:=bif (D.H.length:Int)==0 then i else bif (D.H.getD 0 b7).x0==7 then i else dS (D.H.getD 0 b7).x1 (D.H.getD 0 b7).x2 (D.H.getD 0 b7).x3 (D.H.getD 0 b7).x4
def b8(D:Dr):Bool:=bif (D.H.length:Int)==0 then false else(D.H.getD 0 b7).x0==7
def eu(D:Dr):Dr:={D with H:=D.H.drop 1}
theorem Az{α:Type}{l:List α}(h:(l.length:Int)=0):l.drop 1=l:=by
 have e:l=[]:=List.length_eq_zero_iff.1 Om;subst e;rfl
theorem tC{c:Cf}{D:Dr}(h:iO c D):iO c (eu D):=⟨h.cl,h.l1,by show(D.H.drop 1).length≤256;rw[ZV];have:=h.l2;omega,h.f1,λf a=>h.f2 f (List.mem_of_mem_drop a)⟩
theorem GY{c:Cf}{l:List Fa}(h: ∀f∈l,mw c f)(a:(l.length:Int)≠0):mw c (l.getD 0 b7):=(oB b7).2 h 0 Om
theorem UJ(c:Cf)(b:c8 c):aa ZJ 112 #[.agg #[iN c.R,iN c.S,iN c.B,iN c.M,iN c.C],iN c.E] [] [] (λE=>[ob (E.y 0) #[iN c.R,iN c.S,iN c.B,iN c.M,iN c.C,iN c.E,.map (some (E.y 1)),.slice none 0 0,.slice none 0 0] 162,eU (λ_=>lK) (E.y 1)]) (λE=> .tuple #[pt ((E.y 0)) 0,i6 0]):=by
 have g:=b.ly.O;have h:=b.E;refine fG Tryz.func112 λw cs=>ra (λd=>[(2,pt (B0 d) 0),(4,.pointer none),(5,i6 0)]) (λd=>[ob (B0 d) #[iN c.R,iN c.S,iN c.B,iN c.M,iN c.C] 23]) λd=>rF [(0,.l 0),(1,.c [] [] (vR c.R c.S c.B c.M c.C g))] 6 (r0 [(1,.c [] [] (pb (c.E:Int)))] [(10,.bool (!(((c.E:Int)==1)||((c.E:Int)==2))))] [] ?_);have f:(!(((c.E:Int)==1)||((c.E:Int)==2)))=false:=by rw[show((((c.E:Nat):Int)==1)||(((c.E:Nat):Int)==2))=true by rcases h with e | e<;>rw[e]<;>rfl];rfl
 exact cF (!(((c.E:Int)==1)||((c.E:Int)==2))) f (rr (λ_=>[(0,.l 0),(2,.m (mm 1 qP lK))]) (λa=>[(4,pt (B4 a) 0),(5,i6 0)]) [4,5] (λa L=>L++[eU (λ_=>lK) (B2 a),ob (B4 a) #[iN c.R,iN c.S,iN c.B,iN c.M,iN c.C,iN c.E,.map (some (B2 a)),.slice none 0 0,.slice none 0 0] 162]) λa=>lf (.l [(a 4).y 0,(a 2).y 0] [] []) [2,1] [] [])
theorem UK(g:Nat)(c:Cf)(D:Dr):aa ZJ 113 #[pt g 0] [pk (gA g c D)] [0] (λ_=>[pk (gA g c D)]) (λ_=> .agg #[iN c.R,iN c.S,iN c.B,iN c.M,iN c.C]):=aa.pkZ Tryz.func113 λL b=>by
 obtain⟨gm,d,e,rfl⟩:=b;refine⟨[1,2,3],λ_=>[eU D.cells gm,dw d D.X,dw e D.H],?_,rfl,λE=>⟨rfl,rfl,⟨_,_,_,rfl⟩⟩⟩;exact fG Tryz.func113 λw cs=>ra (λa=>[(2,pt (B0 a) 0)]) (λa=>[ob (B0 a) #[i6 0,i6 0,i6 0,i6 0,i6 0] 23]) λa=>rs [(3,.l 0),(4,.s 4)] 4 (ob (B0 a) #[iN c.R,iN c.S,iN c.B,iN c.M,iN c.C] 23) (lf ab.zero [1,2,3] [(0,0)] [4])
theorem AA(g:Nat)(c:Cf)(D:Dr):aa ZJ 107 #[pt g 0] [pk (gA g c D)] [0] (λ_=>[pk (gA g c D)]) (λ_=>iN c.E):=aa.pkZ Tryz.func107 λL a=>by
 obtain⟨gm,b,d,rfl⟩:=a;refine⟨[1,2,3],λ_=>[eU D.cells gm,dw b D.X,dw d D.H],?_,rfl,λE=>⟨rfl,rfl,⟨_,_,_,rfl⟩⟩⟩;exact fG Tryz.func107 λw cs=>r0 [] [(2,i6 0)] [] (r0 [(3,.l 0)] [(2,iN c.E)] [2] (lf ab.zero [1,2,3] [(0,0)] []))
theorem GZ(g:Nat)(c:Cf)(r:c8 c)(D:Dr)(t:iO c D)(i:Int)(gm:Nat)(f a:Value):aa ZJ 190 #[pt g 0,i6 i] [ob g #[iN c.R,iN c.S,iN c.B,iN c.M,iN c.C,iN c.E,.map (some gm),f,a] 162,eU D.cells gm,dw f D.X,dw a D.H] [0,1,2,3] (λE=>[ob g #[iN c.R,iN c.S,iN c.B,iN c.M,iN c.C,iN c.E,.map (some gm),f,(E.val 0)] 162,eU ((eu D).cells) gm,dw f ((eu D).X),dw (E.val 0) ((eu D).H)]) (λ_=> .agg #[i6 (aQ D i),.bool (b8 D)]):=by
 have u:=t.l2;have n:=r.ly.O;refine fG Tryz.func190 λw cs=>ra (λe=>[(4,pt (B0 e) 0)]) (λe=>[ob (B0 e) #[i6 0,.bool false] 88]) λe=>r0 [(3,.l 0),(4,fw mv a D.H 3)] [(13,.bool ((D.H.length:Int)==0))] [] ?_;refine c0 (D.H.length:Int) 0 (λj d=>?_) λj d=>?_
 ·exact rr (λ_=>[(2,.s 4)]) N0 [] (λ_ L=>L.set 4 (ob (B0 e) #[i6 i,.bool false] 88)) λy=>ak (.agg #[i6 i,.bool false]) (.l [] [] [a]) (by unfold aQ b8;(repeat (first | rw[j] | rw[ALct]))) [0,1,2,3] [] [4] (hf:=by unfold eu;(try rewrite [Az As]);kernel_rfl)
 have o:=(GY t.f2 d).all.1;have v:0<D.H.length:=by have x:=d;omega
 refine rr (λ_=>[(3,.l 0),(4,cU mv a D.H 3 0),(5,qg mv a D.H 3 0 0 8),(7,.s 5)]) (λk=>[(5,pt (B6 k) 0)]) [] (λk L=>L++[ob (B6 k) #[i6 ((D.H.getD 0 b7).x0),i6 ((D.H.getD 0 b7).x1),i6 ((D.H.getD 0 b7).x2),i6 ((D.H.getD 0 b7).x3),i6 ((D.H.getD 0 b7).x4),i6 ((D.H.getD 0 b7).x5),i6 ((D.H.getD 0 b7).x6),i6 ((D.H.getD 0 b7).x7)] 48]) λk=>rr (λb=>[(4,.l 0),(5,KY mv a D.H 3 1),(6,.c [3] [6] (aa.at (rd':=[dw a D.H]) (UH a D.H 1 Om Om) (bM (λ_ h=>aq.sq h) (λ_ h=>h)))),(9,.m (fT 0 6 (dw ((b 6).val 0) ((D.H).drop (1))) ((b 6).val 0) λbs h=>aq.one ((λ_ h=>h) bs h)))]) N0 [] (λb L=>L.set 0 (ob g #[iN c.R,iN c.S,iN c.B,iN c.M,iN c.C,iN c.E,.map (some gm),f,(b 6).val 0] 162)++[dw ((b 6).val 0) ((D.H).drop (1))]) λb=>r0 [(1,.l 5)] [(33,.bool (((D.H.getD 0 b7).x0)==7))] [] ?_;refine c0 ((D.H.getD 0 b7).x0) 7 (λq p=>?_) λq p=>?_
 ·exact rr (λ_=>[(2,.s 4)]) N0 [] (λ_ L=>L.set 4 (ob (B0 e) #[i6 i,.bool true] 88)) λz=>ak (.agg #[i6 i,.bool true]) (.l [] [] [((b 6).val 0)]) (by unfold aQ b8;(repeat (first | rw[j] | rw[q] | rw[ALct] | rw[ALcf]))) [0,1,2,6] [] [4] (hf:=by unfold eu;(try rewrite [Az As]);kernel_rfl)
 exact r0 [(3,.m (ls 0 ([iN c.R,iN c.S,iN c.B,iN c.M,iN c.C]))),(5,.m (ls 5 ([i6 ((D.H.getD 0 b7).x1),i6 ((D.H.getD 0 b7).x2),i6 ((D.H.getD 0 b7).x3),i6 ((D.H.getD 0 b7).x4)]))),(6,.c [] [] (GW c n ((D.H.getD 0 b7).x1) ((D.H.getD 0 b7).x2) ((D.H.getD 0 b7).x3) ((D.H.getD 0 b7).x4) o)),] [(6,i6 (dS ((D.H.getD 0 b7).x1) ((D.H.getD 0 b7).x2) ((D.H.getD 0 b7).x3) ((D.H.getD 0 b7).x4))),(7,i6 0)] [] (rF [] 47 (rs [(2,.s 4)] 4 (ob (B0 e) #[i6 (dS ((D.H.getD 0 b7).x1) ((D.H.getD 0 b7).x2) ((D.H.getD 0 b7).x3) ((D.H.getD 0 b7).x4)),.bool false] 88) (ak (.agg #[i6 (dS ((D.H.getD 0 b7).x1) ((D.H.getD 0 b7).x2) ((D.H.getD 0 b7).x3) ((D.H.getD 0 b7).x4)),.bool false]) (.l [] [] [((b 6).val 0)]) (by unfold aQ b8;(repeat (first | rw[j] | rw[q] | rw[ALcf]))) [0,1,2,6] [] [4] (hf:=by unfold eu;(try rewrite [Az As]);kernel_rfl))))
section
theorem AB{R S B M C:Nat}(f:cM R S B M C){a p1 p2 p3:Int}(h:hold R S B M C a p1 p2 p3=true):gz R S B M C (dS a p1 p2 p3)=true:=by
 obtain⟨b,c,d,e,g,i⟩:=Qy f.bd h;unfold gz;rw[b,c,d,e,h,a8 Om];rfl
theorem UL{c:Cf}(a:c8 c){D:Dr}(d:iO c D){i:Int}(b:gz c.R c.S c.B c.M c.C i=true):gz c.R c.S c.B c.M c.C (aQ D i)=true:=by
 unfold aQ;cases h:((D.H.length:Int)==0)
 ·rw[ALcf];cases (D.H.getD 0 b7).x0==7
  ·exact AB a.ly.O (GY d.f2 (ne_of_beq_false h)).all.1
  ·exact b
 ·exact b
def qQ(c:Cf)(D:Dr)(i:Int):List UInt8:=jd c.E (i/1048576) (i/65536%16) (i/64%1024) (i%64) (D.cells i) D.X
theorem AD{c:Cf}{D:Dr}(a:iO c D)(i:Int):(qQ c D i).length=72:=(wG ..).trans (a.cl i)
def bW(c:Cf)(D:Dr)(i:Int):List UInt8:=bif b8 D then ZK 72 0 else qQ c (eu D) (aQ D i)
theorem mx{c:Cf}{D:Dr}(a:iO c D)(i:Int):(bW c D i).length=72:=by
 unfold bW;cases b8 D
 ·exact AD (tC a) _
 ·exact ZQ
def oF(D:Dr)(i:Int)(r:List UInt8):Dr:=⟨bif !(b8 D) then cq D.cells (aQ D i) r else D.cells,D.X,D.H.drop 1⟩
theorem tE{f:Int→List UInt8}{n:Nat}(h: ∀k,(f k).length=n)(i:Int){r:List UInt8}(a:r.length=n)(k:Int):(cq f i r k).length=n:=by
 unfold cq
 split<;>simp [*]
theorem G0{c:Cf}{D:Dr}(h:iO c D)(i:Int){r:List UInt8}(b:r.length=72):iO c (oF D i r):=by
 have a:=tC h;refine⟨?_,a.l1,a.l2,a.f1,a.f2⟩;show ∀k,((bif !(b8 D) then cq D.cells (aQ D i) r else D.cells) k).length=72;cases b8 D
 ·exact tE h.cl _ b
 ·exact h.cl
def G1(xs:List UInt8)(b:Int):List UInt8:=xs.set (b.toNat/8) (xs.getD (b.toNat/8) 0^^^UInt8.ofNat (1*2^(b.toNat%8)))
def gT(c:Cf)(f:Fa):Bool:=nM f c.R c.S c.B c.M c.C c.E
def kS(c:Cf)(D:Dr)(f:Fa):Dr:=
 ⟨bif !(gT c f) then D.cells else bif f.x0==1 then cq D.cells (dS f.x1 f.x2 f.x3 f.x4) (G1 (D.cells (dS f.x1 f.x2 f.x3 f.x4)) f.x6) else D.cells,
  bif !(gT c f) then D.X else bif f.x0==1 then D.X else bif iM f then je D.X f else D.X,
  bif !(gT c f) then D.H else bif f.x0==1 then D.H else bif iM f then D.H else je D.H f⟩
def ia(c:Cf)(D:Dr)(f:Fa):Int:=bif !(gT c f) then 10 else bif f.x0==1 then 0 else bif iM f then kv D.X else kv D.H
theorem G2{xs:List Fa}(f:Fa)(h:xs.length≤256):(je xs f).length≤256:=by
 unfold je;cases a:decide (256≤(xs.length:Int))
 ·have:=of_decide_eq_false a;simp only[ALcf,ZL,List.length_singleton];omega
 ·exact h
theorem G3{xs:List Fa}{f:Fa}{p:Fa→Prop}(h: ∀x∈xs,p x)(hf:p f): ∀x∈je xs f,p x:=by
 unfold je;cases decide (256≤(xs.length:Int))
 ·simp only[ALcf,List.mem_append,List.mem_singleton];rintro x (a | rfl)
  ·exact h x a
  ·exact hf
 ·exact h
theorem UM{c:Cf}{D:Dr}(h:iO c D)(f:Fa):iO c (kS c D f):=by
 unfold kS;cases b:gT c f
 ·exact⟨h.cl,h.l1,h.l2,h.f1,h.f2⟩
 ·have a:mw c f:=⟨b⟩;cases f.x0==1
  ·cases iM f
   ·exact⟨h.cl,h.l1,G2 f h.l2,h.f1,G3 h.f2 a⟩
   ·exact⟨h.cl,G2 f h.l1,h.l2,G3 h.f1 a,h.f2⟩
  ·exact⟨tE h.cl _ (by unfold G1;rw[ZT];exact h.cl _),h.l1,h.l2,h.f1,h.f2⟩
attribute [local irreducible] jd aQ b8 gz dS iM kv je nM
theorem UN(g:Nat)(c:Cf)(d:c8 c)(D:Dr)(b:iO c D)(i:Int)(n:gz c.R c.S c.B c.M c.C i=true)(gm:Nat)(a p:Value):aa ZJ 191 #[pt g 0,i6 i] [ob g #[iN c.R,iN c.S,iN c.B,iN c.M,iN c.C,iN c.E,.map (some gm),a,p] 162,eU D.cells gm,dw a D.X,dw p D.H] [1,2,3] (λ_=>[eU D.cells gm,dw a D.X,dw p D.H]) (λ_=> .tuple #[.agg (rB 72 (qQ c D i)).toArray,i6 0]):=by
 have j:=d.ly.O;have k:=n;have q:=b.l1;have l:=b.cl i;have o:=AD b i;have r:=d.E;exact fG Tryz.func191 λw cs=>ra (λe=>[(4,pt (B0 e) 0),(5,i6 0)]) (λe=>[ob (B0 e) (rB 72 (ZK 72 0)).toArray 217]) λe=>rr (λ_=>[(3,.m (ls 0 ([iN c.R,iN c.S,iN c.B,iN c.M,iN c.C]))),(5,.c [] [] (Ay c j i k)),(9,.m (al 5)),(10,.s 5)]) (λf=>[(6,pt ((f 9).y 0) 0),(7,i6 0)]) [] (λf L=>L++[ob ((f 9).y 0) #[i6 (i/1048576),i6 (i/65536%16),i6 (i/64%1024),i6 (i%64)] 46]) λf=>rF [] 18 (rr (λ_=>[(3,.m (ld 0 (a))),(7,.m (ld 0 (iN c.E))),(8,.m (ls 5 ([i6 (i/1048576),i6 (i/65536%16),i6 (i/64%1024),i6 (i%64)]))),(12,.m (ld 0 (.map (some gm)))),(14,.m (mg 1 (eU D.cells gm) gm i (λ_ h=>h))),(15,.c [2] [] (aa.at (rd':=[dw a D.X]) (UE c r a D.X (ZS b.l1 Dc) b.f1 (i/1048576) (i/65536%16) (i/64%1024) (i%64) (D.cells i) (by(simp only[LL,l,o];done))) (bM (λ_ h=>aq.sq h) (λ_ h=>h)))),(16,.s 4)]) (λ_=>[(5,i6 0)]) [5] (λ_ L=>L.set 4 (ob (B0 e) (rB 72 (jd c.E (i/1048576) (i/65536%16) (i/64%1024) (i%64) (D.cells i) D.X)).toArray 217)) λt=>ak (.tuple #[.agg (rB 72 (jd c.E (i/1048576) (i/65536%16) (i/64%1024) (i%64) (D.cells i) D.X)).toArray,i6 0]) ab.zero a9 [1,2,3] [(0,0)] [4])
theorem UO(g:Nat)(c:Cf)(d:c8 c)(D:Dr)(o:iO c D)(i:Int)(k:gz c.R c.S c.B c.M c.C i=true)(r:List UInt8)(t:r.length=72):aa ZJ 204 #[pt g 0,i6 i,.agg (rB 72 r).toArray] [pk (gA g c D)] [0] (λ_=>[pk (gA g c (oF D i r))]) (λ_=> .tuple #[.agg #[i6 (aQ D i),.bool (b8 D)],i6 0]):=aa.pkZ Tryz.func204 λL p=>by
 obtain⟨gm,e,q,rfl⟩:=p;refine⟨[0,1,2,3],λE=>[ob g #[iN c.R,iN c.S,iN c.B,iN c.M,iN c.C,iN c.E,.map (some gm),e,(E.val 0)] 162,eU ((oF D i r).cells) gm,dw e ((eu D).X),dw (E.val 0) ((eu D).H)],?_,rfl,λE=>⟨rfl,rfl,⟨_,_,_,rfl⟩⟩⟩;have f:=d.ly.O;have h:=k;refine fG Tryz.func204 λw cs=>ra (λa=>[(5,pt (B0 a) 0),(6,pt (B1 a) 0),(7,i6 0)]) (λa=>[ob (B0 a) (rB 72 r).toArray 217,ob (B1 a) #[i6 0,.bool false] 88]) λa=>rr (λ_=>[(3,.m (ls 0 ([iN c.R,iN c.S,iN c.B,iN c.M,iN c.C]))),(5,.c [] [] (Ay c f i h)),(9,.m (al 6)),(10,.s 6)]) (λ_=>[(9,i6 0)]) [] (λn L=>L++[ob ((n 9).y 0) #[i6 (i/1048576),i6 (i/65536%16),i6 (i/64%1024),i6 (i%64)] 46]) λn=>rF [] 21 (rr (λ_=>[(2,.c [0,1,2,3] [0,1,2,3] (GZ g c d D o i gm e q)),(4,.s 7)]) (λb=>[(10,pt (B3 b) 0)]) [] (λb L=>(((L.set 0 (ob g #[iN c.R,iN c.S,iN c.B,iN c.M,iN c.C,iN c.E,.map (some gm),e,((b 2).val 0)] 162)).set 1 (eU ((eu D).cells) gm)).set 2 (dw e ((eu D).X))).set 3 (dw ((b 2).val 0) ((eu D).H))++[ob (B3 b) #[i6 (aQ D i),.bool (b8 D)] 88]) λb=>r0 [(1,.l 7)] [(29,.bool (!(b8 D)))] [] ?_);refine cB (!(b8 D)) (λj=>?_) λj=>?_
 ·exact rr (λ_=>[(3,.l 0),(5,.l 7),(6,.l 4),(7,.m (mu 1 gm (aQ D i) qP lK ((eu D).cells) r))]) N0 [] (λ_ L=>L.set 1 (eU (cq ((eu D).cells) (aQ D i) r) gm)) λu=>rr (λ_=>[(0,.l 7),(1,.s 5)]) (λ_=>[(7,i6 0)]) [7] (λ_ L=>L.set 5 (ob (B1 a) #[i6 (aQ D i),.bool (b8 D)] 88)) λv=>lf (.l [] [] [((b 2).val 0)]) [0,1,2,3] [] [5] (hf:=by unfold oF;(repeat (first | rw[j] | rw[ALct]));kernel_rfl)
 exact rr (λ_=>[(0,.l 7),(1,.s 5)]) (λ_=>[(7,i6 0)]) [7] (λ_ L=>L.set 5 (ob (B1 a) #[i6 (aQ D i),.bool (b8 D)] 88)) λx=>lf (.l [] [] [((b 2).val 0)]) [0,1,2,3] [] [5] (hf:=by unfold oF;(repeat (first | rw[j] | rw[ALcf]));kernel_rfl)
theorem UP(g:Nat)(c:Cf)(b:c8 c)(D:Dr)(h:iO c D)(i:Int)(f:gz c.R c.S c.B c.M c.C i=true):aa ZJ 148 #[pt g 0,i6 i] [pk (gA g c D)] [0] (λ_=>[pk (gA g c (eu D))]) (λ_=> .tuple #[.agg (rB 72 (bW c D i)).toArray,.agg #[i6 (aQ D i),.bool (b8 D)],i6 0]):=aa.pkZ Tryz.func148 λL r=>by
 obtain⟨gm,e,u,rfl⟩:=r;refine⟨[0,1,2,3],λE=>[ob g #[iN c.R,iN c.S,iN c.B,iN c.M,iN c.C,iN c.E,.map (some gm),e,(E.val 0)] 162,eU ((eu D).cells) gm,dw e ((eu D).X),dw (E.val 0) ((eu D).H)],?_,rfl,λE=>⟨rfl,rfl,⟨_,_,_,rfl⟩⟩⟩;have k:=b.ly.O;have n:=f;have p:=UL b h f;have t:=AD (tC h) (aQ D i);refine fG Tryz.func148 λw cs=>ra (λd=>[(4,pt (B0 d) 0),(5,pt (B1 d) 0),(6,i6 0)]) (λd=>[ob (B0 d) (rB 72 (ZK 72 0)).toArray 217,ob (B1 d) #[i6 0,.bool false] 88]) λd=>rr (λ_=>[(3,.m (ls 0 ([iN c.R,iN c.S,iN c.B,iN c.M,iN c.C]))),(5,.c [] [] (Ay c k i n)),(9,.m (al 6)),(10,.s 6)]) (λ_=>[(8,i6 0)]) [] (λq L=>L++[ob ((q 9).y 0) #[i6 (i/1048576),i6 (i/65536%16),i6 (i/64%1024),i6 (i%64)] 46]) λq=>rF [] 22 (rr (λ_=>[(2,.c [0,1,2,3] [0,1,2,3] (GZ g c b D h i gm e u)),(4,.s 7)]) (λa=>[(9,pt (B3 a) 0)]) [] (λa L=>(((L.set 0 (ob g #[iN c.R,iN c.S,iN c.B,iN c.M,iN c.C,iN c.E,.map (some gm),e,((a 2).val 0)] 162)).set 1 (eU ((eu D).cells) gm)).set 2 (dw e ((eu D).X))).set 3 (dw ((a 2).val 0) ((eu D).H))++[ob (B3 a) #[i6 (aQ D i),.bool (b8 D)] 88]) λa=>r0 [(1,.l 7)] [(30,.bool (b8 D))] [] ?_);refine cB (b8 D) (λo=>?_) λo=>?_
 ·exact rr (λ_=>[(1,.l 7),(2,.s 4),(3,.s 5)]) (λ_=>[(6,i6 0)]) [6] (λ_ L=>L.set 5 (ob (B1 d) #[i6 (aQ D i),.bool (b8 D)] 88)) λv=>ak (.tuple #[.agg (rB 72 (ZK 72 0)).toArray,.agg #[i6 (aQ D i),.bool (b8 D)],i6 0]) (.l [] [] [((a 2).val 0)]) (by unfold bW;(repeat (first | rw[o] | rw[ALct]))) [0,1,2,3] [] [4,5]
 exact rr (λ_=>[(2,.l 7),(3,.c [0,1,2,3] [1,2,3] (UN g c b (eu D) (tC h) (aQ D i) p gm e ((a 2).val 0))),(8,.s 8)]) (λj=>[(10,pt (B7 j) 0),(11,i6 0)]) [] (λj L=>L.set 3 (dw ((a 2).val 0) ((eu D).H))++[ob (B7 j) (rB 72 (qQ c (eu D) (aQ D i))).toArray 217]) λj=>rr (λ_=>[(0,.l 8),(1,.l 7),(3,.s 4),(4,.s 5)]) (λ_=>[(6,i6 0)]) [6] (λ_ L=>(L.set 4 (ob (B0 d) (rB 72 (qQ c (eu D) (aQ D i))).toArray 217)).set 5 (ob (B1 d) #[i6 (aQ D i),.bool (b8 D)] 88)) λx=>ak (.tuple #[.agg (rB 72 (qQ c (eu D) (aQ D i))).toArray,.agg #[i6 (aQ D i),.bool (b8 D)],i6 0]) (.l [] [] [((a 2).val 0)]) (by unfold bW;(repeat (first | rw[o] | rw[ALcf]))) [0,1,2,3] [] [4,5]
theorem UQ(g:Nat)(c:Cf)(k:c8 c)(D:Dr)(u:iO c D)(f:Fa):aa ZJ 129 #[pt g 0,.agg #[i6 f.x0,i6 f.x1,i6 f.x2,i6 f.x3,i6 f.x4,i6 f.x5,i6 f.x6,i6 f.x7]] [pk (gA g c D)] [0] (λ_=>[pk (gA g c (kS c D f))]) (λ_=>i6 (ia c D f)):=aa.pkZ Tryz.func129 λL x=>by
 obtain⟨gm,n,o,rfl⟩:=x;refine⟨[0,1,2,3],λE=>[ob g #[iN c.R,iN c.S,iN c.B,iN c.M,iN c.C,iN c.E,.map (some gm),(E.val 0),(E.val 1)] 162,eU ((kS c D f).cells) gm,dw (E.val 0) ((kS c D f).X),dw (E.val 1) ((kS c D f).H)],?_,rfl,λE=>⟨rfl,rfl,⟨_,_,_,rfl⟩⟩⟩;have q:=k.ly.O;have t:=u.cl (dS f.x1 f.x2 f.x3 f.x4);have v:=k.ly.O;refine fG Tryz.func129 λw cs=>ra (λp=>[(3,pt (B0 p) 0),(4,i6 0)]) (λp=>[ob (B0 p) #[i6 f.x0,i6 f.x1,i6 f.x2,i6 f.x3,i6 f.x4,i6 f.x5,i6 f.x6,i6 f.x7] 48]) λp=>r0 [(0,.m (ls 4 ([i6 f.x0,i6 f.x1,i6 f.x2,i6 f.x3,i6 f.x4,i6 f.x5,i6 f.x6,i6 f.x7]))),(4,.m (ls 0 ([iN c.R,iN c.S,iN c.B,iN c.M,iN c.C]))),(8,.m (ld 0 (iN c.E))),(9,.c [] [] (Av f c.R c.S c.B c.M c.C c.E v k.E)),] [(19,.bool (!(nM f c.R c.S c.B c.M c.C c.E)))] [] ?_;refine cB (!(nM f c.R c.S c.B c.M c.C c.E)) (λe=>?_) λe=>?_
 ·exact r0 [] [(4,i6 10)] [4] (ak (i6 10) (.l [] [] [n,o]) (by unfold ia gT;(repeat (first | rw[e] | rw[ALct]))) [0,1,2,3] [] [] (hf:=by unfold kS gT;(repeat (first | rw[e] | rw[ALct]));kernel_rfl))
 have i:mw c f:=⟨by simpa using e⟩;have r:=i.all.1;refine r0 [(1,.l 4)] [(31,.bool (f.x0==1))] [] ?_;refine c0 f.x0 1 (λj s=>?_) λj s=>?_
 ·exact r0 [(3,.m (ls 0 ([iN c.R,iN c.S,iN c.B,iN c.M,iN c.C]))),(5,.m (ls 4 ([i6 f.x1,i6 f.x2,i6 f.x3,i6 f.x4]))),(6,.c [] [] (GW c q f.x1 f.x2 f.x3 f.x4 r)),] [(5,i6 (dS f.x1 f.x2 f.x3 f.x4)),(6,i6 0)] [] (rs [(3,.m (ld 0 (.map (some gm)))),(8,.m (ld 0 (.map (some gm)))),(10,.m (mg 1 (eU D.cells gm) gm (dS f.x1 f.x2 f.x3 f.x4) (λ_ h=>h))),(12,.m (ld 4 (i6 f.x6))),(13,.c [] [] (GK (D.cells (dS f.x1 f.x2 f.x3 f.x4)) (by(simp only[LL,t];done)) f.x6 i.all.2.1.1 i.all.2.1.2)),(14,.m (mu 1 gm (dS f.x1 f.x2 f.x3 f.x4) qP lK D.cells ((D.cells (dS f.x1 f.x2 f.x3 f.x4)).set (f.x6.toNat/8) (((D.cells (dS f.x1 f.x2 f.x3 f.x4)).getD (f.x6.toNat/8) 0)^^^(UInt8.ofNat (1*2^(f.x6.toNat%8)))))))] 1 (eU (cq D.cells (dS f.x1 f.x2 f.x3 f.x4) ((D.cells (dS f.x1 f.x2 f.x3 f.x4)).set (f.x6.toNat/8) (((D.cells (dS f.x1 f.x2 f.x3 f.x4)).getD (f.x6.toNat/8) 0)^^^(UInt8.ofNat (1*2^(f.x6.toNat%8)))))) gm) (r0 [] [(4,i6 0)] [4] (ak (i6 0) (.l [] [] [n,o]) (by unfold ia gT;(repeat (first | rw[e] | rw[j] | rw[ALct] | rw[ALcf]))) [0,1,2,3] [] [] (hf:=by unfold kS gT;(repeat (first | rw[e] | rw[j] | rw[ALct] | rw[ALcf]));kernel_rfl))))
 refine r0 [(0,.l 4),(1,.c [] [] (GJ f))] [(60,.bool (iM f))] [] ?_;refine cB (iM f) (λd=>?_) λd=>?_
 ·exact rr (λa=>[(4,.m (ld 0 (n))),(5,.m (ls 4 ([i6 f.x0,i6 f.x1,i6 f.x2,i6 f.x3,i6 f.x4,i6 f.x5,i6 f.x6,i6 f.x7]))),(6,.c [2] [2] (GX n D.X f)),(12,.m (fT 0 2 (dw ((a 6).val 0) (je D.X f)) ((a 6).val 0) λbs h=>aq.one ((λ_ h=>h) bs h)))]) (λ_=>[(4,i6 (kv D.X))]) [4] (λa L=>(L.set 0 (ob g #[iN c.R,iN c.S,iN c.B,iN c.M,iN c.C,iN c.E,.map (some gm),((a 6).val 0),o] 162)).set 2 (dw ((a 6).val 0) (je D.X f))) λa=>r0 [] [(4,i6 (kv D.X))] [4] (ak (i6 (kv D.X)) (.l [] [] [((a 6).val 0),o]) (by unfold ia gT;(repeat (first | rw[e] | rw[j] | rw[d] | rw[ALct] | rw[ALcf]))) [0,1,2,3] [] [] (hf:=by unfold kS gT;(repeat (first | rw[e] | rw[j] | rw[d] | rw[ALct] | rw[ALcf]));kernel_rfl))
 exact rr (λb=>[(4,.m (ld 0 (o))),(5,.m (ls 4 ([i6 f.x0,i6 f.x1,i6 f.x2,i6 f.x3,i6 f.x4,i6 f.x5,i6 f.x6,i6 f.x7]))),(6,.c [3] [3] (GX o D.H f)),(12,.m (fT 0 3 (dw ((b 6).val 0) (je D.H f)) ((b 6).val 0) λbs h=>aq.one ((λ_ h=>h) bs h)))]) (λ_=>[(4,i6 (kv D.H))]) [4] (λb L=>(L.set 0 (ob g #[iN c.R,iN c.S,iN c.B,iN c.M,iN c.C,iN c.E,.map (some gm),n,((b 6).val 0)] 162)).set 3 (dw ((b 6).val 0) (je D.H f))) λb=>r0 [] [(4,i6 (kv D.H))] [4] (ak (i6 (kv D.H)) (.l [] [] [n,((b 6).val 0)]) (by unfold ia gT;(repeat (first | rw[e] | rw[j] | rw[d] | rw[ALcf]))) [0,1,2,3] [] [] (hf:=by unfold kS gT;(repeat (first | rw[e] | rw[j] | rw[d] | rw[ALcf]));kernel_rfl))
end
section
theorem G4{α β:Type}{en:α→List Value}{z:List Value}{T:TypeId}{b:β→List Value}{e:List Value}{c:TypeId}{S:ah→Prop}{L:ah}{ds:List ay}(d:S (L++[.p (aq en z T (.slice none 0 0) ([]:List α)),.p (aq b e c (.slice none 0 0) ([]:List β))]))(h:bq L ds): ∃a,bq [pk S] a∧a.flatten=ds.flatten:=
 ⟨[ds.flatten],⟨⟨_,ds++[[],[]],d,kA h ⟨aq.nil none,aq.nil none,trivial⟩,by simp⟩,trivial⟩,by simp⟩
theorem UR(c:Cf)(a:c8 c):aa ZJ 112 #[.agg #[iN c.R,iN c.S,iN c.B,iN c.M,iN c.C],iN c.E] [] [] (λE=>[pk (gA (E.y 0) c tB)]) (λE=> .tuple #[pt (E.y 0) 0,i6 0]):=(UJ c a).outs λE d b=>G4 ⟨_,_,_,rfl⟩ b
structure Ac where
 wr:Bool
 ix:Int
 wt:Int
 dr:Bool
 ex:Int
 mr:Bool
def e4:Ac:=⟨false,0,0,false,0,false⟩
def AE(x:Ac):List Value:=[.bool x.wr,i6 x.ix,i6 x.wt,.bool x.dr,i6 x.ex,.bool x.mr]
def tF:Kd ZJ Ac:=⟨AE,[.bool false,i6 0,i6 0,.bool false,i6 0,.bool false],142,90,e4,6,λ_=>rfl,rfl,λ_=>rfl,eh.mk' Kr Kr rfl⟩
abbrev lL(v:Value)(xs:List Ac):aA:= .p (aq AE ([.bool false,i6 0,i6 0,.bool false,i6 0,.bool false]) 90 v xs)
def AF(x:Int):Value:= .int .i64 x
abbrev lM(f:Int→Int)(g:Nat):aA:= .p (mb AF 0 f g)
structure Dv where
 D:Dr
 W:Int→List UInt8
 Z:Int→Int
 l:List Ac
abbrev bk(g a:Nat)(c:Cf)(V:Dv)(L:ah):Prop:=∃(gm gk:Nat) (v:Value),L=[ob g #[pt a 0,.map (some gm),.map (some gk),v] 144,pk (gA a c V.D),eU V.W gm,lM V.Z gk,lL v V.l]
structure nO (c:Cf) (V:Dv):Prop where
 D:iO c V.D
 gl: ∀k,(V.W k).length=72
 ll:V.l.length≤900000
def tH:Dv:=⟨tB,λ_=>lK,λ_=>0,[]⟩
def iP(V:Dv)(i:Int)(r:List UInt8)(mk:Int):Dv:=⟨oF V.D i r,cq V.W i r,cq V.Z i mk,V.l++[⟨true,i,aQ V.D i,b8 V.D,0,false⟩]⟩
def m4(c:Cf)(V:Dv)(i:Int):Ac:=⟨false,i,aQ V.D i,b8 V.D,((cI (c.E:Int) (bW c V.D i) (V.W (aQ V.D i)):Nat):Int),bif !(b8 V.D) then V.Z (aQ V.D i)==1 else false⟩
def qR(c:Cf)(V:Dv)(i:Int):Dv:=⟨eu V.D,V.W,V.Z,V.l++[m4 c V i]⟩
def nP(c:Cf)(V:Dv)(f:Fa):Dv:={V with D:=kS c V.D f}
attribute [local irreducible] cI bW aQ b8 gz
theorem US(g b c a:Nat)(v:Value)(f:Int→Int)(i:Int):aa ZJ 150 #[pt g 0,i6 i] [ob g #[pt b 0,.map (some c),.map (some a),v] 144,lM f a] [1] (λ_=>[lM f a]) (λ_=> .bool ((f i)==1)):=by
 exact fG Tryz.func150 λw cs=>r0 [] [(4,.bool false)] [] (r0 [(3,.l 0),(5,.m (mg 1 (lM f a) a i (λ_ h=>h)))] [(4,.bool ((f i)==1))] [4] (lf ab.zero [1] [(0,0)] []))
theorem AG(g a:Nat)(c:Cf)(V:Dv):aa ZJ 36 #[pt g 0] [pk (bk g a c V)] [0] (λ_=>[pk (bk g a c V)]) (λ_=>pt a 0):=aa.pkZ Tryz.func36 λL d=>by
 obtain⟨gm,b,v,rfl⟩:=d;refine⟨[1,2,3,4],λ_=>[pk (gA a c V.D),eU V.W gm,lM V.Z b,lL v V.l],?_,rfl,λE=>⟨rfl,rfl,⟨_,_,_,rfl⟩⟩⟩;exact fG Tryz.func36 λw cs=>r0 [] [(2,.pointer none)] [] (r0 [(3,.l 0)] [(2,pt a 0)] [2] (lf ab.zero [1,2,3,4] [(0,0)] []))
theorem UT(g a:Nat)(c:Cf)(V:Dv):aa ZJ 42 #[pt g 0] [pk (bk g a c V)] [0] (λ_=>[pk (bk g a c V)]) (λ_=>iN V.l.length):=aa.pkZ Tryz.func42 λL d=>by
 obtain⟨gm,b,v,rfl⟩:=d;refine⟨[1,2,3,4],λ_=>[pk (gA a c V.D),eU V.W gm,lM V.Z b,lL v V.l],?_,rfl,λE=>⟨rfl,rfl,⟨_,_,_,rfl⟩⟩⟩;exact fG Tryz.func42 λw cs=>r0 [] [(2,i6 0)] [] (r0 [(3,.l 0),(4,fw tF v V.l 4)] [(2,iN V.l.length)] [2] (lf ab.zero [1,2,3,4] [(0,0)] []))
theorem UU(g a:Nat)(c:Cf)(d:c8 c)(V:Dv)(i:nO c V)(f:Fa):aa ZJ 90 #[pt g 0,.agg #[i6 f.x0,i6 f.x1,i6 f.x2,i6 f.x3,i6 f.x4,i6 f.x5,i6 f.x6,i6 f.x7]] [pk (bk g a c V)] [0] (λ_=>[pk (bk g a c (nP c V f))]) (λ_=>i6 (ia c V.D f)):=aa.pkZ Tryz.func90 λL h=>by
 obtain⟨gm,e,v,rfl⟩:=h;refine⟨[1,2,3,4],λ_=>[pk (gA a c (kS c V.D f)),eU V.W gm,lM V.Z e,lL v V.l],?_,rfl,λE=>⟨rfl,rfl,⟨_,_,_,rfl⟩⟩⟩;exact fG Tryz.func90 λw cs=>ra (λb=>[(3,pt (B0 b) 0),(4,i6 0)]) (λb=>[ob (B0 b) #[i6 f.x0,i6 f.x1,i6 f.x2,i6 f.x3,i6 f.x4,i6 f.x5,i6 f.x6,i6 f.x7] 48]) λb=>rr (λ_=>[(3,.l 0),(4,.l 5),(5,.c [1] [1] (UQ a c d V.D i.D f))]) (λ_=>[(4,i6 (ia c V.D f))]) [4] (λ_ L=>L.set 1 ((pk (gA a c (kS c V.D f))))) λj=>lf ab.zero [1,2,3,4] [(0,0)] []
theorem G5(g a:Nat)(c:Cf)(j:c8 c)(V:Dv)(n:nO c V)(i:Int)(k:gz c.R c.S c.B c.M c.C i=true)(r:List UInt8)(o:r.length=72)(mk:Int):aa ZJ 162 #[pt g 0,i6 i,.agg (rB 72 r).toArray,i6 mk] [pk (bk g a c V)] [0] (λ_=>[pk (bk g a c (iP V i r mk))]) (λ_=>i6 0):=aa.pkZ Tryz.func162 λL p=>by
 obtain⟨gm,d,v,rfl⟩:=p;refine⟨[0,1,2,3,4],λE=>[ob g #[pt a 0,.map (some gm),.map (some d),(E.val 0)] 144,pk (gA a c (oF V.D i r)),eU (cq V.W i r) gm,lM (cq V.Z i mk) d,lL (E.val 0) (V.l++([(⟨true,i,(aQ V.D i),b8 V.D,0,false⟩:Ac)]))],?_,rfl,λE=>⟨rfl,rfl,⟨_,_,_,rfl⟩⟩⟩;have q:=n.ll;exact fG Tryz.func162 λw cs=>ra (λe=>[(6,pt (B0 e) 0),(8,i6 0)]) (λe=>[ob (B0 e) (rB 72 r).toArray 217]) λe=>rr (λ_=>[(0,.v (pt g 0)),(1,.v (pt g 0)),(2,.v (pt g 0)),(3,.m (ld 0 (pt a 0))),(4,.v (i6 i)),(5,.m (ls 5 (rB 72 r))),(6,.c [1] [1] (UO a c j V.D n.D i k r (by(simp only[LL,o,o];done)))),(7,.v (.tuple #[.agg #[i6 (aQ V.D i),.bool (b8 V.D)],i6 0])),(8,.v (.agg #[i6 (aQ V.D i),.bool (b8 V.D)])),(9,.v (i6 0)),(10,.m (al 6)),(11,.s 6),(12,.v (i6 0))]) (λf=>[(9,pt ((f 10).y 0) 0),(10,i6 0)]) [] (λf L=>L.set 1 ((pk (gA a c (oF V.D i r))))++[ob ((f 10).y 0) #[i6 (aQ V.D i),.bool (b8 V.D)] 88]) λf=>rF [] 22 (rs [(3,.l 0),(5,.l 5),(6,.m (mu 2 gm i qP lK V.W r))] 2 (eU (cq V.W i r) gm) (rs [(3,.l 0),(6,.m (mu 3 d i AF 0 V.Z mk))] 3 (lM (cq V.Z i mk) d) (rr (λb=>[(0,.v (pt g 0)),(1,.v (pt g 0)),(2,.v (pt g 0)),(3,.v (pt g 3)),(4,.m (ld 0 (v))),(5,.v (i6 i)),(6,.m (ls 6 ([i6 (aQ V.D i),.bool (b8 V.D)]))),(7,.v (.agg #[.bool true,i6 i,i6 (aQ V.D i),.bool (b8 V.D),i6 0,.bool false])),(8,.m (bs 7 1)),(9,fF tF (v) V.l 4 7 ([(⟨true,i,(aQ V.D i),b8 V.D,0,false⟩:Ac)])),(10,.v (pt g 0)),(11,.v (pt g 3)),(12,.m (fT 0 4 (lL ((b 9).val 0) (V.l++([(⟨true,i,(aQ V.D i),b8 V.D,0,false⟩:Ac)]))) ((b 9).val 0) λbs h=>aq.one ((λ_ h=>h) bs h)))]) N0 [] (λb L=>(L.set 0 (ob g #[pt a 0,.map (some gm),.map (some d),(b 9).val 0] 144)).set 4 (lL ((b 9).val 0) (V.l++([(⟨true,i,(aQ V.D i),b8 V.D,0,false⟩:Ac)])))++[ob ((b 8).y 0) #[.bool true,i6 i,i6 (aQ V.D i),.bool (b8 V.D),i6 0,.bool false] 90]) λb=>r0 [] [(8,i6 0)] [8] (lf (.l [] [] [(b 9).val 0]) [0,1,2,3,4] [] []))))
theorem UW(g a:Nat)(c:Cf)(d:c8 c)(V:Dv)(h:nO c V)(i:Int)(e:gz c.R c.S c.B c.M c.C i=true)(r:List UInt8)(f:r.length=72):aa ZJ 127 #[pt g 0,i6 i,.agg (rB 72 r).toArray] [pk (bk g a c V)] [0] (λ_=>[pk (bk g a c (iP V i r 0))]) (λ_=>i6 0):=by
 exact fG Tryz.func127 λw cs=>ra (λb=>[(5,pt (B0 b) 0),(6,i6 0)]) (λb=>[ob (B0 b) (rB 72 r).toArray 217]) λb=>rr (λ_=>[(2,.l 1),(3,.c [0] [0] (G5 g a c d V h i e r (by(simp only[LL,f,f];done)) 0))]) (λ_=>[(6,i6 0)]) [6] (λ_ L=>L.set 0 ((pk (bk g a c (iP V i r 0))))) λj=>lf ab.zero [0] [] []
theorem UX(g a:Nat)(c:Cf)(d:c8 c)(V:Dv)(h:nO c V)(i:Int)(e:gz c.R c.S c.B c.M c.C i=true)(r:List UInt8)(f:r.length=72):aa ZJ 126 #[pt g 0,i6 i,.agg (rB 72 r).toArray] [pk (bk g a c V)] [0] (λ_=>[pk (bk g a c (iP V i r 1))]) (λ_=>i6 0):=by
 exact fG Tryz.func126 λw cs=>ra (λb=>[(5,pt (B0 b) 0),(6,i6 0)]) (λb=>[ob (B0 b) (rB 72 r).toArray 217]) λb=>rr (λ_=>[(2,.l 1),(3,.c [0] [0] (G5 g a c d V h i e r (by(simp only[LL,f,f];done)) 1))]) (λ_=>[(6,i6 0)]) [6] (λ_ L=>L.set 0 ((pk (bk g a c (iP V i r 1))))) λj=>lf ab.zero [0] [] []
theorem UY(g a:Nat)(c:Cf)(p:c8 c)(V:Dv)(q:nO c V)(i:Int)(r:gz c.R c.S c.B c.M c.C i=true):aa ZJ 123 #[pt g 0,i6 i] [pk (bk g a c V)] [0] (λ_=>[pk (bk g a c (qR c V i))]) (λ_=> .tuple #[.agg (rB 72 (bW c V.D i)).toArray,i6 0]):=aa.pkZ Tryz.func123 λL u=>by
 obtain⟨gm,o,v,rfl⟩:=u;refine⟨[0,1,2,3,4],λE=>[ob g #[pt a 0,.map (some gm),.map (some o),(E.val 0)] 144,pk (gA a c (eu V.D)),eU V.W gm,lM V.Z o,lL (E.val 0) ((qR c V i).l)],?_,rfl,λE=>⟨rfl,rfl,⟨_,_,_,rfl⟩⟩⟩;have x:=q.ll;have f:=mx q.D i;have e:=q.gl (aQ V.D i);have y:=p.E;refine fG Tryz.func123 λw cs=>ra (λn=>[(4,pt (B0 n) 0),(5,i6 0)]) (λn=>[ob (B0 n) (rB 72 (ZK 72 0)).toArray 217]) λn=>rr (λ_=>[(0,.v (pt g 0)),(1,.v (pt g 0)),(2,.v (pt g 0)),(3,.m (ld 0 (pt a 0))),(4,.v (i6 i)),(5,.c [1] [1] (UP a c p V.D q.D i r)),(6,.v (.tuple #[.agg (rB 72 (bW c V.D i)).toArray,.agg #[i6 (aQ V.D i),.bool (b8 V.D)],i6 0])),(7,.v (.agg (rB 72 (bW c V.D i)).toArray)),(8,.v (.agg #[i6 (aQ V.D i),.bool (b8 V.D)])),(9,.v (i6 0)),(10,.m (al 6)),(11,.m (al 7)),(12,.s 6),(13,.s 7),(14,.v (i6 0))]) (λb=>[(6,pt ((b 10).y 0) 0),(7,pt ((b 11).y 0) 0),(8,i6 0)]) [] (λb L=>L.set 1 ((pk (gA a c (eu V.D))))++[ob ((b 10).y 0) (rB 72 (bW c V.D i)).toArray 217,ob ((b 11).y 0) #[i6 (aQ V.D i),.bool (b8 V.D)] 88]) λb=>rF [] 20 ?_;cases t:(b8 V.D)
 case true=>
  exact rr (λj=>[(0,.v (pt g 0)),(1,.v (pt g 0)),(2,.v (pt g 0)),(3,.v (pt g 3)),(4,.m (ld 0 (v))),(5,.v (i6 i)),(6,.m (ls 7 ([i6 (aQ V.D i),.bool true]))),(7,.v (pt g 0)),(8,.v (pt g 0)),(9,.v (pt g 0)),(10,.m (ld 0 (pt a 0))),(11,.c [1] [1] (AA a c (eu V.D))),(12,.m (ls 6 (rB 72 (bW c V.D i)))),(13,.v (pt g 0)),(14,.v (pt g 0)),(15,.v (pt g 1)),(16,.m (ld 0 (.map (some gm)))),(17,.v (pt ((b 11).y 0) 0)),(18,.m (ld 7 (i6 (aQ V.D i)))),(19,.m (mg 2 (eU V.W gm) gm (aQ V.D i) (λ_ h=>h))),(20,.c [] [] (GU c.E Om (bW c V.D i) (V.W (aQ V.D i)) (by(simp only[LL,f,e];done)) (by(simp only[LL,f,e];done)))),(21,.v (pt ((b 11).y 0) 1)),(22,.m (ld 7 (.bool true))),(23,.v (.bool false)),(24,.v (.bool false)),(25,.d),(26,.d),(27,.d),(28,.d),(30,.v (.agg #[.bool false,i6 i,i6 (aQ V.D i),.bool true,iN (cI (c.E:Int) (bW c V.D i) (V.W (aQ V.D i))),.bool false])),(31,.m (bs 8 1)),(32,fF tF (v) V.l 4 8 ([(⟨false,i,(aQ V.D i),true,((cI (c.E:Int) (bW c V.D i) (V.W (aQ V.D i)):Nat):Int),false⟩:Ac)])),(33,.v (pt g 0)),(34,.v (pt g 3)),(35,.m (fT 0 4 (lL ((j 32).val 0) (V.l++([(⟨false,i,(aQ V.D i),true,((cI (c.E:Int) (bW c V.D i) (V.W (aQ V.D i)):Nat):Int),false⟩:Ac)]))) ((j 32).val 0) λbs h=>aq.one ((λ_ h=>h) bs h)))]) N0 [] (λj L=>(L.set 0 (ob g #[pt a 0,.map (some gm),.map (some o),(j 32).val 0] 144)).set 4 (lL ((j 32).val 0) (V.l++([(⟨false,i,(aQ V.D i),true,((cI (c.E:Int) (bW c V.D i) (V.W (aQ V.D i)):Nat):Int),false⟩:Ac)])))++[ob ((j 31).y 0) #[.bool false,i6 i,i6 (aQ V.D i),.bool true,iN (cI (c.E:Int) (bW c V.D i) (V.W (aQ V.D i))),.bool false] 90]) λj=>rr (λ_=>[(0,.l 6),(1,.s 5)]) (λ_=>[(5,i6 0)]) [5] (λ_ L=>L.set 5 (ob (B0 n) (rB 72 (bW c V.D i)).toArray 217)) λz=>lf (.l [] [] [(j 32).val 0]) [0,1,2,3,4] [] [5] (hf:=by unfold qR m4;(repeat (rw[t]));kernel_rfl)
 exact rr (λk=>[(0,.v (pt g 0)),(1,.v (pt g 0)),(2,.v (pt g 0)),(3,.v (pt g 3)),(4,.m (ld 0 (v))),(5,.v (i6 i)),(6,.m (ls 7 ([i6 (aQ V.D i),.bool false]))),(7,.v (pt g 0)),(8,.v (pt g 0)),(9,.v (pt g 0)),(10,.m (ld 0 (pt a 0))),(11,.c [1] [1] (AA a c (eu V.D))),(12,.m (ls 6 (rB 72 (bW c V.D i)))),(13,.v (pt g 0)),(14,.v (pt g 0)),(15,.v (pt g 1)),(16,.m (ld 0 (.map (some gm)))),(17,.v (pt ((b 11).y 0) 0)),(18,.m (ld 7 (i6 (aQ V.D i)))),(19,.m (mg 2 (eU V.W gm) gm (aQ V.D i) (λ_ h=>h))),(20,.c [] [] (GU c.E Om (bW c V.D i) (V.W (aQ V.D i)) (by(simp only[LL,f,e];done)) (by(simp only[LL,f,e];done)))),(21,.v (pt ((b 11).y 0) 1)),(22,.m (ld 7 (.bool false))),(23,.v (.bool true)),(24,.v (.bool true)),(25,.v (pt g 0)),(26,.v (pt ((b 11).y 0) 0)),(27,.m (ld 7 (i6 (aQ V.D i)))),(28,.c [0,3] [3] (US g a gm o v V.Z (aQ V.D i))),(30,.v (.agg #[.bool false,i6 i,i6 (aQ V.D i),.bool false,iN (cI (c.E:Int) (bW c V.D i) (V.W (aQ V.D i))),.bool ((V.Z (aQ V.D i))==1)])),(31,.m (bs 8 1)),(32,fF tF (v) V.l 4 8 ([(⟨false,i,(aQ V.D i),false,((cI (c.E:Int) (bW c V.D i) (V.W (aQ V.D i)):Nat):Int),(V.Z (aQ V.D i))==1⟩:Ac)])),(33,.v (pt g 0)),(34,.v (pt g 3)),(35,.m (fT 0 4 (lL ((k 32).val 0) (V.l++([(⟨false,i,(aQ V.D i),false,((cI (c.E:Int) (bW c V.D i) (V.W (aQ V.D i)):Nat):Int),(V.Z (aQ V.D i))==1⟩:Ac)]))) ((k 32).val 0) λbs h=>aq.one ((λ_ h=>h) bs h)))]) N0 [] (λk L=>(L.set 0 (ob g #[pt a 0,.map (some gm),.map (some o),(k 32).val 0] 144)).set 4 (lL ((k 32).val 0) (V.l++([(⟨false,i,(aQ V.D i),false,((cI (c.E:Int) (bW c V.D i) (V.W (aQ V.D i)):Nat):Int),(V.Z (aQ V.D i))==1⟩:Ac)])))++[ob ((k 31).y 0) #[.bool false,i6 i,i6 (aQ V.D i),.bool false,iN (cI (c.E:Int) (bW c V.D i) (V.W (aQ V.D i))),.bool ((V.Z (aQ V.D i))==1)] 90]) λk=>rr (λ_=>[(0,.l 6),(1,.s 5)]) (λ_=>[(5,i6 0)]) [5] (λ_ L=>L.set 5 (ob (B0 n) (rB 72 (bW c V.D i)).toArray 217)) λA=>lf (.l [] [] [(k 32).val 0]) [0,1,2,3,4] [] [5] (hf:=by unfold qR m4;(repeat (rw[t]));kernel_rfl)
end
theorem UZ(c:Cf)(e:c8 c):aa ZJ 81 #[.agg #[iN c.R,iN c.S,iN c.B,iN c.M,iN c.C],iN c.E] [] [] (λE=>[ob (E.y 0) #[pt ((E.y 1)) 0,.map (some (E.y 2)),.map (some (E.y 3)),.slice none 0 0] 144,pk (gA (E.y 1) c tB),eU (λ_=>lK) (E.y 2),lM (λ_=>0) (E.y 3)]) (λE=> .tuple #[pt ((E.y 0)) 0,i6 0]):=by
 exact fG Tryz.func81 λw cs=>ra (λd=>[(2,pt (B0 d) 0),(4,.pointer none),(5,i6 0)]) (λd=>[ob (B0 d) #[iN c.R,iN c.S,iN c.B,iN c.M,iN c.C] 23]) λd=>rr (λ_=>[(0,.l 0),(2,.c [] [1] (UR c e))]) (λb=>[(6,pt ((B2 b)) 0),(7,i6 0)]) [] (λb L=>L++[pk (gA (B2 b) c tB)]) λb=>rF [] 15 (rr (λ_=>[(1,.m (mm 2 qP lK)),(2,.m (mm 3 AF 0))]) (λa=>[(4,pt (B4 a) 0),(5,i6 0)]) [4,5] (λa L=>L++[eU (λ_=>lK) (B1 a),lM (λ_=>0) (B2 a),ob (B4 a) #[pt ((B2 b)) 0,.map (some (B1 a)),.map (some (B2 a)),.slice none 0 0] 144]) λa=>lf (.l [(a 4).y 0,(B2 b),(a 1).y 0,(a 2).y 0] [] []) [4,1,2,3] [] [])
theorem U0(n:Nat):max (n:Int) 0=((n+0:Nat):Int):=by omega
theorem U1(c d g h j i n:Nat)(v:Value)(l:List Ac)(bs:ay)(f:aK AE v l bs)(G:l.length≤1000000)(u:n≤1000000):fv 5 ZJ 60 #[pt c 0,pt d 0] (λ(x:Nat×Ac)=>#[i6 (x.1:Int),.agg #[.bool (x.2.wr),i6 (x.2.ix),i6 (x.2.wt),.bool (x.2.dr),i6 (x.2.ex),.bool (x.2.mr)]]) ((Z5 (l.length-n)).map λk=>(n+k,l.getD (n+k) e4)) (aaA [[(c,.cells #[iN n] 3 (0,0))],[(d,.cells #[pt g 0] 84 (0,0))],[(g,.cells #[pt h 0,.map (some j),.map (some i),v] 144 (0,0))],bs]):=by
 refine gi (KO:=[[(c,.cells #[iN n] 3 (0,0))],[(d,.cells #[pt g 0] 84 (0,0))],[(g,.cells #[pt h 0,.map (some j),.map (some i),v] 144 (0,0))],bs]) Tryz.func60 (λw z y F C m r q=>?_);refine r0 [(0,.l 0),(1,.t (tv (Builtin.max_ #[3,3] 3 #[iN n,i6 0]) (λ_=>se _ _ _ _)))] [(4,i6 (max (n:Int) 0))] [] ?_;refine kd (λk=>k≤(l.length-n)) (λk=>[(4,iN (n+k))]) (λ_ L=>L) (λk=>(l.length-n)-k) (λk=>k) 0 Om q (by rw[U0];kernel_rfl) Kr (λk A D s b=>?_);refine r0 [(1,.l 1),(4,.l 2),(5,eG f.1 3)] [(13,.bool (decide (((n+k:Nat):Int)<(l.length:Int))))] [] ?_;refine cj ((n+k:Nat):Int) (l.length:Int) (λp e=>?_) λp e=>?_
 ·refine iy m r b 9 (λ_=>[(2,.l 1),(5,.l 2),(7,fx f.1 3 (n+k) 6),(8,nm tF f.1 3 (n+k) 0 6)]) (λ_=>[(16,.func (.yield w) #[] #[]),(17,iN (n+k)),(24,.agg #[.bool ((l.getD (n+k) e4).wr),i6 ((l.getD (n+k) e4).ix),i6 ((l.getD (n+k) e4).wt),.bool ((l.getD (n+k) e4).dr),i6 ((l.getD (n+k) e4).ex),.bool ((l.getD (n+k) e4).mr)])]) [] (λ_ L=>L) N0 [0,1,2,3] (oP Om) (λH B o a=>?_);refine cF _ rfl (r0 [(1,ad (n+k) 1)] [(4,iN ((n+k)+1))] [4] ?_);exact iT (k+1) Om a Om Kr [0,1,2,3] Kr
 refine ke ?_;exact k9 m b (by(rw[ZU,Z6];omega)) [] [0,1,2,3]
theorem U2(g n:Nat):aa ZJ 31 #[pt g 0,iN n] [] [] (λE=>[ob (E.y 0) #[iN n] 3,ob (E.y 1) #[pt g 0] 84]) (λE=> .func (.func 60) #[] #[pt ((E.y 0)) 0,pt ((E.y 1)) 0]):=by
 exact fG Tryz.func31 λw cs=>ra (λa=>[(2,pt (B0 a) 0),(3,pt (B1 a) 0),(4,.nilFunc)]) (λa=>[ob (B0 a) #[pt g 0] 84,ob (B1 a) #[iN n] 3]) λa=>r0 [] [(4,.func (.func 60) #[] #[pt (B1 a) 0,pt (B0 a) 0])] [4] (lf (.l [(a 1).y 0,(a 0).y 0] [] []) [1,0] [] [])
def mA(a:Ac):Bool:=a.dr||(a.wt != a.ix)
theorem U3(x:Ac):aa ZJ 32 #[.agg #[.bool x.wr,i6 x.ix,i6 x.wt,.bool x.dr,i6 x.ex,.bool x.mr]] [] [] N0 (λ_=> .bool (mA x)):=by
 exact fG Tryz.func32 λw cs=>ra (λa=>[(1,pt (B0 a) 0),(2,.bool false)]) (λa=>[ob (B0 a) #[.bool x.wr,i6 x.ix,i6 x.wt,.bool x.dr,i6 x.ex,.bool x.mr] 90]) λa=>r0 [(0,.v (pt (B0 a) 2)),(1,.v (pt (B0 a) 3)),(2,.m (ld 0 (.bool x.dr))),(3,.v (.bool x.dr)),(4,.v (pt (B0 a) 2)),(5,.v (pt (B0 a) 2)),(6,.m (ld 0 (i6 x.wt))),(7,.v (pt (B0 a) 1)),(8,.m (ld 0 (i6 x.ix))),(9,.v (.bool (x.wt != x.ix))),(11,.v (.bool (x.dr||(x.wt != x.ix))))] [(2,.bool (x.dr||(x.wt != x.ix)))] [2] (ak (.bool (x.dr||(x.wt != x.ix))) ab.zero a9 [] [] [])
theorem U4(c:Cf)(a:c8 c):aa ZJ 81 #[.agg #[iN c.R,iN c.S,iN c.B,iN c.M,iN c.C],iN c.E] [] [] (λE=>[pk (bk (E.y 0) (E.y 1) c tH)]) (λE=> .tuple #[pt (E.y 0) 0,i6 0]):=(UZ c a).outs λE d b=>Ad (S:=bk (E.y 0) (E.y 1) c tH) ⟨_,_,_,rfl⟩ b
theorem fv.mono{α:Type}{n:Nat}{P:Program}{j:Nat}{k:Array Value}{encs:α→Array Value}{xs:List α}{KO a:ay}(h:fv n P j k encs xs KO)(hs:KO.Sublist a):fv n P j k encs xs a:=by
 intro l J m W O c t g u v r;refine h l J m W O ⟨λx d=>c.obj x (hs.subset d),c.nd.sublist hs⟩ t g u (λi x p q d z B=>(v i x p q d z B).mono λe C y=>?_) r;obtain⟨o,f,s⟩:=y;exact⟨o,⟨f.size,f.old,f.new,λb w A=>f.keep b w (A.imp id λ⟨x,d,e⟩=>⟨x,hs.subset d,e⟩)⟩,s⟩
section
section
variable {P:Program} {f:FuncId} {args:Array Value} {rd:ah} {wt:ab→ah} {v:ab→Value}
theorem aa.sub(h:aa P f args rd [] wt v){L:ah}(js:List Nat)(d:(dp js,js.map λj=>L[j]?)=(true,rd.map some)):aa P f args L [] wt v:=by
 have r:=nW (ALca (·.1) d);have d:=ALca (·.2) d;simp only at d;refine⟨h.ent,λw cs p o=>?_⟩;have n:=rU o.nd;have q: ∀(js:List Nat) (rd:ah),js.map (λj=>L[j]?)=rd.map some→bq rd (js.map λj=>cs.getD j []):=by
  intro js
  induction js with
  | nil=>intro rd e;cases rd with
   | nil=>trivial
   | cons x rd=>cases e
  | cons j js ih=>intro rd e;cases rd with
   | nil=>cases e
   | cons x rd=>
    rw[aaz,aaz,List.cons.injEq] at e;exact⟨nc p e.1,ih rd e.2⟩
 have k: ∀j∈js,j<cs.length:=by
  intro j c;have:L[j]?∈js.map λj=>L[j]? :=List.mem_map_of_mem c;rw[d] at this;obtain⟨x,_,e⟩:=List.mem_map.1 this;rw[←jO p];exact(List.getElem?_eq_some_iff.1 e.symm).1
 have:=h.out w (js.map λj=>cs.getD j []) (q js rd d) ⟨λy m=>?_,?_⟩
 ·simpa using this
 ·obtain⟨l,i,m⟩:=List.mem_flatten.1 m;obtain⟨j,c,rfl⟩:=List.mem_map.1 i;exact o.obj y (List.mem_flatten.2 ⟨_,nX (k j c),m⟩)
 ·refine List.pairwise_flatten.2 ⟨λl i=>?_,?_⟩
  ·obtain⟨j,_,rfl⟩:=List.mem_map.1 i;exact n.1 j
  ·exact List.Pairwise.map _ (λa b g=>n.2 a b g) r
end
abbrev dO(g:Nat)(L:ah):Prop:=∃(b a f:Nat) (u:Value),L=[ob g #[pt b 0,pt a 0] 242,ob b (rB 74 (Zv 10)++rI 256 (bJ 10)).toArray 298,ob a #[pt f 0,u] 309,ob f (rB 255 aR++rN 256 aY).toArray 312,bB u cH]
theorem U5:aa ZJ 115 #[] [] [] (λE=>[pk (dO (E.y 0))]) (λE=>pt (E.y 0) 0):=Ou.outs λE b a=>td (S:=dO (E.y 0)) ⟨_,_,_,_,rfl⟩ a
def eO(m:Nat)(l:List UInt8)(x:Int)(p:Bool):List UInt8:=if m=1 then bS 9 (eZ l x p) 8 else bS 36 (eH l x p) 2
theorem qS(m:Nat){l:List UInt8}(a:l.length=64)(x:Int)(p:Bool):(eO m l x p).length=72:=by
 unfold eO
 split
 ·exact ou (ow l x p) Dc
 ·exact ou (pj a x p) Dc
def m5(m:Nat)(xs:List UInt8)(x:Int):List UInt8:=if m=1 then pf xs x else ph xs x
def nQ(m:Nat)(xs:List UInt8)(x:Int):List Int:=if m=1 then(Z5 8).map (dK xs x) else(Z5 2).map (cK xs x)
def j6(m:Nat)(xs:List UInt8)(x:Int):Nat:=(jK (nQ m xs x)).toNat
def ib(m:Nat)(xs:List UInt8)(x:Int):Nat:=(gH (nQ m xs x)).toNat
theorem U6(xs:List UInt8)(x:Int)(k:Nat):dK xs x k≤3:=by
 unfold dK ko;generalize dn _ _=z;cases z==0<;>cases z==1<;>cases z==2<;>cases z==3<;>decide
theorem U7(m:Nat)(xs:List UInt8)(x:Int):j6 m xs x≤3:=by
 have h:jK (nQ m xs x)≤3:=EX Dc λy a=>by
  unfold nQ at a
  split at a
  ·obtain⟨k,_,rfl⟩:=List.mem_map.1 a;exact U6 xs x k
  ·obtain⟨k,_,rfl⟩:=List.mem_map.1 a;exact Qg xs x k
 unfold j6;omega
theorem U8(m:Nat)(xs:List UInt8)(x:Int):((j6 m xs x:Nat):Int)=jK (nQ m xs x):=aan (EW _)
theorem U9(m:Nat)(xs:List UInt8)(x:Int):((ib m xs x:Nat):Int)=gH (nQ m xs x):=by
 refine aan ?_;unfold gH;cases jK (nQ m xs x) != 1
 ·exact(Ek _).1
 ·exact Int.le_refl _
theorem Va(m:Nat)(e:m=1∨m=2)(g:Nat)(l:List UInt8)(c:l.length=64)(x:Int)(h0: -9223372036854775808≤x)(h1:x≤9223372036854775807)(p:Bool):aa ZJ 125 #[pt g 0,iN m,.agg (rB 64 l).toArray,i6 x,.bool p] [pk (dO g)] [] N0 (λ_=> .agg (rB 72 (eO m l x p)).toArray):=by
 refine aa.pkR (rest:=[]) (enters_of Tryz.func125 Kr rfl) λL d=>?_;obtain⟨b,a,f,u,rfl⟩:=d;unfold eO;rcases e with rfl | rfl
 ·exact(OX g b a l c x p).sub [0,1] rfl
 ·exact(aa.at (rd':=[ob g #[pt b 0,pt a 0] 242,ob a #[pt f 0,u] 309,ob f (rB 255 aR++rN 256 aY).toArray 312,bB u cH]) (OY g b a f u l c x h0 h1 p) (atS (atS (atS (bM (λ_ h=>aq.sq h) λ_ h=>h))))).sub [0,2,3,4] rfl
theorem Vb(m:Nat)(e:m=1∨m=2)(g:Nat)(xs:List UInt8)(c:xs.length=72)(x:Int)(h0: -9223372036854775808≤x)(h1:x≤9223372036854775807):aa ZJ 124 #[pt g 0,iN m,.agg (rB 72 xs).toArray,i6 x] [pk (dO g)] [] N0 (λ_=> .tuple #[.agg (rB 64 (m5 m xs x)).toArray,.agg #[i6 ((j6 m xs x:Nat):Int),i6 ((ib m xs x:Nat):Int)]]):=by
 refine aa.pkR (rest:=[]) (enters_of Tryz.func124 Kr rfl) λL d=>?_;obtain⟨b,a,f,u,rfl⟩:=d;rw[U8,U9];unfold m5 nQ;rcases e with rfl | rfl
 ·exact(OU g b a xs c x).sub [0,1] rfl
 ·exact(aa.at (rd':=[ob g #[pt b 0,pt a 0] 242,ob a #[pt f 0,u] 309,ob f (rB 255 aR++rN 256 aY).toArray 312,bB u cH]) (OV g b a f u xs c x h0 h1) (atS (atS (atS (bM (λ_ h=>aq.sq h) λ_ h=>h))))).sub [0,2,3,4] rfl
theorem Vc(j d b a l m o:Nat)(c:Cf)(s:Le)(K:Nat)(hs:da s K)(t:K+3≤1000000000)(q:c.J≤65536)(n:Nt)(p:n.v≤3)(e:n.r<s.r.m.R)(u:n.h<s.r.m.R*s.r.m.B*s.r.m.M):aa ZJ 163 #[pt j 0,.agg #[i6 1,iN n.v,iN n.f,iN n.i,iN n.h,iN n.r]] [ob j (lA c d b a s.time) 122,pk (ar d l m s.r),pk (aD b o s.k),pk (az a s.g)] [1,2,3] (λ_=>[pk (ar d l m (dA c.J s n).r),pk (aD b o (dA c.J s n).k),pk (az a (dA c.J s n).g)]) (λ_=> .tuple #[]):=by
 obtain⟨k,v,f,i,h,r⟩:=n;simp only at p e u
 match v,p with
 | 0,_=>exact Ub j d b a l m o c s K hs i h r f
 | 1,_=>exact T9 j d b a l m o c s K hs t q i h r f e u
 | 2,_=>exact Uc j d b a l m o c s K hs t i h r f
 | 3,_=>exact Ua j d b a l m o c s K hs t q i h r f e u
theorem Ve(t m j i n o p:Nat)(c:Cf)(s:Le)(K:Nat)(hs:da s K)(z:K+3≤1000000000)(y:c.J≤65536)(d e h a b:Nat)(u:d≤3)(x:b<s.r.m.R)(A:a<s.r.m.R*s.r.m.B*s.r.m.M):aa ZJ 128 #[pt t 0,.agg #[i6 1,iN d,iN e,iN h,iN a,iN b]] [ob t (lA c m j i s.time) 122,pk (ar m n o s.r),pk (aD j p s.k),pk (az i s.g)] [1,2,3] (λ_=>[pk (ar m n o (dA c.J s (⟨1,d,e,h,a,b⟩:Nt)).r),pk (aD j p (dA c.J s (⟨1,d,e,h,a,b⟩:Nt)).k),pk (az i (dA c.J s (⟨1,d,e,h,a,b⟩:Nt)).g)]) (λ_=> .tuple #[]):=by
 refine fG Tryz.func128 λw cs=>ra (λq=>[(3,pt (B0 q) 0)]) (λq=>[ob (B0 q) #[i6 1,iN d,iN e,iN h,iN a,iN b] 81]) λq=>r0 [(1,.l 4)] [(8,i6 1)] [] (rT [] 9 (rr (λ_=>[(1,.l 4),(2,.c [0,1,2,3] [1,2,3] (Vc t m j i n o p c s K hs z y (⟨1,d,e,h,a,b⟩:Nt) u x A))]) N0 [] (λ_ L=>((L.set 1 ((pk (ar m n o (dA c.J s (⟨1,d,e,h,a,b⟩:Nt)).r)))).set 2 ((pk (aD j p (dA c.J s (⟨1,d,e,h,a,b⟩:Nt)).k)))).set 3 ((pk (az i (dA c.J s (⟨1,d,e,h,a,b⟩:Nt)).g)))) λB=>?_));exact eF ab.zero [1,2,3] [(0,0)] []
theorem Vf(e d a b i j g:Nat)(c:Cf)(s:Le)(K:Nat)(hs:da s K)(k:s.time≤1000000000000000):aa ZJ 128 #[pt e 0,.agg #[i6 2,i6 0,i6 0,i6 0,i6 0,i6 0]] [ob e (lA c d a b s.time) 122,pk (ar d i j s.r),pk (aD a g s.k),pk (az b s.g)] [0,1,2,3] (λ_=>[ob e (lA c d a b ((s.time+1:Nat))) 122,pk (ar d i j s.r),pk (aD a g (mZ s.k)),pk (az b s.g)]) (λ_=> .tuple #[]):=by
 refine fG Tryz.func128 λw cs=>ra (λh=>[(3,pt (B0 h) 0)]) (λh=>[ob (B0 h) #[i6 2,i6 0,i6 0,i6 0,i6 0,i6 0] 81]) λh=>r0 [(1,.l 4)] [(8,i6 2)] [] (rF [] 9 (rT [] 14 (rs [(3,.l 0),(4,ad s.time 1),(7,.s 0)] 0 (ob e (lA c d a b ((s.time+1:Nat))) 122) (rs [(3,.l 0),(4,.c [2] [2] (To a g s.k hs.k))] 2 ((pk (aD a g (mZ s.k)))) ?_))));exact eF ab.zero [0,1,2,3] [] []
theorem Vg(q a n j d i p:Nat)(c:Cf)(s:Le)(K:Nat)(hs:da s K)(C:K+257≤1000000000)(u:s.r.j.A≠0)(x:s.r.j.nx<eJ s.r.j.A s.r.m.B s.r.m.M s.r.m.C):aa ZJ 128 #[pt q 0,.agg #[i6 3,i6 0,i6 0,i6 0,i6 0,i6 0]] [ob q (lA c a n j s.time) 122,pk (ar a d i s.r),pk (aD n p s.k),pk (az j s.g)] [1,2,3] (λ_=>[pk (ar a d i (iL s).r),pk (aD n p (iL s).k),pk (az j (iL s).g)]) (λ_=> .tuple #[]):=by
 have B:=hs.n;have b:=Gy hs.r u x;have A:=hs.r;refine fG Tryz.func128 λw cs=>ra (λt=>[(3,pt (B0 t) 0)]) (λt=>[ob (B0 t) #[i6 3,i6 0,i6 0,i6 0,i6 0,i6 0] 81]) λt=>r0 [(1,.l 4)] [(8,i6 3)] [] (rF [] 9 (rF [] 14 (rT [] 28 (r0 [(3,.l 0),(4,.c [1] [1] (z5 a d i s.r A))] [(4,iN s.r.j.A)] [] (rr (λ_=>[(3,.l 0),(4,.c [1] [1,5] (Sz a d i s.r hs.r u x))]) (λo=>[(5,(o 4).val 0)]) [] (λo L=>L.set 1 ((pk (ar a d i (eR s.r).1)))++[bc ((o 4).val 0) ((eR s.r).2)]) λo=>rr (λ_=>[(3,.c [0,1,2,3,5] [1,2,3] (aa.at (rd':=[ob q (lA c a n j s.time) 122,pk (ar a d i (eR s.r).1),pk (aD n p s.k),pk (az j s.g),bc ((o 4).val 0) ((eR s.r).2)]) (pL q a n j d i p c s.time ((eR s.r).1) b.1 s.k hs.k s.g hs.g s.r.j.A ((o 4).val 0) ((eR s.r).2) (by have y:=b.2.1;omega) (by have y:=b.2.1;omega) (λe z=>(b.2.2 e z).ly (wy s.r)) (hs.rk.trans (wy s.r).R.symm)) (atS (atS (atS (atS (bM (λ_ h=>aq.sq h) (λ_ h=>h))))))))]) N0 [] (λ_ L=>((L.set 1 ((pk (ar a d i ((eR s.r).1))))).set 2 ((pk (aD n p (fq s.r.j.A s.k ((eR s.r).2)))))).set 3 ((pk (az j (eT ((eR s.r).1).m s.r.j.A s.time s.g ((eR s.r).2)))))) λD=>?_)))));exact eF ab.zero [1,2,3] [(0,0)] [] (hf:=by kernel_rfl)
theorem Vh(g e d a h i j:Nat)(c:Cf)(s:Le)(K:Nat)(hs:da s K):aa ZJ 128 #[pt g 0,.agg #[i6 4,i6 0,i6 0,i6 0,i6 0,i6 0]] [ob g (lA c e d a s.time) 122,pk (ar e h i s.r),pk (aD d j s.k),pk (az a s.g)] [1,2,3] (λ_=>[pk (ar e h i s.r),pk (aD d j s.k),pk (az a (nI s.g))]) (λ_=> .tuple #[]):=by
 refine fG Tryz.func128 λw cs=>ra (λb=>[(3,pt (B0 b) 0)]) (λb=>[ob (B0 b) #[i6 4,i6 0,i6 0,i6 0,i6 0,i6 0] 81]) λb=>r0 [(1,.l 4)] [(8,i6 4)] [] (rF [] 9 (rF [] 14 (rF [] 28 (rT [] 48 (rs [(3,.l 0),(4,.c [3] [3] (SJ a s.g))] 3 ((pk (az a (nI s.g)))) ?_)))));exact eF ab.zero [1,2,3] [(0,0)] []
end
section
structure tI (c:Cf) (m:Mp):Prop where
 R:m.R=c.R
 S:m.S=c.S
 B:m.B=c.B
 M:m.M=c.M
 C:m.C=c.C
 G:m.G=c.G
 res:m.res=c.res
theorem tI.tr{c:Cf}{m a:Mp}(h:tI c m)(e:eM m a):tI c a:=⟨e.R.trans h.R,e.S.trans h.S,e.B.trans h.B,e.M.trans h.M,e.C.trans h.C,e.G.trans h.G,e.res.trans h.res⟩
def ic(r:Rp):Prop:=r.j.A≠0→r.j.nx<eJ r.j.A r.m.B r.m.M r.m.C
theorem G6{m:Mp}(h:ba m){k:Nat}(b:k=1∨k=2):0<eJ k m.B m.M m.C:=by
 have a:=h.O.bd;rcases b with rfl | rfl
 ·exact a.c1
 ·exact Nat.mul_pos (Nat.mul_pos a.b1 a.m1) a.c1
theorem G7{r:Rp}(d:ba r.m){a:Ak}(g:eK r.m a)(h:ic r):ic (dg r a):=by
 have e:=G6 d (.inl rfl);have f:=G6 d (.inr rfl);unfold dg;rcases g.k with⟨b,_⟩ | ⟨b,_⟩
 ·rw[b];show ic (bif dz r.m then _ else _);cases dz r.m
  ·exact h
  ·exact λ_=>e
 ·rw[b];show ic (bif dY r.m then _ else _);cases dY r.m
  ·exact h
  ·exact λ_=>f
theorem G8{r:Rp}(d:aO r){a:Ak}(b:eK r.m a)(h:ic r):ic (bo r a):=by
 unfold bo;cases dc r a
 ·cases r.j.A==0
  ·exact h
  ·exact G7 d.m b h
 ·exact h
theorem G9{r:Rp}(a:Ak)(h:r.j.A≠0):(bo r a).j=r.j∧(bo r a).m=r.m:=by
 unfold bo;cases dc r a
 ·rw[show(r.j.A==0)=false from dj.2 h];exact⟨rfl,rfl⟩
 ·exact⟨rfl,rfl⟩
theorem Vi{s:Rp×List Ev}(a:aO s.1)(d:0<s.1.q.length)(h:ic s.1):ic (gJ s).1:=by
 have b:=ts a d;unfold gJ;cases dc (aZ s.1) (s.1.q.headD aJ)
 ·exact G7 (r:=aZ s.1) a.m ⟨b.k⟩ h
 ·exact h
theorem Ha: ∀(n:Nat) (s:Rp×List Ev),n=s.1.q.length→aO s.1→ic s.1→ic (e3 n s).1
 | 0,s,_,_,h=>h
 | n+1,s,d,b,h=>by
  unfold e3
  split
  ·have a:0<s.1.q.length:=by omega
   exact Ha n (gJ s) (by rw[z0,aat];omega) (zZ b a) (Vi b a h)
  ·exact h
theorem Vj{r:Rp}(f:aO r)(b:r.j.A≠0)(h:ic r):ic (eR r).1:=by
 have d:=h b;unfold eR;cases a:kQ r.m (br r).j
 ·intro _;unfold kQ at a;have g: ¬(r.j.nx+1=eJ r.j.A r.m.B r.m.M r.m.C):=by
   intro e;rw[Bool.and_eq_false_iff] at a;rcases a with a | a
   ·exact absurd (of_decide_eq_false a) (λq=>q b)
   ·exact of_decide_eq_false a e
  show r.j.nx+1<eJ r.j.A r.m.B r.m.M r.m.C;omega
 ·exact Ha _ (ae (br r)) (by unfold ae gS;rfl) (wa (qG f b d) b) (λq=>absurd rfl q)
theorem Vk{s:Le}{K b a w:Nat}(x:Re)(h:da s K)(f:b<s.r.m.R)(e:a<s.r.m.R*s.r.m.B*s.r.m.M)(d:ic s.r):ic (gu s b a w x).r:=by
 unfold gu;cases cY s.k.lp (dh s.k.t a).l w
 ·exact d
 ·exact G8 h.r ⟨.inl ⟨rfl,e⟩⟩ d
theorem Hb{s:Le}{K a b w:Nat}(x:Re)(h:da s K)(d:a<s.r.m.R)(f:b<s.r.m.R*s.r.m.B*s.r.m.M)(i:K+3≤1000000000)(j:ic s.r):ic (fh s a b w x).r:=by
 have g:=GB (w:=w) x h d f i;have e:=Vk (w:=w) x h d f j;unfold fh;cases cY s.k.lr (s.k.F.getD a bg).l w
 ·exact e
 ·exact G8 g.r ⟨.inr ⟨rfl,by rw[(tz s a b w x).R];exact d⟩⟩ e
theorem Vl{heavy K:Nat}{s:Le}{n:Nt}(h:da s K)(e:n.r<s.r.m.R)(d:n.h<s.r.m.R*s.r.m.B*s.r.m.M)(b:K+3≤1000000000)(a:ic s.r):ic (dA heavy s n).r:=by
 unfold dA
 split
 ·exact a
 split
 ·exact Hb _ h e d b a
 split
 ·exact a
 ·exact Hb _ h e d b a
theorem Vm(s:Le)(b a w:Nat)(x:Re)(h:s.r.j.A≠0):(gu s b a w x).r.j=s.r.j∧(gu s b a w x).r.m=s.r.m:=by
 unfold gu;cases cY s.k.lp (dh s.k.t a).l w
 ·exact⟨rfl,rfl⟩
 ·exact G9 (r:=s.r) _ h
theorem Hc(s:Le)(a b w:Nat)(x:Re)(h:s.r.j.A≠0):(fh s a b w x).r.j=s.r.j∧(fh s a b w x).r.m=s.r.m:=by
 have d:=Vm s a b w x h;unfold fh;cases cY s.k.lr (s.k.F.getD a bg).l w
 ·exact d
 ·have e:=G9 (r:=(gu s a b w x).r) ⟨2,a⟩ (by rw[d.1];exact h);exact⟨e.1.trans d.1,e.2.trans d.2⟩
theorem Hd(heavy:Nat)(s:Le)(n:Nt)(h:s.r.j.A≠0):(dA heavy s n).r.j=s.r.j∧(dA heavy s n).r.m=s.r.m:=by
 unfold dA
 split
 ·exact⟨rfl,rfl⟩
 split
 ·exact Hc _ _ _ _ _ h
 split
 ·exact⟨rfl,rfl⟩
 ·exact Hc _ _ _ _ _ h
theorem Vn{R S B M C a p1 p2 p3:Nat}(b:cM R S B M C)(h:gR R S B M C a p1 p2 p3):gz R S B M C ((bF a p1 p2 p3:Nat):Int)=true:=by
 rw[←vT];refine AB b (vO.2 ?_);have:=h.h0;have:=h.h1;have:=h.h2;have:=h.h3;omega
structure jH (R S B M C i:Nat):Prop where
 ex: ∃p0 p1 p2 p3,i=bF p0 p1 p2 p3∧gR R S B M C p0 p1 p2 p3
theorem jH.has{R S B M C i:Nat}(h:jH R S B M C i)(a:cM R S B M C):gz R S B M C (i:Int)=true:=by
 obtain⟨d,e,f,g,rfl,b⟩:=h.ex;exact Vn a b
theorem jH.bd{R S B M C i:Nat}(h:jH R S B M C i)(a:cM R S B M C):i<8388608:=by
 obtain⟨d,e,f,g,rfl,b⟩:=h.ex;exact zH a.bd b
theorem AH(m:Mp)(p i:Nat):bu m p*64+i=bF (gI m p) (dU m.G m.R m.B m.M p) (dT m.G m.R m.B m.M p) i:=by unfold bu bF;omega
theorem AJ{m:Mp}(h:ba m){p i:Nat}(hp:p<m.R*m.B*m.M)(b:i<m.C):jH m.R m.S m.B m.M m.C (aU m 1 p i):=by
 have a:=qy h hp;exact⟨_,_,_,_,AH m p i,a.h0,a.h1,a.h2,b⟩
theorem AK{m:Mp}(h:ba m){r i:Nat}(b:r<m.R+m.S)(a:i<m.B*m.M*m.C):jH m.R m.S m.B m.M m.C (aU m 2 r i):=⟨_,_,_,_,rfl,nH h b a⟩
theorem He{m:Mp}{j:Jb}(h:ba m)(b:tm m j){n:Nat}(d:n<(m.R*m.B*m.M-m.res)*m.C):jH m.R m.S m.B m.M m.C (aH m j n):=by
 have a:jH m.R m.S m.B m.M m.C (cR m n):=⟨_,_,_,_,pz m n,qC h d⟩;rcases b.k with e | ⟨e,b⟩ | ⟨e,b⟩
 ·rw[e];exact a
 ·unfold aH;rw[e];show jH _ _ _ _ _ (if ao m n=j.fr then _ else _)
  split
  ·split
   ·exact AJ h b.ht (Nat.mod_lt _ h.O.bd.c1)
   ·exact a
  ·exact a
 ·unfold aH;rw[e];show jH _ _ _ _ _ (if aE m.G m.R m.B m.M (ao m n)=j.fr then _ else _)
  split
  ·split
   ·have:=b.t1;have:=h.rk;exact AK h Om (tn h d)
   ·exact a
  ·exact a
structure Ct where
 s:Le
 U:Nat
 ns:List Nt
 V:Dv
structure bf (c:Cf) (x:Ct) (K A:Nat):Prop where
 cf:c8 c
 s:da x.s K
 D:iO c x.V.D
 gl: ∀k,(x.V.W k).length=72
 vl:x.V.l.length≤A
 nl:x.ns.length≤A
 ly:tI c x.s.r.m
 run:ic x.s.r
 U:x.U<(c.R*c.B*c.M-c.res)*c.C
 time:x.s.time≤1099511627776
theorem bf.mono{c:Cf}{x:Ct}{K A b a:Nat}(h:bf c x K A)(d:K≤b)(hA:A≤a):bf c x b a:=⟨h.cf,h.s.mono d,h.D,h.gl,ZS h.vl hA,ZS h.nl hA,h.ly,h.run,h.U,h.time⟩
theorem bf.dv{c:Cf}{x:Ct}{K A:Nat}(h:bf c x K A)(hA:A≤900000):nO c x.V:=⟨h.D,h.gl,ZS h.vl hA⟩
theorem c8.O{c:Cf}(h:c8 c):cM c.R c.S c.B c.M c.C:=h.ly.O
theorem jH.lay{c:Cf}{m:Mp}(e:tI c m){i:Nat}(h:jH m.R m.S m.B m.M m.C i):jH c.R c.S c.B c.M c.C i:=by rw[e.R,e.S,e.B,e.M,e.C] at h;exact h
def mB(c:Cf)(x:Ct)(i:Nat)(l:List UInt8)(p:Bool):Ct:={x with V:=iP x.V (i:Int) (eO c.E l (i:Int) p) (bif p then 1 else 0)}
def mC(c:Cf)(x:Ct)(i:Nat):List UInt8:=bW c x.V.D (i:Int)
def bl(c:Cf)(x:Ct)(i:Nat):Nat:=j6 c.E (mC c x i) (i:Int)
def cu(c:Cf)(x:Ct)(i:Nat):List UInt8:=m5 c.E (mC c x i) (i:Int)
def m6(c:Cf)(x:Ct)(i h r:Nat):Nt:=⟨1,bl c x i,ib c.E (mC c x i) (i:Int),i,h,r⟩
def bU(c:Cf)(x:Ct)(i h r:Nat):Ct:=⟨⟨(dA c.J x.s (m6 c x i h r)).r,(dA c.J x.s (m6 c x i h r)).k,(dA c.J x.s (m6 c x i h r)).g,x.s.time⟩,x.U,x.ns++[m6 c x i h r],qR c x.V (i:Int)⟩
def au(x:Ct)(n:Nat):Nat:=aH x.s.r.m x.s.r.j n
def jI(x:Ct)(n:Nat):Nat:=ao x.s.r.m n
def jJ(x:Ct)(n:Nat):Nat:=aE x.s.r.m.G x.s.r.m.R x.s.r.m.B x.s.r.m.M (ao x.s.r.m n)
def ie(c:Cf)(x:Ct)(n:Nat):Ct:=bU c x (au x n) (jI x n) (jJ x n)
def kT(x y:Ct):Ct:=⟨⟨y.s.r,y.s.k,y.s.g,x.s.time⟩,x.U,y.ns,y.V⟩
def cy(c:Cf)(x:Ct)(n:Nat)(a:Bool):Ct:=kT x<| bif (((bl c x (au x n):Nat):Int)==1)&&a then mB c (ie c x n) (au x n) (cu c x (au x n)) false else ie c x n
def bY(k:Nat):Int:=bif (k:Int)==3 then 40 else bif (k:Int)==2 then 41 else 0
section
variable {c:Cf} {x:Ct} {K A:Nat}
theorem nR(m:Nat){xs:List UInt8}(a:xs.length=72)(x:Int):(m5 m xs x).length=64:=by
 unfold m5 pf ph
 split
 ·cases decide (2≤jK ((Z5 8).map (dK xs x)))
  ·exact lC _ _ _
  ·exact ZQ
 ·cases decide (2≤jK ((Z5 2).map (cK xs x)))
  ·exact vF (sT a x) (ZZ 2)
  ·exact ZQ
theorem qT(h:bf c x K A){i:Nat}{l:List UInt8}(a:l.length=64)(p:Bool):bf c (mB c x i l p) K (A+1):=by
 refine⟨h.cf,h.s,G0 h.D _ (qS _ a _ _),tE h.gl _ (qS _ a _ _),?_,Nat.le_succ_of_le h.nl,h.ly,h.run,h.U,h.time⟩;show(x.V.l++[_]).length≤A+1;rw[ZL];exact Z7 h.vl
theorem AM(h:bf c x K A){i b r:Nat}(f:r<x.s.r.m.R)(e:b<x.s.r.m.R*x.s.r.m.B*x.s.r.m.M)(d:K+3≤1000000000):bf c (bU c x i b r) (K+3) (A+1):=by
 have a:=T3 (heavy:=c.J) (n:=m6 c x i b r) h.s f e d;refine⟨h.cf,⟨a.r,a.k,a.g,a.n,a.rk⟩,tC h.D,h.gl,?_,?_,h.ly.tr (T2 c.J x.s (m6 c x i b r)),Vl (heavy:=c.J) (n:=m6 c x i b r) h.s f e d h.run,h.U,h.time⟩
 ·show(x.V.l++[_]).length≤A+1;rw[ZL];exact Z7 h.vl
 ·show(x.ns++[_]).length≤A+1;rw[ZL];exact Z7 h.nl
theorem wH(h:bf c x K A){n:Nat}(d:n<(c.R*c.B*c.M-c.res)*c.C):au x n<8388608∧gz c.R c.S c.B c.M c.C ((au x n:Nat):Int)=true∧jI x n<x.s.r.m.R*x.s.r.m.B*x.s.r.m.M∧jJ x n<x.s.r.m.R∧n<(x.s.r.m.R*x.s.r.m.B*x.s.r.m.M-x.s.r.m.res)*x.s.r.m.C:=by
 have a:n<(x.s.r.m.R*x.s.r.m.B*x.s.r.m.M-x.s.r.m.res)*x.s.r.m.C:=by rw[h.ly.R,h.ly.B,h.ly.M,h.ly.C,h.ly.res];exact d
 have b:=(He h.s.r.m h.s.r.j a).lay h.ly;exact⟨b.bd h.cf.O,b.has h.cf.O,nG h.s.r.m a,nE h.s.r.m.O,a⟩
theorem qU(h:bf c x K A){n:Nat}(a:n<(c.R*c.B*c.M-c.res)*c.C)(b:K+3≤1000000000):bf c (ie c x n) (K+3) (A+1):=AM h (wH h a).2.2.2.1 (wH h a).2.2.1 b
theorem bf.fix{y:Ct}{b a:Nat}(h:bf c x K A)(g:bf c y b a):bf c (kT x y) b a:=⟨g.cf,⟨g.s.r,g.s.k,g.s.g,g.s.n,g.s.rk⟩,g.D,g.gl,g.vl,g.nl,g.ly,g.run,h.U,h.time⟩
theorem Hf(h:bf c x K A){n:Nat}(e:n<(c.R*c.B*c.M-c.res)*c.C)(a:Bool)(d:K+3≤1000000000):bf c (cy c x n a) (K+3) (A+2):=by
 have b:=qU h e d;unfold cy;refine h.fix ?_;cases (((bl c x (au x n):Nat):Int)==1)&&a
 ·exact b.mono (ZZ _) (Nat.le_succ _)
 ·exact qT b (nR _ (mx h.D _) _) false
end
end
def Vo:Nt:=⟨0,0,0,0,0,0⟩
def Hg(x:Nt):List Value:=[iN x.k,iN x.v,iN x.f,iN x.i,iN x.h,iN x.r]
def wI:Kd ZJ Nt:=⟨Hg,[i6 0,i6 0,i6 0,i6 0,i6 0,i6 0],117,81,Vo,6,λ_=>rfl,rfl,λ_=>rfl,eh.mk' Kr Kr rfl⟩
abbrev b9(v:Value)(xs:List Nt):aA:= .p (aq Hg ([i6 0,i6 0,i6 0,i6 0,i6 0,i6 0]) 81 v xs)
abbrev aT(h e g j k d l b a i f:Nat)(c:Cf)(x:Ct)(L:ah):Prop:=∃v:Value,L=[ob h #[pt e 0,pt a 0,pt f 0,iN x.U,v] 119,ob e (lA c g d b x.s.time) 122,pk (ar g j k x.s.r),pk (aD d l x.s.k),pk (az b x.s.g),pk (dO f),pk (bk a i c x.V),b9 v x.ns]
theorem pN(t q z y x a f g:Nat)(c:Cf)(b:c8 c)(o time:Nat)(v:Value)(V:Dv)(h:nO c V)(i:Nat)(A:i<8388608)(j:gz c.R c.S c.B c.M c.C ((i:Nat):Int)=true)(l:List UInt8)(e:l.length=64)(p:Bool):aa ZJ 88 #[pt t 0,iN i,.agg (rB 64 l).toArray,.bool p] [ob t #[pt q 0,pt a 0,pt g 0,iN o,v] 119,ob q (lA c z y x time) 122,pk (dO g),pk (bk a f c V)] [2,3] (λ_=>[pk (dO g),pk (bk a f c (iP V (i:Int) (eO c.E l (i:Int) p) (bif p then 1 else 0)))]) (λ_=> .tuple #[]):=by
 have u:=b.E;have d:=qS c.E e (i:Int) p;refine fG Tryz.func88 λw cs=>ra (λk=>[(6,pt (B0 k) 0)]) (λk=>[ob (B0 k) (rB 64 l).toArray 43]) λk=>rr (λ_=>[(3,.m (ld 0 (pt g 0))),(7,.m (ld 0 (pt q 0))),(11,.m (ld 1 (iN c.E))),(12,.m (ls 4 (rB 64 l))),(15,.c [2] [] (Va c.E u g l (by(simp only[LL,e,d,e];done)) (i:Int) Om Om p)),(16,.m (al 5)),(17,.s 5)]) (λn=>[(8,pt ((n 16).y 0) 0)]) [] (λn L=>L++[ob ((n 16).y 0) (rB 72 (eO c.E l (i:Int) p)).toArray 217]) λn=>r0 [] [(25,.bool p)] [] ?_;refine cB (p) (λr=>?_) λr=>?_
 ·refine rr (λ_=>[(3,.l 0),(5,.l 5),(6,.c [3] [3] (UX a f c b V h (i:Int) j (eO c.E l (i:Int) p) (by(simp only[LL,e,d,e];done))))]) N0 [] (λ_ L=>L.set 3 ((pk (bk a f c (iP V (i:Int) (eO c.E l (i:Int) p) 1))))) λB=>?_;exact eF ab.zero [2,3] [(0,0),(1,1)] [] (hf:=by(repeat (first | rw[r] | rw[ALct]));kernel_rfl)
 refine rs [(3,.l 0),(5,.l 5),(6,.c [3] [3] (UW a f c b V h (i:Int) j (eO c.E l (i:Int) p) (by(simp only[LL,e,d,e];done))))] 3 ((pk (bk a f c (iP V (i:Int) (eO c.E l (i:Int) p) 0)))) ?_;exact eF ab.zero [2,3] [(0,0),(1,1)] [] (hf:=by(repeat (first | rw[r] | rw[ALcf]));kernel_rfl)
theorem Vp(t p q u x o y n A B:Nat)(c:Cf)(s:Le)(K:Nat)(hs:da s K)(j:Nat)(v:Value)(ns:List Nt)(I:ns.length≤800000)(G:K+3≤1000000000)(F:c.J≤65536)(d e f a b:Nat)(C:d≤3)(D:b<s.r.m.R)(H:a<s.r.m.R*s.r.m.B*s.r.m.M):aa ZJ 89 #[pt t 0,.agg #[i6 1,iN d,iN e,iN f,iN a,iN b]] [ob t #[pt p 0,pt A 0,pt B 0,iN j,v] 119,ob p (lA c q o n s.time) 122,pk (ar q u x s.r),pk (aD o y s.k),pk (az n s.g),b9 v ns] [0,2,3,4,5] (λE=>[ob t #[pt p 0,pt A 0,pt B 0,iN j,(E.val 0)] 119,pk (ar q u x (dA c.J s (⟨1,d,e,f,a,b⟩:Nt)).r),pk (aD o y (dA c.J s (⟨1,d,e,f,a,b⟩:Nt)).k),pk (az n (dA c.J s (⟨1,d,e,f,a,b⟩:Nt)).g),b9 (E.val 0) (ns++([(⟨1,d,e,f,a,b⟩:Nt)]))]) (λ_=> .tuple #[]):=by
 refine fG Tryz.func89 λw cs=>ra (λz=>[(3,pt (B0 z) 0)]) (λz=>[ob (B0 z) #[i6 1,iN d,iN e,iN f,iN a,iN b] 81]) λz=>rr (λi=>[(4,.l 0),(5,.l 6),(6,.m (bs 7 1)),(7,fF wI (v) ns 5 7 ([(⟨1,d,e,f,a,b⟩:Nt)])),(10,.m (fT 0 5 (b9 ((i 7).val 0) (ns++([(⟨1,d,e,f,a,b⟩:Nt)]))) ((i 7).val 0) λbs h=>aq.one ((λ_ h=>h) bs h)))]) N0 [] (λi L=>(L.set 0 (ob t #[pt p 0,pt A 0,pt B 0,iN j,(i 7).val 0] 119)).set 5 (b9 ((i 7).val 0) (ns++([(⟨1,d,e,f,a,b⟩:Nt)])))++[ob (B6 i) #[i6 1,iN d,iN e,iN f,iN a,iN b] 81]) λi=>rr (λ_=>[(3,.l 0),(4,.l 6),(5,.c [1,2,3,4] [2,3,4] (Ve p q o n u x y c s _ hs G F d e f a b C D H))]) N0 [] (λ_ L=>((L.set 2 ((pk (ar q u x (dA c.J s (⟨1,d,e,f,a,b⟩:Nt)).r)))).set 3 ((pk (aD o y (dA c.J s (⟨1,d,e,f,a,b⟩:Nt)).k)))).set 4 ((pk (az n (dA c.J s (⟨1,d,e,f,a,b⟩:Nt)).g)))) λJ=>?_;exact eF (.l [] [] [(i 7).val 0]) [0,2,3,4,5] [(1,1)] []
theorem Vq(i e g o q d j f n p:Nat)(c:Cf)(s:Le)(K:Nat)(hs:da s K)(b:Nat)(v:Value)(ns:List Nt)(t:ns.length≤800000)(r:s.time≤1000000000000000):aa ZJ 89 #[pt i 0,.agg #[i6 2,i6 0,i6 0,i6 0,i6 0,i6 0]] [ob i #[pt e 0,pt n 0,pt p 0,iN b,v] 119,ob e (lA c g d f s.time) 122,pk (ar g o q s.r),pk (aD d j s.k),pk (az f s.g),b9 v ns] [0,1,2,3,4,5] (λE=>[ob i #[pt e 0,pt n 0,pt p 0,iN b,(E.val 0)] 119,ob e (lA c g d f ((s.time+1:Nat))) 122,pk (ar g o q s.r),pk (aD d j (mZ s.k)),pk (az f s.g),b9 (E.val 0) (ns++([(⟨2,0,0,0,0,0⟩:Nt)]))]) (λ_=> .tuple #[]):=by
 refine fG Tryz.func89 λw cs=>ra (λk=>[(3,pt (B0 k) 0)]) (λk=>[ob (B0 k) #[i6 2,i6 0,i6 0,i6 0,i6 0,i6 0] 81]) λk=>rr (λa=>[(4,.l 0),(5,.l 6),(6,.m (bs 7 1)),(7,fF wI (v) ns 5 7 ([(⟨2,0,0,0,0,0⟩:Nt)])),(10,.m (fT 0 5 (b9 ((a 7).val 0) (ns++([(⟨2,0,0,0,0,0⟩:Nt)]))) ((a 7).val 0) λbs h=>aq.one ((λ_ h=>h) bs h)))]) N0 [] (λa L=>(L.set 0 (ob i #[pt e 0,pt n 0,pt p 0,iN b,(a 7).val 0] 119)).set 5 (b9 ((a 7).val 0) (ns++([(⟨2,0,0,0,0,0⟩:Nt)])))++[ob (B6 a) #[i6 2,i6 0,i6 0,i6 0,i6 0,i6 0] 81]) λa=>rr (λ_=>[(3,.l 0),(4,.l 6),(5,.c [1,2,3,4] [1,2,3,4] (Vf e g d f o q j c s _ hs r))]) N0 [] (λ_ L=>(L.set 1 (ob e (lA c g d f ((s.time+1:Nat))) 122)).set 3 ((pk (aD d j (mZ s.k))))) λu=>?_;exact eF (.l [] [] [(a 7).val 0]) [0,1,2,3,4,5] [] []
theorem Hh(j f i n o e p d t u:Nat)(c:Cf)(s:Le)(K:Nat)(hs:da s K)(b:Nat)(v:Value)(ns:List Nt)(A:ns.length≤800000)(x:K+257≤1000000000)(y:s.r.j.A≠0)(z:s.r.j.nx<eJ s.r.j.A s.r.m.B s.r.m.M s.r.m.C):aa ZJ 89 #[pt j 0,.agg #[i6 3,i6 0,i6 0,i6 0,i6 0,i6 0]] [ob j #[pt f 0,pt t 0,pt u 0,iN b,v] 119,ob f (lA c i e d s.time) 122,pk (ar i n o s.r),pk (aD e p s.k),pk (az d s.g),b9 v ns] [0,2,3,4,5] (λE=>[ob j #[pt f 0,pt t 0,pt u 0,iN b,(E.val 0)] 119,pk (ar i n o (iL s).r),pk (aD e p (iL s).k),pk (az d (iL s).g),b9 (E.val 0) (ns++([(⟨3,0,0,0,0,0⟩:Nt)]))]) (λ_=> .tuple #[]):=by
 refine fG Tryz.func89 λw cs=>ra (λq=>[(3,pt (B0 q) 0)]) (λq=>[ob (B0 q) #[i6 3,i6 0,i6 0,i6 0,i6 0,i6 0] 81]) λq=>rr (λa=>[(4,.l 0),(5,.l 6),(6,.m (bs 7 1)),(7,fF wI (v) ns 5 7 ([(⟨3,0,0,0,0,0⟩:Nt)])),(10,.m (fT 0 5 (b9 ((a 7).val 0) (ns++([(⟨3,0,0,0,0,0⟩:Nt)]))) ((a 7).val 0) λbs h=>aq.one ((λ_ h=>h) bs h)))]) N0 [] (λa L=>(L.set 0 (ob j #[pt f 0,pt t 0,pt u 0,iN b,(a 7).val 0] 119)).set 5 (b9 ((a 7).val 0) (ns++([(⟨3,0,0,0,0,0⟩:Nt)])))++[ob (B6 a) #[i6 3,i6 0,i6 0,i6 0,i6 0,i6 0] 81]) λa=>rr (λ_=>[(3,.l 0),(4,.l 6),(5,.c [1,2,3,4] [2,3,4] (Vg f i e d n o p c s _ hs x y z))]) N0 [] (λ_ L=>((L.set 2 ((pk (ar i n o (iL s).r)))).set 3 ((pk (aD e p (iL s).k)))).set 4 ((pk (az d (iL s).g)))) λB=>?_;exact eF (.l [] [] [(a 7).val 0]) [0,2,3,4,5] [(1,1)] []
theorem Vr(f e i n p g q d k o:Nat)(c:Cf)(s:Le)(K:Nat)(hs:da s K)(b:Nat)(v:Value)(ns:List Nt)(r:ns.length≤800000):aa ZJ 89 #[pt f 0,.agg #[i6 4,i6 0,i6 0,i6 0,i6 0,i6 0]] [ob f #[pt e 0,pt k 0,pt o 0,iN b,v] 119,ob e (lA c i g d s.time) 122,pk (ar i n p s.r),pk (aD g q s.k),pk (az d s.g),b9 v ns] [0,2,3,4,5] (λE=>[ob f #[pt e 0,pt k 0,pt o 0,iN b,(E.val 0)] 119,pk (ar i n p s.r),pk (aD g q s.k),pk (az d (nI s.g)),b9 (E.val 0) (ns++([(⟨4,0,0,0,0,0⟩:Nt)]))]) (λ_=> .tuple #[]):=by
 refine fG Tryz.func89 λw cs=>ra (λj=>[(3,pt (B0 j) 0)]) (λj=>[ob (B0 j) #[i6 4,i6 0,i6 0,i6 0,i6 0,i6 0] 81]) λj=>rr (λa=>[(4,.l 0),(5,.l 6),(6,.m (bs 7 1)),(7,fF wI (v) ns 5 7 ([(⟨4,0,0,0,0,0⟩:Nt)])),(10,.m (fT 0 5 (b9 ((a 7).val 0) (ns++([(⟨4,0,0,0,0,0⟩:Nt)]))) ((a 7).val 0) λbs h=>aq.one ((λ_ h=>h) bs h)))]) N0 [] (λa L=>(L.set 0 (ob f #[pt e 0,pt k 0,pt o 0,iN b,(a 7).val 0] 119)).set 5 (b9 ((a 7).val 0) (ns++([(⟨4,0,0,0,0,0⟩:Nt)])))++[ob (B6 a) #[i6 4,i6 0,i6 0,i6 0,i6 0,i6 0] 81]) λa=>rs [(3,.l 0),(4,.l 6),(5,.c [1,2,3,4] [2,3,4] (Vh e i g d n p q c s _ hs))] 4 ((pk (az d (nI s.g)))) ?_;exact eF (.l [] [] [(a 7).val 0]) [0,2,3,4,5] [(1,1)] []
theorem AN(q o x C D u F t f B n:Nat)(c:Cf)(s:Le)(a:Nat)(ns:List Nt)(V:Dv)(K A:Nat)(h:bf c ⟨s,a,ns,V⟩ K A)(v:Value)(hA:A≤700000)(Q:K+3≤1000000000)(i b d:Nat)(R:i<8388608)(M:gz c.R c.S c.B c.M c.C ((i:Nat):Int)=true)(J:b<s.r.m.R*s.r.m.B*s.r.m.M)(O:d<s.r.m.R):aa ZJ 87 #[pt q 0,.agg #[iN i,iN b,iN d]] [ob q #[pt o 0,pt f 0,pt n 0,iN a,v] 119,ob o (lA c x u t s.time) 122,pk (ar x C D s.r),pk (aD u F s.k),pk (az t s.g),pk (dO n),pk (bk f B c V),b9 v ns] [0,2,3,4,5,6,7] (λE=>[ob q #[pt o 0,pt f 0,pt n 0,iN a,(E.val 0)] 119,pk (ar x C D (bU c (⟨s,a,ns,V⟩:Ct) i b d).s.r),pk (aD u F (bU c (⟨s,a,ns,V⟩:Ct) i b d).s.k),pk (az t (bU c (⟨s,a,ns,V⟩:Ct) i b d).s.g),pk (dO n),pk (bk f B c (bU c (⟨s,a,ns,V⟩:Ct) i b d).V),b9 (E.val 0) ((bU c (⟨s,a,ns,V⟩:Ct) i b d).ns)]) (λ_=> .tuple #[.agg (rB 64 (cu c (⟨s,a,ns,V⟩:Ct) i)).toArray,.agg #[i6 ((bl c (⟨s,a,ns,V⟩:Ct) i:Nat):Int),i6 ((ib c.E (mC c (⟨s,a,ns,V⟩:Ct) i) (i:Int):Nat):Int)]]):=by
 have j:=h.cf;have T:=j.E;have P:=j.E;have I:=h.dv Om;have S:=h.nl;have z:=mx h.D (i:Int);have N:=nR c.E z (i:Int);have y:ns.length≤800000:=ZS h.nl Om;exact fG Tryz.func87 λw cs=>ra (λe=>[(3,pt (B0 e) 0),(4,pt (B1 e) 0),(5,pt (B2 e) 0)]) (λe=>[ob (B0 e) #[iN i,iN b,iN d] 180,ob (B1 e) (rB 64 z6).toArray 43,ob (B2 e) #[i6 0,i6 0] 79]) λe=>rr (λ_=>[(3,.m (ld 0 (pt f 0))),(5,.m (ld 8 (iN i))),(6,.c [6] [6] (UY f B c j V I (i:Int) M)),(10,.m (al 11)),(11,.s 11)]) (λG=>[(6,pt ((G 10).y 0) 0)]) [] (λG L=>L.set 6 ((pk (bk f B c (qR c V (i:Int)))))++[ob ((G 10).y 0) (rB 72 (bW c V.D (i:Int))).toArray 217]) λG=>rr (λ_=>[(3,.m (ld 0 (pt n 0))),(7,.m (ld 0 (pt o 0))),(11,.m (ld 1 (iN c.E))),(12,.m (ls 11 (rB 72 (bW c V.D (i:Int))))),(14,.m (ld 8 (iN i))),(15,.c [5] [] (Vb c.E P n (bW c V.D (i:Int)) (by(simp only[LL,z,N];done)) (i:Int) Om Om)),(19,.m (al 12)),(20,.m (al 13)),(21,.s 12),(22,.s 13)]) (λp=>[(8,pt ((p 19).y 0) 0),(9,pt ((p 20).y 0) 0)]) [] (λp L=>L++[ob ((p 19).y 0) (rB 64 (m5 c.E (bW c V.D (i:Int)) (i:Int))).toArray 43,ob ((p 20).y 0) #[i6 ((j6 c.E (bW c V.D (i:Int)) (i:Int):Nat):Int),i6 ((ib c.E (bW c V.D (i:Int)) (i:Int):Nat):Int)] 79]) λp=>rr (λ_=>[(1,.l 13),(3,.l 8),(5,.l 8),(7,.l 8),(9,.c [0,1,2,3,4,7] [0,2,3,4,7] (Vp q o x C D u F t f n c s _ h.s a v ns y Q j.h2 (j6 c.E (bW c V.D (i:Int)) (i:Int)) (ib c.E (bW c V.D (i:Int)) (i:Int)) i b d (U7 _ _ _) O J))]) N0 [] (λH L=>((((L.set 0 (ob q #[pt o 0,pt f 0,pt n 0,iN a,((H 9).val 0)] 119)).set 2 ((pk (ar x C D (dA c.J s (⟨1,(j6 c.E (bW c V.D (i:Int)) (i:Int)),(ib c.E (bW c V.D (i:Int)) (i:Int)),i,b,d⟩:Nt)).r)))).set 3 ((pk (aD u F (dA c.J s (⟨1,(j6 c.E (bW c V.D (i:Int)) (i:Int)),(ib c.E (bW c V.D (i:Int)) (i:Int)),i,b,d⟩:Nt)).k)))).set 4 ((pk (az t (dA c.J s (⟨1,(j6 c.E (bW c V.D (i:Int)) (i:Int)),(ib c.E (bW c V.D (i:Int)) (i:Int)),i,b,d⟩:Nt)).g)))).set 7 (b9 ((H 9).val 0) (ns++([(⟨1,(j6 c.E (bW c V.D (i:Int)) (i:Int)),(ib c.E (bW c V.D (i:Int)) (i:Int)),i,b,d⟩:Nt)])))) λH=>rr (λ_=>[(0,.l 12),(1,.l 13),(2,.s 9),(3,.s 10)]) N0 [] (λ_ L=>(L.set 9 (ob (B1 e) (rB 64 (m5 c.E (bW c V.D (i:Int)) (i:Int))).toArray 43)).set 10 (ob (B2 e) #[i6 ((j6 c.E (bW c V.D (i:Int)) (i:Int):Nat):Int),i6 ((ib c.E (bW c V.D (i:Int)) (i:Int):Nat):Int)] 79)) λU=>ak (.tuple #[.agg (rB 64 (m5 c.E (bW c V.D (i:Int)) (i:Int))).toArray,.agg #[i6 ((j6 c.E (bW c V.D (i:Int)) (i:Int):Nat):Int),i6 ((ib c.E (bW c V.D (i:Int)) (i:Int):Nat):Int)]]) (.l [] [] [((H 9).val 0)]) a9 [0,2,3,4,5,6,7] [(1,1)] [9,10] (hf:=by kernel_rfl)
theorem AO(v f:Nat):aa ZJ 117 #[.agg #[iN v,iN f]] [] [] N0 (λ_=>i6 (bY v)):=by
 refine fG Tryz.func117 λw cs=>ra (λb=>[(1,pt (B0 b) 0),(2,i6 0)]) (λb=>[ob (B0 b) #[iN v,iN f] 79]) λb=>r0 [(1,.l 0)] [(4,iN v)] [] (r0 [] [(5,.bool ((v:Int)==3))] [] ?_);refine c0 (v:Int) 3 (λa c=>?_) λa c=>?_
 ·exact r0 [] [(2,i6 40)] [2] (ak (i6 40) ab.zero (by unfold bY;(repeat (first | rw[a] | rw[ALct]))) [] [] [])
 refine r0 [] [(7,.bool ((v:Int)==2))] [] ?_;refine c0 (v:Int) 2 (λe d=>?_) λe d=>?_
 ·exact r0 [] [(2,i6 41)] [2] (ak (i6 41) ab.zero (by unfold bY;(repeat (first | rw[a] | rw[e] | rw[ALct] | rw[ALcf]))) [] [] [])
 exact r0 [] [(2,i6 0)] [2] (ak (i6 0) ab.zero (by unfold bY;(repeat (first | rw[a] | rw[e] | rw[ALcf]))) [] [] [])
theorem Hi(h e a f g k j i l:Nat)(c:Cf)(r:Rp)(p:aO r)(d time:Nat)(v:Value)(n:Nat)(o:n<(r.m.R*r.m.B*r.m.M-r.m.res)*r.m.C):aa ZJ 116 #[pt h 0,iN n] [ob h #[pt e 0,pt i 0,pt l 0,iN d,v] 119,ob e (lA c a k j time) 122,pk (ar a f g r)] [2] (λ_=>[pk (ar a f g r)]) (λ_=> .tuple #[.agg #[i6 ((aH r.m r.j n:Nat):Int),i6 ((ao r.m n:Nat):Int),i6 ((aE r.m.G r.m.R r.m.B r.m.M (ao r.m n):Nat):Int)],i6 0]):=by
 exact fG Tryz.func116 λw cs=>ra (λb=>[(4,pt (B0 b) 0),(5,i6 0)]) (λb=>[ob (B0 b) #[i6 0,i6 0,i6 0] 180]) λb=>r0 [(3,.m (ld 0 (pt e 0))),(6,.m (ld 1 (pt a 0))),(8,.c [2] [2] (R8 a f g r p n o)),] [(6,i6 ((aH r.m r.j n:Nat):Int)),(7,i6 ((ao r.m n:Nat):Int)),(8,i6 ((aE r.m.G r.m.R r.m.B r.m.M (ao r.m n):Nat):Int)),(9,i6 0)] [] (rF [] 25 (rr (λ_=>[(4,.s 3)]) (λ_=>[(5,i6 0)]) [5] (λ_ L=>L.set 3 (ob (B0 b) #[i6 ((aH r.m r.j n:Nat):Int),i6 ((ao r.m n:Nat):Int),i6 ((aE r.m.G r.m.R r.m.B r.m.M (ao r.m n):Nat):Int)] 180)) λq=>ak (.tuple #[.agg #[i6 ((aH r.m r.j n:Nat):Int),i6 ((ao r.m n:Nat):Int),i6 ((aE r.m.G r.m.R r.m.B r.m.M (ao r.m n):Nat):Int)],i6 0]) ab.zero a9 [2] [(0,0),(1,1)] [3]))
theorem Hj(h e a f g k j i l:Nat)(c:Cf)(r:Rp)(p:aO r)(d time:Nat)(v:Value)(n:Int)(o:bG n (((r.m.R*r.m.B*r.m.M-r.m.res)*r.m.C:Nat):Int)=false):aa ZJ 116 #[pt h 0,i6 n] [ob h #[pt e 0,pt i 0,pt l 0,iN d,v] 119,ob e (lA c a k j time) 122,pk (ar a f g r)] [2] (λ_=>[pk (ar a f g r)]) (λ_=> .tuple #[.agg #[i6 0,i6 0,i6 0],i6 30]):=by
 exact fG Tryz.func116 λw cs=>ra (λb=>[(4,pt (B0 b) 0),(5,i6 0)]) (λb=>[ob (B0 b) #[i6 0,i6 0,i6 0] 180]) λb=>r0 [(3,.m (ld 0 (pt e 0))),(6,.m (ld 1 (pt a 0))),(8,.c [2] [2] (R9 a f g r p n o)),] [(6,i6 0),(7,i6 0),(8,i6 0),(9,i6 12)] [] (rT [] 25 (r0 [(1,.s 3)] [(5,i6 30)] [5] (lf ab.zero [2] [(0,0),(1,1)] [3])))
theorem Hk(i m o t u k z j f q g:Nat)(c:Cf)(s:Le)(a:Nat)(ns:List Nt)(V:Dv)(K A:Nat)(h:bf c ⟨s,a,ns,V⟩ K A)(v:Value)(hA:A≤700000)(J:K+3≤1000000000)(n:Nat)(M:n<(c.R*c.B*c.M-c.res)*c.C)(b:Bool):aa ZJ 83 #[pt i 0,iN n,.bool b] [ob i #[pt m 0,pt f 0,pt g 0,iN a,v] 119,ob m (lA c o k j s.time) 122,pk (ar o t u s.r),pk (aD k z s.k),pk (az j s.g),pk (dO g),pk (bk f q c V),b9 v ns] [0,2,3,4,5,6,7] (λE=>[ob i #[pt m 0,pt f 0,pt g 0,iN a,(E.val 0)] 119,pk (ar o t u (cy c (⟨s,a,ns,V⟩:Ct) n b).s.r),pk (aD k z (cy c (⟨s,a,ns,V⟩:Ct) n b).s.k),pk (az j (cy c (⟨s,a,ns,V⟩:Ct) n b).s.g),pk (dO g),pk (bk f q c (cy c (⟨s,a,ns,V⟩:Ct) n b).V),b9 (E.val 0) ((cy c (⟨s,a,ns,V⟩:Ct) n b).ns)]) (λ_=> .tuple #[.agg (rB 64 (cu c (⟨s,a,ns,V⟩:Ct) (au (⟨s,a,ns,V⟩:Ct) n))).toArray,i6 (bY (bl c (⟨s,a,ns,V⟩:Ct) (au (⟨s,a,ns,V⟩:Ct) n)))]):=by
 have p:=h.cf;have S:=p.E;have R:=p.E;have N:=h.dv Om;have O:=h.nl;have d:=wH h M;have P:=h.s.r;have Q:=qU h M J;have D:=Q.dv Om;have y:=d.1;have x:=d.2.1;have F:=d.2.2.1;have I:=d.2.2.2.1;have H:=d.2.2.2.2;have G:(cu c (⟨s,a,ns,V⟩:Ct) (aH s.r.m s.r.j n)).length=64:=nR c.E (mx h.D _) _;refine fG Tryz.func83 λw cs=>ra (λr=>[(6,pt (B0 r) 0),(7,i6 0)]) (λr=>[ob (B0 r) (rB 64 z6).toArray 43]) λr=>rr (λ_=>[(2,.c [0,1,2] [2] (Hi i m o t u k j f g c s.r P a s.time v n H)),(7,.s 9)]) (λB=>[(8,pt (B6 B) 0),(9,i6 0)]) [] (λB L=>L++[ob (B6 B) #[i6 ((aH s.r.m s.r.j n:Nat):Int),i6 ((ao s.r.m n:Nat):Int),i6 ((aE s.r.m.G s.r.m.R s.r.m.B s.r.m.M (ao s.r.m n):Nat):Int)] 180]) λB=>rF [] 19 (rr (λ_=>[(1,.l 9),(2,.c [0,1,2,3,4,5,6,7] [0,2,3,4,5,6,7] (AN i m o t u k z j f q g c s a ns V _ _ h v hA J (aH s.r.m s.r.j n) (ao s.r.m n) (aE s.r.m.G s.r.m.R s.r.m.B s.r.m.M (ao s.r.m n)) y x F I)),(8,.s 10),(9,.s 11)]) (λe=>[(10,pt (B6 e) 0),(11,pt (B7 e) 0)]) [] (λe L=>(((((L.set 0 (ob i #[pt m 0,pt f 0,pt g 0,iN a,((e 2).val 0)] 119)).set 2 ((pk (ar o t u (bU c (⟨s,a,ns,V⟩:Ct) (aH s.r.m s.r.j n) (ao s.r.m n) (aE s.r.m.G s.r.m.R s.r.m.B s.r.m.M (ao s.r.m n))).s.r)))).set 3 ((pk (aD k z (bU c (⟨s,a,ns,V⟩:Ct) (aH s.r.m s.r.j n) (ao s.r.m n) (aE s.r.m.G s.r.m.R s.r.m.B s.r.m.M (ao s.r.m n))).s.k)))).set 4 ((pk (az j (bU c (⟨s,a,ns,V⟩:Ct) (aH s.r.m s.r.j n) (ao s.r.m n) (aE s.r.m.G s.r.m.R s.r.m.B s.r.m.M (ao s.r.m n))).s.g)))).set 6 ((pk (bk f q c (bU c (⟨s,a,ns,V⟩:Ct) (aH s.r.m s.r.j n) (ao s.r.m n) (aE s.r.m.G s.r.m.R s.r.m.B s.r.m.M (ao s.r.m n))).V)))).set 7 (b9 ((e 2).val 0) ((bU c (⟨s,a,ns,V⟩:Ct) (aH s.r.m s.r.j n) (ao s.r.m n) (aE s.r.m.G s.r.m.R s.r.m.B s.r.m.M (ao s.r.m n))).ns))++[ob (B6 e) (rB 64 (cu c (⟨s,a,ns,V⟩:Ct) (aH s.r.m s.r.j n))).toArray 43,ob (B7 e) #[i6 ((bl c (⟨s,a,ns,V⟩:Ct) (aH s.r.m s.r.j n):Nat):Int),i6 ((ib c.E (mC c (⟨s,a,ns,V⟩:Ct) (aH s.r.m s.r.j n)) ((aH s.r.m s.r.j n):Int):Nat):Int)] 79]) λe=>r0 [(1,.l 11)] [(33,.bool ((((bl c (⟨s,a,ns,V⟩:Ct) (aH s.r.m s.r.j n):Nat):Int)==1)&&b))] [] ?_);refine cB ((((bl c (⟨s,a,ns,V⟩:Ct) (aH s.r.m s.r.j n):Nat):Int)==1)&&b) (λC=>?_) λC=>?_
 ·exact rr (λ_=>[(2,.l 9),(3,.l 10),(4,.c [0,1,5,6] [5,6] (pN i m o k j f q g c p a s.time ((e 2).val 0) ((bU c (⟨s,a,ns,V⟩:Ct) (aH s.r.m s.r.j n) (ao s.r.m n) (aE s.r.m.G s.r.m.R s.r.m.B s.r.m.M (ao s.r.m n))).V) D (aH s.r.m s.r.j n) y x (cu c (⟨s,a,ns,V⟩:Ct) (aH s.r.m s.r.j n)) (by(simp only[LL,G];done)) false))]) N0 [] (λ_ L=>L.set 6 ((pk (bk f q c (iP ((bU c (⟨s,a,ns,V⟩:Ct) (aH s.r.m s.r.j n) (ao s.r.m n) (aE s.r.m.G s.r.m.R s.r.m.B s.r.m.M (ao s.r.m n))).V) ((aH s.r.m s.r.j n):Int) (eO c.E (cu c (⟨s,a,ns,V⟩:Ct) (aH s.r.m s.r.j n)) ((aH s.r.m s.r.j n):Int) false) (bif false then 1 else 0)))))) λT=>rr (λ_=>[(0,.l 10),(1,.l 11),(2,.c [] [] (AO (bl c (⟨s,a,ns,V⟩:Ct) (aH s.r.m s.r.j n)) (ib c.E (mC c (⟨s,a,ns,V⟩:Ct) (aH s.r.m s.r.j n)) ((aH s.r.m s.r.j n):Int)))),(3,.s 8)]) (λ_=>[(7,i6 (bY (bl c (⟨s,a,ns,V⟩:Ct) (aH s.r.m s.r.j n))))]) [7] (λ_ L=>L.set 8 (ob (B0 r) (rB 64 (cu c (⟨s,a,ns,V⟩:Ct) (aH s.r.m s.r.j n))).toArray 43)) λU=>ak (.tuple #[.agg (rB 64 (cu c (⟨s,a,ns,V⟩:Ct) (aH s.r.m s.r.j n))).toArray,i6 (bY (bl c (⟨s,a,ns,V⟩:Ct) (aH s.r.m s.r.j n)))]) (.l [] [] [((e 2).val 0)]) a9 [0,2,3,4,5,6,7] [(1,1)] [8] (hf:=by unfold cy kT ie au jI jJ;dsimp only;(repeat (first | rw[C] | rw[ALct] | rw[ALcf]));kernel_rfl)
 exact rr (λ_=>[(0,.l 10),(1,.l 11),(2,.c [] [] (AO (bl c (⟨s,a,ns,V⟩:Ct) (aH s.r.m s.r.j n)) (ib c.E (mC c (⟨s,a,ns,V⟩:Ct) (aH s.r.m s.r.j n)) ((aH s.r.m s.r.j n):Int)))),(3,.s 8)]) (λ_=>[(7,i6 (bY (bl c (⟨s,a,ns,V⟩:Ct) (aH s.r.m s.r.j n))))]) [7] (λ_ L=>L.set 8 (ob (B0 r) (rB 64 (cu c (⟨s,a,ns,V⟩:Ct) (aH s.r.m s.r.j n))).toArray 43)) λW=>ak (.tuple #[.agg (rB 64 (cu c (⟨s,a,ns,V⟩:Ct) (aH s.r.m s.r.j n))).toArray,i6 (bY (bl c (⟨s,a,ns,V⟩:Ct) (aH s.r.m s.r.j n)))]) (.l [] [] [((e 2).val 0)]) a9 [0,2,3,4,5,6,7] [(1,1)] [8] (hf:=by unfold cy kT ie au jI jJ;dsimp only;(repeat (first | rw[C] | rw[ALcf]));kernel_rfl)
end E
end Go.Proofs.YtbcodenfkijdnaaGreat
