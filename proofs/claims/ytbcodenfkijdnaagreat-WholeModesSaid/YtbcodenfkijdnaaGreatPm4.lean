/- WholeModes, in 7 texts: part 4. For every input; no condition. -/
import Derived.Test.YtbcodenfkijdnaaGreatPm3
import Derived.WalkKit
import Derived.Deep.RegionLaw
import Derived.Deep.LoopGhost
import Derived.Lib.SliceRun
import Derived.Lib.Walk
import Derived.Shelf.RegionOpenPlain
import Derived.Laws.AppendOwn
set_option linter.unusedVariables false
set_option linter.unusedSimpArgs false
set_option maxRecDepth 100000
namespace Go.Proofs.YtbcodenfkijdnaaGreat
open Go Go.RowKit Go.Shelf
open Go.Proofs.Tryz renaming prog→Zl
open List renaming replicate→Zm,length_append→Zn,getD_eq_getElem?_getD→Zo,getElem?_eq_getElem→Zp,length_take→Zq,append_assoc→Zr,length_replicate→Zs,length_set→Zv,length_map→Zw,length_drop→Zx,length_eraseIdx→Zy,not_mem_nil→ZC,getElem?_append_right→ZF,drop_eq_getElem_cons→ZG,range→ZH,length_range→ZI,toList_toArray→ZL,take_add_one→ZM,drop_append_of_le_length→ZN,take_zero→ZP,mem_or_eq_of_mem_set→ZQ,mem_cons→ZR,drop_eq_nil_of_le→ZS,take_append_drop→ZU,set_append_right→ZV,replicate_succ→ZW,getElem?_drop→ZY,size_toArray→Z0,foldl_append→Z1,drop_append→Z2,length_cons→Z4,length_tail→Z5,take_length→Z6,nil_append→Z8,map_cons→aab,flatten→aac
open Bool renaming and_eq_true→Zt,or_eq_false_iff→ZD,or_eq_true→ZO,true_and→aaa
open Nat renaming le_trans→Zu,zero_le→Zz,le_refl→ZB,add_mul→ZE,succ_le_succ→ZJ,lt_succ_self→ZK,add_sub_cancel_left→ZT,lt_succ_of_lt→Z3,succ_lt_succ→Z7,not_lt_zero→Z9,succ_pos→aad,mul_succ→aag
open Int renaming natCast_mul→ZA,toNat_of_nonneg→ZZ
open Go.Result renaming andThen_ok→ZX
open Go.Sem renaming run_bind→aae,run_pure→aaf
namespace E
theorem Si(g b d:Nat)(m:Mp)(f t x:Nat)(q:List Ak)(J:aO ⟨m,⟨1,f,t,x⟩,q⟩)(z:oo m f t x):aa Zl 212 #[pt g 0] [pk (au g b d ⟨m,⟨1,f,t,x⟩,q⟩)] [0] (λE=>[pk (au g b d (cS ⟨m,⟨1,f,t,x⟩,q⟩).1),bg (E.val 0) ((cS ⟨m,⟨1,f,t,x⟩,q⟩).2)]) (λE=>(E.val 0)):=aa.pkW (n:=1) (N:=λE=>[bg (E.val 0) ((cS ⟨m,⟨1,f,t,x⟩,q⟩).2)]) (enters_of Tryz.func212 Kr rfl) λL P=>by
 obtain⟨rfl⟩:=P;refine⟨[0,1,2],λ_=>[ob g #[pt b 0,iN ((cS ⟨m,⟨1,f,t,x⟩,q⟩).1.j.A),iN ((cS ⟨m,⟨1,f,t,x⟩,q⟩).1.j.fr),iN ((cS ⟨m,⟨1,f,t,x⟩,q⟩).1.j.tg),iN ((cS ⟨m,⟨1,f,t,x⟩,q⟩).1.j.nx),pt d 0] 133,pk (aH b (cS ⟨m,⟨1,f,t,x⟩,q⟩).1.m),pk (bJ d (cS ⟨m,⟨1,f,t,x⟩,q⟩).1.q)],?_,rfl,λE=>⟨rfl,rfl,rfl⟩⟩;have U:=J.m;have V:q.length≤256:=J.n;have Q:=v5 J (show(1:Nat)≠0 by decide);refine fG Tryz.func212 λw W=>r0 [] [(2,.slice none 0 0)] [] (rr (λ_=>[(3,.l 0),(5,.s 3)]) (λu=>[(3,pt (B4 u) 0)]) [] (λu L=>L++[ob (B4 u) #[i6 1,iN f,iN t,iN x] 70]) λu=>rs [(4,.s 0)] 0 (ob g #[pt b 0,i6 0,i6 0,i6 0,i6 0,pt d 0] 133) (rT [(1,.l 3)] 17 (rs [(3,.l 0),(5,.l 3),(7,.l 3),(8,.c [1] [1] (Q9 b m U f t z.hf z.t0 z.t1 z.df z.dt z.ne))] 1 ((pk (aH b (kk m f t)))) (rr (λ_=>[(1,.l 3),(3,.l 3),(5,g5 jv 4 1 [(⟨6,f,t⟩:Ev)])]) (λD=>[(4,.slice (some ⟨(D 5).y 0,0,none⟩) 1 1)]) [] (λD L=>L++[bg (.slice (some ⟨(D 5).y 0,0,none⟩) 1 1) ([(⟨6,f,t⟩:Ev)])]) λD=>?_))));refine na (λk _=>k≤q.length∧(e3 q.length (af ⟨m,⟨1,f,t,x⟩,q⟩)=e3 (q.length-k) (ah (af ⟨m,⟨1,f,t,x⟩,q⟩) k))) (λ_ a=>[(4,a)]) (λk a L=>(((L.set 0 (ob g #[pt b 0,iN ((ah (af ⟨m,⟨1,f,t,x⟩,q⟩) k).1.j.A),iN ((ah (af ⟨m,⟨1,f,t,x⟩,q⟩) k).1.j.fr),iN ((ah (af ⟨m,⟨1,f,t,x⟩,q⟩) k).1.j.tg),iN ((ah (af ⟨m,⟨1,f,t,x⟩,q⟩) k).1.j.nx),pt d 0] 133)).set 1 ((pk (aH b (ah (af ⟨m,⟨1,f,t,x⟩,q⟩) k).1.m)))).set 2 ((pk (bJ d (ah (af ⟨m,⟨1,f,t,x⟩,q⟩) k).1.q)))).set 4 (bg a ((ah (af ⟨m,⟨1,f,t,x⟩,q⟩) k).2))) (λk _=>q.length-k) 0 (.slice (some ⟨(D 5).y 0,0,none⟩) 1 1) ⟨by omega,rfl⟩ Kr Kr (λk a ⟨T,K⟩=>?_);have M:aO (ah (af ⟨m,⟨1,f,t,x⟩,q⟩) k).1:=z8 Q k (show k≤q.length by omega);have R:=z7 (af ⟨m,⟨1,f,t,x⟩,q⟩) k;have O:(af ⟨m,⟨1,f,t,x⟩,q⟩).2.length=1:=rfl;have S:(ah (af ⟨m,⟨1,f,t,x⟩,q⟩) k).1.q.length=q.length-k:=v9 (af ⟨m,⟨1,f,t,x⟩,q⟩) k;refine rr (λ_=>[(1,.c [0,1,2] [1,2] (mP g b d ((ah (af ⟨m,⟨1,f,t,x⟩,q⟩) k).1)))]) (λ_=>[(44,.bool (!((((ah (af ⟨m,⟨1,f,t,x⟩,q⟩) k).1).j.A:Int) != 0)))]) [] (λ_ L=>(L.set 1 ((pk (aH b ((ah (af ⟨m,⟨1,f,t,x⟩,q⟩) k).1).m)))).set 2 ((pk (bJ d ((ah (af ⟨m,⟨1,f,t,x⟩,q⟩) k).1).q)))) λX=>?_;refine cB (!((((ah (af ⟨m,⟨1,f,t,x⟩,q⟩) k).1).j.A:Int) != 0)) (λH=>?_) λH=>?_
 ·have v:(ah (af ⟨m,⟨1,f,t,x⟩,q⟩) k).1.j.A=0:=by simpa using H
  refine rr (λ_=>[(3,.l 0),(4,.c [2] [2] (FG d (((ah (af ⟨m,⟨1,f,t,x⟩,q⟩) k).1).q))),(9,.s 5)]) (λi=>[(5,pt ((i 8).y 0) 0),(6,i6 (mi (((ah (af ⟨m,⟨1,f,t,x⟩,q⟩) k).1).q)))]) [] (λi L=>L.set 2 ((pk (bJ d (((ah (af ⟨m,⟨1,f,t,x⟩,q⟩) k).1).q).tail)))++[ob ((i 8).y 0) #[iN (((((ah (af ⟨m,⟨1,f,t,x⟩,q⟩) k).1).q).headD aN).k),iN (((((ah (af ⟨m,⟨1,f,t,x⟩,q⟩) k).1).q).headD aN).w)] 285]) λi=>r0 [] [(54,.bool ((mi (((ah (af ⟨m,⟨1,f,t,x⟩,q⟩) k).1).q)) != 0))] [] ?_;refine m9 (mi (((ah (af ⟨m,⟨1,f,t,x⟩,q⟩) k).1).q)) 0 (λF o=>?_) λF o=>?_
  ·refine l9 ?_;have r:((ah (af ⟨m,⟨1,f,t,x⟩,q⟩) k).1.j.A≠0)∨(ah (af ⟨m,⟨1,f,t,x⟩,q⟩) k).1.q.length=0:=by(right;have y:=o;unfold mi at y;split at y<;>first | assumption | exact absurd rfl y)
   have p:cS ⟨m,⟨1,f,t,x⟩,q⟩=(ah (af ⟨m,⟨1,f,t,x⟩,q⟩) k):=by show e3 q.length (af ⟨m,⟨1,f,t,x⟩,q⟩)=_;rw[K];rcases r with h | h;exact wb h _;rw[show q.length-k=0 by omega];rfl
   exact cl [ob g #[pt b 0,iN ((ah (af ⟨m,⟨1,f,t,x⟩,q⟩) k).1.j.A),iN ((ah (af ⟨m,⟨1,f,t,x⟩,q⟩) k).1.j.fr),iN ((ah (af ⟨m,⟨1,f,t,x⟩,q⟩) k).1.j.tg),iN ((ah (af ⟨m,⟨1,f,t,x⟩,q⟩) k).1.j.nx),pt d 0] 133,pk (aH b ((ah (af ⟨m,⟨1,f,t,x⟩,q⟩) k).1).m),pk (bJ d (ah (af ⟨m,⟨1,f,t,x⟩,q⟩) k).1.q),ob (B4 u) #[i6 1,iN f,iN t,iN x] 70,bg a ((ah (af ⟨m,⟨1,f,t,x⟩,q⟩) k).2),ob ((i 8).y 0) #[iN (((((ah (af ⟨m,⟨1,f,t,x⟩,q⟩) k).1).q).headD aN).k),iN (((((ah (af ⟨m,⟨1,f,t,x⟩,q⟩) k).1).q).headD aN).w)] 285] (by(try rw[show(ah (af ⟨m,⟨1,f,t,x⟩,q⟩) k).1.q.tail=(ah (af ⟨m,⟨1,f,t,x⟩,q⟩) k).1.q from wa (r.resolve_left (λh=>h v))]);kernel_rfl) (r0 [] [(2,a)] [2] (lf (.l [] [] [a]) [0,1,2,4] [] [] (hf:=by rw[p];kernel_rfl)))
  have I:0<(ah (af ⟨m,⟨1,f,t,x⟩,q⟩) k).1.q.length:=by have y:=o;unfold mi at y;split at y<;>omega
  have C:=FM (s:=(af ⟨m,⟨1,f,t,x⟩,q⟩)) (k:=k) (by show k<q.length;omega) K v;have A:=v7 M;have B:eJ (aZ (ah (af ⟨m,⟨1,f,t,x⟩,q⟩) k).1).m ((ah (af ⟨m,⟨1,f,t,x⟩,q⟩) k).1.q.headD aN):=⟨(tp M I).k⟩;refine cl [ob g #[pt b 0,iN ((aZ (ah (af ⟨m,⟨1,f,t,x⟩,q⟩) k).1).j.A),iN ((aZ (ah (af ⟨m,⟨1,f,t,x⟩,q⟩) k).1).j.fr),iN ((aZ (ah (af ⟨m,⟨1,f,t,x⟩,q⟩) k).1).j.tg),iN ((aZ (ah (af ⟨m,⟨1,f,t,x⟩,q⟩) k).1).j.nx),pt d 0] 133,pk (aH b ((ah (af ⟨m,⟨1,f,t,x⟩,q⟩) k).1).m),pk (bJ d (((ah (af ⟨m,⟨1,f,t,x⟩,q⟩) k).1).q).tail),ob (B4 u) #[i6 1,iN f,iN t,iN x] 70,bg a ((ah (af ⟨m,⟨1,f,t,x⟩,q⟩) k).2),ob ((i 8).y 0) #[iN (((((ah (af ⟨m,⟨1,f,t,x⟩,q⟩) k).1).q).headD aN).k),iN (((((ah (af ⟨m,⟨1,f,t,x⟩,q⟩) k).1).q).headD aN).w)] 285] (by skip;kernel_rfl) (cl [ob g #[pt b 0,iN ((aZ (ah (af ⟨m,⟨1,f,t,x⟩,q⟩) k).1).j.A),iN ((aZ (ah (af ⟨m,⟨1,f,t,x⟩,q⟩) k).1).j.fr),iN ((aZ (ah (af ⟨m,⟨1,f,t,x⟩,q⟩) k).1).j.tg),iN ((aZ (ah (af ⟨m,⟨1,f,t,x⟩,q⟩) k).1).j.nx),pt d 0] 133,pk (aH b (aZ (ah (af ⟨m,⟨1,f,t,x⟩,q⟩) k).1).m),pk (bJ d (((ah (af ⟨m,⟨1,f,t,x⟩,q⟩) k).1).q).tail),ob (B4 u) #[i6 1,iN f,iN t,iN x] 70,bg a ((ah (af ⟨m,⟨1,f,t,x⟩,q⟩) k).2),ob ((i 8).y 0) #[iN (((((ah (af ⟨m,⟨1,f,t,x⟩,q⟩) k).1).q).headD aN).k),iN (((((ah (af ⟨m,⟨1,f,t,x⟩,q⟩) k).1).q).headD aN).w)] 285] (by skip;kernel_rfl) (cl [ob g #[pt b 0,iN ((aZ (ah (af ⟨m,⟨1,f,t,x⟩,q⟩) k).1).j.A),iN ((aZ (ah (af ⟨m,⟨1,f,t,x⟩,q⟩) k).1).j.fr),iN ((aZ (ah (af ⟨m,⟨1,f,t,x⟩,q⟩) k).1).j.tg),iN ((aZ (ah (af ⟨m,⟨1,f,t,x⟩,q⟩) k).1).j.nx),pt d 0] 133,pk (aH b (aZ (ah (af ⟨m,⟨1,f,t,x⟩,q⟩) k).1).m),pk (bJ d (aZ (ah (af ⟨m,⟨1,f,t,x⟩,q⟩) k).1).q),ob (B4 u) #[i6 1,iN f,iN t,iN x] 70,bg a ((ah (af ⟨m,⟨1,f,t,x⟩,q⟩) k).2),ob ((i 8).y 0) #[iN (((((ah (af ⟨m,⟨1,f,t,x⟩,q⟩) k).1).q).headD aN).k),iN (((((ah (af ⟨m,⟨1,f,t,x⟩,q⟩) k).1).q).headD aN).w)] 285] (by skip;kernel_rfl) (r0 [(1,.l 5),(2,.c [0,1,2] [0,1,2] (px g b d (aZ (ah (af ⟨m,⟨1,f,t,x⟩,q⟩) k).1) A ((((ah (af ⟨m,⟨1,f,t,x⟩,q⟩) k).1).q).headD aN) B))] [(58,.bool (!(c8 (aZ (ah (af ⟨m,⟨1,f,t,x⟩,q⟩) k).1) ((((ah (af ⟨m,⟨1,f,t,x⟩,q⟩) k).1).q).headD aN))))] [] ?_)));refine cB (!(c8 (aZ (ah (af ⟨m,⟨1,f,t,x⟩,q⟩) k).1) ((((ah (af ⟨m,⟨1,f,t,x⟩,q⟩) k).1).q).headD aN))) (λG=>?_) λG=>?_
  ·exact rr (λe=>[(2,.l 5),(3,.c [0,1,2] [0,1,2,6] (Ab g b d (aZ (ah (af ⟨m,⟨1,f,t,x⟩,q⟩) k).1) A ((((ah (af ⟨m,⟨1,f,t,x⟩,q⟩) k).1).q).headD aN) B)),(4,.m (mD 4 6 jv.hT (a) ((e 3).val 0) (xs:=(ah (af ⟨m,⟨1,f,t,x⟩,q⟩) k).2) (ys:=fZ (aZ (ah (af ⟨m,⟨1,f,t,x⟩,q⟩) k).1) ((((ah (af ⟨m,⟨1,f,t,x⟩,q⟩) k).1).q).headD aN)) (bg ((e 3).val 0) (fZ (aZ (ah (af ⟨m,⟨1,f,t,x⟩,q⟩) k).1) ((((ah (af ⟨m,⟨1,f,t,x⟩,q⟩) k).1).q).headD aN))) (λ_ h=>ar.src ((λ_ h=>h) _ h)) jv.one jv.lz (by simp only[LL,v8];omega)))]) (λe=>[(4,(e 4).val 0)]) [4] (λe L=>(((L.set 0 (ob g #[pt b 0,iN ((de (aZ (ah (af ⟨m,⟨1,f,t,x⟩,q⟩) k).1) ((((ah (af ⟨m,⟨1,f,t,x⟩,q⟩) k).1).q).headD aN)).j.A),iN ((de (aZ (ah (af ⟨m,⟨1,f,t,x⟩,q⟩) k).1) ((((ah (af ⟨m,⟨1,f,t,x⟩,q⟩) k).1).q).headD aN)).j.fr),iN ((de (aZ (ah (af ⟨m,⟨1,f,t,x⟩,q⟩) k).1) ((((ah (af ⟨m,⟨1,f,t,x⟩,q⟩) k).1).q).headD aN)).j.tg),iN ((de (aZ (ah (af ⟨m,⟨1,f,t,x⟩,q⟩) k).1) ((((ah (af ⟨m,⟨1,f,t,x⟩,q⟩) k).1).q).headD aN)).j.nx),pt d 0] 133)).set 1 ((pk (aH b (de (aZ (ah (af ⟨m,⟨1,f,t,x⟩,q⟩) k).1) ((((ah (af ⟨m,⟨1,f,t,x⟩,q⟩) k).1).q).headD aN)).m)))).set 2 ((pk (bJ d (de (aZ (ah (af ⟨m,⟨1,f,t,x⟩,q⟩) k).1) ((((ah (af ⟨m,⟨1,f,t,x⟩,q⟩) k).1).q).headD aN)).q)))).set 4 (bg ((e 4).val 0) (((ah (af ⟨m,⟨1,f,t,x⟩,q⟩) k).2)++(fZ (aZ (ah (af ⟨m,⟨1,f,t,x⟩,q⟩) k).1) ((((ah (af ⟨m,⟨1,f,t,x⟩,q⟩) k).1).q).headD aN))))++[bg ((e 3).val 0) (fZ (aZ (ah (af ⟨m,⟨1,f,t,x⟩,q⟩) k).1) ((((ah (af ⟨m,⟨1,f,t,x⟩,q⟩) k).1).q).headD aN))]) λe=>l8 (k+1) ((e 4).val 0) ⟨by omega,C⟩ Om Kr [0,1,2,3,4] (by(rw[FL (s:=(af ⟨m,⟨1,f,t,x⟩,q⟩)) (k:=k) (by simpa using ‹(!c8 (aZ (ah (af ⟨m,⟨1,f,t,x⟩,q⟩) k).1) ((ah (af ⟨m,⟨1,f,t,x⟩,q⟩) k).1.q.headD aN))=true›)]);kernel_rfl)
  exact l8 (k+1) a ⟨by omega,C⟩ Om Kr [0,1,2,3,4] (by(rw[FK (s:=(af ⟨m,⟨1,f,t,x⟩,q⟩)) (k:=k) (by simpa using ‹(!c8 (aZ (ah (af ⟨m,⟨1,f,t,x⟩,q⟩) k).1) ((ah (af ⟨m,⟨1,f,t,x⟩,q⟩) k).1.q.headD aN))=false›)]);kernel_rfl)
 refine l9 ?_;have r:((ah (af ⟨m,⟨1,f,t,x⟩,q⟩) k).1.j.A≠0)∨(ah (af ⟨m,⟨1,f,t,x⟩,q⟩) k).1.q.length=0:=by(left;simpa using H)
 have p:cS ⟨m,⟨1,f,t,x⟩,q⟩=(ah (af ⟨m,⟨1,f,t,x⟩,q⟩) k):=by show e3 q.length (af ⟨m,⟨1,f,t,x⟩,q⟩)=_;rw[K];rcases r with h | h;exact wb h _;rw[show q.length-k=0 by omega];rfl
 exact cl [ob g #[pt b 0,iN ((ah (af ⟨m,⟨1,f,t,x⟩,q⟩) k).1.j.A),iN ((ah (af ⟨m,⟨1,f,t,x⟩,q⟩) k).1.j.fr),iN ((ah (af ⟨m,⟨1,f,t,x⟩,q⟩) k).1.j.tg),iN ((ah (af ⟨m,⟨1,f,t,x⟩,q⟩) k).1.j.nx),pt d 0] 133,pk (aH b ((ah (af ⟨m,⟨1,f,t,x⟩,q⟩) k).1).m),pk (bJ d (ah (af ⟨m,⟨1,f,t,x⟩,q⟩) k).1.q),ob (B4 u) #[i6 1,iN f,iN t,iN x] 70,bg a ((ah (af ⟨m,⟨1,f,t,x⟩,q⟩) k).2)] (by(try rw[show(ah (af ⟨m,⟨1,f,t,x⟩,q⟩) k).1.q.tail=(ah (af ⟨m,⟨1,f,t,x⟩,q⟩) k).1.q from wa (r.resolve_left (λh=>h v))]);kernel_rfl) (r0 [] [(2,a)] [2] (lf (.l [] [] [a]) [0,1,2,4] [] [] (hf:=by rw[p];kernel_rfl)))
theorem Sj(g b d:Nat)(m:Mp)(f t x:Nat)(q:List Ak)(J:aO ⟨m,⟨2,f,t,x⟩,q⟩)(D:oq m f t x):aa Zl 212 #[pt g 0] [pk (au g b d ⟨m,⟨2,f,t,x⟩,q⟩)] [0] (λE=>[pk (au g b d (cS ⟨m,⟨2,f,t,x⟩,q⟩).1),bg (E.val 0) ((cS ⟨m,⟨2,f,t,x⟩,q⟩).2)]) (λE=>(E.val 0)):=aa.pkW (n:=1) (N:=λE=>[bg (E.val 0) ((cS ⟨m,⟨2,f,t,x⟩,q⟩).2)]) (enters_of Tryz.func212 Kr rfl) λL P=>by
 obtain⟨rfl⟩:=P;refine⟨[0,1,2],λ_=>[ob g #[pt b 0,iN ((cS ⟨m,⟨2,f,t,x⟩,q⟩).1.j.A),iN ((cS ⟨m,⟨2,f,t,x⟩,q⟩).1.j.fr),iN ((cS ⟨m,⟨2,f,t,x⟩,q⟩).1.j.tg),iN ((cS ⟨m,⟨2,f,t,x⟩,q⟩).1.j.nx),pt d 0] 133,pk (aH b (cS ⟨m,⟨2,f,t,x⟩,q⟩).1.m),pk (bJ d (cS ⟨m,⟨2,f,t,x⟩,q⟩).1.q)],?_,rfl,λE=>⟨rfl,rfl,rfl⟩⟩;have U:=J.m;have V:q.length≤256:=J.n;have Q:=v5 J (show(2:Nat)≠0 by decide);refine fG Tryz.func212 λw W=>r0 [] [(2,.slice none 0 0)] [] (rr (λ_=>[(3,.l 0),(5,.s 3)]) (λu=>[(3,pt (B4 u) 0)]) [] (λu L=>L++[ob (B4 u) #[i6 2,iN f,iN t,iN x] 70]) λu=>rs [(4,.s 0)] 0 (ob g #[pt b 0,i6 0,i6 0,i6 0,i6 0,pt d 0] 133) (rF [(1,.l 3)] 17 (rs [(3,.l 0),(5,.l 3),(7,.l 3),(8,.c [1] [1] (Ra b m U f t D.hf D.t0 D.t1 D.hs))] 1 ((pk (aH b (jr m f t)))) (rr (λ_=>[(1,.l 3),(3,.l 3),(5,g5 jv 4 1 [(⟨6,f,t⟩:Ev)])]) (λC=>[(4,.slice (some ⟨(C 5).y 0,0,none⟩) 1 1)]) [] (λC L=>L++[bg (.slice (some ⟨(C 5).y 0,0,none⟩) 1 1) ([(⟨6,f,t⟩:Ev)])]) λC=>?_))));refine na (λk _=>k≤q.length∧(e3 q.length (af ⟨m,⟨2,f,t,x⟩,q⟩)=e3 (q.length-k) (ah (af ⟨m,⟨2,f,t,x⟩,q⟩) k))) (λ_ a=>[(4,a)]) (λk a L=>(((L.set 0 (ob g #[pt b 0,iN ((ah (af ⟨m,⟨2,f,t,x⟩,q⟩) k).1.j.A),iN ((ah (af ⟨m,⟨2,f,t,x⟩,q⟩) k).1.j.fr),iN ((ah (af ⟨m,⟨2,f,t,x⟩,q⟩) k).1.j.tg),iN ((ah (af ⟨m,⟨2,f,t,x⟩,q⟩) k).1.j.nx),pt d 0] 133)).set 1 ((pk (aH b (ah (af ⟨m,⟨2,f,t,x⟩,q⟩) k).1.m)))).set 2 ((pk (bJ d (ah (af ⟨m,⟨2,f,t,x⟩,q⟩) k).1.q)))).set 4 (bg a ((ah (af ⟨m,⟨2,f,t,x⟩,q⟩) k).2))) (λk _=>q.length-k) 0 (.slice (some ⟨(C 5).y 0,0,none⟩) 1 1) ⟨by omega,rfl⟩ Kr Kr (λk a ⟨T,K⟩=>?_);have M:aO (ah (af ⟨m,⟨2,f,t,x⟩,q⟩) k).1:=z8 Q k (show k≤q.length by omega);have R:=z7 (af ⟨m,⟨2,f,t,x⟩,q⟩) k;have O:(af ⟨m,⟨2,f,t,x⟩,q⟩).2.length=1:=rfl;have S:(ah (af ⟨m,⟨2,f,t,x⟩,q⟩) k).1.q.length=q.length-k:=v9 (af ⟨m,⟨2,f,t,x⟩,q⟩) k;refine rr (λ_=>[(1,.c [0,1,2] [1,2] (mP g b d ((ah (af ⟨m,⟨2,f,t,x⟩,q⟩) k).1)))]) (λ_=>[(44,.bool (!((((ah (af ⟨m,⟨2,f,t,x⟩,q⟩) k).1).j.A:Int) != 0)))]) [] (λ_ L=>(L.set 1 ((pk (aH b ((ah (af ⟨m,⟨2,f,t,x⟩,q⟩) k).1).m)))).set 2 ((pk (bJ d ((ah (af ⟨m,⟨2,f,t,x⟩,q⟩) k).1).q)))) λX=>?_;refine cB (!((((ah (af ⟨m,⟨2,f,t,x⟩,q⟩) k).1).j.A:Int) != 0)) (λH=>?_) λH=>?_
 ·have v:(ah (af ⟨m,⟨2,f,t,x⟩,q⟩) k).1.j.A=0:=by simpa using H
  refine rr (λ_=>[(3,.l 0),(4,.c [2] [2] (FG d (((ah (af ⟨m,⟨2,f,t,x⟩,q⟩) k).1).q))),(9,.s 5)]) (λi=>[(5,pt ((i 8).y 0) 0),(6,i6 (mi (((ah (af ⟨m,⟨2,f,t,x⟩,q⟩) k).1).q)))]) [] (λi L=>L.set 2 ((pk (bJ d (((ah (af ⟨m,⟨2,f,t,x⟩,q⟩) k).1).q).tail)))++[ob ((i 8).y 0) #[iN (((((ah (af ⟨m,⟨2,f,t,x⟩,q⟩) k).1).q).headD aN).k),iN (((((ah (af ⟨m,⟨2,f,t,x⟩,q⟩) k).1).q).headD aN).w)] 285]) λi=>r0 [] [(54,.bool ((mi (((ah (af ⟨m,⟨2,f,t,x⟩,q⟩) k).1).q)) != 0))] [] ?_;refine m9 (mi (((ah (af ⟨m,⟨2,f,t,x⟩,q⟩) k).1).q)) 0 (λF o=>?_) λF o=>?_
  ·refine l9 ?_;have r:((ah (af ⟨m,⟨2,f,t,x⟩,q⟩) k).1.j.A≠0)∨(ah (af ⟨m,⟨2,f,t,x⟩,q⟩) k).1.q.length=0:=by(right;have y:=o;unfold mi at y;split at y<;>first | assumption | exact absurd rfl y)
   have p:cS ⟨m,⟨2,f,t,x⟩,q⟩=(ah (af ⟨m,⟨2,f,t,x⟩,q⟩) k):=by show e3 q.length (af ⟨m,⟨2,f,t,x⟩,q⟩)=_;rw[K];rcases r with h | h;exact wb h _;rw[show q.length-k=0 by omega];rfl
   exact cl [ob g #[pt b 0,iN ((ah (af ⟨m,⟨2,f,t,x⟩,q⟩) k).1.j.A),iN ((ah (af ⟨m,⟨2,f,t,x⟩,q⟩) k).1.j.fr),iN ((ah (af ⟨m,⟨2,f,t,x⟩,q⟩) k).1.j.tg),iN ((ah (af ⟨m,⟨2,f,t,x⟩,q⟩) k).1.j.nx),pt d 0] 133,pk (aH b ((ah (af ⟨m,⟨2,f,t,x⟩,q⟩) k).1).m),pk (bJ d (ah (af ⟨m,⟨2,f,t,x⟩,q⟩) k).1.q),ob (B4 u) #[i6 2,iN f,iN t,iN x] 70,bg a ((ah (af ⟨m,⟨2,f,t,x⟩,q⟩) k).2),ob ((i 8).y 0) #[iN (((((ah (af ⟨m,⟨2,f,t,x⟩,q⟩) k).1).q).headD aN).k),iN (((((ah (af ⟨m,⟨2,f,t,x⟩,q⟩) k).1).q).headD aN).w)] 285] (by(try rw[show(ah (af ⟨m,⟨2,f,t,x⟩,q⟩) k).1.q.tail=(ah (af ⟨m,⟨2,f,t,x⟩,q⟩) k).1.q from wa (r.resolve_left (λh=>h v))]);kernel_rfl) (r0 [] [(2,a)] [2] (lf (.l [] [] [a]) [0,1,2,4] [] [] (hf:=by rw[p];kernel_rfl)))
  have I:0<(ah (af ⟨m,⟨2,f,t,x⟩,q⟩) k).1.q.length:=by have y:=o;unfold mi at y;split at y<;>omega
  have B:=FM (s:=(af ⟨m,⟨2,f,t,x⟩,q⟩)) (k:=k) (by show k<q.length;omega) K v;have z:=v7 M;have A:eJ (aZ (ah (af ⟨m,⟨2,f,t,x⟩,q⟩) k).1).m ((ah (af ⟨m,⟨2,f,t,x⟩,q⟩) k).1.q.headD aN):=⟨(tp M I).k⟩;refine cl [ob g #[pt b 0,iN ((aZ (ah (af ⟨m,⟨2,f,t,x⟩,q⟩) k).1).j.A),iN ((aZ (ah (af ⟨m,⟨2,f,t,x⟩,q⟩) k).1).j.fr),iN ((aZ (ah (af ⟨m,⟨2,f,t,x⟩,q⟩) k).1).j.tg),iN ((aZ (ah (af ⟨m,⟨2,f,t,x⟩,q⟩) k).1).j.nx),pt d 0] 133,pk (aH b ((ah (af ⟨m,⟨2,f,t,x⟩,q⟩) k).1).m),pk (bJ d (((ah (af ⟨m,⟨2,f,t,x⟩,q⟩) k).1).q).tail),ob (B4 u) #[i6 2,iN f,iN t,iN x] 70,bg a ((ah (af ⟨m,⟨2,f,t,x⟩,q⟩) k).2),ob ((i 8).y 0) #[iN (((((ah (af ⟨m,⟨2,f,t,x⟩,q⟩) k).1).q).headD aN).k),iN (((((ah (af ⟨m,⟨2,f,t,x⟩,q⟩) k).1).q).headD aN).w)] 285] (by skip;kernel_rfl) (cl [ob g #[pt b 0,iN ((aZ (ah (af ⟨m,⟨2,f,t,x⟩,q⟩) k).1).j.A),iN ((aZ (ah (af ⟨m,⟨2,f,t,x⟩,q⟩) k).1).j.fr),iN ((aZ (ah (af ⟨m,⟨2,f,t,x⟩,q⟩) k).1).j.tg),iN ((aZ (ah (af ⟨m,⟨2,f,t,x⟩,q⟩) k).1).j.nx),pt d 0] 133,pk (aH b (aZ (ah (af ⟨m,⟨2,f,t,x⟩,q⟩) k).1).m),pk (bJ d (((ah (af ⟨m,⟨2,f,t,x⟩,q⟩) k).1).q).tail),ob (B4 u) #[i6 2,iN f,iN t,iN x] 70,bg a ((ah (af ⟨m,⟨2,f,t,x⟩,q⟩) k).2),ob ((i 8).y 0) #[iN (((((ah (af ⟨m,⟨2,f,t,x⟩,q⟩) k).1).q).headD aN).k),iN (((((ah (af ⟨m,⟨2,f,t,x⟩,q⟩) k).1).q).headD aN).w)] 285] (by skip;kernel_rfl) (cl [ob g #[pt b 0,iN ((aZ (ah (af ⟨m,⟨2,f,t,x⟩,q⟩) k).1).j.A),iN ((aZ (ah (af ⟨m,⟨2,f,t,x⟩,q⟩) k).1).j.fr),iN ((aZ (ah (af ⟨m,⟨2,f,t,x⟩,q⟩) k).1).j.tg),iN ((aZ (ah (af ⟨m,⟨2,f,t,x⟩,q⟩) k).1).j.nx),pt d 0] 133,pk (aH b (aZ (ah (af ⟨m,⟨2,f,t,x⟩,q⟩) k).1).m),pk (bJ d (aZ (ah (af ⟨m,⟨2,f,t,x⟩,q⟩) k).1).q),ob (B4 u) #[i6 2,iN f,iN t,iN x] 70,bg a ((ah (af ⟨m,⟨2,f,t,x⟩,q⟩) k).2),ob ((i 8).y 0) #[iN (((((ah (af ⟨m,⟨2,f,t,x⟩,q⟩) k).1).q).headD aN).k),iN (((((ah (af ⟨m,⟨2,f,t,x⟩,q⟩) k).1).q).headD aN).w)] 285] (by skip;kernel_rfl) (r0 [(1,.l 5),(2,.c [0,1,2] [0,1,2] (px g b d (aZ (ah (af ⟨m,⟨2,f,t,x⟩,q⟩) k).1) z ((((ah (af ⟨m,⟨2,f,t,x⟩,q⟩) k).1).q).headD aN) A))] [(58,.bool (!(c8 (aZ (ah (af ⟨m,⟨2,f,t,x⟩,q⟩) k).1) ((((ah (af ⟨m,⟨2,f,t,x⟩,q⟩) k).1).q).headD aN))))] [] ?_)));refine cB (!(c8 (aZ (ah (af ⟨m,⟨2,f,t,x⟩,q⟩) k).1) ((((ah (af ⟨m,⟨2,f,t,x⟩,q⟩) k).1).q).headD aN))) (λG=>?_) λG=>?_
  ·exact rr (λe=>[(2,.l 5),(3,.c [0,1,2] [0,1,2,6] (Ab g b d (aZ (ah (af ⟨m,⟨2,f,t,x⟩,q⟩) k).1) z ((((ah (af ⟨m,⟨2,f,t,x⟩,q⟩) k).1).q).headD aN) A)),(4,.m (mD 4 6 jv.hT (a) ((e 3).val 0) (xs:=(ah (af ⟨m,⟨2,f,t,x⟩,q⟩) k).2) (ys:=fZ (aZ (ah (af ⟨m,⟨2,f,t,x⟩,q⟩) k).1) ((((ah (af ⟨m,⟨2,f,t,x⟩,q⟩) k).1).q).headD aN)) (bg ((e 3).val 0) (fZ (aZ (ah (af ⟨m,⟨2,f,t,x⟩,q⟩) k).1) ((((ah (af ⟨m,⟨2,f,t,x⟩,q⟩) k).1).q).headD aN))) (λ_ h=>ar.src ((λ_ h=>h) _ h)) jv.one jv.lz (by simp only[LL,v8];omega)))]) (λe=>[(4,(e 4).val 0)]) [4] (λe L=>(((L.set 0 (ob g #[pt b 0,iN ((de (aZ (ah (af ⟨m,⟨2,f,t,x⟩,q⟩) k).1) ((((ah (af ⟨m,⟨2,f,t,x⟩,q⟩) k).1).q).headD aN)).j.A),iN ((de (aZ (ah (af ⟨m,⟨2,f,t,x⟩,q⟩) k).1) ((((ah (af ⟨m,⟨2,f,t,x⟩,q⟩) k).1).q).headD aN)).j.fr),iN ((de (aZ (ah (af ⟨m,⟨2,f,t,x⟩,q⟩) k).1) ((((ah (af ⟨m,⟨2,f,t,x⟩,q⟩) k).1).q).headD aN)).j.tg),iN ((de (aZ (ah (af ⟨m,⟨2,f,t,x⟩,q⟩) k).1) ((((ah (af ⟨m,⟨2,f,t,x⟩,q⟩) k).1).q).headD aN)).j.nx),pt d 0] 133)).set 1 ((pk (aH b (de (aZ (ah (af ⟨m,⟨2,f,t,x⟩,q⟩) k).1) ((((ah (af ⟨m,⟨2,f,t,x⟩,q⟩) k).1).q).headD aN)).m)))).set 2 ((pk (bJ d (de (aZ (ah (af ⟨m,⟨2,f,t,x⟩,q⟩) k).1) ((((ah (af ⟨m,⟨2,f,t,x⟩,q⟩) k).1).q).headD aN)).q)))).set 4 (bg ((e 4).val 0) (((ah (af ⟨m,⟨2,f,t,x⟩,q⟩) k).2)++(fZ (aZ (ah (af ⟨m,⟨2,f,t,x⟩,q⟩) k).1) ((((ah (af ⟨m,⟨2,f,t,x⟩,q⟩) k).1).q).headD aN))))++[bg ((e 3).val 0) (fZ (aZ (ah (af ⟨m,⟨2,f,t,x⟩,q⟩) k).1) ((((ah (af ⟨m,⟨2,f,t,x⟩,q⟩) k).1).q).headD aN))]) λe=>l8 (k+1) ((e 4).val 0) ⟨by omega,B⟩ Om Kr [0,1,2,3,4] (by(rw[FL (s:=(af ⟨m,⟨2,f,t,x⟩,q⟩)) (k:=k) (by simpa using ‹(!c8 (aZ (ah (af ⟨m,⟨2,f,t,x⟩,q⟩) k).1) ((ah (af ⟨m,⟨2,f,t,x⟩,q⟩) k).1.q.headD aN))=true›)]);kernel_rfl)
  exact l8 (k+1) a ⟨by omega,B⟩ Om Kr [0,1,2,3,4] (by(rw[FK (s:=(af ⟨m,⟨2,f,t,x⟩,q⟩)) (k:=k) (by simpa using ‹(!c8 (aZ (ah (af ⟨m,⟨2,f,t,x⟩,q⟩) k).1) ((ah (af ⟨m,⟨2,f,t,x⟩,q⟩) k).1.q.headD aN))=false›)]);kernel_rfl)
 refine l9 ?_;have r:((ah (af ⟨m,⟨2,f,t,x⟩,q⟩) k).1.j.A≠0)∨(ah (af ⟨m,⟨2,f,t,x⟩,q⟩) k).1.q.length=0:=by(left;simpa using H)
 have p:cS ⟨m,⟨2,f,t,x⟩,q⟩=(ah (af ⟨m,⟨2,f,t,x⟩,q⟩) k):=by show e3 q.length (af ⟨m,⟨2,f,t,x⟩,q⟩)=_;rw[K];rcases r with h | h;exact wb h _;rw[show q.length-k=0 by omega];rfl
 exact cl [ob g #[pt b 0,iN ((ah (af ⟨m,⟨2,f,t,x⟩,q⟩) k).1.j.A),iN ((ah (af ⟨m,⟨2,f,t,x⟩,q⟩) k).1.j.fr),iN ((ah (af ⟨m,⟨2,f,t,x⟩,q⟩) k).1.j.tg),iN ((ah (af ⟨m,⟨2,f,t,x⟩,q⟩) k).1.j.nx),pt d 0] 133,pk (aH b ((ah (af ⟨m,⟨2,f,t,x⟩,q⟩) k).1).m),pk (bJ d (ah (af ⟨m,⟨2,f,t,x⟩,q⟩) k).1.q),ob (B4 u) #[i6 2,iN f,iN t,iN x] 70,bg a ((ah (af ⟨m,⟨2,f,t,x⟩,q⟩) k).2)] (by(try rw[show(ah (af ⟨m,⟨2,f,t,x⟩,q⟩) k).1.q.tail=(ah (af ⟨m,⟨2,f,t,x⟩,q⟩) k).1.q from wa (r.resolve_left (λh=>h v))]);kernel_rfl) (r0 [] [(2,a)] [2] (lf (.l [] [] [a]) [0,1,2,4] [] [] (hf:=by rw[p];kernel_rfl)))
theorem Sk(g a b:Nat)(r:Rp)(d:aO r)(e:r.j.A≠0):aa Zl 212 #[pt g 0] [pk (au g a b r)] [0] (λE=>[pk (au g a b (cS r).1),bg (E.val 0) (cS r).2]) (λE=>E.val 0):=by
 obtain⟨m,⟨i,f,t,x⟩,q⟩:=r;rcases d.j.k with h | ⟨c,h⟩ | ⟨c,h⟩
 ·cases h;exact absurd rfl e
 ·cases c;exact Si g a b m f t x q d h
 ·cases c;exact Sj g a b m f t x q d h
theorem Sm(g a b:Nat)(r:Rp)(d:aO r)(c:r.j.A≠0):aa Zl 212 #[pt g 0] (qG g a b r) [0,1,2] (λE=>qG g a b (cS r).1++[bg (E.val 0) (cS r).2]) (λE=>E.val 0):=(Sk g a b r d c).unpk (N:=λE=>[bg (E.val 0) (cS r).2])
theorem bz{r:Rp}(a:r.j.A≠0):((r.j.A:Int)==0)=false:=by rw[db];omega
theorem Sn(g a b:Nat)(r:Rp)(d:aO r)(h:r.j.A≠0)(t:r.j.nx<eH r.j.A r.m.B r.m.M r.m.C)(p:kN r.m (bu r).j=true):aa Zl 165 #[pt g 0] [pk (au g a b r)] [0] (λE=>[pk (au g a b (cS (bu r)).1),bg (E.val 0) ((cS (bu r)).2)]) (λE=> .tuple #[(E.val 0),i6 0]):=aa.pkW (n:=1) (N:=λE=>[bg (E.val 0) ((cS (bu r)).2)]) (enters_of Tryz.func165 Kr rfl) λL o=>by
 obtain⟨rfl⟩:=o;refine⟨[0,1,2],λ_=>[ob g #[pt a 0,iN ((cS (bu r)).1.j.A),iN ((cS (bu r)).1.j.fr),iN ((cS (bu r)).1.j.tg),iN ((cS (bu r)).1.j.nx),pt b 0] 133,pk (aH a (cS (bu r)).1.m),pk (bJ b (cS (bu r)).1.q)],?_,rfl,λE=>⟨rfl,rfl,rfl⟩⟩;have f:=d.m;have B:=d.j;have y:=d.n;have A:=f.O;have u:=f.ly;have v:=f.np;have i:r.j.A=1∨r.j.A=2:=tn d h;have x:r.j.nx≤4096:=FI d;refine fG Tryz.func165 λw z=>r0 [] [(2,.slice none 0 0),(3,i6 0)] [] (r0 [(1,.c [0,1,2] [1,2] (mP g a b r))] [(6,.bool (!((r.j.A:Int) != 0)))] [] ?_);have k:(!((r.j.A:Int) != 0))=false:=by(rw[bne,bz h];rfl)
 exact cF (!((r.j.A:Int) != 0)) k (rs [(4,.l 0),(5,ad r.j.nx 1),(9,.s 0)] 0 (ob g #[pt a 0,iN r.j.A,iN r.j.fr,iN r.j.tg,iN (r.j.nx+1),pt b 0] 133) (rF [(3,.l 0),(7,.l 0),(8,.c [1] [1] (jt a r.m f)),(9,.c [] [] (aa.v ((FD r.m f r.j.A r.j.fr r.j.tg (r.j.nx+1) i)) λ_=>ALca Value.bool (show(kN r.m ⟨r.j.A,r.j.fr,r.j.tg,(r.j.nx+1)⟩)=true from(by exact p))))] 26 (cl [ob g #[pt a 0,iN ((bu r).j.A),iN ((bu r).j.fr),iN ((bu r).j.tg),iN ((bu r).j.nx),pt b 0] 133,pk (aH a r.m),pk (bJ b r.q)] (by skip;kernel_rfl) (cl [ob g #[pt a 0,iN ((bu r).j.A),iN ((bu r).j.fr),iN ((bu r).j.tg),iN ((bu r).j.nx),pt b 0] 133,pk (aH a (bu r).m),pk (bJ b r.q)] (by skip;kernel_rfl) (cl [ob g #[pt a 0,iN ((bu r).j.A),iN ((bu r).j.fr),iN ((bu r).j.tg),iN ((bu r).j.nx),pt b 0] 133,pk (aH a (bu r).m),pk (bJ b (bu r).q)] (by skip;kernel_rfl) (rr (λ_=>[(1,.c [0,1,2] [0,1,2,3] (Sm g a b (bu r) (qF d h t) h))]) (λe=>[(2,(e 1).val 0),(3,i6 0)]) [2,3] (λe L=>((L.set 0 (ob g #[pt a 0,iN ((cS (bu r)).1.j.A),iN ((cS (bu r)).1.j.fr),iN ((cS (bu r)).1.j.tg),iN ((cS (bu r)).1.j.nx),pt b 0] 133)).set 1 ((pk (aH a (cS (bu r)).1.m)))).set 2 ((pk (bJ b (cS (bu r)).1.q)))++[bg ((e 1).val 0) ((cS (bu r)).2)]) λe=>lf (.l [] [] [((e 1).val 0),(e 1).val 0]) [0,1,2,3] [] []))))))
theorem So(g a b:Nat)(r:Rp)(e:aO r)(h:r.j.A≠0)(x:r.j.nx<eH r.j.A r.m.B r.m.M r.m.C)(m:kN r.m (bu r).j=false):aa Zl 165 #[pt g 0] [pk (au g a b r)] [0] (λE=>[pk (au g a b (bu r)),bg (E.val 0) ([])]) (λE=> .tuple #[(E.val 0),i6 0]):=aa.pkW (n:=1) (N:=λE=>[bg (E.val 0) ([])]) (enters_of Tryz.func165 Kr rfl) λL k=>by
 obtain⟨rfl⟩:=k;refine⟨[0,1,2],λ_=>[ob g #[pt a 0,iN r.j.A,iN r.j.fr,iN r.j.tg,iN (r.j.nx+1),pt b 0] 133,pk (aH a r.m),pk (bJ b r.q)],?_,rfl,λE=>⟨rfl,rfl,rfl⟩⟩;have d:=e.m;have y:=e.j;have t:=e.n;have v:=d.O;have o:=d.ly;have p:=d.np;have f:r.j.A=1∨r.j.A=2:=tn e h;have q:r.j.nx≤4096:=FI e;refine fG Tryz.func165 λw u=>r0 [] [(2,.slice none 0 0),(3,i6 0)] [] (r0 [(1,.c [0,1,2] [1,2] (mP g a b r))] [(6,.bool (!((r.j.A:Int) != 0)))] [] ?_);have i:(!((r.j.A:Int) != 0))=false:=by(rw[bne,bz h];rfl)
 exact cF (!((r.j.A:Int) != 0)) i (rs [(4,.l 0),(5,ad r.j.nx 1),(9,.s 0)] 0 (ob g #[pt a 0,iN r.j.A,iN r.j.fr,iN r.j.tg,iN (r.j.nx+1),pt b 0] 133) (rT [(3,.l 0),(7,.l 0),(8,.c [1] [1] (jt a r.m d)),(9,.c [] [] (aa.v ((FD r.m d r.j.A r.j.fr r.j.tg (r.j.nx+1) f)) λ_=>ALca Value.bool (show(kN r.m ⟨r.j.A,r.j.fr,r.j.tg,(r.j.nx+1)⟩)=false from(by exact m))))] 26 (r0 [] [(2,.slice none 0 0),(3,i6 0)] [2,3] (cz jv (lf (.l [] [] [.slice none 0 0]) [0,1,2,3] [] [])))))
theorem Sp(g a b:Nat)(r:Rp)(f:aO r)(c:r.j.A≠0)(e:r.j.nx<eH r.j.A r.m.B r.m.M r.m.C):aa Zl 165 #[pt g 0] [pk (au g a b r)] [0] (λE=>[pk (au g a b (eR r).1),bg (E.val 0) (eR r).2]) (λE=> .tuple #[E.val 0,i6 0]):=by
 unfold eR;cases d:kN r.m (bu r).j with
 | true=>exact Sn g a b r f c e d
 | false=>exact So g a b r f c e d
theorem Sq(a b:Nat):decide ((a:Int)<(b:Int))=decide (a<b):=by
 by_cases h:a<b
 ·rw[cC h,cC Om]
 ·rw[bl h,bl Om]
structure Bk where
 l:Nat
 a:Nat
deriving DecidableEq
def bj:Bk:=⟨0,0⟩
def Ad(x:Bk):List Value:=[iN x.l,iN x.a]
def lE:Kd Zl Bk:=⟨Ad,[i6 0,i6 0],292,290,bj,2,λ_=>rfl,rfl,λ_=>rfl,ec.mk' Kr Kr rfl⟩
abbrev kO(v:Value)(xs:List Bk):aB:= .p (ar Ad ([i6 0,i6 0]) 290 v xs)
structure iX (lim ev:Nat):Prop where
 l1:1≤lim
 l2:lim≤65536
 e1:1≤ev
 e2:ev≤65536
structure fb (ev:Nat) (l a:Nat):Prop where
 l:l≤65536
 a:a<ev
def ko(n a b:Int):Bool:=decide (a≤n)&&decide (n≤b)
def h8(l e:Int):Bool:=ko l 1 65536&&ko e 1 65536
theorem FN{l e:Int}(h:h8 l e=true): ∃a b:Nat,l=a∧e=b∧iX a b:=by
 unfold h8 ko at h;simp only[Zt,decide_eq_true_eq] at h;exact⟨l.toNat,e.toNat,by omega,by omega,by omega,by omega,by omega,by omega⟩
theorem iX.r{a b:Nat}(h:iX a b):h8 a b=true:=by
 have:=h.l1;have:=h.l2;have:=h.e1;have:=h.e2;unfold h8 ko;simp only[Zt,decide_eq_true_eq];omega
def b4(l n:Nat):Nat:=l+min n (65536-l)
def cU(a l n:Nat):Bool:=decide (l<a)&&decide (a≤b4 l n)
def iD(ev l a:Nat):Nat:=if 1<ev-a then l else l-1
def iE(ev l a:Nat):Nat:=if 1<ev-a then a+1 else 0
theorem FO{ev l a n:Nat}(h:fb ev l a):fb ev (b4 l n) a:=⟨by have:=h.l;unfold b4;omega,h.a⟩
theorem FP{ev l a:Nat}(h:fb ev l a):fb ev (iD ev l a) (iE ev l a):=by
 have:=h.l;have:=h.a;unfold iD iE
 constructor<;>split<;>omega
theorem wg(n a b:Int):aa Zl 174 #[i6 n,i6 a,i6 b] [] [] N0 (λ_=> .bool (ko n a b)):=by
 exact fG Tryz.func174 λw c=>r0 [] [(6,.bool false)] [] (r0 [] [(6,.bool ((decide (a≤n))&&(decide (n≤b))))] [6] (ao (.bool ((decide (a≤n))&&(decide (n≤b)))) ab.zero bc [] [] []))
theorem Ae(l e:Int):aa Zl 136 #[.agg #[i6 l,i6 e]] [] [] N0 (λ_=> .bool (h8 l e)):=by
 exact fG Tryz.func136 λw b=>ra (λa=>[(1,pt (B0 a) 0),(2,.bool false)]) (λa=>[ob (B0 a) #[i6 l,i6 e] 27]) λa=>r0 [(1,.l 0),(2,.c [] [] (wg l 1 65536)),(5,.l 0),(6,.c [] [] (wg e 1 65536))] [(2,.bool ((ko l 1 65536)&&(ko e 1 65536)))] [2] (ao (.bool ((ko l 1 65536)&&(ko e 1 65536))) ab.zero bc [] [] [])
theorem Sr(a b:Nat)(h:iX a b):aa Zl 136 #[.agg #[iN a,iN b]] [] [] N0 (λ_=> .bool true):=by
 have c:=Ae a b;rwa [h.r] at c
theorem FQ(d b l a:Nat)(f:iX d b)(g:fb b l a):aa Zl 260 #[.agg #[iN l,iN a],.agg #[iN d,iN b]] [] [] N0 (λ_=> .bool true):=by
 have i:=g.l;have j:=g.a;have k:=f.e2;exact fG Tryz.func260 λw h=>ra (λe=>[(2,pt (B0 e) 0),(3,pt (B1 e) 0),(4,.bool false)]) (λe=>[ob (B0 e) #[iN l,iN a] 290,ob (B1 e) #[iN d,iN b] 27]) λe=>r0 [(0,.m (ls 1 ([iN d,iN b]))),(1,.c [] [] (Sr d b f)),(4,.m (ld 0 (iN l))),(5,.c [] [] (wg (l:Int) 0 65536)),(9,.m (ld 0 (iN a))),(11,.m (ld 1 (iN b))),(12,sI (b:Int) (1) Om),(13,.c [] [] (wg (a:Int) 0 ((b:Int)-1)))] [(4,.bool ((ko (l:Int) 0 65536)&&(ko (a:Int) 0 ((b:Int)-1))))] [4] (ao (.bool ((ko (l:Int) 0 65536)&&(ko (a:Int) 0 ((b:Int)-1)))) ab.zero (by exact ALca Value.bool (by unfold ko;simp only[Zt,decide_eq_true_eq];omega)) [] [] [])
theorem FR(d f l a n:Nat)(g:iX d f)(i:fb f l a)(o:n≤65536):aa Zl 237 #[.agg #[iN l,iN a],.agg #[iN d,iN f],iN n] [] [] N0 (λ_=> .tuple #[.agg #[iN (b4 l n),iN a],.bool (cU d l n)]):=by
 have k:=i.l;have h:=g.l2;refine fG Tryz.func237 λw j=>ra (λe=>[(3,pt (B0 e) 0),(4,pt (B1 e) 0),(6,pt (B2 e) 0),(7,.bool false)]) (λe=>[ob (B0 e) #[iN l,iN a] 290,ob (B1 e) #[iN d,iN f] 27,ob (B2 e) #[i6 0,i6 0] 290]) λe=>r0 [(0,.l 0),(1,.l 1),(2,.c [] [] (FQ d f l a g i))] [(16,.bool (decide ((n:Int)<0)))] [] ?_;have h:(decide ((n:Int)<0))=false:=by exact bl Om
 exact cF (decide ((n:Int)<0)) h (r0 [(1,.l 0)] [(8,iN l)] [] (rs [(1,.l 0),(4,.l 0),(5,sI 65536 ((l:Int)) Om),(6,.t (tv (Builtin.min_ #[3,3] 3 #[iN n,i6 (65536-(l:Int))]) (λ_=>JQ _ _ _ _))),(7,.t (tv (av .add 3 (.tmp 21) (.tmp 26) (iN l) (i6 (min (n:Int) (65536-(l:Int))))) (λ_=>dM (b:=((b4 l n:Nat):Int)) (ry Om Om) (by unfold b4;omega)))),(9,.s 0)] 0 (ob (B0 e) #[iN (b4 l n),iN a] 290) (rr (λ_=>[(0,.m (ls 0 ([iN (b4 l n),iN a]))),(3,.m (ld 1 (iN d))),(7,.m (ld 0 (iN (b4 l n)))),(9,.m (ld 1 (iN d))),(12,.s 2)]) (λ_=>[(7,.bool ((decide ((l:Int)<(d:Int)))&&(decide ((d:Int)≤((b4 l n:Nat):Int)))))]) [7] (λ_ L=>L.set 2 (ob (B2 e) #[iN (b4 l n),iN a] 290)) λp=>ao (.tuple #[.agg #[iN (b4 l n),iN a],.bool ((decide ((l:Int)<(d:Int)))&&(decide ((d:Int)≤((b4 l n:Nat):Int))))]) ab.zero (by unfold cU;rw[←zV,←Sq]) [] [] [2])))
theorem Ss(g e l a:Nat)(h:iX g e)(j:fb e l a):aa Zl 244 #[.agg #[iN l,iN a],.agg #[iN g,iN e],i6 1] [] [] N0 (λ_=> .agg #[iN (iD e l a),iN (iE e l a)]):=by
 have o:=j.l;have p:=j.a;have q:=h.e2;have r:=h.e1;refine fG Tryz.func244 λw n=>ra (λf=>[(3,pt (B0 f) 0),(4,pt (B1 f) 0),(6,pt (B2 f) 0)]) (λf=>[ob (B0 f) #[iN l,iN a] 290,ob (B1 f) #[iN g,iN e] 27,ob (B2 f) #[i6 0,i6 0] 290]) λf=>rF [(0,.l 0),(1,.l 1),(2,.c [] [] (FQ g e l a h j))] 15 (r0 [(1,.l 1),(3,.l 0),(4,.t (tb (a:=iN e) (b:=iN a) λ_ _ _ _=>ma (a:=e) (b:=a) Om Om))] [(7,iN (e-a))] [] (r0 [] [(24,.bool (decide (1<((e-a:Nat):Int))))] [] ?_));refine cj 1 ((e-a:Nat):Int) (λk i=>?_) λk i=>?_
 ·exact rr (λ_=>[(1,.l 0),(3,ad a 1),(5,.s 0)]) N0 [] (λ_ L=>L.set 0 (ob (B0 f) #[iN l,iN (a+1)] 290)) λu=>rs [(0,.l 0),(1,.s 2)] 2 (ob (B2 f) #[iN l,iN (a+1)] 290) (ao (.agg #[iN l,iN (a+1)]) ab.zero (by unfold iD iE;(rw[ALifp (show 1<e-a by omega),ALifp (show 1<e-a by omega)])) [] [] [2])
 exact r0 [(2,.t (tv (av .sub 3 (.tmp 31) (.tmp 32) (i6 1) (iN (e-a))) (λ_=>dM (b:=0) (rz Om Om) Om)))] [(2,i6 0)] [2] (rs [(2,.l 1),(3,.t (tv (av .rem 3 (.tmp 34) (.tmp 36) (i6 0) (iN e)) (λ_=>dM (b:=0) (nZ (a:=0) (d:=e) Om) (by simp)))),(5,.s 0)] 0 (ob (B0 f) #[iN l,i6 0] 290) (rs [(1,.m (ld 0 (iN l))),(2,sI (l:Int) (1) Om),(5,.m (ld 1 (iN e))),(6,.t (tv (av .quo 3 (.tmp 42) (.tmp 44) (i6 0) (iN e)) (λ_=>dM (b:=0) (oR (a:=0) (d:=e) Om Om) (by simp)))),(8,sI ((l:Int)-1) (0) Om),(9,.t (tv (Builtin.max_ #[3,3] 3 #[i6 0,i6 (((l:Int)-1)-0)]) (λ_=>r9 _ _ _ _))),(11,.s 0)] 0 (ob (B0 f) #[i6 (max 0 (((l:Int)-1)-0)),i6 0] 290) (rs [(0,.l 0),(1,.s 2)] 2 (ob (B2 f) #[i6 (max 0 (((l:Int)-1)-0)),i6 0] 290) (ao (.agg #[i6 (max 0 (((l:Int)-1)-0)),i6 0]) ab.zero (by unfold iD iE;(rw[ALifn (show ¬1<e-a by omega),ALifn (show ¬1<e-a by omega)];exact ALca (λz:Int=>Value.agg #[i6 z,i6 0]) Om)) [] [] [2]))))
theorem FT(d b l a:Nat)(f:iX d b)(g:fb b l a):aa Zl 208 #[.agg #[iN l,iN a],.agg #[iN d,iN b]] [] [] N0 (λ_=> .agg #[iN (iD b l a),iN (iE b l a)]):=by
 exact fG Tryz.func208 λw h=>ra (λe=>[(2,pt (B0 e) 0),(3,pt (B1 e) 0),(4,pt (B2 e) 0)]) (λe=>[ob (B0 e) #[iN l,iN a] 290,ob (B1 e) #[iN d,iN b] 27,ob (B2 e) #[i6 0,i6 0] 290]) λe=>rs [(0,.l 0),(1,.l 1),(2,.c [] [] (Ss d b l a f g)),(3,.s 2)] 2 (ob (B2 e) #[iN (iD b l a),iN (iE b l a)] 290) (lf ab.zero [] [] [2])
structure Re where
 s:Nat
 t:Nat
 k:Nat
 i:Nat
 o:Nat
deriving DecidableEq
def tq:Re:=⟨0,0,0,0,0⟩
def qJ(x:Re):List Value:=[iN x.s,iN x.t,iN x.k,iN x.i,iN x.o]
def iF:Kd Zl Re:=⟨qJ,[i6 0,i6 0,i6 0,i6 0,i6 0],41,59,tq,5,λ_=>rfl,rfl,λ_=>rfl,ec.mk' Kr Kr rfl⟩
abbrev iG(v:Value)(xs:List Re):aB:= .p (ar qJ ([i6 0,i6 0,i6 0,i6 0,i6 0]) 59 v xs)
def a1{α:Type}(p:α→Bool):List α→Nat
 | []=>0
 | x::xs=>bif p x then 0 else a1 p xs+1
def iH{α:Type}(p:α→Bool)(xs:List α):Int:=if a1 p xs=xs.length then -1 else(a1 p xs:Int)
theorem py{α:Type}(p:α→Bool): ∀xs:List α,a1 p xs≤xs.length
 | []=>ZB _
 | x::xs=>by
  unfold a1;cases p x with
  | true=>exact Zz _
  | false=>exact ZJ (py p xs)
theorem FU{α:Type}{p:α→Bool}{d:α}: ∀{xs:List α},(∀j,j<xs.length→p (xs.getD j d)=false)→a1 p xs=xs.length
 | [],_=>rfl
 | x::xs,h=>by
  unfold a1;rw[show p x=false from h 0 (aad _),ALcf,FU (d:=d) λj a=>h (j+1) (Z7 a)];rfl
theorem FV{α:Type}{p:α→Bool}{d:α}: ∀{xs:List α} {k:Nat},k<xs.length→(∀j,j<k→p (xs.getD j d)=false)→p (xs.getD k d)=true→a1 p xs=k
 | [],k,b,_,_=>by cases b
 | x::xs,0,_,_,a=>by
  unfold a1;rw[show p x=true from a];rfl
 | x::xs,k+1,b,h,a=>by
  unfold a1;rw[show p x=false from h 0 (aad _),ALcf,FV (d:=d) (Nat.lt_of_succ_lt_succ b) (λj c=>h (j+1) (Z7 c)) a]
theorem FW{α:Type}{p:α→Bool}{d:α}{xs:List α}(h: ∀j,j<xs.length→p (xs.getD j d)=false):iH p xs= -1:=by unfold iH;rw[ALifp (FU h)]
theorem FX{α:Type}{p:α→Bool}{d:α}{xs:List α}{k:Nat}(a:k<xs.length)(h: ∀j,j<k→p (xs.getD j d)=false)(h1:p (xs.getD k d)=true):iH p xs=(k:Int):=by
 unfold iH;rw[FV a h h1,ALifn Om]
def cZ(x:Re):Bool:= !((x.k:Int)==2)
structure Lg where
 l:List Re
 I:Nat
 next:Nat
 lost:Bool
structure gb (g:Lg):Prop where
 l:g.l.length≤g.I
 r1:1≤g.I
 r:g.I≤256
 n:g.next≤1000000000
abbrev az(g:Nat)(c:Lg)(L:aj):Prop:=∃v:Value,L=[ob g #[v,iN c.I,iN c.next,.bool c.lost] 124,iG v c.l]
def qK(x:Re)(n:Nat):Re:={x with s:=n}
def bW(c:Lg)(x:Re):Lg:=
 if c.l.length=c.I then
  (if cZ x=true∨a1 cZ c.l=c.l.length then{c with next:=c.next+1,lost:=true}
   else{c with l:=c.l.eraseIdx (a1 cZ c.l)++[qK x c.next],next:=c.next+1,lost:=true})
 else{c with l:=c.l++[qK x c.next],next:=c.next+1}
def FY(c:Lg)(x:Re):Bool:= !(decide (c.l.length=c.I)&&(cZ x||decide (a1 cZ c.l=c.l.length)))
def nA(c:Lg):Lg:={c with l:=[],lost:=false}
def pz(room:Nat):Lg:=⟨[],room,1,false⟩
theorem wh(x:Re):aa Zl 19 #[.agg #[iN x.s,iN x.t,iN x.k,iN x.i,iN x.o]] [] [] N0 (λ_=> .bool ((x.k:Int)==2)):=by
 exact fG Tryz.func19 λw cs=>ra (λa=>[(1,pt (B0 a) 0),(2,.bool false)]) (λa=>[ob (B0 a) #[iN x.s,iN x.t,iN x.k,iN x.i,iN x.o] 59]) λa=>r0 [(1,.l 0)] [(2,.bool ((x.k:Int)==2))] [2] (lf ab.zero [] [] [])
theorem Su(x:Re):aa Zl 277 #[.agg #[iN x.s,iN x.t,iN x.k,iN x.i,iN x.o]] [] [] N0 (λ_=> .bool (cZ x)):=by
 exact fG Tryz.func277 λw cs=>ra (λa=>[(1,pt (B0 a) 0),(2,.bool false)]) (λa=>[ob (B0 a) #[iN x.s,iN x.t,iN x.k,iN x.i,iN x.o] 59]) λa=>r0 [(0,.l 0),(1,.c [] [] (wh x))] [(2,.bool (!((x.k:Int)==2)))] [2] (ao (.bool (!((x.k:Int)==2))) ab.zero bc [] [] [])
theorem Sw(v:Value)(xs:List Re)(l:xs.length≤1000000):aa Zl 276 #[v,.func (.func 277) #[] #[]] [.p (aK qJ v xs)] [] N0 (λ_=>i6 (iH cZ xs)):=by
 refine fO Tryz.func276 0 rfl λe a=>fG Tryz.func276 λw cs=>r0 [] [(4,i6 0)] [] (r0 [(1,eP a.1 0)] [(7,iN xs.length),(8,i6 0)] [] ?_);refine lq (λk=>k≤xs.length∧(∀j,j<k→cZ (xs.getD j tq)=false)) (λk=>[(8,iN k)]) (λ_ L=>L) (λk=>xs.length-k) 0 ⟨by omega,(λ_ h=>absurd h (Z9 _))⟩ Kr Kr (λk ⟨i,d⟩=>?_);refine r0 [] [(9,.bool (decide ((k:Int)<(xs.length:Int))))] [] ?_;refine cj (k:Int) (xs.length:Int) (λf b=>?_) λf b=>?_
 ·refine r0 [] [(5,iN k)] [] (r0 [(3,fv a.1 0 k 5),(4,nb iF a.1 0 k 0 5),(5,.c [] [] (Su (xs.getD k tq)))] [(16,.bool (cZ (xs.getD k tq)))] [] ?_);refine cB (cZ (xs.getD k tq)) (λg=>?_) λg=>?_
  ·exact r0 [] [(4,iN k)] [] (ao (iN k) ab.zero (by(rw[FX Om d As];done)) [] [(0,0)] [])
  exact r0 [(0,ad k 1)] [(8,iN (k+1))] [8] (le (k+1) ⟨by omega,zY d As⟩ Om Kr [0] Kr)
 obtain rfl:xs.length=k:=by omega
 exact lx (r0 [] [(4,i6 (-1))] [] (ao (i6 (-1)) ab.zero (by(rw[FW d];done)) [] [(0,0)] []))
theorem FZ(g:Nat)(c:Lg):aa Zl 20 #[pt g 0] [pk (az g c)] [0] (λ_=>[pk (az g c)]) (λ_=>iN c.l.length):=aa.pkZ Tryz.func20 λL a=>by
 obtain⟨v,rfl⟩:=a;refine⟨[1],λ_=>[iG v c.l],?_,rfl,λE=>⟨rfl,rfl,⟨_,rfl⟩⟩⟩;exact fG Tryz.func20 λw cs=>r0 [] [(2,i6 0)] [] (r0 [(3,.l 0),(4,fu iF v c.l 1)] [(2,iN c.l.length)] [2] (lf ab.zero [1] [(0,0)] []))
theorem Af(g:Nat)(v:Value)(l:List Re)(room next:Nat)(lost:Bool)(d:l.length≤1000000):aa Zl 258 #[pt g 0] [ob g #[v,iN room,iN next,.bool lost] 124,.p (aK qJ v l)] [] N0 (λ_=>i6 (iH cZ l)):=by
 exact fO Tryz.func258 1 rfl λa b=>fG Tryz.func258 λw cs=>r0 [] [(2,i6 0)] [] (r0 [(3,.l 0),(4,.c [1] [] (aa.at (rd':=[.c a]) (Sw v l Om) (eD b (λ_ h=>h))))] [(2,i6 (iH cZ l))] [2] (lf ab.zero [] [(0,0),(1,1)] []))
theorem Sx(g:Nat)(v:Value)(l:List Re)(room next:Nat)(lost:Bool)(b:l.length≤1000000)(h:a1 cZ l<l.length):aa Zl 258 #[pt g 0] [ob g #[v,iN room,iN next,.bool lost] 124,.p (aK qJ v l)] [] N0 (λ_=>iN (a1 cZ l)):=by
 have a:=Af g v l room next lost b
 unfold iH at a;rwa [ALifn Om] at a
theorem Sz(g:Nat)(v:Value)(l:List Re)(room next:Nat)(lost:Bool)(b:l.length≤1000000)(h:a1 cZ l=l.length):aa Zl 258 #[pt g 0] [ob g #[v,iN room,iN next,.bool lost] 124,.p (aK qJ v l)] [] N0 (λ_=>i6 (-1)):=by
 have a:=Af g v l room next lost b
 unfold iH at a;rwa [ALifp h] at a
theorem SA(room:Nat)(h1:1≤room)(h2:room≤256):aa Zl 139 #[iN room] [] [] (λE=>[ob (E.y 0) #[.slice none 0 0,iN room,i6 1,.bool false] 124]) (λE=> .tuple #[pt ((E.y 0)) 0,i6 0]):=by
 refine fG Tryz.func139 λw cs=>r0 [] [(2,.pointer none),(3,i6 0)] [] (r0 [] [(9,.bool ((decide ((room:Int)<1))||(decide (256<(room:Int)))))] [] ?_);have b:((decide ((room:Int)<1))||(decide (256<(room:Int))))=false:=by rw[ZD];exact⟨bl Om,bl Om⟩
 exact cF ((decide ((room:Int)<1))||(decide (256<(room:Int)))) b (rr N0 (λa=>[(2,pt (B2 a) 0),(3,i6 0)]) [2,3] (λa L=>L++[ob (B2 a) #[.slice none 0 0,iN room,i6 1,.bool false] 124]) λa=>lf (.l [(a 2).y 0] [] []) [0] [] [])
theorem Ag{α:Type}{en:α→List Value}{z:List Value}{T:TypeId}{S:aj→Prop}{L:aj}{ds:List ay}(b:S (L++[.p (ar en z T (.slice none 0 0) ([]:List α))]))(h:bt L ds): ∃a,bt [pk S] a∧a.flatten=ds.flatten:=
 ⟨[ds.flatten],⟨⟨_,ds++[[]],b,kx h ⟨ar.nil none,trivial⟩,by simp⟩,trivial⟩,by simp⟩
theorem SB(room:Nat)(h1:1≤room)(h2:room≤256):aa Zl 139 #[iN room] [] [] (λE=>[pk (az (E.y 0) (pz room))]) (λE=> .tuple #[pt (E.y 0) 0,i6 0]):=(SA room h1 h2).outs λE b a=>Ag ⟨_,rfl⟩ a
theorem SC(g:Nat)(c:Lg):aa Zl 167 #[pt g 0] [pk (az g c)] [0] (λ_=>[pk (az g (nA c))]) (λ_=>iN c.l.length):=aa.pkZ Tryz.func167 λL a=>by
 obtain⟨v,rfl⟩:=a;refine⟨[0,1],λ_=>[ob g #[.slice none 0 0,iN c.I,iN c.next,.bool false] 124,iG (.slice none 0 0) ([])],?_,rfl,λE=>⟨rfl,rfl,⟨_,rfl⟩⟩⟩;exact fG Tryz.func167 λw cs=>r0 [] [(2,i6 0)] [] (r0 [(3,.l 0),(4,fu iF v c.l 1)] [(3,iN c.l.length)] [] (rs [(4,.s 0),(7,.s 0)] 0 (ob g #[.slice none 0 0,iN c.I,iN c.next,.bool false] 124) (r0 [] [(2,iN c.l.length)] [2] (cz iF (lf ab.zero [0,2] [] [])))))
section
open Go.Lib
theorem F0{P:Program}{p:Array Oper}{o:Oper}{a:Act}{w:World}{K:Act→World→Prop}{Q:Exit→Act→World→Prop}{E:Prop}
  (B:o.guard=none) (s x:Operand) (t:TypeId) (v:o.op=Op.call {callee:=Callee.builtin Builtin.append,args:=#[s,x],argTypes:=#[t,t]})
  (e:TypeId) (i:TypeInfo) (b:Nat) (h1:P.underlying t=some (.slice e)) (h2:P.info? e=some i) (z:i.size=b)
  (g n f:Nat) (d:Array Value) (r:w.heap[g]? =some (.cells d e (0,0))) (hs:a.eval s= .slice (some ⟨g,0,none⟩) n f)
  (ad:Addr) (m c:Nat) (news:List Value) (F:a.eval x= .slice (some ad) m c) (C:news.length=m*b) (A: ∀j u,news[j]? =some u→w.cell? (ad.add j)=some u) (q: ∀u∈news,u.oneCell'=true)
  (h:n+m≤f) (k:n*b+news.length≤d.size)
  (y:K (a.put o.dst (.slice (some ⟨g,0,none⟩) (n+m) f)) (w.setRow g (d.toList.take (n*b)++news++d.toList.drop (n*b+news.length)).toArray)):
  if Region.wanted o (yielded p a.tmps)=true then Oper.wp P o a w K Q else E:=by
 have D:Region.wanted o (yielded p a.tmps)=true:=by simp [Region.wanted,B]
 rw[ALifp D];subst z;have l:=run_append_room (P:=P) w t o.type e i h1 h2 g n f d r ad m c news C A q h k;unfold Oper.wp;simp [execOp,v,resolve,invoke,builtin,hs,F,l,Result.andThen];rw[Zr] at y;exact y
theorem F1{P:Program}{T' e y t:TypeId}{z:List Value}{w:World}{g off m c:Nat}{cs:Array Value}(p:ec P T' e z)(q:w.heap[g]? =some (.cells cs t (0,0)))(B:0<m)(A:off+m*z.length≤cs.size)(h1: ∀u∈z,u.oneCell'=true):
  (Builtin.clear_ #[T'] y #[.slice (some ⟨g,off,none⟩) m c]).run P w= .ok (.tuple #[]) (w.setRow g (cs.toList.take off++(Zm m z).flatten++cs.toList.drop (off+m*z.length)).toArray):=by
 obtain⟨v,⟨i,n,s,x,C,b,r⟩,o⟩:=p;have j:0<n.cells.size:=by rw[←Array.length_toList,b];exact o
 have h:(zeroValue e).run P w= .ok n w:=by simp [zeroValue,typeInfo,s,x]
 have d:=rU z m;have a:=run_storeCells_at P g off t (Zm m z).flatten 0 cs w q (by rw[d];omega) (λu f=>by
  obtain⟨l,d,f⟩:=List.mem_flatten.1 f;rw[List.eq_of_mem_replicate d] at f;exact h1 u f)
 simp only[Nat.add_zero] at a;obtain⟨m,rfl⟩: ∃k,m=k+1:=⟨m-1,by omega⟩;rw[d] at a;simp [Builtin.clear_,run_underlying v,h,xO _ _ j,b,a]
set_option maxRecDepth 1000000 in
set_option maxHeartbeats 1000000 in
theorem SD(g n b i j:Nat)(w:World)(S:i<j)(R:j≤n)(H:n≤b)(a:Array Value)(x:w.heap[g]? =some (.cells a 59 (0,0)))(news:List Value)(d:news.length=(n-(j))*5)(m: ∀u∈news,u.oneCell'=true)(o: ∀t u,news[t]? =some u→w.cell? ⟨g,(j)*5+t,none⟩=some u)(k:i*5+news.length≤a.size)(C:n*5≤a.size):Calls Zl 259 #[.slice (some ⟨g,0,none⟩) n b,.int .i64 (i:Int),.int .i64 (j:Int)] w λe w'=>e= .returned (.slice (some ⟨g,0,none⟩) (n-(j-i)) b)∧w'=(w.drew.setRow g (a.toList.take (i*5)++news++a.toList.drop (i*5+news.length)).toArray).setRow g ((a.toList.take (i*5)++news++a.toList.drop (i*5+news.length)).toArray.toList.take ((i+(n-j))*5)++(Zm (n-(i+(n-j))) iF.z).flatten++(a.toList.take (i*5)++news++a.toList.drop (i*5+news.length)).toArray.toList.drop ((i+(n-j))*5+(n-(i+(n-j)))*5)).toArray:=by
 have F:Tryz.prog.follows .mixedOrders=true:=by kernel_rfl
 have P:i≤b:=by omega
 have Q:j≤b:=by omega
 obtain⟨V,Z,B,T,D,U,N⟩:=iF.hT.hi;obtain⟨A,hA,s⟩: ∃A:Addr,(if b=j then some (⟨g,0,none⟩:Addr) else some ⟨g,(j)*5,none⟩)=some A∧Hid (∀t u,news[t]? =some u→w.drew.cell? (A.add t)=some u):=by
  by_cases h:b=j
  ·refine⟨⟨g,0,none⟩,by simp [h],λt u v=>?_⟩;have K:news.length=0:=by rw[d];omega
   rw[List.length_eq_zero_iff.1 K] at v;simp at v
  ·exact⟨⟨g,(j)*5,none⟩,by simp [h],λt u v=>by rw[Addr.add_lit];exact o t u v⟩
 have W:Hid (news.length=(n-(j))*5):=d;have X:Hid (∀u∈news,u.oneCell'=true):=m;have Y:Hid (i*5+news.length≤a.size):=k;have I:Hid (w.drew.heap[g]? =some (.cells a 59 (0,0))):=x;obtain⟨p,q⟩: ∃p,p=w.drew.setRow g (a.toList.take (i*5)++news++a.toList.drop (i*5+news.length)).toArray:=⟨_,rfl⟩;have G:Hid (p=w.drew.setRow g (a.toList.take (i*5)++news++a.toList.drop (i*5+news.length)).toArray):=q;obtain⟨c,f⟩: ∃c,c=(a.toList.take (i*5)++news++a.toList.drop (i*5+news.length)).toArray:=⟨_,rfl⟩;have y:c.size=a.size:=by
  rw[f];simp only[Z0,Zn,Zq,Zx,Array.length_toList];omega
 have l:p.heap[g]? =some (.cells c 59 (0,0)):=by rw[q,←f];exact setRow_heap _ g a _ _ _ I.out
 obtain⟨z,r⟩: ∃z,z=p.setRow g (c.toList.take ((i+(n-j))*5)++(Zm (n-(i+(n-j))) iF.z).flatten++c.toList.drop ((i+(n-j))*5+(n-(i+(n-j)))*5)).toArray:=⟨_,rfl⟩;have O: ∀J,(Builtin.clear_ #[41] J #[.slice (some ⟨g,(i+(n-j))*5,none⟩) (n-(i+(n-j))) (b-(i+(n-j)))]).run Zl p= .ok (.tuple #[]) z:=λJ=>by
  rw[r];exact F1 iF.hT l Om (by show _+_*5≤_;rw[y];omega) (λu v=>by
   simp only[iF,ZR,ZC,or_false] at v;rcases v with rfl | rfl | rfl | rfl | rfl<;>rfl)
 have L:Hid (z=p.setRow g (c.toList.take ((i+(n-j))*5)++(Zm (n-(i+(n-j))) iF.z).flatten++c.toList.drop ((i+(n-j))*5+(n-(i+(n-j)))*5)).toArray):=r;have M:Hid (c=(a.toList.take (i*5)++news++a.toList.drop (i*5+news.length)).toArray):=f;clear q o d m k x r l y f
 go_enter Tryz.func259,Tryz.ntmps259
 go_wp2_with fail
 go_region_law_o (refine F0 rfl (.tmp 22) (.tmp 25) 41 rfl 59 V 5 iF.hT.ht B D g i b a I.out (by simp [Act.eval,Act.put]) A (n-(j)) (b-(j)) news (by simp [Act.eval,Act.put]) W.out s.out X.out Om Y.out ?_;rw[←G.out])
 go_wp2
 go_ret
 refine⟨by rw[show n-(j-i)=i+(n-j) by omega];rfl,?_⟩;rw[L.out,G.out,M.out]
theorem SE(A B C Z a:List Value)(h:B.length=a.length):
  ((A++(B++(C++Z))).take A.length++C++(A++(B++(C++Z))).drop (A.length+C.length)).take (A.length+C.length)++a++((A++(B++(C++Z))).take A.length++C++(A++(B++(C++Z))).drop (A.length+C.length)).drop (A.length+C.length+a.length)=A++C++(a++Z):=by
 have b:(A++(B++(C++Z))).take A.length=A:=List.take_left;have c:(A++(B++(C++Z))).drop (A.length+C.length)=(B++C).drop C.length++Z:=by
  rw[Z2,ZS Om,Z8,ZT,←Zr B,ZN (by rw[Zn];omega)]
 have d:((B++C).drop C.length).length=a.length:=by rw[Zx,Zn];omega
 rw[b,c];have e:(A++C++((B++C).drop C.length++Z)).take (A.length+C.length)=A++C:=List.take_left' (by rw[Zn]);have f:(A++C++((B++C).drop C.length++Z)).drop (A.length+C.length+a.length)=Z:=by
  rw[←Zr (A++C)];exact List.drop_left' (by rw[Zn,Zn,d])
 rw[e,f,Zr (A++C)]
theorem F2{P:Program}{f:FuncId}{α:Type}(K:Kd P α){v:Value}{xs:List α}{i:Nat}(N:Enters P f)(C:i<xs.length)
  (o: ∀(g k:Nat) (w:World) (a:Array Value) (news:List Value),xs.length≤k→w.heap[g]? =some (.cells a K.T (0,0))→news.length=(xs.length-(i+1))*K.k→(∀u∈news,u.oneCell'=true)→(∀t u,news[t]? =some u→w.cell? ⟨g,(i+1)*K.k+t,none⟩=some u)→i*K.k+news.length≤a.size→xs.length*K.k≤a.size→
   Calls P f #[.slice (some ⟨g,0,none⟩) xs.length k,.int .i64 (i:Int),.int .i64 ((i+1:Nat):Int)] w λe w'=>e= .returned (.slice (some ⟨g,0,none⟩) (xs.length-(i+1-i)) k)∧w'=(w.drew.setRow g (a.toList.take (i*K.k)++news++a.toList.drop (i*K.k+news.length)).toArray).setRow g ((a.toList.take (i*K.k)++news++a.toList.drop (i*K.k+news.length)).toArray.toList.take ((i+(xs.length-(i+1)))*K.k)++(Zm (xs.length-(i+(xs.length-(i+1)))) K.z).flatten++(a.toList.take (i*K.k)++news++a.toList.drop (i*K.k+news.length)).toArray.toList.drop ((i+(xs.length-(i+1)))*K.k+(xs.length-(i+(xs.length-(i+1))))*K.k)).toArray):
  aa P f #[v,.int .i64 (i:Int),.int .i64 ((i+1:Nat):Int)] [sl K v xs] [0] (λE=>[sl K (E.val 0) (xs.eraseIdx i)]) (λE=>E.val 0):=by
 refine⟨N,λw cs R Q=>?_⟩;obtain⟨bs,cs,rfl,y,l⟩:=eA R;have l:=oJ l;subst l;obtain⟨g,r,rfl,rfl⟩: ∃g r,v= .slice (some ⟨g,0,none⟩) xs.length (xs.length+r)∧bs=[(g,.cells (bH (ak K.en xs) K.z r) K.T (0,0))]:=by
  rcases y with⟨rfl,_,_⟩ | h
  ·cases C
  ·exact h
 have m:w.heap[g]? =some (.cells (bH (ak K.en xs) K.z r) K.T (0,0)):=Q.obj (g,_) (by simp);have F:=K.hz
 have hA:(ak K.en (xs.take i)).length=i*K.k:=fR K.hk (by rw[Zq];omega);have hC:(ak K.en (xs.drop (i+1))).length=(xs.length-(i+1))*K.k:=fR K.hk (by rw[Zx]);have hB:(K.en xs[i]).length=K.z.length:=(K.hk _).trans F;have j:(bH (ak K.en xs) K.z r).toList=ak K.en (xs.take i)++(K.en xs[i]++(ak K.en (xs.drop (i+1))++(Zm r K.z).flatten)):=by
  have e:xs=xs.take i++(xs[i]::xs.drop (i+1)):=by rw[←ZG C,ZU]
  have A:ak K.en xs=ak K.en (xs.take i)++(K.en xs[i]++ak K.en (xs.drop (i+1))):=by
   conv=>lhs;rw[e]
   rw[ky];rfl
  unfold bH;show ak K.en xs++_=_;rw[A,Zr,Zr]
 have G:(xs.length-(i+1))*K.k+i*K.k+K.k=xs.length*K.k:=by
  have:xs.length=(xs.length-(i+1))+i+1:=by omega
  conv=>rhs;rw[this]
  rw[ZE,ZE,Nat.one_mul]
 have s:(bH (ak K.en xs) K.z r).size=xs.length*K.k+r*K.k:=by
  rw[←Array.length_toList];unfold bH;rw[Zn,fR K.hk rfl,rU,←F]
 have B:=o g (xs.length+r) w (bH (ak K.en xs) K.z r) (ak K.en (xs.drop (i+1))) Om m hC (Ce K.one) (λt u H=>by
  have M:(bH (ak K.en xs) K.z r).toList[(i+1)*K.k+t]? =some u:=by
   rw[j,ZF (by rw[hA,ZE];omega),hA,ZF (by rw[K.hk,ZE];omega),K.hk,show(i+1)*K.k+t-i*K.k-K.k=t by rw[ZE];omega];have D:=(List.getElem?_eq_some_iff.1 H).1;rw[List.getElem?_append_left D];exact H
  rw[cell_of_row w g _ _ _ _ m,←Array.getElem?_toList];exact M) (by rw[hC,s];omega) (by rw[s];omega)
 refine(callsIn_wide (n:=6)).1 ((callsIn_wide.2 B).mono λe w' O=>?_);obtain⟨rfl,rfl⟩:=O;have q:(xs.eraseIdx i).length=xs.length-1:=by rw[Zy,ALifp C]
 have p:(((bH (ak K.en xs) K.z r).toList.take (i*K.k)++ak K.en (xs.drop (i+1))++(bH (ak K.en xs) K.z r).toList.drop (i*K.k+(ak K.en (xs.drop (i+1))).length)).toArray.toList.take ((i+(xs.length-(i+1)))*K.k)++(Zm (xs.length-(i+(xs.length-(i+1)))) K.z).flatten++((bH (ak K.en xs) K.z r).toList.take (i*K.k)++ak K.en (xs.drop (i+1))++(bH (ak K.en xs) K.z r).toList.drop (i*K.k+(ak K.en (xs.drop (i+1))).length)).toArray.toList.drop ((i+(xs.length-(i+1)))*K.k+(xs.length-(i+(xs.length-(i+1))))*K.k)).toArray=bH (ak K.en (xs.eraseIdx i)) K.z (r+1):=by
  have J:xs.length-(i+(xs.length-(i+1)))=1:=by omega
  have A:(i+(xs.length-(i+1)))*K.k=(ak K.en (xs.take i)).length+(ak K.en (xs.drop (i+1))).length:=by rw[hA,hC,ZE]
  have L:(Zm 1 K.z).flatten=K.z:=by simp
  rw[J,A,←hA,j,Nat.one_mul,L,F,ZL,SE _ _ _ _ _ hB];unfold bH;rw[List.eraseIdx_eq_take_drop_succ,ky,ZW,List.flatten_cons]
 rw[p];refine⟨ab.ov _,[[(g,.cells (bH (ak K.en (xs.eraseIdx i)) K.z (r+1)) K.T (0,0))]],rfl,⟨.inr ⟨g,r+1,?_,rfl⟩,trivial⟩,?_⟩
 ·show Value.slice _ _ _=_;rw[q,show xs.length-(i+1-i)=xs.length-1 by omega,show xs.length-1+(r+1)=xs.length+r by omega]
 ·have c:=a8.setRow (W:=w.drew) ((bH (ak K.en xs) K.z r).toList.take (i*K.k)++ak K.en (xs.drop (i+1))++(bH (ak K.en xs) K.z r).toList.drop (i*K.k+(ak K.en (xs.drop (i+1))).length)).toArray m;have d:=a8.setRow (bH (ak K.en (xs.eraseIdx i)) K.z (r+1)) (c.obj _ (List.mem_singleton.2 rfl));exact⟨d.os.trans c.os,d.tape.trans c.tape,d.output.trans c.output,Zu c.size d.size,by simpa using d.obj,λx I=>by simp at I;left;simp [I],by simp,λb y z=>by
   have z:b∉[g]:=by simpa using z
   exact(d.far b (Nat.lt_of_lt_of_le y c.size) z).trans (c.far b y z)⟩
theorem SF(v:Value)(xs:List Re)(i:Nat)(k:i<xs.length):aa Zl 259 #[v,iN i,iN (i+1)] [iG v xs] [0] (λE=>[iG (E.val 0) (xs.eraseIdx i)]) (λE=>E.val 0):=
 F2 iF (enters_of Tryz.func259 Kr rfl) k λg f w h e b j m l d c a=>SD g xs.length f i (i+1) w (ZK i) k b h j e m l d c a
end
theorem SG(g:Nat)(c:Lg)(x:Re)(d:gb c)(j:c.l.length≠c.I):aa Zl 235 #[pt g 0,.agg #[iN x.s,iN x.t,iN x.k,iN x.i,iN x.o]] [pk (az g c)] [0] (λ_=>[pk (az g {c with l:=c.l++[qK x c.next],next:=c.next+1})]) (λ_=> .tuple #[.agg #[iN c.next,iN x.t,iN x.k,iN x.i,iN x.o],.bool true]):=aa.pkZ Tryz.func235 λL e=>by
 obtain⟨v,rfl⟩:=e;refine⟨[0,1],λE=>[ob g #[(E.val 0),iN c.I,iN (c.next+1),.bool c.lost] 124,iG (E.val 0) (c.l++([(⟨c.next,x.t,x.k,x.i,x.o⟩:Re)]))],?_,rfl,λE=>⟨rfl,rfl,⟨_,rfl⟩⟩⟩;have f:=d.l;have k:=d.r;have i:=d.n;exact fG Tryz.func235 λw cs=>ra (λa=>[(3,pt (B0 a) 0),(4,pt (B1 a) 0),(5,.bool false)]) (λa=>[ob (B0 a) #[iN x.s,iN x.t,iN x.k,iN x.i,iN x.o] 59,ob (B1 a) #[i6 0,i6 0,i6 0,i6 0,i6 0] 59]) λa=>rs [(3,.l 0),(5,.s 2)] 2 (ob (B0 a) #[iN c.next,iN x.t,iN x.k,iN x.i,iN x.o] 59) (rs [(3,.l 0),(4,ad c.next 1),(7,.s 0)] 0 (ob g #[v,iN c.I,iN (c.next+1),.bool c.lost] 124) (rF [(3,.l 0),(4,fu iF v c.l 1),(8,.l 0),(9,.t (tk (show Value.bool ((c.l.length:Int)==(c.I:Int))= .bool false from ALca Value.bool (by rw[db];omega))))] 28 (rr (λb=>[(4,.l 0),(5,.l 2),(6,.m (bs 4 1)),(7,fC iF (v) c.l 1 4 ([(⟨c.next,x.t,x.k,x.i,x.o⟩:Re)])),(10,.m (fS 0 1 (iG ((b 7).val 0) (c.l++([(⟨c.next,x.t,x.k,x.i,x.o⟩:Re)]))) ((b 7).val 0) λbs h=>ar.one ((λ_ h=>h) bs h)))]) N0 [] (λb L=>(L.set 0 (ob g #[(b 7).val 0,iN c.I,iN (c.next+1),.bool c.lost] 124)).set 1 (iG ((b 7).val 0) (c.l++([(⟨c.next,x.t,x.k,x.i,x.o⟩:Re)])))++[ob (B6 b) #[iN c.next,iN x.t,iN x.k,iN x.i,iN x.o] 59]) λb=>rr (λ_=>[(0,.l 2),(1,.s 3)]) (λ_=>[(5,.bool true)]) [5] (λ_ L=>L.set 3 (ob (B1 a) #[iN c.next,iN x.t,iN x.k,iN x.i,iN x.o] 59)) λn=>lf (.l [] [] [(b 7).val 0]) [0,1] [] [3])))
theorem SH(g:Nat)(c:Lg)(x:Re)(b:gb c)(f:c.l.length=c.I)(i:cZ x=true):aa Zl 235 #[pt g 0,.agg #[iN x.s,iN x.t,iN x.k,iN x.i,iN x.o]] [pk (az g c)] [0] (λ_=>[pk (az g {c with next:=c.next+1,lost:=true})]) (λ_=> .tuple #[.agg #[iN c.next,iN x.t,iN x.k,iN x.i,iN x.o],.bool false]):=aa.pkZ Tryz.func235 λL e=>by
 obtain⟨v,rfl⟩:=e;refine⟨[0,1],λ_=>[ob g #[v,iN c.I,iN (c.next+1),.bool true] 124,iG v c.l],?_,rfl,λE=>⟨rfl,rfl,⟨_,rfl⟩⟩⟩;have j:=b.l;have n:=b.r;have m:=b.n;refine fG Tryz.func235 λw cs=>ra (λa=>[(3,pt (B0 a) 0),(4,pt (B1 a) 0),(5,.bool false)]) (λa=>[ob (B0 a) #[iN x.s,iN x.t,iN x.k,iN x.i,iN x.o] 59,ob (B1 a) #[i6 0,i6 0,i6 0,i6 0,i6 0] 59]) λa=>rs [(3,.l 0),(5,.s 2)] 2 (ob (B0 a) #[iN c.next,iN x.t,iN x.k,iN x.i,iN x.o] 59) (rs [(3,.l 0),(4,ad c.next 1),(7,.s 0)] 0 (ob g #[v,iN c.I,iN (c.next+1),.bool c.lost] 124) (rT [(3,.l 0),(4,fu iF v c.l 1),(8,.l 0),(9,.t (tk (show Value.bool ((c.l.length:Int)==(c.I:Int))= .bool true from ALca Value.bool (by rw[f];exact beq_self_eq_true _))))] 28 (rs [(3,.s 0)] 0 (ob g #[v,iN c.I,iN (c.next+1),.bool true] 124) (r0 [(1,.c [0,1] [] (aa.at (rd':=[ob g #[v,iN c.I,iN (c.next+1),.bool true] 124,iG v c.l]) (Af g v c.l c.I (c.next+1) true Om) (atS (bO (λ_ h=>ar.sq h) (λ_ h=>h)))))] [(6,i6 (iH cZ c.l))] [] (r0 [(0,.l 2),(1,.c [] [] (wh (⟨c.next,x.t,x.k,x.i,x.o⟩:Re)))] [(40,.bool ((!(((⟨c.next,x.t,x.k,x.i,x.o⟩:Re).k:Int)==2))||(decide ((iH cZ c.l)<0))))] [] ?_)))));have d:((!(((⟨c.next,x.t,x.k,x.i,x.o⟩:Re).k:Int)==2))||(decide ((iH cZ c.l)<0)))=true:=by rw[show(!((x.k:Int)==2))=true from i];rfl
 exact cT ((!(((⟨c.next,x.t,x.k,x.i,x.o⟩:Re).k:Int)==2))||(decide ((iH cZ c.l)<0))) d (rr (λ_=>[(0,.l 2),(1,.s 3)]) (λ_=>[(5,.bool false)]) [5] (λ_ L=>L.set 3 (ob (B1 a) #[iN c.next,iN x.t,iN x.k,iN x.i,iN x.o] 59)) λo=>lf ab.zero [0,1] [] [3])
theorem SI(g:Nat)(c:Lg)(x:Re)(b:gb c)(f:c.l.length=c.I)(o:cZ x=false)(i:a1 cZ c.l=c.l.length):aa Zl 235 #[pt g 0,.agg #[iN x.s,iN x.t,iN x.k,iN x.i,iN x.o]] [pk (az g c)] [0] (λ_=>[pk (az g {c with next:=c.next+1,lost:=true})]) (λ_=> .tuple #[.agg #[iN c.next,iN x.t,iN x.k,iN x.i,iN x.o],.bool false]):=aa.pkZ Tryz.func235 λL e=>by
 obtain⟨v,rfl⟩:=e;refine⟨[0,1],λ_=>[ob g #[v,iN c.I,iN (c.next+1),.bool true] 124,iG v c.l],?_,rfl,λE=>⟨rfl,rfl,⟨_,rfl⟩⟩⟩;have j:=b.l;have n:=b.r;have m:=b.n;refine fG Tryz.func235 λw cs=>ra (λa=>[(3,pt (B0 a) 0),(4,pt (B1 a) 0),(5,.bool false)]) (λa=>[ob (B0 a) #[iN x.s,iN x.t,iN x.k,iN x.i,iN x.o] 59,ob (B1 a) #[i6 0,i6 0,i6 0,i6 0,i6 0] 59]) λa=>rs [(3,.l 0),(5,.s 2)] 2 (ob (B0 a) #[iN c.next,iN x.t,iN x.k,iN x.i,iN x.o] 59) (rs [(3,.l 0),(4,ad c.next 1),(7,.s 0)] 0 (ob g #[v,iN c.I,iN (c.next+1),.bool c.lost] 124) (rT [(3,.l 0),(4,fu iF v c.l 1),(8,.l 0),(9,.t (tk (show Value.bool ((c.l.length:Int)==(c.I:Int))= .bool true from ALca Value.bool (by rw[f];exact beq_self_eq_true _))))] 28 (rs [(3,.s 0)] 0 (ob g #[v,iN c.I,iN (c.next+1),.bool true] 124) (r0 [(1,.c [0,1] [] (aa.at (rd':=[ob g #[v,iN c.I,iN (c.next+1),.bool true] 124,iG v c.l]) (Sz g v c.l c.I (c.next+1) true Om Om) (atS (bO (λ_ h=>ar.sq h) (λ_ h=>h)))))] [(6,i6 (-1))] [] (r0 [(0,.l 2),(1,.c [] [] (wh (⟨c.next,x.t,x.k,x.i,x.o⟩:Re)))] [(40,.bool ((!(((⟨c.next,x.t,x.k,x.i,x.o⟩:Re).k:Int)==2))||true))] [] ?_)))));have d:((!(((⟨c.next,x.t,x.k,x.i,x.o⟩:Re).k:Int)==2))||true)=true:=by rw[Bool.or_true]
 exact cT ((!(((⟨c.next,x.t,x.k,x.i,x.o⟩:Re).k:Int)==2))||true) d (rr (λ_=>[(0,.l 2),(1,.s 3)]) (λ_=>[(5,.bool false)]) [5] (λ_ L=>L.set 3 (ob (B1 a) #[iN c.next,iN x.t,iN x.k,iN x.i,iN x.o] 59)) λp=>lf ab.zero [0,1] [] [3])
theorem SJ(g:Nat)(c:Lg)(x:Re)(e:gb c)(o:c.l.length=c.I)(p:cZ x=false)(n:a1 cZ c.l<c.l.length):aa Zl 235 #[pt g 0,.agg #[iN x.s,iN x.t,iN x.k,iN x.i,iN x.o]] [pk (az g c)] [0] (λ_=>[pk (az g {c with l:=c.l.eraseIdx (a1 cZ c.l)++[qK x c.next],next:=c.next+1,lost:=true})]) (λ_=> .tuple #[.agg #[iN c.next,iN x.t,iN x.k,iN x.i,iN x.o],.bool true]):=aa.pkZ Tryz.func235 λL i=>by
 obtain⟨v,rfl⟩:=i;refine⟨[0,1],λE=>[ob g #[(E.val 0),iN c.I,iN (c.next+1),.bool true] 124,iG (E.val 0) ((c.l.eraseIdx (a1 cZ c.l))++([(⟨c.next,x.t,x.k,x.i,x.o⟩:Re)]))],?_,rfl,λE=>⟨rfl,rfl,⟨_,rfl⟩⟩⟩;have r:=e.l;have y:=e.r;have u:=e.n;have j:(c.l.eraseIdx (a1 cZ c.l)).length=c.l.length-1:=by rw[Zy,ALifp n]
 refine fG Tryz.func235 λw cs=>ra (λb=>[(3,pt (B0 b) 0),(4,pt (B1 b) 0),(5,.bool false)]) (λb=>[ob (B0 b) #[iN x.s,iN x.t,iN x.k,iN x.i,iN x.o] 59,ob (B1 b) #[i6 0,i6 0,i6 0,i6 0,i6 0] 59]) λb=>rs [(3,.l 0),(5,.s 2)] 2 (ob (B0 b) #[iN c.next,iN x.t,iN x.k,iN x.i,iN x.o] 59) (rs [(3,.l 0),(4,ad c.next 1),(7,.s 0)] 0 (ob g #[v,iN c.I,iN (c.next+1),.bool c.lost] 124) (rT [(3,.l 0),(4,fu iF v c.l 1),(8,.l 0),(9,.t (tk (show Value.bool ((c.l.length:Int)==(c.I:Int))= .bool true from ALca Value.bool (by rw[o];exact beq_self_eq_true _))))] 28 (rs [(3,.s 0)] 0 (ob g #[v,iN c.I,iN (c.next+1),.bool true] 124) (r0 [(1,.c [0,1] [] (aa.at (rd':=[ob g #[v,iN c.I,iN (c.next+1),.bool true] 124,iG v c.l]) (Sx g v c.l c.I (c.next+1) true Om Om) (atS (bO (λ_ h=>ar.sq h) (λ_ h=>h)))))] [(6,iN (a1 cZ c.l))] [] (r0 [(0,.l 2),(1,.c [] [] (wh (⟨c.next,x.t,x.k,x.i,x.o⟩:Re)))] [(40,.bool ((!(((⟨c.next,x.t,x.k,x.i,x.o⟩:Re).k:Int)==2))||(decide (((a1 cZ c.l:Nat):Int)<0))))] [] ?_)))));have f:((!(((⟨c.next,x.t,x.k,x.i,x.o⟩:Re).k:Int)==2))||(decide (((a1 cZ c.l:Nat):Int)<0)))=false:=by rw[show(!((x.k:Int)==2))=false from p,Bool.false_or];exact bl Om
 exact cF ((!(((⟨c.next,x.t,x.k,x.i,x.o⟩:Re).k:Int)==2))||(decide (((a1 cZ c.l:Nat):Int)<0))) f (rr (λd=>[(4,.m (ld 0 (v))),(7,ad (a1 cZ c.l) 1),(8,.c [1] [1] (SF v c.l (a1 cZ c.l) Om)),(11,.m (fS 0 1 (iG ((d 8).val 0) (c.l.eraseIdx (a1 cZ c.l))) ((d 8).val 0) λbs h=>ar.one ((λ_ h=>h) bs h)))]) N0 [] (λd L=>(L.set 0 (ob g #[(d 8).val 0,iN c.I,iN (c.next+1),.bool true] 124)).set 1 (iG ((d 8).val 0) (c.l.eraseIdx (a1 cZ c.l)))) λd=>rr (λa=>[(4,.l 0),(5,.l 2),(6,.m (bs 4 1)),(7,fC iF ((d 8).val 0) (c.l.eraseIdx (a1 cZ c.l)) 1 4 ([(⟨c.next,x.t,x.k,x.i,x.o⟩:Re)])),(10,.m (fS 0 1 (iG ((a 7).val 0) ((c.l.eraseIdx (a1 cZ c.l))++([(⟨c.next,x.t,x.k,x.i,x.o⟩:Re)]))) ((a 7).val 0) λbs h=>ar.one ((λ_ h=>h) bs h)))]) N0 [] (λa L=>(L.set 0 (ob g #[(a 7).val 0,iN c.I,iN (c.next+1),.bool true] 124)).set 1 (iG ((a 7).val 0) ((c.l.eraseIdx (a1 cZ c.l))++([(⟨c.next,x.t,x.k,x.i,x.o⟩:Re)])))++[ob (B6 a) #[iN c.next,iN x.t,iN x.k,iN x.i,iN x.o] 59]) λa=>rr (λ_=>[(0,.l 2),(1,.s 3)]) (λ_=>[(5,.bool true)]) [5] (λ_ L=>L.set 3 (ob (B1 b) #[iN c.next,iN x.t,iN x.k,iN x.i,iN x.o] 59)) λq=>lf (.l [] [] [(a 7).val 0]) [0,1] [] [3])
theorem SK(g:Nat)(c:Lg)(x:Re)(d:gb c):aa Zl 235 #[pt g 0,.agg #[iN x.s,iN x.t,iN x.k,iN x.i,iN x.o]] [pk (az g c)] [0] (λ_=>[pk (az g (bW c x))]) (λ_=> .tuple #[.agg #[iN c.next,iN x.t,iN x.k,iN x.i,iN x.o],.bool (FY c x)]):=by
 unfold bW FY;by_cases a:c.l.length=c.I
 ·rw[ALifp a,cC a];cases e:cZ x with
  | true=>rw[ALifp (.inl rfl)];exact SH g c x d a e
  | false=>
   by_cases b:a1 cZ c.l=c.l.length
   ·rw[ALifp (.inr b),cC b];exact SI g c x d a e b
   ·rw[ALifn (λh=>h.elim (λh=>by cases h) b),bl b];exact SJ g c x d a e (by have:=py cZ c.l;omega)
 ·rw[ALifn a,bl a];exact SG g c x d a
section
section
variable {α:Type} {P:Program} {en:α→List Value} {z:List Value} {e T:TypeId} {v:Value} {xs ys:List α} {bs:ay} {w:World}
theorem SL{i:Nat}(a:i<xs.length):ak en xs=ak en (xs.take i)++(en xs[i]++ak en (xs.drop (i+1))):=by
 have e:xs=xs.take i++(xs[i]::xs.drop (i+1)):=by rw[←ZG a,ZU]
 conv=>lhs;rw[e]
 rw[ky];rfl
theorem SM{i:Nat}{a:α}(b:i<xs.length):ak en (xs.set i a)=ak en (xs.take i)++(en a++ak en (xs.drop (i+1))):=by
 rw[List.set_eq_take_append_cons_drop,ALifp b,ky];rfl
theorem SN(A X C l:List Value)(f:Nat)(c:f+l.length≤X.length):(A++(X++C)).take (A.length+f)++l++(A++(X++C)).drop (A.length+f+l.length)=A++((X.take f++l++X.drop (f+l.length))++C):=by
 have a:(A++(X++C)).take (A.length+f)=A++X.take f:=by
  rw[List.take_append,List.take_of_length_le Om,ZT,List.take_append_of_le_length Om]
 have b:(A++(X++C)).drop (A.length+f+l.length)=X.drop (f+l.length)++C:=by
  rw[Z2,ZS Om,Z8,show A.length+f+l.length-A.length=f+l.length by omega,ZN c]
 rw[a,b];simp only[Zr]
theorem SO(p i k f:Nat){a d:α}{l:List Value}(u: ∀y,(en y).length=k)(m:i<xs.length)(N:f+l.length≤k)(Q:en a=(en (xs.getD i d)).take f++l++(en (xs.getD i d)).drop (f+l.length)):MD.ok P (λ_=>undef) (p8 P p (.p (ar en z T v xs)) (.p (ar en z T v (xs.set i a))) v (i*k+f) l) [p]:=by
 intro o ρ C j w c s;unfold p8 at j s⊢
 split at j
 ·rename_i I x y n;simp only[n] at s⊢;simp only[ZR,ZC,or_false,forall_eq_or_imp,forall_eq,sE,sB] at j;obtain⟨F,M,K,L⟩:=j;obtain⟨J,D⟩:=s.ent;obtain⟨g,r,rfl,G⟩:=ar.some (show ar en z T v xs (c p) from J) m;rw[G] at D;have b:=D.one;have t:xs.getD i d=xs[i]:=by rw[Zo,Zp m];rfl
  have hA:(ak en (xs.take i)).length=i*k:=fR u (by rw[Zq];omega);have O:(bH (ak en xs) z r).toList.take (0+(i*k+f))++l++(bH (ak en xs) z r).toList.drop (0+(i*k+f)+l.length)=(bH (ak en (xs.set i a)) z r).toList:=by
   unfold bH;rw[ZL,ZL,SL (en:=en) m,SM m,Q,t,Nat.zero_add,←hA];have:=SN (ak en (xs.take i)) (en xs[i]) (ak en (xs.drop (i+1))++(Zm r z).flatten) l f (by rw[u];exact N);simp only[Zr] at this⊢;exact this
  have A:0+(i*k+f)+l.length≤(bH (ak en xs) z r).size:=by
   rw[uD,fR u rfl];have:=Nat.mul_le_mul_right k (show i+1≤xs.length from m);rw[ZE] at this;omega
  simp only[fj,add_lit] at F;have B:=a8.setRow (bH (ak en (xs.set i a)) z r) b;refine⟨ab.zero,λ_=>[(g,.cells (bH (ak en (xs.set i a)) z r) T (0,0))],w.setRow g (bH (ak en (xs.set i a)) z r),.inr ⟨?_,by simp⟩,λq h=>?_,?_⟩
  ·unfold execOp;have H:=ux (P:=P) (T:=I) b A (List.all_eq_true.1 K) L;rw[O,Array.toArray_toList] at H;simp only[n,F,uy M,Instr.storeAt,Instr.sureAddr,aae,aaf,ZX,H]
  ·rw[List.mem_singleton.1 h];exact .inr ⟨g,r,by rw[Zv],rfl⟩
  ·rw[show([p].flatMap λp=>bN (c p))=_ by simp only[List.flatMap_cons,List.flatMap_nil,G,bN];rfl];exact B
 ·exact(bG j).elim
def F3(K:Kd P α)(v:Value)(xs:List α)(p i f:Nat)(a:α)(l:List Value)(g:K.en a=(K.en (xs.getD i K.d)).take f++l++(K.en (xs.getD i K.d)).drop (f+l.length))(b:i<xs.length:=by omega)(c:f+l.length≤K.k:=by exact Nat.le_of_ble_eq_true rfl):cd P:=
 .m ⟨[p],p8 P p (.p (ar K.en K.z K.T v xs)) (.p (ar K.en K.z K.T v (xs.set i a))) v (i*K.k+f) l,SO (d:=K.d) p i K.k f K.hk b c g⟩
end
end
structure Pa where
 k:Nat
 l:Nat
 a:Nat
deriving DecidableEq
def bA:Pa:=⟨0,0,0⟩
def pA(x:Pa):List Value:=[iN x.k,iN x.l,iN x.a]
def eS:Kd Zl Pa:=⟨pA,[i6 0,i6 0,i6 0],354,386,bA,3,λ_=>rfl,rfl,λ_=>rfl,ec.mk' Kr Kr rfl⟩
abbrev ek(v:Value)(xs:List Pa):aB:= .p (ar pA ([i6 0,i6 0,i6 0]) 386 v xs)
def bM(k:Nat)(x:Pa):Bool:=(x.k:Int)==(k:Int)
structure Tb where
 l:List Pa
 I:Nat
structure iI (ev:Nat) (t:Tb):Prop where
 l:t.l.length≤t.I
 r1:1≤t.I
 r:t.I≤256
 b: ∀i,i<t.l.length→fb ev (t.l.getD i bA).l (t.l.getD i bA).a
abbrev dZ(g:Nat)(t:Tb)(L:aj):Prop:=∃v:Value,L=[ob g #[v,iN t.I,.func (.func 178) #[] #[]] 356,ek v t.l]
def eo(xs:List Pa):Nat→Nat×Nat
 | 0=>(0,0)
 | k+1=>if k=0∨(xs.getD k bA).l<(eo xs k).2 then(k,(xs.getD k bA).l) else eo xs k
theorem Ah(xs:List Pa): ∀k,1≤k→(eo xs k).1<k
 | 0,h=>by omega
 | 1,_=>by unfold eo;rw[ALifp (.inl rfl)];exact Nat.zero_lt_one
 | k+2,_=>by
  unfold eo
  split
  ·exact ZK _
  ·exact Z3 (Ah xs (k+1) Om)
theorem SP{xs:List Pa}{k:Nat}(h:(((k:Int)==0)||decide ((((xs.getD k bA).l:Nat):Int)<(((eo xs k).2:Nat):Int)))=true):eo xs (k+1)=(k,(xs.getD k bA).l):=by
 rw[eo,ALifp];simp only[ZO,decide_eq_true_eq,beq_iff_eq] at h;omega
theorem SQ{xs:List Pa}{k:Nat}(h:(((k:Int)==0)||decide ((((xs.getD k bA).l:Nat):Int)<(((eo xs k).2:Nat):Int)))=false):eo xs (k+1)=eo xs k:=by
 rw[eo,ALifn];simp only[ZD,decide_eq_false_iff_not,db] at h;omega
def dg(t:Tb)(k:Nat):Bk:=if a1 (bM k) t.l=t.l.length then bj else⟨(t.l.getD (a1 (bM k) t.l) bA).l,(t.l.getD (a1 (bM k) t.l) bA).a⟩
def wi(t:Tb)(k:Nat):Bool:= !decide (a1 (bM k) t.l=t.l.length)
def pB(t:Tb)(k l a:Nat):Tb:=
 if a1 (bM k) t.l=t.l.length then
  (if t.l.length=t.I then{t with l:=t.l.eraseIdx (eo t.l t.l.length).1++[⟨k,l,a⟩]} else{t with l:=t.l++[⟨k,l,a⟩]})
 else{t with l:=t.l.set (a1 (bM k) t.l) ⟨(t.l.getD (a1 (bM k) t.l) bA).k,l,a⟩}
def pC(t:Tb)(k:Nat):Tb:=if a1 (bM k) t.l=t.l.length then t else{t with l:=t.l.eraseIdx (a1 (bM k) t.l)}
def F4(t:Tb)(k:Nat):Nat:=if a1 (bM k) t.l=t.l.length∧t.l.length=t.I then(t.l.getD (eo t.l t.l.length).1 bA).k else 0
def F5(t:Tb)(k:Nat):Bool:=decide (a1 (bM k) t.l=t.l.length)&&decide (t.l.length=t.I)
structure Tk where
 lr:Nat
 er:Nat
 lp:Nat
 ep:Nat
 I:Nat
 H:Nat
 F:List Bk
 t:Tb
structure dS (c:Tk):Prop where
 r:iX c.lr c.er
 p:iX c.lp c.ep
 h1:1≤c.H
 h2:c.H≤65536
 n:c.F.length≤8
 b: ∀i,i<c.F.length→fb c.er (c.F.getD i bj).l (c.F.getD i bj).a
 t:iI c.ep c.t
abbrev aD(g a:Nat)(c:Tk)(L:aj):Prop:=∃v:Value,L=[ob g #[iN c.lr,iN c.er,iN c.lp,iN c.ep,iN c.I,iN c.H,v,pt a 0] 294,kO v c.F,pk (dZ a c.t)]
def fH(c:Tk)(r p n:Nat):Tk:={c with F:=c.F.set r ⟨b4 (c.F.getD r bj).l n,(c.F.getD r bj).a⟩,t:=pB c.t p (b4 (dg c.t p).l n) (dg c.t p).a}
def pD(c:Tk)(r:Nat):Tk:={c with F:=c.F.set r ⟨0,0⟩}
def qL(c:Tk)(p:Nat):Tk:={c with t:=pC c.t p}
theorem iI.get{ev:Nat}{t:Tb}(h:iI ev t)(b:1≤ev)(k:Nat):fb ev (dg t k).l (dg t k).a:=by
 unfold dg
 split
 ·exact⟨Zz _,b⟩
 ·have:=py (bM k) t.l;exact h.b _ Om
theorem SR(l a:Nat):aa Zl 178 #[.agg #[iN l,iN a]] [] [] N0 (λ_=>iN l):=by
 exact fG Tryz.func178 λw cs=>ra (λb=>[(1,pt (B0 b) 0),(2,i6 0)]) (λb=>[ob (B0 b) #[iN l,iN a] 290]) λb=>r0 [(1,.l 0)] [(2,iN l)] [2] (lf ab.zero [] [] [])
theorem SS(b k:Nat)(x:Pa):aa Zl 279 #[.agg #[iN x.k,iN x.l,iN x.a],pt b 0] [ob b #[iN k] 3] [] N0 (λ_=> .bool (bM k x)):=by
 exact fG Tryz.func279 λw cs=>ra (λa=>[(2,pt (B0 a) 0),(3,.bool false)]) (λa=>[ob (B0 a) #[iN x.k,iN x.l,iN x.a] 386]) λa=>r0 [(1,.l 1),(2,.l 0)] [(3,.bool ((x.k:Int)==(k:Int)))] [3] (ao (.bool ((x.k:Int)==(k:Int))) ab.zero bc [] [(0,0)] [])
theorem SU(v:Value)(b k:Nat)(xs:List Pa)(m:xs.length≤1000000):aa Zl 278 #[v,.func (.func 279) #[] #[pt b 0]] [ob b #[iN k] 3,.p (aK pA v xs)] [] N0 (λ_=>i6 (iH (bM k) xs)):=by
 refine fO Tryz.func278 1 rfl λf a=>fG Tryz.func278 λw cs=>r0 [] [(4,i6 0)] [] (r0 [(1,eP a.1 1)] [(7,iN xs.length),(8,i6 0)] [] ?_);refine lq (λn=>n≤xs.length∧(∀j,j<n→bM k (xs.getD j bA)=false)) (λn=>[(8,iN n)]) (λ_ L=>L) (λn=>xs.length-n) 0 ⟨by omega,(λ_ h=>absurd h (Z9 _))⟩ Kr Kr (λn ⟨l,e⟩=>?_);refine r0 [] [(9,.bool (decide ((n:Int)<(xs.length:Int))))] [] ?_;refine cj (n:Int) (xs.length:Int) (λg d=>?_) λg d=>?_
 ·refine r0 [] [(5,iN n)] [] (r0 [(3,fv a.1 1 n 3),(4,nb eS a.1 1 n 0 3),(5,.c [0] [] (SS b k (xs.getD n bA)))] [(16,.bool (bM k (xs.getD n bA)))] [] ?_);refine cB (bM k (xs.getD n bA)) (λi=>?_) λi=>?_
  ·exact r0 [] [(4,iN n)] [] (ao (iN n) ab.zero (by(rw[FX Om e As];done)) [] [(0,0),(1,1)] [])
  exact r0 [(0,ad n 1)] [(8,iN (n+1))] [8] (le (n+1) ⟨by omega,zY e As⟩ Om Kr [0,1] Kr)
 obtain rfl:xs.length=n:=by omega
 exact lx (r0 [] [(4,i6 (-1))] [] (ao (i6 (-1)) ab.zero (by(rw[FW e];done)) [] [(0,0),(1,1)] []))
theorem F6(g:Nat)(v:Value)(l:List Pa)(room k:Nat)(e:l.length≤1000000):aa Zl 261 #[pt g 0,iN k] [ob g #[v,iN room,.func (.func 178) #[] #[]] 356,.p (aK pA v l)] [] N0 (λ_=>i6 (iH (bM k) l)):=by
 exact fO Tryz.func261 1 rfl λb d=>fG Tryz.func261 λw cs=>ra (λa=>[(3,pt (B0 a) 0),(4,i6 0)]) (λa=>[ob (B0 a) #[iN k] 3]) λa=>r0 [(3,.l 0),(5,.c [2,1] [] (aa.at (rd':=[ob (B0 a) #[iN k] 3,.c b]) (SU v (B0 a) k l Om) (atS (eD d (λ_ h=>h)))))] [(4,i6 (iH (bM k) l))] [4] (lf ab.zero [] [(0,0),(1,1)] [])
theorem Ai(g:Nat)(v:Value)(l:List Pa)(room k:Nat)(b:l.length≤1000000)(h:a1 (bM k) l<l.length):aa Zl 261 #[pt g 0,iN k] [ob g #[v,iN room,.func (.func 178) #[] #[]] 356,.p (aK pA v l)] [] N0 (λ_=>iN (a1 (bM k) l)):=by
 have a:=F6 g v l room k b;unfold iH at a;rwa [ALifn Om] at a
theorem wj(g:Nat)(v:Value)(l:List Pa)(room k:Nat)(b:l.length≤1000000)(h:a1 (bM k) l=l.length):aa Zl 261 #[pt g 0,iN k] [ob g #[v,iN room,.func (.func 178) #[] #[]] 356,.p (aK pA v l)] [] N0 (λ_=>i6 (-1)):=by
 have a:=F6 g v l room k b;unfold iH at a;rwa [ALifp h] at a
theorem SV(g:Nat)(v:Value)(l:List Pa)(room:Nat)(m:l.length≤1000000):aa Zl 263 #[pt g 0] [ob g #[v,iN room,.func (.func 178) #[] #[]] 356,.p (aK pA v l)] [] N0 (λ_=>iN ((eo l l.length).1)):=by
 refine fO Tryz.func263 1 rfl λh b=>fG Tryz.func263 λw cs=>r0 [] [(2,i6 0)] [] (r0 [] [(3,i6 0),(4,i6 0)] [] (r0 [(3,.l 0),(4,eP b.1 1)] [(11,v),(12,iN l.length),(13,i6 0)] [] ?_));refine lq (λk=>k≤l.length) (λk=>[(3,iN ((eo l k).1)),(4,iN ((eo l k).2)),(13,iN k)]) (λ_ L=>L) (λk=>l.length-k) 0 Om Kr Kr (λk j=>?_);refine r0 [] [(14,.bool (decide ((k:Int)<(l.length:Int))))] [] ?_;refine cj (k:Int) (l.length:Int) (λi e=>?_) λi e=>?_
 ·refine rr (λ_=>[(1,fv b.1 1 k 3),(2,nb eS b.1 1 k 0 3),(5,.s 2)]) (λd=>[(6,pt (B3 d) 0),(5,iN k)]) [] (λd L=>L++[ob (B3 d) #[iN ((l.getD k bA).k),iN ((l.getD k bA).l),iN ((l.getD k bA).a)] 386]) λd=>r0 [(3,.l 0),(5,.l 2),(6,.c [] [] (SR ((l.getD k bA).l) ((l.getD k bA).a)))] [(7,iN ((l.getD k bA).l))] [] (r0 [] [(31,.bool (((k:Int)==0)||(decide ((((l.getD k bA).l:Nat):Int)<(((eo l k).2:Nat):Int)))))] [] ?_);refine cB (((k:Int)==0)||(decide ((((l.getD k bA).l:Nat):Int)<(((eo l k).2:Nat):Int)))) (λf=>?_) λf=>?_
  ·exact r0 [] [(3,iN k),(4,iN ((l.getD k bA).l))] [3,4] (r0 [(0,ad k 1)] [(13,iN (k+1))] [13] (le (k+1) Om Om (by(rw[SP As]);kernel_rfl) [0,1] Kr))
  exact r0 [(0,ad k 1)] [(13,iN (k+1))] [13] (le (k+1) Om Om (by(rw[SQ As]);kernel_rfl) [0,1] Kr)
 obtain rfl:l.length=k:=by omega
 exact lx (r0 [] [(2,iN ((eo l l.length).1))] [2] (lf ab.zero [] [(0,0),(1,1)] []))
section
open Go.Lib
set_option maxRecDepth 1000000 in
set_option maxHeartbeats 1000000 in
theorem SW(g n b i j:Nat)(w:World)(S:i<j)(R:j≤n)(H:n≤b)(a:Array Value)(x:w.heap[g]? =some (.cells a 386 (0,0)))(news:List Value)(d:news.length=(n-(j))*3)(m: ∀u∈news,u.oneCell'=true)(o: ∀t u,news[t]? =some u→w.cell? ⟨g,(j)*3+t,none⟩=some u)(k:i*3+news.length≤a.size)(C:n*3≤a.size):Calls Zl 280 #[.slice (some ⟨g,0,none⟩) n b,.int .i64 (i:Int),.int .i64 (j:Int)] w λe w'=>e= .returned (.slice (some ⟨g,0,none⟩) (n-(j-i)) b)∧w'=(w.drew.setRow g (a.toList.take (i*3)++news++a.toList.drop (i*3+news.length)).toArray).setRow g ((a.toList.take (i*3)++news++a.toList.drop (i*3+news.length)).toArray.toList.take ((i+(n-j))*3)++(Zm (n-(i+(n-j))) eS.z).flatten++(a.toList.take (i*3)++news++a.toList.drop (i*3+news.length)).toArray.toList.drop ((i+(n-j))*3+(n-(i+(n-j)))*3)).toArray:=by
 have F:Tryz.prog.follows .mixedOrders=true:=by kernel_rfl
 have P:i≤b:=by omega
 have Q:j≤b:=by omega
 obtain⟨V,Z,B,T,D,U,N⟩:=eS.hT.hi;obtain⟨A,hA,s⟩: ∃A:Addr,(if b=j then some (⟨g,0,none⟩:Addr) else some ⟨g,(j)*3,none⟩)=some A∧Hid (∀t u,news[t]? =some u→w.drew.cell? (A.add t)=some u):=by
  by_cases h:b=j
  ·refine⟨⟨g,0,none⟩,by simp [h],λt u v=>?_⟩;have K:news.length=0:=by rw[d];omega
   rw[List.length_eq_zero_iff.1 K] at v;simp at v
  ·exact⟨⟨g,(j)*3,none⟩,by simp [h],λt u v=>by rw[Addr.add_lit];exact o t u v⟩
 have W:Hid (news.length=(n-(j))*3):=d;have X:Hid (∀u∈news,u.oneCell'=true):=m;have Y:Hid (i*3+news.length≤a.size):=k;have I:Hid (w.drew.heap[g]? =some (.cells a 386 (0,0))):=x;obtain⟨p,q⟩: ∃p,p=w.drew.setRow g (a.toList.take (i*3)++news++a.toList.drop (i*3+news.length)).toArray:=⟨_,rfl⟩;have G:Hid (p=w.drew.setRow g (a.toList.take (i*3)++news++a.toList.drop (i*3+news.length)).toArray):=q;obtain⟨c,f⟩: ∃c,c=(a.toList.take (i*3)++news++a.toList.drop (i*3+news.length)).toArray:=⟨_,rfl⟩;have y:c.size=a.size:=by
  rw[f];simp only[Z0,Zn,Zq,Zx,Array.length_toList];omega
 have l:p.heap[g]? =some (.cells c 386 (0,0)):=by rw[q,←f];exact setRow_heap _ g a _ _ _ I.out
 obtain⟨z,r⟩: ∃z,z=p.setRow g (c.toList.take ((i+(n-j))*3)++(Zm (n-(i+(n-j))) eS.z).flatten++c.toList.drop ((i+(n-j))*3+(n-(i+(n-j)))*3)).toArray:=⟨_,rfl⟩;have O: ∀J,(Builtin.clear_ #[354] J #[.slice (some ⟨g,(i+(n-j))*3,none⟩) (n-(i+(n-j))) (b-(i+(n-j)))]).run Zl p= .ok (.tuple #[]) z:=λJ=>by
  rw[r];exact F1 eS.hT l Om (by show _+_*3≤_;rw[y];omega) (λu v=>by
   simp only[eS,ZR,ZC,or_false] at v;rcases v with rfl | rfl | rfl<;>rfl)
 have L:Hid (z=p.setRow g (c.toList.take ((i+(n-j))*3)++(Zm (n-(i+(n-j))) eS.z).flatten++c.toList.drop ((i+(n-j))*3+(n-(i+(n-j)))*3)).toArray):=r;have M:Hid (c=(a.toList.take (i*3)++news++a.toList.drop (i*3+news.length)).toArray):=f;clear q o d m k x r l y f
 go_enter Tryz.func280,Tryz.ntmps280
 go_wp2_with fail
 go_region_law_o (refine F0 rfl (.tmp 22) (.tmp 25) 354 rfl 386 V 3 eS.hT.ht B D g i b a I.out (by simp [Act.eval,Act.put]) A (n-(j)) (b-(j)) news (by simp [Act.eval,Act.put]) W.out s.out X.out Om Y.out ?_;rw[←G.out])
 go_wp2
 go_ret
 refine⟨by rw[show n-(j-i)=i+(n-j) by omega];rfl,?_⟩;rw[L.out,G.out,M.out]
theorem SX(v:Value)(xs:List Pa)(i:Nat)(k:i<xs.length):aa Zl 280 #[v,iN i,iN (i+1)] [ek v xs] [0] (λE=>[ek (E.val 0) (xs.eraseIdx i)]) (λE=>E.val 0):=
 F2 eS (enters_of Tryz.func280 Kr rfl) k λg f w h e b j m l d c a=>SW g xs.length f i (i+1) w (ZK i) k b h j e m l d c a
end
theorem F7(g:Nat)(v:Value)(l:List Pa)(room i:Nat)(b:i<l.length)(d:l.length≤1000000):aa Zl 262 #[pt g 0,iN i] [ob g #[v,iN room,.func (.func 178) #[] #[]] 356,ek v l] [0,1] (λE=>[ob g #[(E.val 0),iN room,.func (.func 178) #[] #[]] 356,ek (E.val 0) (l.eraseIdx i)]) (λ_=>iN ((l.getD i bA).k)):=by
 exact fG Tryz.func262 λw cs=>r0 [] [(4,i6 0)] [] (r0 [(3,.l 0),(5,cO eS v l 1 i),(6,u3 eS v l 1 (i*3) 0),(7,e7 eS v l 1 i 0)] [(5,iN ((l.getD i bA).k))] [] (rr (λa=>[(4,.m (ld 0 (v))),(7,ad i 1),(8,.c [1] [1] (SX v l i Om)),(11,.m (fS 0 1 (ek ((a 8).val 0) (l.eraseIdx i)) ((a 8).val 0) λbs h=>ar.one ((λ_ h=>h) bs h)))]) N0 [] (λa L=>(L.set 0 (ob g #[(a 8).val 0,iN room,.func (.func 178) #[] #[]] 356)).set 1 (ek ((a 8).val 0) (l.eraseIdx i))) λa=>r0 [] [(4,iN ((l.getD i bA).k))] [4] (lf (.l [] [] [((a 8).val 0)]) [0,1] [] [])))
theorem SY(g:Nat)(t:Tb)(k:Nat)(e:t.l.length≤1000000)(h:a1 (bM k) t.l<t.l.length):aa Zl 238 #[pt g 0,iN k] [pk (dZ g t)] [0] (λ_=>[pk (dZ g t)]) (λ_=> .tuple #[.agg #[iN ((t.l.getD (a1 (bM k) t.l) bA).l),iN ((t.l.getD (a1 (bM k) t.l) bA).a)],.bool true]):=aa.pkZ Tryz.func238 λL d=>by
 obtain⟨v,rfl⟩:=d;refine⟨[1],λ_=>[ek v t.l],?_,rfl,λE=>⟨rfl,rfl,⟨_,rfl⟩⟩⟩;exact fG Tryz.func238 λw cs=>ra (λb=>[(4,pt (B0 b) 0),(5,.bool false)]) (λb=>[ob (B0 b) #[i6 0,i6 0] 290]) λb=>r0 [(2,.c [0,1] [] (aa.at (rd':=[ob g #[v,iN t.I,.func (.func 178) #[] #[]] 356,ek v t.l]) (Ai g v t.l t.I k Om Om) (atS (bO (λ_ h=>ar.sq h) (λ_ h=>h)))))] [(6,iN (a1 (bM k) t.l))] [] (rF [(1,.t (tk (show Value.bool (decide (((a1 (bM k) t.l:Nat):Int)<0))= .bool false from ALca Value.bool (by exact bl Om))))] 12 (rr (λ_=>[(3,.l 0),(5,cO eS v t.l 1 (a1 (bM k) t.l)),(6,u3 eS v t.l 1 ((a1 (bM k) t.l)*3) 1),(7,qb eS v t.l 1 (a1 (bM k) t.l) 1 2),(8,.s 2)]) (λ_=>[(5,.bool true)]) [5] (λ_ L=>L.set 2 (ob (B0 b) #[iN ((t.l.getD (a1 (bM k) t.l) bA).l),iN ((t.l.getD (a1 (bM k) t.l) bA).a)] 290)) λf=>lf ab.zero [1] [(0,0)] [2]))
theorem SZ(g:Nat)(t:Tb)(k:Nat)(e:t.l.length≤1000000)(h:a1 (bM k) t.l=t.l.length):aa Zl 238 #[pt g 0,iN k] [pk (dZ g t)] [0] (λ_=>[pk (dZ g t)]) (λ_=> .tuple #[.agg #[i6 0,i6 0],.bool false]):=aa.pkZ Tryz.func238 λL d=>by
 obtain⟨v,rfl⟩:=d;refine⟨[1],λ_=>[ek v t.l],?_,rfl,λE=>⟨rfl,rfl,⟨_,rfl⟩⟩⟩;exact fG Tryz.func238 λw cs=>ra (λa=>[(4,pt (B0 a) 0),(5,.bool false)]) (λa=>[ob (B0 a) #[i6 0,i6 0] 290]) λa=>r0 [(2,.c [0,1] [] (aa.at (rd':=[ob g #[v,iN t.I,.func (.func 178) #[] #[]] 356,ek v t.l]) (wj g v t.l t.I k Om Om) (atS (bO (λ_ h=>ar.sq h) (λ_ h=>h)))))] [(6,i6 (-1))] [] (rT [] 12 (ra (λb=>[(7,pt (B0 b) 0)]) (λb=>[ob (B0 b) #[i6 0,i6 0] 290]) λb=>r0 [(0,.l 3),(1,.s 2)] [(5,.bool false)] [5] (lf ab.zero [1] [(0,0)] [2])))
theorem S1(g:Nat)(t:Tb)(k l a:Nat)(e:t.l.length≤1000000)(h:a1 (bM k) t.l<t.l.length):aa Zl 239 #[pt g 0,iN k,.agg #[iN l,iN a]] [pk (dZ g t)] [0] (λ_=>[pk (dZ g {t with l:=t.l.set (a1 (bM k) t.l) ⟨(t.l.getD (a1 (bM k) t.l) bA).k,l,a⟩})]) (λ_=> .tuple #[i6 0,.bool false]):=aa.pkZ Tryz.func239 λL d=>by
 obtain⟨v,rfl⟩:=d;refine⟨[1],λ_=>[ek v (t.l.set (a1 (bM k) t.l) (⟨(t.l.getD (a1 (bM k) t.l) bA).k,l,a⟩:Pa))],?_,rfl,λE=>⟨rfl,rfl,⟨_,rfl⟩⟩⟩;exact fG Tryz.func239 λw cs=>ra (λb=>[(5,pt (B0 b) 0),(6,i6 0),(7,.bool false)]) (λb=>[ob (B0 b) #[iN l,iN a] 290]) λb=>r0 [(2,.c [0,1] [] (aa.at (rd':=[ob g #[v,iN t.I,.func (.func 178) #[] #[]] 356,ek v t.l]) (Ai g v t.l t.I k Om Om) (atS (bO (λ_ h=>ar.sq h) (λ_ h=>h)))))] [(8,iN (a1 (bM k) t.l))] [] (rT [(1,.t (tk (show Value.bool (decide (0≤((a1 (bM k) t.l:Nat):Int)))= .bool true from ALca Value.bool (by exact cC Om))))] 13 (rs [(3,.l 0),(5,.l 2),(6,cO eS v t.l 1 (a1 (bM k) t.l)),(7,u3 eS v t.l 1 ((a1 (bM k) t.l)*3) 1),(8,F3 eS v t.l 1 (a1 (bM k) t.l) 1 (⟨(t.l.getD (a1 (bM k) t.l) bA).k,l,a⟩:Pa) [iN l,iN a] Kr Om)] 1 (ek v (t.l.set (a1 (bM k) t.l) (⟨(t.l.getD (a1 (bM k) t.l) bA).k,l,a⟩:Pa))) (r0 [] [(6,i6 0),(7,.bool false)] [6,7] (lf ab.zero [1] [(0,0)] []))))
theorem S2(g:Nat)(t:Tb)(k l a:Nat)(f:t.l.length≤1000)(h:a1 (bM k) t.l=t.l.length)(i:t.l.length≠t.I):aa Zl 239 #[pt g 0,iN k,.agg #[iN l,iN a]] [pk (dZ g t)] [0] (λ_=>[pk (dZ g {t with l:=t.l++[⟨k,l,a⟩]})]) (λ_=> .tuple #[i6 0,.bool false]):=aa.pkZ Tryz.func239 λL e=>by
 obtain⟨v,rfl⟩:=e;refine⟨[0,1],λE=>[ob g #[(E.val 0),iN t.I,.func (.func 178) #[] #[]] 356,ek (E.val 0) (t.l++([(⟨k,l,a⟩:Pa)]))],?_,rfl,λE=>⟨rfl,rfl,⟨_,rfl⟩⟩⟩;exact fG Tryz.func239 λw cs=>ra (λd=>[(5,pt (B0 d) 0),(6,i6 0),(7,.bool false)]) (λd=>[ob (B0 d) #[iN l,iN a] 290]) λd=>r0 [(2,.c [0,1] [] (aa.at (rd':=[ob g #[v,iN t.I,.func (.func 178) #[] #[]] 356,ek v t.l]) (wj g v t.l t.I k Om Om) (atS (bO (λ_ h=>ar.sq h) (λ_ h=>h)))))] [(8,i6 (-1))] [] (rF [] 13 (rF [(3,.l 0),(4,fu eS v t.l 1),(8,.l 0),(9,.t (tk (show Value.bool ((t.l.length:Int)==(t.I:Int))= .bool false from ALca Value.bool (by rw[db];omega))))] 32 (rr (λb=>[(4,.m (ld 0 (v))),(6,.m (ls 2 ([iN l,iN a]))),(8,.m (bs 3 1)),(9,fC eS (v) t.l 1 3 ([(⟨k,l,a⟩:Pa)])),(12,.m (fS 0 1 (ek ((b 9).val 0) (t.l++([(⟨k,l,a⟩:Pa)]))) ((b 9).val 0) λbs h=>ar.one ((λ_ h=>h) bs h)))]) N0 [] (λb L=>(L.set 0 (ob g #[(b 9).val 0,iN t.I,.func (.func 178) #[] #[]] 356)).set 1 (ek ((b 9).val 0) (t.l++([(⟨k,l,a⟩:Pa)])))++[ob ((b 8).y 0) #[iN k,iN l,iN a] 386]) λb=>r0 [] [(6,i6 0),(7,.bool false)] [6,7] (lf (.l [] [] [(b 9).val 0]) [0,1] [] []))))
theorem S3(g:Nat)(t:Tb)(k l a:Nat)(o:t.l.length≤1000)(h1:1≤t.l.length)(h:a1 (bM k) t.l=t.l.length)(n:t.l.length=t.I):aa Zl 239 #[pt g 0,iN k,.agg #[iN l,iN a]] [pk (dZ g t)] [0] (λ_=>[pk (dZ g {t with l:=t.l.eraseIdx (eo t.l t.l.length).1++[⟨k,l,a⟩]})]) (λ_=> .tuple #[iN ((t.l.getD ((eo t.l t.l.length).1) bA).k),.bool true]):=aa.pkZ Tryz.func239 λL i=>by
 obtain⟨v,rfl⟩:=i;refine⟨[0,1],λE=>[ob g #[(E.val 0),iN t.I,.func (.func 178) #[] #[]] 356,ek (E.val 0) ((t.l.eraseIdx ((eo t.l t.l.length).1))++([(⟨k,l,a⟩:Pa)]))],?_,rfl,λE=>⟨rfl,rfl,⟨_,rfl⟩⟩⟩;have f:=Ah t.l t.l.length h1;have j:(t.l.eraseIdx (eo t.l t.l.length).1).length=t.l.length-1:=by rw[Zy,ALifp f]
 exact fG Tryz.func239 λw cs=>ra (λe=>[(5,pt (B0 e) 0),(6,i6 0),(7,.bool false)]) (λe=>[ob (B0 e) #[iN l,iN a] 290]) λe=>r0 [(2,.c [0,1] [] (aa.at (rd':=[ob g #[v,iN t.I,.func (.func 178) #[] #[]] 356,ek v t.l]) (wj g v t.l t.I k Om Om) (atS (bO (λ_ h=>ar.sq h) (λ_ h=>h)))))] [(8,i6 (-1))] [] (rF [] 13 (rT [(3,.l 0),(4,fu eS v t.l 1),(8,.l 0),(9,.t (tk (show Value.bool ((t.l.length:Int)==(t.I:Int))= .bool true from ALca Value.bool (by rw[n];exact beq_self_eq_true _))))] 32 (rr (λ_=>[(2,.c [0,1] [] (aa.at (rd':=[ob g #[v,iN t.I,.func (.func 178) #[] #[]] 356,ek v t.l]) (SV g v t.l t.I Om) (atS (bO (λ_ h=>ar.sq h) (λ_ h=>h))))),(3,.c [0,1] [0,1] (F7 g v t.l t.I ((eo t.l t.l.length).1) Om Om))]) (λ_=>[(6,iN ((t.l.getD ((eo t.l t.l.length).1) bA).k)),(7,.bool true)]) [6,7] (λd L=>(L.set 0 (ob g #[((d 3).val 0),iN t.I,.func (.func 178) #[] #[]] 356)).set 1 (ek ((d 3).val 0) (t.l.eraseIdx ((eo t.l t.l.length).1)))) λd=>rr (λb=>[(4,.m (ld 0 (((d 3).val 0)))),(6,.m (ls 2 ([iN l,iN a]))),(8,.m (bs 3 1)),(9,fC eS (((d 3).val 0)) (t.l.eraseIdx ((eo t.l t.l.length).1)) 1 3 ([(⟨k,l,a⟩:Pa)])),(12,.m (fS 0 1 (ek ((b 9).val 0) ((t.l.eraseIdx ((eo t.l t.l.length).1))++([(⟨k,l,a⟩:Pa)]))) ((b 9).val 0) λbs h=>ar.one ((λ_ h=>h) bs h)))]) N0 [] (λb L=>(L.set 0 (ob g #[(b 9).val 0,iN t.I,.func (.func 178) #[] #[]] 356)).set 1 (ek ((b 9).val 0) ((t.l.eraseIdx ((eo t.l t.l.length).1))++([(⟨k,l,a⟩:Pa)])))++[ob ((b 8).y 0) #[iN k,iN l,iN a] 386]) λb=>r0 [] [(6,iN ((t.l.getD ((eo t.l t.l.length).1) bA).k)),(7,.bool true)] [6,7] (lf (.l [] [] [(b 9).val 0]) [0,1] [] []))))
theorem S4(g:Nat)(t:Tb)(k:Nat)(d:t.l.length≤1000000)(h:a1 (bM k) t.l<t.l.length):aa Zl 270 #[pt g 0,iN k] [pk (dZ g t)] [0] (λ_=>[pk (dZ g {t with l:=t.l.eraseIdx (a1 (bM k) t.l)})]) (λ_=> .bool true):=aa.pkZ Tryz.func270 λL b=>by
 obtain⟨v,rfl⟩:=b;refine⟨[0,1],λE=>[ob g #[(E.val 0),iN t.I,.func (.func 178) #[] #[]] 356,ek (E.val 0) (t.l.eraseIdx (a1 (bM k) t.l))],?_,rfl,λE=>⟨rfl,rfl,⟨_,rfl⟩⟩⟩;exact fG Tryz.func270 λw cs=>r0 [] [(4,.bool false)] [] (r0 [(2,.c [0,1] [] (aa.at (rd':=[ob g #[v,iN t.I,.func (.func 178) #[] #[]] 356,ek v t.l]) (Ai g v t.l t.I k Om Om) (atS (bO (λ_ h=>ar.sq h) (λ_ h=>h)))))] [(5,iN (a1 (bM k) t.l))] [] (rF [(1,.t (tk (show Value.bool (decide (((a1 (bM k) t.l:Nat):Int)<0))= .bool false from ALca Value.bool (by exact bl Om))))] 10 (rr (λ_=>[(2,.c [0,1] [0,1] (F7 g v t.l t.I (a1 (bM k) t.l) Om Om))]) N0 [] (λa L=>(L.set 0 (ob g #[((a 2).val 0),iN t.I,.func (.func 178) #[] #[]] 356)).set 1 (ek ((a 2).val 0) (t.l.eraseIdx (a1 (bM k) t.l)))) λa=>r0 [] [(4,.bool true)] [4] (lf (.l [] [] [((a 2).val 0)]) [0,1] [] []))))
theorem S5(g:Nat)(t:Tb)(k:Nat)(b:t.l.length≤1000000)(h:a1 (bM k) t.l=t.l.length):aa Zl 270 #[pt g 0,iN k] [pk (dZ g t)] [0] (λ_=>[pk (dZ g t)]) (λ_=> .bool false):=aa.pkZ Tryz.func270 λL a=>by
 obtain⟨v,rfl⟩:=a;refine⟨[1],λ_=>[ek v t.l],?_,rfl,λE=>⟨rfl,rfl,⟨_,rfl⟩⟩⟩;exact fG Tryz.func270 λw cs=>r0 [] [(4,.bool false)] [] (r0 [(2,.c [0,1] [] (aa.at (rd':=[ob g #[v,iN t.I,.func (.func 178) #[] #[]] 356,ek v t.l]) (wj g v t.l t.I k Om Om) (atS (bO (λ_ h=>ar.sq h) (λ_ h=>h)))))] [(5,i6 (-1))] [] (rT [] 10 (r0 [] [(4,.bool false)] [4] (lf ab.zero [1] [(0,0)] []))))
theorem S6(g:Nat)(t:Tb)(k:Nat)(b:t.l.length≤1000000):aa Zl 238 #[pt g 0,iN k] [pk (dZ g t)] [0] (λ_=>[pk (dZ g t)]) (λ_=> .tuple #[.agg #[iN ((dg t k).l),iN ((dg t k).a)],.bool (wi t k)]):=by
 unfold dg wi;by_cases h:a1 (bM k) t.l=t.l.length
 ·rw[ALifp h,cC h];exact SZ g t k b h
 ·rw[ALifn h,bl h];exact SY g t k b (by have:=py (bM k) t.l;omega)
theorem S7(g:Nat)(t:Tb)(k l a:Nat)(c:t.l.length≤1000)(h1:1≤t.I):aa Zl 239 #[pt g 0,iN k,.agg #[iN l,iN a]] [pk (dZ g t)] [0] (λ_=>[pk (dZ g (pB t k l a))]) (λ_=> .tuple #[iN (F4 t k),.bool (F5 t k)]):=by
 unfold pB F4 F5;by_cases h:a1 (bM k) t.l=t.l.length
 ·by_cases b:t.l.length=t.I
  ·rw[ALifp h,ALifp b,ALifp ⟨h,b⟩,cC h,cC b];exact S3 g t k l a c Om h b
  ·rw[ALifp h,ALifn b,ALifn (λq=>b q.2),cC h,bl b];exact S2 g t k l a c h b
 ·rw[ALifn h,ALifn (λq=>h q.1),bl h];exact S1 g t k l a Om (by have:=py (bM k) t.l;omega)
theorem S8(g:Nat)(t:Tb)(k:Nat)(a:t.l.length≤1000000):aa Zl 270 #[pt g 0,iN k] [pk (dZ g t)] [0] (λ_=>[pk (dZ g (pC t k))]) (λ_=> .bool (wi t k)):=by
 unfold pC wi;by_cases h:a1 (bM k) t.l=t.l.length
 ·rw[ALifp h,cC h];exact S5 g t k a h
 ·rw[ALifn h,bl h];exact S4 g t k a (by have:=py (bM k) t.l;omega)
theorem F8(g:Nat)(v:Value)(rs:List Bk)(j c d e f h i r:Nat)(k:r<rs.length):aa Zl 236 #[pt g 0,iN r] [ob g #[iN c,iN d,iN e,iN f,iN h,iN i,v,pt j 0] 294,.p (aK Ad v rs)] [] N0 (λ_=> .bool true):=by
 exact fO Tryz.func236 1 rfl λb a=>fG Tryz.func236 λw cs=>r0 [] [(4,.bool false)] [] (r0 [(7,.m (ld 0 (v))),(8,eP a.1 1),] [(4,.bool ((decide (0≤(r:Int)))&&(decide ((r:Int)<(rs.length:Int)))))] [4] (ao (.bool ((decide (0≤(r:Int)))&&(decide ((r:Int)<(rs.length:Int))))) ab.zero (by exact ALca Value.bool (by simp only[Zt,decide_eq_true_eq];omega)) [] [(0,0),(1,1)] []))
theorem F9(g b:Nat)(c:Tk)(d:dS c)(r p n:Nat)(x:r<c.F.length)(u:n≤65536):aa Zl 206 #[pt g 0,iN r,iN p,iN n] [pk (aD g b c)] [0] (λ_=>[pk (aD g b (fH c r p n))]) (λ_=> .tuple #[.agg #[.bool (cU c.lr ((c.F.getD r bj).l) n),.bool (cU c.lp ((dg c.t p).l) n)],i6 0]):=aa.pkZ Tryz.func206 λL t=>by
 obtain⟨v,rfl⟩:=t;refine⟨[1,2],λ_=>[kO v (c.F.set r (⟨b4 ((c.F.getD r bj).l) n,(c.F.getD r bj).a⟩:Bk)),pk (dZ b (pB c.t p (b4 ((dg c.t p).l) n) ((dg c.t p).a)))],?_,rfl,λE=>⟨rfl,rfl,⟨_,rfl⟩⟩⟩;have y:=d.t.l;have z:=d.t.r;have o:=d.t.r1;have A:=d.n;have j:=d.b r x;have k:=d.t.get d.p.e1 p;refine fG Tryz.func206 λw cs=>ra (λf=>[(8,pt (B0 f) 0),(9,i6 0)]) (λf=>[ob (B0 f) #[.bool false,.bool false] 339]) λf=>r0 [(2,.c [0,1] [] (aa.at (rd':=[ob g #[iN c.lr,iN c.er,iN c.lp,iN c.ep,iN c.I,iN c.H,v,pt b 0] 294,kO v c.F]) (F8 g v c.F b c.lr c.er c.lp c.ep c.I c.H r Om) (atS (bO (λ_ h=>ar.sq h) (λ_ h=>h)))))] [(20,.bool (decide ((n:Int)<0)))] [] ?_;have q:(decide ((n:Int)<0))=false:=by exact bl Om
 exact cF (decide ((n:Int)<0)) q (ra (λe=>[(10,pt (B0 e) 0)]) (λe=>[ob (B0 e) #[.bool false,.bool false] 339]) λe=>rr (λ_=>[(3,.m (ld 0 (v))),(8,.m (ld 0 (v))),(10,cO lE v c.F 1 r),(11,qb lE v c.F 1 r 0 2),(16,.m (ls 0 ([iN c.lr,iN c.er]))),(18,.c [] [] (FR c.lr c.er ((c.F.getD r bj).l) ((c.F.getD r bj).a) n (by exact d.r) (by exact j) Om)),(22,cO lE v c.F 1 r),(23,sk lE v c.F 1 r (⟨b4 ((c.F.getD r bj).l) n,(c.F.getD r bj).a⟩:Bk)),(25,.s 4)]) N0 [] (λ_ L=>(L.set 1 (kO v (c.F.set r (⟨b4 ((c.F.getD r bj).l) n,(c.F.getD r bj).a⟩:Bk)))).set 4 (ob (B0 e) #[.bool (cU c.lr ((c.F.getD r bj).l) n),.bool false] 339)) λB=>rr (λ_=>[(3,.m (ld 0 (pt b 0))),(5,.c [2] [2] (S6 b c.t p Om)),(9,.m (al 5)),(10,.s 5)]) (λi=>[(11,pt ((i 9).y 0) 0)]) [] (λi L=>L++[ob ((i 9).y 0) #[iN ((dg c.t p).l),iN ((dg c.t p).a)] 290]) λi=>rr (λ_=>[(0,.m (ls 5 ([iN ((dg c.t p).l),iN ((dg c.t p).a)]))),(5,.m (ls 0 ([iN c.lp,iN c.ep]))),(7,.c [] [] (FR c.lp c.ep ((dg c.t p).l) ((dg c.t p).a) n (by exact d.p) (by exact k) Om)),(11,.s 5),(13,.s 4)]) N0 [] (λ_ L=>(L.set 4 (ob (B0 e) #[.bool (cU c.lr ((c.F.getD r bj).l) n),.bool (cU c.lp ((dg c.t p).l) n)] 339)).set 5 (ob ((i 9).y 0) #[iN (b4 ((dg c.t p).l) n),iN ((dg c.t p).a)] 290)) λC=>rs [(3,.l 0),(5,.l 5),(6,.c [2] [2] (S7 b c.t p (b4 ((dg c.t p).l) n) ((dg c.t p).a) Om Om))] 2 ((pk (dZ b (pB c.t p (b4 ((dg c.t p).l) n) ((dg c.t p).a))))) (rr (λ_=>[(0,.l 4),(1,.s 3)]) (λ_=>[(9,i6 0)]) [9] (λ_ L=>L.set 3 (ob (B0 f) #[.bool (cU c.lr ((c.F.getD r bj).l) n),.bool (cU c.lp ((dg c.t p).l) n)] 339)) λD=>lf ab.zero [1,2] [(0,0)] [3]))
theorem S9(g a:Nat)(c:Tk)(b:dS c)(p:Nat):aa Zl 249 #[pt g 0,iN p] [pk (aD g a c)] [0] (λ_=>[pk (aD g a (qL c p))]) (λ_=> .tuple #[]):=aa.pkZ Tryz.func249 λL e=>by
 obtain⟨v,rfl⟩:=e;refine⟨[1,2],λ_=>[kO v c.F,pk (dZ a (pC c.t p))],?_,rfl,λE=>⟨rfl,rfl,⟨_,rfl⟩⟩⟩;have f:=b.t.l;have h:=b.t.r;have d:=b.t.r1;have i:=b.n;refine fG Tryz.func249 λw cs=>rs [(3,.l 0),(5,.c [2] [2] (S8 a c.t p Om))] 2 ((pk (dZ a (pC c.t p)))) ?_;exact eF ab.zero [1,2] [(0,0)] []
theorem Ta(g a:Nat)(c:Tk)(b:dS c)(r:Nat)(k:r<c.F.length):aa Zl 250 #[pt g 0,iN r] [pk (aD g a c)] [0] (λ_=>[pk (aD g a (pD c r))]) (λ_=> .tuple #[]):=aa.pkZ Tryz.func250 λL e=>by
 obtain⟨v,rfl⟩:=e;refine⟨[1,2],λ_=>[kO v (c.F.set r (⟨0,0⟩:Bk)),pk (dZ a c.t)],?_,rfl,λE=>⟨rfl,rfl,⟨_,rfl⟩⟩⟩;have f:=b.t.l;have i:=b.t.r;have d:=b.t.r1;have j:=b.n;refine fG Tryz.func250 λw cs=>rT [(2,.c [0,1] [] (aa.at (rd':=[ob g #[iN c.lr,iN c.er,iN c.lp,iN c.ep,iN c.I,iN c.H,v,pt a 0] 294,kO v c.F]) (F8 g v c.F a c.lr c.er c.lp c.ep c.I c.H r Om) (atS (bO (λ_ h=>ar.sq h) (λ_ h=>h)))))] 6 (rs [(3,.l 0),(6,cO lE v c.F 1 r),(7,sk lE v c.F 1 r (⟨0,0⟩:Bk))] 1 (kO v (c.F.set r (⟨0,0⟩:Bk))) ?_);exact eF ab.zero [1,2] [(0,0)] []
section
def a2{α:Type}(f:α→α)(l:List α)(k:Nat):List α:=(l.take k).map f++l.drop k
section
variable {α:Type} {f:α→α} {l:List α} {k:Nat} {d:α}
theorem ts(f:α→α)(l:List α)(k:Nat):(a2 f l k).length=l.length:=by unfold a2;rw[Zn,Zw,Zq,Zx];omega
theorem wk(a:k<l.length):(a2 f l k).getD k d=l.getD k d:=by
 unfold a2;rw[Zo,ZF (by rw[Zw,Zq];omega),Zw,Zq,ZY,Zo]
 congr 2;omega
theorem Ga(f:α→α)(l:List α):a2 f l 0=l:=by unfold a2;simp
theorem Gb(f:α→α)(l:List α):a2 f l l.length=l.map f:=by unfold a2;simp
theorem Gc(a:k<l.length):(a2 f l k).set k (f (l.getD k d))=a2 f l (k+1):=by
 unfold a2;rw[ZV _ _ (by rw[Zw,Zq];omega),Zw,Zq,show k-min k l.length=0 by omega,ZG a,ZM,Zp a,List.map_append,Zr,Zo,Zp a];rfl
end
def eb(ev:Nat)(b:Bk):Bk:=⟨iD ev b.l b.a,iE ev b.l b.a⟩
def c0(ev:Nat)(p:Pa):Pa:=⟨p.k,iD ev p.l p.a,iE ev p.l p.a⟩
theorem Tc{ev:Nat}{l:List Bk}{k:Nat}(b:k<l.length):(a2 (eb ev) l k).set k ⟨iD ev ((a2 (eb ev) l k).getD k bj).l ((a2 (eb ev) l k).getD k bj).a,iE ev ((a2 (eb ev) l k).getD k bj).l ((a2 (eb ev) l k).getD k bj).a⟩=a2 (eb ev) l (k+1):=by
 rw[←Gc (d:=bj) b,wk b];rfl
theorem Td{ev:Nat}{l:List Pa}{k:Nat}(b:k<l.length):(a2 (c0 ev) l k).set k ⟨((a2 (c0 ev) l k).getD k bA).k,iD ev ((a2 (c0 ev) l k).getD k bA).l ((a2 (c0 ev) l k).getD k bA).a,iE ev ((a2 (c0 ev) l k).getD k bA).l ((a2 (c0 ev) l k).getD k bA).a⟩=a2 (c0 ev) l (k+1):=by
 rw[←Gc (d:=bA) b,wk b];rfl
def tt(t:Tb)(ev:Nat):Tb:={t with l:=a2 (c0 ev) t.l t.l.length}
def mQ(c:Tk):Tk:={c with F:=a2 (eb c.er) c.F c.F.length,t:=tt c.t c.ep}
end
theorem Te(b g e:Nat)(c:Tk)(hp:iX c.lp c.ep)(v:Value)(k l a:Nat)(f:fb c.ep l a):aa Zl 210 #[iN k,.agg #[iN l,iN a],pt b 0] [ob b #[pt g 0] 120,ob g #[iN c.lr,iN c.er,iN c.lp,iN c.ep,iN c.I,iN c.H,v,pt e 0] 294] [] N0 (λ_=> .agg #[iN (iD c.ep l a),iN (iE c.ep l a)]):=by
 exact fG Tryz.func210 λw cs=>ra (λd=>[(4,pt (B0 d) 0),(5,pt (B1 d) 0)]) (λd=>[ob (B0 d) #[iN l,iN a] 290,ob (B1 d) #[i6 0,i6 0] 290]) λd=>rs [(0,.l 2),(1,.l 0),(5,.l 1),(6,.c [] [] (FT c.lp c.ep l a hp f)),(7,.s 3)] 3 (ob (B1 d) #[iN (iD c.ep l a),iN (iE c.ep l a)] 290) (lf ab.zero [] [(0,0),(1,1)] [3])
theorem Tf(e:Nat)(t:Tb)(b g:Nat)(c:Tk)(o:dS c)(ht:iI c.ep t)(v:Value):aa Zl 209 #[pt e 0,.func (.func 210) #[] #[pt b 0]] [pk (dZ e t),ob b #[pt g 0] 120,ob g #[iN c.lr,iN c.er,iN c.lp,iN c.ep,iN c.I,iN c.H,v,pt e 0] 294] [0] (λ_=>[pk (dZ e (tt t c.ep))]) (λ_=> .tuple #[]):=aa.pkZ Tryz.func209 λL n=>by
 obtain⟨d,rfl⟩:=n;refine⟨[1],λ_=>[ek d (a2 (c0 c.ep) t.l t.l.length)],?_,rfl,λE=>⟨rfl,rfl,⟨_,rfl⟩⟩⟩;have r:=ht.l;have u:=ht.r;refine fG Tryz.func209 λw cs=>r0 [(3,.l 0),(4,fu eS d t.l 1)] [(9,d),(10,iN t.l.length),(11,i6 0)] [] ?_;refine lq (λk=>k≤t.l.length) (λk=>[(11,iN k)]) (λk L=>L.set 1 (ek d (a2 (c0 c.ep) t.l k))) (λk=>t.l.length-k) 0 Om Kr (by rw[Ga];kernel_rfl) (λk p=>?_);have q:=ts (c0 c.ep) t.l k;refine r0 [] [(12,.bool (decide ((k:Int)<(t.l.length:Int))))] [] ?_;refine cj (k:Int) (t.l.length:Int) (λj h=>?_) λj h=>?_
 ·refine rr (λ_=>[(1,cO eS d (a2 (c0 c.ep) t.l k) 1 k),(2,qb eS d (a2 (c0 c.ep) t.l k) 1 k 0 3),(5,.s 4)]) (λf=>[(5,pt (B3 f) 0),(4,iN k)]) [] (λf L=>L++[ob (B3 f) #[iN (((a2 (c0 c.ep) t.l k).getD k bA).k),iN (((a2 (c0 c.ep) t.l k).getD k bA).l),iN (((a2 (c0 c.ep) t.l k).getD k bA).a)] 386]) λf=>?_;have i:fb c.ep ((a2 (c0 c.ep) t.l k).getD k bA).l ((a2 (c0 c.ep) t.l k).getD k bA).a:=by rw[wk Om];exact ht.b k Om
  exact rs [(3,.m (ld 0 (d))),(7,.m (ld 4 (iN (((a2 (c0 c.ep) t.l k).getD k bA).k)))),(9,.m (ls 4 ([iN (((a2 (c0 c.ep) t.l k).getD k bA).l),iN (((a2 (c0 c.ep) t.l k).getD k bA).a)]))),(10,.c [2,3] [] (Te b g e c o.p v (((a2 (c0 c.ep) t.l k).getD k bA).k) (((a2 (c0 c.ep) t.l k).getD k bA).l) (((a2 (c0 c.ep) t.l k).getD k bA).a) i)),(11,cO eS d (a2 (c0 c.ep) t.l k) 1 k),(12,u3 eS d (a2 (c0 c.ep) t.l k) 1 (k*3) 1),(13,F3 eS d (a2 (c0 c.ep) t.l k) 1 k 1 (⟨((a2 (c0 c.ep) t.l k).getD k bA).k,iD c.ep (((a2 (c0 c.ep) t.l k).getD k bA).l) (((a2 (c0 c.ep) t.l k).getD k bA).a),iE c.ep (((a2 (c0 c.ep) t.l k).getD k bA).l) (((a2 (c0 c.ep) t.l k).getD k bA).a)⟩:Pa) [iN (iD c.ep (((a2 (c0 c.ep) t.l k).getD k bA).l) (((a2 (c0 c.ep) t.l k).getD k bA).a)),iN (iE c.ep (((a2 (c0 c.ep) t.l k).getD k bA).l) (((a2 (c0 c.ep) t.l k).getD k bA).a))] Kr Om)] 1 (ek d ((a2 (c0 c.ep) t.l k).set k (⟨((a2 (c0 c.ep) t.l k).getD k bA).k,iD c.ep (((a2 (c0 c.ep) t.l k).getD k bA).l) (((a2 (c0 c.ep) t.l k).getD k bA).a),iE c.ep (((a2 (c0 c.ep) t.l k).getD k bA).l) (((a2 (c0 c.ep) t.l k).getD k bA).a)⟩:Pa))) (r0 [(0,ad k 1)] [(11,iN (k+1))] [11] (le (k+1) Om Om Kr [0,1,2,3] (by rw[←Td Om];kernel_rfl)))
 obtain rfl:t.l.length=k:=by omega
 refine lx ?_;exact eF ab.zero [1] [(0,0),(2,2),(3,3)] []
theorem Tg(g d:Nat)(c:Tk)(b:dS c):aa Zl 164 #[pt g 0] [pk (aD g d c)] [0] (λ_=>[pk (aD g d (mQ c))]) (λ_=> .tuple #[]):=aa.pkZ Tryz.func164 λL o=>by
 obtain⟨v,rfl⟩:=o;refine⟨[1,2],λ_=>[kO v (a2 (eb c.er) c.F c.F.length),pk (dZ d (tt c.t c.ep))],?_,rfl,λE=>⟨rfl,rfl,⟨_,rfl⟩⟩⟩;have r:=b.t.l;have t:=b.t.r;have j:=b.t.r1;have u:=b.n;refine fG Tryz.func164 λw cs=>ra (λe=>[(1,pt (B0 e) 0)]) (λe=>[ob (B0 e) #[pt g 0] 120]) λe=>r0 [(0,.l 3),(3,.l 0),(4,fu lE v c.F 1)] [(7,v),(8,iN c.F.length),(9,i6 0)] [] ?_;refine lq (λk=>k≤c.F.length) (λk=>[(9,iN k)]) (λk L=>L.set 1 (kO v (a2 (eb c.er) c.F k))) (λk=>c.F.length-k) 0 Om Kr (by rw[Ga];kernel_rfl) (λk p=>?_);have q:=ts (eb c.er) c.F k;refine r0 [] [(10,.bool (decide ((k:Int)<(c.F.length:Int))))] [] ?_;refine cj (k:Int) (c.F.length:Int) (λn h=>?_) λn h=>?_
 ·refine rr (λ_=>[(1,cO lE v (a2 (eb c.er) c.F k) 1 k),(2,qb lE v (a2 (eb c.er) c.F k) 1 k 0 2),(5,.s 4)]) (λf=>[(3,pt (B3 f) 0),(2,iN k)]) [] (λf L=>L++[ob (B3 f) #[iN (((a2 (eb c.er) c.F k).getD k bj).l),iN (((a2 (eb c.er) c.F k).getD k bj).a)] 290]) λf=>?_;have i:fb c.er ((a2 (eb c.er) c.F k).getD k bj).l ((a2 (eb c.er) c.F k).getD k bj).a:=by rw[wk Om];exact b.b k Om
  exact rs [(0,.m (ld 3 (pt g 0))),(3,.m (ld 0 (v))),(5,.m (ls 4 ([iN (((a2 (eb c.er) c.F k).getD k bj).l),iN (((a2 (eb c.er) c.F k).getD k bj).a)]))),(6,.m (ld 3 (pt g 0))),(10,.m (ls 0 ([iN c.lr,iN c.er]))),(11,.c [] [] (FT c.lr c.er (((a2 (eb c.er) c.F k).getD k bj).l) (((a2 (eb c.er) c.F k).getD k bj).a) b.r i)),(12,cO lE v (a2 (eb c.er) c.F k) 1 k),(13,sk lE v (a2 (eb c.er) c.F k) 1 k (⟨iD c.er (((a2 (eb c.er) c.F k).getD k bj).l) (((a2 (eb c.er) c.F k).getD k bj).a),iE c.er (((a2 (eb c.er) c.F k).getD k bj).l) (((a2 (eb c.er) c.F k).getD k bj).a)⟩:Bk))] 1 (kO v ((a2 (eb c.er) c.F k).set k (⟨iD c.er (((a2 (eb c.er) c.F k).getD k bj).l) (((a2 (eb c.er) c.F k).getD k bj).a),iE c.er (((a2 (eb c.er) c.F k).getD k bj).l) (((a2 (eb c.er) c.F k).getD k bj).a)⟩:Bk))) (r0 [(0,ad k 1)] [(9,iN (k+1))] [9] (le (k+1) Om Om Kr [0,1,2,3] (by rw[←Tc Om];kernel_rfl)))
 obtain rfl:c.F.length=k:=by omega
 refine lx (rs [(0,.l 3),(3,.l 0),(5,.c [2,3,0] [2] (Tf d c.t (B0 e) g c b b.t v))] 2 ((pk (dZ d (tt c.t c.ep)))) ?_);exact eF ab.zero [1,2] [(0,0)] []
theorem Th(room:Nat)(h1:1≤room)(h2:room≤256):aa Zl 177 #[iN room,.func (.func 178) #[] #[]] [] [] (λE=>[ob (E.y 0) #[.slice none 0 0,iN room,.func (.func 178) #[] #[]] 356]) (λE=> .tuple #[pt ((E.y 0)) 0,i6 0]):=by
 refine fG Tryz.func177 λw cs=>r0 [] [(4,.pointer none),(5,i6 0)] [] (r0 [] [(11,.bool ((decide ((room:Int)<1))||(decide (256<(room:Int)))))] [] ?_);have b:((decide ((room:Int)<1))||(decide (256<(room:Int))))=false:=by rw[ZD];exact⟨bl Om,bl Om⟩
 exact cF ((decide ((room:Int)<1))||(decide (256<(room:Int)))) b (rr N0 (λa=>[(4,pt (B3 a) 0),(5,i6 0)]) [4,5] (λa L=>L++[ob (B3 a) #[.slice none 0 0,iN room,.func (.func 178) #[] #[]] 356]) λa=>lf (.l [(a 3).y 0] [] []) [0] [] [])
theorem Ti(room:Nat)(h1:1≤room)(h2:room≤256):aa Zl 177 #[iN room,.func (.func 178) #[] #[]] [] [] (λE=>[pk (dZ (E.y 0) ⟨[],room⟩)]) (λE=> .tuple #[pt (E.y 0) 0,i6 0]):=(Th room h1 h2).outs λE b a=>Ag ⟨_,rfl⟩ a
theorem Gd(f d e b a heavy:Int):aa Zl 110 #[.agg #[i6 f,i6 d,i6 e,i6 b,i6 a,i6 heavy]] [] [] N0 (λ_=> .bool (((((h8 f d&&h8 e b)&&decide (1≤a))&&decide (a≤256))&&decide (1≤heavy))&&decide (heavy≤65536))):=by
 exact fG Tryz.func110 λw cs=>ra (λg=>[(1,pt (B0 g) 0),(2,.bool false)]) (λg=>[ob (B0 g) #[i6 f,i6 d,i6 e,i6 b,i6 a,i6 heavy] 29]) λg=>r0 [(1,.m (ls 0 ([i6 f,i6 d]))),(2,.c [] [] (Ae f d)),(5,.m (ls 0 ([i6 e,i6 b]))),(6,.c [] [] (Ae e b)),(10,.m (ld 0 (i6 a))),(15,.m (ld 0 (i6 a))),(20,.m (ld 0 (i6 heavy))),(25,.m (ld 0 (i6 heavy))),] [(2,.bool ((((((h8 f d)&&(h8 e b))&&(decide (1≤a)))&&(decide (a≤256)))&&(decide (1≤heavy)))&&(decide (heavy≤65536))))] [2] (ao (.bool ((((((h8 f d)&&(h8 e b))&&(decide (1≤a)))&&(decide (a≤256)))&&(decide (1≤heavy)))&&(decide (heavy≤65536)))) ab.zero bc [] [] [])
def pE(e c d b a heavy f:Nat):Tk:=⟨e,c,d,b,a,heavy,Zm f bj,⟨[],a⟩⟩
theorem Tj(h f g e a heavy b:Nat)(m:iX h f)(k:iX g e)(h1:1≤a)(h2:a≤256)(o:1≤heavy)(n:heavy≤65536)(p:1≤b)(q:b≤8):aa Zl 138 #[.agg #[iN h,iN f,iN g,iN e,iN a,iN heavy],iN b] [] [] (λE=>[ob (E.y 0) #[iN h,iN f,iN g,iN e,iN a,iN heavy,(E.val 0),pt ((E.y 1)) 0] 294,kO (E.val 0) (Zm b bj),pk (dZ (E.y 1) ⟨[],a⟩)]) (λE=> .tuple #[pt ((E.y 0)) 0,i6 0]):=by
 refine fG Tryz.func138 λw cs=>ra (λj=>[(2,pt (B0 j) 0),(4,.pointer none),(5,i6 0)]) (λj=>[ob (B0 j) #[iN h,iN f,iN g,iN e,iN a,iN heavy] 29]) λj=>rF [(0,.l 0),(1,.c [] [] (aa.v ((Gd (h:Int) (f:Int) (g:Int) (e:Int) (a:Int) (heavy:Int))) λ_=>ALca Value.bool (show(((((h8 (h:Int) (f:Int)&&h8 (g:Int) (e:Int))&&decide (1≤(a:Int)))&&decide ((a:Int)≤256))&&decide (1≤(heavy:Int)))&&decide ((heavy:Int)≤65536))=true from(by rw[m.r,k.r];simp only[Zt,decide_eq_true_eq,true_and];omega))))] 8 (r0 [] [(12,.bool ((decide ((b:Int)<1))||(decide (8<(b:Int)))))] [] ?_);have n:((decide ((b:Int)<1))||(decide (8<(b:Int))))=false:=by rw[ZD];exact⟨bl Om,bl Om⟩
 exact cF ((decide ((b:Int)<1))||(decide (8<(b:Int)))) n (rr (λ_=>[(1,.l 0),(2,.c [] [1] (Ti a Om Om))]) (λi=>[(6,pt ((B2 i)) 0),(7,i6 0)]) [] (λi L=>L++[pk (dZ (B2 i) ⟨[],a⟩)]) λi=>rF [] 26 (rr (λ_=>[(0,.l 0),(2,sC lE 2 b)]) (λd=>[(4,pt (B5 d) 0),(5,i6 0)]) [4,5] (λd L=>L++[kO (.slice (some ⟨(d 2).y 0,0,none⟩) b b) (Zm b bj),ob (B5 d) #[iN h,iN f,iN g,iN e,iN a,iN heavy,.slice (some ⟨(d 2).y 0,0,none⟩) b b,pt ((B2 i)) 0] 294]) λd=>lf (.l [(d 5).y 0,(B2 i)] [] [.slice (some ⟨(d 2).y 0,0,none⟩) b b]) [3,2,1] [] []))
theorem Tl(f d e c a heavy b:Nat)(h:iX f d)(g:iX e c)(h1:1≤a)(h2:a≤256)(i:1≤heavy)(j:heavy≤65536)(k:1≤b)(l:b≤8):aa Zl 138 #[.agg #[iN f,iN d,iN e,iN c,iN a,iN heavy],iN b] [] [] (λE=>[pk (aD (E.y 0) (E.y 1) (pE f d e c a heavy b))]) (λE=> .tuple #[pt ((E.y 0)) 0,i6 0]):=(Tj f d e c a heavy b h g h1 h2 i j k l).outs λE n m=>s9 ⟨_,rfl⟩ m
def lF(r s b m c way a:Int):Bool:=(((((jo r s b m c&&decide (0≤way))&&decide (way<4))&&decide (0≤a))&&decide (a≤64))&&decide (a<r*b*m))
theorem Tm(R S B M C:Nat)(d:cG R S B M C)(way a:Int):aa Zl 106 #[.agg #[iN R,iN S,iN B,iN M,iN C,i6 way,i6 a]] [] [] N0 (λ_=> .bool (lF R S B M C way a)):=by
 exact fG Tryz.func106 λw cs=>ra (λb=>[(1,pt (B0 b) 0),(2,.bool false)]) (λb=>[ob (B0 b) #[iN R,iN S,iN B,iN M,iN C,i6 way,i6 a] 25]) λb=>r0 [(1,.m (ls 0 ([iN R,iN S,iN B,iN M,iN C]))),(3,.m (ld 0 (i6 way))),(4,.c [] [] (zP (R:Int) (S:Int) (B:Int) (M:Int) (C:Int) way)),(7,.m (ld 0 (i6 a))),(12,.m (ld 0 (i6 a))),(17,.m (ld 0 (i6 a))),(19,.m (ls 0 ([iN R,iN S,iN B,iN M,iN C]))),(20,.c [] [] (mL R S B M C d)),] [(2,.bool ((((((jo (R:Int) (S:Int) (B:Int) (M:Int) (C:Int))&&(decide (0≤way)))&&(decide (way<4)))&&(decide (0≤a)))&&(decide (a≤64)))&&(decide (a<(((R*B)*M:Nat):Int)))))] [2] (ao (.bool ((((((jo (R:Int) (S:Int) (B:Int) (M:Int) (C:Int))&&(decide (0≤way)))&&(decide (way<4)))&&(decide (0≤a)))&&(decide (a≤64)))&&(decide (a<(((R*B)*M:Nat):Int))))) ab.zero (by unfold lF;rw[ZA,ZA]) [] [] [])
theorem Tn(r s b m c way a:Int)(f:jo r s b m c=false):aa Zl 106 #[.agg #[i6 r,i6 s,i6 b,i6 m,i6 c,i6 way,i6 a]] [] [] N0 (λ_=> .bool (lF r s b m c way a)):=by
 exact fG Tryz.func106 λw cs=>ra (λe=>[(1,pt (B0 e) 0),(2,.bool false)]) (λe=>[ob (B0 e) #[i6 r,i6 s,i6 b,i6 m,i6 c,i6 way,i6 a] 25]) λe=>r0 [(1,.m (ls 0 ([i6 r,i6 s,i6 b,i6 m,i6 c]))),(3,.m (ld 0 (i6 way))),(4,.c [] [] (aa.v ((zP r s b m c way)) λ_=>ALca Value.bool (show(((jo r s b m c)&&(decide (0≤way)))&&(decide (way<4)))=false from(by rw[f];rfl)))),(6,.d),(7,.d),(8,.d),(11,.d),(12,.d),(13,.d),(16,.d),(17,.d),(18,.d),(19,.d),(20,.d),(21,.d)] [(2,.bool false)] [2] (ao (.bool false) ab.zero (by unfold lF;rw[f];rfl) [] [] [])
theorem To(r s b m c way a:Int):aa Zl 106 #[.agg #[i6 r,i6 s,i6 b,i6 m,i6 c,i6 way,i6 a]] [] [] N0 (λ_=> .bool (lF r s b m c way a)):=by
 cases d:jo r s b m c with
 | false=>exact Tn r s b m c way a d
 | true=>
  obtain⟨R,S,B,M,C,rfl,rfl,rfl,rfl,rfl,e⟩:=E4 d;exact Tm R S B M C e way a
def iY(r s b m c way e mode i g h f a heavy d:Int):Bool:=((((lF r s b m c way e&&((mode==1)||(mode==2)))&&(((((h8 i g&&h8 h f)&&decide (1≤a))&&decide (a≤256))&&decide (1≤heavy))&&decide (heavy≤65536)))&&decide (1≤d))&&decide (d≤256))
theorem Ge(r s b m c way e mode j h i g a heavy d:Int)(f:Bool):aa Zl 79 #[.agg #[i6 r,i6 s,i6 b,i6 m,i6 c,i6 way,i6 e,i6 mode,i6 j,i6 h,i6 i,i6 g,i6 a,i6 heavy,i6 d,.bool f]] [] [] N0 (λ_=> .bool (iY r s b m c way e mode j h i g a heavy d)):=by
 exact fG Tryz.func79 λw cs=>ra (λk=>[(1,pt (B0 k) 0),(2,.bool false)]) (λk=>[ob (B0 k) #[i6 r,i6 s,i6 b,i6 m,i6 c,i6 way,i6 e,i6 mode,i6 j,i6 h,i6 i,i6 g,i6 a,i6 heavy,i6 d,.bool f] 31]) λk=>r0 [(1,.m (ls 0 ([i6 r,i6 s,i6 b,i6 m,i6 c,i6 way,i6 e]))),(2,.c [] [] (To r s b m c way e)),(5,.m (ld 0 (i6 mode))),(6,.c [] [] (o9 mode)),(10,.m (ls 0 ([i6 j,i6 h,i6 i,i6 g,i6 a,i6 heavy]))),(11,.c [] [] (Gd j h i g a heavy)),(15,.m (ld 0 (i6 d))),(20,.m (ld 0 (i6 d))),] [(2,.bool (((((lF r s b m c way e)&&((mode==1)||(mode==2)))&&(((((h8 j h&&h8 i g)&&decide (1≤a))&&decide (a≤256))&&decide (1≤heavy))&&decide (heavy≤65536)))&&(decide (1≤d)))&&(decide (d≤256))))] [2] (ao (.bool (((((lF r s b m c way e)&&((mode==1)||(mode==2)))&&(((((h8 j h&&h8 i g)&&decide (1≤a))&&decide (a≤256))&&decide (1≤heavy))&&decide (heavy≤65536)))&&(decide (1≤d)))&&(decide (d≤256)))) ab.zero bc [] [] [])
structure Cf where
 R:Nat
 S:Nat
 B:Nat
 M:Nat
 C:Nat
 G:Nat
 res:Nat
 E:Nat
 lr:Nat
 er:Nat
 lp:Nat
 ep:Nat
 I:Nat
 H:Nat
 log:Nat
 W:Bool
abbrev cA(c:Cf):Array Value:=#[i6 (c.R:Int),i6 (c.S:Int),i6 (c.B:Int),i6 (c.M:Int),i6 (c.C:Int),i6 (c.G:Int),i6 (c.res:Int),i6 (c.E:Int),i6 (c.lr:Int),i6 (c.er:Int),i6 (c.lp:Int),i6 (c.ep:Int),i6 (c.I:Int),i6 (c.H:Int),i6 (c.log:Int),.bool c.W]
abbrev lA(c:Cf)(a b d t:Nat):Array Value:=#[i6 (c.R:Int),i6 (c.S:Int),i6 (c.B:Int),i6 (c.M:Int),i6 (c.C:Int),i6 (c.G:Int),i6 (c.res:Int),i6 (c.E:Int),i6 (c.lr:Int),i6 (c.er:Int),i6 (c.lp:Int),i6 (c.ep:Int),i6 (c.I:Int),i6 (c.H:Int),i6 (c.log:Int),.bool c.W,pt a 0,pt b 0,pt d 0,i6 (t:Int)]
structure b6 (c:Cf):Prop where
 ly:iB c.R c.S c.B c.M c.C c.G c.res
 E:c.E=1∨c.E=2
 r:iX c.lr c.er
 p:iX c.lp c.ep
 m1:1≤c.I
 m2:c.I≤256
 h1:1≤c.H
 h2:c.H≤65536
 l1:1≤c.log
 l2:c.log≤256
theorem Tp{k:Nat}{w:World}(h:k<3):(Instr.index 228 (.agg #[i6 0,i6 0,i6 0]) (.int .i64 (k:Int))).run Zl w= .ok (i6 0) w:=by
 rcases k with _ | _ | _ | k
 ·kernel_rfl
 ·kernel_rfl
 ·kernel_rfl
 ·omega
theorem iB.v{R S B M C way a:Nat}(h:iB R S B M C way a):lF R S B M C way a=true:=by
 have b:=h.G;have c:=h.r64;have d:=h.rp;unfold lF;rw[h.O.ok];simp only[aaa,Zt,decide_eq_true_eq];rw[←ZA,←ZA];omega
theorem b6.v{c:Cf}(h:b6 c):iY c.R c.S c.B c.M c.C c.G c.res c.E c.lr c.er c.lp c.ep c.I c.H c.log=true:=by
 have a:=h.m1;have b:=h.m2;have d:=h.h1;have f:=h.h2;have g:=h.l1;have i:=h.l2;unfold iY;rw[h.ly.v,h.r.r,h.p.r];simp only[aaa,Zt,ZO,decide_eq_true_eq,beq_iff_eq];rcases h.E with e | e<;>omega
theorem Tq{r s b m c way a:Int}(h:lF r s b m c way a=true): ∃R S B M C w q:Nat,r=R∧s=S∧b=B∧m=M∧c=C∧way=w∧a=q∧iB R S B M C w q:=by
 unfold lF at h;simp only[Zt,decide_eq_true_eq] at h;obtain⟨⟨⟨⟨⟨f,g⟩,i⟩,j⟩,k⟩,d⟩:=h;obtain⟨R,S,B,M,C,rfl,rfl,rfl,rfl,rfl,e⟩:=E4 f;rw[←ZA,←ZA] at d;exact⟨R,S,B,M,C,way.toNat,a.toNat,rfl,rfl,rfl,rfl,rfl,by omega,by omega,e,by omega,by omega,by omega⟩
theorem Aj{r s b m c way f mode k i j g a heavy d:Int}(e:Bool)(h:iY r s b m c way f mode k i j g a heavy d=true): ∃q:Cf,r=q.R∧s=q.S∧b=q.B∧m=q.M∧c=q.C∧way=q.G∧f=q.res∧mode=q.E∧k=q.lr∧i=q.er∧j=q.lp∧g=q.ep∧a=q.I∧heavy=q.H∧d=q.log∧e=q.W∧b6 q:=by
 unfold iY at h;simp only[Zt,ZO,decide_eq_true_eq,beq_iff_eq] at h;obtain⟨⟨⟨⟨p,D⟩,⟨⟨⟨⟨⟨t,hp⟩,u⟩,v⟩,x⟩,y⟩⟩,z⟩,A⟩:=h;obtain⟨R,S,B,M,C,w,q,rfl,rfl,rfl,rfl,rfl,rfl,rfl,l⟩:=Tq p;obtain⟨k,i,rfl,rfl,o⟩:=FN t;obtain⟨j,g,rfl,rfl,n⟩:=FN hp;exact⟨⟨R,S,B,M,C,w,q,mode.toNat,k,i,j,g,a.toNat,heavy.toNat,d.toNat,e⟩,rfl,rfl,rfl,rfl,rfl,rfl,rfl,by show mode=(mode.toNat:Int);omega,rfl,rfl,rfl,rfl,by show a=(a.toNat:Int);omega,by show heavy=(heavy.toNat:Int);omega,by show d=(d.toNat:Int);omega,rfl,l,by show mode.toNat=1∨mode.toNat=2;omega,o,n,by show 1≤a.toNat;omega,by show a.toNat≤256;omega,by show 1≤heavy.toNat;omega,by show heavy.toNat≤65536;omega,by show 1≤d.toNat;omega,by show d.toNat≤256;omega⟩
theorem Al(c:Cf)(h:b6 c):aa Zl 79 #[.agg (cA c)] [] [] N0 (λ_=> .bool true):=by
 have a:=Ge c.R c.S c.B c.M c.C c.G c.res c.E c.lr c.er c.lp c.ep c.I c.H c.log c.W;rwa [h.v] at a
theorem Tr(c:Cf)(a:b6 c):aa Zl 114 #[.agg (cA c)] [] [] (λE=>[ob (E.y 0) #[iN c.R,iN c.S,iN c.B,iN c.M,iN c.C,iN c.G,iN c.res,iN c.E,iN c.lr,iN c.er,iN c.lp,iN c.ep,iN c.I,iN c.H,iN c.log,.bool c.W,pt ((E.y 1)) 0,pt ((E.y 2)) 0,pt ((E.y 3)) 0,i6 0] 122,pk (au (E.y 1) ((E.y 4)) ((E.y 5)) ⟨lD c.R c.S c.B c.M c.C c.G c.res,km,[]⟩),pk (aD (E.y 2) ((E.y 6)) (pE c.lr c.er c.lp c.ep c.I c.H c.R)),pk (az (E.y 3) (pz c.log))]) (λE=> .tuple #[pt ((E.y 0)) 0,i6 0]):=by
 have f:=a.ly;have p:=a.r;have o:=a.p;have y:=a.m1;have z:=a.m2;have q:=a.h1;have r:=a.h2;have v:=a.l1;have x:=a.l2;have A:=f.O.bd.r1;have B:=f.O.bd.r8;refine fG Tryz.func114 λw cs=>ra (λi=>[(1,pt (B0 i) 0),(2,.pointer none),(3,i6 0)]) (λi=>[ob (B0 i) (cA c) 31]) λi=>rF [(0,.l 0),(1,.c [] [] (Al c a))] 10 (rr (λ_=>[(0,.l 0)]) (λd=>[(4,pt (B2 d) 0)]) [] (λd L=>L++[ob (B2 d) #[iN c.R,iN c.S,iN c.B,iN c.M,iN c.C,iN c.G,iN c.res,iN c.E,iN c.lr,iN c.er,iN c.lp,iN c.ep,iN c.I,iN c.H,iN c.log,.bool c.W,.pointer none,.pointer none,.pointer none,i6 0] 122]) λd=>ra (λj=>[(5,pt (B0 j) 0)]) (λj=>[ob (B0 j) #[i6 0,i6 0,i6 0] 228]) λj=>rr (λb=>[(2,.m (ls 0 ([iN c.R,iN c.S,iN c.B,iN c.M,iN c.C,iN c.G,iN c.res]))),(3,.c [] [3] (RX c.R c.S c.B c.M c.C c.G c.res f)),(9,.s 1),(11,.s 2)]) N0 [] (λb L=>L.set 1 (ob (B2 d) #[iN c.R,iN c.S,iN c.B,iN c.M,iN c.C,iN c.G,iN c.res,iN c.E,iN c.lr,iN c.er,iN c.lp,iN c.ep,iN c.I,iN c.H,iN c.log,.bool c.W,pt ((B3 b)) 0,.pointer none,.pointer none,i6 0] 122)++[pk (au (B3 b) ((b 3).y 1) ((b 3).y 2) ⟨lD c.R c.S c.B c.M c.C c.G c.res,km,[]⟩)]) λb=>rr (λe=>[(2,.m (ls 0 ([iN c.lr,iN c.er,iN c.lp,iN c.ep,iN c.I,iN c.H]))),(6,.m (ld 0 (iN c.R))),(7,.c [] [4] (Tl c.lr c.er c.lp c.ep c.I c.H c.R p o Om Om Om Om Om Om)),(13,.s 1),(15,.s 2)]) N0 [] (λe L=>L.set 1 (ob (B2 d) #[iN c.R,iN c.S,iN c.B,iN c.M,iN c.C,iN c.G,iN c.res,iN c.E,iN c.lr,iN c.er,iN c.lp,iN c.ep,iN c.I,iN c.H,iN c.log,.bool c.W,pt ((B3 b)) 0,pt ((B7 e)) 0,.pointer none,i6 0] 122)++[pk (aD (B7 e) ((e 7).y 1) (pE c.lr c.er c.lp c.ep c.I c.H c.R))]) λe=>rr (λh=>[(2,.m (ld 0 (iN c.log))),(3,.c [] [5] (SB c.log Om Om)),(9,.s 1),(11,.s 2)]) N0 [] (λh L=>L.set 1 (ob (B2 d) #[iN c.R,iN c.S,iN c.B,iN c.M,iN c.C,iN c.G,iN c.res,iN c.E,iN c.lr,iN c.er,iN c.lp,iN c.ep,iN c.I,iN c.H,iN c.log,.bool c.W,pt ((B3 b)) 0,pt ((B7 e)) 0,pt ((B3 h)) 0,i6 0] 122)++[pk (az (B3 h) (pz c.log))]) λh=>r0 [(0,.l 2)] [(48,.agg #[i6 0,i6 0,i6 0]),(49,i6 0)] [] ?_);refine lq (λk=>k≤3) (λk=>[(49,iN k)]) (λ_ L=>L) (λk=>3-k) 0 Om Kr Kr (λk u=>?_);refine r0 [] [(50,.bool (decide ((k:Int)<3)))] [] ?_;refine cj (k:Int) 3 (λn g=>?_) λn g=>?_
 ·exact r0 [(0,.t (tv (Instr.index 228 (.agg #[i6 0,i6 0,i6 0]) (iN k)) (λ_=>Tp Om)))] [(7,i6 0)] [] (rF [] 53 (r0 [(0,ad k 1)] [(49,iN (k+1))] [49] (le (k+1) Om Om Kr [0,1,2,3,4,5] Kr)))
 obtain rfl:k=3:=by omega
 exact lx (r0 [] [(2,pt (B2 d) 0),(3,i6 0)] [] (lf (.l [(d 2).y 0,(B3 b),(B7 e),(B3 h),(b 3).y 1,(b 3).y 2,(e 7).y 1] [] []) [1,3,4,5] [] []))
theorem nB(b e d a:Nat)(c:Cf)(time:Nat)(g:Lg)(f:gb g)(k i o:Nat):aa Zl 205 #[pt b 0,iN k,iN i,iN o] [ob b (lA c e d a time) 122,pk (az a g)] [1] (λ_=>[pk (az a (bW g ⟨0,time,k,i,o⟩))]) (λ_=> .tuple #[]):=by
 refine fG Tryz.func205 λw cs=>rs [(3,.m (ld 0 (pt a 0))),(7,.m (ld 0 (iN time))),(12,.c [1] [1] (SK a g ⟨0,time,k,i,o⟩ f))] 1 ((pk (az a (bW g ⟨0,time,k,i,o⟩)))) ?_;exact eF ab.zero [1] [(0,0)] [] (hf:=by kernel_rfl)
theorem Ts(g a b:Nat)(r:Rp)(d:aO r)(p:Nat)(hp:p<r.m.R*r.m.B*r.m.M):aa Zl 64 #[pt a 0,iN p] [pk (au g a b r)] [0] (λ_=>[pk (au g a b r)]) (λ_=> .tuple #[iN (bB r.m p),i6 0]):=(Fu a r.m d.m p hp).inW λL c=>⟨1,by rw[c];rfl,by rw[c];rfl⟩
theorem Tt(g a b:Nat)(r:Rp)(d:aO r)(p:Nat)(hp:p<r.m.R*r.m.B*r.m.M):aa Zl 86 #[pt a 0,iN p] [pk (au g a b r)] [0] (λ_=>[pk (au g a b r)]) (λ_=> .bool (decide (p<r.m.R*r.m.B*r.m.M-r.m.res+r.m.P)&& !r.m.Q.getD p false)):=(Q2 a r.m d.m p hp).inW λL c=>⟨1,by rw[c];rfl,by rw[c];rfl⟩
theorem Gf(g a b:Nat)(r:Rp)(d:aO r):aa Zl 63 #[pt a 0] [pk (au g a b r)] [0] (λ_=>[pk (au g a b r)]) (λ_=> .agg #[iN r.m.R,iN r.m.S,iN r.m.B,iN r.m.M,iN r.m.C,iN r.m.G,iN r.m.res]):=(jt a r.m d.m).inW λL c=>⟨1,by rw[c];rfl,by rw[c];rfl⟩
theorem qM(g a i h d e:Nat)(c:Cf)(time:Nat)(r:Rp)(f:aO r)(p:Nat)(hp:p<r.m.R*r.m.B*r.m.M):aa Zl 248 #[pt g 0,iN p] [ob g (lA c a i h time) 122,pk (au a d e r)] [1] (λ_=>[pk (au a d e r)]) (λ_=>iN (bB r.m p*64)):=by
 have j:=vW f.m hp;exact fG Tryz.func248 λw cs=>r0 [] [(4,i6 0)] [] (r0 [(3,.m (ld 0 (pt a 0))),(4,.c [1] [1] (wc a d e r f)),(6,.c [1] [1] (Ts a d e r f p hp)),] [(5,iN (bB r.m p))] [] (r0 [(1,.t (tv (av .shl 3 (.tmp 17) (.const (u6 6)) (iN (bB r.m p)) (u6 6)) (λ_=>dM (b:=((bB r.m p*64:Nat):Int)) (fU 6 Dc Om Om) Om)))] [(4,iN (bB r.m p*64))] [4] (lf ab.zero [1] [(0,0)] [])))
theorem Tu(i h e a j m p:Nat)(c:Cf)(time:Nat)(r:Rp)(n:aO r)(k:Tk)(y:dS k)(g:Lg)(s:gb g)(f t:Nat)(q:f<r.m.R*r.m.B*r.m.M)(x:t<r.m.R*r.m.B*r.m.M):aa Zl 213 #[pt i 0,i6 1,.agg #[i6 3,iN f,iN t]] [ob i (lA c h e a time) 122,pk (au h j m r),pk (aD e p k),pk (az a g)] [1,2,3] (λ_=>[pk (au h j m r),pk (aD e p k),pk (az a (bW g ⟨0,time,3,(bB r.m f*64),(bB r.m t*64)⟩))]) (λ_=> .tuple #[]):=by
 have u:=n.m.np;have v:=n.m.ly.rp;refine fG Tryz.func213 λw cs=>ra (λo=>[(5,pt (B0 o) 0)]) (λo=>[ob (B0 o) #[i6 3,iN f,iN t] 349]) λo=>r0 [(1,.l 4),(2,.t (tv (av .shl 3 (.tmp 9) (.const (u6 20)) (iN f) (u6 20)) (λ_=>dM (b:=((f*1048576:Nat):Int)) (fU 20 Dc Om Om) Om))),(4,.l 4),(5,.t (tv (av .shl 3 (.tmp 12) (.const (u6 20)) (iN t) (u6 20)) (λ_=>dM (b:=((t*1048576:Nat):Int)) (fU 20 Dc Om Om) Om)))] [(6,iN (f*1048576)),(7,iN (t*1048576))] [] (rT [] 15 (r0 [(2,.l 4),(3,.c [0,1] [1] (qM i h e a j m c time r n f Om)),(6,.l 4),(7,.c [0,1] [1] (qM i h e a j m c time r n t Om))] [(6,iN (bB r.m f*64)),(7,iN (bB r.m t*64))] [6,7] (rF [(1,.l 4)] 26 (rs [(2,.l 4),(5,.c [0,3] [3] (nB i h e a c time g s 3 (bB r.m f*64) (bB r.m t*64)))] 3 ((pk (az a (bW g ⟨0,time,3,(bB r.m f*64),(bB r.m t*64)⟩)))) (rF [(1,.l 4),(4,.d),(5,.d)] 35 (rF [(1,.l 4)] 50 ?_))))));exact eF ab.zero [1,2,3] [(0,0)] []
theorem Tv(i h e a j m p:Nat)(c:Cf)(time:Nat)(r:Rp)(n:aO r)(k:Tk)(x:dS k)(g:Lg)(s:gb g)(f:Nat)(q:f<r.m.R*r.m.B*r.m.M):aa Zl 213 #[pt i 0,i6 1,.agg #[i6 5,iN f,i6 0]] [ob i (lA c h e a time) 122,pk (au h j m r),pk (aD e p k),pk (az a g)] [1,2,3] (λ_=>[pk (au h j m r),pk (aD e p k),pk (az a (bW g ⟨0,time,5,(bB r.m f*64),0⟩))]) (λ_=> .tuple #[]):=by
 have u:=n.m.np;have v:=n.m.ly.rp;refine fG Tryz.func213 λw cs=>ra (λo=>[(5,pt (B0 o) 0)]) (λo=>[ob (B0 o) #[i6 5,iN f,i6 0] 349]) λo=>r0 [(1,.l 4),(2,.t (tv (av .shl 3 (.tmp 9) (.const (u6 20)) (iN f) (u6 20)) (λ_=>dM (b:=((f*1048576:Nat):Int)) (fU 20 Dc Om Om) Om))),(4,.l 4),(5,.t (tv (av .shl 3 (.tmp 12) (.const (u6 20)) (i6 0) (u6 20)) (λ_=>dM (b:=((0:Nat):Int)) (fU 20 Dc Om Om) Om)))] [(6,iN (f*1048576)),(7,i6 0)] [] (rT [] 15 (r0 [(2,.l 4),(3,.c [0,1] [1] (qM i h e a j m c time r n f Om)),(6,.l 4),(7,.c [0,1] [1] (qM i h e a j m c time r n 0 Om))] [(6,iN (bB r.m f*64)),(7,iN (bB r.m 0*64))] [6,7] (rT [(1,.l 4)] 26 (r0 [(1,.l 4)] [(7,i6 0)] [7] (rs [(2,.l 4),(5,.c [0,3] [3] (nB i h e a c time g s 5 (bB r.m f*64) 0))] 3 ((pk (az a (bW g ⟨0,time,5,(bB r.m f*64),0⟩)))) (rF [(1,.l 4),(4,.d),(5,.d)] 35 (rF [(1,.l 4)] 50 ?_)))))));exact eF ab.zero [1,2,3] [(0,0)] []
theorem Tw(h e a d i j m:Nat)(c:Cf)(time:Nat)(r:Rp)(n:aO r)(k:Tk)(s:dS k)(g:Lg)(q:gb g)(f t:Nat)(p:f<r.m.R*r.m.B*r.m.M)(x:t<r.m.R*r.m.B*r.m.M):aa Zl 213 #[pt h 0,i6 1,.agg #[i6 6,iN f,iN t]] [ob h (lA c e a d time) 122,pk (au e i j r),pk (aD a m k),pk (az d g)] [1,2,3] (λ_=>[pk (au e i j r),pk (aD a m (qL k f)),pk (az d (bW g ⟨0,time,6,(bB r.m f*64),(bB r.m t*64)⟩))]) (λ_=> .tuple #[]):=by
 have u:=n.m.np;have v:=n.m.ly.rp;refine fG Tryz.func213 λw cs=>ra (λo=>[(5,pt (B0 o) 0)]) (λo=>[ob (B0 o) #[i6 6,iN f,iN t] 349]) λo=>r0 [(1,.l 4),(2,.t (tv (av .shl 3 (.tmp 9) (.const (u6 20)) (iN f) (u6 20)) (λ_=>dM (b:=((f*1048576:Nat):Int)) (fU 20 Dc Om Om) Om))),(4,.l 4),(5,.t (tv (av .shl 3 (.tmp 12) (.const (u6 20)) (iN t) (u6 20)) (λ_=>dM (b:=((t*1048576:Nat):Int)) (fU 20 Dc Om Om) Om)))] [(6,iN (f*1048576)),(7,iN (t*1048576))] [] (rT [] 15 (r0 [(2,.l 4),(3,.c [0,1] [1] (qM h e a d i j c time r n f Om)),(6,.l 4),(7,.c [0,1] [1] (qM h e a d i j c time r n t Om))] [(6,iN (bB r.m f*64)),(7,iN (bB r.m t*64))] [6,7] (rF [(1,.l 4)] 26 (rs [(2,.l 4),(5,.c [0,3] [3] (nB h e a d c time g q 6 (bB r.m f*64) (bB r.m t*64)))] 3 ((pk (az d (bW g ⟨0,time,6,(bB r.m f*64),(bB r.m t*64)⟩)))) (rT [(1,.l 4)] 35 (rs [(3,.l 0),(5,.l 4),(6,.c [2] [2] (S9 a m k s f))] 2 ((pk (aD a m (qL k f)))) ?_))))));exact eF ab.zero [1,2,3] [(0,0)] []
theorem Tx(j h e a m n o:Nat)(c:Cf)(time:Nat)(r:Rp)(p:aO r)(k:Tk)(y:dS k)(g:Lg)(s:gb g)(f t:Nat)(q:f<8)(x:t<8):aa Zl 213 #[pt j 0,i6 2,.agg #[i6 4,iN f,iN t]] [ob j (lA c h e a time) 122,pk (au h m n r),pk (aD e o k),pk (az a g)] [1,2,3] (λ_=>[pk (au h m n r),pk (aD e o k),pk (az a (bW g ⟨0,time,4,(f*1048576),(t*1048576)⟩))]) (λ_=> .tuple #[]):=by
 have u:=p.m.np;have v:=p.m.ly.rp;refine fG Tryz.func213 λw cs=>ra (λi=>[(5,pt (B0 i) 0)]) (λi=>[ob (B0 i) #[i6 4,iN f,iN t] 349]) λi=>r0 [(1,.l 4),(2,.t (tv (av .shl 3 (.tmp 9) (.const (u6 20)) (iN f) (u6 20)) (λ_=>dM (b:=((f*1048576:Nat):Int)) (fU 20 Dc Om Om) Om))),(4,.l 4),(5,.t (tv (av .shl 3 (.tmp 12) (.const (u6 20)) (iN t) (u6 20)) (λ_=>dM (b:=((t*1048576:Nat):Int)) (fU 20 Dc Om Om) Om)))] [(6,iN (f*1048576)),(7,iN (t*1048576))] [] (rF [] 15 (rF [(1,.l 4)] 26 (rs [(2,.l 4),(5,.c [0,3] [3] (nB j h e a c time g s 4 (f*1048576) (t*1048576)))] 3 ((pk (az a (bW g ⟨0,time,4,(f*1048576),(t*1048576)⟩)))) (rF [(1,.l 4),(4,.d),(5,.d)] 35 (rF [(1,.l 4)] 50 ?_)))));exact eF ab.zero [1,2,3] [(0,0)] []
theorem Ty(j h e a m n o:Nat)(c:Cf)(time:Nat)(r:Rp)(p:aO r)(k:Tk)(x:dS k)(g:Lg)(s:gb g)(f:Nat)(q:f<8):aa Zl 213 #[pt j 0,i6 2,.agg #[i6 5,iN f,i6 1]] [ob j (lA c h e a time) 122,pk (au h m n r),pk (aD e o k),pk (az a g)] [1,2,3] (λ_=>[pk (au h m n r),pk (aD e o k),pk (az a (bW g ⟨0,time,5,(f*1048576),1⟩))]) (λ_=> .tuple #[]):=by
 have u:=p.m.np;have v:=p.m.ly.rp;refine fG Tryz.func213 λw cs=>ra (λi=>[(5,pt (B0 i) 0)]) (λi=>[ob (B0 i) #[i6 5,iN f,i6 1] 349]) λi=>r0 [(1,.l 4),(2,.t (tv (av .shl 3 (.tmp 9) (.const (u6 20)) (iN f) (u6 20)) (λ_=>dM (b:=((f*1048576:Nat):Int)) (fU 20 Dc Om Om) Om))),(4,.l 4),(5,.t (tv (av .shl 3 (.tmp 12) (.const (u6 20)) (i6 1) (u6 20)) (λ_=>dM (b:=((1048576:Nat):Int)) (fU 20 Dc Om Om) Om)))] [(6,iN (f*1048576)),(7,i6 1048576)] [] (rF [] 15 (rT [(1,.l 4)] 26 (r0 [(1,.l 4)] [(7,i6 1)] [7] (rs [(2,.l 4),(5,.c [0,3] [3] (nB j h e a c time g s 5 (f*1048576) 1))] 3 ((pk (az a (bW g ⟨0,time,5,(f*1048576),1⟩)))) (rF [(1,.l 4),(4,.d),(5,.d)] 35 (rF [(1,.l 4)] 50 ?_))))));exact eF ab.zero [1,2,3] [(0,0)] []
theorem Tz(j e a d m n h:Nat)(c:Cf)(time:Nat)(r:Rp)(o:aO r)(k:Tk)(u:dS k)(g:Lg)(s:gb g)(f t:Nat)(p:f<8)(y:t<8)(q:f<k.F.length):aa Zl 213 #[pt j 0,i6 2,.agg #[i6 6,iN f,iN t]] [ob j (lA c e a d time) 122,pk (au e m n r),pk (aD a h k),pk (az d g)] [1,2,3] (λ_=>[pk (au e m n r),pk (aD a h (pD k f)),pk (az d (bW g ⟨0,time,6,(f*1048576),(t*1048576)⟩))]) (λ_=> .tuple #[]):=by
 have v:=o.m.np;have x:=o.m.ly.rp;refine fG Tryz.func213 λw cs=>ra (λi=>[(5,pt (B0 i) 0)]) (λi=>[ob (B0 i) #[i6 6,iN f,iN t] 349]) λi=>r0 [(1,.l 4),(2,.t (tv (av .shl 3 (.tmp 9) (.const (u6 20)) (iN f) (u6 20)) (λ_=>dM (b:=((f*1048576:Nat):Int)) (fU 20 Dc Om Om) Om))),(4,.l 4),(5,.t (tv (av .shl 3 (.tmp 12) (.const (u6 20)) (iN t) (u6 20)) (λ_=>dM (b:=((t*1048576:Nat):Int)) (fU 20 Dc Om Om) Om)))] [(6,iN (f*1048576)),(7,iN (t*1048576))] [] (rF [] 15 (rF [(1,.l 4)] 26 (rs [(2,.l 4),(5,.c [0,3] [3] (nB j e a d c time g s 6 (f*1048576) (t*1048576)))] 3 ((pk (az d (bW g ⟨0,time,6,(f*1048576),(t*1048576)⟩)))) (rF [(1,.l 4)] 35 (rT [(1,.l 4)] 50 (rs [(3,.l 0),(5,.l 4),(6,.c [2] [2] (Ta a h k u f Om))] 2 ((pk (aD a h (pD k f)))) ?_))))));exact eF ab.zero [1,2,3] [(0,0)] []
theorem TA(m:Nat)(a:m<18446744073709551616):aa Zl 131 #[u6 (m:Int)] [] [] N0 (λ_=> .bool (decide (pc m=64))):=by
 exact fG Tryz.func131 λw cs=>r0 [] [(2,.bool false)] [] (r0 [(1,.c [] [] (sH m Om))] [(2,.bool ((((pc m):Nat):Int)==64))] [2] (ao (.bool ((((pc m):Nat):Int)==64)) ab.zero (by exact ALca Value.bool (mh (pc m) 64)) [] [] []))
def fc(x:UInt8)(k:Nat):List UInt8:=Zm k x++Zm (64-k) 0
theorem TB{x:UInt8}{k:Nat}(h:k≤64):(fc x k).length=64:=by unfold fc;rw[Zn,Zs,Zs];omega
theorem TC{x:UInt8}{k:Nat}(h:k<64):(fc x k).set k x=fc x (k+1):=by
 unfold fc;rw[ZV _ _ (by rw[Zs];exact ZB _),Zs,Nat.sub_self,show 64-k=(64-(k+1))+1 by omega,ZW,List.replicate_succ',Zr];rfl
theorem TE(x:UInt8):aa Zl 46 #[u1 (x.toNat:Int)] [] [] N0 (λ_=> .agg (rB 64 (fc x 64)).toArray):=by
 refine fG Tryz.func46 λw cs=>ra (λb=>[(2,pt (B0 b) 0)]) (λb=>[ob (B0 b) (rB 64 z6).toArray 43]) λb=>ra (λa=>[(3,pt (B0 a) 0)]) (λa=>[ob (B0 a) (rB 64 z6).toArray 43]) λa=>r0 [] [(5,i6 0)] [] ?_;refine lq (λk=>k≤64) (λk=>[(5,iN k)]) (λk L=>L.set 1 (ob (B0 a) (rB 64 (fc x k)).toArray 43)) (λk=>64-k) 0 Om Kr (by rw[show fc x 0=Zm 64 0 from rfl];kernel_rfl) (λk f=>?_);have d:=TB (x:=x) (k:=k) Om;refine r0 [] [(6,.bool (decide ((k:Int)<64)))] [] ?_;refine cj (k:Int) 64 (λe c=>?_) λe c=>?_
 ·exact r0 [] [(4,iN k)] [] (rs [(2,iA 43 .i64 (B0 a) 0 64 1 k),(3,wD 1 (B0 a) k 43 (u1 (x.toNat:Int)) (rB 64 (fc x k)) (rB 64 ((fc x k).set k x)) (j6 Om) (mC (show(fc x k).length=64 by(simp only[LL,d];done))))] 1 (ob (B0 a) (rB 64 ((fc x k).set k x)).toArray 43) (r0 [(0,ad k 1)] [(5,iN (k+1))] [5] (le (k+1) Om Om Kr [0,1] (by rw[←TC Om];kernel_rfl))))
 obtain rfl:k=64:=by omega
 exact lx (rs [(0,.l 1),(1,.s 0)] 0 (ob (B0 b) (rB 64 (fc x 64)).toArray 43) (lf ab.zero [] [] [0]))
theorem Gg(v:Value)(xs:List UInt8)(e:xs.length=64):aa Zl 130 #[v] [.p (aK eB v xs)] [] N0 (λ_=> .tuple #[.agg (rB 64 xs).toArray,i6 0]):=by
 exact fO Tryz.func130 0 rfl λb a=>fG Tryz.func130 λw cs=>ra (λd=>[(2,pt (B0 d) 0),(3,i6 0)]) (λd=>[ob (B0 d) (rB 64 z6).toArray 43]) λd=>rF [(1,eP a.1 0),(2,.t (tk (show Value.bool ((xs.length:Int) != 64)= .bool false from ALca Value.bool (by rw[e];rfl))))] 6 (rr (λ_=>[(1,.m (C0 0 (.c b) 64 (cP a.1) Dc Om)),(2,.m (C1 0 (.c b) 64 (rB 64 xs) (cP a.1) (kX e).symm Om (C2 (λ_=>rfl) e))),(3,.s 1)]) (λ_=>[(3,i6 0)]) [3] (λ_ L=>L.set 1 (ob (B0 d) (rB 64 xs).toArray 43)) λf=>lf ab.zero [] [(0,0)] [1])
def jw(l o:List UInt8)(is:List Nat):List UInt8:=is.foldl (λl i=>l.set i (o.getD i 0)) l
def fI(l o:List UInt8)(m:Nat):List UInt8:=jw l o (bn m)
theorem wm(o:List UInt8): ∀(is:List Nat) (l:List UInt8),(jw l o is).length=l.length
 | [],_=>rfl
 | i::is,l=>by
  show(jw (l.set i (o.getD i 0)) o is).length=_;rw[wm o is,Zv]
theorem TF{l o:List UInt8}{is:List Nat}{k:Nat}(h:k<is.length):(jw l o (is.take k)).set (is.getD k 0) (o.getD (is.getD k 0) 0)=jw l o (is.take (k+1)):=by
 unfold jw;rw[ZM,Zp h,Z1,Zo,Zp h];rfl
theorem TG(l y:List UInt8)(m:Nat)(f:l.length=64)(h:y.length=64)(u:m<18446744073709551616):aa Zl 94 #[.agg (rB 64 l).toArray,.agg (rB 64 y).toArray,u6 (m:Int)] [] [] N0 (λ_=> .agg (rB 64 (jw l y ((bn m).take ((bn m).length)))).toArray):=by
 refine fG Tryz.func94 λw cs=>ra (λa=>[(3,pt (B0 a) 0),(4,pt (B1 a) 0),(6,pt (B2 a) 0)]) (λa=>[ob (B0 a) (rB 64 l).toArray 43,ob (B1 a) (rB 64 y).toArray 43,ob (B2 a) (rB 64 z6).toArray 43]) λa=>rr (λ_=>[(1,.c [] [3] (C8 m))]) (λb=>[(9,.func (.func 172) #[] #[pt ((B1 b)) 0])]) [] (λb L=>L++[ob (B1 b) #[u6 (m:Int)] 44]) λb=>?_;refine CM (encs:=λ(i:Nat)=>#[iN i]) (xs:=bn m) (XO:=[((B1 b),.cells #[u6 (m:Int)] 44 (0,0))]) (KO:=[]) (C7 (B1 b) m Om) (enters_of Tryz.func172 Kr rfl) (λk=>k≤(bn m).length) (λk L=>L.set 0 (ob (B0 a) (rB 64 (jw l y ((bn m).take k))).toArray 43)) [ob (B0 a) (rB 64 l).toArray 43,ob (B1 a) (rB 64 y).toArray 43,ob (B2 a) (rB 64 z6).toArray 43] [0,1,2,3] [3] [] Om (by rw[show jw l y ((bn m).take 0)=l by rw[ZP];rfl];kernel_rfl) (λv k x p r g e=>?_) (λo e=>?_)
 ·obtain⟨d,rfl⟩:=rS 0 g;have j:=(wm y ((bn m).take k) l).trans f;have n:=D5 d;refine r0 [] [(7,iN ((bn m).getD k 0))] [] ?_;refine ag [] (λq t=>?_);exact rs [(2,iA 43 .i64 (B1 a) 0 64 1 ((bn m).getD k 0)),(3,rD 1 (B1 a) ((bn m).getD k 0) 43 (rB 64 y) (nY Om)),(4,iA 43 .i64 (B0 a) 0 64 1 ((bn m).getD k 0)),(5,wD 0 (B0 a) ((bn m).getD k 0) 43 (u1 ((y.getD ((bn m).getD k 0) 0).toNat:Int)) (rB 64 (jw l y ((bn m).take k))) (rB 64 ((jw l y ((bn m).take k)).set ((bn m).getD k 0) (y.getD ((bn m).getD k 0) 0))) (j6 Om) (mC (show(jw l y ((bn m).take k)).length=64 by(simp only[LL,f,h,wm,f,h];done))))] 0 (ob (B0 a) (rB 64 ((jw l y ((bn m).take k)).set ((bn m).getD k 0) (y.getD ((bn m).getD k 0) 0))).toArray 43) (ne _ ⟨Om,rfl⟩ [0,1,2] (by rw[←TF Om];kernel_rfl))
 exact rs [(0,.l 0),(1,.s 2)] 2 (ob (B2 a) (rB 64 (jw l y ((bn m).take ((bn m).length)))).toArray 43) (lf ab.zero [] [] [2])
section
theorem ow{α:Type}{p:α→Prop}{l:List α}(d:α):(∀i,i<l.length→p (l.getD i d))↔∀x∈l,p x:=by
 constructor
 ·intro h x b;obtain⟨i,a,rfl⟩:=List.getElem_of_mem b;have:=h i a;rwa [Zo,Zp a] at this
 ·intro h i a;rw[Zo,Zp a];exact h _ (List.getElem_mem a)
theorem Gh{α:Type}{l:List α}{i:Nat}(h:i<l.length):(l.eraseIdx i).length=l.length-1:=by rw[Zy,ALifp h]
theorem mS(g:Lg)(x:Re):(bW g x).next=g.next+1:=by
 unfold bW
 split
 ·split<;>rfl
 ·rfl
theorem Am(g:Lg)(x:Re):(bW g x).I=g.I:=by
 unfold bW
 split
 ·split<;>rfl
 ·rfl
theorem gb.add{g:Lg}(h:gb g)(x:Re)(b:g.next+1≤1000000000):gb (bW g x):=by
 refine⟨?_,by rw[Am];exact h.r1,by rw[Am];exact h.r,by rw[mS];exact b⟩;rw[Am];have d:=h.l;have f:=py cZ g.l;unfold bW
 split
 ·rename_i e
  split
  ·exact h.l
  ·rename_i c;have a:a1 cZ g.l<g.l.length:=by omega
   show(g.l.eraseIdx (a1 cZ g.l)++[qK x g.next]).length≤g.I;rw[Zn,Gh a];show g.l.length-1+1≤g.I;omega
 ·show(g.l++[qK x g.next]).length≤g.I;rw[Zn];show g.l.length+1≤g.I;omega
theorem gb.clear{g:Lg}(h:gb g):gb (nA g):=⟨Zz _,h.r1,h.r,h.n⟩
theorem Gi{α:Type}{l:List α}{i:Nat}{x:α}(h:x∈l.eraseIdx i):x∈l:=List.mem_of_mem_eraseIdx h
section
variable {ev:Nat} {t:Tb}
theorem iI.mk'{a:Tb}(h:iI ev t)(b:a.I=t.I)(d:a.l.length≤t.I)(c: ∀x∈a.l,fb ev x.l x.a):iI ev a:=⟨by rw[b];exact d,by rw[b];exact h.r1,by rw[b];exact h.r,(ow (p:=λx:Pa=>fb ev x.l x.a) bA).2 c⟩
theorem iI.mem(h:iI ev t): ∀x∈t.l,fb ev x.l x.a:=(ow (p:=λx:Pa=>fb ev x.l x.a) bA).1 h.b
theorem iI.put(h:iI ev t){k l a:Nat}(c:fb ev l a):iI ev (pB t k l a):=by
 have d:=h.l;have f:=h.r1;unfold pB
 split
 ·split
  ·rename_i e;refine h.mk' rfl ?_ λx b=>?_
   ·show(t.l.eraseIdx (eo t.l t.l.length).1++[(⟨k,l,a⟩:Pa)]).length≤t.I;rw[Zn,Gh (Ah t.l t.l.length Om)];show t.l.length-1+1≤t.I;omega
   ·rcases List.mem_append.1 b with b | b
    ·exact h.mem x (Gi b)
    ·rw[List.mem_singleton.1 b];exact c
  ·rename_i e;refine h.mk' rfl ?_ λx b=>?_
   ·show(t.l++[(⟨k,l,a⟩:Pa)]).length≤t.I;rw[Zn];show t.l.length+1≤t.I;omega
   ·rcases List.mem_append.1 b with b | b
    ·exact h.mem x b
    ·rw[List.mem_singleton.1 b];exact c
 ·refine h.mk' rfl ?_ λx b=>?_
  ·show(t.l.set _ _).length≤t.I;rw[Zv];exact h.l
  ·rcases ZQ b with b | rfl
   ·exact h.mem x b
   ·exact c
theorem iI.drop(h:iI ev t)(k:Nat):iI ev (pC t k):=by
 unfold pC
 split
 ·exact h
 ·refine h.mk' rfl ?_ λx a=>h.mem x (Gi a);show(t.l.eraseIdx _).length≤t.I;rw[Zy];have:=h.l
  split<;>omega
theorem iI.tick(h:iI ev t):iI ev (tt t ev):=by
 refine h.mk' rfl ?_ λx a=>?_
 ·show(a2 (c0 ev) t.l t.l.length).length≤t.I;rw[ts];exact h.l
 ·have a:x∈a2 (c0 ev) t.l t.l.length:=a;rw[Gb] at a;obtain⟨y,b,rfl⟩:=List.mem_map.1 a;exact FP (h.mem y b)
end
section
variable {k:Tk}
theorem dS.rk(h:dS k): ∀x∈k.F,fb k.er x.l x.a:=(ow (p:=λx:Bk=>fb k.er x.l x.a) bj).1 h.b
theorem dS.set(h:dS k)(r:Nat){b:Bk}(d:fb k.er b.l b.a): ∀i,i<(k.F.set r b).length→fb k.er ((k.F.set r b).getD i bj).l ((k.F.set r b).getD i bj).a:=
 (ow (p:=λx:Bk=>fb k.er x.l x.a) bj).2 λx c=>by
  rcases ZQ c with c | rfl
  ·exact h.rk x c
  ·exact d
theorem dS.note(h:dS k){r:Nat}(p n:Nat)(c:r<k.F.length):dS (fH k r p n):=
 ⟨h.r,h.p,h.h1,h.h2,by show(k.F.set r _).length≤8;rw[Zv];exact h.n,h.set r (b:=⟨b4 (k.F.getD r bj).l n,(k.F.getD r bj).a⟩) (FO (h.b r c)),h.t.put (FO (h.t.get h.p.e1 p))⟩
theorem dS.reset(h:dS k)(r:Nat):dS (pD k r):=
 ⟨h.r,h.p,h.h1,h.h2,by show(k.F.set r _).length≤8;rw[Zv];exact h.n,h.set r (b:=⟨0,0⟩) ⟨Zz _,h.r.e1⟩,h.t⟩
theorem dS.drop(h:dS k)(p:Nat):dS (qL k p):=⟨h.r,h.p,h.h1,h.h2,h.n,h.b,h.t.drop p⟩
theorem dS.tick(h:dS k):dS (mQ k):=by
 refine⟨h.r,h.p,h.h1,h.h2,?_,(ow (p:=λx:Bk=>fb k.er x.l x.a) bj).2 λx a=>?_,h.t.tick⟩
 ·show(a2 (eb k.er) k.F k.F.length).length≤8;rw[ts];exact h.n
 ·have a:x∈a2 (eb k.er) k.F k.F.length:=a;rw[Gb] at a;obtain⟨y,b,rfl⟩:=List.mem_map.1 a;exact FP (h.rk y b)
theorem TI(k:Tk)(r p n:Nat):(fH k r p n).F.length=k.F.length:=Zv
theorem TJ(k:Tk)(r:Nat):(pD k r).F.length=k.F.length:=Zv
theorem TK(k:Tk):(mQ k).F.length=k.F.length:=ts ..
end
def gj(of:Nat)(v:Ev):Nat:=if v.k=3 then 1 else if v.k=4 then 2 else if v.k=5 then 1+v.t else of
def gJ(of:Nat)(k:Tk)(v:Ev):Tk:=if v.k=6 then(if of=1 then qL k v.f else pD k v.f) else k
def ox(m:Mp)(of x:Nat):Nat:=if of=1 then bB m x*64 else x*1048576
def iZ(m:Mp)(of time:Nat)(v:Ev):Re:=⟨0,time,v.k,ox m of v.f,if v.k=5 then v.t else ox m of v.t⟩
structure ja (np n of:Nat) (v:Ev):Prop where
 k:(of=1∧v.f<np∧(v.k=3∨v.k=6)∧v.t<np)∨(of=1∧v.f<np∧v.k=5∧v.t=0)∨(of=2∧v.f<n∧(v.k=4∨v.k=6)∧v.t<8)∨(of=2∧v.f<n∧v.k=5∧v.t=1)
theorem TL(of:Nat)(k:Tk)(v:Ev):(gJ of k v).F.length=k.F.length:=by
 unfold gJ
 split
 ·split
  ·rfl
  ·exact TJ _ _
 ·rfl
theorem TM{k:Tk}(h:dS k)(of:Nat)(v:Ev):dS (gJ of k v):=by
 unfold gJ
 split
 ·split
  ·exact h.drop _
  ·exact h.reset _
 ·exact h
def fp(of:Nat)(k:Tk)(l:List Ev):Tk:=l.foldl (λk v=>gJ (gj of v) k v) k
def eT(m:Mp)(of time:Nat)(g:Lg)(l:List Ev):Lg:=l.foldl (λg v=>bW g (iZ m (gj of v) time v)) g
theorem Ao(of:Nat): ∀(l:List Ev) {k:Tk},dS k→dS (fp of k l)
 | [],_,h=>h
 | v::l,_,h=>Ao of l (TM h (gj of v) v)
theorem Ap(of:Nat): ∀(l:List Ev) (k:Tk),(fp of k l).F.length=k.F.length
 | [],_=>rfl
 | v::l,k=>(Ap of l (gJ (gj of v) k v)).trans (TL _ k v)
theorem wo(m:Mp)(of time:Nat): ∀(l:List Ev) (g:Lg),(eT m of time g l).next=g.next+l.length
 | [],_=>rfl
 | v::l,g=>(wo m of time l (bW g (iZ m (gj of v) time v))).trans (by rw[mS,Z4];omega)
theorem Aq(m:Mp)(of time:Nat): ∀(l:List Ev) {g:Lg},gb g→g.next+l.length≤1000000000→gb (eT m of time g l)
 | [],_,h,_=>h
 | v::l,g,h,a=>by
  rw[Z4] at a;exact Aq m of time l (h.add _ Om) (by rw[mS];omega)
theorem Ar{α β:Type}{f:β→α→β}{b:β}{l:List α}{i:Nat}{d:α}(h:i<l.length):(l.take (i+1)).foldl f b=f ((l.take i).foldl f b) (l.getD i d):=by
 rw[ZM,Zp h,Z1,Zo,Zp h];rfl
theorem TN{of:Nat}{k:Tk}{l:List Ev}{i:Nat}(h:i<l.length):fp of k (l.take (i+1))=gJ (gj of (l.getD i cR)) (fp of k (l.take i)) (l.getD i cR):=Ar h
theorem TO{m:Mp}{of time:Nat}{g:Lg}{l:List Ev}{i:Nat}(h:i<l.length):eT m of time g (l.take (i+1))=bW (eT m of time g (l.take i)) (iZ m (gj of (l.getD i cR)) time (l.getD i cR)):=Ar h
structure eO (m m':Mp):Prop where
 R:m'.R=m.R
 S:m'.S=m.S
 B:m'.B=m.B
 M:m'.M=m.M
 C:m'.C=m.C
 G:m'.G=m.G
 res:m'.res=m.res
theorem eO.rfl'(m:Mp):eO m m:=⟨rfl,rfl,rfl,rfl,rfl,rfl,rfl⟩
theorem eO.tr{a b c:Mp}(h:eO a b)(g:eO b c):eO a c:=⟨g.R.trans h.R,g.S.trans h.S,g.B.trans h.B,g.M.trans h.M,g.C.trans h.C,g.G.trans h.G,g.res.trans h.res⟩
theorem Gj(r:Rp)(a:Ak):eO r.m (de r a).m:=by
 unfold de;cases a.k==1<;>cases dy r.m<;>cases dY r.m<;>exact⟨rfl,rfl,rfl,rfl,rfl,rfl,rfl⟩
theorem oy(r:Rp)(a:Ak):eO r.m (bq r a).m:=by
 unfold bq;cases c8 r a
 ·cases r.j.A==0
  ·exact eO.rfl' _
  ·exact Gj r a
 ·exact eO.rfl' _
theorem At(r:Rp):eO r.m (gS r).m:=by
 unfold gS;cases r.j.A==1<;>exact⟨rfl,rfl,rfl,rfl,rfl,rfl,rfl⟩
theorem Au(s:Rp×List Ev):eO s.1.m (gI s).1.m:=by
 unfold gI;cases c8 (aZ s.1) (s.1.q.headD aN)
 ·exact Gj (aZ s.1) _
 ·exact eO.rfl' _
theorem Gk: ∀(n:Nat) (s:Rp×List Ev),eO s.1.m (e3 n s).1.m
 | 0,s=>eO.rfl' _
 | n+1,s=>by
  unfold e3
  split
  ·exact(Au s).tr (Gk n _)
  ·exact eO.rfl' _
theorem wq(r:Rp):eO r.m (eR r).1.m:=by
 unfold eR;cases kN r.m (bu r).j
 ·exact eO.rfl' _
 ·exact(At (bu r)).tr (Gk _ (af (bu r)))
theorem TP{r:Rp}{a:Ak}(h:aO r)(c:eJ r.m a):aO (bq r a):=by
 unfold bq;cases hv:c8 r a
 ·rw[ALcf];cases r.j.A==0
  ·refine⟨h.m,h.j,λx b=>?_,?_,h.fr⟩
   ·have b:x∈qB r.q a:=b;unfold qB at b
    split at b
    ·exact h.q x b
    ·split at b
     ·exact h.q x b
     ·rcases List.mem_append.1 b with b | b
      ·exact h.q x b
      ·rw[List.mem_singleton.1 b];exact c
   ·show(qB r.q a).length≤256;have:=h.n;unfold qB
    split
    ·exact h.n
    ·split
     ·exact h.n
     ·rw[Zn];show r.q.length+1≤256;omega
  ·exact FH h c hv
 ·exact h
theorem Gl{r:Rp}{a:Ak}(h:aO r)(d:eJ r.m a)(of:Nat): ∀v∈fZ r a,ja (r.m.R*r.m.B*r.m.M) r.m.R (gj of v) v:=by
 have i:=h.m.O.bd.r8;have e:=h.m.pg;have f:=h.m.rk;have g:=h.m.ly.rp;unfold fZ;rcases d.k with⟨b,c⟩ | ⟨b,c⟩
 ·rw[b];show ∀v∈(bif dy r.m then _ else _),_;cases hp:dy r.m
  ·intro v hv;obtain rfl:=List.mem_singleton.1 hv;exact⟨.inr (.inl ⟨by rw[b];rfl,c,rfl,by rw[b]⟩)⟩
  ·intro v hv;obtain rfl:=List.mem_singleton.1 hv;refine⟨.inl ⟨rfl,c,.inl rfl,?_⟩⟩;show dE r.m<_;have:r.m.P≠r.m.res:=by unfold dy at hp;simpa using hp
   unfold dE;rw[ALifn this];show r.m.R*r.m.B*r.m.M-r.m.res+r.m.P<_;omega
 ·rw[b];show ∀v∈(bif dY r.m then _ else _),_;cases hp:dY r.m
  ·intro v hv;obtain rfl:=List.mem_singleton.1 hv;exact⟨.inr (.inr (.inr ⟨by rw[b];rfl,c,rfl,by rw[b]⟩))⟩
  ·intro v hv;obtain rfl:=List.mem_singleton.1 hv;refine⟨.inr (.inr (.inl ⟨rfl,c,.inl rfl,?_⟩))⟩;show fl r.m<_;have:r.m.F≠r.m.S:=by unfold dY at hp;simpa using hp
   unfold fl;rw[ALifn this];omega
theorem qN{r:Rp}{a:Ak}(h:aO r)(d:eJ r.m a)(of:Nat): ∀v∈bT r a,ja (r.m.R*r.m.B*r.m.M) r.m.R (gj of v) v:=by
 unfold bT;cases c8 r a
 ·rw[ALcf];cases r.j.A==0
  ·rw[ALcf];cases vY r.q a==14
   ·intro v hv;cases hv
   ·intro v hv;obtain rfl:=List.mem_singleton.1 hv;rcases d.k with⟨b,c⟩ | ⟨b,c⟩
    ·exact⟨.inr (.inl ⟨by rw[b];rfl,c,rfl,by rw[b]⟩)⟩
    ·exact⟨.inr (.inr (.inr ⟨by rw[b];rfl,c,rfl,by rw[b]⟩))⟩
  ·exact Gl h d of
 ·intro v hv;cases hv
theorem pF(r:Rp)(a:Ak):(bT r a).length≤1:=by
 unfold bT;cases c8 r a
 ·rw[ALcf];cases r.j.A==0
  ·rw[ALcf];cases vY r.q a==14
   ·exact Zz _
   ·exact ZB _
  ·rw[ALct,v8];exact ZB _
 ·exact Zz _
theorem TQ{s:Rp×List Ev}(h:aO s.1)(b:0<s.1.q.length)(of:Nat)(a: ∀v∈s.2,ja (s.1.m.R*s.1.m.B*s.1.m.M) s.1.m.R (gj of v) v): ∀v∈(gI s).2,ja (s.1.m.R*s.1.m.B*s.1.m.M) s.1.m.R (gj of v) v:=by
 unfold gI;cases c8 (aZ s.1) (s.1.q.headD aN)
 ·intro v hv;rcases List.mem_append.1 hv with hv | hv
  ·exact a v hv
  ·exact Gl (r:=aZ s.1) (v7 h) ⟨(tp h b).k⟩ of v hv
 ·exact a
theorem Gm: ∀(n:Nat) (s:Rp×List Ev),n=s.1.q.length→aO s.1→∀b,(∀v∈s.2,ja (s.1.m.R*s.1.m.B*s.1.m.M) s.1.m.R (gj b v) v)→aO (e3 n s).1∧(e3 n s).2.length≤s.2.length+n∧∀v∈(e3 n s).2,ja (s.1.m.R*s.1.m.B*s.1.m.M) s.1.m.R (gj b v) v
 | 0,s,_,h,b,c=>⟨h,ZB _,c⟩
 | n+1,s,i,h,b,c=>by
  unfold e3
  split
  ·have e:0<s.1.q.length:=by omega
   have a:=Au s;obtain⟨f,g,d⟩:=Gm n (gI s) (by rw[z5,Z5];omega) (z4 h e) b (by rw[a.R,a.B,a.M];exact TQ h e b c);rw[a.R,a.B,a.M] at d;exact⟨f,by have:=FJ s;omega,d⟩
  ·exact⟨h,by omega,c⟩
theorem Gn{r:Rp}(h:aO r)(b:r.j.A≠0)(f:r.j.nx<eH r.j.A r.m.B r.m.M r.m.C):aO (eR r).1∧(eR r).2.length≤257∧∀v∈(eR r).2,ja (r.m.R*r.m.B*r.m.M) r.m.R (gj r.j.A v) v:=by
 unfold eR;cases kN r.m (bu r).j
 ·exact⟨qF h b f,Zz _,λv hv=>by cases hv⟩
 ·rw[ALct];have l:=qF h b f;have a:=At (bu r);have i: ∀v∈(af (bu r)).2,ja (r.m.R*r.m.B*r.m.M) r.m.R (gj r.j.A v) v:=by
   intro v hv;obtain rfl:=List.mem_singleton.1 hv;have w:=h.m.O.bd.r8;have n:=h.m.rk;rcases h.j.k with e | ⟨e,c⟩ | ⟨e,c⟩
   ·rw[e] at b;exact absurd rfl b
   ·rw[e];exact⟨.inl ⟨rfl,c.hf,.inr rfl,c.ht⟩⟩
   ·rw[e];refine⟨.inr (.inr (.inl ⟨rfl,c.hf,.inr rfl,?_⟩))⟩;have:=c.t1;show r.j.tg<8;omega
  obtain⟨g,o,d⟩:=Gm (bu r).q.length (af (bu r)) (by unfold af gS;rfl) (v5 l b) r.j.A (by
   show ∀v∈(af (bu r)).2,ja ((gS (bu r)).m.R*(gS (bu r)).m.B*(gS (bu r)).m.M) (gS (bu r)).m.R _ v;rw[a.R,a.B,a.M];exact i)
  have d: ∀v∈(cS (bu r)).2,ja ((gS (bu r)).m.R*(gS (bu r)).m.B*(gS (bu r)).m.M) (gS (bu r)).m.R (gj r.j.A v) v:=d;rw[a.R,a.B,a.M] at d;refine⟨g,?_,d⟩;have p:=h.n;have s:(bu r).q.length=r.q.length:=rfl;have u:(af (bu r)).2.length=1:=rfl;show(e3 (bu r).q.length (af (bu r))).2.length≤257;omega
theorem TR(of:Nat)(v:Ev):(((bif ((v.k:Nat):Int)==3 then 1 else(bif ((v.k:Nat):Int)==4 then 2 else(bif ((v.k:Nat):Int)==5 then 1+v.t else of))):Nat):Int)=((gj of v:Nat):Int):=by
 unfold gj;by_cases a:v.k=3
 ·rw[a];rfl
 by_cases b:v.k=4
 ·rw[b];rfl
 by_cases c:v.k=5
 ·rw[c];rfl
 have d:(((v.k:Nat):Int)==3)=false:=by rw[db];omega
 have e:(((v.k:Nat):Int)==4)=false:=by rw[db];omega
 have f:(((v.k:Nat):Int)==5)=false:=by rw[db];omega
 rw[d,e,f,ALifn a,ALifn b,ALifn c];rfl
structure Le where
 r:Rp
 k:Tk
 g:Lg
 time:Nat
structure Y7 (s:Le) (K:Nat):Prop where
 r:aO s.r
 k:dS s.k
 g:gb s.g
 n:s.g.next≤K
 rk:s.k.F.length=s.r.m.R
theorem Y7.mono{s:Le}{K a:Nat}(h:Y7 s K)(b:K≤a):Y7 s a:=⟨h.r,h.k,h.g,Zu h.n b,h.rk⟩
def Av(of:Nat)(s:Le)(l:List Ev):Le:={s with k:=fp of s.k l,g:=eT s.r.m of s.time s.g l}
theorem Gp{s:Le}{K:Nat}(h:Y7 s K)(of:Nat)(l:List Ev)(a:K+l.length≤1000000000):Y7 (Av of s l) (K+l.length):=by
 have b:=h.n;exact⟨h.r,Ao of l h.k,Aq _ of _ l h.g Om,by show(eT _ of _ s.g l).next≤_;rw[wo];omega,(Ap of l s.k).trans h.rk⟩
def Aw(s:Le)(x:Re):Le:={s with g:=bW s.g x}
theorem wu{s:Le}{K:Nat}(h:Y7 s K)(x:Re)(a:K+1≤1000000000):Y7 (Aw s x) (K+1):=by
 have b:=h.n;exact⟨h.r,h.k,h.g.add x Om,by show(bW s.g x).next≤_;rw[mS];omega,h.rk⟩
def Gq(s:Le)(r p n:Nat):Le:={s with k:=fH s.k r p n}
theorem Ax{s:Le}{K:Nat}(h:Y7 s K){r:Nat}(p n:Nat)(a:r<s.r.m.R):Y7 (Gq s r p n) K:=⟨h.r,h.k.note p n (by rw[h.rk];exact a),h.g,h.n,(TI ..).trans h.rk⟩
def wv(s:Le)(r:Rp):Le:={s with r:=r}
theorem pG{s:Le}{K:Nat}(h:Y7 s K){a:Ak}(b:eJ s.r.m a):Y7 (wv s (bq s.r a)) K:=⟨TP h.r b,h.k,h.g,h.n,h.rk.trans (oy s.r a).R.symm⟩
def qO(s:Le)(a:Ak):Le:=Av a.k (wv s (bq s.r a)) (bT s.r a)
theorem wx{s:Le}{K:Nat}(h:Y7 s K){a:Ak}(b:eJ s.r.m a)(c:K+1≤1000000000):Y7 (qO s a) (K+1):=by
 have d:=pF s.r a;exact(Gp (pG h b) a.k (bT s.r a) Om).mono Om
theorem wz(s:Le)(a:Ak):eO s.r.m (qO s a).r.m:=oy s.r a
theorem eJ.ly{m b:Mp}{a:Ak}(h:eJ m a)(e:eO m b):eJ b a:=⟨by rw[e.R,e.B,e.M];exact h.k⟩
theorem ja.ly{m a:Mp}{of:Nat}{v:Ev}(h:ja (m.R*m.B*m.M) m.R of v)(e:eO m a):ja (a.R*a.B*a.M) a.R of v:=by rw[e.R,e.B,e.M];exact h
def nC(s:Le)(b a w:Nat)(x:Re):Le:=Gq (Aw s x) b a w
def gn(s:Le)(b a w:Nat)(x:Re):Le:=bif cU s.k.lp (dg s.k.t a).l w then qO (nC s b a w x) ⟨1,a⟩ else nC s b a w x
def fe(s:Le)(a b w:Nat)(x:Re):Le:=bif cU s.k.lr (s.k.F.getD a bj).l w then qO (gn s a b w x) ⟨2,a⟩ else gn s a b w x
theorem Gr{s:Le}{K b a w:Nat}(x:Re)(h:Y7 s K)(e:b<s.r.m.R)(d:a<s.r.m.R*s.r.m.B*s.r.m.M)(f:K+3≤1000000000):Y7 (gn s b a w x) (K+2):=by
 have c:=Ax (wu h x Om) a w e;unfold gn;cases cU s.k.lp (dg s.k.t a).l w
 ·exact c.mono Om
 ·exact(wx c ⟨.inl ⟨rfl,d⟩⟩ Om).mono Om
theorem tu(s:Le)(b a w:Nat)(x:Re):eO s.r.m (gn s b a w x).r.m:=by
 unfold gn;cases cU s.k.lp (dg s.k.t a).l w
 ·exact eO.rfl' _
 ·exact wz (nC s b a w x) _
theorem Gs{s:Le}{K a b w:Nat}(x:Re)(h:Y7 s K)(d:a<s.r.m.R)(f:b<s.r.m.R*s.r.m.B*s.r.m.M)(e:K+3≤1000000000):Y7 (fe s a b w x) (K+3):=by
 have c:=Gr (w:=w) x h d f e;unfold fe;cases cU s.k.lr (s.k.F.getD a bj).l w
 ·exact c.mono Om
 ·exact(wx c ⟨.inr ⟨rfl,by rw[(tu s a b w x).R];exact d⟩⟩ Om).mono Om
theorem Gt(s:Le)(a b w:Nat)(x:Re):eO s.r.m (fe s a b w x).r.m:=by
 unfold fe;cases cU s.k.lr (s.k.F.getD a bj).l w
 ·exact tu ..
 ·exact(tu s a b w x).tr (wz _ _)
structure Nt where
 k:Nat
 v:Nat
 f:Nat
 i:Nat
 h:Nat
 r:Nat
def dh(heavy:Nat)(s:Le)(n:Nt):Le:=if n.v=0 then s else if n.v=1 then fe s n.r n.h 1 ⟨0,s.time,1,n.i,n.f⟩ else if n.v=2 then Aw s ⟨0,s.time,2,n.i,1⟩ else fe s n.r n.h heavy ⟨0,s.time,2,n.i,0⟩
theorem TT(heavy:Nat)(s:Le)(n:Nt):eO s.r.m (dh heavy s n).r.m:=by
 unfold dh
 split
 ·exact eO.rfl' _
 split
 ·exact Gt ..
 split
 ·exact eO.rfl' _
 ·exact Gt ..
theorem TU{heavy K:Nat}{s:Le}{n:Nt}(h:Y7 s K)(c:n.r<s.r.m.R)(b:n.h<s.r.m.R*s.r.m.B*s.r.m.M)(a:K+3≤1000000000):Y7 (dh heavy s n) (K+3):=by
 unfold dh
 split
 ·exact h.mono Om
 split
 ·exact Gs _ h c b a
 split
 ·exact(wu h _ Om).mono Om
 ·exact Gs _ h c b a
def iJ(s:Le):Le:=Av s.r.j.A (wv s (eR s.r).1) (eR s.r).2
theorem TV{s:Le}{K:Nat}(h:Y7 s K)(c:s.r.j.A≠0)(d:s.r.j.nx<eH s.r.j.A s.r.m.B s.r.m.M s.r.m.C)(g:K+257≤1000000000):Y7 (iJ s) (K+257):=by
 obtain⟨a,e,f⟩:=Gn h.r c d;have b:Y7 (wv s (eR s.r).1) K:=⟨a,h.k,h.g,h.n,h.rk.trans (wq s.r).R.symm⟩;exact(Gp b _ (eR s.r).2 Om).mono Om
theorem TW(s:Le):eO s.r.m (iJ s).r.m:=wq s.r
def Gu(s:Le):Le:={s with k:=mQ s.k,time:=s.time+1}
def Gv(s:Le):Le:={s with g:=nA s.g}
theorem TX{s:Le}{K:Nat}(h:Y7 s K):Y7 (Gu s) K:=⟨h.r,h.k.tick,h.g,h.n,(TK _).trans h.rk⟩
theorem TZ{s:Le}{K:Nat}(h:Y7 s K):Y7 (Gv s) K:=⟨h.r,h.k,h.g.clear,h.n,h.rk⟩
end
theorem T0(j h f e l m n:Nat)(c:Cf)(time:Nat)(r:Rp)(o:aO r)(k:Tk)(s:dS k)(g:Lg)(q:gb g)(of:Nat)(v:Ev)(hv:ja (r.m.R*r.m.B*r.m.M) r.m.R of v)(t:k.F.length=r.m.R):aa Zl 213 #[pt j 0,iN of,.agg #[iN v.k,iN v.f,iN v.t]] [ob j (lA c h f e time) 122,pk (au h l m r),pk (aD f n k),pk (az e g)] [1,2,3] (λ_=>[pk (au h l m r),pk (aD f n (gJ of k v)),pk (az e (bW g (iZ r.m of time v)))]) (λ_=> .tuple #[]):=by
 have u:=o.m.O.bd.r8;obtain⟨w,a,b⟩:=v;obtain⟨hv⟩:=hv;simp only at hv;rcases hv with⟨rfl,p,d,i⟩ | ⟨rfl,p,d,i⟩ | ⟨rfl,p,d,i⟩ | ⟨rfl,p,d,i⟩
 ·rcases d with rfl | rfl
  ·rw[show iZ r.m 1 time ⟨3,a,b⟩=⟨0,time,3,bB r.m a*64,bB r.m b*64⟩ by simp [iZ,ox],show gJ 1 k ⟨3,a,b⟩=k by simp [gJ]];exact Tu j h f e l m n c time r o k s g q a b p i
  ·rw[show iZ r.m 1 time ⟨6,a,b⟩=⟨0,time,6,bB r.m a*64,bB r.m b*64⟩ by simp [iZ,ox],show gJ 1 k ⟨6,a,b⟩=qL k a by simp [gJ]];exact Tw j h f e l m n c time r o k s g q a b p i
 ·subst d;subst i;rw[show iZ r.m 1 time ⟨5,a,0⟩=⟨0,time,5,bB r.m a*64,0⟩ by simp [iZ,ox],show gJ 1 k ⟨5,a,0⟩=k by simp [gJ]];exact Tv j h f e l m n c time r o k s g q a p
 ·rcases d with rfl | rfl
  ·rw[show iZ r.m 2 time ⟨4,a,b⟩=⟨0,time,4,a*1048576,b*1048576⟩ by simp [iZ,ox],show gJ 2 k ⟨4,a,b⟩=k by simp [gJ]];exact Tx j h f e l m n c time r o k s g q a b Om i
  ·rw[show iZ r.m 2 time ⟨6,a,b⟩=⟨0,time,6,a*1048576,b*1048576⟩ by simp [iZ,ox],show gJ 2 k ⟨6,a,b⟩=pD k a by simp [gJ]];exact Tz j h f e l m n c time r o k s g q a b Om i Om
 ·subst d;subst i;rw[show iZ r.m 2 time ⟨5,a,1⟩=⟨0,time,5,a*1048576,1⟩ by simp [iZ,ox],show gJ 2 k ⟨5,a,1⟩=k by simp [gJ]];exact Ty j h f e l m n c time r o k s g q a Om
theorem ja.tb{np n of:Nat}{v:Ev}(h:ja np n of v)(a:np≤4096):v.t<4096:=by
 obtain⟨h⟩:=h;omega
theorem pH(m d b a n o j:Nat)(c:Cf)(time:Nat)(r:Rp)(I:aO r)(k:Tk)(R:dS k)(g:Lg)(Q:gb g)(of:Nat)(v:Value)(l:List Ev)(V:l.length≤300)(T:g.next+l.length≤1000000000)(P: ∀e∈l,ja (r.m.R*r.m.B*r.m.M) r.m.R (gj of e) e)(G:k.F.length=r.m.R):aa Zl 166 #[pt m 0,iN of,v] [ob m (lA c d b a time) 122,pk (au d n o r),pk (aD b j k),pk (az a g),.p (aK z0 v l)] [1,2,3] (λ_=>[pk (au d n o r),pk (aD b j (fp of k l)),pk (az a (eT r.m of time g l))]) (λ_=> .tuple #[]):=by
 refine fO Tryz.func166 4 rfl λh x=>fG Tryz.func166 λw cs=>r0 [(1,eP x.1 4)] [(9,v),(10,iN l.length),(11,i6 0)] [] ?_;refine lq (λi=>i≤l.length) (λi=>[(11,iN i)]) (λi L=>(L.set 2 ((pk (aD b j (fp of k (l.take i)))))).set 3 ((pk (az a (eT r.m of time g (l.take i)))))) (λi=>l.length-i) 0 Om Kr (by rw[ZP];kernel_rfl) (λi S=>?_);have K:=Ao of (l.take i) R;have M:(l.take i).length≤l.length:=by rw[Zq];omega
 have J:=Aq r.m of time (l.take i) Q Om;have B:=(Ap of (l.take i) k).trans G;refine r0 [] [(12,.bool (decide ((i:Int)<(l.length:Int))))] [] ?_;refine cj (i:Int) (l.length:Int) (λO C=>?_) λO C=>?_
 ·have H:=(ow cR).2 P i Om;have N:=H.tb I.m.np;refine rr (λ_=>[(0,fv x.1 4 i 3),(1,nb jv x.1 4 i 0 3),(3,.s 5)]) (λy=>[(7,pt (B2 y) 0)]) [] (λy L=>L++[ob (B2 y) #[iN ((l.getD i cR).k),iN ((l.getD i cR).f),iN ((l.getD i cR).t)] 349]) λy=>r0 [] [(8,iN of)] [] (r0 [(1,.l 5)] [(17,iN ((l.getD i cR).k))] [] (r0 [] [(18,.bool ((((l.getD i cR).k:Nat):Int)==3))] [] ?_));refine cJ ((((l.getD i cR).k:Nat):Int)==3) (λc=>[(8,iN (bif c then 1 else(bif (((l.getD i cR).k:Nat):Int)==4 then 2 else(bif (((l.getD i cR).k:Nat):Int)==5 then 1+((l.getD i cR).t) else of))))]) (λ_=>[ob m (lA c d b a time) 122,pk (au d n o r),pk (aD b j (fp of k (l.take i))),pk (az a (eT r.m of time g (l.take i))),.c h,ob (B2 y) #[iN ((l.getD i cR).k),iN ((l.getD i cR).f),iN ((l.getD i cR).t)] 349]) (λF=>?_) (λF=>?_) ?_
  ·have D:=eq_of_beq F;refine r0 [] [(8,i6 1)] [8] ?_;exact cm Kr [0,1,2,3,4,5] Kr
  ·have D:=ne_of_beq_false F;refine r0 [] [(20,.bool ((((l.getD i cR).k:Nat):Int)==4))] [] ?_;refine cJ ((((l.getD i cR).k:Nat):Int)==4) (λc=>[(8,iN (bif c then 2 else(bif (((l.getD i cR).k:Nat):Int)==5 then 1+((l.getD i cR).t) else of)))]) (λ_=>[ob m (lA c d b a time) 122,pk (au d n o r),pk (aD b j (fp of k (l.take i))),pk (az a (eT r.m of time g (l.take i))),.c h,ob (B2 y) #[iN ((l.getD i cR).k),iN ((l.getD i cR).f),iN ((l.getD i cR).t)] 349]) (λq=>?_) (λq=>?_) ?_
   ·have z:=eq_of_beq q;refine r0 [] [(8,i6 2)] [8] ?_;exact cm Kr [0,1,2,3,4,5] Kr
   ·have z:=ne_of_beq_false q;refine r0 [] [(22,.bool ((((l.getD i cR).k:Nat):Int)==5))] [] ?_;refine cJ ((((l.getD i cR).k:Nat):Int)==5) (λc=>[(8,iN (bif c then 1+((l.getD i cR).t) else of))]) (λ_=>[ob m (lA c d b a time) 122,pk (au d n o r),pk (aD b j (fp of k (l.take i))),pk (az a (eT r.m of time g (l.take i))),.c h,ob (B2 y) #[iN ((l.getD i cR).k),iN ((l.getD i cR).f),iN ((l.getD i cR).t)] 349]) (λu=>?_) (λu=>?_) ?_
    ·have A:=eq_of_beq u;refine r0 [(1,.l 5),(2,ad 1 ((l.getD i cR).t))] [(8,iN (1+((l.getD i cR).t)))] [8] ?_;exact cm Kr [0,1,2,3,4,5] Kr
    ·have A:=ne_of_beq_false u;exact cm Kr [0,1,2,3,4,5] Kr
    exact cm Kr [0,1,2,3,4,5] Kr
   exact cm Kr [0,1,2,3,4,5] Kr
  exact rr (λ_=>[(1,.t (tk (show iN (bif (((l.getD i cR).k:Nat):Int)==3 then 1 else(bif (((l.getD i cR).k:Nat):Int)==4 then 2 else(bif (((l.getD i cR).k:Nat):Int)==5 then 1+((l.getD i cR).t) else of)))=iN (gj of (l.getD i cR)) from ALca (Value.int .i64) (TR of (l.getD i cR))))),(2,.l 5),(3,.c [0,1,2,3] [1,2,3] (T0 m d b a n o j c time r I (fp of k (l.take i)) K (eT r.m of time g (l.take i)) J (gj of (l.getD i cR)) (l.getD i cR) H B))]) N0 [] (λ_ L=>(L.set 2 ((pk (aD b j (gJ (gj of (l.getD i cR)) (fp of k (l.take i)) (l.getD i cR)))))).set 3 ((pk (az a (bW (eT r.m of time g (l.take i)) (iZ r.m (gj of (l.getD i cR)) time (l.getD i cR))))))) λU=>r0 [(0,ad i 1)] [(11,iN (i+1))] [11] (le (i+1) Om Om Kr [0,1,2,3,4] (by rw[TN Om,TO Om];kernel_rfl))
 obtain rfl:i=l.length:=by omega
 refine cl [ob m (lA c d b a time) 122,pk (au d n o r),pk (aD b j (fp of k l)),pk (az a (eT r.m of time g l)),.c h] (by rw[Z6];kernel_rfl) (lx ?_);exact eF ab.zero [1,2,3] [(0,0),(4,4)] []
theorem T1(q d b j n o p:Nat)(c:Cf)(s:Le)(K:Nat)(hs:Y7 s K)(hK:K+3≤1000000000)(Y:c.H≤65536)(i h a f:Nat)(A:a<s.r.m.R)(V:h<s.r.m.R*s.r.m.B*s.r.m.M):aa Zl 163 #[pt q 0,.agg #[i6 1,i6 1,iN f,iN i,iN h,iN a]] [ob q (lA c d b j s.time) 122,pk (au d n o s.r),pk (aD b p s.k),pk (az j s.g)] [1,2,3] (λ_=>[pk (au d n o (fe s a h (1) ⟨0,s.time,1,i,f⟩).r),pk (aD b p (fe s a h (1) ⟨0,s.time,1,i,f⟩).k),pk (az j (fe s a h (1) ⟨0,s.time,1,i,f⟩).g)]) (λ_=> .tuple #[]):=by
 have N:=hs.rk;have X:=hs.n;have U:=wu hs ⟨0,s.time,1,i,f⟩ Om;have z:=Ax U h (1) A;have H:eJ (nC s a h (1) ⟨0,s.time,1,i,f⟩).r.m ⟨1,h⟩:=⟨.inl ⟨rfl,V⟩⟩;have I:eJ (nC s a h (1) ⟨0,s.time,1,i,f⟩).r.m ⟨2,a⟩:=⟨.inr ⟨rfl,A⟩⟩;have O:=pG z H;have R:=qN z.r H 1;have Z:=pF s.r ⟨1,h⟩;have F:=wx z H Om;have P:=pG z I;have S:=qN z.r I 2;have l5:=pF s.r ⟨2,a⟩;have M:eJ (qO (nC s a h (1) ⟨0,s.time,1,i,f⟩) ⟨1,h⟩).r.m ⟨2,a⟩:=I.ly (wz _ _);have Q:=pG F M;have T:=qN F.r M 2;have l6:=pF (bq s.r ⟨1,h⟩) ⟨2,a⟩;have y3:=oy s.r ⟨1,h⟩;have y5:=oy s.r ⟨2,a⟩;have y6:=oy (bq s.r ⟨1,h⟩) ⟨2,a⟩;have n3:(bW s.g ⟨0,s.time,1,i,f⟩).next+(bT s.r ⟨1,h⟩).length≤1000000000:=by rw[mS];omega
 have n5:(bW s.g ⟨0,s.time,1,i,f⟩).next+(bT s.r ⟨2,a⟩).length≤1000000000:=by rw[mS];omega
 have n6:(eT (bq s.r ⟨1,h⟩).m 1 s.time (bW s.g ⟨0,s.time,1,i,f⟩) (bT s.r ⟨1,h⟩)).next+(bT (bq s.r ⟨1,h⟩) ⟨2,a⟩).length≤1000000000:=by rw[wo,mS];omega
 have W:=A;refine fG Tryz.func163 λw cs=>ra (λD=>[(3,pt (B0 D) 0)]) (λD=>[ob (B0 D) #[i6 1,i6 1,iN f,iN i,iN h,iN a] 81]) λD=>r0 [] [(4,i6 0)] [] (r0 [(2,.l 4)] [(9,i6 1)] [] (rF [] 20 (rT [] 22 (r0 [] [(4,i6 1)] [4] (rs [(2,.l 4),(5,.l 4),(6,.c [0,3] [3] (nB q d b j c s.time s.g hs.g 1 i f))] 3 ((pk (az j (bW s.g ⟨0,s.time,1,i,f⟩)))) (rr (λ_=>[(0,.v (pt q 0)),(1,.v (pt q 0)),(2,.v (pt q 17)),(3,.m (ld 0 (pt b 0))),(4,.v (pt (B0 D) 5)),(5,.m (ld 4 (iN a))),(6,.v (pt (B0 D) 4)),(7,.m (ld 4 (iN h))),(8,.v (i6 1)),(9,.c [2] [2] (F9 b p s.k hs.k a h 1 (by rw[N];exact A) Om)),(10,.v (.tuple #[.agg #[.bool (cU s.k.lr ((s.k.F.getD a bj).l) 1),.bool (cU s.k.lp ((dg s.k.t h).l) 1)],i6 0])),(11,.v (.agg #[.bool (cU s.k.lr ((s.k.F.getD a bj).l) 1),.bool (cU s.k.lp ((dg s.k.t h).l) 1)])),(12,.v (i6 0)),(13,.m (al 5)),(14,.s 5),(15,.v (i6 0))]) (λJ=>[(5,pt ((J 13).y 0) 0)]) [] (λJ L=>L.set 2 ((pk (aD b p (fH s.k a h 1))))++[ob ((J 13).y 0) #[.bool (cU s.k.lr ((s.k.F.getD a bj).l) 1),.bool (cU s.k.lp ((dg s.k.t h).l) 1)] 339]) λJ=>r0 [(1,.l 5)] [(51,.bool (cU s.k.lp ((dg s.k.t h).l) 1))] [] ?_))))));refine cB (cU s.k.lp ((dg s.k.t h).l) 1) (λt=>?_) λt=>?_
 ·refine rr (λu=>[(4,.l 0),(6,.l 4),(8,.c [1] [1,6] (qH d n o s.r (by exact hs.r) (⟨1,h⟩:Ak) (by exact H))),(9,.c [0,1,2,3,6] [1,2,3] (aa.at (rd':=[ob q (lA c d b j s.time) 122,pk (au d n o (bq s.r (⟨1,h⟩:Ak))),pk (aD b p (fH s.k a h 1)),pk (az j (bW s.g ⟨0,s.time,1,i,f⟩)),bg ((u 8).val 0) (bT s.r (⟨1,h⟩:Ak))]) (pH q d b j n o p c s.time (bq s.r (⟨1,h⟩:Ak)) (by exact O.r) (fH s.k a h 1) (by exact z.k) (bW s.g ⟨0,s.time,1,i,f⟩) (by exact z.g) 1 ((u 8).val 0) (bT s.r (⟨1,h⟩:Ak)) (by exact Zu Z Dc) (by exact n3) (by exact λe G=>(R e G).ly y3) (by exact O.rk)) (atS (atS (atS (atS (bO (λ_ h=>ar.sq h) (λ_ h=>h))))))))]) N0 [] (λu L=>((L.set 1 ((pk (au d n o (bq s.r (⟨1,h⟩:Ak)))))).set 2 ((pk (aD b p (fp 1 (fH s.k a h 1) (bT s.r (⟨1,h⟩:Ak))))))).set 3 ((pk (az j (eT (bq s.r (⟨1,h⟩:Ak)).m 1 s.time (bW s.g ⟨0,s.time,1,i,f⟩) (bT s.r (⟨1,h⟩:Ak))))))++[bg ((u 8).val 0) (bT s.r (⟨1,h⟩:Ak))]) λu=>r0 [(1,.l 5)] [(63,.bool (cU s.k.lr ((s.k.F.getD a bj).l) 1))] [] ?_;refine cB (cU s.k.lr ((s.k.F.getD a bj).l) 1) (λB=>?_) λB=>?_
  ·refine rr (λx=>[(4,.l 0),(6,.l 4),(8,.c [1] [1,7] (qH d n o (bq s.r (⟨1,h⟩:Ak)) (by exact F.r) (⟨2,a⟩:Ak) (by exact M))),(9,.c [0,1,2,3,7] [1,2,3] (aa.at (rd':=[ob q (lA c d b j s.time) 122,pk (au d n o (bq (bq s.r (⟨1,h⟩:Ak)) (⟨2,a⟩:Ak))),pk (aD b p (fp 1 (fH s.k a h 1) (bT s.r (⟨1,h⟩:Ak)))),pk (az j (eT (bq s.r (⟨1,h⟩:Ak)).m 1 s.time (bW s.g ⟨0,s.time,1,i,f⟩) (bT s.r (⟨1,h⟩:Ak)))),bg ((x 8).val 0) (bT (bq s.r (⟨1,h⟩:Ak)) (⟨2,a⟩:Ak))]) (pH q d b j n o p c s.time (bq (bq s.r (⟨1,h⟩:Ak)) (⟨2,a⟩:Ak)) (by exact Q.r) (fp 1 (fH s.k a h 1) (bT s.r (⟨1,h⟩:Ak))) (by exact F.k) (eT (bq s.r (⟨1,h⟩:Ak)).m 1 s.time (bW s.g ⟨0,s.time,1,i,f⟩) (bT s.r (⟨1,h⟩:Ak))) (by exact F.g) 2 ((x 8).val 0) (bT (bq s.r (⟨1,h⟩:Ak)) (⟨2,a⟩:Ak)) (by exact Zu l6 Dc) (by exact n6) (by exact λe G=>(T e G).ly y6) (by exact Q.rk)) (atS (atS (atS (atS (bO (λ_ h=>ar.sq h) (λ_ h=>h))))))))]) N0 [] (λx L=>((L.set 1 ((pk (au d n o (bq (bq s.r (⟨1,h⟩:Ak)) (⟨2,a⟩:Ak)))))).set 2 ((pk (aD b p (fp 2 (fp 1 (fH s.k a h 1) (bT s.r (⟨1,h⟩:Ak))) (bT (bq s.r (⟨1,h⟩:Ak)) (⟨2,a⟩:Ak))))))).set 3 ((pk (az j (eT (bq (bq s.r (⟨1,h⟩:Ak)) (⟨2,a⟩:Ak)).m 2 s.time (eT (bq s.r (⟨1,h⟩:Ak)).m 1 s.time (bW s.g ⟨0,s.time,1,i,f⟩) (bT s.r (⟨1,h⟩:Ak))) (bT (bq s.r (⟨1,h⟩:Ak)) (⟨2,a⟩:Ak))))))++[bg ((x 8).val 0) (bT (bq s.r (⟨1,h⟩:Ak)) (⟨2,a⟩:Ak))]) λx=>?_;exact eF ab.zero [1,2,3] [(0,0)] [] (hf:=by unfold fe gn;(repeat (first | rw[t] | rw[B] | rw[ALct]));kernel_rfl)
  exact eF ab.zero [1,2,3] [(0,0)] [] (hf:=by unfold fe gn;(repeat (first | rw[t] | rw[B] | rw[ALct] | rw[ALcf]));kernel_rfl)
 refine r0 [(1,.l 5)] [(63,.bool (cU s.k.lr ((s.k.F.getD a bj).l) 1))] [] ?_;refine cB (cU s.k.lr ((s.k.F.getD a bj).l) 1) (λC=>?_) λC=>?_
 ·refine rr (λy=>[(4,.l 0),(6,.l 4),(8,.c [1] [1,6] (qH d n o s.r (by exact hs.r) (⟨2,a⟩:Ak) (by exact I))),(9,.c [0,1,2,3,6] [1,2,3] (aa.at (rd':=[ob q (lA c d b j s.time) 122,pk (au d n o (bq s.r (⟨2,a⟩:Ak))),pk (aD b p (fH s.k a h 1)),pk (az j (bW s.g ⟨0,s.time,1,i,f⟩)),bg ((y 8).val 0) (bT s.r (⟨2,a⟩:Ak))]) (pH q d b j n o p c s.time (bq s.r (⟨2,a⟩:Ak)) (by exact P.r) (fH s.k a h 1) (by exact z.k) (bW s.g ⟨0,s.time,1,i,f⟩) (by exact z.g) 2 ((y 8).val 0) (bT s.r (⟨2,a⟩:Ak)) (by exact Zu l5 Dc) (by exact n5) (by exact λe G=>(S e G).ly y5) (by exact P.rk)) (atS (atS (atS (atS (bO (λ_ h=>ar.sq h) (λ_ h=>h))))))))]) N0 [] (λy L=>((L.set 1 ((pk (au d n o (bq s.r (⟨2,a⟩:Ak)))))).set 2 ((pk (aD b p (fp 2 (fH s.k a h 1) (bT s.r (⟨2,a⟩:Ak))))))).set 3 ((pk (az j (eT (bq s.r (⟨2,a⟩:Ak)).m 2 s.time (bW s.g ⟨0,s.time,1,i,f⟩) (bT s.r (⟨2,a⟩:Ak))))))++[bg ((y 8).val 0) (bT s.r (⟨2,a⟩:Ak))]) λy=>?_;exact eF ab.zero [1,2,3] [(0,0)] [] (hf:=by unfold fe gn;(repeat (first | rw[t] | rw[C] | rw[ALct] | rw[ALcf]));kernel_rfl)
 exact eF ab.zero [1,2,3] [(0,0)] [] (hf:=by unfold fe gn;(repeat (first | rw[t] | rw[C] | rw[ALcf]));kernel_rfl)
theorem T2(q d b j n o p:Nat)(c:Cf)(s:Le)(K:Nat)(hs:Y7 s K)(hK:K+3≤1000000000)(Y:c.H≤65536)(i h a f:Nat)(A:a<s.r.m.R)(V:h<s.r.m.R*s.r.m.B*s.r.m.M):aa Zl 163 #[pt q 0,.agg #[i6 1,i6 3,iN f,iN i,iN h,iN a]] [ob q (lA c d b j s.time) 122,pk (au d n o s.r),pk (aD b p s.k),pk (az j s.g)] [1,2,3] (λ_=>[pk (au d n o (fe s a h (c.H) ⟨0,s.time,2,i,0⟩).r),pk (aD b p (fe s a h (c.H) ⟨0,s.time,2,i,0⟩).k),pk (az j (fe s a h (c.H) ⟨0,s.time,2,i,0⟩).g)]) (λ_=> .tuple #[]):=by
 have N:=hs.rk;have X:=hs.n;have U:=wu hs ⟨0,s.time,2,i,0⟩ Om;have z:=Ax U h (c.H) A;have H:eJ (nC s a h (c.H) ⟨0,s.time,2,i,0⟩).r.m ⟨1,h⟩:=⟨.inl ⟨rfl,V⟩⟩;have I:eJ (nC s a h (c.H) ⟨0,s.time,2,i,0⟩).r.m ⟨2,a⟩:=⟨.inr ⟨rfl,A⟩⟩;have O:=pG z H;have R:=qN z.r H 1;have Z:=pF s.r ⟨1,h⟩;have F:=wx z H Om;have P:=pG z I;have S:=qN z.r I 2;have l5:=pF s.r ⟨2,a⟩;have M:eJ (qO (nC s a h (c.H) ⟨0,s.time,2,i,0⟩) ⟨1,h⟩).r.m ⟨2,a⟩:=I.ly (wz _ _);have Q:=pG F M;have T:=qN F.r M 2;have l6:=pF (bq s.r ⟨1,h⟩) ⟨2,a⟩;have y3:=oy s.r ⟨1,h⟩;have y5:=oy s.r ⟨2,a⟩;have y6:=oy (bq s.r ⟨1,h⟩) ⟨2,a⟩;have n3:(bW s.g ⟨0,s.time,2,i,0⟩).next+(bT s.r ⟨1,h⟩).length≤1000000000:=by rw[mS];omega
 have n5:(bW s.g ⟨0,s.time,2,i,0⟩).next+(bT s.r ⟨2,a⟩).length≤1000000000:=by rw[mS];omega
 have n6:(eT (bq s.r ⟨1,h⟩).m 1 s.time (bW s.g ⟨0,s.time,2,i,0⟩) (bT s.r ⟨1,h⟩)).next+(bT (bq s.r ⟨1,h⟩) ⟨2,a⟩).length≤1000000000:=by rw[wo,mS];omega
 have W:=A;refine fG Tryz.func163 λw cs=>ra (λD=>[(3,pt (B0 D) 0)]) (λD=>[ob (B0 D) #[i6 1,i6 3,iN f,iN i,iN h,iN a] 81]) λD=>r0 [] [(4,i6 0)] [] (r0 [(2,.l 4)] [(9,i6 3)] [] (rF [] 20 (rF [] 22 (rF [] 31 (r0 [(5,.l 0)] [(4,iN c.H)] [4] (rs [(2,.l 4),(3,.c [0,3] [3] (nB q d b j c s.time s.g hs.g 2 i 0))] 3 ((pk (az j (bW s.g ⟨0,s.time,2,i,0⟩)))) (rr (λ_=>[(0,.v (pt q 0)),(1,.v (pt q 0)),(2,.v (pt q 17)),(3,.m (ld 0 (pt b 0))),(4,.v (pt (B0 D) 5)),(5,.m (ld 4 (iN a))),(6,.v (pt (B0 D) 4)),(7,.m (ld 4 (iN h))),(8,.v (iN c.H)),(9,.c [2] [2] (F9 b p s.k hs.k a h c.H (by rw[N];exact A) Om)),(10,.v (.tuple #[.agg #[.bool (cU s.k.lr ((s.k.F.getD a bj).l) c.H),.bool (cU s.k.lp ((dg s.k.t h).l) c.H)],i6 0])),(11,.v (.agg #[.bool (cU s.k.lr ((s.k.F.getD a bj).l) c.H),.bool (cU s.k.lp ((dg s.k.t h).l) c.H)])),(12,.v (i6 0)),(13,.m (al 5)),(14,.s 5),(15,.v (i6 0))]) (λJ=>[(5,pt ((J 13).y 0) 0)]) [] (λJ L=>L.set 2 ((pk (aD b p (fH s.k a h c.H))))++[ob ((J 13).y 0) #[.bool (cU s.k.lr ((s.k.F.getD a bj).l) c.H),.bool (cU s.k.lp ((dg s.k.t h).l) c.H)] 339]) λJ=>r0 [(1,.l 5)] [(51,.bool (cU s.k.lp ((dg s.k.t h).l) c.H))] [] ?_)))))));refine cB (cU s.k.lp ((dg s.k.t h).l) c.H) (λt=>?_) λt=>?_
 ·refine rr (λu=>[(4,.l 0),(6,.l 4),(8,.c [1] [1,6] (qH d n o s.r (by exact hs.r) (⟨1,h⟩:Ak) (by exact H))),(9,.c [0,1,2,3,6] [1,2,3] (aa.at (rd':=[ob q (lA c d b j s.time) 122,pk (au d n o (bq s.r (⟨1,h⟩:Ak))),pk (aD b p (fH s.k a h c.H)),pk (az j (bW s.g ⟨0,s.time,2,i,0⟩)),bg ((u 8).val 0) (bT s.r (⟨1,h⟩:Ak))]) (pH q d b j n o p c s.time (bq s.r (⟨1,h⟩:Ak)) (by exact O.r) (fH s.k a h c.H) (by exact z.k) (bW s.g ⟨0,s.time,2,i,0⟩) (by exact z.g) 1 ((u 8).val 0) (bT s.r (⟨1,h⟩:Ak)) (by exact Zu Z Dc) (by exact n3) (by exact λe G=>(R e G).ly y3) (by exact O.rk)) (atS (atS (atS (atS (bO (λ_ h=>ar.sq h) (λ_ h=>h))))))))]) N0 [] (λu L=>((L.set 1 ((pk (au d n o (bq s.r (⟨1,h⟩:Ak)))))).set 2 ((pk (aD b p (fp 1 (fH s.k a h c.H) (bT s.r (⟨1,h⟩:Ak))))))).set 3 ((pk (az j (eT (bq s.r (⟨1,h⟩:Ak)).m 1 s.time (bW s.g ⟨0,s.time,2,i,0⟩) (bT s.r (⟨1,h⟩:Ak))))))++[bg ((u 8).val 0) (bT s.r (⟨1,h⟩:Ak))]) λu=>r0 [(1,.l 5)] [(63,.bool (cU s.k.lr ((s.k.F.getD a bj).l) c.H))] [] ?_;refine cB (cU s.k.lr ((s.k.F.getD a bj).l) c.H) (λB=>?_) λB=>?_
  ·refine rr (λx=>[(4,.l 0),(6,.l 4),(8,.c [1] [1,7] (qH d n o (bq s.r (⟨1,h⟩:Ak)) (by exact F.r) (⟨2,a⟩:Ak) (by exact M))),(9,.c [0,1,2,3,7] [1,2,3] (aa.at (rd':=[ob q (lA c d b j s.time) 122,pk (au d n o (bq (bq s.r (⟨1,h⟩:Ak)) (⟨2,a⟩:Ak))),pk (aD b p (fp 1 (fH s.k a h c.H) (bT s.r (⟨1,h⟩:Ak)))),pk (az j (eT (bq s.r (⟨1,h⟩:Ak)).m 1 s.time (bW s.g ⟨0,s.time,2,i,0⟩) (bT s.r (⟨1,h⟩:Ak)))),bg ((x 8).val 0) (bT (bq s.r (⟨1,h⟩:Ak)) (⟨2,a⟩:Ak))]) (pH q d b j n o p c s.time (bq (bq s.r (⟨1,h⟩:Ak)) (⟨2,a⟩:Ak)) (by exact Q.r) (fp 1 (fH s.k a h c.H) (bT s.r (⟨1,h⟩:Ak))) (by exact F.k) (eT (bq s.r (⟨1,h⟩:Ak)).m 1 s.time (bW s.g ⟨0,s.time,2,i,0⟩) (bT s.r (⟨1,h⟩:Ak))) (by exact F.g) 2 ((x 8).val 0) (bT (bq s.r (⟨1,h⟩:Ak)) (⟨2,a⟩:Ak)) (by exact Zu l6 Dc) (by exact n6) (by exact λe G=>(T e G).ly y6) (by exact Q.rk)) (atS (atS (atS (atS (bO (λ_ h=>ar.sq h) (λ_ h=>h))))))))]) N0 [] (λx L=>((L.set 1 ((pk (au d n o (bq (bq s.r (⟨1,h⟩:Ak)) (⟨2,a⟩:Ak)))))).set 2 ((pk (aD b p (fp 2 (fp 1 (fH s.k a h c.H) (bT s.r (⟨1,h⟩:Ak))) (bT (bq s.r (⟨1,h⟩:Ak)) (⟨2,a⟩:Ak))))))).set 3 ((pk (az j (eT (bq (bq s.r (⟨1,h⟩:Ak)) (⟨2,a⟩:Ak)).m 2 s.time (eT (bq s.r (⟨1,h⟩:Ak)).m 1 s.time (bW s.g ⟨0,s.time,2,i,0⟩) (bT s.r (⟨1,h⟩:Ak))) (bT (bq s.r (⟨1,h⟩:Ak)) (⟨2,a⟩:Ak))))))++[bg ((x 8).val 0) (bT (bq s.r (⟨1,h⟩:Ak)) (⟨2,a⟩:Ak))]) λx=>?_;exact eF ab.zero [1,2,3] [(0,0)] [] (hf:=by unfold fe gn;(repeat (first | rw[t] | rw[B] | rw[ALct]));kernel_rfl)
  exact eF ab.zero [1,2,3] [(0,0)] [] (hf:=by unfold fe gn;(repeat (first | rw[t] | rw[B] | rw[ALct] | rw[ALcf]));kernel_rfl)
 refine r0 [(1,.l 5)] [(63,.bool (cU s.k.lr ((s.k.F.getD a bj).l) c.H))] [] ?_;refine cB (cU s.k.lr ((s.k.F.getD a bj).l) c.H) (λC=>?_) λC=>?_
 ·refine rr (λy=>[(4,.l 0),(6,.l 4),(8,.c [1] [1,6] (qH d n o s.r (by exact hs.r) (⟨2,a⟩:Ak) (by exact I))),(9,.c [0,1,2,3,6] [1,2,3] (aa.at (rd':=[ob q (lA c d b j s.time) 122,pk (au d n o (bq s.r (⟨2,a⟩:Ak))),pk (aD b p (fH s.k a h c.H)),pk (az j (bW s.g ⟨0,s.time,2,i,0⟩)),bg ((y 8).val 0) (bT s.r (⟨2,a⟩:Ak))]) (pH q d b j n o p c s.time (bq s.r (⟨2,a⟩:Ak)) (by exact P.r) (fH s.k a h c.H) (by exact z.k) (bW s.g ⟨0,s.time,2,i,0⟩) (by exact z.g) 2 ((y 8).val 0) (bT s.r (⟨2,a⟩:Ak)) (by exact Zu l5 Dc) (by exact n5) (by exact λe G=>(S e G).ly y5) (by exact P.rk)) (atS (atS (atS (atS (bO (λ_ h=>ar.sq h) (λ_ h=>h))))))))]) N0 [] (λy L=>((L.set 1 ((pk (au d n o (bq s.r (⟨2,a⟩:Ak)))))).set 2 ((pk (aD b p (fp 2 (fH s.k a h c.H) (bT s.r (⟨2,a⟩:Ak))))))).set 3 ((pk (az j (eT (bq s.r (⟨2,a⟩:Ak)).m 2 s.time (bW s.g ⟨0,s.time,2,i,0⟩) (bT s.r (⟨2,a⟩:Ak))))))++[bg ((y 8).val 0) (bT s.r (⟨2,a⟩:Ak))]) λy=>?_;exact eF ab.zero [1,2,3] [(0,0)] [] (hf:=by unfold fe gn;(repeat (first | rw[t] | rw[C] | rw[ALct] | rw[ALcf]));kernel_rfl)
 exact eF ab.zero [1,2,3] [(0,0)] [] (hf:=by unfold fe gn;(repeat (first | rw[t] | rw[C] | rw[ALcf]));kernel_rfl)
theorem T3(g e d b j k m:Nat)(c:Cf)(s:Le)(K:Nat)(hs:Y7 s K)(i h n f:Nat):aa Zl 163 #[pt g 0,.agg #[i6 1,i6 0,iN f,iN i,iN h,iN n]] [ob g (lA c e d b s.time) 122,pk (au e j k s.r),pk (aD d m s.k),pk (az b s.g)] [1,2,3] (λ_=>[pk (au e j k s.r),pk (aD d m s.k),pk (az b s.g)]) (λ_=> .tuple #[]):=by
 exact fG Tryz.func163 λw cs=>ra (λa=>[(3,pt (B0 a) 0)]) (λa=>[ob (B0 a) #[i6 1,i6 0,iN f,iN i,iN h,iN n] 81]) λa=>r0 [] [(4,i6 0)] [] (r0 [(2,.l 4)] [(9,i6 0)] [] (rT [] 20 (lf ab.zero [1,2,3] [(0,0)] [])))
theorem T4(g d b a j k m:Nat)(c:Cf)(s:Le)(K:Nat)(hs:Y7 s K)(o:K+3≤1000000000)(i h n f:Nat):aa Zl 163 #[pt g 0,.agg #[i6 1,i6 2,iN f,iN i,iN h,iN n]] [ob g (lA c d b a s.time) 122,pk (au d j k s.r),pk (aD b m s.k),pk (az a s.g)] [1,2,3] (λ_=>[pk (au d j k s.r),pk (aD b m s.k),pk (az a (bW s.g ⟨0,s.time,2,i,1⟩))]) (λ_=> .tuple #[]):=by
 exact fG Tryz.func163 λw cs=>ra (λe=>[(3,pt (B0 e) 0)]) (λe=>[ob (B0 e) #[i6 1,i6 2,iN f,iN i,iN h,iN n] 81]) λe=>r0 [] [(4,i6 0)] [] (r0 [(2,.l 4)] [(9,i6 2)] [] (rF [] 20 (rF [] 22 (rT [] 31 (rs [(2,.l 4),(3,.c [0,3] [3] (nB g d b a c s.time s.g hs.g 2 i 1))] 3 ((pk (az a (bW s.g ⟨0,s.time,2,i,1⟩)))) (lf ab.zero [1,2,3] [(0,0)] []))))))
theorem Gw(m:Nat)(a:m=1∨m=2):aa Zl 75 #[iN m] [] [] N0 (λ_=>iN (aP (m:Int))):=by
 rcases a with rfl | rfl
 ·exact vB
 ·exact vC
theorem Gx(m:Nat)(a:m=1∨m=2):aa Zl 192 #[iN m] [] [] N0 (λ_=>iN (dA (m:Int))):=by
 rcases a with rfl | rfl
 ·exact y1
 ·exact y2
structure Fa where
 x0:Int
 x1:Int
 x2:Int
 x3:Int
 x4:Int
 x5:Int
 x6:Int
 x7:Int
def b7:Fa:=⟨0,0,0,0,0,0,0,0⟩
def pI(x:Fa):List Value:=[i6 x.x0,i6 x.x1,i6 x.x2,i6 x.x3,i6 x.x4,i6 x.x5,i6 x.x6,i6 x.x7]
def mj:Kd Zl Fa:=⟨pI,[i6 0,i6 0,i6 0,i6 0,i6 0,i6 0,i6 0,i6 0],93,48,b7,8,λ_=>rfl,rfl,λ_=>rfl,ec.mk' Kr Kr rfl⟩
abbrev dw(v:Value)(xs:List Fa):aB:= .p (ar pI ([i6 0,i6 0,i6 0,i6 0,i6 0,i6 0,i6 0,i6 0]) 48 v xs)
theorem Ay(i n:Int):aa Zl 74 #[i6 i,i6 n] [] [] N0 (λ_=> .bool (bL i n)):=by
 exact fG Tryz.func74 λw cs=>r0 [] [(4,.bool false)] [] (r0 [] [(4,.bool ((decide (0≤i))&&(decide (i<n))))] [4] (ao (.bool ((decide (0≤i))&&(decide (i<n)))) ab.zero bc [] [] []))
def kP(f:Fa):Bool:=(decide (2≤f.x0))&&(decide (f.x0≤5))
theorem Gy(f:Fa):aa Zl 169 #[.agg #[i6 f.x0,i6 f.x1,i6 f.x2,i6 f.x3,i6 f.x4,i6 f.x5,i6 f.x6,i6 f.x7]] [] [] N0 (λ_=> .bool (kP f)):=by
 exact fG Tryz.func169 λw cs=>ra (λa=>[(1,pt (B0 a) 0),(2,.bool false)]) (λa=>[ob (B0 a) #[i6 f.x0,i6 f.x1,i6 f.x2,i6 f.x3,i6 f.x4,i6 f.x5,i6 f.x6,i6 f.x7] 48]) λa=>r0 [(1,.l 0),(5,.l 0)] [(2,.bool ((decide (2≤f.x0))&&(decide (f.x0≤5))))] [2] (ao (.bool ((decide (2≤f.x0))&&(decide (f.x0≤5)))) ab.zero bc [] [] [])
def mn(f:Fa)(a b c d:Int):Bool:=(bif (bif f.x0==1 then f.x0==1 else f.x0==2) then(a==f.x1&&(b==f.x2&&(c==f.x3&&(d==f.x4&&true)))) else(bif f.x0==3 then(a==f.x1&&(b==f.x2&&(c==f.x3&&(f.x4==f.x4&&true)))) else(bif f.x0==4 then(a==f.x1&&(b==f.x2&&(f.x3==f.x3&&(d==f.x4&&true)))) else(bif f.x0==5 then a==f.x1 else false))))
theorem T5(f:Fa)(a b i j:Int):aa Zl 69 #[.agg #[i6 f.x0,i6 f.x1,i6 f.x2,i6 f.x3,i6 f.x4,i6 f.x5,i6 f.x6,i6 f.x7],.agg #[i6 a,i6 b,i6 i,i6 j]] [] [] N0 (λ_=> .bool (mn f a b i j)):=by
 refine fG Tryz.func69 λw cs=>ra (λg=>[(2,pt (B0 g) 0),(3,pt (B1 g) 0),(4,.bool false)]) (λg=>[ob (B0 g) #[i6 f.x0,i6 f.x1,i6 f.x2,i6 f.x3,i6 f.x4,i6 f.x5,i6 f.x6,i6 f.x7] 48,ob (B1 g) #[i6 a,i6 b,i6 i,i6 j] 46]) λg=>rr (λ_=>[(1,.l 0),(3,.s 2)]) (λq=>[(5,pt (B2 q) 0)]) [] (λq L=>L++[ob (B2 q) #[i6 f.x1,i6 f.x2,i6 f.x3,i6 f.x4] 46]) λq=>r0 [(1,.l 0)] [(9,i6 f.x0)] [] (r0 [] [(10,.bool (f.x0==1))] [] ?_);refine cJ (f.x0==1) (λc=>[(10,.bool (bif c then f.x0==1 else f.x0==2))]) (λ_=>[ob (B0 g) #[i6 f.x0,i6 f.x1,i6 f.x2,i6 f.x3,i6 f.x4,i6 f.x5,i6 f.x6,i6 f.x7] 48,ob (B1 g) #[i6 a,i6 b,i6 i,i6 j] 46,ob (B2 q) #[i6 f.x1,i6 f.x2,i6 f.x3,i6 f.x4] 46]) (λt=>?_) (λt=>?_) ?_
 ·have r:=eq_of_beq t;exact cm Kr [0,1,2] Kr
 ·have r:=ne_of_beq_false t;refine r0 [] [(10,.bool (f.x0==2))] [10] ?_;exact cm Kr [0,1,2] Kr
 refine cB ((bif f.x0==1 then f.x0==1 else f.x0==2)) (λm=>?_) λm=>?_
 ·exact r0 [(0,.l 1),(1,.l 2),(2,.e)] [(4,.bool (a==f.x1&&(b==f.x2&&(i==f.x3&&(j==f.x4&&true)))))] [4] (ao (.bool (a==f.x1&&(b==f.x2&&(i==f.x3&&(j==f.x4&&true))))) ab.zero (by((try simp only[mn]);(repeat (first | rw[m] | rw[ALct])))<;>rfl) [] [] [])
 refine r0 [] [(16,.bool (f.x0==3))] [] ?_;refine cX f.x0 3 (λd n=>?_) λd n=>?_
 ·exact rr (λ_=>[(1,.l 2),(3,.s 1)]) N0 [] (λ_ L=>L.set 1 (ob (B1 g) #[i6 a,i6 b,i6 i,i6 f.x4] 46)) λu=>r0 [(0,.l 1),(1,.l 2),(2,.e)] [(4,.bool (a==f.x1&&(b==f.x2&&(i==f.x3&&(f.x4==f.x4&&true)))))] [4] (ao (.bool (a==f.x1&&(b==f.x2&&(i==f.x3&&(f.x4==f.x4&&true))))) ab.zero (by((try simp only[mn]);(repeat (first | rw[m] | rw[d] | rw[ALct] | rw[ALcf])))<;>rfl) [] [] [])
 refine r0 [] [(24,.bool (f.x0==4))] [] ?_;refine cX f.x0 4 (λh o=>?_) λh o=>?_
 ·exact rr (λ_=>[(1,.l 2),(3,.s 1)]) N0 [] (λ_ L=>L.set 1 (ob (B1 g) #[i6 a,i6 b,i6 f.x3,i6 j] 46)) λv=>r0 [(0,.l 1),(1,.l 2),(2,.e)] [(4,.bool (a==f.x1&&(b==f.x2&&(f.x3==f.x3&&(j==f.x4&&true)))))] [4] (ao (.bool (a==f.x1&&(b==f.x2&&(f.x3==f.x3&&(j==f.x4&&true))))) ab.zero (by((try simp only[mn]);(repeat (first | rw[m] | rw[d] | rw[h] | rw[ALct] | rw[ALcf])))<;>rfl) [] [] [])
 refine r0 [] [(32,.bool (f.x0==5))] [] ?_;refine cX f.x0 5 (λk p=>?_) λk p=>?_
 ·exact r0 [(1,.l 1),(3,.l 2)] [(4,.bool (a==f.x1))] [4] (ao (.bool (a==f.x1)) ab.zero (by((try simp only[mn]);(repeat (first | rw[m] | rw[d] | rw[h] | rw[k] | rw[ALct] | rw[ALcf])))<;>rfl) [] [] [])
 exact r0 [] [(4,.bool false)] [4] (ao (.bool false) ab.zero (by((try simp only[mn]);(repeat (first | rw[m] | rw[d] | rw[h] | rw[k] | rw[ALcf])))<;>rfl) [] [] [])
def jx(f:Fa):Int:=(bif f.x0==1 then f.x1 else(bif f.x0==2 then f.x1 else(bif f.x0==3 then f.x1 else(bif f.x0==4 then f.x1 else(bif f.x0==5 then f.x1 else(bif f.x0==7 then 0 else f.x1))))))
def jy(f:Fa):Int:=(bif f.x0==1 then(bif f.x0==3 then f.x2 else(bif f.x0==4 then f.x2 else(bif f.x0==5 then 0 else f.x2))) else(bif f.x0==2 then(bif f.x0==3 then f.x2 else(bif f.x0==4 then f.x2 else(bif f.x0==5 then 0 else f.x2))) else(bif f.x0==3 then f.x2 else(bif f.x0==4 then f.x2 else(bif f.x0==5 then 0 else(bif f.x0==7 then 0 else f.x2))))))
def jz(f:Fa):Int:=(bif f.x0==1 then(bif f.x0==3 then f.x3 else(bif f.x0==4 then 0 else(bif f.x0==5 then 0 else f.x3))) else(bif f.x0==2 then(bif f.x0==3 then f.x3 else(bif f.x0==4 then 0 else(bif f.x0==5 then 0 else f.x3))) else(bif f.x0==3 then f.x3 else(bif f.x0==4 then 0 else(bif f.x0==5 then 0 else(bif f.x0==7 then 0 else f.x3))))))
def jA(f:Fa):Int:=(bif f.x0==1 then(bif f.x0==3 then 0 else(bif f.x0==4 then f.x4 else(bif f.x0==5 then 0 else f.x4))) else(bif f.x0==2 then(bif f.x0==3 then 0 else(bif f.x0==4 then f.x4 else(bif f.x0==5 then 0 else f.x4))) else(bif f.x0==3 then 0 else(bif f.x0==4 then f.x4 else(bif f.x0==5 then 0 else(bif f.x0==7 then 0 else f.x4))))))
def jB(f:Fa):Int:=(bif f.x0==1 then 0 else(bif f.x0==2 then 0 else(bif f.x0==3 then f.x5 else(bif f.x0==4 then f.x5 else(bif f.x0==5 then f.x5 else 0)))))
def jC(f:Fa):Int:=(bif f.x0==1 then f.x6 else(bif f.x0==2 then f.x6 else 0))
def jD(f:Fa):Int:=(bif f.x0==1 then 0 else(bif f.x0==2 then f.x7 else(bif f.x0==3 then f.x7 else(bif f.x0==4 then f.x7 else(bif f.x0==5 then f.x7 else 0)))))
theorem T6(f:Fa):aa Zl 72 #[.agg #[i6 f.x0,i6 f.x1,i6 f.x2,i6 f.x3,i6 f.x4,i6 f.x5,i6 f.x6,i6 f.x7]] [] [] N0 (λ_=> .agg #[i6 f.x0,i6 (jx f),i6 (jy f),i6 (jz f),i6 (jA f),i6 (jB f),i6 (jC f),i6 (jD f)]):=by
 refine fG Tryz.func72 λw cs=>ra (λd=>[(1,pt (B0 d) 0),(2,pt (B1 d) 0)]) (λd=>[ob (B0 d) #[i6 f.x0,i6 f.x1,i6 f.x2,i6 f.x3,i6 f.x4,i6 f.x5,i6 f.x6,i6 f.x7] 48,ob (B1 d) #[i6 0,i6 0,i6 0,i6 0,i6 0,i6 0,i6 0,i6 0] 48]) λd=>rr (λ_=>[(1,.l 0),(3,.l 0),(6,.s 2)]) (λe=>[(3,pt (B5 e) 0)]) [] (λe L=>L++[ob (B5 e) #[i6 f.x0,i6 f.x1,i6 f.x2,i6 f.x3,i6 f.x4,i6 0,i6 0,i6 0] 48]) λe=>r0 [(1,.l 0)] [(10,i6 f.x0)] [] (r0 [] [(11,.bool (f.x0==1))] [] ?_);refine cX f.x0 1 (λh D=>?_) λh D=>?_
 ·refine rr (λ_=>[(1,.l 0),(3,.s 2)]) N0 [] (λ_ L=>L.set 2 (ob (B5 e) #[i6 f.x0,i6 f.x1,i6 f.x2,i6 f.x3,i6 f.x4,i6 0,i6 f.x6,i6 0] 48)) λQ=>r0 [(1,.l 0)] [(39,i6 f.x0)] [] (r0 [] [(40,.bool (f.x0==3))] [] ?_);refine cX f.x0 3 (λC F=>?_) λC F=>?_
  ·exact rr (λ_=>[(2,.s 2)]) N0 [] (λ_ L=>L.set 2 (ob (B5 e) #[i6 f.x0,i6 f.x1,i6 f.x2,i6 f.x3,i6 0,i6 0,i6 f.x6,i6 0] 48)) λG=>rs [(0,.l 2),(1,.s 1)] 1 (ob (B1 d) #[i6 f.x0,i6 f.x1,i6 f.x2,i6 f.x3,i6 0,i6 0,i6 f.x6,i6 0] 48) (ao (.agg #[i6 f.x0,i6 f.x1,i6 f.x2,i6 f.x3,i6 0,i6 0,i6 f.x6,i6 0]) ab.zero (by((try simp only[jx,jy,jz,jA,jB,jC,jD]);(repeat (first | rw[h] | rw[C] | rw[ALct])))<;>rfl) [] [] [1])
  refine r0 [] [(44,.bool (f.x0==4))] [] ?_;refine cX f.x0 4 (λj p=>?_) λj p=>?_
  ·exact rr (λ_=>[(2,.s 2)]) N0 [] (λ_ L=>L.set 2 (ob (B5 e) #[i6 f.x0,i6 f.x1,i6 f.x2,i6 0,i6 f.x4,i6 0,i6 f.x6,i6 0] 48)) λH=>rs [(0,.l 2),(1,.s 1)] 1 (ob (B1 d) #[i6 f.x0,i6 f.x1,i6 f.x2,i6 0,i6 f.x4,i6 0,i6 f.x6,i6 0] 48) (ao (.agg #[i6 f.x0,i6 f.x1,i6 f.x2,i6 0,i6 f.x4,i6 0,i6 f.x6,i6 0]) ab.zero (by((try simp only[jx,jy,jz,jA,jB,jC,jD]);(repeat (first | rw[h] | rw[C] | rw[j] | rw[ALct] | rw[ALcf])))<;>rfl) [] [] [1])
  refine r0 [] [(48,.bool (f.x0==5))] [] ?_;refine cX f.x0 5 (λm q=>?_) λm q=>?_
  ·exact rr (λ_=>[(2,.l 0),(5,.s 2)]) N0 [] (λ_ L=>L.set 2 (ob (B5 e) #[i6 f.x0,i6 f.x1,i6 0,i6 0,i6 0,i6 0,i6 f.x6,i6 0] 48)) λI=>rs [(0,.l 2),(1,.s 1)] 1 (ob (B1 d) #[i6 f.x0,i6 f.x1,i6 0,i6 0,i6 0,i6 0,i6 f.x6,i6 0] 48) (ao (.agg #[i6 f.x0,i6 f.x1,i6 0,i6 0,i6 0,i6 0,i6 f.x6,i6 0]) ab.zero (by((try simp only[jx,jy,jz,jA,jB,jC,jD]);(repeat (first | rw[h] | rw[C] | rw[j] | rw[m] | rw[ALct] | rw[ALcf])))<;>rfl) [] [] [1])
  exact rs [(0,.l 2),(1,.s 1)] 1 (ob (B1 d) #[i6 f.x0,i6 f.x1,i6 f.x2,i6 f.x3,i6 f.x4,i6 0,i6 f.x6,i6 0] 48) (ao (.agg #[i6 f.x0,i6 f.x1,i6 f.x2,i6 f.x3,i6 f.x4,i6 0,i6 f.x6,i6 0]) ab.zero (by((try simp only[jx,jy,jz,jA,jB,jC,jD]);(repeat (first | rw[h] | rw[C] | rw[j] | rw[m] | rw[ALct] | rw[ALcf])))<;>rfl) [] [] [1])
 refine r0 [] [(16,.bool (f.x0==2))] [] ?_;refine cX f.x0 2 (λb r=>?_) λb r=>?_
 ·refine rr (λ_=>[(1,.l 0),(3,.l 0),(5,.s 2),(7,.s 2)]) N0 [] (λ_ L=>L.set 2 (ob (B5 e) #[i6 f.x0,i6 f.x1,i6 f.x2,i6 f.x3,i6 f.x4,i6 0,i6 f.x6,i6 f.x7] 48)) λJ=>r0 [(1,.l 0)] [(39,i6 f.x0)] [] (r0 [] [(40,.bool (f.x0==3))] [] ?_);refine cX f.x0 3 (λi u=>?_) λi u=>?_
  ·exact rr (λ_=>[(2,.s 2)]) N0 [] (λ_ L=>L.set 2 (ob (B5 e) #[i6 f.x0,i6 f.x1,i6 f.x2,i6 f.x3,i6 0,i6 0,i6 f.x6,i6 f.x7] 48)) λK=>rs [(0,.l 2),(1,.s 1)] 1 (ob (B1 d) #[i6 f.x0,i6 f.x1,i6 f.x2,i6 f.x3,i6 0,i6 0,i6 f.x6,i6 f.x7] 48) (ao (.agg #[i6 f.x0,i6 f.x1,i6 f.x2,i6 f.x3,i6 0,i6 0,i6 f.x6,i6 f.x7]) ab.zero (by((try simp only[jx,jy,jz,jA,jB,jC,jD]);(repeat (first | rw[h] | rw[b] | rw[i] | rw[ALct] | rw[ALcf])))<;>rfl) [] [] [1])
  refine r0 [] [(44,.bool (f.x0==4))] [] ?_;refine cX f.x0 4 (λk v=>?_) λk v=>?_
  ·exact rr (λ_=>[(2,.s 2)]) N0 [] (λ_ L=>L.set 2 (ob (B5 e) #[i6 f.x0,i6 f.x1,i6 f.x2,i6 0,i6 f.x4,i6 0,i6 f.x6,i6 f.x7] 48)) λM=>rs [(0,.l 2),(1,.s 1)] 1 (ob (B1 d) #[i6 f.x0,i6 f.x1,i6 f.x2,i6 0,i6 f.x4,i6 0,i6 f.x6,i6 f.x7] 48) (ao (.agg #[i6 f.x0,i6 f.x1,i6 f.x2,i6 0,i6 f.x4,i6 0,i6 f.x6,i6 f.x7]) ab.zero (by((try simp only[jx,jy,jz,jA,jB,jC,jD]);(repeat (first | rw[h] | rw[b] | rw[i] | rw[k] | rw[ALct] | rw[ALcf])))<;>rfl) [] [] [1])
  refine r0 [] [(48,.bool (f.x0==5))] [] ?_;refine cX f.x0 5 (λn x=>?_) λn x=>?_
  ·exact rr (λ_=>[(2,.l 0),(5,.s 2)]) N0 [] (λ_ L=>L.set 2 (ob (B5 e) #[i6 f.x0,i6 f.x1,i6 0,i6 0,i6 0,i6 0,i6 f.x6,i6 f.x7] 48)) λN=>rs [(0,.l 2),(1,.s 1)] 1 (ob (B1 d) #[i6 f.x0,i6 f.x1,i6 0,i6 0,i6 0,i6 0,i6 f.x6,i6 f.x7] 48) (ao (.agg #[i6 f.x0,i6 f.x1,i6 0,i6 0,i6 0,i6 0,i6 f.x6,i6 f.x7]) ab.zero (by((try simp only[jx,jy,jz,jA,jB,jC,jD]);(repeat (first | rw[h] | rw[b] | rw[i] | rw[k] | rw[n] | rw[ALct] | rw[ALcf])))<;>rfl) [] [] [1])
  exact rs [(0,.l 2),(1,.s 1)] 1 (ob (B1 d) #[i6 f.x0,i6 f.x1,i6 f.x2,i6 f.x3,i6 f.x4,i6 0,i6 f.x6,i6 f.x7] 48) (ao (.agg #[i6 f.x0,i6 f.x1,i6 f.x2,i6 f.x3,i6 f.x4,i6 0,i6 f.x6,i6 f.x7]) ab.zero (by((try simp only[jx,jy,jz,jA,jB,jC,jD]);(repeat (first | rw[h] | rw[b] | rw[i] | rw[k] | rw[n] | rw[ALct] | rw[ALcf])))<;>rfl) [] [] [1])
 refine r0 [] [(24,.bool (f.x0==3))] [] ?_;refine cX f.x0 3 (λa y=>?_) λa y=>?_
 ·exact cT (f.x0==3) a (rs [(1,.l 0),(3,.l 0),(5,.s 2),(7,.s 2)] 2 (ob (B5 e) #[i6 f.x0,i6 f.x1,i6 f.x2,i6 f.x3,i6 f.x4,i6 f.x5,i6 0,i6 f.x7] 48) (r0 [(1,.l 0)] [(39,i6 f.x0)] [] (rT [(0,.t (tk (show Value.bool (f.x0==3)= .bool true from ALca Value.bool a)))] 40 (rs [(2,.s 2)] 2 (ob (B5 e) #[i6 f.x0,i6 f.x1,i6 f.x2,i6 f.x3,i6 0,i6 f.x5,i6 0,i6 f.x7] 48) (rs [(0,.l 2),(1,.s 1)] 1 (ob (B1 d) #[i6 f.x0,i6 f.x1,i6 f.x2,i6 f.x3,i6 0,i6 f.x5,i6 0,i6 f.x7] 48) (ao (.agg #[i6 f.x0,i6 f.x1,i6 f.x2,i6 f.x3,i6 0,i6 f.x5,i6 0,i6 f.x7]) ab.zero (by((try simp only[jx,jy,jz,jA,jB,jC,jD]);(repeat (first | rw[h] | rw[b] | rw[a] | rw[ALct] | rw[ALcf])))<;>rfl) [] [] [1]))))))
 refine r0 [] [(24,.bool (f.x0==4))] [24] ?_;refine cX f.x0 4 (λc z=>?_) λc z=>?_
 ·exact cT (f.x0==4) c (rs [(1,.l 0),(3,.l 0),(5,.s 2),(7,.s 2)] 2 (ob (B5 e) #[i6 f.x0,i6 f.x1,i6 f.x2,i6 f.x3,i6 f.x4,i6 f.x5,i6 0,i6 f.x7] 48) (r0 [(1,.l 0)] [(39,i6 f.x0)] [] (rF [(0,.t (tk (show Value.bool (f.x0==3)= .bool false from ALca Value.bool a)))] 40 (rT [(0,.t (tk (show Value.bool (f.x0==4)= .bool true from ALca Value.bool c)))] 44 (rs [(2,.s 2)] 2 (ob (B5 e) #[i6 f.x0,i6 f.x1,i6 f.x2,i6 0,i6 f.x4,i6 f.x5,i6 0,i6 f.x7] 48) (rs [(0,.l 2),(1,.s 1)] 1 (ob (B1 d) #[i6 f.x0,i6 f.x1,i6 f.x2,i6 0,i6 f.x4,i6 f.x5,i6 0,i6 f.x7] 48) (ao (.agg #[i6 f.x0,i6 f.x1,i6 f.x2,i6 0,i6 f.x4,i6 f.x5,i6 0,i6 f.x7]) ab.zero (by((try simp only[jx,jy,jz,jA,jB,jC,jD]);(repeat (first | rw[h] | rw[b] | rw[a] | rw[c] | rw[ALct] | rw[ALcf])))<;>rfl) [] [] [1])))))))
 refine r0 [] [(24,.bool (f.x0==5))] [24] ?_;refine cX f.x0 5 (λg A=>?_) λg A=>?_
 ·exact rr (λ_=>[(1,.l 0),(3,.l 0),(5,.s 2),(7,.s 2)]) N0 [] (λ_ L=>L.set 2 (ob (B5 e) #[i6 f.x0,i6 f.x1,i6 f.x2,i6 f.x3,i6 f.x4,i6 f.x5,i6 0,i6 f.x7] 48)) λO=>r0 [(1,.l 0)] [(39,i6 f.x0)] [] (rF [(0,.t (tk (show Value.bool (f.x0==3)= .bool false from ALca Value.bool a)))] 40 (rF [(0,.t (tk (show Value.bool (f.x0==4)= .bool false from ALca Value.bool c)))] 44 (rT [(0,.t (tk (show Value.bool (f.x0==5)= .bool true from ALca Value.bool g)))] 48 (rs [(2,.l 0),(5,.s 2)] 2 (ob (B5 e) #[i6 f.x0,i6 f.x1,i6 0,i6 0,i6 0,i6 f.x5,i6 0,i6 f.x7] 48) (rs [(0,.l 2),(1,.s 1)] 1 (ob (B1 d) #[i6 f.x0,i6 f.x1,i6 0,i6 0,i6 0,i6 f.x5,i6 0,i6 f.x7] 48) (ao (.agg #[i6 f.x0,i6 f.x1,i6 0,i6 0,i6 0,i6 f.x5,i6 0,i6 f.x7]) ab.zero (by((try simp only[jx,jy,jz,jA,jB,jC,jD]);(repeat (first | rw[h] | rw[b] | rw[a] | rw[c] | rw[g] | rw[ALct] | rw[ALcf])))<;>rfl) [] [] [1]))))))
 refine r0 [] [(34,.bool (f.x0==7))] [] ?_;refine cX f.x0 7 (λo B=>?_) λo B=>?_
 ·exact rr (λ_=>[(2,.s 2)]) N0 [] (λ_ L=>L.set 2 (ob (B5 e) #[i6 f.x0,i6 0,i6 0,i6 0,i6 0,i6 0,i6 0,i6 0] 48)) λP=>r0 [(1,.l 0)] [(39,i6 f.x0)] [] (rF [(0,.t (tk (show Value.bool (f.x0==3)= .bool false from ALca Value.bool a)))] 40 (rF [(0,.t (tk (show Value.bool (f.x0==4)= .bool false from ALca Value.bool c)))] 44 (rF [(0,.t (tk (show Value.bool (f.x0==5)= .bool false from ALca Value.bool g)))] 48 (rs [(0,.l 2),(1,.s 1)] 1 (ob (B1 d) #[i6 f.x0,i6 0,i6 0,i6 0,i6 0,i6 0,i6 0,i6 0] 48) (ao (.agg #[i6 f.x0,i6 0,i6 0,i6 0,i6 0,i6 0,i6 0,i6 0]) ab.zero (by((try simp only[jx,jy,jz,jA,jB,jC,jD]);(repeat (first | rw[h] | rw[b] | rw[a] | rw[c] | rw[g] | rw[o] | rw[ALct] | rw[ALcf])))<;>rfl) [] [] [1])))))
 exact r0 [(1,.l 0)] [(39,i6 f.x0)] [] (rF [(0,.t (tk (show Value.bool (f.x0==3)= .bool false from ALca Value.bool a)))] 40 (rF [(0,.t (tk (show Value.bool (f.x0==4)= .bool false from ALca Value.bool c)))] 44 (rF [(0,.t (tk (show Value.bool (f.x0==5)= .bool false from ALca Value.bool g)))] 48 (rs [(0,.l 2),(1,.s 1)] 1 (ob (B1 d) #[i6 f.x0,i6 f.x1,i6 f.x2,i6 f.x3,i6 f.x4,i6 0,i6 0,i6 0] 48) (ao (.agg #[i6 f.x0,i6 f.x1,i6 f.x2,i6 f.x3,i6 f.x4,i6 0,i6 0,i6 0]) ab.zero (by((try simp only[jx,jy,jz,jA,jB,jC,jD]);(repeat (first | rw[h] | rw[b] | rw[a] | rw[c] | rw[g] | rw[o] | rw[ALcf])))<;>rfl) [] [] [1])))))
def pJ(f:Fa)(R S B M C m:Nat):Bool:=(((((((decide (1≤f.x0))&&(decide (f.x0≤7)))&&(((m:Int)==1)||((m:Int)==2)))&&(f.x0==f.x0&&(f.x1==(jx f)&&(f.x2==(jy f)&&(f.x3==(jz f)&&(f.x4==(jA f)&&(f.x5==(jB f)&&(f.x6==(jC f)&&(f.x7==(jD f)&&true)))))))))&&(hold R S B M C f.x1 f.x2 f.x3 f.x4))&&(bL f.x6 576))&&(bL f.x5 ((aP (m:Int):Nat):Int)))&&(bL f.x7 (bif f.x0==2 then 2 else 256))
theorem T7(f:Fa)(R S B M C m:Nat)(g:cG R S B M C)(h:m=1∨m=2):aa Zl 38 #[.agg #[i6 f.x0,i6 f.x1,i6 f.x2,i6 f.x3,i6 f.x4,i6 f.x5,i6 f.x6,i6 f.x7],.agg #[iN R,iN S,iN B,iN M,iN C],iN m] [] [] N0 (λ_=> .bool (pJ f R S B M C m)):=by
 refine fG Tryz.func38 λw cs=>ra (λa=>[(3,pt (B0 a) 0),(4,pt (B1 a) 0),(6,.bool false)]) (λa=>[ob (B0 a) #[i6 f.x0,i6 f.x1,i6 f.x2,i6 f.x3,i6 f.x4,i6 f.x5,i6 f.x6,i6 f.x7] 48,ob (B1 a) #[iN R,iN S,iN B,iN M,iN C] 23]) λa=>r0 [] [(7,i6 256)] [] (r0 [(1,.l 0)] [(10,.bool (f.x0==2))] [] ?_);refine cJ (f.x0==2) (λc=>[(7,i6 (bif c then 2 else 256))]) (λ_=>[ob (B0 a) #[i6 f.x0,i6 f.x1,i6 f.x2,i6 f.x3,i6 f.x4,i6 f.x5,i6 f.x6,i6 f.x7] 48,ob (B1 a) #[iN R,iN S,iN B,iN M,iN C] 23]) (λd=>?_) (λd=>?_) ?_
 ·have b:=eq_of_beq d;refine r0 [] [(7,i6 2)] [7] ?_;exact cm Kr [0,1] Kr
 ·have b:=ne_of_beq_false d;exact cm Kr [0,1] Kr
 exact r0 [(1,.m (ld 0 (i6 f.x0))),(5,.m (ld 0 (i6 f.x0))),(10,.c [] [] (o9 (m:Int))),(13,.m (ls 0 ([i6 f.x0,i6 f.x1,i6 f.x2,i6 f.x3,i6 f.x4,i6 f.x5,i6 f.x6,i6 f.x7]))),(14,.m (ls 0 ([i6 f.x0,i6 f.x1,i6 f.x2,i6 f.x3,i6 f.x4,i6 f.x5,i6 f.x6,i6 f.x7]))),(15,.c [] [] (T6 f)),(16,.e),(19,.m (ls 1 ([iN R,iN S,iN B,iN M,iN C]))),(21,.m (ls 0 ([i6 f.x1,i6 f.x2,i6 f.x3,i6 f.x4]))),(22,.c [] [] (sX R S B M C g f.x1 f.x2 f.x3 f.x4)),(26,.m (ld 0 (i6 f.x6))),(27,.c [] [] (Ay f.x6 576)),(31,.m (ld 0 (i6 f.x5))),(33,.c [] [] (Gw m h)),(34,.c [] [] (Ay f.x5 ((aP (m:Int):Nat):Int))),(38,.m (ld 0 (i6 f.x7))),(40,.c [] [] (Ay f.x7 (bif f.x0==2 then 2 else 256)))] [(6,.bool ((((((((decide (1≤f.x0))&&(decide (f.x0≤7)))&&(((m:Int)==1)||((m:Int)==2)))&&(f.x0==f.x0&&(f.x1==(jx f)&&(f.x2==(jy f)&&(f.x3==(jz f)&&(f.x4==(jA f)&&(f.x5==(jB f)&&(f.x6==(jC f)&&(f.x7==(jD f)&&true)))))))))&&(hold R S B M C f.x1 f.x2 f.x3 f.x4))&&(bL f.x6 576))&&(bL f.x5 ((aP (m:Int):Nat):Int)))&&(bL f.x7 (bif f.x0==2 then 2 else 256))))] [6] (lf ab.zero [] [] [])
theorem T8{P:Program}{T:TypeId}{x y:Operand}{w:World}{yk:IntKind}{a:Nat}(n:Nat)(b:n≤8):(av .shr T x y (.int .u8 (a:Int)) (.int yk (n:Int))).run P w= .ok (.int .u8 ((a/2^n:Nat):Int)) w:=by
 unfold av;simp only[aae,eqGuard_shr,aaf,ZX,binOp_shr,shift_shr_u8 _ _ _ (Int.natCast_nonneg n) Om,Int.toNat_natCast];push_cast;rfl
def oz(xs:List UInt8)(b:Nat):Nat:=(xs.getD (b/8) 0).toNat/2^(b%8)%2
theorem T9(x:UInt8)(n:Nat):x.toNat/2^n<256:=Nat.lt_of_le_of_lt (Nat.div_le_self _ _) x.toNat_lt
theorem Ua(v:Value)(xs:List UInt8)(g:xs.length=72)(b:Int)(h0:0≤b)(h1:b<576):aa Zl 284 #[v,i6 b] [.p (aK eB v xs)] [] N0 (λ_=>iN (oz xs b.toNat)):=by
 exact fO Tryz.func284 0 rfl λd c=>fG Tryz.func284 λw cs=>r0 [] [(4,i6 0)] [] (rF [(1,.t (tk (show Value.bool (decide (b<0))= .bool false from ALca Value.bool (by exact bl Om)))),(4,.t (tv (av .shr 3 (.tmp 8) (.const (u6 3)) (i6 b) (u6 3)) (λ_=>dM (b:=((b.toNat/8:Nat):Int)) (iO 3 Dc) Om))),(6,eP c.1 0),(7,.t (tk (show Value.bool (decide ((xs.length:Int)≤((b.toNat/8:Nat):Int)))= .bool false from ALca Value.bool (by exact bl Om))))] 13 (r0 [(2,.t (tv (av .shr 3 (.tmp 15) (.const (u6 3)) (i6 b) (u6 3)) (λ_=>dM (b:=((b.toNat/8:Nat):Int)) (iO 3 Dc) Om))),(3,fv c.1 0 (b.toNat/8) 1),(4,ji kB c.1 0 (b.toNat/8) 0),(6,.t (tv (av .and 3 (.tmp 19) (.const (i6 7)) (i6 b) (i6 7)) (λ_=>dM (b:=((b.toNat%8:Nat):Int)) (mG _ 3 8 Dc Dc Dc Dc) Om))),(7,.t (tc (k:= .i64) (l:= .u64) (a:=iN (b.toNat%8)) λ_ _ _ e f=>m5 e f Om)),(8,.t (tv (av .shr 5 (.tmp 18) (.tmp 21) (u1 ((xs.getD (b.toNat/8) 0).toNat:Int)) (u6 ((b.toNat%8:Nat):Int))) (λ_=>T8 (b.toNat%8) Om))),(9,.t (tv (convert 5 3 (u1 (((xs.getD (b.toNat/8) 0).toNat/2^(b.toNat%8):Nat):Int))) (λ_=>JW Tryz.underlying5 Tryz.underlying3 (T9 _ _)))),(10,.t (tv (av .and 3 (.tmp 23) (.const (i6 1)) (iN ((xs.getD (b.toNat/8) 0).toNat/2^(b.toNat%8))) (i6 1)) (λ_=>CW)))] [(4,iN (oz xs b.toNat))] [4] (lf ab.zero [] [(0,0)] [])))
theorem Gz(xs:List UInt8)(g:xs.length=72)(b:Int)(h0:0≤b)(h1:b<576):aa Zl 168 #[.agg (rB 72 xs).toArray,i6 b] [] [] N0 (λ_=> .agg (rB 72 (xs.set (b.toNat/8) ((xs.getD (b.toNat/8) 0)^^^(UInt8.ofNat (1*2^(b.toNat%8)))))).toArray):=by
 refine fG Tryz.func168 λw cs=>ra (λc=>[(2,pt (B0 c) 0),(4,pt (B1 c) 0)]) (λc=>[ob (B0 c) (rB 72 xs).toArray 217,ob (B1 c) (rB 72 (Zm 72 0)).toArray 217]) λc=>r0 [] [(10,.bool ((decide (0≤b))&&(decide (b<576))))] [] ?_;have d:((decide (0≤b))&&(decide (b<576)))=true:=by rw[cC Om,cC Om];rfl
 exact cT ((decide (0≤b))&&(decide (b<576))) d (rs [(1,.t (tv (av .shr 3 (.tmp 11) (.const (u6 3)) (i6 b) (u6 3)) (λ_=>dM (b:=((b.toNat/8:Nat):Int)) (iO 3 Dc) Om))),(2,iA 217 .i64 (B0 c) 0 72 1 (b.toNat/8)),(3,rD 0 (B0 c) (b.toNat/8) 217 (rB 72 xs) (nY Om)),(5,.t (tv (av .and 3 (.tmp 15) (.const (i6 7)) (i6 b) (i6 7)) (λ_=>dM (b:=((b.toNat%8:Nat):Int)) (mG _ 3 8 Dc Dc Dc Dc) Om))),(6,.t (tc (k:= .i64) (l:= .u64) (a:=iN (b.toNat%8)) λ_ _ _ e f=>m5 e f Om)),(7,.t (tv (av .shl 5 (.const (u1 1)) (.tmp 17) (u1 1) (u6 ((b.toNat%8:Nat):Int))) (λ_=>vc (a:=1) (b.toNat%8) Om))),(8,.t (tb (a:=u1 ((xs.getD (b.toNat/8) 0).toNat:Int)) (b:=u1 ((UInt8.ofNat (1*2^(b.toNat%8))).toNat:Int)) λ_ _ _ _=>lX (xs.getD (b.toNat/8) 0) ((UInt8.ofNat (1*2^(b.toNat%8)))))),(9,iA 217 .i64 (B0 c) 0 72 1 (b.toNat/8)),(10,wD 0 (B0 c) (b.toNat/8) 217 (u1 (((xs.getD (b.toNat/8) 0)^^^(UInt8.ofNat (1*2^(b.toNat%8)))).toNat:Int)) (rB 72 xs) (rB 72 (xs.set (b.toNat/8) ((xs.getD (b.toNat/8) 0)^^^(UInt8.ofNat (1*2^(b.toNat%8)))))) (j6 Om) (mC g))] 0 (ob (B0 c) (rB 72 (xs.set (b.toNat/8) ((xs.getD (b.toNat/8) 0)^^^(UInt8.ofNat (1*2^(b.toNat%8)))))).toArray 217) (rs [(0,.l 0),(1,.s 1)] 1 (ob (B1 c) (rB 72 (xs.set (b.toNat/8) ((xs.getD (b.toNat/8) 0)^^^(UInt8.ofNat (1*2^(b.toNat%8)))))).toArray 217) (lf ab.zero [] [] [1])))
section
theorem Ub{α:Type}{en:α→List Value}{d:α}{a m:Nat}{ys:List α}{t:TypeId}(h1: ∀x,(en x).length=1)(h:ys.length=m):aK en (.slice (some ⟨a,0,none⟩) m m) ys [(a,.cells ((cN en d m ys).toArray) t (0,0))]:=⟨oZ h1 h,some ⟨a,0,none⟩,0,by rw[h];rfl⟩
theorem Az(m:Int):aP m≤36:=by unfold aP;split<;>(try split)<;>omega
theorem GA(m:Int):dA m≤8:=by unfold dA;split<;>(try split)<;>omega
theorem AA{m:Int}{k:Nat}(c:k≤dA m):aP m*k≤72:=by
 by_cases b:m=1
 ·subst b;have a:k≤8:=c;show 9*k≤72;omega
 ·by_cases a:m=2
  ·subst a;have d:k≤2:=c;show 36*k≤72;omega
  ·unfold aP;rw[ALifn b,ALifn a];omega
theorem GB{m:Int}{xs ys:List UInt8}(o:Nat): ∀k,cp (λi=>cQ m (xs.getD (o+i) 0) (ys.getD (o+i) 0)) k≤8*k
 | 0=>ZB _
 | k+1=>by
  rw[cp];have h:=GB (m:=m) (xs:=xs) (ys:=ys) o k;have a:=O6 m (xs.getD (o+k) 0) (ys.getD (o+k) 0);have b:cQ m (xs.getD (o+k) 0) (ys.getD (o+k) 0)≤8:=by
   split at a<;>omega
  omega
theorem GC{m:Int}{xs ys:List UInt8}(k:Nat):cp (λi=>cQ m (xs.getD i 0) (ys.getD i 0)) k≤8*k:=by
 have h:=GB (m:=m) (xs:=xs) (ys:=ys) 0 k;simpa using h
theorem GD{f g:Nat→Nat}: ∀{n:Nat},(∀i,i<n→f i=g i)→cp f n=cp g n
 | 0,_=>rfl
 | n+1,h=>by rw[cp,cp,GD λi a=>h i (Z3 a),h n (ZK n)]
theorem GF{xs:List UInt8}{o n i:Nat}(h:i<n):((xs.drop o).take n).getD i 0=xs.getD (o+i) 0:=by
 rw[Zo,List.getElem?_take,ALifp h,ZY,Zo]
theorem Uc(a b:UInt8):cQ 1 a b=pc (a^^^b).toNat:=ALifp rfl
theorem Ud{a b:UInt8}(h:((a.toNat:Int) != (b.toNat:Int))=true):cQ 2 a b=1:=by
 unfold cQ;rw[ALifn Dc,ALifn (λe=>by subst e;simp at h)]
theorem Ue{a b:UInt8}(h:((a.toNat:Int) != (b.toNat:Int))=false):cQ 2 a b=0:=by
 unfold cQ;have c:=bne_eq_false_iff_eq.1 h;rw[ALifn Dc,ALifp (UInt8.toNat_inj.1 Om)]
theorem Uf(m:Int)(a b:List UInt8)(k:Nat):((kj m a b (k+1):Nat):Int)=max ((kj m a b k:Nat):Int) ((cp (λi=>cQ m (((a.drop (aP m*k)).take (aP m)).getD i 0) (((b.drop (aP m*k)).take (aP m)).getD i 0)) (aP m):Nat):Int):=by
 rw[show cp (λi=>cQ m (((a.drop (aP m*k)).take (aP m)).getD i 0) (((b.drop (aP m*k)).take (aP m)).getD i 0)) (aP m)=wC m a b k from GD λi c=>by rw[GF c,GF c],kj];omega
theorem Ug(xs ys:List UInt8)(k:Nat):cp (λz=>cQ 1 (xs.getD z 0) (ys.getD z 0)) (k+1)=cp (λz=>cQ 1 (xs.getD z 0) (ys.getD z 0)) k+pc (xs.getD k 0^^^ys.getD k 0).toNat:=by rw[cp,Uc]
theorem Uh(xs ys:List UInt8)(k:Nat):cp (λz=>cQ 2 (xs.getD z 0) (ys.getD z 0)) (k+1)=bif ((xs.getD k 0).toNat:Int) != ((ys.getD k 0).toNat:Int) then cp (λz=>cQ 2 (xs.getD z 0) (ys.getD z 0)) k+1 else cp (λz=>cQ 2 (xs.getD z 0) (ys.getD z 0)) k:=by
 rw[cp];cases h:((xs.getD k 0).toNat:Int) != ((ys.getD k 0).toNat:Int) with
 | true=>rw[Ud h];rfl
 | false=>rw[Ue h];rfl
theorem Ui(b:UInt8):pc b.toNat≤8:=Er b.toNat_lt
theorem GG(f:Nat→Nat):cp f 0=0:=by rw[cp]
theorem GH(m:Nat)(c:m=1∨m=2)(xs:List UInt8)(b:xs.length=72)(q:Nat)(a:q<dA (m:Int)):aa Zl 194 #[.agg (rB 72 xs).toArray,iN m,iN q] [] [] (λE=>[bD (E.val 0) ((xs.drop (aP (m:Int)*q)).take (aP (m:Int)))]) (λE=>E.val 0):=by
 rcases c with rfl | rfl
 ·exact Eb xs b q a
 ·exact Ec xs b q a
attribute [local irreducible] cp kj pc cQ aP dA oz
theorem Uj(v u:Value)(xs ys:List UInt8)(l:ys.length=xs.length)(r:xs.length≤100):aa Zl 226 #[v,u] [.p (aK eB v xs),.p (aK eB u ys)] [] N0 (λ_=>i6 ((cp (λz=>cQ 1 (xs.getD z 0) (ys.getD z 0)) xs.length:Nat):Int)):=by
 refine fO Tryz.func226 0 rfl λg d=>?_;refine fO Tryz.func226 1 rfl λh e=>?_;refine fG Tryz.func226 λw cs=>?_;refine r0 [] [(4,i6 0)] [] (rF [(1,eP d.1 0),(3,eP e.1 1),(4,.t (tk (show Value.bool (decide ((ys.length:Int)<(xs.length:Int)))= .bool false from ALca Value.bool (by exact bl Om))))] 12 (r0 [(1,eP e.1 1),(3,eP d.1 0),(4,.t (tv (av .sub 3 (.tmp 16) (.tmp 18) (iN ys.length) (iN xs.length)) (λ_=>dM (b:=0) (rz Om Om) Om)))] [(5,i6 0)] [] (r0 [(1,eP d.1 0)] [(21,v),(22,iN xs.length),(23,i6 0)] [] ?_)));refine lq (λi=>i≤xs.length) (λi=>[(23,iN i),(5,i6 ((cp (λz=>cQ 1 (xs.getD z 0) (ys.getD z 0)) i:Nat):Int))]) (λ_ L=>L) (λi=>xs.length-i) 0 Om (by rw[GG];kernel_rfl) Kr (λi k=>?_);have o:=GC (m:=1) (xs:=xs) (ys:=ys) i;have n:=Ui (xs.getD i 0^^^ys.getD i 0);have q:=(xs.getD i 0^^^ys.getD i 0).toNat_lt;refine r0 [] [(24,.bool (decide ((i:Int)<(xs.length:Int))))] [] ?_;refine cj (i:Int) (xs.length:Int) (λj f=>?_) λj f=>?_
 ·refine r0 [(1,fv d.1 0 i 1),(2,ji kB d.1 0 i 0)] [(6,iN i),(7,u1 ((xs.getD i 0).toNat:Int))] [] ?_;refine r0 [(4,fv e.1 1 i 1),(5,ji kB e.1 1 i 0),(6,.t (tb (a:=u1 ((xs.getD i 0).toNat:Int)) (b:=u1 ((ys.getD i 0).toNat:Int)) λ_ _ _ _=>lX (xs.getD i 0) (ys.getD i 0))),(7,.c [] [] (C3 (((xs.getD i 0)^^^(ys.getD i 0)).toNat) Om)),(8,ad (cp (λz=>cQ 1 (xs.getD z 0) (ys.getD z 0)) i) (pc (((xs.getD i 0)^^^(ys.getD i 0)).toNat)))] [(5,i6 (((cp (λz=>cQ 1 (xs.getD z 0) (ys.getD z 0)) i)+(pc (((xs.getD i 0)^^^(ys.getD i 0)).toNat)):Nat):Int))] [5] (r0 [(0,ad i 1)] [(23,i6 ((i+1:Nat):Int))] [23] ?_);exact le (i+1) Om Om (by rw[Ug];kernel_rfl) [0,1] Kr
 obtain rfl:i=xs.length:=by omega
 refine lx ?_;exact r0 [] [(4,i6 ((cp (λz=>cQ 1 (xs.getD z 0) (ys.getD z 0)) xs.length:Nat):Int))] [4] (lf ab.zero [] [(0,0),(1,1)] [])
theorem Uk(v u:Value)(xs ys:List UInt8)(f:ys.length=xs.length)(g:xs.length≤100):aa Zl 193 #[i6 1,v,u] [.p (aK eB v xs),.p (aK eB u ys)] [] N0 (λ_=>i6 ((cp (λz=>cQ 1 (xs.getD z 0) (ys.getD z 0)) xs.length:Nat):Int)):=by
 refine fO Tryz.func193 0 rfl λa d=>?_;refine fO Tryz.func193 1 rfl λb e=>?_;refine fG Tryz.func193 λw cs=>?_;exact r0 [] [(6,i6 0)] [] (rT [] 11 (r0 [(2,.c [0,1] [] (aa.at (rd':=[.c a,.c b]) (Uj v u xs ys Om Om) (eD d (eD e (λ_ h=>h)))))] [(6,i6 ((cp (λz=>cQ 1 (xs.getD z 0) (ys.getD z 0)) xs.length:Nat):Int))] [6] (lf ab.zero [] [(0,0),(1,1)] [])))
theorem Ul(v u:Value)(xs ys:List UInt8)(l:ys.length=xs.length)(o:xs.length≤100):aa Zl 193 #[i6 2,v,u] [.p (aK eB v xs),.p (aK eB u ys)] [] N0 (λ_=>i6 ((cp (λz=>cQ 2 (xs.getD z 0) (ys.getD z 0)) xs.length:Nat):Int)):=by
 refine fO Tryz.func193 0 rfl λf b=>?_;refine fO Tryz.func193 1 rfl λg e=>?_;refine fG Tryz.func193 λw cs=>?_;refine r0 [] [(6,i6 0)] [] (rF [] 11 (r0 [] [(7,i6 0)] [] (r0 [(1,eP b.1 0)] [(15,v),(16,iN xs.length),(17,i6 0)] [] ?_)));refine lq (λi=>i≤xs.length) (λi=>[(17,iN i),(7,i6 ((cp (λz=>cQ 2 (xs.getD z 0) (ys.getD z 0)) i:Nat):Int))]) (λ_ L=>L) (λi=>xs.length-i) 0 Om (by rw[GG];kernel_rfl) Kr (λi k=>?_);have n:=GC (m:=2) (xs:=xs) (ys:=ys) i;refine r0 [] [(18,.bool (decide ((i:Int)<(xs.length:Int))))] [] ?_;refine cj (i:Int) (xs.length:Int) (λj h=>?_) λj h=>?_
 ·refine r0 [(1,fv b.1 0 i 1),(2,ji kB b.1 0 i 0)] [(8,iN i),(9,u1 ((xs.getD i 0).toNat:Int))] [] ?_;refine r0 [(3,fv e.1 1 i 1),(4,ji kB e.1 1 i 0)] [(27,.bool (((xs.getD i 0).toNat:Int) != ((ys.getD i 0).toNat:Int)))] [] ?_;refine cJ (((xs.getD i 0).toNat:Int) != ((ys.getD i 0).toNat:Int)) (λc=>[(7,i6 (((bif c then(cp (λz=>cQ 2 (xs.getD z 0) (ys.getD z 0)) i)+1 else cp (λz=>cQ 2 (xs.getD z 0) (ys.getD z 0)) i):Nat):Int))]) (λ_=>[.c f,.c g]) (λa=>?_) (λa=>?_) ?_
  ·have d:=bne_iff_ne.1 a;refine r0 [(1,ad (cp (λz=>cQ 2 (xs.getD z 0) (ys.getD z 0)) i) 1)] [(7,i6 (((cp (λz=>cQ 2 (xs.getD z 0) (ys.getD z 0)) i)+1:Nat):Int))] [7] ?_;exact cm Kr [0,1] Kr
  ·have d:=xT a;exact cm Kr [0,1] Kr
  refine r0 [(0,ad i 1)] [(17,i6 ((i+1:Nat):Int))] [17] ?_;exact le (i+1) Om Om (by rw[Uh];kernel_rfl) [0,1] Kr
 obtain rfl:i=xs.length:=by omega
 refine lx ?_;exact r0 [] [(6,i6 ((cp (λz=>cQ 2 (xs.getD z 0) (ys.getD z 0)) xs.length:Nat):Int))] [6] (lf ab.zero [] [(0,0),(1,1)] [])
theorem Um(m:Nat)(c:m=1∨m=2)(v u:Value)(xs ys:List UInt8)(n:Nat)(d:xs.length=n)(b:ys.length=n)(a:n≤100):aa Zl 193 #[iN m,v,u] [.p (aK eB v xs),.p (aK eB u ys)] [] N0 (λ_=>i6 ((cp (λi=>cQ (m:Int) (xs.getD i 0) (ys.getD i 0)) n:Nat):Int)):=by
 subst d;rcases c with rfl | rfl
 ·exact Uk v u xs ys b a
 ·exact Ul v u xs ys b a
theorem GI{xs:List UInt8}{m:Int}{k:Nat}(b:xs.length=72)(a:k<dA m):((xs.drop (aP m*k)).take (aP m)).length=aP m:=by
 have h:=AA (m:=m) (k:=k+1) a;rw[aag] at h;rw[Zq,Zx];omega
theorem GJ(m:Nat)(hm:m=1∨m=2)(a b:List UInt8)(ha:a.length=72)(hb:b.length=72):aa Zl 149 #[iN m,.agg (rB 72 a).toArray,.agg (rB 72 b).toArray] [] [] N0 (λ_=>i6 ((c7 (m:Int) a b:Nat):Int)):=by
 refine fG Tryz.func149 λw cs=>?_
 refine ra (λq1=>[(4,pt (B0 q1) 0),(5,pt (B1 q1) 0),(6,i6 0)]) (λq1=>[ob (B0 q1) (rB 72 a).toArray 217,ob (B1 q1) (rB 72 b).toArray 217]) λq1=>r0 [] [(7,i6 0)] [] (r0 [(1,.c [] [] (Gx m hm))] [(10,i6 ((dA (m:Int):Nat):Int)),(11,i6 0)] [] ?_)
 refine lq (λk=>k≤(dA (m:Int))) (λk=>[(11,iN k),(7,i6 ((kj (m:Int) a b k:Nat):Int))]) (λ_ L=>L) (λk=>(dA (m:Int))-k) 0 Om (by rw[kj];kernel_rfl) Kr (λk hk4=>?_)
 have hw8:=GA (m:Int)
 refine r0 [] [(12,.bool (decide ((k:Int)<((dA (m:Int):Nat):Int))))] [] ?_
 refine cj (k:Int) ((dA (m:Int):Nat):Int) (λh6 dh6=>?_) λh6 dh6=>?_
 ·have HLA:=GI (m:=(m:Int)) (k:=k) ha Om
  have HLB:=GI (m:=(m:Int)) (k:=k) hb Om
  have HLC:aP (m:Int)≤100:=Zu (Az _) Dc
  refine r0 [] [(8,iN k)] [] (rr (λq8=>[(2,.m (ls 0 (rB 72 a))),(5,.c [] [2] (GH m hm a (by(simp only[LL,ha,hb,ha,hb];done)) k Om)),(6,.m (ls 1 (rB 72 b))),(9,.c [] [3] (GH m hm b (by(simp only[LL,ha,hb,ha,hb];done)) k Om)),(10,.c [2,3] [] (aa.at (rd':=[bD ((q8 5).val 0) ((a.drop (aP (m:Int)*k)).take (aP (m:Int))),bD ((q8 9).val 0) ((b.drop (aP (m:Int)*k)).take (aP (m:Int)))]) (Um m hm ((q8 5).val 0) ((q8 9).val 0) ((a.drop (aP (m:Int)*k)).take (aP (m:Int))) ((b.drop (aP (m:Int)*k)).take (aP (m:Int))) (aP (m:Int)) HLA HLB HLC) (bO (λ_ h=>ar.sq h) (bO (λ_ h=>ar.sq h) (λ_ h=>h))))),(11,.t (tv (Builtin.max_ #[3,3] 3 #[i6 ((kj (m:Int) a b k:Nat):Int),i6 ((cp (λz=>cQ (m:Int) (((a.drop (aP (m:Int)*k)).take (aP (m:Int))).getD z 0) (((b.drop (aP (m:Int)*k)).take (aP (m:Int))).getD z 0)) (aP (m:Int)):Nat):Int)]) (λ_=>r9 _ _ _ _)))]) (λ_=>[(7,i6 (max ((kj (m:Int) a b k:Nat):Int) ((cp (λz=>cQ (m:Int) (((a.drop (aP (m:Int)*k)).take (aP (m:Int))).getD z 0) (((b.drop (aP (m:Int)*k)).take (aP (m:Int))).getD z 0)) (aP (m:Int)):Nat):Int)))]) [7] (λq8 L=>L++[bD ((q8 5).val 0) ((a.drop (aP (m:Int)*k)).take (aP (m:Int))),bD ((q8 9).val 0) ((b.drop (aP (m:Int)*k)).take (aP (m:Int)))]) λq8=>r0 [(0,ad k 1)] [(11,i6 ((k+1:Nat):Int))] [11] ?_)
  exact le (k+1) Om Om (by rw[Uf];kernel_rfl) [0,1] Kr
 obtain rfl:k=(dA (m:Int)):=by omega
 refine lx ?_
 refine r0 [] [(6,i6 ((kj (m:Int) a b (dA (m:Int)):Nat):Int))] [6] ?_
 exact ao (i6 ((kj (m:Int) a b (dA (m:Int)):Nat):Int)) ab.zero bc [] [] []
end
section
attribute [local irreducible] aP dA oz
theorem Un(e f c m:Nat)(i:m=1∨m=2)(D:c<aP (m:Int)):ft 5 Zl 288 #[pt e 0,pt f 0] (λ(x:Nat)=>#[iN x]) ((ZH (dA (m:Int))).map λk=>aP (m:Int)*k+c) (aac [[(e,.cells #[iN m] 3 (0,0))],[(f,.cells #[iN c] 3 (0,0))]]):=by
 have r:=Az (m:Int);have t:=GA (m:Int);refine gi (KO:=[[(e,.cells #[iN m] 3 (0,0))],[(f,.cells #[iN c] 3 (0,0))]]) Tryz.func288 (λu y w C A h q p=>?_);refine r0 [(0,.l 0),(1,.c [] [] (Gw m i))] [(4,iN (aP (m:Int)))] [] (r0 [(0,.l 1),(3,.l 1)] [(14,.bool ((decide ((c:Int)<0))||(decide (((aP (m:Int):Nat):Int)≤(c:Int)))))] [] ?_);have o:((decide ((c:Int)<0))||(decide (((aP (m:Int):Nat):Int)≤(c:Int))))=false:=by rw[bl Om,bl Om];rfl
 refine cF ((decide ((c:Int)<0))||(decide (((aP (m:Int):Nat):Int)≤(c:Int)))) o (r0 [(0,.l 0),(1,.c [] [] (Gx m i))] [(16,iN (dA (m:Int))),(17,i6 0)] [] ?_);refine j9 (λk=>k≤(dA (m:Int))) (λk=>[(17,iN k)]) (λ_ L=>L) (λk=>(dA (m:Int))-k) (λk=>k) 0 Om p Kr Kr (λk z B s d=>?_);have vF:=AA (m:=(m:Int)) (k:=k) Om;refine r0 [] [(18,.bool (decide ((k:Int)<((dA (m:Int):Nat):Int))))] [] ?_;refine cj (k:Int) ((dA (m:Int):Nat):Int) (λg a=>?_) λg a=>?_
 ·refine r0 [] [(5,iN k)] [] ?_;refine iy h q d 6 (λ_=>[(3,ml (aP (m:Int)) k),(4,.l 1),(5,ad ((aP (m:Int))*k) c)]) (λ_=>[(20,.func (.yield u) #[] #[]),(25,iN (((aP (m:Int))*k)+c))]) [] (λ_ L=>L) N0 [0,1] (oN Om) (λv j n b=>?_);refine cF _ rfl (r0 [(0,ad k 1)] [(17,iN (k+1))] [17] ?_);exact iR (k+1) Om b Om Kr [0,1] Kr
 refine ka ?_;exact k7 h d (by(rw[Zw,ZI];omega)) [] [0,1]
theorem Uo(m c:Nat):aa Zl 285 #[iN m,iN c] [] [] (λE=>[ob (E.y 0) #[iN m] 3,ob (E.y 1) #[iN c] 3]) (λE=> .func (.func 288) #[] #[pt ((E.y 0)) 0,pt ((E.y 1)) 0]):=by
 exact fG Tryz.func285 λw cs=>ra (λa=>[(2,pt (B0 a) 0),(3,pt (B1 a) 0),(4,.nilFunc)]) (λa=>[ob (B0 a) #[iN m] 3,ob (B1 a) #[iN c] 3]) λa=>r0 [] [(4,.func (.func 288) #[] #[pt (B0 a) 0,pt (B1 a) 0])] [4] (lf (.l [(a 0).y 0,(a 1).y 0] [] []) [0,1] [] [])
def gT(n c:Nat)(v:UInt8)(xs:List UInt8):Nat→List UInt8
 | 0=>xs
 | k+1=>(gT n c v xs k).set (n*k+c) v
theorem wA(n c:Nat)(v:UInt8)(xs:List UInt8): ∀k,(gT n c v xs k).length=xs.length
 | 0=>rfl
 | k+1=>by rw[gT,Zv,wA]
theorem Up(n c:Nat)(v:UInt8)(xs:List UInt8):gT n c v xs 0=xs:=rfl
theorem Uq(n c k:Nat)(v:UInt8)(xs:List UInt8):gT n c v xs (k+1)=(gT n c v xs k).set (n*k+c) v:=rfl
def nD(xs:List UInt8)(b v:Int):List UInt8:=bif (!(((oz xs b.toNat:Nat):Int)==v%2)) then xs.set (b.toNat/8) (xs.getD (b.toNat/8) 0^^^UInt8.ofNat (1*2^(b.toNat%8))) else xs
theorem Ur(xs:List UInt8)(b v:Int):(nD xs b v).length=xs.length:=by
 unfold nD;cases (!(((oz xs b.toNat:Nat):Int)==v%2))
 ·rfl
 ·exact Zv
attribute [local irreducible] gT
theorem Us(xs:List UInt8)(g:xs.length=72)(b v:Int)(h0:0≤b)(h1:b<576):aa Zl 271 #[.agg (rB 72 xs).toArray,i6 b,i6 v] [] [] N0 (λ_=> .agg (rB 72 (nD xs b v)).toArray):=by
 refine fG Tryz.func271 λw cs=>ra (λa=>[(3,pt (B0 a) 0),(6,pt (B1 a) 0)]) (λa=>[ob (B0 a) (rB 72 xs).toArray 217,ob (B1 a) (rB 72 (Zm 72 0)).toArray 217]) λa=>r0 [(0,aS 217 (B0 a) 72 1),(2,.c [0] [] (aa.at (rd':=[ob (B0 a) (rB 72 xs).toArray 217]) (Ua (.slice (some ⟨(a 0).y 0,0,none⟩) 72 72) xs (by(simp only[LL,g];done)) b Om Om) (eD (Ub (d:=0) (λ_=>rfl) g) (λ_ h=>h)))),(4,.t (tv (av .and 3 (.tmp 10) (.const (i6 1)) (i6 v) (i6 1)) (λ_=>mG _ 1 2 Dc Dc Dc Dc)))] [(12,.bool (((oz xs b.toNat:Nat):Int) != (v%2)))] [] ?_;refine m9 ((oz xs b.toNat:Nat):Int) (v%2) (λf e=>?_) λf e=>?_
 ·exact rr (λ_=>[(0,.l 0),(2,.c [] [] (Gz xs (by(simp only[LL,g];done)) b Om Om)),(3,.s 1)]) N0 [] (λ_ L=>L.set 1 (ob (B1 a) (rB 72 (xs.set (b.toNat/8) ((xs.getD (b.toNat/8) 0)^^^(UInt8.ofNat (1*2^(b.toNat%8)))))).toArray 217)) λi=>ao (.agg (rB 72 (xs.set (b.toNat/8) ((xs.getD (b.toNat/8) 0)^^^(UInt8.ofNat (1*2^(b.toNat%8)))))).toArray) ab.zero (by unfold nD;(repeat (first | rw[f] | rw[ALct]))) [] [] [1]
 exact rs [(0,.l 0),(1,.s 1)] 1 (ob (B1 a) (rB 72 xs).toArray 217) (ao (.agg (rB 72 xs).toArray) ab.zero (by unfold nD;(repeat (first | rw[f] | rw[ALcf]))) [] [] [1])
theorem Ut(xs:List UInt8)(f:xs.length=72)(c m:Nat)(o:m=1∨m=2)(i:c<aP (m:Int))(v:UInt8):aa Zl 272 #[.agg (rB 72 xs).toArray,iN m,iN c,u1 (v.toNat:Int)] [] [] N0 (λ_=> .agg (rB 72 (gT (aP (m:Int)) c v xs (dA (m:Int)))).toArray):=by
 have n:=Az (m:Int);have d:=f;refine fG Tryz.func272 λw cs=>ra (λa=>[(4,pt (B0 a) 0),(7,pt (B1 a) 0),(8,pt (B2 a) 0)]) (λa=>[ob (B0 a) (rB 72 xs).toArray 217,ob (B1 a) #[u1 (v.toNat:Int)] 5,ob (B2 a) (rB 72 (Zm 72 0)).toArray 217]) λa=>rr (λ_=>[(2,.c [] [3,4] (Uo m c))]) (λb=>[(12,.func (.func 288) #[] #[pt ((B2 b)) 0,pt (((b 2).y 1)) 0])]) [] (λb L=>L++[ob (B2 b) #[iN m] 3,ob ((b 2).y 1) #[iN c] 3]) λb=>?_;refine oX (encs:=λ(x:Nat)=>#[iN x]) (xs:=(ZH (dA (m:Int))).map λk=>aP (m:Int)*k+c) (KO:=[[((B2 b),.cells #[iN m] 3 (0,0))],[(((b 2).y 1),.cells #[iN c] 3 (0,0))]]) (Un (B2 b) ((b 2).y 1) c m o i) (enters_of Tryz.func288 Kr rfl) (λk=>k≤dA (m:Int)) (λk L=>L.set 0 (ob (B0 a) (rB 72 (gT (aP (m:Int)) c v xs k)).toArray 217)) [3,4] Om (by rw[Up];kernel_rfl) (λy k z q t g e=>?_) (λp e=>?_)
 ·obtain⟨h,rfl⟩:=nW g;have d:=(wA (aP (m:Int)) c v xs k).trans f;have vF:=AA (m:=(m:Int)) (k:=k+1) Om;have j:aP (m:Int)*(k+1)=aP (m:Int)*k+aP (m:Int):=aag _ _;refine r0 [] [(9,iN (aP (m:Int)*k+c))] [] ?_;refine ag [3,4] (λr u=>?_);exact rs [(1,.l 1),(2,iA 217 .i64 (B0 a) 0 72 1 (aP (m:Int)*k+c)),(3,wD 0 (B0 a) (aP (m:Int)*k+c) 217 (u1 (v.toNat:Int)) (rB 72 (gT (aP (m:Int)) c v xs k)) (rB 72 ((gT (aP (m:Int)) c v xs k).set (aP (m:Int)*k+c) v)) (j6 Om) (mC (show(gT (aP (m:Int)) c v xs k).length=72 by(simp only[LL,f,d,f];done))))] 0 (ob (B0 a) (rB 72 ((gT (aP (m:Int)) c v xs k).set (aP (m:Int)*k+c) v)).toArray 217) (ne _ ⟨Om,rfl⟩ [0,1,2,3,4] (by rw[Uq];kernel_rfl))
 refine cl [ob (B0 a) (rB 72 (gT (aP (m:Int)) c v xs (dA (m:Int)))).toArray 217,ob (B1 a) #[u1 (v.toNat:Int)] 5,ob (B2 a) (rB 72 (Zm 72 0)).toArray 217,ob (B2 b) #[iN m] 3,ob ((b 2).y 1) #[iN c] 3] (by rw[Zw,ZI];kernel_rfl) ?_;simp only[Zw,ZI] at e;have d:=(wA (aP (m:Int)) c v xs (dA (m:Int))).trans f;exact rs [(0,.l 0),(1,.s 2)] 2 (ob (B2 a) (rB 72 (gT (aP (m:Int)) c v xs (dA (m:Int)))).toArray 217) (lf ab.zero [] [] [2])
end
section
structure mT (c:Cf) (f:Fa):Prop where
 ok:pJ f c.R c.S c.B c.M c.C c.E=true
section
variable {c:Cf} {f:Fa}
theorem mT.all(h:mT c f):hold c.R c.S c.B c.M c.C f.x1 f.x2 f.x3 f.x4=true∧(0≤f.x6∧f.x6<576)∧(0≤f.x5∧f.x5<((aP (c.E:Int):Nat):Int)):=by
 have a:=h.ok;unfold pJ at a;simp only[Zt] at a;exact⟨a.1.1.1.2,mc.1 a.1.1.2,mc.1 a.1.2⟩
end
theorem Uu(xs:List UInt8)(d:xs.length=72)(c:Int)(m:Nat)(b:m=1∨m=2)(a:0≤c∧c<((aP (m:Int):Nat):Int))(v:UInt8):aa Zl 272 #[.agg (rB 72 xs).toArray,iN m,i6 c,u1 (v.toNat:Int)] [] [] N0 (λ_=> .agg (rB 72 (gT (aP (m:Int)) c.toNat v xs (dA (m:Int)))).toArray):=by
 obtain⟨n,rfl⟩:=Int.eq_ofNat_of_zero_le a.1;exact Ut xs d n m b Om v
def mU(m:Nat)(a b d e:Int)(xs:List UInt8)(f:Fa):List UInt8:=bif ((!(kP f))||(!(mn f a b d e))) then xs else(bif (f.x0==2) then nD xs f.x6 f.x7 else gT (aP (m:Int)) f.x5.toNat (aQ f.x7) xs (dA (m:Int)))
theorem GK(m:Nat)(a b d e:Int)(xs:List UInt8)(f:Fa):(mU m a b d e xs f).length=xs.length:=by
 unfold mU;cases ((!(kP f))||(!(mn f a b d e)))
 ·cases (f.x0==2)
  ·exact wA ..
  ·exact Ur ..
 ·rfl
def jZ(m:Nat)(a b d e:Int)(xs:List UInt8)(l:List Fa):List UInt8:=l.foldl (mU m a b d e) xs
theorem wB(m:Nat)(a b d e:Int): ∀(l:List Fa) (xs:List UInt8),(jZ m a b d e xs l).length=xs.length
 | [],_=>rfl
 | f::l,xs=>(wB m a b d e l _).trans (GK ..)
theorem Uv{m:Nat}{a b d e:Int}{xs:List UInt8}{l:List Fa}{i:Nat}(h:i<l.length):jZ m a b d e xs (l.take (i+1))=mU m a b d e (jZ m a b d e xs (l.take i)) (l.getD i b7):=Ar h
attribute [local irreducible] mn kP aP dA gT nD hold dR
theorem Uw(c:Cf)(f:Fa)(p:mT c f)(z:c.E=1∨c.E=2)(e g h i:Int)(xs:List UInt8)(m:xs.length=72):aa Zl 252 #[.agg #[i6 f.x0,i6 f.x1,i6 f.x2,i6 f.x3,i6 f.x4,i6 f.x5,i6 f.x6,i6 f.x7],iN c.E,.agg #[i6 e,i6 g,i6 h,i6 i],.agg (rB 72 xs).toArray] [] [] N0 (λ_=> .agg (rB 72 (mU c.E e g h i xs f)).toArray):=by
 have d:=p.all;have x:=d.2.1.1;have y:=d.2.1.2;have q:=d.2.2;have r:=z;refine fG Tryz.func252 λw cs=>ra (λb=>[(4,pt (B0 b) 0),(6,pt (B1 b) 0),(7,pt (B2 b) 0),(8,pt (B3 b) 0)]) (λb=>[ob (B0 b) #[i6 f.x0,i6 f.x1,i6 f.x2,i6 f.x3,i6 f.x4,i6 f.x5,i6 f.x6,i6 f.x7] 48,ob (B1 b) #[i6 e,i6 g,i6 h,i6 i] 46,ob (B2 b) (rB 72 xs).toArray 217,ob (B3 b) (rB 72 (Zm 72 0)).toArray 217]) λb=>r0 [(0,.l 0),(1,.c [] [] (Gy f)),(4,.l 0),(5,.l 1),(6,.c [] [] (T5 f e g h i))] [(9,.bool ((!(kP f))||(!(mn f e g h i))))] [] ?_;refine cB ((!(kP f))||(!(mn f e g h i))) (λj=>?_) λj=>?_
 ·exact rr (λ_=>[(0,.l 2),(1,.s 3)]) N0 [] (λ_ L=>L.set 3 (ob (B3 b) (rB 72 xs).toArray 217)) λA=>ao (.agg (rB 72 xs).toArray) ab.zero (by unfold mU;(repeat (first | rw[j] | rw[ALct]))) [] [] [3]
 refine r0 [(1,.l 0)] [(20,.bool (f.x0==2))] [] ?_;refine cX f.x0 2 (λo n=>?_) λo n=>?_
 ·exact rr (λ_=>[(0,.l 2),(2,.l 0),(4,.l 0),(5,.c [] [] (Us xs (by(simp only[LL,m,m];done)) f.x6 f.x7 Om Om)),(6,.s 3)]) N0 [] (λ_ L=>L.set 3 (ob (B3 b) (rB 72 (nD xs f.x6 f.x7)).toArray 217)) λB=>ao (.agg (rB 72 (nD xs f.x6 f.x7)).toArray) ab.zero (by unfold mU;(repeat (first | rw[j] | rw[o] | rw[ALct] | rw[ALcf]))) [] [] [3]
 exact rs [(0,.l 2),(3,.l 0),(5,.l 0),(6,.t (tc (k:= .i64) (l:= .u8) (a:=i6 f.x7) λ_ _ _ u v=>oH u v)),(7,.c [] [] (Uu xs (by(simp only[LL,m,m];done)) f.x5 c.E r q (aQ f.x7))),(8,.s 3)] 3 (ob (B3 b) (rB 72 (gT (aP (c.E:Int)) (f.x5).toNat (aQ f.x7) xs (dA (c.E:Int)))).toArray 217) (ao (.agg (rB 72 (gT (aP (c.E:Int)) (f.x5).toNat (aQ f.x7) xs (dA (c.E:Int)))).toArray) ab.zero (by unfold mU;(repeat (first | rw[j] | rw[o] | rw[ALcf]))) [] [] [3])
attribute [local irreducible] mU
theorem Ux(c:Cf)(z:c.E=1∨c.E=2)(v:Value)(l:List Fa)(y:l.length≤1000)(r: ∀f∈l,mT c f)(a b d e:Int)(xs:List UInt8)(j:xs.length=72):aa Zl 225 #[v,iN c.E,.agg #[i6 a,i6 b,i6 d,i6 e],.agg (rB 72 xs).toArray] [.p (aK pI v l)] [] N0 (λ_=> .agg (rB 72 (jZ c.E a b d e xs l)).toArray):=by
 refine fO Tryz.func225 0 rfl λo i=>fG Tryz.func225 λw cs=>ra (λg=>[(6,pt (B0 g) 0),(7,pt (B1 g) 0),(8,pt (B2 g) 0)]) (λg=>[ob (B0 g) #[i6 a,i6 b,i6 d,i6 e] 46,ob (B1 g) (rB 72 xs).toArray 217,ob (B2 g) (rB 72 (Zm 72 0)).toArray 217]) λg=>r0 [(1,eP i.1 0)] [(11,v),(12,iN l.length),(13,i6 0)] [] ?_;refine lq (λk=>k≤l.length) (λk=>[(13,iN k)]) (λk L=>L.set 2 (ob (B1 g) (rB 72 (jZ c.E a b d e xs (l.take k))).toArray 217)) (λk=>l.length-k) 0 Om Kr (by rw[ZP];kernel_rfl) (λk x=>?_);have h:=(wB c.E a b d e (l.take k) xs).trans j;refine r0 [] [(14,.bool (decide ((k:Int)<(l.length:Int))))] [] ?_;refine cj (k:Int) (l.length:Int) (λu q=>?_) λu q=>?_
 ·refine rr (λ_=>[(0,fv i.1 0 k 8),(1,nb mj i.1 0 k 0 8),(3,.s 4)]) (λm=>[(10,pt (B2 m) 0)]) [] (λm L=>L++[ob (B2 m) #[i6 ((l.getD k b7).x0),i6 ((l.getD k b7).x1),i6 ((l.getD k b7).x2),i6 ((l.getD k b7).x3),i6 ((l.getD k b7).x4),i6 ((l.getD k b7).x5),i6 ((l.getD k b7).x6),i6 ((l.getD k b7).x7)] 48]) λm=>?_;have n:=(ow b7).2 r k Om;have t:=(GK c.E a b d e (jZ c.E a b d e xs (l.take k)) (l.getD k b7)).trans h;exact rs [(0,.l 4),(2,.l 1),(3,.l 2),(4,.c [] [] (Uw c (l.getD k b7) n z a b d e (jZ c.E a b d e xs (l.take k)) (by(simp only[LL,j,h,t,j];done)))),(5,.s 2)] 2 (ob (B1 g) (rB 72 (mU c.E a b d e (jZ c.E a b d e xs (l.take k)) (l.getD k b7))).toArray 217) (r0 [(0,ad k 1)] [(13,iN (k+1))] [13] (le (k+1) Om Om Kr [0,1,2,3] (by rw[Uv Om];kernel_rfl)))
 obtain rfl:k=l.length:=by omega
 refine cl [.c o,ob (B0 g) #[i6 a,i6 b,i6 d,i6 e] 46,ob (B1 g) (rB 72 (jZ c.E a b d e xs l)).toArray 217,ob (B2 g) (rB 72 (Zm 72 0)).toArray 217] (by rw[Z6];kernel_rfl) (lx ?_);have h:=(wB c.E a b d e l xs).trans j;exact rs [(0,.l 2),(1,.s 3)] 3 (ob (B2 g) (rB 72 (jZ c.E a b d e xs l)).toArray 217) (lf ab.zero [] [(0,0)] [3])
end
theorem GL(c:Cf)(b:cG c.R c.S c.B c.M c.C)(a p1 p2 p3:Int)(d:hold c.R c.S c.B c.M c.C a p1 p2 p3=true):aa Zl 147 #[.agg #[iN c.R,iN c.S,iN c.B,iN c.M,iN c.C],.agg #[i6 a,i6 p1,i6 p2,i6 p3]] [] [] N0 (λ_=> .tuple #[i6 (dR a p1 p2 p3),i6 0]):=by
 have h:=E7 c.R c.S c.B c.M c.C b a p1 p2 p3;unfold sY sZ at h;rw[d] at h;exact h
theorem AB(c:Cf)(b:cG c.R c.S c.B c.M c.C)(i:Int)(a:gx c.R c.S c.B c.M c.C i=true):aa Zl 68 #[.agg #[iN c.R,iN c.S,iN c.B,iN c.M,iN c.C],i6 i] [] [] N0 (λ_=> .tuple #[.agg #[i6 (i/1048576),i6 (i/65536%16),i6 (i/64%1024),i6 (i%64)],i6 0]):=by
 have h:=E8 c.R c.S c.B c.M c.C b i;unfold s0 s4 s5 s6 s7 at h;unfold gx at a;rw[Bool.not_eq_true'] at a;rw[a] at h;exact h
theorem Uy{i:Nat}{w:World}{α:Type}{en:α→List Value}{v:Value}{xs:List α}{bs:ay}(h:aK en v xs bs):(av .eql 93 (.tmp i) (.const (.slice none 0 0)) v (.slice none 0 0)).run Zl w= .ok (.bool (o5 v)) w:=by
 obtain⟨a,r,rfl⟩:=h.2;cases a<;>kernel_rfl
theorem Uz(v:Value)(xs:List Fa)(f:xs.length≤1000):aa Zl 70 #[v] [.p (aK pI v xs)] [] (λE=>[dw (E.val 0) xs]) (λE=>(E.val 0)):=by
 refine fO Tryz.func70 0 rfl λd a=>fG Tryz.func70 λw cs=>r0 [] [(2,.slice none 0 0)] [] (r0 [(1,.t (tv (av .eql 93 (.tmp 3) (.const (.slice none 0 0)) (v) (.slice none 0 0)) (λ_=>Uy a)))] [(4,.bool (o5 v))] [] ?_);refine cB (o5 v) (λe=>?_) λe=>?_
 ·exact r0 [] [(2,.slice none 0 0)] [2] (cz mj (lf (.l [] [] [.slice none 0 0]) [1] [(0,0)] [] (hf:=by(try rewrite [vu a As]);kernel_rfl)))
 exact rr (λb=>[(0,.m (sd 1 pI ([i6 0,i6 0,i6 0,i6 0,i6 0,i6 0,i6 0,i6 0]) 48)),(2,.m (mD 1 0 mj.hT (.slice (some ⟨(b 0).y 0,0,none⟩) 0 0) (v) (xs:=[]) (ys:=xs) (.c d) (cP a.1) mj.one mj.lz (by simp only[LL];omega)))]) (λb=>[(2,(b 2).val 0)]) [2] (λb L=>L++[dw ((b 2).val 0) (([])++xs)]) λb=>lf (.l [] [] [(b 2).val 0]) [1] [(0,0)] [] (hf:=by(try rewrite [vu a As]);kernel_rfl)
theorem UA(v:Value)(xs:List Fa)(l:Nat)(a:l≤xs.length)(b:xs.length≤1000):aa Zl 70 #[gY v l xs.length 8] [.p (aK pI v xs)] [] (λE=>[dw (E.val 0) (xs.drop l)]) (λE=>E.val 0):=
 aa.at (Uz (gY v l xs.length 8) (xs.drop l) (by rw[Zx];omega)) (bO (λ_ h=>aK.drop (en:=pI) (k:=8) (λ_=>rfl) h a) λ_ h=>h)
def kp(xs:List Fa):Int:=(bif decide (256≤(xs.length:Int)) then 14 else 0)
def jE(xs:List Fa)(f:Fa):List Fa:=(bif decide (256≤(xs.length:Int)) then xs else xs++([f]))
theorem GN(v:Value)(xs:List Fa)(f:Fa):aa Zl 170 #[v,.agg #[i6 f.x0,i6 f.x1,i6 f.x2,i6 f.x3,i6 f.x4,i6 f.x5,i6 f.x6,i6 f.x7]] [dw v xs] [0] (λE=>[dw (E.val 0) (jE xs f)]) (λE=> .tuple #[(E.val 0),i6 (kp xs)]):=by
 refine fG Tryz.func170 λw cs=>ra (λc=>[(3,pt (B0 c) 0),(4,.slice none 0 0),(5,i6 0)]) (λc=>[ob (B0 c) #[i6 f.x0,i6 f.x1,i6 f.x2,i6 f.x3,i6 f.x4,i6 f.x5,i6 f.x6,i6 f.x7] 48]) λc=>r0 [(1,fu mj v xs 0)] [(8,.bool (decide (256≤(xs.length:Int))))] [] ?_;refine oV 256 (xs.length:Int) (λb d=>?_) λb d=>?_
 ·exact r0 [] [(4,v),(5,i6 14)] [4,5] (ao (.tuple #[v,i6 14]) (.l [] [] [v]) (by((try simp only[kp,jE]);(repeat (first | rw[b] | rw[ALct])))<;>rfl) [0] [] [] (hf:=by(try simp only[kp,jE]);(repeat (first | rw[b] | rw[ALct]));kernel_rfl))
 exact rr (λ_=>[(1,.l 1),(2,.m (bs 2 1)),(3,fC mj (v) xs 0 2 ([f]))]) (λa=>[(4,(a 3).val 0),(5,i6 0)]) [4,5] (λa L=>L.set 0 (dw ((a 3).val 0) (xs++([f])))++[ob (B2 a) #[i6 f.x0,i6 f.x1,i6 f.x2,i6 f.x3,i6 f.x4,i6 f.x5,i6 f.x6,i6 f.x7] 48]) λa=>ao (.tuple #[(a 3).val 0,i6 0]) (.l [] [] [(a 3).val 0]) (by((try simp only[kp,jE]);(repeat (first | rw[b] | rw[ALcf])))<;>rfl) [0] [] [] (hf:=by(try simp only[kp,jE]);(repeat (first | rw[b] | rw[ALcf]));kernel_rfl)
structure Dr where
 cells:Int→List UInt8
 Y:List Fa
 J:List Fa
def lG:List UInt8:=Zm 72 0
def qP(r:List UInt8):Value:= .agg (rB 72 r).toArray
abbrev eU(f:Int→List UInt8)(g:Nat):aB:= .p (l0 qP lG f g)
abbrev gy(g:Nat)(c:Cf)(D:Dr)(L:aj):Prop:=∃(gm:Nat) (a b:Value),L=[ob g #[iN c.R,iN c.S,iN c.B,iN c.M,iN c.C,iN c.E,.map (some gm),a,b] 162,eU D.cells gm,dw a D.Y,dw b D.J]
structure iK (c:Cf) (D:Dr):Prop where
 cl: ∀k,(D.cells k).length=72
 l1:D.Y.length≤256
 l2:D.J.length≤256
 f1: ∀f∈D.Y,mT c f
 f2: ∀f∈D.J,mT c f
def tx:Dr:=⟨λ_=>lG,[],[]⟩
theorem UB(c:Cf):iK c tx:=⟨λ_=>Zs,Zz _,Zz _,λf h=>absurd h ZC,λf h=>absurd h ZC⟩
def aT(D:Dr)(i:Int):Int:=bif (D.J.length:Int)==0 then i else bif (D.J.getD 0 b7).x0==7 then i else dR (D.J.getD 0 b7).x1 (D.J.getD 0 b7).x2 (D.J.getD 0 b7).x3 (D.J.getD 0 b7).x4
def cq(D:Dr):Bool:=bif (D.J.length:Int)==0 then false else(D.J.getD 0 b7).x0==7
def et(D:Dr):Dr:={D with J:=D.J.drop 1}
theorem AD{α:Type}{l:List α}(h:(l.length:Int)=0):l.drop 1=l:=by
 have e:l=[]:=List.length_eq_zero_iff.1 Om;subst e;rfl
theorem tz{c:Cf}{D:Dr}(h:iK c D):iK c (et D):=⟨h.cl,h.l1,by show(D.J.drop 1).length≤256;rw[Zx];have:=h.l2;omega,h.f1,λf a=>h.f2 f (List.mem_of_mem_drop a)⟩
theorem GO{c:Cf}{l:List Fa}(h: ∀f∈l,mT c f)(a:(l.length:Int)≠0):mT c (l.getD 0 b7):=(ow b7).2 h 0 Om
theorem UC(c:Cf)(b:b6 c):aa Zl 112 #[.agg #[iN c.R,iN c.S,iN c.B,iN c.M,iN c.C],iN c.E] [] [] (λE=>[ob (E.y 0) #[iN c.R,iN c.S,iN c.B,iN c.M,iN c.C,iN c.E,.map (some (E.y 1)),.slice none 0 0,.slice none 0 0] 162,eU (λ_=>lG) (E.y 1)]) (λE=> .tuple #[pt ((E.y 0)) 0,i6 0]):=by
 have g:=b.ly.O;have h:=b.E;refine fG Tryz.func112 λw cs=>ra (λd=>[(2,pt (B0 d) 0),(4,.pointer none),(5,i6 0)]) (λd=>[ob (B0 d) #[iN c.R,iN c.S,iN c.B,iN c.M,iN c.C] 23]) λd=>rF [(0,.l 0),(1,.c [] [] (vP c.R c.S c.B c.M c.C g))] 6 (r0 [(1,.c [] [] (o9 (c.E:Int)))] [(10,.bool (!(((c.E:Int)==1)||((c.E:Int)==2))))] [] ?_);have f:(!(((c.E:Int)==1)||((c.E:Int)==2)))=false:=by rw[show((((c.E:Nat):Int)==1)||(((c.E:Nat):Int)==2))=true by rcases h with e | e<;>rw[e]<;>rfl];rfl
 exact cF (!(((c.E:Int)==1)||((c.E:Int)==2))) f (rr (λ_=>[(0,.l 0),(2,.m (mm 1 qP lG))]) (λa=>[(4,pt (B4 a) 0),(5,i6 0)]) [4,5] (λa L=>L++[eU (λ_=>lG) (B2 a),ob (B4 a) #[iN c.R,iN c.S,iN c.B,iN c.M,iN c.C,iN c.E,.map (some (B2 a)),.slice none 0 0,.slice none 0 0] 162]) λa=>lf (.l [(a 4).y 0,(a 2).y 0] [] []) [2,1] [] [])
theorem UD(g:Nat)(c:Cf)(D:Dr):aa Zl 113 #[pt g 0] [pk (gy g c D)] [0] (λ_=>[pk (gy g c D)]) (λ_=> .agg #[iN c.R,iN c.S,iN c.B,iN c.M,iN c.C]):=aa.pkZ Tryz.func113 λL b=>by
 obtain⟨gm,d,e,rfl⟩:=b;refine⟨[1,2,3],λ_=>[eU D.cells gm,dw d D.Y,dw e D.J],?_,rfl,λE=>⟨rfl,rfl,⟨_,_,_,rfl⟩⟩⟩;exact fG Tryz.func113 λw cs=>ra (λa=>[(2,pt (B0 a) 0)]) (λa=>[ob (B0 a) #[i6 0,i6 0,i6 0,i6 0,i6 0] 23]) λa=>rs [(3,.l 0),(4,.s 4)] 4 (ob (B0 a) #[iN c.R,iN c.S,iN c.B,iN c.M,iN c.C] 23) (lf ab.zero [1,2,3] [(0,0)] [4])
theorem AE(g:Nat)(c:Cf)(D:Dr):aa Zl 107 #[pt g 0] [pk (gy g c D)] [0] (λ_=>[pk (gy g c D)]) (λ_=>iN c.E):=aa.pkZ Tryz.func107 λL a=>by
 obtain⟨gm,b,d,rfl⟩:=a;refine⟨[1,2,3],λ_=>[eU D.cells gm,dw b D.Y,dw d D.J],?_,rfl,λE=>⟨rfl,rfl,⟨_,_,_,rfl⟩⟩⟩;exact fG Tryz.func107 λw cs=>r0 [] [(2,i6 0)] [] (r0 [(3,.l 0)] [(2,iN c.E)] [2] (lf ab.zero [1,2,3] [(0,0)] []))
theorem GP(g:Nat)(c:Cf)(r:b6 c)(D:Dr)(t:iK c D)(i:Int)(gm:Nat)(f a:Value):aa Zl 190 #[pt g 0,i6 i] [ob g #[iN c.R,iN c.S,iN c.B,iN c.M,iN c.C,iN c.E,.map (some gm),f,a] 162,eU D.cells gm,dw f D.Y,dw a D.J] [0,1,2,3] (λE=>[ob g #[iN c.R,iN c.S,iN c.B,iN c.M,iN c.C,iN c.E,.map (some gm),f,(E.val 0)] 162,eU ((et D).cells) gm,dw f ((et D).Y),dw (E.val 0) ((et D).J)]) (λ_=> .agg #[i6 (aT D i),.bool (cq D)]):=by
 have u:=t.l2;have n:=r.ly.O;refine fG Tryz.func190 λw cs=>ra (λe=>[(4,pt (B0 e) 0)]) (λe=>[ob (B0 e) #[i6 0,.bool false] 88]) λe=>r0 [(3,.l 0),(4,fu mj a D.J 3)] [(13,.bool ((D.J.length:Int)==0))] [] ?_;refine cX (D.J.length:Int) 0 (λj d=>?_) λj d=>?_
 ·exact rr (λ_=>[(2,.s 4)]) N0 [] (λ_ L=>L.set 4 (ob (B0 e) #[i6 i,.bool false] 88)) λy=>ao (.agg #[i6 i,.bool false]) (.l [] [] [a]) (by unfold aT cq;(repeat (first | rw[j] | rw[ALct]))) [0,1,2,3] [] [4] (hf:=by unfold et;(try rewrite [AD As]);kernel_rfl)
 have o:=(GO t.f2 d).all.1;have v:0<D.J.length:=by have x:=d;omega
 refine rr (λ_=>[(3,.l 0),(4,cO mj a D.J 3 0),(5,qb mj a D.J 3 0 0 8),(7,.s 5)]) (λk=>[(5,pt (B6 k) 0)]) [] (λk L=>L++[ob (B6 k) #[i6 ((D.J.getD 0 b7).x0),i6 ((D.J.getD 0 b7).x1),i6 ((D.J.getD 0 b7).x2),i6 ((D.J.getD 0 b7).x3),i6 ((D.J.getD 0 b7).x4),i6 ((D.J.getD 0 b7).x5),i6 ((D.J.getD 0 b7).x6),i6 ((D.J.getD 0 b7).x7)] 48]) λk=>rr (λb=>[(4,.l 0),(5,KM mj a D.J 3 1),(6,.c [3] [6] (aa.at (rd':=[dw a D.J]) (UA a D.J 1 Om Om) (bO (λ_ h=>ar.sq h) (λ_ h=>h)))),(9,.m (fS 0 6 (dw ((b 6).val 0) ((D.J).drop (1))) ((b 6).val 0) λbs h=>ar.one ((λ_ h=>h) bs h)))]) N0 [] (λb L=>L.set 0 (ob g #[iN c.R,iN c.S,iN c.B,iN c.M,iN c.C,iN c.E,.map (some gm),f,(b 6).val 0] 162)++[dw ((b 6).val 0) ((D.J).drop (1))]) λb=>r0 [(1,.l 5)] [(33,.bool (((D.J.getD 0 b7).x0)==7))] [] ?_;refine cX ((D.J.getD 0 b7).x0) 7 (λq p=>?_) λq p=>?_
 ·exact rr (λ_=>[(2,.s 4)]) N0 [] (λ_ L=>L.set 4 (ob (B0 e) #[i6 i,.bool true] 88)) λz=>ao (.agg #[i6 i,.bool true]) (.l [] [] [((b 6).val 0)]) (by unfold aT cq;(repeat (first | rw[j] | rw[q] | rw[ALct] | rw[ALcf]))) [0,1,2,6] [] [4] (hf:=by unfold et;(try rewrite [AD As]);kernel_rfl)
 exact r0 [(3,.m (ls 0 ([iN c.R,iN c.S,iN c.B,iN c.M,iN c.C]))),(5,.m (ls 5 ([i6 ((D.J.getD 0 b7).x1),i6 ((D.J.getD 0 b7).x2),i6 ((D.J.getD 0 b7).x3),i6 ((D.J.getD 0 b7).x4)]))),(6,.c [] [] (GL c n ((D.J.getD 0 b7).x1) ((D.J.getD 0 b7).x2) ((D.J.getD 0 b7).x3) ((D.J.getD 0 b7).x4) o)),] [(6,i6 (dR ((D.J.getD 0 b7).x1) ((D.J.getD 0 b7).x2) ((D.J.getD 0 b7).x3) ((D.J.getD 0 b7).x4))),(7,i6 0)] [] (rF [] 47 (rs [(2,.s 4)] 4 (ob (B0 e) #[i6 (dR ((D.J.getD 0 b7).x1) ((D.J.getD 0 b7).x2) ((D.J.getD 0 b7).x3) ((D.J.getD 0 b7).x4)),.bool false] 88) (ao (.agg #[i6 (dR ((D.J.getD 0 b7).x1) ((D.J.getD 0 b7).x2) ((D.J.getD 0 b7).x3) ((D.J.getD 0 b7).x4)),.bool false]) (.l [] [] [((b 6).val 0)]) (by unfold aT cq;(repeat (first | rw[j] | rw[q] | rw[ALcf]))) [0,1,2,6] [] [4] (hf:=by unfold et;(try rewrite [AD As]);kernel_rfl))))
section
theorem AF{R S B M C:Nat}(f:cG R S B M C){a p1 p2 p3:Int}(h:hold R S B M C a p1 p2 p3=true):gx R S B M C (dR a p1 p2 p3)=true:=by
 obtain⟨b,c,d,e,g,i⟩:=Qr f.bd h;unfold gx;rw[b,c,d,e,h,bl Om];rfl
theorem UE{c:Cf}(a:b6 c){D:Dr}(d:iK c D){i:Int}(b:gx c.R c.S c.B c.M c.C i=true):gx c.R c.S c.B c.M c.C (aT D i)=true:=by
 unfold aT;cases h:((D.J.length:Int)==0)
 ·rw[ALcf];cases (D.J.getD 0 b7).x0==7
  ·exact AF a.ly.O (GO d.f2 (ne_of_beq_false h)).all.1
  ·exact b
 ·exact b
def qQ(c:Cf)(D:Dr)(i:Int):List UInt8:=jZ c.E (i/1048576) (i/65536%16) (i/64%1024) (i%64) (D.cells i) D.Y
theorem AG{c:Cf}{D:Dr}(a:iK c D)(i:Int):(qQ c D i).length=72:=(wB ..).trans (a.cl i)
def bZ(c:Cf)(D:Dr)(i:Int):List UInt8:=bif cq D then Zm 72 0 else qQ c (et D) (aT D i)
theorem lH{c:Cf}{D:Dr}(a:iK c D)(i:Int):(bZ c D i).length=72:=by
 unfold bZ;cases cq D
 ·exact AG (tz a) _
 ·exact Zs
def oA(D:Dr)(i:Int)(r:List UInt8):Dr:=⟨bif !(cq D) then b3 D.cells (aT D i) r else D.cells,D.Y,D.J.drop 1⟩
theorem tA{f:Int→List UInt8}{n:Nat}(h: ∀k,(f k).length=n)(i:Int){r:List UInt8}(a:r.length=n)(k:Int):(b3 f i r k).length=n:=by
 unfold b3
 split<;>simp [*]
theorem GQ{c:Cf}{D:Dr}(h:iK c D)(i:Int){r:List UInt8}(b:r.length=72):iK c (oA D i r):=by
 have a:=tz h;refine⟨?_,a.l1,a.l2,a.f1,a.f2⟩;show ∀k,((bif !(cq D) then b3 D.cells (aT D i) r else D.cells) k).length=72;cases cq D
 ·exact tA h.cl _ b
 ·exact h.cl
def GR(xs:List UInt8)(b:Int):List UInt8:=xs.set (b.toNat/8) (xs.getD (b.toNat/8) 0^^^UInt8.ofNat (1*2^(b.toNat%8)))
def kQ(c:Cf)(f:Fa):Bool:=pJ f c.R c.S c.B c.M c.C c.E
def kR(c:Cf)(D:Dr)(f:Fa):Dr:=
 ⟨bif !(kQ c f) then D.cells else bif f.x0==1 then b3 D.cells (dR f.x1 f.x2 f.x3 f.x4) (GR (D.cells (dR f.x1 f.x2 f.x3 f.x4)) f.x6) else D.cells,
  bif !(kQ c f) then D.Y else bif f.x0==1 then D.Y else bif kP f then jE D.Y f else D.Y,
  bif !(kQ c f) then D.J else bif f.x0==1 then D.J else bif kP f then D.J else jE D.J f⟩
def ia(c:Cf)(D:Dr)(f:Fa):Int:=bif !(kQ c f) then 10 else bif f.x0==1 then 0 else bif kP f then kp D.Y else kp D.J
theorem GS{xs:List Fa}(f:Fa)(h:xs.length≤256):(jE xs f).length≤256:=by
 unfold jE;cases a:decide (256≤(xs.length:Int))
 ·have:=of_decide_eq_false a;simp only[ALcf,Zn,List.length_singleton];omega
 ·exact h
theorem GU{xs:List Fa}{f:Fa}{p:Fa→Prop}(h: ∀x∈xs,p x)(hf:p f): ∀x∈jE xs f,p x:=by
 unfold jE;cases decide (256≤(xs.length:Int))
 ·simp only[ALcf,List.mem_append,List.mem_singleton];rintro x (a | rfl)
  ·exact h x a
  ·exact hf
 ·exact h
theorem UF{c:Cf}{D:Dr}(h:iK c D)(f:Fa):iK c (kR c D f):=by
 unfold kR;cases b:kQ c f
 ·exact⟨h.cl,h.l1,h.l2,h.f1,h.f2⟩
 ·have a:mT c f:=⟨b⟩;cases f.x0==1
  ·cases kP f
   ·exact⟨h.cl,h.l1,GS f h.l2,h.f1,GU h.f2 a⟩
   ·exact⟨h.cl,GS f h.l1,h.l2,GU h.f1 a,h.f2⟩
  ·exact⟨tA h.cl _ (by unfold GR;rw[Zv];exact h.cl _),h.l1,h.l2,h.f1,h.f2⟩
attribute [local irreducible] jZ aT cq gx dR kP kp jE pJ
theorem UG(g:Nat)(c:Cf)(d:b6 c)(D:Dr)(b:iK c D)(i:Int)(n:gx c.R c.S c.B c.M c.C i=true)(gm:Nat)(a p:Value):aa Zl 191 #[pt g 0,i6 i] [ob g #[iN c.R,iN c.S,iN c.B,iN c.M,iN c.C,iN c.E,.map (some gm),a,p] 162,eU D.cells gm,dw a D.Y,dw p D.J] [1,2,3] (λ_=>[eU D.cells gm,dw a D.Y,dw p D.J]) (λ_=> .tuple #[.agg (rB 72 (qQ c D i)).toArray,i6 0]):=by
 have j:=d.ly.O;have k:=n;have q:=b.l1;have l:=b.cl i;have o:=AG b i;have r:=d.E;exact fG Tryz.func191 λw cs=>ra (λe=>[(4,pt (B0 e) 0),(5,i6 0)]) (λe=>[ob (B0 e) (rB 72 (Zm 72 0)).toArray 217]) λe=>rr (λ_=>[(3,.m (ls 0 ([iN c.R,iN c.S,iN c.B,iN c.M,iN c.C]))),(5,.c [] [] (AB c j i k)),(9,.m (al 5)),(10,.s 5)]) (λf=>[(6,pt ((f 9).y 0) 0),(7,i6 0)]) [] (λf L=>L++[ob ((f 9).y 0) #[i6 (i/1048576),i6 (i/65536%16),i6 (i/64%1024),i6 (i%64)] 46]) λf=>rF [] 18 (rr (λ_=>[(3,.m (ld 0 (a))),(7,.m (ld 0 (iN c.E))),(8,.m (ls 5 ([i6 (i/1048576),i6 (i/65536%16),i6 (i/64%1024),i6 (i%64)]))),(12,.m (ld 0 (.map (some gm)))),(14,.m (mg 1 (eU D.cells gm) gm i (λ_ h=>h))),(15,.c [2] [] (aa.at (rd':=[dw a D.Y]) (Ux c r a D.Y (Zu b.l1 Dc) b.f1 (i/1048576) (i/65536%16) (i/64%1024) (i%64) (D.cells i) (by(simp only[LL,l,o];done))) (bO (λ_ h=>ar.sq h) (λ_ h=>h)))),(16,.s 4)]) (λ_=>[(5,i6 0)]) [5] (λ_ L=>L.set 4 (ob (B0 e) (rB 72 (jZ c.E (i/1048576) (i/65536%16) (i/64%1024) (i%64) (D.cells i) D.Y)).toArray 217)) λt=>ao (.tuple #[.agg (rB 72 (jZ c.E (i/1048576) (i/65536%16) (i/64%1024) (i%64) (D.cells i) D.Y)).toArray,i6 0]) ab.zero bc [1,2,3] [(0,0)] [4])
theorem UH(g:Nat)(c:Cf)(d:b6 c)(D:Dr)(o:iK c D)(i:Int)(k:gx c.R c.S c.B c.M c.C i=true)(r:List UInt8)(t:r.length=72):aa Zl 204 #[pt g 0,i6 i,.agg (rB 72 r).toArray] [pk (gy g c D)] [0] (λ_=>[pk (gy g c (oA D i r))]) (λ_=> .tuple #[.agg #[i6 (aT D i),.bool (cq D)],i6 0]):=aa.pkZ Tryz.func204 λL p=>by
 obtain⟨gm,e,q,rfl⟩:=p;refine⟨[0,1,2,3],λE=>[ob g #[iN c.R,iN c.S,iN c.B,iN c.M,iN c.C,iN c.E,.map (some gm),e,(E.val 0)] 162,eU ((oA D i r).cells) gm,dw e ((et D).Y),dw (E.val 0) ((et D).J)],?_,rfl,λE=>⟨rfl,rfl,⟨_,_,_,rfl⟩⟩⟩;have f:=d.ly.O;have h:=k;refine fG Tryz.func204 λw cs=>ra (λa=>[(5,pt (B0 a) 0),(6,pt (B1 a) 0),(7,i6 0)]) (λa=>[ob (B0 a) (rB 72 r).toArray 217,ob (B1 a) #[i6 0,.bool false] 88]) λa=>rr (λ_=>[(3,.m (ls 0 ([iN c.R,iN c.S,iN c.B,iN c.M,iN c.C]))),(5,.c [] [] (AB c f i h)),(9,.m (al 6)),(10,.s 6)]) (λ_=>[(9,i6 0)]) [] (λn L=>L++[ob ((n 9).y 0) #[i6 (i/1048576),i6 (i/65536%16),i6 (i/64%1024),i6 (i%64)] 46]) λn=>rF [] 21 (rr (λ_=>[(2,.c [0,1,2,3] [0,1,2,3] (GP g c d D o i gm e q)),(4,.s 7)]) (λb=>[(10,pt (B3 b) 0)]) [] (λb L=>(((L.set 0 (ob g #[iN c.R,iN c.S,iN c.B,iN c.M,iN c.C,iN c.E,.map (some gm),e,((b 2).val 0)] 162)).set 1 (eU ((et D).cells) gm)).set 2 (dw e ((et D).Y))).set 3 (dw ((b 2).val 0) ((et D).J))++[ob (B3 b) #[i6 (aT D i),.bool (cq D)] 88]) λb=>r0 [(1,.l 7)] [(29,.bool (!(cq D)))] [] ?_);refine cB (!(cq D)) (λj=>?_) λj=>?_
 ·exact rr (λ_=>[(3,.l 0),(5,.l 7),(6,.l 4),(7,.m (mu 1 gm (aT D i) qP lG ((et D).cells) r))]) N0 [] (λ_ L=>L.set 1 (eU (b3 ((et D).cells) (aT D i) r) gm)) λu=>rr (λ_=>[(0,.l 7),(1,.s 5)]) (λ_=>[(7,i6 0)]) [7] (λ_ L=>L.set 5 (ob (B1 a) #[i6 (aT D i),.bool (cq D)] 88)) λv=>lf (.l [] [] [((b 2).val 0)]) [0,1,2,3] [] [5] (hf:=by unfold oA;(repeat (first | rw[j] | rw[ALct]));kernel_rfl)
 exact rr (λ_=>[(0,.l 7),(1,.s 5)]) (λ_=>[(7,i6 0)]) [7] (λ_ L=>L.set 5 (ob (B1 a) #[i6 (aT D i),.bool (cq D)] 88)) λx=>lf (.l [] [] [((b 2).val 0)]) [0,1,2,3] [] [5] (hf:=by unfold oA;(repeat (first | rw[j] | rw[ALcf]));kernel_rfl)
theorem UI(g:Nat)(c:Cf)(b:b6 c)(D:Dr)(h:iK c D)(i:Int)(f:gx c.R c.S c.B c.M c.C i=true):aa Zl 148 #[pt g 0,i6 i] [pk (gy g c D)] [0] (λ_=>[pk (gy g c (et D))]) (λ_=> .tuple #[.agg (rB 72 (bZ c D i)).toArray,.agg #[i6 (aT D i),.bool (cq D)],i6 0]):=aa.pkZ Tryz.func148 λL r=>by
 obtain⟨gm,e,u,rfl⟩:=r;refine⟨[0,1,2,3],λE=>[ob g #[iN c.R,iN c.S,iN c.B,iN c.M,iN c.C,iN c.E,.map (some gm),e,(E.val 0)] 162,eU ((et D).cells) gm,dw e ((et D).Y),dw (E.val 0) ((et D).J)],?_,rfl,λE=>⟨rfl,rfl,⟨_,_,_,rfl⟩⟩⟩;have k:=b.ly.O;have n:=f;have p:=UE b h f;have t:=AG (tz h) (aT D i);refine fG Tryz.func148 λw cs=>ra (λd=>[(4,pt (B0 d) 0),(5,pt (B1 d) 0),(6,i6 0)]) (λd=>[ob (B0 d) (rB 72 (Zm 72 0)).toArray 217,ob (B1 d) #[i6 0,.bool false] 88]) λd=>rr (λ_=>[(3,.m (ls 0 ([iN c.R,iN c.S,iN c.B,iN c.M,iN c.C]))),(5,.c [] [] (AB c k i n)),(9,.m (al 6)),(10,.s 6)]) (λ_=>[(8,i6 0)]) [] (λq L=>L++[ob ((q 9).y 0) #[i6 (i/1048576),i6 (i/65536%16),i6 (i/64%1024),i6 (i%64)] 46]) λq=>rF [] 22 (rr (λ_=>[(2,.c [0,1,2,3] [0,1,2,3] (GP g c b D h i gm e u)),(4,.s 7)]) (λa=>[(9,pt (B3 a) 0)]) [] (λa L=>(((L.set 0 (ob g #[iN c.R,iN c.S,iN c.B,iN c.M,iN c.C,iN c.E,.map (some gm),e,((a 2).val 0)] 162)).set 1 (eU ((et D).cells) gm)).set 2 (dw e ((et D).Y))).set 3 (dw ((a 2).val 0) ((et D).J))++[ob (B3 a) #[i6 (aT D i),.bool (cq D)] 88]) λa=>r0 [(1,.l 7)] [(30,.bool (cq D))] [] ?_);refine cB (cq D) (λo=>?_) λo=>?_
 ·exact rr (λ_=>[(1,.l 7),(2,.s 4),(3,.s 5)]) (λ_=>[(6,i6 0)]) [6] (λ_ L=>L.set 5 (ob (B1 d) #[i6 (aT D i),.bool (cq D)] 88)) λv=>ao (.tuple #[.agg (rB 72 (Zm 72 0)).toArray,.agg #[i6 (aT D i),.bool (cq D)],i6 0]) (.l [] [] [((a 2).val 0)]) (by unfold bZ;(repeat (first | rw[o] | rw[ALct]))) [0,1,2,3] [] [4,5]
 exact rr (λ_=>[(2,.l 7),(3,.c [0,1,2,3] [1,2,3] (UG g c b (et D) (tz h) (aT D i) p gm e ((a 2).val 0))),(8,.s 8)]) (λj=>[(10,pt (B7 j) 0),(11,i6 0)]) [] (λj L=>L.set 3 (dw ((a 2).val 0) ((et D).J))++[ob (B7 j) (rB 72 (qQ c (et D) (aT D i))).toArray 217]) λj=>rr (λ_=>[(0,.l 8),(1,.l 7),(3,.s 4),(4,.s 5)]) (λ_=>[(6,i6 0)]) [6] (λ_ L=>(L.set 4 (ob (B0 d) (rB 72 (qQ c (et D) (aT D i))).toArray 217)).set 5 (ob (B1 d) #[i6 (aT D i),.bool (cq D)] 88)) λx=>ao (.tuple #[.agg (rB 72 (qQ c (et D) (aT D i))).toArray,.agg #[i6 (aT D i),.bool (cq D)],i6 0]) (.l [] [] [((a 2).val 0)]) (by unfold bZ;(repeat (first | rw[o] | rw[ALcf]))) [0,1,2,3] [] [4,5]
theorem UJ(g:Nat)(c:Cf)(k:b6 c)(D:Dr)(u:iK c D)(f:Fa):aa Zl 129 #[pt g 0,.agg #[i6 f.x0,i6 f.x1,i6 f.x2,i6 f.x3,i6 f.x4,i6 f.x5,i6 f.x6,i6 f.x7]] [pk (gy g c D)] [0] (λ_=>[pk (gy g c (kR c D f))]) (λ_=>i6 (ia c D f)):=aa.pkZ Tryz.func129 λL x=>by
 obtain⟨gm,n,o,rfl⟩:=x;refine⟨[0,1,2,3],λE=>[ob g #[iN c.R,iN c.S,iN c.B,iN c.M,iN c.C,iN c.E,.map (some gm),(E.val 0),(E.val 1)] 162,eU ((kR c D f).cells) gm,dw (E.val 0) ((kR c D f).Y),dw (E.val 1) ((kR c D f).J)],?_,rfl,λE=>⟨rfl,rfl,⟨_,_,_,rfl⟩⟩⟩;have q:=k.ly.O;have t:=u.cl (dR f.x1 f.x2 f.x3 f.x4);have v:=k.ly.O;refine fG Tryz.func129 λw cs=>ra (λp=>[(3,pt (B0 p) 0),(4,i6 0)]) (λp=>[ob (B0 p) #[i6 f.x0,i6 f.x1,i6 f.x2,i6 f.x3,i6 f.x4,i6 f.x5,i6 f.x6,i6 f.x7] 48]) λp=>r0 [(0,.m (ls 4 ([i6 f.x0,i6 f.x1,i6 f.x2,i6 f.x3,i6 f.x4,i6 f.x5,i6 f.x6,i6 f.x7]))),(4,.m (ls 0 ([iN c.R,iN c.S,iN c.B,iN c.M,iN c.C]))),(8,.m (ld 0 (iN c.E))),(9,.c [] [] (T7 f c.R c.S c.B c.M c.C c.E v k.E)),] [(19,.bool (!(pJ f c.R c.S c.B c.M c.C c.E)))] [] ?_;refine cB (!(pJ f c.R c.S c.B c.M c.C c.E)) (λe=>?_) λe=>?_
 ·exact r0 [] [(4,i6 10)] [4] (ao (i6 10) (.l [] [] [n,o]) (by unfold ia kQ;(repeat (first | rw[e] | rw[ALct]))) [0,1,2,3] [] [] (hf:=by unfold kR kQ;(repeat (first | rw[e] | rw[ALct]));kernel_rfl))
 have i:mT c f:=⟨by simpa using e⟩;have r:=i.all.1;refine r0 [(1,.l 4)] [(31,.bool (f.x0==1))] [] ?_;refine cX f.x0 1 (λj s=>?_) λj s=>?_
 ·exact r0 [(3,.m (ls 0 ([iN c.R,iN c.S,iN c.B,iN c.M,iN c.C]))),(5,.m (ls 4 ([i6 f.x1,i6 f.x2,i6 f.x3,i6 f.x4]))),(6,.c [] [] (GL c q f.x1 f.x2 f.x3 f.x4 r)),] [(5,i6 (dR f.x1 f.x2 f.x3 f.x4)),(6,i6 0)] [] (rs [(3,.m (ld 0 (.map (some gm)))),(8,.m (ld 0 (.map (some gm)))),(10,.m (mg 1 (eU D.cells gm) gm (dR f.x1 f.x2 f.x3 f.x4) (λ_ h=>h))),(12,.m (ld 4 (i6 f.x6))),(13,.c [] [] (Gz (D.cells (dR f.x1 f.x2 f.x3 f.x4)) (by(simp only[LL,t];done)) f.x6 i.all.2.1.1 i.all.2.1.2)),(14,.m (mu 1 gm (dR f.x1 f.x2 f.x3 f.x4) qP lG D.cells ((D.cells (dR f.x1 f.x2 f.x3 f.x4)).set (f.x6.toNat/8) (((D.cells (dR f.x1 f.x2 f.x3 f.x4)).getD (f.x6.toNat/8) 0)^^^(UInt8.ofNat (1*2^(f.x6.toNat%8)))))))] 1 (eU (b3 D.cells (dR f.x1 f.x2 f.x3 f.x4) ((D.cells (dR f.x1 f.x2 f.x3 f.x4)).set (f.x6.toNat/8) (((D.cells (dR f.x1 f.x2 f.x3 f.x4)).getD (f.x6.toNat/8) 0)^^^(UInt8.ofNat (1*2^(f.x6.toNat%8)))))) gm) (r0 [] [(4,i6 0)] [4] (ao (i6 0) (.l [] [] [n,o]) (by unfold ia kQ;(repeat (first | rw[e] | rw[j] | rw[ALct] | rw[ALcf]))) [0,1,2,3] [] [] (hf:=by unfold kR kQ;(repeat (first | rw[e] | rw[j] | rw[ALct] | rw[ALcf]));kernel_rfl))))
 refine r0 [(0,.l 4),(1,.c [] [] (Gy f))] [(60,.bool (kP f))] [] ?_;refine cB (kP f) (λd=>?_) λd=>?_
 ·exact rr (λa=>[(4,.m (ld 0 (n))),(5,.m (ls 4 ([i6 f.x0,i6 f.x1,i6 f.x2,i6 f.x3,i6 f.x4,i6 f.x5,i6 f.x6,i6 f.x7]))),(6,.c [2] [2] (GN n D.Y f)),(12,.m (fS 0 2 (dw ((a 6).val 0) (jE D.Y f)) ((a 6).val 0) λbs h=>ar.one ((λ_ h=>h) bs h)))]) (λ_=>[(4,i6 (kp D.Y))]) [4] (λa L=>(L.set 0 (ob g #[iN c.R,iN c.S,iN c.B,iN c.M,iN c.C,iN c.E,.map (some gm),((a 6).val 0),o] 162)).set 2 (dw ((a 6).val 0) (jE D.Y f))) λa=>r0 [] [(4,i6 (kp D.Y))] [4] (ao (i6 (kp D.Y)) (.l [] [] [((a 6).val 0),o]) (by unfold ia kQ;(repeat (first | rw[e] | rw[j] | rw[d] | rw[ALct] | rw[ALcf]))) [0,1,2,3] [] [] (hf:=by unfold kR kQ;(repeat (first | rw[e] | rw[j] | rw[d] | rw[ALct] | rw[ALcf]));kernel_rfl))
 exact rr (λb=>[(4,.m (ld 0 (o))),(5,.m (ls 4 ([i6 f.x0,i6 f.x1,i6 f.x2,i6 f.x3,i6 f.x4,i6 f.x5,i6 f.x6,i6 f.x7]))),(6,.c [3] [3] (GN o D.J f)),(12,.m (fS 0 3 (dw ((b 6).val 0) (jE D.J f)) ((b 6).val 0) λbs h=>ar.one ((λ_ h=>h) bs h)))]) (λ_=>[(4,i6 (kp D.J))]) [4] (λb L=>(L.set 0 (ob g #[iN c.R,iN c.S,iN c.B,iN c.M,iN c.C,iN c.E,.map (some gm),n,((b 6).val 0)] 162)).set 3 (dw ((b 6).val 0) (jE D.J f))) λb=>r0 [] [(4,i6 (kp D.J))] [4] (ao (i6 (kp D.J)) (.l [] [] [n,((b 6).val 0)]) (by unfold ia kQ;(repeat (first | rw[e] | rw[j] | rw[d] | rw[ALcf]))) [0,1,2,3] [] [] (hf:=by unfold kR kQ;(repeat (first | rw[e] | rw[j] | rw[d] | rw[ALcf]));kernel_rfl))
end
section
theorem GV{α β:Type}{en:α→List Value}{z:List Value}{T:TypeId}{b:β→List Value}{e:List Value}{c:TypeId}{S:aj→Prop}{L:aj}{ds:List ay}(d:S (L++[.p (ar en z T (.slice none 0 0) ([]:List α)),.p (ar b e c (.slice none 0 0) ([]:List β))]))(h:bt L ds): ∃a,bt [pk S] a∧a.flatten=ds.flatten:=
 ⟨[ds.flatten],⟨⟨_,ds++[[],[]],d,kx h ⟨ar.nil none,ar.nil none,trivial⟩,by simp⟩,trivial⟩,by simp⟩
theorem UK(c:Cf)(a:b6 c):aa Zl 112 #[.agg #[iN c.R,iN c.S,iN c.B,iN c.M,iN c.C],iN c.E] [] [] (λE=>[pk (gy (E.y 0) c tx)]) (λE=> .tuple #[pt (E.y 0) 0,i6 0]):=(UC c a).outs λE d b=>GV ⟨_,_,_,rfl⟩ b
structure Ac where
 wr:Bool
 ix:Int
 wt:Int
 dr:Bool
 ex:Int
 mr:Bool
def ff:Ac:=⟨false,0,0,false,0,false⟩
def AH(x:Ac):List Value:=[.bool x.wr,i6 x.ix,i6 x.wt,.bool x.dr,i6 x.ex,.bool x.mr]
def tB:Kd Zl Ac:=⟨AH,[.bool false,i6 0,i6 0,.bool false,i6 0,.bool false],142,90,ff,6,λ_=>rfl,rfl,λ_=>rfl,ec.mk' Kr Kr rfl⟩
abbrev lI(v:Value)(xs:List Ac):aB:= .p (ar AH ([.bool false,i6 0,i6 0,.bool false,i6 0,.bool false]) 90 v xs)
def AJ(x:Int):Value:= .int .i64 x
abbrev lJ(f:Int→Int)(g:Nat):aB:= .p (l0 AJ 0 f g)
structure Dv where
 D:Dr
 X:Int→List UInt8
 Z:Int→Int
 l:List Ac
abbrev bo(g a:Nat)(c:Cf)(V:Dv)(L:aj):Prop:=∃(gm gk:Nat) (v:Value),L=[ob g #[pt a 0,.map (some gm),.map (some gk),v] 144,pk (gy a c V.D),eU V.X gm,lJ V.Z gk,lI v V.l]
structure nE (c:Cf) (V:Dv):Prop where
 D:iK c V.D
 gl: ∀k,(V.X k).length=72
 ll:V.l.length≤900000
def tC:Dv:=⟨tx,λ_=>lG,λ_=>0,[]⟩
def iL(V:Dv)(i:Int)(r:List UInt8)(mk:Int):Dv:=⟨oA V.D i r,b3 V.X i r,b3 V.Z i mk,V.l++[⟨true,i,aT V.D i,cq V.D,0,false⟩]⟩
def nF(c:Cf)(V:Dv)(i:Int):Ac:=⟨false,i,aT V.D i,cq V.D,((c7 (c.E:Int) (bZ c V.D i) (V.X (aT V.D i)):Nat):Int),bif !(cq V.D) then V.Z (aT V.D i)==1 else false⟩
def qR(c:Cf)(V:Dv)(i:Int):Dv:=⟨et V.D,V.X,V.Z,V.l++[nF c V i]⟩
def nG(c:Cf)(V:Dv)(f:Fa):Dv:={V with D:=kR c V.D f}
attribute [local irreducible] c7 bZ aT cq gx
theorem UL(g b c a:Nat)(v:Value)(f:Int→Int)(i:Int):aa Zl 150 #[pt g 0,i6 i] [ob g #[pt b 0,.map (some c),.map (some a),v] 144,lJ f a] [1] (λ_=>[lJ f a]) (λ_=> .bool ((f i)==1)):=by
 exact fG Tryz.func150 λw cs=>r0 [] [(4,.bool false)] [] (r0 [(3,.l 0),(5,.m (mg 1 (lJ f a) a i (λ_ h=>h)))] [(4,.bool ((f i)==1))] [4] (lf ab.zero [1] [(0,0)] []))
theorem AK(g a:Nat)(c:Cf)(V:Dv):aa Zl 36 #[pt g 0] [pk (bo g a c V)] [0] (λ_=>[pk (bo g a c V)]) (λ_=>pt a 0):=aa.pkZ Tryz.func36 λL d=>by
 obtain⟨gm,b,v,rfl⟩:=d;refine⟨[1,2,3,4],λ_=>[pk (gy a c V.D),eU V.X gm,lJ V.Z b,lI v V.l],?_,rfl,λE=>⟨rfl,rfl,⟨_,_,_,rfl⟩⟩⟩;exact fG Tryz.func36 λw cs=>r0 [] [(2,.pointer none)] [] (r0 [(3,.l 0)] [(2,pt a 0)] [2] (lf ab.zero [1,2,3,4] [(0,0)] []))
theorem UM(g a:Nat)(c:Cf)(V:Dv):aa Zl 42 #[pt g 0] [pk (bo g a c V)] [0] (λ_=>[pk (bo g a c V)]) (λ_=>iN V.l.length):=aa.pkZ Tryz.func42 λL d=>by
 obtain⟨gm,b,v,rfl⟩:=d;refine⟨[1,2,3,4],λ_=>[pk (gy a c V.D),eU V.X gm,lJ V.Z b,lI v V.l],?_,rfl,λE=>⟨rfl,rfl,⟨_,_,_,rfl⟩⟩⟩;exact fG Tryz.func42 λw cs=>r0 [] [(2,i6 0)] [] (r0 [(3,.l 0),(4,fu tB v V.l 4)] [(2,iN V.l.length)] [2] (lf ab.zero [1,2,3,4] [(0,0)] []))
theorem UN(g a:Nat)(c:Cf)(d:b6 c)(V:Dv)(i:nE c V)(f:Fa):aa Zl 90 #[pt g 0,.agg #[i6 f.x0,i6 f.x1,i6 f.x2,i6 f.x3,i6 f.x4,i6 f.x5,i6 f.x6,i6 f.x7]] [pk (bo g a c V)] [0] (λ_=>[pk (bo g a c (nG c V f))]) (λ_=>i6 (ia c V.D f)):=aa.pkZ Tryz.func90 λL h=>by
 obtain⟨gm,e,v,rfl⟩:=h;refine⟨[1,2,3,4],λ_=>[pk (gy a c (kR c V.D f)),eU V.X gm,lJ V.Z e,lI v V.l],?_,rfl,λE=>⟨rfl,rfl,⟨_,_,_,rfl⟩⟩⟩;exact fG Tryz.func90 λw cs=>ra (λb=>[(3,pt (B0 b) 0),(4,i6 0)]) (λb=>[ob (B0 b) #[i6 f.x0,i6 f.x1,i6 f.x2,i6 f.x3,i6 f.x4,i6 f.x5,i6 f.x6,i6 f.x7] 48]) λb=>rr (λ_=>[(3,.l 0),(4,.l 5),(5,.c [1] [1] (UJ a c d V.D i.D f))]) (λ_=>[(4,i6 (ia c V.D f))]) [4] (λ_ L=>L.set 1 ((pk (gy a c (kR c V.D f))))) λj=>lf ab.zero [1,2,3,4] [(0,0)] []
theorem GW(g a:Nat)(c:Cf)(j:b6 c)(V:Dv)(n:nE c V)(i:Int)(k:gx c.R c.S c.B c.M c.C i=true)(r:List UInt8)(o:r.length=72)(mk:Int):aa Zl 162 #[pt g 0,i6 i,.agg (rB 72 r).toArray,i6 mk] [pk (bo g a c V)] [0] (λ_=>[pk (bo g a c (iL V i r mk))]) (λ_=>i6 0):=aa.pkZ Tryz.func162 λL p=>by
 obtain⟨gm,d,v,rfl⟩:=p;refine⟨[0,1,2,3,4],λE=>[ob g #[pt a 0,.map (some gm),.map (some d),(E.val 0)] 144,pk (gy a c (oA V.D i r)),eU (b3 V.X i r) gm,lJ (b3 V.Z i mk) d,lI (E.val 0) (V.l++([(⟨true,i,(aT V.D i),cq V.D,0,false⟩:Ac)]))],?_,rfl,λE=>⟨rfl,rfl,⟨_,_,_,rfl⟩⟩⟩;have q:=n.ll;exact fG Tryz.func162 λw cs=>ra (λe=>[(6,pt (B0 e) 0),(8,i6 0)]) (λe=>[ob (B0 e) (rB 72 r).toArray 217]) λe=>rr (λ_=>[(0,.v (pt g 0)),(1,.v (pt g 0)),(2,.v (pt g 0)),(3,.m (ld 0 (pt a 0))),(4,.v (i6 i)),(5,.m (ls 5 (rB 72 r))),(6,.c [1] [1] (UH a c j V.D n.D i k r (by(simp only[LL,o,o];done)))),(7,.v (.tuple #[.agg #[i6 (aT V.D i),.bool (cq V.D)],i6 0])),(8,.v (.agg #[i6 (aT V.D i),.bool (cq V.D)])),(9,.v (i6 0)),(10,.m (al 6)),(11,.s 6),(12,.v (i6 0))]) (λf=>[(9,pt ((f 10).y 0) 0),(10,i6 0)]) [] (λf L=>L.set 1 ((pk (gy a c (oA V.D i r))))++[ob ((f 10).y 0) #[i6 (aT V.D i),.bool (cq V.D)] 88]) λf=>rF [] 22 (rs [(3,.l 0),(5,.l 5),(6,.m (mu 2 gm i qP lG V.X r))] 2 (eU (b3 V.X i r) gm) (rs [(3,.l 0),(6,.m (mu 3 d i AJ 0 V.Z mk))] 3 (lJ (b3 V.Z i mk) d) (rr (λb=>[(0,.v (pt g 0)),(1,.v (pt g 0)),(2,.v (pt g 0)),(3,.v (pt g 3)),(4,.m (ld 0 (v))),(5,.v (i6 i)),(6,.m (ls 6 ([i6 (aT V.D i),.bool (cq V.D)]))),(7,.v (.agg #[.bool true,i6 i,i6 (aT V.D i),.bool (cq V.D),i6 0,.bool false])),(8,.m (bs 7 1)),(9,fC tB (v) V.l 4 7 ([(⟨true,i,(aT V.D i),cq V.D,0,false⟩:Ac)])),(10,.v (pt g 0)),(11,.v (pt g 3)),(12,.m (fS 0 4 (lI ((b 9).val 0) (V.l++([(⟨true,i,(aT V.D i),cq V.D,0,false⟩:Ac)]))) ((b 9).val 0) λbs h=>ar.one ((λ_ h=>h) bs h)))]) N0 [] (λb L=>(L.set 0 (ob g #[pt a 0,.map (some gm),.map (some d),(b 9).val 0] 144)).set 4 (lI ((b 9).val 0) (V.l++([(⟨true,i,(aT V.D i),cq V.D,0,false⟩:Ac)])))++[ob ((b 8).y 0) #[.bool true,i6 i,i6 (aT V.D i),.bool (cq V.D),i6 0,.bool false] 90]) λb=>r0 [] [(8,i6 0)] [8] (lf (.l [] [] [(b 9).val 0]) [0,1,2,3,4] [] []))))
theorem UO(g a:Nat)(c:Cf)(d:b6 c)(V:Dv)(h:nE c V)(i:Int)(e:gx c.R c.S c.B c.M c.C i=true)(r:List UInt8)(f:r.length=72):aa Zl 127 #[pt g 0,i6 i,.agg (rB 72 r).toArray] [pk (bo g a c V)] [0] (λ_=>[pk (bo g a c (iL V i r 0))]) (λ_=>i6 0):=by
 exact fG Tryz.func127 λw cs=>ra (λb=>[(5,pt (B0 b) 0),(6,i6 0)]) (λb=>[ob (B0 b) (rB 72 r).toArray 217]) λb=>rr (λ_=>[(2,.l 1),(3,.c [0] [0] (GW g a c d V h i e r (by(simp only[LL,f,f];done)) 0))]) (λ_=>[(6,i6 0)]) [6] (λ_ L=>L.set 0 ((pk (bo g a c (iL V i r 0))))) λj=>lf ab.zero [0] [] []
theorem UP(g a:Nat)(c:Cf)(d:b6 c)(V:Dv)(h:nE c V)(i:Int)(e:gx c.R c.S c.B c.M c.C i=true)(r:List UInt8)(f:r.length=72):aa Zl 126 #[pt g 0,i6 i,.agg (rB 72 r).toArray] [pk (bo g a c V)] [0] (λ_=>[pk (bo g a c (iL V i r 1))]) (λ_=>i6 0):=by
 exact fG Tryz.func126 λw cs=>ra (λb=>[(5,pt (B0 b) 0),(6,i6 0)]) (λb=>[ob (B0 b) (rB 72 r).toArray 217]) λb=>rr (λ_=>[(2,.l 1),(3,.c [0] [0] (GW g a c d V h i e r (by(simp only[LL,f,f];done)) 1))]) (λ_=>[(6,i6 0)]) [6] (λ_ L=>L.set 0 ((pk (bo g a c (iL V i r 1))))) λj=>lf ab.zero [0] [] []
theorem UQ(g a:Nat)(c:Cf)(p:b6 c)(V:Dv)(q:nE c V)(i:Int)(r:gx c.R c.S c.B c.M c.C i=true):aa Zl 123 #[pt g 0,i6 i] [pk (bo g a c V)] [0] (λ_=>[pk (bo g a c (qR c V i))]) (λ_=> .tuple #[.agg (rB 72 (bZ c V.D i)).toArray,i6 0]):=aa.pkZ Tryz.func123 λL u=>by
 obtain⟨gm,o,v,rfl⟩:=u;refine⟨[0,1,2,3,4],λE=>[ob g #[pt a 0,.map (some gm),.map (some o),(E.val 0)] 144,pk (gy a c (et V.D)),eU V.X gm,lJ V.Z o,lI (E.val 0) ((qR c V i).l)],?_,rfl,λE=>⟨rfl,rfl,⟨_,_,_,rfl⟩⟩⟩;have x:=q.ll;have f:=lH q.D i;have e:=q.gl (aT V.D i);have y:=p.E;refine fG Tryz.func123 λw cs=>ra (λn=>[(4,pt (B0 n) 0),(5,i6 0)]) (λn=>[ob (B0 n) (rB 72 (Zm 72 0)).toArray 217]) λn=>rr (λ_=>[(0,.v (pt g 0)),(1,.v (pt g 0)),(2,.v (pt g 0)),(3,.m (ld 0 (pt a 0))),(4,.v (i6 i)),(5,.c [1] [1] (UI a c p V.D q.D i r)),(6,.v (.tuple #[.agg (rB 72 (bZ c V.D i)).toArray,.agg #[i6 (aT V.D i),.bool (cq V.D)],i6 0])),(7,.v (.agg (rB 72 (bZ c V.D i)).toArray)),(8,.v (.agg #[i6 (aT V.D i),.bool (cq V.D)])),(9,.v (i6 0)),(10,.m (al 6)),(11,.m (al 7)),(12,.s 6),(13,.s 7),(14,.v (i6 0))]) (λb=>[(6,pt ((b 10).y 0) 0),(7,pt ((b 11).y 0) 0),(8,i6 0)]) [] (λb L=>L.set 1 ((pk (gy a c (et V.D))))++[ob ((b 10).y 0) (rB 72 (bZ c V.D i)).toArray 217,ob ((b 11).y 0) #[i6 (aT V.D i),.bool (cq V.D)] 88]) λb=>rF [] 20 ?_;cases t:(cq V.D)
 case true=>
  exact rr (λj=>[(0,.v (pt g 0)),(1,.v (pt g 0)),(2,.v (pt g 0)),(3,.v (pt g 3)),(4,.m (ld 0 (v))),(5,.v (i6 i)),(6,.m (ls 7 ([i6 (aT V.D i),.bool true]))),(7,.v (pt g 0)),(8,.v (pt g 0)),(9,.v (pt g 0)),(10,.m (ld 0 (pt a 0))),(11,.c [1] [1] (AE a c (et V.D))),(12,.m (ls 6 (rB 72 (bZ c V.D i)))),(13,.v (pt g 0)),(14,.v (pt g 0)),(15,.v (pt g 1)),(16,.m (ld 0 (.map (some gm)))),(17,.v (pt ((b 11).y 0) 0)),(18,.m (ld 7 (i6 (aT V.D i)))),(19,.m (mg 2 (eU V.X gm) gm (aT V.D i) (λ_ h=>h))),(20,.c [] [] (GJ c.E Om (bZ c V.D i) (V.X (aT V.D i)) (by(simp only[LL,f,e];done)) (by(simp only[LL,f,e];done)))),(21,.v (pt ((b 11).y 0) 1)),(22,.m (ld 7 (.bool true))),(23,.v (.bool false)),(24,.v (.bool false)),(25,.d),(26,.d),(27,.d),(28,.d),(30,.v (.agg #[.bool false,i6 i,i6 (aT V.D i),.bool true,iN (c7 (c.E:Int) (bZ c V.D i) (V.X (aT V.D i))),.bool false])),(31,.m (bs 8 1)),(32,fC tB (v) V.l 4 8 ([(⟨false,i,(aT V.D i),true,((c7 (c.E:Int) (bZ c V.D i) (V.X (aT V.D i)):Nat):Int),false⟩:Ac)])),(33,.v (pt g 0)),(34,.v (pt g 3)),(35,.m (fS 0 4 (lI ((j 32).val 0) (V.l++([(⟨false,i,(aT V.D i),true,((c7 (c.E:Int) (bZ c V.D i) (V.X (aT V.D i)):Nat):Int),false⟩:Ac)]))) ((j 32).val 0) λbs h=>ar.one ((λ_ h=>h) bs h)))]) N0 [] (λj L=>(L.set 0 (ob g #[pt a 0,.map (some gm),.map (some o),(j 32).val 0] 144)).set 4 (lI ((j 32).val 0) (V.l++([(⟨false,i,(aT V.D i),true,((c7 (c.E:Int) (bZ c V.D i) (V.X (aT V.D i)):Nat):Int),false⟩:Ac)])))++[ob ((j 31).y 0) #[.bool false,i6 i,i6 (aT V.D i),.bool true,iN (c7 (c.E:Int) (bZ c V.D i) (V.X (aT V.D i))),.bool false] 90]) λj=>rr (λ_=>[(0,.l 6),(1,.s 5)]) (λ_=>[(5,i6 0)]) [5] (λ_ L=>L.set 5 (ob (B0 n) (rB 72 (bZ c V.D i)).toArray 217)) λz=>lf (.l [] [] [(j 32).val 0]) [0,1,2,3,4] [] [5] (hf:=by unfold qR nF;(repeat (rw[t]));kernel_rfl)
 exact rr (λk=>[(0,.v (pt g 0)),(1,.v (pt g 0)),(2,.v (pt g 0)),(3,.v (pt g 3)),(4,.m (ld 0 (v))),(5,.v (i6 i)),(6,.m (ls 7 ([i6 (aT V.D i),.bool false]))),(7,.v (pt g 0)),(8,.v (pt g 0)),(9,.v (pt g 0)),(10,.m (ld 0 (pt a 0))),(11,.c [1] [1] (AE a c (et V.D))),(12,.m (ls 6 (rB 72 (bZ c V.D i)))),(13,.v (pt g 0)),(14,.v (pt g 0)),(15,.v (pt g 1)),(16,.m (ld 0 (.map (some gm)))),(17,.v (pt ((b 11).y 0) 0)),(18,.m (ld 7 (i6 (aT V.D i)))),(19,.m (mg 2 (eU V.X gm) gm (aT V.D i) (λ_ h=>h))),(20,.c [] [] (GJ c.E Om (bZ c V.D i) (V.X (aT V.D i)) (by(simp only[LL,f,e];done)) (by(simp only[LL,f,e];done)))),(21,.v (pt ((b 11).y 0) 1)),(22,.m (ld 7 (.bool false))),(23,.v (.bool true)),(24,.v (.bool true)),(25,.v (pt g 0)),(26,.v (pt ((b 11).y 0) 0)),(27,.m (ld 7 (i6 (aT V.D i)))),(28,.c [0,3] [3] (UL g a gm o v V.Z (aT V.D i))),(30,.v (.agg #[.bool false,i6 i,i6 (aT V.D i),.bool false,iN (c7 (c.E:Int) (bZ c V.D i) (V.X (aT V.D i))),.bool ((V.Z (aT V.D i))==1)])),(31,.m (bs 8 1)),(32,fC tB (v) V.l 4 8 ([(⟨false,i,(aT V.D i),false,((c7 (c.E:Int) (bZ c V.D i) (V.X (aT V.D i)):Nat):Int),(V.Z (aT V.D i))==1⟩:Ac)])),(33,.v (pt g 0)),(34,.v (pt g 3)),(35,.m (fS 0 4 (lI ((k 32).val 0) (V.l++([(⟨false,i,(aT V.D i),false,((c7 (c.E:Int) (bZ c V.D i) (V.X (aT V.D i)):Nat):Int),(V.Z (aT V.D i))==1⟩:Ac)]))) ((k 32).val 0) λbs h=>ar.one ((λ_ h=>h) bs h)))]) N0 [] (λk L=>(L.set 0 (ob g #[pt a 0,.map (some gm),.map (some o),(k 32).val 0] 144)).set 4 (lI ((k 32).val 0) (V.l++([(⟨false,i,(aT V.D i),false,((c7 (c.E:Int) (bZ c V.D i) (V.X (aT V.D i)):Nat):Int),(V.Z (aT V.D i))==1⟩:Ac)])))++[ob ((k 31).y 0) #[.bool false,i6 i,i6 (aT V.D i),.bool false,iN (c7 (c.E:Int) (bZ c V.D i) (V.X (aT V.D i))),.bool ((V.Z (aT V.D i))==1)] 90]) λk=>rr (λ_=>[(0,.l 6),(1,.s 5)]) (λ_=>[(5,i6 0)]) [5] (λ_ L=>L.set 5 (ob (B0 n) (rB 72 (bZ c V.D i)).toArray 217)) λA=>lf (.l [] [] [(k 32).val 0]) [0,1,2,3,4] [] [5] (hf:=by unfold qR nF;(repeat (rw[t]));kernel_rfl)
end
theorem UR(c:Cf)(e:b6 c):aa Zl 81 #[.agg #[iN c.R,iN c.S,iN c.B,iN c.M,iN c.C],iN c.E] [] [] (λE=>[ob (E.y 0) #[pt ((E.y 1)) 0,.map (some (E.y 2)),.map (some (E.y 3)),.slice none 0 0] 144,pk (gy (E.y 1) c tx),eU (λ_=>lG) (E.y 2),lJ (λ_=>0) (E.y 3)]) (λE=> .tuple #[pt ((E.y 0)) 0,i6 0]):=by
 exact fG Tryz.func81 λw cs=>ra (λd=>[(2,pt (B0 d) 0),(4,.pointer none),(5,i6 0)]) (λd=>[ob (B0 d) #[iN c.R,iN c.S,iN c.B,iN c.M,iN c.C] 23]) λd=>rr (λ_=>[(0,.l 0),(2,.c [] [1] (UK c e))]) (λb=>[(6,pt ((B2 b)) 0),(7,i6 0)]) [] (λb L=>L++[pk (gy (B2 b) c tx)]) λb=>rF [] 15 (rr (λ_=>[(1,.m (mm 2 qP lG)),(2,.m (mm 3 AJ 0))]) (λa=>[(4,pt (B4 a) 0),(5,i6 0)]) [4,5] (λa L=>L++[eU (λ_=>lG) (B1 a),lJ (λ_=>0) (B2 a),ob (B4 a) #[pt ((B2 b)) 0,.map (some (B1 a)),.map (some (B2 a)),.slice none 0 0] 144]) λa=>lf (.l [(a 4).y 0,(B2 b),(a 1).y 0,(a 2).y 0] [] []) [4,1,2,3] [] [])
theorem US(n:Nat):max (n:Int) 0=((n+0:Nat):Int):=by omega
theorem UT(c d g h j i n:Nat)(v:Value)(l:List Ac)(bs:ay)(f:aK AH v l bs)(G:l.length≤1000000)(u:n≤1000000):ft 5 Zl 60 #[pt c 0,pt d 0] (λ(x:Nat×Ac)=>#[i6 (x.1:Int),.agg #[.bool (x.2.wr),i6 (x.2.ix),i6 (x.2.wt),.bool (x.2.dr),i6 (x.2.ex),.bool (x.2.mr)]]) ((ZH (l.length-n)).map λk=>(n+k,l.getD (n+k) ff)) (aac [[(c,.cells #[iN n] 3 (0,0))],[(d,.cells #[pt g 0] 84 (0,0))],[(g,.cells #[pt h 0,.map (some j),.map (some i),v] 144 (0,0))],bs]):=by
 refine gi (KO:=[[(c,.cells #[iN n] 3 (0,0))],[(d,.cells #[pt g 0] 84 (0,0))],[(g,.cells #[pt h 0,.map (some j),.map (some i),v] 144 (0,0))],bs]) Tryz.func60 (λw z y F C m r q=>?_);refine r0 [(0,.l 0),(1,.t (tv (Builtin.max_ #[3,3] 3 #[iN n,i6 0]) (λ_=>r9 _ _ _ _)))] [(4,i6 (max (n:Int) 0))] [] ?_;refine j9 (λk=>k≤(l.length-n)) (λk=>[(4,iN (n+k))]) (λ_ L=>L) (λk=>(l.length-n)-k) (λk=>k) 0 Om q (by rw[US];kernel_rfl) Kr (λk A D s b=>?_);refine r0 [(1,.l 1),(4,.l 2),(5,eP f.1 3)] [(13,.bool (decide (((n+k:Nat):Int)<(l.length:Int))))] [] ?_;refine cj ((n+k:Nat):Int) (l.length:Int) (λp e=>?_) λp e=>?_
 ·refine iy m r b 9 (λ_=>[(2,.l 1),(5,.l 2),(7,fv f.1 3 (n+k) 6),(8,nb tB f.1 3 (n+k) 0 6)]) (λ_=>[(16,.func (.yield w) #[] #[]),(17,iN (n+k)),(24,.agg #[.bool ((l.getD (n+k) ff).wr),i6 ((l.getD (n+k) ff).ix),i6 ((l.getD (n+k) ff).wt),.bool ((l.getD (n+k) ff).dr),i6 ((l.getD (n+k) ff).ex),.bool ((l.getD (n+k) ff).mr)])]) [] (λ_ L=>L) N0 [0,1,2,3] (oN Om) (λH B o a=>?_);refine cF _ rfl (r0 [(1,ad (n+k) 1)] [(4,iN ((n+k)+1))] [4] ?_);exact iR (k+1) Om a Om Kr [0,1,2,3] Kr
 refine ka ?_;exact k7 m b (by(rw[Zw,ZI];omega)) [] [0,1,2,3]
theorem UU(g n:Nat):aa Zl 31 #[pt g 0,iN n] [] [] (λE=>[ob (E.y 0) #[iN n] 3,ob (E.y 1) #[pt g 0] 84]) (λE=> .func (.func 60) #[] #[pt ((E.y 0)) 0,pt ((E.y 1)) 0]):=by
 exact fG Tryz.func31 λw cs=>ra (λa=>[(2,pt (B0 a) 0),(3,pt (B1 a) 0),(4,.nilFunc)]) (λa=>[ob (B0 a) #[pt g 0] 84,ob (B1 a) #[iN n] 3]) λa=>r0 [] [(4,.func (.func 60) #[] #[pt (B1 a) 0,pt (B0 a) 0])] [4] (lf (.l [(a 1).y 0,(a 0).y 0] [] []) [1,0] [] [])
def mV(a:Ac):Bool:=a.dr||(a.wt != a.ix)
theorem UW(x:Ac):aa Zl 32 #[.agg #[.bool x.wr,i6 x.ix,i6 x.wt,.bool x.dr,i6 x.ex,.bool x.mr]] [] [] N0 (λ_=> .bool (mV x)):=by
 exact fG Tryz.func32 λw cs=>ra (λa=>[(1,pt (B0 a) 0),(2,.bool false)]) (λa=>[ob (B0 a) #[.bool x.wr,i6 x.ix,i6 x.wt,.bool x.dr,i6 x.ex,.bool x.mr] 90]) λa=>r0 [(0,.v (pt (B0 a) 2)),(1,.v (pt (B0 a) 3)),(2,.m (ld 0 (.bool x.dr))),(3,.v (.bool x.dr)),(4,.v (pt (B0 a) 2)),(5,.v (pt (B0 a) 2)),(6,.m (ld 0 (i6 x.wt))),(7,.v (pt (B0 a) 1)),(8,.m (ld 0 (i6 x.ix))),(9,.v (.bool (x.wt != x.ix))),(11,.v (.bool (x.dr||(x.wt != x.ix))))] [(2,.bool (x.dr||(x.wt != x.ix)))] [2] (ao (.bool (x.dr||(x.wt != x.ix))) ab.zero bc [] [] [])
theorem UX(c:Cf)(a:b6 c):aa Zl 81 #[.agg #[iN c.R,iN c.S,iN c.B,iN c.M,iN c.C],iN c.E] [] [] (λE=>[pk (bo (E.y 0) (E.y 1) c tC)]) (λE=> .tuple #[pt (E.y 0) 0,i6 0]):=(UR c a).outs λE d b=>Ag (S:=bo (E.y 0) (E.y 1) c tC) ⟨_,_,_,rfl⟩ b
theorem ft.mono{α:Type}{n:Nat}{P:Program}{j:Nat}{k:Array Value}{encs:α→Array Value}{xs:List α}{KO a:ay}(h:ft n P j k encs xs KO)(hs:KO.Sublist a):ft n P j k encs xs a:=by
 intro l J m W O c t g u v r;refine h l J m W O ⟨λx d=>c.obj x (hs.subset d),c.nd.sublist hs⟩ t g u (λi x p q d z B=>(v i x p q d z B).mono λe C y=>?_) r;obtain⟨o,f,s⟩:=y;exact⟨o,⟨f.size,f.old,f.new,λb w A=>f.keep b w (A.imp id λ⟨x,d,e⟩=>⟨x,hs.subset d,e⟩)⟩,s⟩
section
section
variable {P:Program} {f:FuncId} {args:Array Value} {rd:aj} {wt:ab→aj} {v:ab→Value}
theorem aa.sub(h:aa P f args rd [] wt v){L:aj}(js:List Nat)(d:(dp js,js.map λj=>L[j]?)=(true,rd.map some)):aa P f args L [] wt v:=by
 have r:=nR (ALca (·.1) d);have d:=ALca (·.2) d;simp only at d;refine⟨h.ent,λw cs p o=>?_⟩;have n:=rO o.nd;have q: ∀(js:List Nat) (rd:aj),js.map (λj=>L[j]?)=rd.map some→bt rd (js.map λj=>cs.getD j []):=by
  intro js
  induction js with
  | nil=>intro rd e;cases rd with
   | nil=>trivial
   | cons x rd=>cases e
  | cons j js ih=>intro rd e;cases rd with
   | nil=>cases e
   | cons x rd=>
    rw[aab,aab,List.cons.injEq] at e;exact⟨m4 p e.1,ih rd e.2⟩
 have k: ∀j∈js,j<cs.length:=by
  intro j c;have:L[j]?∈js.map λj=>L[j]? :=List.mem_map_of_mem c;rw[d] at this;obtain⟨x,_,e⟩:=List.mem_map.1 this;rw[←jJ p];exact(List.getElem?_eq_some_iff.1 e.symm).1
 have:=h.out w (js.map λj=>cs.getD j []) (q js rd d) ⟨λy m=>?_,?_⟩
 ·simpa using this
 ·obtain⟨l,i,m⟩:=List.mem_flatten.1 m;obtain⟨j,c,rfl⟩:=List.mem_map.1 i;exact o.obj y (List.mem_flatten.2 ⟨_,nS (k j c),m⟩)
 ·refine List.pairwise_flatten.2 ⟨λl i=>?_,?_⟩
  ·obtain⟨j,_,rfl⟩:=List.mem_map.1 i;exact n.1 j
  ·exact List.Pairwise.map _ (λa b g=>n.2 a b g) r
end
abbrev dN(g:Nat)(L:aj):Prop:=∃(b a f:Nat) (u:Value),L=[ob g #[pt b 0,pt a 0] 242,ob b (rB 74 (a6 10)++rI 256 (bK 10)).toArray 298,ob a #[pt f 0,u] 309,ob f (rB 255 aR++rN 256 aY).toArray 312,bD u cE]
theorem UY:aa Zl 115 #[] [] [] (λE=>[pk (dN (E.y 0))]) (λE=>pt (E.y 0) 0):=Og.outs λE b a=>s9 (S:=dN (E.y 0)) ⟨_,_,_,_,rfl⟩ a
def eu(m:Nat)(l:List UInt8)(x:Int)(p:Bool):List UInt8:=if m=1 then bU 9 (eZ l x p) 8 else bU 36 (eG l x p) 2
theorem pK(m:Nat){l:List UInt8}(a:l.length=64)(x:Int)(p:Bool):(eu m l x p).length=72:=by
 unfold eu
 split
 ·exact oh (oi l x p) Dc
 ·exact oh (pf a x p) Dc
def mW(m:Nat)(xs:List UInt8)(x:Int):List UInt8:=if m=1 then pb xs x else pd xs x
def nH(m:Nat)(xs:List UInt8)(x:Int):List Int:=if m=1 then(ZH 8).map (dK xs x) else(ZH 2).map (cK xs x)
def j0(m:Nat)(xs:List UInt8)(x:Int):Nat:=(jK (nH m xs x)).toNat
def ib(m:Nat)(xs:List UInt8)(x:Int):Nat:=(gF (nH m xs x)).toNat
theorem UZ(xs:List UInt8)(x:Int)(k:Nat):dK xs x k≤3:=by
 unfold dK ki;generalize dm _ _=z;cases z==0<;>cases z==1<;>cases z==2<;>cases z==3<;>decide
theorem U0(m:Nat)(xs:List UInt8)(x:Int):j0 m xs x≤3:=by
 have h:jK (nH m xs x)≤3:=EM Dc λy a=>by
  unfold nH at a
  split at a
  ·obtain⟨k,_,rfl⟩:=List.mem_map.1 a;exact UZ xs x k
  ·obtain⟨k,_,rfl⟩:=List.mem_map.1 a;exact P9 xs x k
 unfold j0;omega
theorem U1(m:Nat)(xs:List UInt8)(x:Int):((j0 m xs x:Nat):Int)=jK (nH m xs x):=ZZ (EL _)
theorem U2(m:Nat)(xs:List UInt8)(x:Int):((ib m xs x:Nat):Int)=gF (nH m xs x):=by
 refine ZZ ?_;unfold gF;cases jK (nH m xs x) != 1
 ·exact(Ee _).1
 ·exact Int.le_refl _
theorem U3(m:Nat)(e:m=1∨m=2)(g:Nat)(l:List UInt8)(c:l.length=64)(x:Int)(h0: -9223372036854775808≤x)(h1:x≤9223372036854775807)(p:Bool):aa Zl 125 #[pt g 0,iN m,.agg (rB 64 l).toArray,i6 x,.bool p] [pk (dN g)] [] N0 (λ_=> .agg (rB 72 (eu m l x p)).toArray):=by
 refine aa.pkR (rest:=[]) (enters_of Tryz.func125 Kr rfl) λL d=>?_;obtain⟨b,a,f,u,rfl⟩:=d;unfold eu;rcases e with rfl | rfl
 ·exact(OM g b a l c x p).sub [0,1] rfl
 ·exact(aa.at (rd':=[ob g #[pt b 0,pt a 0] 242,ob a #[pt f 0,u] 309,ob f (rB 255 aR++rN 256 aY).toArray 312,bD u cE]) (ON g b a f u l c x h0 h1 p) (atS (atS (atS (bO (λ_ h=>ar.sq h) λ_ h=>h))))).sub [0,2,3,4] rfl
theorem U4(m:Nat)(e:m=1∨m=2)(g:Nat)(xs:List UInt8)(c:xs.length=72)(x:Int)(h0: -9223372036854775808≤x)(h1:x≤9223372036854775807):aa Zl 124 #[pt g 0,iN m,.agg (rB 72 xs).toArray,i6 x] [pk (dN g)] [] N0 (λ_=> .tuple #[.agg (rB 64 (mW m xs x)).toArray,.agg #[i6 ((j0 m xs x:Nat):Int),i6 ((ib m xs x:Nat):Int)]]):=by
 refine aa.pkR (rest:=[]) (enters_of Tryz.func124 Kr rfl) λL d=>?_;obtain⟨b,a,f,u,rfl⟩:=d;rw[U1,U2];unfold mW nH;rcases e with rfl | rfl
 ·exact(OK g b a xs c x).sub [0,1] rfl
 ·exact(aa.at (rd':=[ob g #[pt b 0,pt a 0] 242,ob a #[pt f 0,u] 309,ob f (rB 255 aR++rN 256 aY).toArray 312,bD u cE]) (OL g b a f u xs c x h0 h1) (atS (atS (atS (bO (λ_ h=>ar.sq h) λ_ h=>h))))).sub [0,2,3,4] rfl
theorem U5(j d b a l m o:Nat)(c:Cf)(s:Le)(K:Nat)(hs:Y7 s K)(t:K+3≤1000000000)(q:c.H≤65536)(n:Nt)(p:n.v≤3)(e:n.r<s.r.m.R)(u:n.h<s.r.m.R*s.r.m.B*s.r.m.M):aa Zl 163 #[pt j 0,.agg #[i6 1,iN n.v,iN n.f,iN n.i,iN n.h,iN n.r]] [ob j (lA c d b a s.time) 122,pk (au d l m s.r),pk (aD b o s.k),pk (az a s.g)] [1,2,3] (λ_=>[pk (au d l m (dh c.H s n).r),pk (aD b o (dh c.H s n).k),pk (az a (dh c.H s n).g)]) (λ_=> .tuple #[]):=by
 obtain⟨k,v,f,i,h,r⟩:=n;simp only at p e u
 match v,p with
 | 0,_=>exact T3 j d b a l m o c s K hs i h r f
 | 1,_=>exact T1 j d b a l m o c s K hs t q i h r f e u
 | 2,_=>exact T4 j d b a l m o c s K hs t i h r f
 | 3,_=>exact T2 j d b a l m o c s K hs t q i h r f e u
theorem U6(t m j i n o p:Nat)(c:Cf)(s:Le)(K:Nat)(hs:Y7 s K)(z:K+3≤1000000000)(y:c.H≤65536)(d e h a b:Nat)(u:d≤3)(x:b<s.r.m.R)(A:a<s.r.m.R*s.r.m.B*s.r.m.M):aa Zl 128 #[pt t 0,.agg #[i6 1,iN d,iN e,iN h,iN a,iN b]] [ob t (lA c m j i s.time) 122,pk (au m n o s.r),pk (aD j p s.k),pk (az i s.g)] [1,2,3] (λ_=>[pk (au m n o (dh c.H s (⟨1,d,e,h,a,b⟩:Nt)).r),pk (aD j p (dh c.H s (⟨1,d,e,h,a,b⟩:Nt)).k),pk (az i (dh c.H s (⟨1,d,e,h,a,b⟩:Nt)).g)]) (λ_=> .tuple #[]):=by
 refine fG Tryz.func128 λw cs=>ra (λq=>[(3,pt (B0 q) 0)]) (λq=>[ob (B0 q) #[i6 1,iN d,iN e,iN h,iN a,iN b] 81]) λq=>r0 [(1,.l 4)] [(8,i6 1)] [] (rT [] 9 (rr (λ_=>[(1,.l 4),(2,.c [0,1,2,3] [1,2,3] (U5 t m j i n o p c s K hs z y (⟨1,d,e,h,a,b⟩:Nt) u x A))]) N0 [] (λ_ L=>((L.set 1 ((pk (au m n o (dh c.H s (⟨1,d,e,h,a,b⟩:Nt)).r)))).set 2 ((pk (aD j p (dh c.H s (⟨1,d,e,h,a,b⟩:Nt)).k)))).set 3 ((pk (az i (dh c.H s (⟨1,d,e,h,a,b⟩:Nt)).g)))) λB=>?_));exact eF ab.zero [1,2,3] [(0,0)] []
theorem U7(e d a b i j g:Nat)(c:Cf)(s:Le)(K:Nat)(hs:Y7 s K)(k:s.time≤1000000000000000):aa Zl 128 #[pt e 0,.agg #[i6 2,i6 0,i6 0,i6 0,i6 0,i6 0]] [ob e (lA c d a b s.time) 122,pk (au d i j s.r),pk (aD a g s.k),pk (az b s.g)] [0,1,2,3] (λ_=>[ob e (lA c d a b ((s.time+1:Nat))) 122,pk (au d i j s.r),pk (aD a g (mQ s.k)),pk (az b s.g)]) (λ_=> .tuple #[]):=by
 refine fG Tryz.func128 λw cs=>ra (λh=>[(3,pt (B0 h) 0)]) (λh=>[ob (B0 h) #[i6 2,i6 0,i6 0,i6 0,i6 0,i6 0] 81]) λh=>r0 [(1,.l 4)] [(8,i6 2)] [] (rF [] 9 (rT [] 14 (rs [(3,.l 0),(4,ad s.time 1),(7,.s 0)] 0 (ob e (lA c d a b ((s.time+1:Nat))) 122) (rs [(3,.l 0),(4,.c [2] [2] (Tg a g s.k hs.k))] 2 ((pk (aD a g (mQ s.k)))) ?_))));exact eF ab.zero [0,1,2,3] [] []
theorem U8(q a n j d i p:Nat)(c:Cf)(s:Le)(K:Nat)(hs:Y7 s K)(C:K+257≤1000000000)(u:s.r.j.A≠0)(x:s.r.j.nx<eH s.r.j.A s.r.m.B s.r.m.M s.r.m.C):aa Zl 128 #[pt q 0,.agg #[i6 3,i6 0,i6 0,i6 0,i6 0,i6 0]] [ob q (lA c a n j s.time) 122,pk (au a d i s.r),pk (aD n p s.k),pk (az j s.g)] [1,2,3] (λ_=>[pk (au a d i (iJ s).r),pk (aD n p (iJ s).k),pk (az j (iJ s).g)]) (λ_=> .tuple #[]):=by
 have B:=hs.n;have b:=Gn hs.r u x;have A:=hs.r;refine fG Tryz.func128 λw cs=>ra (λt=>[(3,pt (B0 t) 0)]) (λt=>[ob (B0 t) #[i6 3,i6 0,i6 0,i6 0,i6 0,i6 0] 81]) λt=>r0 [(1,.l 4)] [(8,i6 3)] [] (rF [] 9 (rF [] 14 (rT [] 28 (r0 [(3,.l 0),(4,.c [1] [1] (z9 a d i s.r A))] [(4,iN s.r.j.A)] [] (rr (λ_=>[(3,.l 0),(4,.c [1] [1,5] (Sp a d i s.r hs.r u x))]) (λo=>[(5,(o 4).val 0)]) [] (λo L=>L.set 1 ((pk (au a d i (eR s.r).1)))++[bg ((o 4).val 0) ((eR s.r).2)]) λo=>rr (λ_=>[(3,.c [0,1,2,3,5] [1,2,3] (aa.at (rd':=[ob q (lA c a n j s.time) 122,pk (au a d i (eR s.r).1),pk (aD n p s.k),pk (az j s.g),bg ((o 4).val 0) ((eR s.r).2)]) (pH q a n j d i p c s.time ((eR s.r).1) b.1 s.k hs.k s.g hs.g s.r.j.A ((o 4).val 0) ((eR s.r).2) (by have y:=b.2.1;omega) (by have y:=b.2.1;omega) (λe z=>(b.2.2 e z).ly (wq s.r)) (hs.rk.trans (wq s.r).R.symm)) (atS (atS (atS (atS (bO (λ_ h=>ar.sq h) (λ_ h=>h))))))))]) N0 [] (λ_ L=>((L.set 1 ((pk (au a d i ((eR s.r).1))))).set 2 ((pk (aD n p (fp s.r.j.A s.k ((eR s.r).2)))))).set 3 ((pk (az j (eT ((eR s.r).1).m s.r.j.A s.time s.g ((eR s.r).2)))))) λD=>?_)))));exact eF ab.zero [1,2,3] [(0,0)] [] (hf:=by kernel_rfl)
theorem U9(g e d a h i j:Nat)(c:Cf)(s:Le)(K:Nat)(hs:Y7 s K):aa Zl 128 #[pt g 0,.agg #[i6 4,i6 0,i6 0,i6 0,i6 0,i6 0]] [ob g (lA c e d a s.time) 122,pk (au e h i s.r),pk (aD d j s.k),pk (az a s.g)] [1,2,3] (λ_=>[pk (au e h i s.r),pk (aD d j s.k),pk (az a (nA s.g))]) (λ_=> .tuple #[]):=by
 refine fG Tryz.func128 λw cs=>ra (λb=>[(3,pt (B0 b) 0)]) (λb=>[ob (B0 b) #[i6 4,i6 0,i6 0,i6 0,i6 0,i6 0] 81]) λb=>r0 [(1,.l 4)] [(8,i6 4)] [] (rF [] 9 (rF [] 14 (rF [] 28 (rT [] 48 (rs [(3,.l 0),(4,.c [3] [3] (SC a s.g))] 3 ((pk (az a (nA s.g)))) ?_)))));exact eF ab.zero [1,2,3] [(0,0)] []
end
section
structure tE (c:Cf) (m:Mp):Prop where
 R:m.R=c.R
 S:m.S=c.S
 B:m.B=c.B
 M:m.M=c.M
 C:m.C=c.C
 G:m.G=c.G
 res:m.res=c.res
theorem tE.tr{c:Cf}{m a:Mp}(h:tE c m)(e:eO m a):tE c a:=⟨e.R.trans h.R,e.S.trans h.S,e.B.trans h.B,e.M.trans h.M,e.C.trans h.C,e.G.trans h.G,e.res.trans h.res⟩
def ic(r:Rp):Prop:=r.j.A≠0→r.j.nx<eH r.j.A r.m.B r.m.M r.m.C
theorem GX{m:Mp}(h:bf m){k:Nat}(b:k=1∨k=2):0<eH k m.B m.M m.C:=by
 have a:=h.O.bd;rcases b with rfl | rfl
 ·exact a.c1
 ·exact Nat.mul_pos (Nat.mul_pos a.b1 a.m1) a.c1
theorem GY{r:Rp}(d:bf r.m){a:Ak}(g:eJ r.m a)(h:ic r):ic (de r a):=by
 have e:=GX d (.inl rfl);have f:=GX d (.inr rfl);unfold de;rcases g.k with⟨b,_⟩ | ⟨b,_⟩
 ·rw[b];show ic (bif dy r.m then _ else _);cases dy r.m
  ·exact h
  ·exact λ_=>e
 ·rw[b];show ic (bif dY r.m then _ else _);cases dY r.m
  ·exact h
  ·exact λ_=>f
theorem GZ{r:Rp}(d:aO r){a:Ak}(b:eJ r.m a)(h:ic r):ic (bq r a):=by
 unfold bq;cases c8 r a
 ·cases r.j.A==0
  ·exact h
  ·exact GY d.m b h
 ·exact h
theorem G0{r:Rp}(a:Ak)(h:r.j.A≠0):(bq r a).j=r.j∧(bq r a).m=r.m:=by
 unfold bq;cases c8 r a
 ·rw[show(r.j.A==0)=false from db.2 h];exact⟨rfl,rfl⟩
 ·exact⟨rfl,rfl⟩
theorem Va{s:Rp×List Ev}(a:aO s.1)(d:0<s.1.q.length)(h:ic s.1):ic (gI s).1:=by
 have b:=tp a d;unfold gI;cases c8 (aZ s.1) (s.1.q.headD aN)
 ·exact GY (r:=aZ s.1) a.m ⟨b.k⟩ h
 ·exact h
theorem G1: ∀(n:Nat) (s:Rp×List Ev),n=s.1.q.length→aO s.1→ic s.1→ic (e3 n s).1
 | 0,s,_,_,h=>h
 | n+1,s,d,b,h=>by
  unfold e3
  split
  ·have a:0<s.1.q.length:=by omega
   exact G1 n (gI s) (by rw[z5,Z5];omega) (z4 b a) (Va b a h)
  ·exact h
theorem Vb{r:Rp}(f:aO r)(b:r.j.A≠0)(h:ic r):ic (eR r).1:=by
 have d:=h b;unfold eR;cases a:kN r.m (bu r).j
 ·intro _;unfold kN at a;have g: ¬(r.j.nx+1=eH r.j.A r.m.B r.m.M r.m.C):=by
   intro e;rw[Bool.and_eq_false_iff] at a;rcases a with a | a
   ·exact absurd (of_decide_eq_false a) (λq=>q b)
   ·exact of_decide_eq_false a e
  show r.j.nx+1<eH r.j.A r.m.B r.m.M r.m.C;omega
 ·exact G1 _ (af (bu r)) (by unfold af gS;rfl) (v5 (qF f b d) b) (λq=>absurd rfl q)
theorem Vc{s:Le}{K b a w:Nat}(x:Re)(h:Y7 s K)(f:b<s.r.m.R)(e:a<s.r.m.R*s.r.m.B*s.r.m.M)(d:ic s.r):ic (gn s b a w x).r:=by
 unfold gn;cases cU s.k.lp (dg s.k.t a).l w
 ·exact d
 ·exact GZ h.r ⟨.inl ⟨rfl,e⟩⟩ d
theorem G2{s:Le}{K a b w:Nat}(x:Re)(h:Y7 s K)(d:a<s.r.m.R)(f:b<s.r.m.R*s.r.m.B*s.r.m.M)(i:K+3≤1000000000)(j:ic s.r):ic (fe s a b w x).r:=by
 have g:=Gr (w:=w) x h d f i;have e:=Vc (w:=w) x h d f j;unfold fe;cases cU s.k.lr (s.k.F.getD a bj).l w
 ·exact e
 ·exact GZ g.r ⟨.inr ⟨rfl,by rw[(tu s a b w x).R];exact d⟩⟩ e
theorem Ve{heavy K:Nat}{s:Le}{n:Nt}(h:Y7 s K)(e:n.r<s.r.m.R)(d:n.h<s.r.m.R*s.r.m.B*s.r.m.M)(b:K+3≤1000000000)(a:ic s.r):ic (dh heavy s n).r:=by
 unfold dh
 split
 ·exact a
 split
 ·exact G2 _ h e d b a
 split
 ·exact a
 ·exact G2 _ h e d b a
theorem Vf(s:Le)(b a w:Nat)(x:Re)(h:s.r.j.A≠0):(gn s b a w x).r.j=s.r.j∧(gn s b a w x).r.m=s.r.m:=by
 unfold gn;cases cU s.k.lp (dg s.k.t a).l w
 ·exact⟨rfl,rfl⟩
 ·exact G0 (r:=s.r) _ h
theorem G3(s:Le)(a b w:Nat)(x:Re)(h:s.r.j.A≠0):(fe s a b w x).r.j=s.r.j∧(fe s a b w x).r.m=s.r.m:=by
 have d:=Vf s a b w x h;unfold fe;cases cU s.k.lr (s.k.F.getD a bj).l w
 ·exact d
 ·have e:=G0 (r:=(gn s a b w x).r) ⟨2,a⟩ (by rw[d.1];exact h);exact⟨e.1.trans d.1,e.2.trans d.2⟩
theorem G4(heavy:Nat)(s:Le)(n:Nt)(h:s.r.j.A≠0):(dh heavy s n).r.j=s.r.j∧(dh heavy s n).r.m=s.r.m:=by
 unfold dh
 split
 ·exact⟨rfl,rfl⟩
 split
 ·exact G3 _ _ _ _ _ h
 split
 ·exact⟨rfl,rfl⟩
 ·exact G3 _ _ _ _ _ h
theorem Vg{R S B M C a p1 p2 p3:Nat}(b:cG R S B M C)(h:gR R S B M C a p1 p2 p3):gx R S B M C ((bI a p1 p2 p3:Nat):Int)=true:=by
 rw[←vQ];refine AF b (vM.2 ?_);have:=h.h0;have:=h.h1;have:=h.h2;have:=h.h3;omega
structure jG (R S B M C i:Nat):Prop where
 ex: ∃p0 p1 p2 p3,i=bI p0 p1 p2 p3∧gR R S B M C p0 p1 p2 p3
theorem jG.has{R S B M C i:Nat}(h:jG R S B M C i)(a:cG R S B M C):gx R S B M C (i:Int)=true:=by
 obtain⟨d,e,f,g,rfl,b⟩:=h.ex;exact Vg a b
theorem jG.bd{R S B M C i:Nat}(h:jG R S B M C i)(a:cG R S B M C):i<8388608:=by
 obtain⟨d,e,f,g,rfl,b⟩:=h.ex;exact zL a.bd b
theorem AM(m:Mp)(p i:Nat):bB m p*64+i=bI (gH m p) (dX m.G m.R m.B m.M p) (dV m.G m.R m.B m.M p) i:=by unfold bB bI;omega
theorem AN{m:Mp}(h:bf m){p i:Nat}(hp:p<m.R*m.B*m.M)(b:i<m.C):jG m.R m.S m.B m.M m.C (aU m 1 p i):=by
 have a:=qv h hp;exact⟨_,_,_,_,AM m p i,a.h0,a.h1,a.h2,b⟩
theorem AO{m:Mp}(h:bf m){r i:Nat}(b:r<m.R+m.S)(a:i<m.B*m.M*m.C):jG m.R m.S m.B m.M m.C (aU m 2 r i):=⟨_,_,_,_,rfl,ot h b a⟩
theorem G5{m:Mp}{j:Jb}(h:bf m)(b:th m j){n:Nat}(d:n<(m.R*m.B*m.M-m.res)*m.C):jG m.R m.S m.B m.M m.C (aJ m j n):=by
 have a:jG m.R m.S m.B m.M m.C (cM m n):=⟨_,_,_,_,pr m n,qz h d⟩;rcases b.k with e | ⟨e,b⟩ | ⟨e,b⟩
 ·rw[e];exact a
 ·unfold aJ;rw[e];show jG _ _ _ _ _ (if aq m n=j.fr then _ else _)
  split
  ·split
   ·exact AN h b.ht (Nat.mod_lt _ h.O.bd.c1)
   ·exact a
  ·exact a
 ·unfold aJ;rw[e];show jG _ _ _ _ _ (if aG m.G m.R m.B m.M (aq m n)=j.fr then _ else _)
  split
  ·split
   ·have:=b.t1;have:=h.rk;exact AO h Om (tj h d)
   ·exact a
  ·exact a
structure Ct where
 s:Le
 U:Nat
 ns:List Nt
 V:Dv
structure ba (c:Cf) (x:Ct) (K A:Nat):Prop where
 cf:b6 c
 s:Y7 x.s K
 D:iK c x.V.D
 gl: ∀k,(x.V.X k).length=72
 vl:x.V.l.length≤A
 nl:x.ns.length≤A
 ly:tE c x.s.r.m
 run:ic x.s.r
 U:x.U<(c.R*c.B*c.M-c.res)*c.C
 time:x.s.time≤1099511627776
theorem ba.mono{c:Cf}{x:Ct}{K A b a:Nat}(h:ba c x K A)(d:K≤b)(hA:A≤a):ba c x b a:=⟨h.cf,h.s.mono d,h.D,h.gl,Zu h.vl hA,Zu h.nl hA,h.ly,h.run,h.U,h.time⟩
theorem ba.dv{c:Cf}{x:Ct}{K A:Nat}(h:ba c x K A)(hA:A≤900000):nE c x.V:=⟨h.D,h.gl,Zu h.vl hA⟩
theorem b6.O{c:Cf}(h:b6 c):cG c.R c.S c.B c.M c.C:=h.ly.O
theorem jG.lay{c:Cf}{m:Mp}(e:tE c m){i:Nat}(h:jG m.R m.S m.B m.M m.C i):jG c.R c.S c.B c.M c.C i:=by rw[e.R,e.S,e.B,e.M,e.C] at h;exact h
def mo(c:Cf)(x:Ct)(i:Nat)(l:List UInt8)(p:Bool):Ct:={x with V:=iL x.V (i:Int) (eu c.E l (i:Int) p) (bif p then 1 else 0)}
def kq(c:Cf)(x:Ct)(i:Nat):List UInt8:=bZ c x.V.D (i:Int)
def bC(c:Cf)(x:Ct)(i:Nat):Nat:=j0 c.E (kq c x i) (i:Int)
def cx(c:Cf)(x:Ct)(i:Nat):List UInt8:=mW c.E (kq c x i) (i:Int)
def kS(c:Cf)(x:Ct)(i h r:Nat):Nt:=⟨1,bC c x i,ib c.E (kq c x i) (i:Int),i,h,r⟩
def bX(c:Cf)(x:Ct)(i h r:Nat):Ct:=⟨⟨(dh c.H x.s (kS c x i h r)).r,(dh c.H x.s (kS c x i h r)).k,(dh c.H x.s (kS c x i h r)).g,x.s.time⟩,x.U,x.ns++[kS c x i h r],qR c x.V (i:Int)⟩
def aA(x:Ct)(n:Nat):Nat:=aJ x.s.r.m x.s.r.j n
def lK(x:Ct)(n:Nat):Nat:=aq x.s.r.m n
def lL(x:Ct)(n:Nat):Nat:=aG x.s.r.m.G x.s.r.m.R x.s.r.m.B x.s.r.m.M (aq x.s.r.m n)
def kr(c:Cf)(x:Ct)(n:Nat):Ct:=bX c x (aA x n) (lK x n) (lL x n)
def kt(x y:Ct):Ct:=⟨⟨y.s.r,y.s.k,y.s.g,x.s.time⟩,x.U,y.ns,y.V⟩
def cy(c:Cf)(x:Ct)(n:Nat)(a:Bool):Ct:=kt x<| bif (((bC c x (aA x n):Nat):Int)==1)&&a then mo c (kr c x n) (aA x n) (cx c x (aA x n)) false else kr c x n
def cb(k:Nat):Int:=bif (k:Int)==3 then 40 else bif (k:Int)==2 then 41 else 0
section
variable {c:Cf} {x:Ct} {K A:Nat}
theorem nI(m:Nat){xs:List UInt8}(a:xs.length=72)(x:Int):(mW m xs x).length=64:=by
 unfold mW pb pd
 split
 ·cases decide (2≤jK ((ZH 8).map (dK xs x)))
  ·exact lj _ _ _
  ·exact Zs
 ·cases decide (2≤jK ((ZH 2).map (cK xs x)))
  ·exact vE (sS a x) (ZB 2)
  ·exact Zs
theorem qS(h:ba c x K A){i:Nat}{l:List UInt8}(a:l.length=64)(p:Bool):ba c (mo c x i l p) K (A+1):=by
 refine⟨h.cf,h.s,GQ h.D _ (pK _ a _ _),tA h.gl _ (pK _ a _ _),?_,Nat.le_succ_of_le h.nl,h.ly,h.run,h.U,h.time⟩;show(x.V.l++[_]).length≤A+1;rw[Zn];exact ZJ h.vl
theorem AP(h:ba c x K A){i b r:Nat}(f:r<x.s.r.m.R)(e:b<x.s.r.m.R*x.s.r.m.B*x.s.r.m.M)(d:K+3≤1000000000):ba c (bX c x i b r) (K+3) (A+1):=by
 have a:=TU (heavy:=c.H) (n:=kS c x i b r) h.s f e d;refine⟨h.cf,⟨a.r,a.k,a.g,a.n,a.rk⟩,tz h.D,h.gl,?_,?_,h.ly.tr (TT c.H x.s (kS c x i b r)),Ve (heavy:=c.H) (n:=kS c x i b r) h.s f e d h.run,h.U,h.time⟩
 ·show(x.V.l++[_]).length≤A+1;rw[Zn];exact ZJ h.vl
 ·show(x.ns++[_]).length≤A+1;rw[Zn];exact ZJ h.nl
theorem wE(h:ba c x K A){n:Nat}(d:n<(c.R*c.B*c.M-c.res)*c.C):aA x n<8388608∧gx c.R c.S c.B c.M c.C ((aA x n:Nat):Int)=true∧lK x n<x.s.r.m.R*x.s.r.m.B*x.s.r.m.M∧lL x n<x.s.r.m.R∧n<(x.s.r.m.R*x.s.r.m.B*x.s.r.m.M-x.s.r.m.res)*x.s.r.m.C:=by
 have a:n<(x.s.r.m.R*x.s.r.m.B*x.s.r.m.M-x.s.r.m.res)*x.s.r.m.C:=by rw[h.ly.R,h.ly.B,h.ly.M,h.ly.C,h.ly.res];exact d
 have b:=(G5 h.s.r.m h.s.r.j a).lay h.ly;exact⟨b.bd h.cf.O,b.has h.cf.O,nz h.s.r.m a,nw h.s.r.m.O,a⟩
theorem qT(h:ba c x K A){n:Nat}(a:n<(c.R*c.B*c.M-c.res)*c.C)(b:K+3≤1000000000):ba c (kr c x n) (K+3) (A+1):=AP h (wE h a).2.2.2.1 (wE h a).2.2.1 b
theorem ba.fix{y:Ct}{b a:Nat}(h:ba c x K A)(g:ba c y b a):ba c (kt x y) b a:=⟨g.cf,⟨g.s.r,g.s.k,g.s.g,g.s.n,g.s.rk⟩,g.D,g.gl,g.vl,g.nl,g.ly,g.run,h.U,h.time⟩
theorem G6(h:ba c x K A){n:Nat}(e:n<(c.R*c.B*c.M-c.res)*c.C)(a:Bool)(d:K+3≤1000000000):ba c (cy c x n a) (K+3) (A+2):=by
 have b:=qT h e d;unfold cy;refine h.fix ?_;cases (((bC c x (aA x n):Nat):Int)==1)&&a
 ·exact b.mono (ZB _) (Nat.le_succ _)
 ·exact qS b (nI _ (lH h.D _) _) false
end
end
def Vh:Nt:=⟨0,0,0,0,0,0⟩
def G7(x:Nt):List Value:=[iN x.k,iN x.v,iN x.f,iN x.i,iN x.h,iN x.r]
def wF:Kd Zl Nt:=⟨G7,[i6 0,i6 0,i6 0,i6 0,i6 0,i6 0],117,81,Vh,6,λ_=>rfl,rfl,λ_=>rfl,ec.mk' Kr Kr rfl⟩
abbrev b8(v:Value)(xs:List Nt):aB:= .p (ar G7 ([i6 0,i6 0,i6 0,i6 0,i6 0,i6 0]) 81 v xs)
abbrev aV(h e g j k d l b a i f:Nat)(c:Cf)(x:Ct)(L:aj):Prop:=∃v:Value,L=[ob h #[pt e 0,pt a 0,pt f 0,iN x.U,v] 119,ob e (lA c g d b x.s.time) 122,pk (au g j k x.s.r),pk (aD d l x.s.k),pk (az b x.s.g),pk (dN f),pk (bo a i c x.V),b8 v x.ns]
theorem pL(t q z y x a f g:Nat)(c:Cf)(b:b6 c)(o time:Nat)(v:Value)(V:Dv)(h:nE c V)(i:Nat)(A:i<8388608)(j:gx c.R c.S c.B c.M c.C ((i:Nat):Int)=true)(l:List UInt8)(e:l.length=64)(p:Bool):aa Zl 88 #[pt t 0,iN i,.agg (rB 64 l).toArray,.bool p] [ob t #[pt q 0,pt a 0,pt g 0,iN o,v] 119,ob q (lA c z y x time) 122,pk (dN g),pk (bo a f c V)] [2,3] (λ_=>[pk (dN g),pk (bo a f c (iL V (i:Int) (eu c.E l (i:Int) p) (bif p then 1 else 0)))]) (λ_=> .tuple #[]):=by
 have u:=b.E;have d:=pK c.E e (i:Int) p;refine fG Tryz.func88 λw cs=>ra (λk=>[(6,pt (B0 k) 0)]) (λk=>[ob (B0 k) (rB 64 l).toArray 43]) λk=>rr (λ_=>[(3,.m (ld 0 (pt g 0))),(7,.m (ld 0 (pt q 0))),(11,.m (ld 1 (iN c.E))),(12,.m (ls 4 (rB 64 l))),(15,.c [2] [] (U3 c.E u g l (by(simp only[LL,e,d,e];done)) (i:Int) Om Om p)),(16,.m (al 5)),(17,.s 5)]) (λn=>[(8,pt ((n 16).y 0) 0)]) [] (λn L=>L++[ob ((n 16).y 0) (rB 72 (eu c.E l (i:Int) p)).toArray 217]) λn=>r0 [] [(25,.bool p)] [] ?_;refine cB (p) (λr=>?_) λr=>?_
 ·refine rr (λ_=>[(3,.l 0),(5,.l 5),(6,.c [3] [3] (UP a f c b V h (i:Int) j (eu c.E l (i:Int) p) (by(simp only[LL,e,d,e];done))))]) N0 [] (λ_ L=>L.set 3 ((pk (bo a f c (iL V (i:Int) (eu c.E l (i:Int) p) 1))))) λB=>?_;exact eF ab.zero [2,3] [(0,0),(1,1)] [] (hf:=by(repeat (first | rw[r] | rw[ALct]));kernel_rfl)
 refine rs [(3,.l 0),(5,.l 5),(6,.c [3] [3] (UO a f c b V h (i:Int) j (eu c.E l (i:Int) p) (by(simp only[LL,e,d,e];done))))] 3 ((pk (bo a f c (iL V (i:Int) (eu c.E l (i:Int) p) 0)))) ?_;exact eF ab.zero [2,3] [(0,0),(1,1)] [] (hf:=by(repeat (first | rw[r] | rw[ALcf]));kernel_rfl)
theorem Vi(t p q u x o y n A B:Nat)(c:Cf)(s:Le)(K:Nat)(hs:Y7 s K)(j:Nat)(v:Value)(ns:List Nt)(I:ns.length≤800000)(G:K+3≤1000000000)(F:c.H≤65536)(d e f a b:Nat)(C:d≤3)(D:b<s.r.m.R)(H:a<s.r.m.R*s.r.m.B*s.r.m.M):aa Zl 89 #[pt t 0,.agg #[i6 1,iN d,iN e,iN f,iN a,iN b]] [ob t #[pt p 0,pt A 0,pt B 0,iN j,v] 119,ob p (lA c q o n s.time) 122,pk (au q u x s.r),pk (aD o y s.k),pk (az n s.g),b8 v ns] [0,2,3,4,5] (λE=>[ob t #[pt p 0,pt A 0,pt B 0,iN j,(E.val 0)] 119,pk (au q u x (dh c.H s (⟨1,d,e,f,a,b⟩:Nt)).r),pk (aD o y (dh c.H s (⟨1,d,e,f,a,b⟩:Nt)).k),pk (az n (dh c.H s (⟨1,d,e,f,a,b⟩:Nt)).g),b8 (E.val 0) (ns++([(⟨1,d,e,f,a,b⟩:Nt)]))]) (λ_=> .tuple #[]):=by
 refine fG Tryz.func89 λw cs=>ra (λz=>[(3,pt (B0 z) 0)]) (λz=>[ob (B0 z) #[i6 1,iN d,iN e,iN f,iN a,iN b] 81]) λz=>rr (λi=>[(4,.l 0),(5,.l 6),(6,.m (bs 7 1)),(7,fC wF (v) ns 5 7 ([(⟨1,d,e,f,a,b⟩:Nt)])),(10,.m (fS 0 5 (b8 ((i 7).val 0) (ns++([(⟨1,d,e,f,a,b⟩:Nt)]))) ((i 7).val 0) λbs h=>ar.one ((λ_ h=>h) bs h)))]) N0 [] (λi L=>(L.set 0 (ob t #[pt p 0,pt A 0,pt B 0,iN j,(i 7).val 0] 119)).set 5 (b8 ((i 7).val 0) (ns++([(⟨1,d,e,f,a,b⟩:Nt)])))++[ob (B6 i) #[i6 1,iN d,iN e,iN f,iN a,iN b] 81]) λi=>rr (λ_=>[(3,.l 0),(4,.l 6),(5,.c [1,2,3,4] [2,3,4] (U6 p q o n u x y c s _ hs G F d e f a b C D H))]) N0 [] (λ_ L=>((L.set 2 ((pk (au q u x (dh c.H s (⟨1,d,e,f,a,b⟩:Nt)).r)))).set 3 ((pk (aD o y (dh c.H s (⟨1,d,e,f,a,b⟩:Nt)).k)))).set 4 ((pk (az n (dh c.H s (⟨1,d,e,f,a,b⟩:Nt)).g)))) λJ=>?_;exact eF (.l [] [] [(i 7).val 0]) [0,2,3,4,5] [(1,1)] []
theorem Vj(i e g o q d j f n p:Nat)(c:Cf)(s:Le)(K:Nat)(hs:Y7 s K)(b:Nat)(v:Value)(ns:List Nt)(t:ns.length≤800000)(r:s.time≤1000000000000000):aa Zl 89 #[pt i 0,.agg #[i6 2,i6 0,i6 0,i6 0,i6 0,i6 0]] [ob i #[pt e 0,pt n 0,pt p 0,iN b,v] 119,ob e (lA c g d f s.time) 122,pk (au g o q s.r),pk (aD d j s.k),pk (az f s.g),b8 v ns] [0,1,2,3,4,5] (λE=>[ob i #[pt e 0,pt n 0,pt p 0,iN b,(E.val 0)] 119,ob e (lA c g d f ((s.time+1:Nat))) 122,pk (au g o q s.r),pk (aD d j (mQ s.k)),pk (az f s.g),b8 (E.val 0) (ns++([(⟨2,0,0,0,0,0⟩:Nt)]))]) (λ_=> .tuple #[]):=by
 refine fG Tryz.func89 λw cs=>ra (λk=>[(3,pt (B0 k) 0)]) (λk=>[ob (B0 k) #[i6 2,i6 0,i6 0,i6 0,i6 0,i6 0] 81]) λk=>rr (λa=>[(4,.l 0),(5,.l 6),(6,.m (bs 7 1)),(7,fC wF (v) ns 5 7 ([(⟨2,0,0,0,0,0⟩:Nt)])),(10,.m (fS 0 5 (b8 ((a 7).val 0) (ns++([(⟨2,0,0,0,0,0⟩:Nt)]))) ((a 7).val 0) λbs h=>ar.one ((λ_ h=>h) bs h)))]) N0 [] (λa L=>(L.set 0 (ob i #[pt e 0,pt n 0,pt p 0,iN b,(a 7).val 0] 119)).set 5 (b8 ((a 7).val 0) (ns++([(⟨2,0,0,0,0,0⟩:Nt)])))++[ob (B6 a) #[i6 2,i6 0,i6 0,i6 0,i6 0,i6 0] 81]) λa=>rr (λ_=>[(3,.l 0),(4,.l 6),(5,.c [1,2,3,4] [1,2,3,4] (U7 e g d f o q j c s _ hs r))]) N0 [] (λ_ L=>(L.set 1 (ob e (lA c g d f ((s.time+1:Nat))) 122)).set 3 ((pk (aD d j (mQ s.k))))) λu=>?_;exact eF (.l [] [] [(a 7).val 0]) [0,1,2,3,4,5] [] []
theorem G8(j f i n o e p d t u:Nat)(c:Cf)(s:Le)(K:Nat)(hs:Y7 s K)(b:Nat)(v:Value)(ns:List Nt)(A:ns.length≤800000)(x:K+257≤1000000000)(y:s.r.j.A≠0)(z:s.r.j.nx<eH s.r.j.A s.r.m.B s.r.m.M s.r.m.C):aa Zl 89 #[pt j 0,.agg #[i6 3,i6 0,i6 0,i6 0,i6 0,i6 0]] [ob j #[pt f 0,pt t 0,pt u 0,iN b,v] 119,ob f (lA c i e d s.time) 122,pk (au i n o s.r),pk (aD e p s.k),pk (az d s.g),b8 v ns] [0,2,3,4,5] (λE=>[ob j #[pt f 0,pt t 0,pt u 0,iN b,(E.val 0)] 119,pk (au i n o (iJ s).r),pk (aD e p (iJ s).k),pk (az d (iJ s).g),b8 (E.val 0) (ns++([(⟨3,0,0,0,0,0⟩:Nt)]))]) (λ_=> .tuple #[]):=by
 refine fG Tryz.func89 λw cs=>ra (λq=>[(3,pt (B0 q) 0)]) (λq=>[ob (B0 q) #[i6 3,i6 0,i6 0,i6 0,i6 0,i6 0] 81]) λq=>rr (λa=>[(4,.l 0),(5,.l 6),(6,.m (bs 7 1)),(7,fC wF (v) ns 5 7 ([(⟨3,0,0,0,0,0⟩:Nt)])),(10,.m (fS 0 5 (b8 ((a 7).val 0) (ns++([(⟨3,0,0,0,0,0⟩:Nt)]))) ((a 7).val 0) λbs h=>ar.one ((λ_ h=>h) bs h)))]) N0 [] (λa L=>(L.set 0 (ob j #[pt f 0,pt t 0,pt u 0,iN b,(a 7).val 0] 119)).set 5 (b8 ((a 7).val 0) (ns++([(⟨3,0,0,0,0,0⟩:Nt)])))++[ob (B6 a) #[i6 3,i6 0,i6 0,i6 0,i6 0,i6 0] 81]) λa=>rr (λ_=>[(3,.l 0),(4,.l 6),(5,.c [1,2,3,4] [2,3,4] (U8 f i e d n o p c s _ hs x y z))]) N0 [] (λ_ L=>((L.set 2 ((pk (au i n o (iJ s).r)))).set 3 ((pk (aD e p (iJ s).k)))).set 4 ((pk (az d (iJ s).g)))) λB=>?_;exact eF (.l [] [] [(a 7).val 0]) [0,2,3,4,5] [(1,1)] []
theorem Vk(f e i n p g q d k o:Nat)(c:Cf)(s:Le)(K:Nat)(hs:Y7 s K)(b:Nat)(v:Value)(ns:List Nt)(r:ns.length≤800000):aa Zl 89 #[pt f 0,.agg #[i6 4,i6 0,i6 0,i6 0,i6 0,i6 0]] [ob f #[pt e 0,pt k 0,pt o 0,iN b,v] 119,ob e (lA c i g d s.time) 122,pk (au i n p s.r),pk (aD g q s.k),pk (az d s.g),b8 v ns] [0,2,3,4,5] (λE=>[ob f #[pt e 0,pt k 0,pt o 0,iN b,(E.val 0)] 119,pk (au i n p s.r),pk (aD g q s.k),pk (az d (nA s.g)),b8 (E.val 0) (ns++([(⟨4,0,0,0,0,0⟩:Nt)]))]) (λ_=> .tuple #[]):=by
 refine fG Tryz.func89 λw cs=>ra (λj=>[(3,pt (B0 j) 0)]) (λj=>[ob (B0 j) #[i6 4,i6 0,i6 0,i6 0,i6 0,i6 0] 81]) λj=>rr (λa=>[(4,.l 0),(5,.l 6),(6,.m (bs 7 1)),(7,fC wF (v) ns 5 7 ([(⟨4,0,0,0,0,0⟩:Nt)])),(10,.m (fS 0 5 (b8 ((a 7).val 0) (ns++([(⟨4,0,0,0,0,0⟩:Nt)]))) ((a 7).val 0) λbs h=>ar.one ((λ_ h=>h) bs h)))]) N0 [] (λa L=>(L.set 0 (ob f #[pt e 0,pt k 0,pt o 0,iN b,(a 7).val 0] 119)).set 5 (b8 ((a 7).val 0) (ns++([(⟨4,0,0,0,0,0⟩:Nt)])))++[ob (B6 a) #[i6 4,i6 0,i6 0,i6 0,i6 0,i6 0] 81]) λa=>rs [(3,.l 0),(4,.l 6),(5,.c [1,2,3,4] [2,3,4] (U9 e i g d n p q c s _ hs))] 4 ((pk (az d (nA s.g)))) ?_;exact eF (.l [] [] [(a 7).val 0]) [0,2,3,4,5] [(1,1)] []
theorem AQ(q o x C D u F t f B n:Nat)(c:Cf)(s:Le)(a:Nat)(ns:List Nt)(V:Dv)(K A:Nat)(h:ba c ⟨s,a,ns,V⟩ K A)(v:Value)(hA:A≤700000)(Q:K+3≤1000000000)(i b d:Nat)(R:i<8388608)(M:gx c.R c.S c.B c.M c.C ((i:Nat):Int)=true)(J:b<s.r.m.R*s.r.m.B*s.r.m.M)(O:d<s.r.m.R):aa Zl 87 #[pt q 0,.agg #[iN i,iN b,iN d]] [ob q #[pt o 0,pt f 0,pt n 0,iN a,v] 119,ob o (lA c x u t s.time) 122,pk (au x C D s.r),pk (aD u F s.k),pk (az t s.g),pk (dN n),pk (bo f B c V),b8 v ns] [0,2,3,4,5,6,7] (λE=>[ob q #[pt o 0,pt f 0,pt n 0,iN a,(E.val 0)] 119,pk (au x C D (bX c (⟨s,a,ns,V⟩:Ct) i b d).s.r),pk (aD u F (bX c (⟨s,a,ns,V⟩:Ct) i b d).s.k),pk (az t (bX c (⟨s,a,ns,V⟩:Ct) i b d).s.g),pk (dN n),pk (bo f B c (bX c (⟨s,a,ns,V⟩:Ct) i b d).V),b8 (E.val 0) ((bX c (⟨s,a,ns,V⟩:Ct) i b d).ns)]) (λ_=> .tuple #[.agg (rB 64 (cx c (⟨s,a,ns,V⟩:Ct) i)).toArray,.agg #[i6 ((bC c (⟨s,a,ns,V⟩:Ct) i:Nat):Int),i6 ((ib c.E (kq c (⟨s,a,ns,V⟩:Ct) i) (i:Int):Nat):Int)]]):=by
 have j:=h.cf;have T:=j.E;have P:=j.E;have I:=h.dv Om;have S:=h.nl;have z:=lH h.D (i:Int);have N:=nI c.E z (i:Int);have y:ns.length≤800000:=Zu h.nl Om;exact fG Tryz.func87 λw cs=>ra (λe=>[(3,pt (B0 e) 0),(4,pt (B1 e) 0),(5,pt (B2 e) 0)]) (λe=>[ob (B0 e) #[iN i,iN b,iN d] 180,ob (B1 e) (rB 64 z6).toArray 43,ob (B2 e) #[i6 0,i6 0] 79]) λe=>rr (λ_=>[(3,.m (ld 0 (pt f 0))),(5,.m (ld 8 (iN i))),(6,.c [6] [6] (UQ f B c j V I (i:Int) M)),(10,.m (al 11)),(11,.s 11)]) (λG=>[(6,pt ((G 10).y 0) 0)]) [] (λG L=>L.set 6 ((pk (bo f B c (qR c V (i:Int)))))++[ob ((G 10).y 0) (rB 72 (bZ c V.D (i:Int))).toArray 217]) λG=>rr (λ_=>[(3,.m (ld 0 (pt n 0))),(7,.m (ld 0 (pt o 0))),(11,.m (ld 1 (iN c.E))),(12,.m (ls 11 (rB 72 (bZ c V.D (i:Int))))),(14,.m (ld 8 (iN i))),(15,.c [5] [] (U4 c.E P n (bZ c V.D (i:Int)) (by(simp only[LL,z,N];done)) (i:Int) Om Om)),(19,.m (al 12)),(20,.m (al 13)),(21,.s 12),(22,.s 13)]) (λp=>[(8,pt ((p 19).y 0) 0),(9,pt ((p 20).y 0) 0)]) [] (λp L=>L++[ob ((p 19).y 0) (rB 64 (mW c.E (bZ c V.D (i:Int)) (i:Int))).toArray 43,ob ((p 20).y 0) #[i6 ((j0 c.E (bZ c V.D (i:Int)) (i:Int):Nat):Int),i6 ((ib c.E (bZ c V.D (i:Int)) (i:Int):Nat):Int)] 79]) λp=>rr (λ_=>[(1,.l 13),(3,.l 8),(5,.l 8),(7,.l 8),(9,.c [0,1,2,3,4,7] [0,2,3,4,7] (Vi q o x C D u F t f n c s _ h.s a v ns y Q j.h2 (j0 c.E (bZ c V.D (i:Int)) (i:Int)) (ib c.E (bZ c V.D (i:Int)) (i:Int)) i b d (U0 _ _ _) O J))]) N0 [] (λH L=>((((L.set 0 (ob q #[pt o 0,pt f 0,pt n 0,iN a,((H 9).val 0)] 119)).set 2 ((pk (au x C D (dh c.H s (⟨1,(j0 c.E (bZ c V.D (i:Int)) (i:Int)),(ib c.E (bZ c V.D (i:Int)) (i:Int)),i,b,d⟩:Nt)).r)))).set 3 ((pk (aD u F (dh c.H s (⟨1,(j0 c.E (bZ c V.D (i:Int)) (i:Int)),(ib c.E (bZ c V.D (i:Int)) (i:Int)),i,b,d⟩:Nt)).k)))).set 4 ((pk (az t (dh c.H s (⟨1,(j0 c.E (bZ c V.D (i:Int)) (i:Int)),(ib c.E (bZ c V.D (i:Int)) (i:Int)),i,b,d⟩:Nt)).g)))).set 7 (b8 ((H 9).val 0) (ns++([(⟨1,(j0 c.E (bZ c V.D (i:Int)) (i:Int)),(ib c.E (bZ c V.D (i:Int)) (i:Int)),i,b,d⟩:Nt)])))) λH=>rr (λ_=>[(0,.l 12),(1,.l 13),(2,.s 9),(3,.s 10)]) N0 [] (λ_ L=>(L.set 9 (ob (B1 e) (rB 64 (mW c.E (bZ c V.D (i:Int)) (i:Int))).toArray 43)).set 10 (ob (B2 e) #[i6 ((j0 c.E (bZ c V.D (i:Int)) (i:Int):Nat):Int),i6 ((ib c.E (bZ c V.D (i:Int)) (i:Int):Nat):Int)] 79)) λU=>ao (.tuple #[.agg (rB 64 (mW c.E (bZ c V.D (i:Int)) (i:Int))).toArray,.agg #[i6 ((j0 c.E (bZ c V.D (i:Int)) (i:Int):Nat):Int),i6 ((ib c.E (bZ c V.D (i:Int)) (i:Int):Nat):Int)]]) (.l [] [] [((H 9).val 0)]) bc [0,2,3,4,5,6,7] [(1,1)] [9,10] (hf:=by kernel_rfl)
theorem AR(v f:Nat):aa Zl 117 #[.agg #[iN v,iN f]] [] [] N0 (λ_=>i6 (cb v)):=by
 refine fG Tryz.func117 λw cs=>ra (λb=>[(1,pt (B0 b) 0),(2,i6 0)]) (λb=>[ob (B0 b) #[iN v,iN f] 79]) λb=>r0 [(1,.l 0)] [(4,iN v)] [] (r0 [] [(5,.bool ((v:Int)==3))] [] ?_);refine cX (v:Int) 3 (λa c=>?_) λa c=>?_
 ·exact r0 [] [(2,i6 40)] [2] (ao (i6 40) ab.zero (by unfold cb;(repeat (first | rw[a] | rw[ALct]))) [] [] [])
 refine r0 [] [(7,.bool ((v:Int)==2))] [] ?_;refine cX (v:Int) 2 (λe d=>?_) λe d=>?_
 ·exact r0 [] [(2,i6 41)] [2] (ao (i6 41) ab.zero (by unfold cb;(repeat (first | rw[a] | rw[e] | rw[ALct] | rw[ALcf]))) [] [] [])
 exact r0 [] [(2,i6 0)] [2] (ao (i6 0) ab.zero (by unfold cb;(repeat (first | rw[a] | rw[e] | rw[ALcf]))) [] [] [])
theorem G9(h e a f g k j i l:Nat)(c:Cf)(r:Rp)(p:aO r)(d time:Nat)(v:Value)(n:Nat)(o:n<(r.m.R*r.m.B*r.m.M-r.m.res)*r.m.C):aa Zl 116 #[pt h 0,iN n] [ob h #[pt e 0,pt i 0,pt l 0,iN d,v] 119,ob e (lA c a k j time) 122,pk (au a f g r)] [2] (λ_=>[pk (au a f g r)]) (λ_=> .tuple #[.agg #[i6 ((aJ r.m r.j n:Nat):Int),i6 ((aq r.m n:Nat):Int),i6 ((aG r.m.G r.m.R r.m.B r.m.M (aq r.m n):Nat):Int)],i6 0]):=by
 exact fG Tryz.func116 λw cs=>ra (λb=>[(4,pt (B0 b) 0),(5,i6 0)]) (λb=>[ob (B0 b) #[i6 0,i6 0,i6 0] 180]) λb=>r0 [(3,.m (ld 0 (pt e 0))),(6,.m (ld 1 (pt a 0))),(8,.c [2] [2] (RY a f g r p n o)),] [(6,i6 ((aJ r.m r.j n:Nat):Int)),(7,i6 ((aq r.m n:Nat):Int)),(8,i6 ((aG r.m.G r.m.R r.m.B r.m.M (aq r.m n):Nat):Int)),(9,i6 0)] [] (rF [] 25 (rr (λ_=>[(4,.s 3)]) (λ_=>[(5,i6 0)]) [5] (λ_ L=>L.set 3 (ob (B0 b) #[i6 ((aJ r.m r.j n:Nat):Int),i6 ((aq r.m n:Nat):Int),i6 ((aG r.m.G r.m.R r.m.B r.m.M (aq r.m n):Nat):Int)] 180)) λq=>ao (.tuple #[.agg #[i6 ((aJ r.m r.j n:Nat):Int),i6 ((aq r.m n:Nat):Int),i6 ((aG r.m.G r.m.R r.m.B r.m.M (aq r.m n):Nat):Int)],i6 0]) ab.zero bc [2] [(0,0),(1,1)] [3]))
theorem Ha(h e a f g k j i l:Nat)(c:Cf)(r:Rp)(p:aO r)(d time:Nat)(v:Value)(n:Int)(o:bL n (((r.m.R*r.m.B*r.m.M-r.m.res)*r.m.C:Nat):Int)=false):aa Zl 116 #[pt h 0,i6 n] [ob h #[pt e 0,pt i 0,pt l 0,iN d,v] 119,ob e (lA c a k j time) 122,pk (au a f g r)] [2] (λ_=>[pk (au a f g r)]) (λ_=> .tuple #[.agg #[i6 0,i6 0,i6 0],i6 30]):=by
 exact fG Tryz.func116 λw cs=>ra (λb=>[(4,pt (B0 b) 0),(5,i6 0)]) (λb=>[ob (B0 b) #[i6 0,i6 0,i6 0] 180]) λb=>r0 [(3,.m (ld 0 (pt e 0))),(6,.m (ld 1 (pt a 0))),(8,.c [2] [2] (RZ a f g r p n o)),] [(6,i6 0),(7,i6 0),(8,i6 0),(9,i6 12)] [] (rT [] 25 (r0 [(1,.s 3)] [(5,i6 30)] [5] (lf ab.zero [2] [(0,0),(1,1)] [3])))
theorem Hb(i m o t u k z j f q g:Nat)(c:Cf)(s:Le)(a:Nat)(ns:List Nt)(V:Dv)(K A:Nat)(h:ba c ⟨s,a,ns,V⟩ K A)(v:Value)(hA:A≤700000)(J:K+3≤1000000000)(n:Nat)(M:n<(c.R*c.B*c.M-c.res)*c.C)(b:Bool):aa Zl 83 #[pt i 0,iN n,.bool b] [ob i #[pt m 0,pt f 0,pt g 0,iN a,v] 119,ob m (lA c o k j s.time) 122,pk (au o t u s.r),pk (aD k z s.k),pk (az j s.g),pk (dN g),pk (bo f q c V),b8 v ns] [0,2,3,4,5,6,7] (λE=>[ob i #[pt m 0,pt f 0,pt g 0,iN a,(E.val 0)] 119,pk (au o t u (cy c (⟨s,a,ns,V⟩:Ct) n b).s.r),pk (aD k z (cy c (⟨s,a,ns,V⟩:Ct) n b).s.k),pk (az j (cy c (⟨s,a,ns,V⟩:Ct) n b).s.g),pk (dN g),pk (bo f q c (cy c (⟨s,a,ns,V⟩:Ct) n b).V),b8 (E.val 0) ((cy c (⟨s,a,ns,V⟩:Ct) n b).ns)]) (λ_=> .tuple #[.agg (rB 64 (cx c (⟨s,a,ns,V⟩:Ct) (aA (⟨s,a,ns,V⟩:Ct) n))).toArray,i6 (cb (bC c (⟨s,a,ns,V⟩:Ct) (aA (⟨s,a,ns,V⟩:Ct) n)))]):=by
 have p:=h.cf;have S:=p.E;have R:=p.E;have N:=h.dv Om;have O:=h.nl;have d:=wE h M;have P:=h.s.r;have Q:=qT h M J;have D:=Q.dv Om;have y:=d.1;have x:=d.2.1;have F:=d.2.2.1;have I:=d.2.2.2.1;have H:=d.2.2.2.2;have G:(cx c (⟨s,a,ns,V⟩:Ct) (aJ s.r.m s.r.j n)).length=64:=nI c.E (lH h.D _) _;refine fG Tryz.func83 λw cs=>ra (λr=>[(6,pt (B0 r) 0),(7,i6 0)]) (λr=>[ob (B0 r) (rB 64 z6).toArray 43]) λr=>rr (λ_=>[(2,.c [0,1,2] [2] (G9 i m o t u k j f g c s.r P a s.time v n H)),(7,.s 9)]) (λB=>[(8,pt (B6 B) 0),(9,i6 0)]) [] (λB L=>L++[ob (B6 B) #[i6 ((aJ s.r.m s.r.j n:Nat):Int),i6 ((aq s.r.m n:Nat):Int),i6 ((aG s.r.m.G s.r.m.R s.r.m.B s.r.m.M (aq s.r.m n):Nat):Int)] 180]) λB=>rF [] 19 (rr (λ_=>[(1,.l 9),(2,.c [0,1,2,3,4,5,6,7] [0,2,3,4,5,6,7] (AQ i m o t u k z j f q g c s a ns V _ _ h v hA J (aJ s.r.m s.r.j n) (aq s.r.m n) (aG s.r.m.G s.r.m.R s.r.m.B s.r.m.M (aq s.r.m n)) y x F I)),(8,.s 10),(9,.s 11)]) (λe=>[(10,pt (B6 e) 0),(11,pt (B7 e) 0)]) [] (λe L=>(((((L.set 0 (ob i #[pt m 0,pt f 0,pt g 0,iN a,((e 2).val 0)] 119)).set 2 ((pk (au o t u (bX c (⟨s,a,ns,V⟩:Ct) (aJ s.r.m s.r.j n) (aq s.r.m n) (aG s.r.m.G s.r.m.R s.r.m.B s.r.m.M (aq s.r.m n))).s.r)))).set 3 ((pk (aD k z (bX c (⟨s,a,ns,V⟩:Ct) (aJ s.r.m s.r.j n) (aq s.r.m n) (aG s.r.m.G s.r.m.R s.r.m.B s.r.m.M (aq s.r.m n))).s.k)))).set 4 ((pk (az j (bX c (⟨s,a,ns,V⟩:Ct) (aJ s.r.m s.r.j n) (aq s.r.m n) (aG s.r.m.G s.r.m.R s.r.m.B s.r.m.M (aq s.r.m n))).s.g)))).set 6 ((pk (bo f q c (bX c (⟨s,a,ns,V⟩:Ct) (aJ s.r.m s.r.j n) (aq s.r.m n) (aG s.r.m.G s.r.m.R s.r.m.B s.r.m.M (aq s.r.m n))).V)))).set 7 (b8 ((e 2).val 0) ((bX c (⟨s,a,ns,V⟩:Ct) (aJ s.r.m s.r.j n) (aq s.r.m n) (aG s.r.m.G s.r.m.R s.r.m.B s.r.m.M (aq s.r.m n))).ns))++[ob (B6 e) (rB 64 (cx c (⟨s,a,ns,V⟩:Ct) (aJ s.r.m s.r.j n))).toArray 43,ob (B7 e) #[i6 ((bC c (⟨s,a,ns,V⟩:Ct) (aJ s.r.m s.r.j n):Nat):Int),i6 ((ib c.E (kq c (⟨s,a,ns,V⟩:Ct) (aJ s.r.m s.r.j n)) ((aJ s.r.m s.r.j n):Int):Nat):Int)] 79]) λe=>r0 [(1,.l 11)] [(33,.bool ((((bC c (⟨s,a,ns,V⟩:Ct) (aJ s.r.m s.r.j n):Nat):Int)==1)&&b))] [] ?_);refine cB ((((bC c (⟨s,a,ns,V⟩:Ct) (aJ s.r.m s.r.j n):Nat):Int)==1)&&b) (λC=>?_) λC=>?_
 ·exact rr (λ_=>[(2,.l 9),(3,.l 10),(4,.c [0,1,5,6] [5,6] (pL i m o k j f q g c p a s.time ((e 2).val 0) ((bX c (⟨s,a,ns,V⟩:Ct) (aJ s.r.m s.r.j n) (aq s.r.m n) (aG s.r.m.G s.r.m.R s.r.m.B s.r.m.M (aq s.r.m n))).V) D (aJ s.r.m s.r.j n) y x (cx c (⟨s,a,ns,V⟩:Ct) (aJ s.r.m s.r.j n)) (by(simp only[LL,G];done)) false))]) N0 [] (λ_ L=>L.set 6 ((pk (bo f q c (iL ((bX c (⟨s,a,ns,V⟩:Ct) (aJ s.r.m s.r.j n) (aq s.r.m n) (aG s.r.m.G s.r.m.R s.r.m.B s.r.m.M (aq s.r.m n))).V) ((aJ s.r.m s.r.j n):Int) (eu c.E (cx c (⟨s,a,ns,V⟩:Ct) (aJ s.r.m s.r.j n)) ((aJ s.r.m s.r.j n):Int) false) (bif false then 1 else 0)))))) λT=>rr (λ_=>[(0,.l 10),(1,.l 11),(2,.c [] [] (AR (bC c (⟨s,a,ns,V⟩:Ct) (aJ s.r.m s.r.j n)) (ib c.E (kq c (⟨s,a,ns,V⟩:Ct) (aJ s.r.m s.r.j n)) ((aJ s.r.m s.r.j n):Int)))),(3,.s 8)]) (λ_=>[(7,i6 (cb (bC c (⟨s,a,ns,V⟩:Ct) (aJ s.r.m s.r.j n))))]) [7] (λ_ L=>L.set 8 (ob (B0 r) (rB 64 (cx c (⟨s,a,ns,V⟩:Ct) (aJ s.r.m s.r.j n))).toArray 43)) λU=>ao (.tuple #[.agg (rB 64 (cx c (⟨s,a,ns,V⟩:Ct) (aJ s.r.m s.r.j n))).toArray,i6 (cb (bC c (⟨s,a,ns,V⟩:Ct) (aJ s.r.m s.r.j n)))]) (.l [] [] [((e 2).val 0)]) bc [0,2,3,4,5,6,7] [(1,1)] [8] (hf:=by unfold cy kt kr aA lK lL;dsimp only;(repeat (first | rw[C] | rw[ALct] | rw[ALcf]));kernel_rfl)
 exact rr (λ_=>[(0,.l 10),(1,.l 11),(2,.c [] [] (AR (bC c (⟨s,a,ns,V⟩:Ct) (aJ s.r.m s.r.j n)) (ib c.E (kq c (⟨s,a,ns,V⟩:Ct) (aJ s.r.m s.r.j n)) ((aJ s.r.m s.r.j n):Int)))),(3,.s 8)]) (λ_=>[(7,i6 (cb (bC c (⟨s,a,ns,V⟩:Ct) (aJ s.r.m s.r.j n))))]) [7] (λ_ L=>L.set 8 (ob (B0 r) (rB 64 (cx c (⟨s,a,ns,V⟩:Ct) (aJ s.r.m s.r.j n))).toArray 43)) λW=>ao (.tuple #[.agg (rB 64 (cx c (⟨s,a,ns,V⟩:Ct) (aJ s.r.m s.r.j n))).toArray,i6 (cb (bC c (⟨s,a,ns,V⟩:Ct) (aJ s.r.m s.r.j n)))]) (.l [] [] [((e 2).val 0)]) bc [0,2,3,4,5,6,7] [(1,1)] [8] (hf:=by unfold cy kt kr aA lK lL;dsimp only;(repeat (first | rw[C] | rw[ALcf]));kernel_rfl)
end E
end Go.Proofs.YtbcodenfkijdnaaGreat
