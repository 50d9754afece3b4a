/- WholeTold, in 7 texts: part 4. For every input; no condition. -/
import Derived.Test.YtbcodenfkijdnaaGreatPt3
import Derived.WalkKit
import Derived.Deep.RegionLaw
import Derived.Deep.LoopGhost
import Derived.Lib.SliceRun
import Derived.Lib.Walk
import Derived.Shelf.RegionOpenPlain
import Derived.Laws.AppendOwn
set_option linter.unusedVariables false
set_option linter.unusedSimpArgs false
set_option maxRecDepth 100000
namespace Go.Proofs.YtbcodenfkijdnaaGreat
open Go Go.RowKit Go.Shelf
open Go.Proofs.Tryz renaming prog→YU
open List renaming replicate→YV,length_append→YW,getD_eq_getElem?_getD→YX,getElem?_eq_getElem→YY,length_take→YZ,append_assoc→Y0,length_replicate→Y1,length_set→Y4,length_map→Y5,length_drop→Y6,length_eraseIdx→Y7,not_mem_nil→Zb,getElem?_append_right→Ze,drop_eq_getElem_cons→Zf,range→Zg,length_range→Zh,toList_toArray→Zk,take_add_one→Zl,drop_append_of_le_length→Zm,take_zero→Zo,mem_or_eq_of_mem_set→Zp,mem_cons→Zq,drop_eq_nil_of_le→Zr,take_append_drop→Zt,set_append_right→Zu,replicate_succ→Zv,getElem?_drop→Zx,size_toArray→Zz,foldl_append→ZA,drop_append→ZB,length_cons→ZD,length_tail→ZE,take_length→ZF,nil_append→ZH,map_cons→ZK,flatten→ZL
open Bool renaming and_eq_true→Y2,or_eq_false_iff→Zc,or_eq_true→Zn,true_and→ZJ
open Nat renaming le_trans→Y3,zero_le→Y8,le_refl→Za,add_mul→Zd,succ_le_succ→Zi,lt_succ_self→Zj,add_sub_cancel_left→Zs,lt_succ_of_lt→ZC,succ_lt_succ→ZG,not_lt_zero→ZI,succ_pos→ZM,mul_succ→ZP
open Int renaming natCast_mul→Y9,toNat_of_nonneg→Zy
open Go.Result renaming andThen_ok→Zw
open Go.Sem renaming run_bind→ZN,run_pure→ZO
namespace E
theorem RE(g b d:Nat)(m:Mp)(f t x:Nat)(q:List Ak)(J:Yo ⟨m,⟨1,f,t,x⟩,q⟩)(z:oa m f t x):aa YU 212 #[pt g 0] [pk (au g b d ⟨m,⟨1,f,t,x⟩,q⟩)] [0] (λE=>[pk (au g b d (cH ⟨m,⟨1,f,t,x⟩,q⟩).1),bc (E.val 0) ((cH ⟨m,⟨1,f,t,x⟩,q⟩).2)]) (λE=>(E.val 0)):=aa.pkW (n:=1) (N:=λE=>[bc (E.val 0) ((cH ⟨m,⟨1,f,t,x⟩,q⟩).2)]) (enters_of Tryz.func212 Kr rfl) λL P=>by
 obtain⟨rfl⟩:=P;refine⟨[0,1,2],λ_=>[ob g #[pt b 0,iN ((cH ⟨m,⟨1,f,t,x⟩,q⟩).1.j.A),iN ((cH ⟨m,⟨1,f,t,x⟩,q⟩).1.j.fr),iN ((cH ⟨m,⟨1,f,t,x⟩,q⟩).1.j.tg),iN ((cH ⟨m,⟨1,f,t,x⟩,q⟩).1.j.nx),pt d 0] 133,pk (aJ b (cH ⟨m,⟨1,f,t,x⟩,q⟩).1.m),pk (bH d (cH ⟨m,⟨1,f,t,x⟩,q⟩).1.q)],?_,rfl,λE=>⟨rfl,rfl,rfl⟩⟩;have U:=J.m;have V:q.length≤256:=J.n;have Q:=vH J (show(1:Nat)≠0 by decide);refine fG Tryz.func212 λw W=>r0 [] [(2,.slice none 0 0)] [] (rr (λ_=>[(3,.l 0),(5,.s 3)]) (λu=>[(3,pt (B4 u) 0)]) [] (λu L=>L++[ob (B4 u) #[i6 1,iN f,iN t,iN x] 70]) λu=>rs [(4,.s 0)] 0 (ob g #[pt b 0,i6 0,i6 0,i6 0,i6 0,pt d 0] 133) (rT [(1,.l 3)] 17 (rs [(3,.l 0),(5,.l 3),(7,.l 3),(8,.c [1] [1] (Qx b m U f t z.hf z.t0 z.t1 z.df z.dt z.ne))] 1 ((pk (aJ b (sD m f t)))) (rr (λ_=>[(1,.l 3),(3,.l 3),(5,gO jg 4 1 [(⟨6,f,t⟩:Ev)])]) (λD=>[(4,.slice (some ⟨(D 5).y 0,0,none⟩) 1 1)]) [] (λD L=>L++[bc (.slice (some ⟨(D 5).y 0,0,none⟩) 1 1) ([(⟨6,f,t⟩:Ev)])]) λD=>?_))));refine mv (λk _=>k≤q.length∧(fb q.length (ae ⟨m,⟨1,f,t,x⟩,q⟩)=fb (q.length-k) (af (ae ⟨m,⟨1,f,t,x⟩,q⟩) k))) (λ_ a=>[(4,a)]) (λk a L=>(((L.set 0 (ob g #[pt b 0,iN ((af (ae ⟨m,⟨1,f,t,x⟩,q⟩) k).1.j.A),iN ((af (ae ⟨m,⟨1,f,t,x⟩,q⟩) k).1.j.fr),iN ((af (ae ⟨m,⟨1,f,t,x⟩,q⟩) k).1.j.tg),iN ((af (ae ⟨m,⟨1,f,t,x⟩,q⟩) k).1.j.nx),pt d 0] 133)).set 1 ((pk (aJ b (af (ae ⟨m,⟨1,f,t,x⟩,q⟩) k).1.m)))).set 2 ((pk (bH d (af (ae ⟨m,⟨1,f,t,x⟩,q⟩) k).1.q)))).set 4 (bc a ((af (ae ⟨m,⟨1,f,t,x⟩,q⟩) k).2))) (λk _=>q.length-k) 0 (.slice (some ⟨(D 5).y 0,0,none⟩) 1 1) ⟨by omega,rfl⟩ Kr Kr (λk a ⟨T,K⟩=>?_);have M:Yo (af (ae ⟨m,⟨1,f,t,x⟩,q⟩) k).1:=zM Q k (show k≤q.length by omega);have R:=zL (ae ⟨m,⟨1,f,t,x⟩,q⟩) k;have O:(ae ⟨m,⟨1,f,t,x⟩,q⟩).2.length=1:=rfl;have S:(af (ae ⟨m,⟨1,f,t,x⟩,q⟩) k).1.q.length=q.length-k:=vM (ae ⟨m,⟨1,f,t,x⟩,q⟩) k;refine rr (λ_=>[(1,.c [0,1,2] [1,2] (mI g b d ((af (ae ⟨m,⟨1,f,t,x⟩,q⟩) k).1)))]) (λ_=>[(44,.bool (!((((af (ae ⟨m,⟨1,f,t,x⟩,q⟩) k).1).j.A:Int) != 0)))]) [] (λ_ L=>(L.set 1 ((pk (aJ b ((af (ae ⟨m,⟨1,f,t,x⟩,q⟩) k).1).m)))).set 2 ((pk (bH d ((af (ae ⟨m,⟨1,f,t,x⟩,q⟩) k).1).q)))) λX=>?_;refine cB (!((((af (ae ⟨m,⟨1,f,t,x⟩,q⟩) k).1).j.A:Int) != 0)) (λH=>?_) λH=>?_
 ·have v:(af (ae ⟨m,⟨1,f,t,x⟩,q⟩) k).1.j.A=0:=by simpa using H
  refine rr (λ_=>[(3,.l 0),(4,.c [2] [2] (Fm d (((af (ae ⟨m,⟨1,f,t,x⟩,q⟩) k).1).q))),(9,.s 5)]) (λi=>[(5,pt ((i 8).y 0) 0),(6,i6 (lY (((af (ae ⟨m,⟨1,f,t,x⟩,q⟩) k).1).q)))]) [] (λi L=>L.set 2 ((pk (bH d (((af (ae ⟨m,⟨1,f,t,x⟩,q⟩) k).1).q).tail)))++[ob ((i 8).y 0) #[iN (((((af (ae ⟨m,⟨1,f,t,x⟩,q⟩) k).1).q).headD aK).k),iN (((((af (ae ⟨m,⟨1,f,t,x⟩,q⟩) k).1).q).headD aK).w)] 285]) λi=>r0 [] [(54,.bool ((lY (((af (ae ⟨m,⟨1,f,t,x⟩,q⟩) k).1).q)) != 0))] [] ?_;refine m6 (lY (((af (ae ⟨m,⟨1,f,t,x⟩,q⟩) k).1).q)) 0 (λF o=>?_) λF o=>?_
  ·refine kT ?_;have r:((af (ae ⟨m,⟨1,f,t,x⟩,q⟩) k).1.j.A≠0)∨(af (ae ⟨m,⟨1,f,t,x⟩,q⟩) k).1.q.length=0:=by(right;have y:=o;unfold lY at y;split at y<;>first | assumption | exact absurd rfl y)
   have p:cH ⟨m,⟨1,f,t,x⟩,q⟩=(af (ae ⟨m,⟨1,f,t,x⟩,q⟩) k):=by show fb q.length (ae ⟨m,⟨1,f,t,x⟩,q⟩)=_;rw[K];rcases r with h | h;exact vO h _;rw[show q.length-k=0 by omega];rfl
   exact cl [ob g #[pt b 0,iN ((af (ae ⟨m,⟨1,f,t,x⟩,q⟩) k).1.j.A),iN ((af (ae ⟨m,⟨1,f,t,x⟩,q⟩) k).1.j.fr),iN ((af (ae ⟨m,⟨1,f,t,x⟩,q⟩) k).1.j.tg),iN ((af (ae ⟨m,⟨1,f,t,x⟩,q⟩) k).1.j.nx),pt d 0] 133,pk (aJ b ((af (ae ⟨m,⟨1,f,t,x⟩,q⟩) k).1).m),pk (bH d (af (ae ⟨m,⟨1,f,t,x⟩,q⟩) k).1.q),ob (B4 u) #[i6 1,iN f,iN t,iN x] 70,bc a ((af (ae ⟨m,⟨1,f,t,x⟩,q⟩) k).2),ob ((i 8).y 0) #[iN (((((af (ae ⟨m,⟨1,f,t,x⟩,q⟩) k).1).q).headD aK).k),iN (((((af (ae ⟨m,⟨1,f,t,x⟩,q⟩) k).1).q).headD aK).w)] 285] (by(try rw[show(af (ae ⟨m,⟨1,f,t,x⟩,q⟩) k).1.q.tail=(af (ae ⟨m,⟨1,f,t,x⟩,q⟩) k).1.q from vN (r.resolve_left (λh=>h v))]);kernel_rfl) (r0 [] [(2,a)] [2] (lf (.l [] [] [a]) [0,1,2,4] [] [] (hf:=by rw[p];kernel_rfl)))
  have I:0<(af (ae ⟨m,⟨1,f,t,x⟩,q⟩) k).1.q.length:=by have y:=o;unfold lY at y;split at y<;>omega
  have C:=Fv (s:=(ae ⟨m,⟨1,f,t,x⟩,q⟩)) (k:=k) (by show k<q.length;omega) K v;have A:=vK M;have B:ew (a4 (af (ae ⟨m,⟨1,f,t,x⟩,q⟩) k).1).m ((af (ae ⟨m,⟨1,f,t,x⟩,q⟩) k).1.q.headD aK):=⟨(sJ M I).k⟩;refine cl [ob g #[pt b 0,iN ((a4 (af (ae ⟨m,⟨1,f,t,x⟩,q⟩) k).1).j.A),iN ((a4 (af (ae ⟨m,⟨1,f,t,x⟩,q⟩) k).1).j.fr),iN ((a4 (af (ae ⟨m,⟨1,f,t,x⟩,q⟩) k).1).j.tg),iN ((a4 (af (ae ⟨m,⟨1,f,t,x⟩,q⟩) k).1).j.nx),pt d 0] 133,pk (aJ b ((af (ae ⟨m,⟨1,f,t,x⟩,q⟩) k).1).m),pk (bH d (((af (ae ⟨m,⟨1,f,t,x⟩,q⟩) k).1).q).tail),ob (B4 u) #[i6 1,iN f,iN t,iN x] 70,bc a ((af (ae ⟨m,⟨1,f,t,x⟩,q⟩) k).2),ob ((i 8).y 0) #[iN (((((af (ae ⟨m,⟨1,f,t,x⟩,q⟩) k).1).q).headD aK).k),iN (((((af (ae ⟨m,⟨1,f,t,x⟩,q⟩) k).1).q).headD aK).w)] 285] (by skip;kernel_rfl) (cl [ob g #[pt b 0,iN ((a4 (af (ae ⟨m,⟨1,f,t,x⟩,q⟩) k).1).j.A),iN ((a4 (af (ae ⟨m,⟨1,f,t,x⟩,q⟩) k).1).j.fr),iN ((a4 (af (ae ⟨m,⟨1,f,t,x⟩,q⟩) k).1).j.tg),iN ((a4 (af (ae ⟨m,⟨1,f,t,x⟩,q⟩) k).1).j.nx),pt d 0] 133,pk (aJ b (a4 (af (ae ⟨m,⟨1,f,t,x⟩,q⟩) k).1).m),pk (bH d (((af (ae ⟨m,⟨1,f,t,x⟩,q⟩) k).1).q).tail),ob (B4 u) #[i6 1,iN f,iN t,iN x] 70,bc a ((af (ae ⟨m,⟨1,f,t,x⟩,q⟩) k).2),ob ((i 8).y 0) #[iN (((((af (ae ⟨m,⟨1,f,t,x⟩,q⟩) k).1).q).headD aK).k),iN (((((af (ae ⟨m,⟨1,f,t,x⟩,q⟩) k).1).q).headD aK).w)] 285] (by skip;kernel_rfl) (cl [ob g #[pt b 0,iN ((a4 (af (ae ⟨m,⟨1,f,t,x⟩,q⟩) k).1).j.A),iN ((a4 (af (ae ⟨m,⟨1,f,t,x⟩,q⟩) k).1).j.fr),iN ((a4 (af (ae ⟨m,⟨1,f,t,x⟩,q⟩) k).1).j.tg),iN ((a4 (af (ae ⟨m,⟨1,f,t,x⟩,q⟩) k).1).j.nx),pt d 0] 133,pk (aJ b (a4 (af (ae ⟨m,⟨1,f,t,x⟩,q⟩) k).1).m),pk (bH d (a4 (af (ae ⟨m,⟨1,f,t,x⟩,q⟩) k).1).q),ob (B4 u) #[i6 1,iN f,iN t,iN x] 70,bc a ((af (ae ⟨m,⟨1,f,t,x⟩,q⟩) k).2),ob ((i 8).y 0) #[iN (((((af (ae ⟨m,⟨1,f,t,x⟩,q⟩) k).1).q).headD aK).k),iN (((((af (ae ⟨m,⟨1,f,t,x⟩,q⟩) k).1).q).headD aK).w)] 285] (by skip;kernel_rfl) (r0 [(1,.l 5),(2,.c [0,1,2] [0,1,2] (o6 g b d (a4 (af (ae ⟨m,⟨1,f,t,x⟩,q⟩) k).1) A ((((af (ae ⟨m,⟨1,f,t,x⟩,q⟩) k).1).q).headD aK) B))] [(58,.bool (!(de (a4 (af (ae ⟨m,⟨1,f,t,x⟩,q⟩) k).1) ((((af (ae ⟨m,⟨1,f,t,x⟩,q⟩) k).1).q).headD aK))))] [] ?_)));refine cB (!(de (a4 (af (ae ⟨m,⟨1,f,t,x⟩,q⟩) k).1) ((((af (ae ⟨m,⟨1,f,t,x⟩,q⟩) k).1).q).headD aK))) (λG=>?_) λG=>?_
  ·exact rr (λe=>[(2,.l 5),(3,.c [0,1,2] [0,1,2,6] (zP g b d (a4 (af (ae ⟨m,⟨1,f,t,x⟩,q⟩) k).1) A ((((af (ae ⟨m,⟨1,f,t,x⟩,q⟩) k).1).q).headD aK) B)),(4,.m (mn 4 6 jg.hT (a) ((e 3).val 0) (xs:=(af (ae ⟨m,⟨1,f,t,x⟩,q⟩) k).2) (ys:=fS (a4 (af (ae ⟨m,⟨1,f,t,x⟩,q⟩) k).1) ((((af (ae ⟨m,⟨1,f,t,x⟩,q⟩) k).1).q).headD aK)) (bc ((e 3).val 0) (fS (a4 (af (ae ⟨m,⟨1,f,t,x⟩,q⟩) k).1) ((((af (ae ⟨m,⟨1,f,t,x⟩,q⟩) k).1).q).headD aK))) (λ_ h=>ar.src ((λ_ h=>h) _ h)) jg.one jg.lz (by simp only[LL,vL];omega)))]) (λe=>[(4,(e 4).val 0)]) [4] (λe L=>(((L.set 0 (ob g #[pt b 0,iN ((dn (a4 (af (ae ⟨m,⟨1,f,t,x⟩,q⟩) k).1) ((((af (ae ⟨m,⟨1,f,t,x⟩,q⟩) k).1).q).headD aK)).j.A),iN ((dn (a4 (af (ae ⟨m,⟨1,f,t,x⟩,q⟩) k).1) ((((af (ae ⟨m,⟨1,f,t,x⟩,q⟩) k).1).q).headD aK)).j.fr),iN ((dn (a4 (af (ae ⟨m,⟨1,f,t,x⟩,q⟩) k).1) ((((af (ae ⟨m,⟨1,f,t,x⟩,q⟩) k).1).q).headD aK)).j.tg),iN ((dn (a4 (af (ae ⟨m,⟨1,f,t,x⟩,q⟩) k).1) ((((af (ae ⟨m,⟨1,f,t,x⟩,q⟩) k).1).q).headD aK)).j.nx),pt d 0] 133)).set 1 ((pk (aJ b (dn (a4 (af (ae ⟨m,⟨1,f,t,x⟩,q⟩) k).1) ((((af (ae ⟨m,⟨1,f,t,x⟩,q⟩) k).1).q).headD aK)).m)))).set 2 ((pk (bH d (dn (a4 (af (ae ⟨m,⟨1,f,t,x⟩,q⟩) k).1) ((((af (ae ⟨m,⟨1,f,t,x⟩,q⟩) k).1).q).headD aK)).q)))).set 4 (bc ((e 4).val 0) (((af (ae ⟨m,⟨1,f,t,x⟩,q⟩) k).2)++(fS (a4 (af (ae ⟨m,⟨1,f,t,x⟩,q⟩) k).1) ((((af (ae ⟨m,⟨1,f,t,x⟩,q⟩) k).1).q).headD aK))))++[bc ((e 3).val 0) (fS (a4 (af (ae ⟨m,⟨1,f,t,x⟩,q⟩) k).1) ((((af (ae ⟨m,⟨1,f,t,x⟩,q⟩) k).1).q).headD aK))]) λe=>kS (k+1) ((e 4).val 0) ⟨by omega,C⟩ Om Kr [0,1,2,3,4] (by(rw[Fu (s:=(ae ⟨m,⟨1,f,t,x⟩,q⟩)) (k:=k) (by simpa using ‹(!de (a4 (af (ae ⟨m,⟨1,f,t,x⟩,q⟩) k).1) ((af (ae ⟨m,⟨1,f,t,x⟩,q⟩) k).1.q.headD aK))=true›)]);kernel_rfl)
  exact kS (k+1) a ⟨by omega,C⟩ Om Kr [0,1,2,3,4] (by(rw[Ft (s:=(ae ⟨m,⟨1,f,t,x⟩,q⟩)) (k:=k) (by simpa using ‹(!de (a4 (af (ae ⟨m,⟨1,f,t,x⟩,q⟩) k).1) ((af (ae ⟨m,⟨1,f,t,x⟩,q⟩) k).1.q.headD aK))=false›)]);kernel_rfl)
 refine kT ?_;have r:((af (ae ⟨m,⟨1,f,t,x⟩,q⟩) k).1.j.A≠0)∨(af (ae ⟨m,⟨1,f,t,x⟩,q⟩) k).1.q.length=0:=by(left;simpa using H)
 have p:cH ⟨m,⟨1,f,t,x⟩,q⟩=(af (ae ⟨m,⟨1,f,t,x⟩,q⟩) k):=by show fb q.length (ae ⟨m,⟨1,f,t,x⟩,q⟩)=_;rw[K];rcases r with h | h;exact vO h _;rw[show q.length-k=0 by omega];rfl
 exact cl [ob g #[pt b 0,iN ((af (ae ⟨m,⟨1,f,t,x⟩,q⟩) k).1.j.A),iN ((af (ae ⟨m,⟨1,f,t,x⟩,q⟩) k).1.j.fr),iN ((af (ae ⟨m,⟨1,f,t,x⟩,q⟩) k).1.j.tg),iN ((af (ae ⟨m,⟨1,f,t,x⟩,q⟩) k).1.j.nx),pt d 0] 133,pk (aJ b ((af (ae ⟨m,⟨1,f,t,x⟩,q⟩) k).1).m),pk (bH d (af (ae ⟨m,⟨1,f,t,x⟩,q⟩) k).1.q),ob (B4 u) #[i6 1,iN f,iN t,iN x] 70,bc a ((af (ae ⟨m,⟨1,f,t,x⟩,q⟩) k).2)] (by(try rw[show(af (ae ⟨m,⟨1,f,t,x⟩,q⟩) k).1.q.tail=(af (ae ⟨m,⟨1,f,t,x⟩,q⟩) k).1.q from vN (r.resolve_left (λh=>h v))]);kernel_rfl) (r0 [] [(2,a)] [2] (lf (.l [] [] [a]) [0,1,2,4] [] [] (hf:=by rw[p];kernel_rfl)))
theorem RF(g b d:Nat)(m:Mp)(f t x:Nat)(q:List Ak)(J:Yo ⟨m,⟨2,f,t,x⟩,q⟩)(D:oc m f t x):aa YU 212 #[pt g 0] [pk (au g b d ⟨m,⟨2,f,t,x⟩,q⟩)] [0] (λE=>[pk (au g b d (cH ⟨m,⟨2,f,t,x⟩,q⟩).1),bc (E.val 0) ((cH ⟨m,⟨2,f,t,x⟩,q⟩).2)]) (λE=>(E.val 0)):=aa.pkW (n:=1) (N:=λE=>[bc (E.val 0) ((cH ⟨m,⟨2,f,t,x⟩,q⟩).2)]) (enters_of Tryz.func212 Kr rfl) λL P=>by
 obtain⟨rfl⟩:=P;refine⟨[0,1,2],λ_=>[ob g #[pt b 0,iN ((cH ⟨m,⟨2,f,t,x⟩,q⟩).1.j.A),iN ((cH ⟨m,⟨2,f,t,x⟩,q⟩).1.j.fr),iN ((cH ⟨m,⟨2,f,t,x⟩,q⟩).1.j.tg),iN ((cH ⟨m,⟨2,f,t,x⟩,q⟩).1.j.nx),pt d 0] 133,pk (aJ b (cH ⟨m,⟨2,f,t,x⟩,q⟩).1.m),pk (bH d (cH ⟨m,⟨2,f,t,x⟩,q⟩).1.q)],?_,rfl,λE=>⟨rfl,rfl,rfl⟩⟩;have U:=J.m;have V:q.length≤256:=J.n;have Q:=vH J (show(2:Nat)≠0 by decide);refine fG Tryz.func212 λw W=>r0 [] [(2,.slice none 0 0)] [] (rr (λ_=>[(3,.l 0),(5,.s 3)]) (λu=>[(3,pt (B4 u) 0)]) [] (λu L=>L++[ob (B4 u) #[i6 2,iN f,iN t,iN x] 70]) λu=>rs [(4,.s 0)] 0 (ob g #[pt b 0,i6 0,i6 0,i6 0,i6 0,pt d 0] 133) (rF [(1,.l 3)] 17 (rs [(3,.l 0),(5,.l 3),(7,.l 3),(8,.c [1] [1] (Qy b m U f t D.hf D.t0 D.t1 D.hs))] 1 ((pk (aJ b (sF m f t)))) (rr (λ_=>[(1,.l 3),(3,.l 3),(5,gO jg 4 1 [(⟨6,f,t⟩:Ev)])]) (λC=>[(4,.slice (some ⟨(C 5).y 0,0,none⟩) 1 1)]) [] (λC L=>L++[bc (.slice (some ⟨(C 5).y 0,0,none⟩) 1 1) ([(⟨6,f,t⟩:Ev)])]) λC=>?_))));refine mv (λk _=>k≤q.length∧(fb q.length (ae ⟨m,⟨2,f,t,x⟩,q⟩)=fb (q.length-k) (af (ae ⟨m,⟨2,f,t,x⟩,q⟩) k))) (λ_ a=>[(4,a)]) (λk a L=>(((L.set 0 (ob g #[pt b 0,iN ((af (ae ⟨m,⟨2,f,t,x⟩,q⟩) k).1.j.A),iN ((af (ae ⟨m,⟨2,f,t,x⟩,q⟩) k).1.j.fr),iN ((af (ae ⟨m,⟨2,f,t,x⟩,q⟩) k).1.j.tg),iN ((af (ae ⟨m,⟨2,f,t,x⟩,q⟩) k).1.j.nx),pt d 0] 133)).set 1 ((pk (aJ b (af (ae ⟨m,⟨2,f,t,x⟩,q⟩) k).1.m)))).set 2 ((pk (bH d (af (ae ⟨m,⟨2,f,t,x⟩,q⟩) k).1.q)))).set 4 (bc a ((af (ae ⟨m,⟨2,f,t,x⟩,q⟩) k).2))) (λk _=>q.length-k) 0 (.slice (some ⟨(C 5).y 0,0,none⟩) 1 1) ⟨by omega,rfl⟩ Kr Kr (λk a ⟨T,K⟩=>?_);have M:Yo (af (ae ⟨m,⟨2,f,t,x⟩,q⟩) k).1:=zM Q k (show k≤q.length by omega);have R:=zL (ae ⟨m,⟨2,f,t,x⟩,q⟩) k;have O:(ae ⟨m,⟨2,f,t,x⟩,q⟩).2.length=1:=rfl;have S:(af (ae ⟨m,⟨2,f,t,x⟩,q⟩) k).1.q.length=q.length-k:=vM (ae ⟨m,⟨2,f,t,x⟩,q⟩) k;refine rr (λ_=>[(1,.c [0,1,2] [1,2] (mI g b d ((af (ae ⟨m,⟨2,f,t,x⟩,q⟩) k).1)))]) (λ_=>[(44,.bool (!((((af (ae ⟨m,⟨2,f,t,x⟩,q⟩) k).1).j.A:Int) != 0)))]) [] (λ_ L=>(L.set 1 ((pk (aJ b ((af (ae ⟨m,⟨2,f,t,x⟩,q⟩) k).1).m)))).set 2 ((pk (bH d ((af (ae ⟨m,⟨2,f,t,x⟩,q⟩) k).1).q)))) λX=>?_;refine cB (!((((af (ae ⟨m,⟨2,f,t,x⟩,q⟩) k).1).j.A:Int) != 0)) (λH=>?_) λH=>?_
 ·have v:(af (ae ⟨m,⟨2,f,t,x⟩,q⟩) k).1.j.A=0:=by simpa using H
  refine rr (λ_=>[(3,.l 0),(4,.c [2] [2] (Fm d (((af (ae ⟨m,⟨2,f,t,x⟩,q⟩) k).1).q))),(9,.s 5)]) (λi=>[(5,pt ((i 8).y 0) 0),(6,i6 (lY (((af (ae ⟨m,⟨2,f,t,x⟩,q⟩) k).1).q)))]) [] (λi L=>L.set 2 ((pk (bH d (((af (ae ⟨m,⟨2,f,t,x⟩,q⟩) k).1).q).tail)))++[ob ((i 8).y 0) #[iN (((((af (ae ⟨m,⟨2,f,t,x⟩,q⟩) k).1).q).headD aK).k),iN (((((af (ae ⟨m,⟨2,f,t,x⟩,q⟩) k).1).q).headD aK).w)] 285]) λi=>r0 [] [(54,.bool ((lY (((af (ae ⟨m,⟨2,f,t,x⟩,q⟩) k).1).q)) != 0))] [] ?_;refine m6 (lY (((af (ae ⟨m,⟨2,f,t,x⟩,q⟩) k).1).q)) 0 (λF o=>?_) λF o=>?_
  ·refine kT ?_;have r:((af (ae ⟨m,⟨2,f,t,x⟩,q⟩) k).1.j.A≠0)∨(af (ae ⟨m,⟨2,f,t,x⟩,q⟩) k).1.q.length=0:=by(right;have y:=o;unfold lY at y;split at y<;>first | assumption | exact absurd rfl y)
   have p:cH ⟨m,⟨2,f,t,x⟩,q⟩=(af (ae ⟨m,⟨2,f,t,x⟩,q⟩) k):=by show fb q.length (ae ⟨m,⟨2,f,t,x⟩,q⟩)=_;rw[K];rcases r with h | h;exact vO h _;rw[show q.length-k=0 by omega];rfl
   exact cl [ob g #[pt b 0,iN ((af (ae ⟨m,⟨2,f,t,x⟩,q⟩) k).1.j.A),iN ((af (ae ⟨m,⟨2,f,t,x⟩,q⟩) k).1.j.fr),iN ((af (ae ⟨m,⟨2,f,t,x⟩,q⟩) k).1.j.tg),iN ((af (ae ⟨m,⟨2,f,t,x⟩,q⟩) k).1.j.nx),pt d 0] 133,pk (aJ b ((af (ae ⟨m,⟨2,f,t,x⟩,q⟩) k).1).m),pk (bH d (af (ae ⟨m,⟨2,f,t,x⟩,q⟩) k).1.q),ob (B4 u) #[i6 2,iN f,iN t,iN x] 70,bc a ((af (ae ⟨m,⟨2,f,t,x⟩,q⟩) k).2),ob ((i 8).y 0) #[iN (((((af (ae ⟨m,⟨2,f,t,x⟩,q⟩) k).1).q).headD aK).k),iN (((((af (ae ⟨m,⟨2,f,t,x⟩,q⟩) k).1).q).headD aK).w)] 285] (by(try rw[show(af (ae ⟨m,⟨2,f,t,x⟩,q⟩) k).1.q.tail=(af (ae ⟨m,⟨2,f,t,x⟩,q⟩) k).1.q from vN (r.resolve_left (λh=>h v))]);kernel_rfl) (r0 [] [(2,a)] [2] (lf (.l [] [] [a]) [0,1,2,4] [] [] (hf:=by rw[p];kernel_rfl)))
  have I:0<(af (ae ⟨m,⟨2,f,t,x⟩,q⟩) k).1.q.length:=by have y:=o;unfold lY at y;split at y<;>omega
  have B:=Fv (s:=(ae ⟨m,⟨2,f,t,x⟩,q⟩)) (k:=k) (by show k<q.length;omega) K v;have z:=vK M;have A:ew (a4 (af (ae ⟨m,⟨2,f,t,x⟩,q⟩) k).1).m ((af (ae ⟨m,⟨2,f,t,x⟩,q⟩) k).1.q.headD aK):=⟨(sJ M I).k⟩;refine cl [ob g #[pt b 0,iN ((a4 (af (ae ⟨m,⟨2,f,t,x⟩,q⟩) k).1).j.A),iN ((a4 (af (ae ⟨m,⟨2,f,t,x⟩,q⟩) k).1).j.fr),iN ((a4 (af (ae ⟨m,⟨2,f,t,x⟩,q⟩) k).1).j.tg),iN ((a4 (af (ae ⟨m,⟨2,f,t,x⟩,q⟩) k).1).j.nx),pt d 0] 133,pk (aJ b ((af (ae ⟨m,⟨2,f,t,x⟩,q⟩) k).1).m),pk (bH d (((af (ae ⟨m,⟨2,f,t,x⟩,q⟩) k).1).q).tail),ob (B4 u) #[i6 2,iN f,iN t,iN x] 70,bc a ((af (ae ⟨m,⟨2,f,t,x⟩,q⟩) k).2),ob ((i 8).y 0) #[iN (((((af (ae ⟨m,⟨2,f,t,x⟩,q⟩) k).1).q).headD aK).k),iN (((((af (ae ⟨m,⟨2,f,t,x⟩,q⟩) k).1).q).headD aK).w)] 285] (by skip;kernel_rfl) (cl [ob g #[pt b 0,iN ((a4 (af (ae ⟨m,⟨2,f,t,x⟩,q⟩) k).1).j.A),iN ((a4 (af (ae ⟨m,⟨2,f,t,x⟩,q⟩) k).1).j.fr),iN ((a4 (af (ae ⟨m,⟨2,f,t,x⟩,q⟩) k).1).j.tg),iN ((a4 (af (ae ⟨m,⟨2,f,t,x⟩,q⟩) k).1).j.nx),pt d 0] 133,pk (aJ b (a4 (af (ae ⟨m,⟨2,f,t,x⟩,q⟩) k).1).m),pk (bH d (((af (ae ⟨m,⟨2,f,t,x⟩,q⟩) k).1).q).tail),ob (B4 u) #[i6 2,iN f,iN t,iN x] 70,bc a ((af (ae ⟨m,⟨2,f,t,x⟩,q⟩) k).2),ob ((i 8).y 0) #[iN (((((af (ae ⟨m,⟨2,f,t,x⟩,q⟩) k).1).q).headD aK).k),iN (((((af (ae ⟨m,⟨2,f,t,x⟩,q⟩) k).1).q).headD aK).w)] 285] (by skip;kernel_rfl) (cl [ob g #[pt b 0,iN ((a4 (af (ae ⟨m,⟨2,f,t,x⟩,q⟩) k).1).j.A),iN ((a4 (af (ae ⟨m,⟨2,f,t,x⟩,q⟩) k).1).j.fr),iN ((a4 (af (ae ⟨m,⟨2,f,t,x⟩,q⟩) k).1).j.tg),iN ((a4 (af (ae ⟨m,⟨2,f,t,x⟩,q⟩) k).1).j.nx),pt d 0] 133,pk (aJ b (a4 (af (ae ⟨m,⟨2,f,t,x⟩,q⟩) k).1).m),pk (bH d (a4 (af (ae ⟨m,⟨2,f,t,x⟩,q⟩) k).1).q),ob (B4 u) #[i6 2,iN f,iN t,iN x] 70,bc a ((af (ae ⟨m,⟨2,f,t,x⟩,q⟩) k).2),ob ((i 8).y 0) #[iN (((((af (ae ⟨m,⟨2,f,t,x⟩,q⟩) k).1).q).headD aK).k),iN (((((af (ae ⟨m,⟨2,f,t,x⟩,q⟩) k).1).q).headD aK).w)] 285] (by skip;kernel_rfl) (r0 [(1,.l 5),(2,.c [0,1,2] [0,1,2] (o6 g b d (a4 (af (ae ⟨m,⟨2,f,t,x⟩,q⟩) k).1) z ((((af (ae ⟨m,⟨2,f,t,x⟩,q⟩) k).1).q).headD aK) A))] [(58,.bool (!(de (a4 (af (ae ⟨m,⟨2,f,t,x⟩,q⟩) k).1) ((((af (ae ⟨m,⟨2,f,t,x⟩,q⟩) k).1).q).headD aK))))] [] ?_)));refine cB (!(de (a4 (af (ae ⟨m,⟨2,f,t,x⟩,q⟩) k).1) ((((af (ae ⟨m,⟨2,f,t,x⟩,q⟩) k).1).q).headD aK))) (λG=>?_) λG=>?_
  ·exact rr (λe=>[(2,.l 5),(3,.c [0,1,2] [0,1,2,6] (zP g b d (a4 (af (ae ⟨m,⟨2,f,t,x⟩,q⟩) k).1) z ((((af (ae ⟨m,⟨2,f,t,x⟩,q⟩) k).1).q).headD aK) A)),(4,.m (mn 4 6 jg.hT (a) ((e 3).val 0) (xs:=(af (ae ⟨m,⟨2,f,t,x⟩,q⟩) k).2) (ys:=fS (a4 (af (ae ⟨m,⟨2,f,t,x⟩,q⟩) k).1) ((((af (ae ⟨m,⟨2,f,t,x⟩,q⟩) k).1).q).headD aK)) (bc ((e 3).val 0) (fS (a4 (af (ae ⟨m,⟨2,f,t,x⟩,q⟩) k).1) ((((af (ae ⟨m,⟨2,f,t,x⟩,q⟩) k).1).q).headD aK))) (λ_ h=>ar.src ((λ_ h=>h) _ h)) jg.one jg.lz (by simp only[LL,vL];omega)))]) (λe=>[(4,(e 4).val 0)]) [4] (λe L=>(((L.set 0 (ob g #[pt b 0,iN ((dn (a4 (af (ae ⟨m,⟨2,f,t,x⟩,q⟩) k).1) ((((af (ae ⟨m,⟨2,f,t,x⟩,q⟩) k).1).q).headD aK)).j.A),iN ((dn (a4 (af (ae ⟨m,⟨2,f,t,x⟩,q⟩) k).1) ((((af (ae ⟨m,⟨2,f,t,x⟩,q⟩) k).1).q).headD aK)).j.fr),iN ((dn (a4 (af (ae ⟨m,⟨2,f,t,x⟩,q⟩) k).1) ((((af (ae ⟨m,⟨2,f,t,x⟩,q⟩) k).1).q).headD aK)).j.tg),iN ((dn (a4 (af (ae ⟨m,⟨2,f,t,x⟩,q⟩) k).1) ((((af (ae ⟨m,⟨2,f,t,x⟩,q⟩) k).1).q).headD aK)).j.nx),pt d 0] 133)).set 1 ((pk (aJ b (dn (a4 (af (ae ⟨m,⟨2,f,t,x⟩,q⟩) k).1) ((((af (ae ⟨m,⟨2,f,t,x⟩,q⟩) k).1).q).headD aK)).m)))).set 2 ((pk (bH d (dn (a4 (af (ae ⟨m,⟨2,f,t,x⟩,q⟩) k).1) ((((af (ae ⟨m,⟨2,f,t,x⟩,q⟩) k).1).q).headD aK)).q)))).set 4 (bc ((e 4).val 0) (((af (ae ⟨m,⟨2,f,t,x⟩,q⟩) k).2)++(fS (a4 (af (ae ⟨m,⟨2,f,t,x⟩,q⟩) k).1) ((((af (ae ⟨m,⟨2,f,t,x⟩,q⟩) k).1).q).headD aK))))++[bc ((e 3).val 0) (fS (a4 (af (ae ⟨m,⟨2,f,t,x⟩,q⟩) k).1) ((((af (ae ⟨m,⟨2,f,t,x⟩,q⟩) k).1).q).headD aK))]) λe=>kS (k+1) ((e 4).val 0) ⟨by omega,B⟩ Om Kr [0,1,2,3,4] (by(rw[Fu (s:=(ae ⟨m,⟨2,f,t,x⟩,q⟩)) (k:=k) (by simpa using ‹(!de (a4 (af (ae ⟨m,⟨2,f,t,x⟩,q⟩) k).1) ((af (ae ⟨m,⟨2,f,t,x⟩,q⟩) k).1.q.headD aK))=true›)]);kernel_rfl)
  exact kS (k+1) a ⟨by omega,B⟩ Om Kr [0,1,2,3,4] (by(rw[Ft (s:=(ae ⟨m,⟨2,f,t,x⟩,q⟩)) (k:=k) (by simpa using ‹(!de (a4 (af (ae ⟨m,⟨2,f,t,x⟩,q⟩) k).1) ((af (ae ⟨m,⟨2,f,t,x⟩,q⟩) k).1.q.headD aK))=false›)]);kernel_rfl)
 refine kT ?_;have r:((af (ae ⟨m,⟨2,f,t,x⟩,q⟩) k).1.j.A≠0)∨(af (ae ⟨m,⟨2,f,t,x⟩,q⟩) k).1.q.length=0:=by(left;simpa using H)
 have p:cH ⟨m,⟨2,f,t,x⟩,q⟩=(af (ae ⟨m,⟨2,f,t,x⟩,q⟩) k):=by show fb q.length (ae ⟨m,⟨2,f,t,x⟩,q⟩)=_;rw[K];rcases r with h | h;exact vO h _;rw[show q.length-k=0 by omega];rfl
 exact cl [ob g #[pt b 0,iN ((af (ae ⟨m,⟨2,f,t,x⟩,q⟩) k).1.j.A),iN ((af (ae ⟨m,⟨2,f,t,x⟩,q⟩) k).1.j.fr),iN ((af (ae ⟨m,⟨2,f,t,x⟩,q⟩) k).1.j.tg),iN ((af (ae ⟨m,⟨2,f,t,x⟩,q⟩) k).1.j.nx),pt d 0] 133,pk (aJ b ((af (ae ⟨m,⟨2,f,t,x⟩,q⟩) k).1).m),pk (bH d (af (ae ⟨m,⟨2,f,t,x⟩,q⟩) k).1.q),ob (B4 u) #[i6 2,iN f,iN t,iN x] 70,bc a ((af (ae ⟨m,⟨2,f,t,x⟩,q⟩) k).2)] (by(try rw[show(af (ae ⟨m,⟨2,f,t,x⟩,q⟩) k).1.q.tail=(af (ae ⟨m,⟨2,f,t,x⟩,q⟩) k).1.q from vN (r.resolve_left (λh=>h v))]);kernel_rfl) (r0 [] [(2,a)] [2] (lf (.l [] [] [a]) [0,1,2,4] [] [] (hf:=by rw[p];kernel_rfl)))
theorem RG(g a b:Nat)(r:Rp)(d:Yo r)(e:r.j.A≠0):aa YU 212 #[pt g 0] [pk (au g a b r)] [0] (λE=>[pk (au g a b (cH r).1),bc (E.val 0) (cH r).2]) (λE=>E.val 0):=by
 obtain⟨m,⟨i,f,t,x⟩,q⟩:=r;rcases d.j.k with h | ⟨c,h⟩ | ⟨c,h⟩
 ·cases h;exact absurd rfl e
 ·cases c;exact RE g a b m f t x q d h
 ·cases c;exact RF g a b m f t x q d h
theorem RH(g a b:Nat)(r:Rp)(d:Yo r)(c:r.j.A≠0):aa YU 212 #[pt g 0] (qk g a b r) [0,1,2] (λE=>qk g a b (cH r).1++[bc (E.val 0) (cH r).2]) (λE=>E.val 0):=(RG g a b r d c).unpk (N:=λE=>[bc (E.val 0) (cH r).2])
theorem bz{r:Rp}(a:r.j.A≠0):((r.j.A:Int)==0)=false:=by rw[dz];omega
theorem RI(g a b:Nat)(r:Rp)(d:Yo r)(h:r.j.A≠0)(t:r.j.nx<gD r.j.A r.m.B r.m.M r.m.C)(p:lX r.m (bI r).j=true):aa YU 165 #[pt g 0] [pk (au g a b r)] [0] (λE=>[pk (au g a b (cH (bI r)).1),bc (E.val 0) ((cH (bI r)).2)]) (λE=> .tuple #[(E.val 0),i6 0]):=aa.pkW (n:=1) (N:=λE=>[bc (E.val 0) ((cH (bI r)).2)]) (enters_of Tryz.func165 Kr rfl) λL o=>by
 obtain⟨rfl⟩:=o;refine⟨[0,1,2],λ_=>[ob g #[pt a 0,iN ((cH (bI r)).1.j.A),iN ((cH (bI r)).1.j.fr),iN ((cH (bI r)).1.j.tg),iN ((cH (bI r)).1.j.nx),pt b 0] 133,pk (aJ a (cH (bI r)).1.m),pk (bH b (cH (bI r)).1.q)],?_,rfl,λE=>⟨rfl,rfl,rfl⟩⟩;have f:=d.m;have B:=d.j;have y:=d.n;have A:=f.O;have u:=f.ly;have v:=f.np;have i:r.j.A=1∨r.j.A=2:=Fp d h;have x:r.j.nx≤4096:=Fq d;refine fG Tryz.func165 λw z=>r0 [] [(2,.slice none 0 0),(3,i6 0)] [] (r0 [(1,.c [0,1,2] [1,2] (mI g a b r))] [(6,.bool (!((r.j.A:Int) != 0)))] [] ?_);have k:(!((r.j.A:Int) != 0))=false:=by(rw[bne,bz h];rfl)
 exact cF (!((r.j.A:Int) != 0)) k (rs [(4,.l 0),(5,ad r.j.nx 1),(9,.s 0)] 0 (ob g #[pt a 0,iN r.j.A,iN r.j.fr,iN r.j.tg,iN (r.j.nx+1),pt b 0] 133) (rF [(3,.l 0),(7,.l 0),(8,.c [1] [1] (jd a r.m f)),(9,.c [] [] (aa.v ((Fj r.m f r.j.A r.j.fr r.j.tg (r.j.nx+1) i)) λ_=>ALca Value.bool (show(lX r.m ⟨r.j.A,r.j.fr,r.j.tg,(r.j.nx+1)⟩)=true from(by exact p))))] 26 (cl [ob g #[pt a 0,iN ((bI r).j.A),iN ((bI r).j.fr),iN ((bI r).j.tg),iN ((bI r).j.nx),pt b 0] 133,pk (aJ a r.m),pk (bH b r.q)] (by skip;kernel_rfl) (cl [ob g #[pt a 0,iN ((bI r).j.A),iN ((bI r).j.fr),iN ((bI r).j.tg),iN ((bI r).j.nx),pt b 0] 133,pk (aJ a (bI r).m),pk (bH b r.q)] (by skip;kernel_rfl) (cl [ob g #[pt a 0,iN ((bI r).j.A),iN ((bI r).j.fr),iN ((bI r).j.tg),iN ((bI r).j.nx),pt b 0] 133,pk (aJ a (bI r).m),pk (bH b (bI r).q)] (by skip;kernel_rfl) (rr (λ_=>[(1,.c [0,1,2] [0,1,2,3] (RH g a b (bI r) (vJ d h t) h))]) (λe=>[(2,(e 1).val 0),(3,i6 0)]) [2,3] (λe L=>((L.set 0 (ob g #[pt a 0,iN ((cH (bI r)).1.j.A),iN ((cH (bI r)).1.j.fr),iN ((cH (bI r)).1.j.tg),iN ((cH (bI r)).1.j.nx),pt b 0] 133)).set 1 ((pk (aJ a (cH (bI r)).1.m)))).set 2 ((pk (bH b (cH (bI r)).1.q)))++[bc ((e 1).val 0) ((cH (bI r)).2)]) λe=>lf (.l [] [] [((e 1).val 0),(e 1).val 0]) [0,1,2,3] [] []))))))
theorem RJ(g a b:Nat)(r:Rp)(e:Yo r)(h:r.j.A≠0)(x:r.j.nx<gD r.j.A r.m.B r.m.M r.m.C)(m:lX r.m (bI r).j=false):aa YU 165 #[pt g 0] [pk (au g a b r)] [0] (λE=>[pk (au g a b (bI r)),bc (E.val 0) ([])]) (λE=> .tuple #[(E.val 0),i6 0]):=aa.pkW (n:=1) (N:=λE=>[bc (E.val 0) ([])]) (enters_of Tryz.func165 Kr rfl) λL k=>by
 obtain⟨rfl⟩:=k;refine⟨[0,1,2],λ_=>[ob g #[pt a 0,iN r.j.A,iN r.j.fr,iN r.j.tg,iN (r.j.nx+1),pt b 0] 133,pk (aJ a r.m),pk (bH b r.q)],?_,rfl,λE=>⟨rfl,rfl,rfl⟩⟩;have d:=e.m;have y:=e.j;have t:=e.n;have v:=d.O;have o:=d.ly;have p:=d.np;have f:r.j.A=1∨r.j.A=2:=Fp e h;have q:r.j.nx≤4096:=Fq e;refine fG Tryz.func165 λw u=>r0 [] [(2,.slice none 0 0),(3,i6 0)] [] (r0 [(1,.c [0,1,2] [1,2] (mI g a b r))] [(6,.bool (!((r.j.A:Int) != 0)))] [] ?_);have i:(!((r.j.A:Int) != 0))=false:=by(rw[bne,bz h];rfl)
 exact cF (!((r.j.A:Int) != 0)) i (rs [(4,.l 0),(5,ad r.j.nx 1),(9,.s 0)] 0 (ob g #[pt a 0,iN r.j.A,iN r.j.fr,iN r.j.tg,iN (r.j.nx+1),pt b 0] 133) (rT [(3,.l 0),(7,.l 0),(8,.c [1] [1] (jd a r.m d)),(9,.c [] [] (aa.v ((Fj r.m d r.j.A r.j.fr r.j.tg (r.j.nx+1) f)) λ_=>ALca Value.bool (show(lX r.m ⟨r.j.A,r.j.fr,r.j.tg,(r.j.nx+1)⟩)=false from(by exact m))))] 26 (r0 [] [(2,.slice none 0 0),(3,i6 0)] [2,3] (cz jg (lf (.l [] [] [.slice none 0 0]) [0,1,2,3] [] [])))))
theorem RK(g a b:Nat)(r:Rp)(f:Yo r)(c:r.j.A≠0)(e:r.j.nx<gD r.j.A r.m.B r.m.M r.m.C):aa YU 165 #[pt g 0] [pk (au g a b r)] [0] (λE=>[pk (au g a b (fo r).1),bc (E.val 0) (fo r).2]) (λE=> .tuple #[E.val 0,i6 0]):=by
 unfold fo;cases d:lX r.m (bI r).j with
 | true=>exact RI g a b r f c e d
 | false=>exact RJ g a b r f c e d
theorem RL(a b:Nat):decide ((a:Int)<(b:Int))=decide (a<b):=by
 by_cases h:a<b
 ·rw[c0 h,c0 Om]
 ·rw[bj h,bj Om]
structure Bk where
 l:Nat
 a:Nat
deriving DecidableEq
def bh:Bk:=⟨0,0⟩
def zQ(x:Bk):List Value:=[iN x.l,iN x.a]
def k7:Kd YU Bk:=⟨zQ,[i6 0,i6 0],292,290,bh,2,λ_=>rfl,rfl,λ_=>rfl,dT.mk' Kr Kr rfl⟩
abbrev kD(v:Value)(xs:List Bk):aC:= .p (ar zQ ([i6 0,i6 0]) 290 v xs)
structure iL (lim ev:Nat):Prop where
 l1:1≤lim
 l2:lim≤65536
 e1:1≤ev
 e2:ev≤65536
structure eY (ev:Nat) (l a:Nat):Prop where
 l:l≤65536
 a:a<ev
def j9(n a b:Int):Bool:=decide (a≤n)&&decide (n≤b)
def gU(l e:Int):Bool:=j9 l 1 65536&&j9 e 1 65536
theorem Fw{l e:Int}(h:gU l e=true): ∃a b:Nat,l=a∧e=b∧iL a b:=by
 unfold gU j9 at h;simp only[Y2,decide_eq_true_eq] at h;exact⟨l.toNat,e.toNat,by omega,by omega,by omega,by omega,by omega,by omega⟩
theorem iL.r{a b:Nat}(h:iL a b):gU a b=true:=by
 have:=h.l1;have:=h.l2;have:=h.e1;have:=h.e2;unfold gU j9;simp only[Y2,decide_eq_true_eq];omega
def b6(l n:Nat):Nat:=l+min n (65536-l)
def cY(a l n:Nat):Bool:=decide (l<a)&&decide (a≤b6 l n)
def im(ev l a:Nat):Nat:=if 1<ev-a then l else l-1
def iq(ev l a:Nat):Nat:=if 1<ev-a then a+1 else 0
theorem Fx{ev l a n:Nat}(h:eY ev l a):eY ev (b6 l n) a:=⟨by have:=h.l;unfold b6;omega,h.a⟩
theorem Fy{ev l a:Nat}(h:eY ev l a):eY ev (im ev l a) (iq ev l a):=by
 have:=h.l;have:=h.a;unfold im iq
 constructor<;>split<;>omega
theorem vQ(n a b:Int):aa YU 174 #[i6 n,i6 a,i6 b] [] [] N0 (λ_=> .bool (j9 n a b)):=by
 exact fG Tryz.func174 λw c=>r0 [] [(6,.bool false)] [] (r0 [] [(6,.bool ((decide (a≤n))&&(decide (n≤b))))] [6] (aq (.bool ((decide (a≤n))&&(decide (n≤b)))) ab.zero ba [] [] []))
theorem zR(l e:Int):aa YU 136 #[.agg #[i6 l,i6 e]] [] [] N0 (λ_=> .bool (gU l e)):=by
 exact fG Tryz.func136 λw b=>ra (λa=>[(1,pt (B0 a) 0),(2,.bool false)]) (λa=>[ob (B0 a) #[i6 l,i6 e] 27]) λa=>r0 [(1,.l 0),(2,.c [] [] (vQ l 1 65536)),(5,.l 0),(6,.c [] [] (vQ e 1 65536))] [(2,.bool ((j9 l 1 65536)&&(j9 e 1 65536)))] [2] (aq (.bool ((j9 l 1 65536)&&(j9 e 1 65536))) ab.zero ba [] [] [])
theorem RM(a b:Nat)(h:iL a b):aa YU 136 #[.agg #[iN a,iN b]] [] [] N0 (λ_=> .bool true):=by
 have c:=zR a b;rwa [h.r] at c
theorem Fz(d b l a:Nat)(f:iL d b)(g:eY b l a):aa YU 260 #[.agg #[iN l,iN a],.agg #[iN d,iN b]] [] [] N0 (λ_=> .bool true):=by
 have i:=g.l;have j:=g.a;have k:=f.e2;exact fG Tryz.func260 λw h=>ra (λe=>[(2,pt (B0 e) 0),(3,pt (B1 e) 0),(4,.bool false)]) (λe=>[ob (B0 e) #[iN l,iN a] 290,ob (B1 e) #[iN d,iN b] 27]) λe=>r0 [(0,.m (ls 1 ([iN d,iN b]))),(1,.c [] [] (RM d b f)),(4,.m (ld 0 (iN l))),(5,.c [] [] (vQ (l:Int) 0 65536)),(9,.m (ld 0 (iN a))),(11,.m (ld 1 (iN b))),(12,sI (b:Int) (1) Om),(13,.c [] [] (vQ (a:Int) 0 ((b:Int)-1)))] [(4,.bool ((j9 (l:Int) 0 65536)&&(j9 (a:Int) 0 ((b:Int)-1))))] [4] (aq (.bool ((j9 (l:Int) 0 65536)&&(j9 (a:Int) 0 ((b:Int)-1)))) ab.zero (by exact ALca Value.bool (by unfold j9;simp only[Y2,decide_eq_true_eq];omega)) [] [] [])
theorem FA(d f l a n:Nat)(g:iL d f)(i:eY f l a)(o:n≤65536):aa YU 237 #[.agg #[iN l,iN a],.agg #[iN d,iN f],iN n] [] [] N0 (λ_=> .tuple #[.agg #[iN (b6 l n),iN a],.bool (cY d l n)]):=by
 have k:=i.l;have h:=g.l2;refine fG Tryz.func237 λw j=>ra (λe=>[(3,pt (B0 e) 0),(4,pt (B1 e) 0),(6,pt (B2 e) 0),(7,.bool false)]) (λe=>[ob (B0 e) #[iN l,iN a] 290,ob (B1 e) #[iN d,iN f] 27,ob (B2 e) #[i6 0,i6 0] 290]) λe=>r0 [(0,.l 0),(1,.l 1),(2,.c [] [] (Fz d f l a g i))] [(16,.bool (decide ((n:Int)<0)))] [] ?_;have h:(decide ((n:Int)<0))=false:=by exact bj Om
 exact cF (decide ((n:Int)<0)) h (r0 [(1,.l 0)] [(8,iN l)] [] (rs [(1,.l 0),(4,.l 0),(5,sI 65536 ((l:Int)) Om),(6,.t (tv (Builtin.min_ #[3,3] 3 #[iN n,i6 (65536-(l:Int))]) (λ_=>Jn _ _ _ _))),(7,.t (tv (av .add 3 (.tmp 21) (.tmp 26) (iN l) (i6 (min (n:Int) (65536-(l:Int))))) (λ_=>dJ (b:=((b6 l n:Nat):Int)) (qK Om Om) (by unfold b6;omega)))),(9,.s 0)] 0 (ob (B0 e) #[iN (b6 l n),iN a] 290) (rr (λ_=>[(0,.m (ls 0 ([iN (b6 l n),iN a]))),(3,.m (ld 1 (iN d))),(7,.m (ld 0 (iN (b6 l n)))),(9,.m (ld 1 (iN d))),(12,.s 2)]) (λ_=>[(7,.bool ((decide ((l:Int)<(d:Int)))&&(decide ((d:Int)≤((b6 l n:Nat):Int)))))]) [7] (λ_ L=>L.set 2 (ob (B2 e) #[iN (b6 l n),iN a] 290)) λp=>aq (.tuple #[.agg #[iN (b6 l n),iN a],.bool ((decide ((l:Int)<(d:Int)))&&(decide ((d:Int)≤((b6 l n:Nat):Int))))]) ab.zero (by unfold cY;rw[←zz,←RL]) [] [] [2])))
theorem RN(g e l a:Nat)(h:iL g e)(j:eY e l a):aa YU 244 #[.agg #[iN l,iN a],.agg #[iN g,iN e],i6 1] [] [] N0 (λ_=> .agg #[iN (im e l a),iN (iq e l a)]):=by
 have o:=j.l;have p:=j.a;have q:=h.e2;have r:=h.e1;refine fG Tryz.func244 λw n=>ra (λf=>[(3,pt (B0 f) 0),(4,pt (B1 f) 0),(6,pt (B2 f) 0)]) (λf=>[ob (B0 f) #[iN l,iN a] 290,ob (B1 f) #[iN g,iN e] 27,ob (B2 f) #[i6 0,i6 0] 290]) λf=>rF [(0,.l 0),(1,.l 1),(2,.c [] [] (Fz g e l a h j))] 15 (r0 [(1,.l 1),(3,.l 0),(4,.t (tb (a:=iN e) (b:=iN a) λ_ _ _ _=>lQ (a:=e) (b:=a) Om Om))] [(7,iN (e-a))] [] (r0 [] [(24,.bool (decide (1<((e-a:Nat):Int))))] [] ?_));refine cc 1 ((e-a:Nat):Int) (λk i=>?_) λk i=>?_
 ·exact rr (λ_=>[(1,.l 0),(3,ad a 1),(5,.s 0)]) N0 [] (λ_ L=>L.set 0 (ob (B0 f) #[iN l,iN (a+1)] 290)) λu=>rs [(0,.l 0),(1,.s 2)] 2 (ob (B2 f) #[iN l,iN (a+1)] 290) (aq (.agg #[iN l,iN (a+1)]) ab.zero (by unfold im iq;(rw[ALifp (show 1<e-a by omega),ALifp (show 1<e-a by omega)])) [] [] [2])
 exact r0 [(2,.t (tv (av .sub 3 (.tmp 31) (.tmp 32) (i6 1) (iN (e-a))) (λ_=>dJ (b:=0) (qL Om Om) Om)))] [(2,i6 0)] [2] (rs [(2,.l 1),(3,.t (tv (av .rem 3 (.tmp 34) (.tmp 36) (i6 0) (iN e)) (λ_=>dJ (b:=0) (nM (a:=0) (d:=e) Om) (by simp)))),(5,.s 0)] 0 (ob (B0 f) #[iN l,i6 0] 290) (rs [(1,.m (ld 0 (iN l))),(2,sI (l:Int) (1) Om),(5,.m (ld 1 (iN e))),(6,.t (tv (av .quo 3 (.tmp 42) (.tmp 44) (i6 0) (iN e)) (λ_=>dJ (b:=0) (oF (a:=0) (d:=e) Om Om) (by simp)))),(8,sI ((l:Int)-1) (0) Om),(9,.t (tv (Builtin.max_ #[3,3] 3 #[i6 0,i6 (((l:Int)-1)-0)]) (λ_=>pH _ _ _ _))),(11,.s 0)] 0 (ob (B0 f) #[i6 (max 0 (((l:Int)-1)-0)),i6 0] 290) (rs [(0,.l 0),(1,.s 2)] 2 (ob (B2 f) #[i6 (max 0 (((l:Int)-1)-0)),i6 0] 290) (aq (.agg #[i6 (max 0 (((l:Int)-1)-0)),i6 0]) ab.zero (by unfold im iq;(rw[ALifn (show ¬1<e-a by omega),ALifn (show ¬1<e-a by omega)];exact ALca (λz:Int=>Value.agg #[i6 z,i6 0]) Om)) [] [] [2]))))
theorem FB(d b l a:Nat)(f:iL d b)(g:eY b l a):aa YU 208 #[.agg #[iN l,iN a],.agg #[iN d,iN b]] [] [] N0 (λ_=> .agg #[iN (im b l a),iN (iq b l a)]):=by
 exact fG Tryz.func208 λw h=>ra (λe=>[(2,pt (B0 e) 0),(3,pt (B1 e) 0),(4,pt (B2 e) 0)]) (λe=>[ob (B0 e) #[iN l,iN a] 290,ob (B1 e) #[iN d,iN b] 27,ob (B2 e) #[i6 0,i6 0] 290]) λe=>rs [(0,.l 0),(1,.l 1),(2,.c [] [] (RN d b l a f g)),(3,.s 2)] 2 (ob (B2 e) #[iN (im b l a),iN (iq b l a)] 290) (lf ab.zero [] [] [2])
structure Re where
 s:Nat
 t:Nat
 k:Nat
 i:Nat
 o:Nat
deriving DecidableEq
def sK:Re:=⟨0,0,0,0,0⟩
def qm(x:Re):List Value:=[iN x.s,iN x.t,iN x.k,iN x.i,iN x.o]
def ir:Kd YU Re:=⟨qm,[i6 0,i6 0,i6 0,i6 0,i6 0],41,59,sK,5,λ_=>rfl,rfl,λ_=>rfl,dT.mk' Kr Kr rfl⟩
abbrev iu(v:Value)(xs:List Re):aC:= .p (ar qm ([i6 0,i6 0,i6 0,i6 0,i6 0]) 59 v xs)
def aX{α:Type}(p:α→Bool):List α→Nat
 | []=>0
 | x::xs=>bif p x then 0 else aX p xs+1
def iv{α:Type}(p:α→Bool)(xs:List α):Int:=if aX p xs=xs.length then -1 else(aX p xs:Int)
theorem o7{α:Type}(p:α→Bool): ∀xs:List α,aX p xs≤xs.length
 | []=>Za _
 | x::xs=>by
  unfold aX;cases p x with
  | true=>exact Y8 _
  | false=>exact Zi (o7 p xs)
theorem FC{α:Type}{p:α→Bool}{d:α}: ∀{xs:List α},(∀j,j<xs.length→p (xs.getD j d)=false)→aX p xs=xs.length
 | [],_=>rfl
 | x::xs,h=>by
  unfold aX;rw[show p x=false from h 0 (ZM _),ALcf,FC (d:=d) λj a=>h (j+1) (ZG a)];rfl
theorem FD{α:Type}{p:α→Bool}{d:α}: ∀{xs:List α} {k:Nat},k<xs.length→(∀j,j<k→p (xs.getD j d)=false)→p (xs.getD k d)=true→aX p xs=k
 | [],k,b,_,_=>by cases b
 | x::xs,0,_,_,a=>by
  unfold aX;rw[show p x=true from a];rfl
 | x::xs,k+1,b,h,a=>by
  unfold aX;rw[show p x=false from h 0 (ZM _),ALcf,FD (d:=d) (Nat.lt_of_succ_lt_succ b) (λj c=>h (j+1) (ZG c)) a]
theorem FE{α:Type}{p:α→Bool}{d:α}{xs:List α}(h: ∀j,j<xs.length→p (xs.getD j d)=false):iv p xs= -1:=by unfold iv;rw[ALifp (FC h)]
theorem FF{α:Type}{p:α→Bool}{d:α}{xs:List α}{k:Nat}(a:k<xs.length)(h: ∀j,j<k→p (xs.getD j d)=false)(h1:p (xs.getD k d)=true):iv p xs=(k:Int):=by
 unfold iv;rw[FD a h h1,ALifn Om]
def cO(x:Re):Bool:= !((x.k:Int)==2)
structure Lg where
 l:List Re
 J:Nat
 next:Nat
 lost:Bool
structure fT (g:Lg):Prop where
 l:g.l.length≤g.J
 r1:1≤g.J
 r:g.J≤256
 n:g.next≤1000000000
abbrev aB(g:Nat)(c:Lg)(L:ah):Prop:=∃v:Value,L=[ob g #[v,iN c.J,iN c.next,.bool c.lost] 124,iu v c.l]
def qn(x:Re)(n:Nat):Re:={x with s:=n}
def bY(c:Lg)(x:Re):Lg:=
 if c.l.length=c.J then
  (if cO x=true∨aX cO c.l=c.l.length then{c with next:=c.next+1,lost:=true}
   else{c with l:=c.l.eraseIdx (aX cO c.l)++[qn x c.next],next:=c.next+1,lost:=true})
 else{c with l:=c.l++[qn x c.next],next:=c.next+1}
def FG(c:Lg)(x:Re):Bool:= !(decide (c.l.length=c.J)&&(cO x||decide (aX cO c.l=c.l.length)))
def nm(c:Lg):Lg:={c with l:=[],lost:=false}
def o8(room:Nat):Lg:=⟨[],room,1,false⟩
theorem vR(x:Re):aa YU 19 #[.agg #[iN x.s,iN x.t,iN x.k,iN x.i,iN x.o]] [] [] N0 (λ_=> .bool ((x.k:Int)==2)):=by
 exact fG Tryz.func19 λw cs=>ra (λa=>[(1,pt (B0 a) 0),(2,.bool false)]) (λa=>[ob (B0 a) #[iN x.s,iN x.t,iN x.k,iN x.i,iN x.o] 59]) λa=>r0 [(1,.l 0)] [(2,.bool ((x.k:Int)==2))] [2] (lf ab.zero [] [] [])
theorem RO(x:Re):aa YU 277 #[.agg #[iN x.s,iN x.t,iN x.k,iN x.i,iN x.o]] [] [] N0 (λ_=> .bool (cO x)):=by
 exact fG Tryz.func277 λw cs=>ra (λa=>[(1,pt (B0 a) 0),(2,.bool false)]) (λa=>[ob (B0 a) #[iN x.s,iN x.t,iN x.k,iN x.i,iN x.o] 59]) λa=>r0 [(0,.l 0),(1,.c [] [] (vR x))] [(2,.bool (!((x.k:Int)==2)))] [2] (aq (.bool (!((x.k:Int)==2))) ab.zero ba [] [] [])
theorem RP(v:Value)(xs:List Re)(l:xs.length≤1000000):aa YU 276 #[v,.func (.func 277) #[] #[]] [.p (aP qm v xs)] [] N0 (λ_=>i6 (iv cO xs)):=by
 refine fO Tryz.func276 0 rfl λe a=>fG Tryz.func276 λw cs=>r0 [] [(4,i6 0)] [] (r0 [(1,eD a.1 0)] [(7,iN xs.length),(8,i6 0)] [] ?_);refine lq (λk=>k≤xs.length∧(∀j,j<k→cO (xs.getD j sK)=false)) (λk=>[(8,iN k)]) (λ_ L=>L) (λk=>xs.length-k) 0 ⟨by omega,(λ_ h=>absurd h (ZI _))⟩ Kr Kr (λk ⟨i,d⟩=>?_);refine r0 [] [(9,.bool (decide ((k:Int)<(xs.length:Int))))] [] ?_;refine cc (k:Int) (xs.length:Int) (λf b=>?_) λf b=>?_
 ·refine r0 [] [(5,iN k)] [] (r0 [(3,fh a.1 0 k 5),(4,m7 ir a.1 0 k 0 5),(5,.c [] [] (RO (xs.getD k sK)))] [(16,.bool (cO (xs.getD k sK)))] [] ?_);refine cB (cO (xs.getD k sK)) (λg=>?_) λg=>?_
  ·exact r0 [] [(4,iN k)] [] (aq (iN k) ab.zero (by(rw[FF Om d As];done)) [] [(0,0)] [])
  exact r0 [(0,ad k 1)] [(8,iN (k+1))] [8] (le (k+1) ⟨by omega,zE d As⟩ Om Kr [0] Kr)
 obtain rfl:xs.length=k:=by omega
 exact lx (r0 [] [(4,i6 (-1))] [] (aq (i6 (-1)) ab.zero (by(rw[FE d];done)) [] [(0,0)] []))
theorem FH(g:Nat)(c:Lg):aa YU 20 #[pt g 0] [pk (aB g c)] [0] (λ_=>[pk (aB g c)]) (λ_=>iN c.l.length):=aa.pkZ Tryz.func20 λL a=>by
 obtain⟨v,rfl⟩:=a;refine⟨[1],λ_=>[iu v c.l],?_,rfl,λE=>⟨rfl,rfl,⟨_,rfl⟩⟩⟩;exact fG Tryz.func20 λw cs=>r0 [] [(2,i6 0)] [] (r0 [(3,.l 0),(4,eS ir v c.l 1)] [(2,iN c.l.length)] [2] (lf ab.zero [1] [(0,0)] []))
theorem zS(g:Nat)(v:Value)(l:List Re)(room next:Nat)(lost:Bool)(d:l.length≤1000000):aa YU 258 #[pt g 0] [ob g #[v,iN room,iN next,.bool lost] 124,.p (aP qm v l)] [] N0 (λ_=>i6 (iv cO l)):=by
 exact fO Tryz.func258 1 rfl λa b=>fG Tryz.func258 λw cs=>r0 [] [(2,i6 0)] [] (r0 [(3,.l 0),(4,.c [1] [] (aa.at (rd':=[.c a]) (RP v l Om) (ei b (λ_ h=>h))))] [(2,i6 (iv cO l))] [2] (lf ab.zero [] [(0,0),(1,1)] []))
theorem RQ(g:Nat)(v:Value)(l:List Re)(room next:Nat)(lost:Bool)(b:l.length≤1000000)(h:aX cO l<l.length):aa YU 258 #[pt g 0] [ob g #[v,iN room,iN next,.bool lost] 124,.p (aP qm v l)] [] N0 (λ_=>iN (aX cO l)):=by
 have a:=zS g v l room next lost b
 unfold iv at a;rwa [ALifn Om] at a
theorem RR(g:Nat)(v:Value)(l:List Re)(room next:Nat)(lost:Bool)(b:l.length≤1000000)(h:aX cO l=l.length):aa YU 258 #[pt g 0] [ob g #[v,iN room,iN next,.bool lost] 124,.p (aP qm v l)] [] N0 (λ_=>i6 (-1)):=by
 have a:=zS g v l room next lost b
 unfold iv at a;rwa [ALifp h] at a
theorem RS(room:Nat)(h1:1≤room)(h2:room≤256):aa YU 139 #[iN room] [] [] (λE=>[ob (E.y 0) #[.slice none 0 0,iN room,i6 1,.bool false] 124]) (λE=> .tuple #[pt ((E.y 0)) 0,i6 0]):=by
 refine fG Tryz.func139 λw cs=>r0 [] [(2,.pointer none),(3,i6 0)] [] (r0 [] [(9,.bool ((decide ((room:Int)<1))||(decide (256<(room:Int)))))] [] ?_);have b:((decide ((room:Int)<1))||(decide (256<(room:Int))))=false:=by rw[Zc];exact⟨bj Om,bj Om⟩
 exact cF ((decide ((room:Int)<1))||(decide (256<(room:Int)))) b (rr N0 (λa=>[(2,pt (B2 a) 0),(3,i6 0)]) [2,3] (λa L=>L++[ob (B2 a) #[.slice none 0 0,iN room,i6 1,.bool false] 124]) λa=>lf (.l [(a 2).y 0] [] []) [0] [] [])
theorem zT{α:Type}{en:α→List Value}{z:List Value}{T:TypeId}{S:ah→Prop}{L:ah}{ds:List aA}(b:S (L++[.p (ar en z T (.slice none 0 0) ([]:List α))]))(h:bo L ds): ∃a,bo [pk S] a∧a.flatten=ds.flatten:=
 ⟨[ds.flatten],⟨⟨_,ds++[[]],b,kj h ⟨ar.nil none,trivial⟩,by simp⟩,trivial⟩,by simp⟩
theorem RT(room:Nat)(h1:1≤room)(h2:room≤256):aa YU 139 #[iN room] [] [] (λE=>[pk (aB (E.y 0) (o8 room))]) (λE=> .tuple #[pt (E.y 0) 0,i6 0]):=(RS room h1 h2).outs λE b a=>zT ⟨_,rfl⟩ a
theorem RU(g:Nat)(c:Lg):aa YU 167 #[pt g 0] [pk (aB g c)] [0] (λ_=>[pk (aB g (nm c))]) (λ_=>iN c.l.length):=aa.pkZ Tryz.func167 λL a=>by
 obtain⟨v,rfl⟩:=a;refine⟨[0,1],λ_=>[ob g #[.slice none 0 0,iN c.J,iN c.next,.bool false] 124,iu (.slice none 0 0) ([])],?_,rfl,λE=>⟨rfl,rfl,⟨_,rfl⟩⟩⟩;exact fG Tryz.func167 λw cs=>r0 [] [(2,i6 0)] [] (r0 [(3,.l 0),(4,eS ir v c.l 1)] [(3,iN c.l.length)] [] (rs [(4,.s 0),(7,.s 0)] 0 (ob g #[.slice none 0 0,iN c.J,iN c.next,.bool false] 124) (r0 [] [(2,iN c.l.length)] [2] (cz ir (lf ab.zero [0,2] [] [])))))
section
open Go.Lib
theorem FI{P:Program}{p:Array Oper}{o:Oper}{a:Act}{w:World}{K:Act→World→Prop}{Q:Exit→Act→World→Prop}{E:Prop}
  (B:o.guard=none) (s x:Operand) (t:TypeId) (v:o.op=Op.call {callee:=Callee.builtin Builtin.append,args:=#[s,x],argTypes:=#[t,t]})
  (e:TypeId) (i:TypeInfo) (b:Nat) (h1:P.underlying t=some (.slice e)) (h2:P.info? e=some i) (z:i.size=b)
  (g n f:Nat) (d:Array Value) (r:w.heap[g]? =some (.cells d e (0,0))) (hs:a.eval s= .slice (some ⟨g,0,none⟩) n f)
  (ad:Addr) (m c:Nat) (news:List Value) (F:a.eval x= .slice (some ad) m c) (C:news.length=m*b) (A: ∀j u,news[j]? =some u→w.cell? (ad.add j)=some u) (q: ∀u∈news,u.oneCell'=true)
  (h:n+m≤f) (k:n*b+news.length≤d.size)
  (y:K (a.put o.dst (.slice (some ⟨g,0,none⟩) (n+m) f)) (w.setRow g (d.toList.take (n*b)++news++d.toList.drop (n*b+news.length)).toArray)):
  if Region.wanted o (yielded p a.tmps)=true then Oper.wp P o a w K Q else E:=by
 have D:Region.wanted o (yielded p a.tmps)=true:=by simp [Region.wanted,B]
 rw[ALifp D];subst z;have l:=run_append_room (P:=P) w t o.type e i h1 h2 g n f d r ad m c news C A q h k;unfold Oper.wp;simp [execOp,v,resolve,invoke,builtin,hs,F,l,Result.andThen];rw[Y0] at y;exact y
theorem FJ{P:Program}{T' e y t:TypeId}{z:List Value}{w:World}{g off m c:Nat}{cs:Array Value}(p:dT P T' e z)(q:w.heap[g]? =some (.cells cs t (0,0)))(B:0<m)(A:off+m*z.length≤cs.size)(h1: ∀u∈z,u.oneCell'=true):
  (Builtin.clear_ #[T'] y #[.slice (some ⟨g,off,none⟩) m c]).run P w= .ok (.tuple #[]) (w.setRow g (cs.toList.take off++(YV m z).flatten++cs.toList.drop (off+m*z.length)).toArray):=by
 obtain⟨v,⟨i,n,s,x,C,b,r⟩,o⟩:=p;have j:0<n.cells.size:=by rw[←Array.length_toList,b];exact o
 have h:(zeroValue e).run P w= .ok n w:=by simp [zeroValue,typeInfo,s,x]
 have d:=qX z m;have a:=run_storeCells_at P g off t (YV m z).flatten 0 cs w q (by rw[d];omega) (λu f=>by
  obtain⟨l,d,f⟩:=List.mem_flatten.1 f;rw[List.eq_of_mem_replicate d] at f;exact h1 u f)
 simp only[Nat.add_zero] at a;obtain⟨m,rfl⟩: ∃k,m=k+1:=⟨m-1,by omega⟩;rw[d] at a;simp [Builtin.clear_,run_underlying v,h,xp _ _ j,b,a]
set_option maxRecDepth 1000000 in
set_option maxHeartbeats 1000000 in
theorem RW(g n b i j:Nat)(w:World)(S:i<j)(R:j≤n)(H:n≤b)(a:Array Value)(x:w.heap[g]? =some (.cells a 59 (0,0)))(news:List Value)(d:news.length=(n-(j))*5)(m: ∀u∈news,u.oneCell'=true)(o: ∀t u,news[t]? =some u→w.cell? ⟨g,(j)*5+t,none⟩=some u)(k:i*5+news.length≤a.size)(C:n*5≤a.size):Calls YU 259 #[.slice (some ⟨g,0,none⟩) n b,.int .i64 (i:Int),.int .i64 (j:Int)] w λe w'=>e= .returned (.slice (some ⟨g,0,none⟩) (n-(j-i)) b)∧w'=(w.drew.setRow g (a.toList.take (i*5)++news++a.toList.drop (i*5+news.length)).toArray).setRow g ((a.toList.take (i*5)++news++a.toList.drop (i*5+news.length)).toArray.toList.take ((i+(n-j))*5)++(YV (n-(i+(n-j))) ir.z).flatten++(a.toList.take (i*5)++news++a.toList.drop (i*5+news.length)).toArray.toList.drop ((i+(n-j))*5+(n-(i+(n-j)))*5)).toArray:=by
 have F:Tryz.prog.follows .mixedOrders=true:=by kernel_rfl
 have P:i≤b:=by omega
 have Q:j≤b:=by omega
 obtain⟨V,Z,B,T,D,U,N⟩:=ir.hT.hi;obtain⟨A,hA,s⟩: ∃A:Addr,(if b=j then some (⟨g,0,none⟩:Addr) else some ⟨g,(j)*5,none⟩)=some A∧Hid (∀t u,news[t]? =some u→w.drew.cell? (A.add t)=some u):=by
  by_cases h:b=j
  ·refine⟨⟨g,0,none⟩,by simp [h],λt u v=>?_⟩;have K:news.length=0:=by rw[d];omega
   rw[List.length_eq_zero_iff.1 K] at v;simp at v
  ·exact⟨⟨g,(j)*5,none⟩,by simp [h],λt u v=>by rw[Addr.add_lit];exact o t u v⟩
 have W:Hid (news.length=(n-(j))*5):=d;have X:Hid (∀u∈news,u.oneCell'=true):=m;have Y:Hid (i*5+news.length≤a.size):=k;have I:Hid (w.drew.heap[g]? =some (.cells a 59 (0,0))):=x;obtain⟨p,q⟩: ∃p,p=w.drew.setRow g (a.toList.take (i*5)++news++a.toList.drop (i*5+news.length)).toArray:=⟨_,rfl⟩;have G:Hid (p=w.drew.setRow g (a.toList.take (i*5)++news++a.toList.drop (i*5+news.length)).toArray):=q;obtain⟨c,f⟩: ∃c,c=(a.toList.take (i*5)++news++a.toList.drop (i*5+news.length)).toArray:=⟨_,rfl⟩;have y:c.size=a.size:=by
  rw[f];simp only[Zz,YW,YZ,Y6,Array.length_toList];omega
 have l:p.heap[g]? =some (.cells c 59 (0,0)):=by rw[q,←f];exact setRow_heap _ g a _ _ _ I.out
 obtain⟨z,r⟩: ∃z,z=p.setRow g (c.toList.take ((i+(n-j))*5)++(YV (n-(i+(n-j))) ir.z).flatten++c.toList.drop ((i+(n-j))*5+(n-(i+(n-j)))*5)).toArray:=⟨_,rfl⟩;have O: ∀J,(Builtin.clear_ #[41] J #[.slice (some ⟨g,(i+(n-j))*5,none⟩) (n-(i+(n-j))) (b-(i+(n-j)))]).run YU p= .ok (.tuple #[]) z:=λJ=>by
  rw[r];exact FJ ir.hT l Om (by show _+_*5≤_;rw[y];omega) (λu v=>by
   simp only[ir,Zq,Zb,or_false] at v;rcases v with rfl | rfl | rfl | rfl | rfl<;>rfl)
 have L:Hid (z=p.setRow g (c.toList.take ((i+(n-j))*5)++(YV (n-(i+(n-j))) ir.z).flatten++c.toList.drop ((i+(n-j))*5+(n-(i+(n-j)))*5)).toArray):=r;have M:Hid (c=(a.toList.take (i*5)++news++a.toList.drop (i*5+news.length)).toArray):=f;clear q o d m k x r l y f
 go_enter Tryz.func259,Tryz.ntmps259
 go_wp2_with fail
 go_region_law_o (refine FI rfl (.tmp 22) (.tmp 25) 41 rfl 59 V 5 ir.hT.ht B D g i b a I.out (by simp [Act.eval,Act.put]) A (n-(j)) (b-(j)) news (by simp [Act.eval,Act.put]) W.out s.out X.out Om Y.out ?_;rw[←G.out])
 go_wp2
 go_ret
 refine⟨by rw[show n-(j-i)=i+(n-j) by omega];rfl,?_⟩;rw[L.out,G.out,M.out]
theorem RX(A B C Z a:List Value)(h:B.length=a.length):
  ((A++(B++(C++Z))).take A.length++C++(A++(B++(C++Z))).drop (A.length+C.length)).take (A.length+C.length)++a++((A++(B++(C++Z))).take A.length++C++(A++(B++(C++Z))).drop (A.length+C.length)).drop (A.length+C.length+a.length)=A++C++(a++Z):=by
 have b:(A++(B++(C++Z))).take A.length=A:=List.take_left;have c:(A++(B++(C++Z))).drop (A.length+C.length)=(B++C).drop C.length++Z:=by
  rw[ZB,Zr Om,ZH,Zs,←Y0 B,Zm (by rw[YW];omega)]
 have d:((B++C).drop C.length).length=a.length:=by rw[Y6,YW];omega
 rw[b,c];have e:(A++C++((B++C).drop C.length++Z)).take (A.length+C.length)=A++C:=List.take_left' (by rw[YW]);have f:(A++C++((B++C).drop C.length++Z)).drop (A.length+C.length+a.length)=Z:=by
  rw[←Y0 (A++C)];exact List.drop_left' (by rw[YW,YW,d])
 rw[e,f,Y0 (A++C)]
theorem FK{P:Program}{f:FuncId}{α:Type}(K:Kd P α){v:Value}{xs:List α}{i:Nat}(N:Enters P f)(C:i<xs.length)
  (o: ∀(g k:Nat) (w:World) (a:Array Value) (news:List Value),xs.length≤k→w.heap[g]? =some (.cells a K.T (0,0))→news.length=(xs.length-(i+1))*K.k→(∀u∈news,u.oneCell'=true)→(∀t u,news[t]? =some u→w.cell? ⟨g,(i+1)*K.k+t,none⟩=some u)→i*K.k+news.length≤a.size→xs.length*K.k≤a.size→
   Calls P f #[.slice (some ⟨g,0,none⟩) xs.length k,.int .i64 (i:Int),.int .i64 ((i+1:Nat):Int)] w λe w'=>e= .returned (.slice (some ⟨g,0,none⟩) (xs.length-(i+1-i)) k)∧w'=(w.drew.setRow g (a.toList.take (i*K.k)++news++a.toList.drop (i*K.k+news.length)).toArray).setRow g ((a.toList.take (i*K.k)++news++a.toList.drop (i*K.k+news.length)).toArray.toList.take ((i+(xs.length-(i+1)))*K.k)++(YV (xs.length-(i+(xs.length-(i+1)))) K.z).flatten++(a.toList.take (i*K.k)++news++a.toList.drop (i*K.k+news.length)).toArray.toList.drop ((i+(xs.length-(i+1)))*K.k+(xs.length-(i+(xs.length-(i+1))))*K.k)).toArray):
  aa P f #[v,.int .i64 (i:Int),.int .i64 ((i+1:Nat):Int)] [sl K v xs] [0] (λE=>[sl K (E.val 0) (xs.eraseIdx i)]) (λE=>E.val 0):=by
 refine⟨N,λw cs R Q=>?_⟩;obtain⟨bs,cs,rfl,y,l⟩:=Yp R;have l:=nD l;subst l;obtain⟨g,r,rfl,rfl⟩: ∃g r,v= .slice (some ⟨g,0,none⟩) xs.length (xs.length+r)∧bs=[(g,.cells (bF (ao K.en xs) K.z r) K.T (0,0))]:=by
  rcases y with⟨rfl,_,_⟩ | h
  ·cases C
  ·exact h
 have m:w.heap[g]? =some (.cells (bF (ao K.en xs) K.z r) K.T (0,0)):=Q.obj (g,_) (by simp);have F:=K.hz
 have hA:(ao K.en (xs.take i)).length=i*K.k:=fD K.hk (by rw[YZ];omega);have hC:(ao K.en (xs.drop (i+1))).length=(xs.length-(i+1))*K.k:=fD K.hk (by rw[Y6]);have hB:(K.en xs[i]).length=K.z.length:=(K.hk _).trans F;have j:(bF (ao K.en xs) K.z r).toList=ao K.en (xs.take i)++(K.en xs[i]++(ao K.en (xs.drop (i+1))++(YV r K.z).flatten)):=by
  have e:xs=xs.take i++(xs[i]::xs.drop (i+1)):=by rw[←Zf C,Zt]
  have A:ao K.en xs=ao K.en (xs.take i)++(K.en xs[i]++ao K.en (xs.drop (i+1))):=by
   conv=>lhs;rw[e]
   rw[kk];rfl
  unfold bF;show ao K.en xs++_=_;rw[A,Y0,Y0]
 have G:(xs.length-(i+1))*K.k+i*K.k+K.k=xs.length*K.k:=by
  have:xs.length=(xs.length-(i+1))+i+1:=by omega
  conv=>rhs;rw[this]
  rw[Zd,Zd,Nat.one_mul]
 have s:(bF (ao K.en xs) K.z r).size=xs.length*K.k+r*K.k:=by
  rw[←Array.length_toList];unfold bF;rw[YW,fD K.hk rfl,qX,←F]
 have B:=o g (xs.length+r) w (bF (ao K.en xs) K.z r) (ao K.en (xs.drop (i+1))) Om m hC (BL K.one) (λt u H=>by
  have M:(bF (ao K.en xs) K.z r).toList[(i+1)*K.k+t]? =some u:=by
   rw[j,Ze (by rw[hA,Zd];omega),hA,Ze (by rw[K.hk,Zd];omega),K.hk,show(i+1)*K.k+t-i*K.k-K.k=t by rw[Zd];omega];have D:=(List.getElem?_eq_some_iff.1 H).1;rw[List.getElem?_append_left D];exact H
  rw[cell_of_row w g _ _ _ _ m,←Array.getElem?_toList];exact M) (by rw[hC,s];omega) (by rw[s];omega)
 refine(callsIn_wide (n:=6)).1 ((callsIn_wide.2 B).mono λe w' O=>?_);obtain⟨rfl,rfl⟩:=O;have q:(xs.eraseIdx i).length=xs.length-1:=by rw[Y7,ALifp C]
 have p:(((bF (ao K.en xs) K.z r).toList.take (i*K.k)++ao K.en (xs.drop (i+1))++(bF (ao K.en xs) K.z r).toList.drop (i*K.k+(ao K.en (xs.drop (i+1))).length)).toArray.toList.take ((i+(xs.length-(i+1)))*K.k)++(YV (xs.length-(i+(xs.length-(i+1)))) K.z).flatten++((bF (ao K.en xs) K.z r).toList.take (i*K.k)++ao K.en (xs.drop (i+1))++(bF (ao K.en xs) K.z r).toList.drop (i*K.k+(ao K.en (xs.drop (i+1))).length)).toArray.toList.drop ((i+(xs.length-(i+1)))*K.k+(xs.length-(i+(xs.length-(i+1))))*K.k)).toArray=bF (ao K.en (xs.eraseIdx i)) K.z (r+1):=by
  have J:xs.length-(i+(xs.length-(i+1)))=1:=by omega
  have A:(i+(xs.length-(i+1)))*K.k=(ao K.en (xs.take i)).length+(ao K.en (xs.drop (i+1))).length:=by rw[hA,hC,Zd]
  have L:(YV 1 K.z).flatten=K.z:=by simp
  rw[J,A,←hA,j,Nat.one_mul,L,F,Zk,RX _ _ _ _ _ hB];unfold bF;rw[List.eraseIdx_eq_take_drop_succ,kk,Zv,List.flatten_cons]
 rw[p];refine⟨ab.ov _,[[(g,.cells (bF (ao K.en (xs.eraseIdx i)) K.z (r+1)) K.T (0,0))]],rfl,⟨.inr ⟨g,r+1,?_,rfl⟩,trivial⟩,?_⟩
 ·show Value.slice _ _ _=_;rw[q,show xs.length-(i+1-i)=xs.length-1 by omega,show xs.length-1+(r+1)=xs.length+r by omega]
 ·have c:=a7.setRow (W:=w.drew) ((bF (ao K.en xs) K.z r).toList.take (i*K.k)++ao K.en (xs.drop (i+1))++(bF (ao K.en xs) K.z r).toList.drop (i*K.k+(ao K.en (xs.drop (i+1))).length)).toArray m;have d:=a7.setRow (bF (ao K.en (xs.eraseIdx i)) K.z (r+1)) (c.obj _ (List.mem_singleton.2 rfl));exact⟨d.os.trans c.os,d.tape.trans c.tape,d.output.trans c.output,Y3 c.size d.size,by simpa using d.obj,λx I=>by simp at I;left;simp [I],by simp,λb y z=>by
   have z:b∉[g]:=by simpa using z
   exact(d.far b (Nat.lt_of_lt_of_le y c.size) z).trans (c.far b y z)⟩
theorem RY(v:Value)(xs:List Re)(i:Nat)(k:i<xs.length):aa YU 259 #[v,iN i,iN (i+1)] [iu v xs] [0] (λE=>[iu (E.val 0) (xs.eraseIdx i)]) (λE=>E.val 0):=
 FK ir (enters_of Tryz.func259 Kr rfl) k λg f w h e b j m l d c a=>RW g xs.length f i (i+1) w (Zj i) k b h j e m l d c a
end
theorem RZ(g:Nat)(c:Lg)(x:Re)(d:fT c)(j:c.l.length≠c.J):aa YU 235 #[pt g 0,.agg #[iN x.s,iN x.t,iN x.k,iN x.i,iN x.o]] [pk (aB g c)] [0] (λ_=>[pk (aB g {c with l:=c.l++[qn x c.next],next:=c.next+1})]) (λ_=> .tuple #[.agg #[iN c.next,iN x.t,iN x.k,iN x.i,iN x.o],.bool true]):=aa.pkZ Tryz.func235 λL e=>by
 obtain⟨v,rfl⟩:=e;refine⟨[0,1],λE=>[ob g #[(E.val 0),iN c.J,iN (c.next+1),.bool c.lost] 124,iu (E.val 0) (c.l++([(⟨c.next,x.t,x.k,x.i,x.o⟩:Re)]))],?_,rfl,λE=>⟨rfl,rfl,⟨_,rfl⟩⟩⟩;have f:=d.l;have k:=d.r;have i:=d.n;exact fG Tryz.func235 λw cs=>ra (λa=>[(3,pt (B0 a) 0),(4,pt (B1 a) 0),(5,.bool false)]) (λa=>[ob (B0 a) #[iN x.s,iN x.t,iN x.k,iN x.i,iN x.o] 59,ob (B1 a) #[i6 0,i6 0,i6 0,i6 0,i6 0] 59]) λa=>rs [(3,.l 0),(5,.s 2)] 2 (ob (B0 a) #[iN c.next,iN x.t,iN x.k,iN x.i,iN x.o] 59) (rs [(3,.l 0),(4,ad c.next 1),(7,.s 0)] 0 (ob g #[v,iN c.J,iN (c.next+1),.bool c.lost] 124) (rF [(3,.l 0),(4,eS ir v c.l 1),(8,.l 0),(9,.t (tk (show Value.bool ((c.l.length:Int)==(c.J:Int))= .bool false from ALca Value.bool (by rw[dz];omega))))] 28 (rr (λb=>[(4,.l 0),(5,.l 2),(6,.m (bs 4 1)),(7,e7 ir (v) c.l 1 4 ([(⟨c.next,x.t,x.k,x.i,x.o⟩:Re)])),(10,.m (fv 0 1 (iu ((b 7).val 0) (c.l++([(⟨c.next,x.t,x.k,x.i,x.o⟩:Re)]))) ((b 7).val 0) λbs h=>ar.one ((λ_ h=>h) bs h)))]) N0 [] (λb L=>(L.set 0 (ob g #[(b 7).val 0,iN c.J,iN (c.next+1),.bool c.lost] 124)).set 1 (iu ((b 7).val 0) (c.l++([(⟨c.next,x.t,x.k,x.i,x.o⟩:Re)])))++[ob (B6 b) #[iN c.next,iN x.t,iN x.k,iN x.i,iN x.o] 59]) λb=>rr (λ_=>[(0,.l 2),(1,.s 3)]) (λ_=>[(5,.bool true)]) [5] (λ_ L=>L.set 3 (ob (B1 a) #[iN c.next,iN x.t,iN x.k,iN x.i,iN x.o] 59)) λn=>lf (.l [] [] [(b 7).val 0]) [0,1] [] [3])))
theorem R3(g:Nat)(c:Lg)(x:Re)(b:fT c)(f:c.l.length=c.J)(i:cO x=true):aa YU 235 #[pt g 0,.agg #[iN x.s,iN x.t,iN x.k,iN x.i,iN x.o]] [pk (aB g c)] [0] (λ_=>[pk (aB g {c with next:=c.next+1,lost:=true})]) (λ_=> .tuple #[.agg #[iN c.next,iN x.t,iN x.k,iN x.i,iN x.o],.bool false]):=aa.pkZ Tryz.func235 λL e=>by
 obtain⟨v,rfl⟩:=e;refine⟨[0,1],λ_=>[ob g #[v,iN c.J,iN (c.next+1),.bool true] 124,iu v c.l],?_,rfl,λE=>⟨rfl,rfl,⟨_,rfl⟩⟩⟩;have j:=b.l;have n:=b.r;have m:=b.n;refine fG Tryz.func235 λw cs=>ra (λa=>[(3,pt (B0 a) 0),(4,pt (B1 a) 0),(5,.bool false)]) (λa=>[ob (B0 a) #[iN x.s,iN x.t,iN x.k,iN x.i,iN x.o] 59,ob (B1 a) #[i6 0,i6 0,i6 0,i6 0,i6 0] 59]) λa=>rs [(3,.l 0),(5,.s 2)] 2 (ob (B0 a) #[iN c.next,iN x.t,iN x.k,iN x.i,iN x.o] 59) (rs [(3,.l 0),(4,ad c.next 1),(7,.s 0)] 0 (ob g #[v,iN c.J,iN (c.next+1),.bool c.lost] 124) (rT [(3,.l 0),(4,eS ir v c.l 1),(8,.l 0),(9,.t (tk (show Value.bool ((c.l.length:Int)==(c.J:Int))= .bool true from ALca Value.bool (by rw[f];exact beq_self_eq_true _))))] 28 (rs [(3,.s 0)] 0 (ob g #[v,iN c.J,iN (c.next+1),.bool true] 124) (r0 [(1,.c [0,1] [] (aa.at (rd':=[ob g #[v,iN c.J,iN (c.next+1),.bool true] 124,iu v c.l]) (zS g v c.l c.J (c.next+1) true Om) (atS (bP (λ_ h=>ar.sq h) (λ_ h=>h)))))] [(6,i6 (iv cO c.l))] [] (r0 [(0,.l 2),(1,.c [] [] (vR (⟨c.next,x.t,x.k,x.i,x.o⟩:Re)))] [(40,.bool ((!(((⟨c.next,x.t,x.k,x.i,x.o⟩:Re).k:Int)==2))||(decide ((iv cO c.l)<0))))] [] ?_)))));have d:((!(((⟨c.next,x.t,x.k,x.i,x.o⟩:Re).k:Int)==2))||(decide ((iv cO c.l)<0)))=true:=by rw[show(!((x.k:Int)==2))=true from i];rfl
 exact cT ((!(((⟨c.next,x.t,x.k,x.i,x.o⟩:Re).k:Int)==2))||(decide ((iv cO c.l)<0))) d (rr (λ_=>[(0,.l 2),(1,.s 3)]) (λ_=>[(5,.bool false)]) [5] (λ_ L=>L.set 3 (ob (B1 a) #[iN c.next,iN x.t,iN x.k,iN x.i,iN x.o] 59)) λo=>lf ab.zero [0,1] [] [3])
theorem R4(g:Nat)(c:Lg)(x:Re)(b:fT c)(f:c.l.length=c.J)(o:cO x=false)(i:aX cO c.l=c.l.length):aa YU 235 #[pt g 0,.agg #[iN x.s,iN x.t,iN x.k,iN x.i,iN x.o]] [pk (aB g c)] [0] (λ_=>[pk (aB g {c with next:=c.next+1,lost:=true})]) (λ_=> .tuple #[.agg #[iN c.next,iN x.t,iN x.k,iN x.i,iN x.o],.bool false]):=aa.pkZ Tryz.func235 λL e=>by
 obtain⟨v,rfl⟩:=e;refine⟨[0,1],λ_=>[ob g #[v,iN c.J,iN (c.next+1),.bool true] 124,iu v c.l],?_,rfl,λE=>⟨rfl,rfl,⟨_,rfl⟩⟩⟩;have j:=b.l;have n:=b.r;have m:=b.n;refine fG Tryz.func235 λw cs=>ra (λa=>[(3,pt (B0 a) 0),(4,pt (B1 a) 0),(5,.bool false)]) (λa=>[ob (B0 a) #[iN x.s,iN x.t,iN x.k,iN x.i,iN x.o] 59,ob (B1 a) #[i6 0,i6 0,i6 0,i6 0,i6 0] 59]) λa=>rs [(3,.l 0),(5,.s 2)] 2 (ob (B0 a) #[iN c.next,iN x.t,iN x.k,iN x.i,iN x.o] 59) (rs [(3,.l 0),(4,ad c.next 1),(7,.s 0)] 0 (ob g #[v,iN c.J,iN (c.next+1),.bool c.lost] 124) (rT [(3,.l 0),(4,eS ir v c.l 1),(8,.l 0),(9,.t (tk (show Value.bool ((c.l.length:Int)==(c.J:Int))= .bool true from ALca Value.bool (by rw[f];exact beq_self_eq_true _))))] 28 (rs [(3,.s 0)] 0 (ob g #[v,iN c.J,iN (c.next+1),.bool true] 124) (r0 [(1,.c [0,1] [] (aa.at (rd':=[ob g #[v,iN c.J,iN (c.next+1),.bool true] 124,iu v c.l]) (RR g v c.l c.J (c.next+1) true Om Om) (atS (bP (λ_ h=>ar.sq h) (λ_ h=>h)))))] [(6,i6 (-1))] [] (r0 [(0,.l 2),(1,.c [] [] (vR (⟨c.next,x.t,x.k,x.i,x.o⟩:Re)))] [(40,.bool ((!(((⟨c.next,x.t,x.k,x.i,x.o⟩:Re).k:Int)==2))||true))] [] ?_)))));have d:((!(((⟨c.next,x.t,x.k,x.i,x.o⟩:Re).k:Int)==2))||true)=true:=by rw[Bool.or_true]
 exact cT ((!(((⟨c.next,x.t,x.k,x.i,x.o⟩:Re).k:Int)==2))||true) d (rr (λ_=>[(0,.l 2),(1,.s 3)]) (λ_=>[(5,.bool false)]) [5] (λ_ L=>L.set 3 (ob (B1 a) #[iN c.next,iN x.t,iN x.k,iN x.i,iN x.o] 59)) λp=>lf ab.zero [0,1] [] [3])
theorem R5(g:Nat)(c:Lg)(x:Re)(e:fT c)(o:c.l.length=c.J)(p:cO x=false)(n:aX cO c.l<c.l.length):aa YU 235 #[pt g 0,.agg #[iN x.s,iN x.t,iN x.k,iN x.i,iN x.o]] [pk (aB g c)] [0] (λ_=>[pk (aB g {c with l:=c.l.eraseIdx (aX cO c.l)++[qn x c.next],next:=c.next+1,lost:=true})]) (λ_=> .tuple #[.agg #[iN c.next,iN x.t,iN x.k,iN x.i,iN x.o],.bool true]):=aa.pkZ Tryz.func235 λL i=>by
 obtain⟨v,rfl⟩:=i;refine⟨[0,1],λE=>[ob g #[(E.val 0),iN c.J,iN (c.next+1),.bool true] 124,iu (E.val 0) ((c.l.eraseIdx (aX cO c.l))++([(⟨c.next,x.t,x.k,x.i,x.o⟩:Re)]))],?_,rfl,λE=>⟨rfl,rfl,⟨_,rfl⟩⟩⟩;have r:=e.l;have y:=e.r;have u:=e.n;have j:(c.l.eraseIdx (aX cO c.l)).length=c.l.length-1:=by rw[Y7,ALifp n]
 refine fG Tryz.func235 λw cs=>ra (λb=>[(3,pt (B0 b) 0),(4,pt (B1 b) 0),(5,.bool false)]) (λb=>[ob (B0 b) #[iN x.s,iN x.t,iN x.k,iN x.i,iN x.o] 59,ob (B1 b) #[i6 0,i6 0,i6 0,i6 0,i6 0] 59]) λb=>rs [(3,.l 0),(5,.s 2)] 2 (ob (B0 b) #[iN c.next,iN x.t,iN x.k,iN x.i,iN x.o] 59) (rs [(3,.l 0),(4,ad c.next 1),(7,.s 0)] 0 (ob g #[v,iN c.J,iN (c.next+1),.bool c.lost] 124) (rT [(3,.l 0),(4,eS ir v c.l 1),(8,.l 0),(9,.t (tk (show Value.bool ((c.l.length:Int)==(c.J:Int))= .bool true from ALca Value.bool (by rw[o];exact beq_self_eq_true _))))] 28 (rs [(3,.s 0)] 0 (ob g #[v,iN c.J,iN (c.next+1),.bool true] 124) (r0 [(1,.c [0,1] [] (aa.at (rd':=[ob g #[v,iN c.J,iN (c.next+1),.bool true] 124,iu v c.l]) (RQ g v c.l c.J (c.next+1) true Om Om) (atS (bP (λ_ h=>ar.sq h) (λ_ h=>h)))))] [(6,iN (aX cO c.l))] [] (r0 [(0,.l 2),(1,.c [] [] (vR (⟨c.next,x.t,x.k,x.i,x.o⟩:Re)))] [(40,.bool ((!(((⟨c.next,x.t,x.k,x.i,x.o⟩:Re).k:Int)==2))||(decide (((aX cO c.l:Nat):Int)<0))))] [] ?_)))));have f:((!(((⟨c.next,x.t,x.k,x.i,x.o⟩:Re).k:Int)==2))||(decide (((aX cO c.l:Nat):Int)<0)))=false:=by rw[show(!((x.k:Int)==2))=false from p,Bool.false_or];exact bj Om
 exact cF ((!(((⟨c.next,x.t,x.k,x.i,x.o⟩:Re).k:Int)==2))||(decide (((aX cO c.l:Nat):Int)<0))) f (rr (λd=>[(4,.m (ld 0 (v))),(7,ad (aX cO c.l) 1),(8,.c [1] [1] (RY v c.l (aX cO c.l) Om)),(11,.m (fv 0 1 (iu ((d 8).val 0) (c.l.eraseIdx (aX cO c.l))) ((d 8).val 0) λbs h=>ar.one ((λ_ h=>h) bs h)))]) N0 [] (λd L=>(L.set 0 (ob g #[(d 8).val 0,iN c.J,iN (c.next+1),.bool true] 124)).set 1 (iu ((d 8).val 0) (c.l.eraseIdx (aX cO c.l)))) λd=>rr (λa=>[(4,.l 0),(5,.l 2),(6,.m (bs 4 1)),(7,e7 ir ((d 8).val 0) (c.l.eraseIdx (aX cO c.l)) 1 4 ([(⟨c.next,x.t,x.k,x.i,x.o⟩:Re)])),(10,.m (fv 0 1 (iu ((a 7).val 0) ((c.l.eraseIdx (aX cO c.l))++([(⟨c.next,x.t,x.k,x.i,x.o⟩:Re)]))) ((a 7).val 0) λbs h=>ar.one ((λ_ h=>h) bs h)))]) N0 [] (λa L=>(L.set 0 (ob g #[(a 7).val 0,iN c.J,iN (c.next+1),.bool true] 124)).set 1 (iu ((a 7).val 0) ((c.l.eraseIdx (aX cO c.l))++([(⟨c.next,x.t,x.k,x.i,x.o⟩:Re)])))++[ob (B6 a) #[iN c.next,iN x.t,iN x.k,iN x.i,iN x.o] 59]) λa=>rr (λ_=>[(0,.l 2),(1,.s 3)]) (λ_=>[(5,.bool true)]) [5] (λ_ L=>L.set 3 (ob (B1 b) #[iN c.next,iN x.t,iN x.k,iN x.i,iN x.o] 59)) λq=>lf (.l [] [] [(a 7).val 0]) [0,1] [] [3])
theorem R6(g:Nat)(c:Lg)(x:Re)(d:fT c):aa YU 235 #[pt g 0,.agg #[iN x.s,iN x.t,iN x.k,iN x.i,iN x.o]] [pk (aB g c)] [0] (λ_=>[pk (aB g (bY c x))]) (λ_=> .tuple #[.agg #[iN c.next,iN x.t,iN x.k,iN x.i,iN x.o],.bool (FG c x)]):=by
 unfold bY FG;by_cases a:c.l.length=c.J
 ·rw[ALifp a,c0 a];cases e:cO x with
  | true=>rw[ALifp (.inl rfl)];exact R3 g c x d a e
  | false=>
   by_cases b:aX cO c.l=c.l.length
   ·rw[ALifp (.inr b),c0 b];exact R4 g c x d a e b
   ·rw[ALifn (λh=>h.elim (λh=>by cases h) b),bj b];exact R5 g c x d a e (by have:=o7 cO c.l;omega)
 ·rw[ALifn a,bj a];exact RZ g c x d a
section
section
variable {α:Type} {P:Program} {en:α→List Value} {z:List Value} {e T:TypeId} {v:Value} {xs ys:List α} {bs:aA} {w:World}
theorem R7{i:Nat}(a:i<xs.length):ao en xs=ao en (xs.take i)++(en xs[i]++ao en (xs.drop (i+1))):=by
 have e:xs=xs.take i++(xs[i]::xs.drop (i+1)):=by rw[←Zf a,Zt]
 conv=>lhs;rw[e]
 rw[kk];rfl
theorem R8{i:Nat}{a:α}(b:i<xs.length):ao en (xs.set i a)=ao en (xs.take i)++(en a++ao en (xs.drop (i+1))):=by
 rw[List.set_eq_take_append_cons_drop,ALifp b,kk];rfl
theorem R9(A X C l:List Value)(f:Nat)(c:f+l.length≤X.length):(A++(X++C)).take (A.length+f)++l++(A++(X++C)).drop (A.length+f+l.length)=A++((X.take f++l++X.drop (f+l.length))++C):=by
 have a:(A++(X++C)).take (A.length+f)=A++X.take f:=by
  rw[List.take_append,List.take_of_length_le Om,Zs,List.take_append_of_le_length Om]
 have b:(A++(X++C)).drop (A.length+f+l.length)=X.drop (f+l.length)++C:=by
  rw[ZB,Zr Om,ZH,show A.length+f+l.length-A.length=f+l.length by omega,Zm c]
 rw[a,b];simp only[Y0]
theorem Sa(p i k f:Nat){a d:α}{l:List Value}(u: ∀y,(en y).length=k)(m:i<xs.length)(N:f+l.length≤k)(Q:en a=(en (xs.getD i d)).take f++l++(en (xs.getD i d)).drop (f+l.length)):MD.ok P (λ_=>undef) (pL P p (.p (ar en z T v xs)) (.p (ar en z T v (xs.set i a))) v (i*k+f) l) [p]:=by
 intro o ρ C j w c s;unfold pL at j s⊢
 split at j
 ·rename_i I x y n;simp only[n] at s⊢;simp only[Zq,Zb,or_false,forall_eq_or_imp,forall_eq,sE,sB] at j;obtain⟨F,M,K,L⟩:=j;obtain⟨J,D⟩:=s.ent;obtain⟨g,r,rfl,G⟩:=ar.some (show ar en z T v xs (c p) from J) m;rw[G] at D;have b:=D.one;have t:xs.getD i d=xs[i]:=by rw[YX,YY m];rfl
  have hA:(ao en (xs.take i)).length=i*k:=fD u (by rw[YZ];omega);have O:(bF (ao en xs) z r).toList.take (0+(i*k+f))++l++(bF (ao en xs) z r).toList.drop (0+(i*k+f)+l.length)=(bF (ao en (xs.set i a)) z r).toList:=by
   unfold bF;rw[Zk,Zk,R7 (en:=en) m,R8 m,Q,t,Nat.zero_add,←hA];have:=R9 (ao en (xs.take i)) (en xs[i]) (ao en (xs.drop (i+1))++(YV r z).flatten) l f (by rw[u];exact N);simp only[Y0] at this⊢;exact this
  have A:0+(i*k+f)+l.length≤(bF (ao en xs) z r).size:=by
   rw[tT,fD u rfl];have:=Nat.mul_le_mul_right k (show i+1≤xs.length from m);rw[Zd] at this;omega
  simp only[e6,add_lit] at F;have B:=a7.setRow (bF (ao en (xs.set i a)) z r) b;refine⟨ab.zero,λ_=>[(g,.cells (bF (ao en (xs.set i a)) z r) T (0,0))],w.setRow g (bF (ao en (xs.set i a)) z r),.inr ⟨?_,by simp⟩,λq h=>?_,?_⟩
  ·unfold execOp;have H:=tJ (P:=P) (T:=I) b A (List.all_eq_true.1 K) L;rw[O,Array.toArray_toList] at H;simp only[n,F,tL M,Instr.storeAt,Instr.sureAddr,ZN,ZO,Zw,H]
  ·rw[List.mem_singleton.1 h];exact .inr ⟨g,r,by rw[Y4],rfl⟩
  ·rw[show([p].flatMap λp=>bN (c p))=_ by simp only[List.flatMap_cons,List.flatMap_nil,G,bN];rfl];exact B
 ·exact(bE j).elim
def FL(K:Kd P α)(v:Value)(xs:List α)(p i f:Nat)(a:α)(l:List Value)(g:K.en a=(K.en (xs.getD i K.d)).take f++l++(K.en (xs.getD i K.d)).drop (f+l.length))(b:i<xs.length:=by omega)(c:f+l.length≤K.k:=by exact Nat.le_of_ble_eq_true rfl):cb P:=
 .m ⟨[p],pL P p (.p (ar K.en K.z K.T v xs)) (.p (ar K.en K.z K.T v (xs.set i a))) v (i*K.k+f) l,Sa (d:=K.d) p i K.k f K.hk b c g⟩
end
end
structure Pa where
 k:Nat
 l:Nat
 a:Nat
deriving DecidableEq
def bq:Pa:=⟨0,0,0⟩
def o9(x:Pa):List Value:=[iN x.k,iN x.l,iN x.a]
def eF:Kd YU Pa:=⟨o9,[i6 0,i6 0,i6 0],354,386,bq,3,λ_=>rfl,rfl,λ_=>rfl,dT.mk' Kr Kr rfl⟩
abbrev dZ(v:Value)(xs:List Pa):aC:= .p (ar o9 ([i6 0,i6 0,i6 0]) 386 v xs)
def bM(k:Nat)(x:Pa):Bool:=(x.k:Int)==(k:Int)
structure Tb where
 l:List Pa
 J:Nat
structure iw (ev:Nat) (t:Tb):Prop where
 l:t.l.length≤t.J
 r1:1≤t.J
 r:t.J≤256
 b: ∀i,i<t.l.length→eY ev (t.l.getD i bq).l (t.l.getD i bq).a
abbrev dU(g:Nat)(t:Tb)(L:ah):Prop:=∃v:Value,L=[ob g #[v,iN t.J,.func (.func 178) #[] #[]] 356,dZ v t.l]
def eb(xs:List Pa):Nat→Nat×Nat
 | 0=>(0,0)
 | k+1=>if k=0∨(xs.getD k bq).l<(eb xs k).2 then(k,(xs.getD k bq).l) else eb xs k
theorem zU(xs:List Pa): ∀k,1≤k→(eb xs k).1<k
 | 0,h=>by omega
 | 1,_=>by unfold eb;rw[ALifp (.inl rfl)];exact Nat.zero_lt_one
 | k+2,_=>by
  unfold eb
  split
  ·exact Zj _
  ·exact ZC (zU xs (k+1) Om)
theorem Sb{xs:List Pa}{k:Nat}(h:(((k:Int)==0)||decide ((((xs.getD k bq).l:Nat):Int)<(((eb xs k).2:Nat):Int)))=true):eb xs (k+1)=(k,(xs.getD k bq).l):=by
 rw[eb,ALifp];simp only[Zn,decide_eq_true_eq,beq_iff_eq] at h;omega
theorem Sc{xs:List Pa}{k:Nat}(h:(((k:Int)==0)||decide ((((xs.getD k bq).l:Nat):Int)<(((eb xs k).2:Nat):Int)))=false):eb xs (k+1)=eb xs k:=by
 rw[eb,ALifn];simp only[Zc,decide_eq_false_iff_not,dz] at h;omega
def dg(t:Tb)(k:Nat):Bk:=if aX (bM k) t.l=t.l.length then bh else⟨(t.l.getD (aX (bM k) t.l) bq).l,(t.l.getD (aX (bM k) t.l) bq).a⟩
def vT(t:Tb)(k:Nat):Bool:= !decide (aX (bM k) t.l=t.l.length)
def pa(t:Tb)(k l a:Nat):Tb:=
 if aX (bM k) t.l=t.l.length then
  (if t.l.length=t.J then{t with l:=t.l.eraseIdx (eb t.l t.l.length).1++[⟨k,l,a⟩]} else{t with l:=t.l++[⟨k,l,a⟩]})
 else{t with l:=t.l.set (aX (bM k) t.l) ⟨(t.l.getD (aX (bM k) t.l) bq).k,l,a⟩}
def pb(t:Tb)(k:Nat):Tb:=if aX (bM k) t.l=t.l.length then t else{t with l:=t.l.eraseIdx (aX (bM k) t.l)}
def FM(t:Tb)(k:Nat):Nat:=if aX (bM k) t.l=t.l.length∧t.l.length=t.J then(t.l.getD (eb t.l t.l.length).1 bq).k else 0
def FN(t:Tb)(k:Nat):Bool:=decide (aX (bM k) t.l=t.l.length)&&decide (t.l.length=t.J)
structure Tk where
 lr:Nat
 er:Nat
 lp:Nat
 ep:Nat
 J:Nat
 I:Nat
 F:List Bk
 t:Tb
structure dS (c:Tk):Prop where
 r:iL c.lr c.er
 p:iL c.lp c.ep
 h1:1≤c.I
 h2:c.I≤65536
 n:c.F.length≤8
 b: ∀i,i<c.F.length→eY c.er (c.F.getD i bh).l (c.F.getD i bh).a
 t:iw c.ep c.t
abbrev aF(g a:Nat)(c:Tk)(L:ah):Prop:=∃v:Value,L=[ob g #[iN c.lr,iN c.er,iN c.lp,iN c.ep,iN c.J,iN c.I,v,pt a 0] 294,kD v c.F,pk (dU a c.t)]
def fy(c:Tk)(r p n:Nat):Tk:={c with F:=c.F.set r ⟨b6 (c.F.getD r bh).l n,(c.F.getD r bh).a⟩,t:=pa c.t p (b6 (dg c.t p).l n) (dg c.t p).a}
def pd(c:Tk)(r:Nat):Tk:={c with F:=c.F.set r ⟨0,0⟩}
def qo(c:Tk)(p:Nat):Tk:={c with t:=pb c.t p}
theorem iw.get{ev:Nat}{t:Tb}(h:iw ev t)(b:1≤ev)(k:Nat):eY ev (dg t k).l (dg t k).a:=by
 unfold dg
 split
 ·exact⟨Y8 _,b⟩
 ·have:=o7 (bM k) t.l;exact h.b _ Om
theorem Sd(l a:Nat):aa YU 178 #[.agg #[iN l,iN a]] [] [] N0 (λ_=>iN l):=by
 exact fG Tryz.func178 λw cs=>ra (λb=>[(1,pt (B0 b) 0),(2,i6 0)]) (λb=>[ob (B0 b) #[iN l,iN a] 290]) λb=>r0 [(1,.l 0)] [(2,iN l)] [2] (lf ab.zero [] [] [])
theorem Se(b k:Nat)(x:Pa):aa YU 279 #[.agg #[iN x.k,iN x.l,iN x.a],pt b 0] [ob b #[iN k] 3] [] N0 (λ_=> .bool (bM k x)):=by
 exact fG Tryz.func279 λw cs=>ra (λa=>[(2,pt (B0 a) 0),(3,.bool false)]) (λa=>[ob (B0 a) #[iN x.k,iN x.l,iN x.a] 386]) λa=>r0 [(1,.l 1),(2,.l 0)] [(3,.bool ((x.k:Int)==(k:Int)))] [3] (aq (.bool ((x.k:Int)==(k:Int))) ab.zero ba [] [(0,0)] [])
theorem Sf(v:Value)(b k:Nat)(xs:List Pa)(m:xs.length≤1000000):aa YU 278 #[v,.func (.func 279) #[] #[pt b 0]] [ob b #[iN k] 3,.p (aP o9 v xs)] [] N0 (λ_=>i6 (iv (bM k) xs)):=by
 refine fO Tryz.func278 1 rfl λf a=>fG Tryz.func278 λw cs=>r0 [] [(4,i6 0)] [] (r0 [(1,eD a.1 1)] [(7,iN xs.length),(8,i6 0)] [] ?_);refine lq (λn=>n≤xs.length∧(∀j,j<n→bM k (xs.getD j bq)=false)) (λn=>[(8,iN n)]) (λ_ L=>L) (λn=>xs.length-n) 0 ⟨by omega,(λ_ h=>absurd h (ZI _))⟩ Kr Kr (λn ⟨l,e⟩=>?_);refine r0 [] [(9,.bool (decide ((n:Int)<(xs.length:Int))))] [] ?_;refine cc (n:Int) (xs.length:Int) (λg d=>?_) λg d=>?_
 ·refine r0 [] [(5,iN n)] [] (r0 [(3,fh a.1 1 n 3),(4,m7 eF a.1 1 n 0 3),(5,.c [0] [] (Se b k (xs.getD n bq)))] [(16,.bool (bM k (xs.getD n bq)))] [] ?_);refine cB (bM k (xs.getD n bq)) (λi=>?_) λi=>?_
  ·exact r0 [] [(4,iN n)] [] (aq (iN n) ab.zero (by(rw[FF Om e As];done)) [] [(0,0),(1,1)] [])
  exact r0 [(0,ad n 1)] [(8,iN (n+1))] [8] (le (n+1) ⟨by omega,zE e As⟩ Om Kr [0,1] Kr)
 obtain rfl:xs.length=n:=by omega
 exact lx (r0 [] [(4,i6 (-1))] [] (aq (i6 (-1)) ab.zero (by(rw[FE e];done)) [] [(0,0),(1,1)] []))
theorem FO(g:Nat)(v:Value)(l:List Pa)(room k:Nat)(e:l.length≤1000000):aa YU 261 #[pt g 0,iN k] [ob g #[v,iN room,.func (.func 178) #[] #[]] 356,.p (aP o9 v l)] [] N0 (λ_=>i6 (iv (bM k) l)):=by
 exact fO Tryz.func261 1 rfl λb d=>fG Tryz.func261 λw cs=>ra (λa=>[(3,pt (B0 a) 0),(4,i6 0)]) (λa=>[ob (B0 a) #[iN k] 3]) λa=>r0 [(3,.l 0),(5,.c [2,1] [] (aa.at (rd':=[ob (B0 a) #[iN k] 3,.c b]) (Sf v (B0 a) k l Om) (atS (ei d (λ_ h=>h)))))] [(4,i6 (iv (bM k) l))] [4] (lf ab.zero [] [(0,0),(1,1)] [])
theorem zV(g:Nat)(v:Value)(l:List Pa)(room k:Nat)(b:l.length≤1000000)(h:aX (bM k) l<l.length):aa YU 261 #[pt g 0,iN k] [ob g #[v,iN room,.func (.func 178) #[] #[]] 356,.p (aP o9 v l)] [] N0 (λ_=>iN (aX (bM k) l)):=by
 have a:=FO g v l room k b;unfold iv at a;rwa [ALifn Om] at a
theorem vU(g:Nat)(v:Value)(l:List Pa)(room k:Nat)(b:l.length≤1000000)(h:aX (bM k) l=l.length):aa YU 261 #[pt g 0,iN k] [ob g #[v,iN room,.func (.func 178) #[] #[]] 356,.p (aP o9 v l)] [] N0 (λ_=>i6 (-1)):=by
 have a:=FO g v l room k b;unfold iv at a;rwa [ALifp h] at a
theorem Sg(g:Nat)(v:Value)(l:List Pa)(room:Nat)(m:l.length≤1000000):aa YU 263 #[pt g 0] [ob g #[v,iN room,.func (.func 178) #[] #[]] 356,.p (aP o9 v l)] [] N0 (λ_=>iN ((eb l l.length).1)):=by
 refine fO Tryz.func263 1 rfl λh b=>fG Tryz.func263 λw cs=>r0 [] [(2,i6 0)] [] (r0 [] [(3,i6 0),(4,i6 0)] [] (r0 [(3,.l 0),(4,eD b.1 1)] [(11,v),(12,iN l.length),(13,i6 0)] [] ?_));refine lq (λk=>k≤l.length) (λk=>[(3,iN ((eb l k).1)),(4,iN ((eb l k).2)),(13,iN k)]) (λ_ L=>L) (λk=>l.length-k) 0 Om Kr Kr (λk j=>?_);refine r0 [] [(14,.bool (decide ((k:Int)<(l.length:Int))))] [] ?_;refine cc (k:Int) (l.length:Int) (λi e=>?_) λi e=>?_
 ·refine rr (λ_=>[(1,fh b.1 1 k 3),(2,m7 eF b.1 1 k 0 3),(5,.s 2)]) (λd=>[(6,pt (B3 d) 0),(5,iN k)]) [] (λd L=>L++[ob (B3 d) #[iN ((l.getD k bq).k),iN ((l.getD k bq).l),iN ((l.getD k bq).a)] 386]) λd=>r0 [(3,.l 0),(5,.l 2),(6,.c [] [] (Sd ((l.getD k bq).l) ((l.getD k bq).a)))] [(7,iN ((l.getD k bq).l))] [] (r0 [] [(31,.bool (((k:Int)==0)||(decide ((((l.getD k bq).l:Nat):Int)<(((eb l k).2:Nat):Int)))))] [] ?_);refine cB (((k:Int)==0)||(decide ((((l.getD k bq).l:Nat):Int)<(((eb l k).2:Nat):Int)))) (λf=>?_) λf=>?_
  ·exact r0 [] [(3,iN k),(4,iN ((l.getD k bq).l))] [3,4] (r0 [(0,ad k 1)] [(13,iN (k+1))] [13] (le (k+1) Om Om (by(rw[Sb As]);kernel_rfl) [0,1] Kr))
  exact r0 [(0,ad k 1)] [(13,iN (k+1))] [13] (le (k+1) Om Om (by(rw[Sc As]);kernel_rfl) [0,1] Kr)
 obtain rfl:l.length=k:=by omega
 exact lx (r0 [] [(2,iN ((eb l l.length).1))] [2] (lf ab.zero [] [(0,0),(1,1)] []))
section
open Go.Lib
set_option maxRecDepth 1000000 in
set_option maxHeartbeats 1000000 in
theorem Sh(g n b i j:Nat)(w:World)(S:i<j)(R:j≤n)(H:n≤b)(a:Array Value)(x:w.heap[g]? =some (.cells a 386 (0,0)))(news:List Value)(d:news.length=(n-(j))*3)(m: ∀u∈news,u.oneCell'=true)(o: ∀t u,news[t]? =some u→w.cell? ⟨g,(j)*3+t,none⟩=some u)(k:i*3+news.length≤a.size)(C:n*3≤a.size):Calls YU 280 #[.slice (some ⟨g,0,none⟩) n b,.int .i64 (i:Int),.int .i64 (j:Int)] w λe w'=>e= .returned (.slice (some ⟨g,0,none⟩) (n-(j-i)) b)∧w'=(w.drew.setRow g (a.toList.take (i*3)++news++a.toList.drop (i*3+news.length)).toArray).setRow g ((a.toList.take (i*3)++news++a.toList.drop (i*3+news.length)).toArray.toList.take ((i+(n-j))*3)++(YV (n-(i+(n-j))) eF.z).flatten++(a.toList.take (i*3)++news++a.toList.drop (i*3+news.length)).toArray.toList.drop ((i+(n-j))*3+(n-(i+(n-j)))*3)).toArray:=by
 have F:Tryz.prog.follows .mixedOrders=true:=by kernel_rfl
 have P:i≤b:=by omega
 have Q:j≤b:=by omega
 obtain⟨V,Z,B,T,D,U,N⟩:=eF.hT.hi;obtain⟨A,hA,s⟩: ∃A:Addr,(if b=j then some (⟨g,0,none⟩:Addr) else some ⟨g,(j)*3,none⟩)=some A∧Hid (∀t u,news[t]? =some u→w.drew.cell? (A.add t)=some u):=by
  by_cases h:b=j
  ·refine⟨⟨g,0,none⟩,by simp [h],λt u v=>?_⟩;have K:news.length=0:=by rw[d];omega
   rw[List.length_eq_zero_iff.1 K] at v;simp at v
  ·exact⟨⟨g,(j)*3,none⟩,by simp [h],λt u v=>by rw[Addr.add_lit];exact o t u v⟩
 have W:Hid (news.length=(n-(j))*3):=d;have X:Hid (∀u∈news,u.oneCell'=true):=m;have Y:Hid (i*3+news.length≤a.size):=k;have I:Hid (w.drew.heap[g]? =some (.cells a 386 (0,0))):=x;obtain⟨p,q⟩: ∃p,p=w.drew.setRow g (a.toList.take (i*3)++news++a.toList.drop (i*3+news.length)).toArray:=⟨_,rfl⟩;have G:Hid (p=w.drew.setRow g (a.toList.take (i*3)++news++a.toList.drop (i*3+news.length)).toArray):=q;obtain⟨c,f⟩: ∃c,c=(a.toList.take (i*3)++news++a.toList.drop (i*3+news.length)).toArray:=⟨_,rfl⟩;have y:c.size=a.size:=by
  rw[f];simp only[Zz,YW,YZ,Y6,Array.length_toList];omega
 have l:p.heap[g]? =some (.cells c 386 (0,0)):=by rw[q,←f];exact setRow_heap _ g a _ _ _ I.out
 obtain⟨z,r⟩: ∃z,z=p.setRow g (c.toList.take ((i+(n-j))*3)++(YV (n-(i+(n-j))) eF.z).flatten++c.toList.drop ((i+(n-j))*3+(n-(i+(n-j)))*3)).toArray:=⟨_,rfl⟩;have O: ∀J,(Builtin.clear_ #[354] J #[.slice (some ⟨g,(i+(n-j))*3,none⟩) (n-(i+(n-j))) (b-(i+(n-j)))]).run YU p= .ok (.tuple #[]) z:=λJ=>by
  rw[r];exact FJ eF.hT l Om (by show _+_*3≤_;rw[y];omega) (λu v=>by
   simp only[eF,Zq,Zb,or_false] at v;rcases v with rfl | rfl | rfl<;>rfl)
 have L:Hid (z=p.setRow g (c.toList.take ((i+(n-j))*3)++(YV (n-(i+(n-j))) eF.z).flatten++c.toList.drop ((i+(n-j))*3+(n-(i+(n-j)))*3)).toArray):=r;have M:Hid (c=(a.toList.take (i*3)++news++a.toList.drop (i*3+news.length)).toArray):=f;clear q o d m k x r l y f
 go_enter Tryz.func280,Tryz.ntmps280
 go_wp2_with fail
 go_region_law_o (refine FI rfl (.tmp 22) (.tmp 25) 354 rfl 386 V 3 eF.hT.ht B D g i b a I.out (by simp [Act.eval,Act.put]) A (n-(j)) (b-(j)) news (by simp [Act.eval,Act.put]) W.out s.out X.out Om Y.out ?_;rw[←G.out])
 go_wp2
 go_ret
 refine⟨by rw[show n-(j-i)=i+(n-j) by omega];rfl,?_⟩;rw[L.out,G.out,M.out]
theorem Si(v:Value)(xs:List Pa)(i:Nat)(k:i<xs.length):aa YU 280 #[v,iN i,iN (i+1)] [dZ v xs] [0] (λE=>[dZ (E.val 0) (xs.eraseIdx i)]) (λE=>E.val 0):=
 FK eF (enters_of Tryz.func280 Kr rfl) k λg f w h e b j m l d c a=>Sh g xs.length f i (i+1) w (Zj i) k b h j e m l d c a
end
theorem FP(g:Nat)(v:Value)(l:List Pa)(room i:Nat)(b:i<l.length)(d:l.length≤1000000):aa YU 262 #[pt g 0,iN i] [ob g #[v,iN room,.func (.func 178) #[] #[]] 356,dZ v l] [0,1] (λE=>[ob g #[(E.val 0),iN room,.func (.func 178) #[] #[]] 356,dZ (E.val 0) (l.eraseIdx i)]) (λ_=>iN ((l.getD i bq).k)):=by
 exact fG Tryz.func262 λw cs=>r0 [] [(4,i6 0)] [] (r0 [(3,.l 0),(5,cy eF v l 1 i),(6,uz eF v l 1 (i*3) 0),(7,eL eF v l 1 i 0)] [(5,iN ((l.getD i bq).k))] [] (rr (λa=>[(4,.m (ld 0 (v))),(7,ad i 1),(8,.c [1] [1] (Si v l i Om)),(11,.m (fv 0 1 (dZ ((a 8).val 0) (l.eraseIdx i)) ((a 8).val 0) λbs h=>ar.one ((λ_ h=>h) bs h)))]) N0 [] (λa L=>(L.set 0 (ob g #[(a 8).val 0,iN room,.func (.func 178) #[] #[]] 356)).set 1 (dZ ((a 8).val 0) (l.eraseIdx i))) λa=>r0 [] [(4,iN ((l.getD i bq).k))] [4] (lf (.l [] [] [((a 8).val 0)]) [0,1] [] [])))
theorem Sj(g:Nat)(t:Tb)(k:Nat)(e:t.l.length≤1000000)(h:aX (bM k) t.l<t.l.length):aa YU 238 #[pt g 0,iN k] [pk (dU g t)] [0] (λ_=>[pk (dU g t)]) (λ_=> .tuple #[.agg #[iN ((t.l.getD (aX (bM k) t.l) bq).l),iN ((t.l.getD (aX (bM k) t.l) bq).a)],.bool true]):=aa.pkZ Tryz.func238 λL d=>by
 obtain⟨v,rfl⟩:=d;refine⟨[1],λ_=>[dZ v t.l],?_,rfl,λE=>⟨rfl,rfl,⟨_,rfl⟩⟩⟩;exact fG Tryz.func238 λw cs=>ra (λb=>[(4,pt (B0 b) 0),(5,.bool false)]) (λb=>[ob (B0 b) #[i6 0,i6 0] 290]) λb=>r0 [(2,.c [0,1] [] (aa.at (rd':=[ob g #[v,iN t.J,.func (.func 178) #[] #[]] 356,dZ v t.l]) (zV g v t.l t.J k Om Om) (atS (bP (λ_ h=>ar.sq h) (λ_ h=>h)))))] [(6,iN (aX (bM k) t.l))] [] (rF [(1,.t (tk (show Value.bool (decide (((aX (bM k) t.l:Nat):Int)<0))= .bool false from ALca Value.bool (by exact bj Om))))] 12 (rr (λ_=>[(3,.l 0),(5,cy eF v t.l 1 (aX (bM k) t.l)),(6,uz eF v t.l 1 ((aX (bM k) t.l)*3) 1),(7,pO eF v t.l 1 (aX (bM k) t.l) 1 2),(8,.s 2)]) (λ_=>[(5,.bool true)]) [5] (λ_ L=>L.set 2 (ob (B0 b) #[iN ((t.l.getD (aX (bM k) t.l) bq).l),iN ((t.l.getD (aX (bM k) t.l) bq).a)] 290)) λf=>lf ab.zero [1] [(0,0)] [2]))
theorem Sk(g:Nat)(t:Tb)(k:Nat)(e:t.l.length≤1000000)(h:aX (bM k) t.l=t.l.length):aa YU 238 #[pt g 0,iN k] [pk (dU g t)] [0] (λ_=>[pk (dU g t)]) (λ_=> .tuple #[.agg #[i6 0,i6 0],.bool false]):=aa.pkZ Tryz.func238 λL d=>by
 obtain⟨v,rfl⟩:=d;refine⟨[1],λ_=>[dZ v t.l],?_,rfl,λE=>⟨rfl,rfl,⟨_,rfl⟩⟩⟩;exact fG Tryz.func238 λw cs=>ra (λa=>[(4,pt (B0 a) 0),(5,.bool false)]) (λa=>[ob (B0 a) #[i6 0,i6 0] 290]) λa=>r0 [(2,.c [0,1] [] (aa.at (rd':=[ob g #[v,iN t.J,.func (.func 178) #[] #[]] 356,dZ v t.l]) (vU g v t.l t.J k Om Om) (atS (bP (λ_ h=>ar.sq h) (λ_ h=>h)))))] [(6,i6 (-1))] [] (rT [] 12 (ra (λb=>[(7,pt (B0 b) 0)]) (λb=>[ob (B0 b) #[i6 0,i6 0] 290]) λb=>r0 [(0,.l 3),(1,.s 2)] [(5,.bool false)] [5] (lf ab.zero [1] [(0,0)] [2])))
theorem Sm(g:Nat)(t:Tb)(k l a:Nat)(e:t.l.length≤1000000)(h:aX (bM k) t.l<t.l.length):aa YU 239 #[pt g 0,iN k,.agg #[iN l,iN a]] [pk (dU g t)] [0] (λ_=>[pk (dU g {t with l:=t.l.set (aX (bM k) t.l) ⟨(t.l.getD (aX (bM k) t.l) bq).k,l,a⟩})]) (λ_=> .tuple #[i6 0,.bool false]):=aa.pkZ Tryz.func239 λL d=>by
 obtain⟨v,rfl⟩:=d;refine⟨[1],λ_=>[dZ v (t.l.set (aX (bM k) t.l) (⟨(t.l.getD (aX (bM k) t.l) bq).k,l,a⟩:Pa))],?_,rfl,λE=>⟨rfl,rfl,⟨_,rfl⟩⟩⟩;exact fG Tryz.func239 λw cs=>ra (λb=>[(5,pt (B0 b) 0),(6,i6 0),(7,.bool false)]) (λb=>[ob (B0 b) #[iN l,iN a] 290]) λb=>r0 [(2,.c [0,1] [] (aa.at (rd':=[ob g #[v,iN t.J,.func (.func 178) #[] #[]] 356,dZ v t.l]) (zV g v t.l t.J k Om Om) (atS (bP (λ_ h=>ar.sq h) (λ_ h=>h)))))] [(8,iN (aX (bM k) t.l))] [] (rT [(1,.t (tk (show Value.bool (decide (0≤((aX (bM k) t.l:Nat):Int)))= .bool true from ALca Value.bool (by exact c0 Om))))] 13 (rs [(3,.l 0),(5,.l 2),(6,cy eF v t.l 1 (aX (bM k) t.l)),(7,uz eF v t.l 1 ((aX (bM k) t.l)*3) 1),(8,FL eF v t.l 1 (aX (bM k) t.l) 1 (⟨(t.l.getD (aX (bM k) t.l) bq).k,l,a⟩:Pa) [iN l,iN a] Kr Om)] 1 (dZ v (t.l.set (aX (bM k) t.l) (⟨(t.l.getD (aX (bM k) t.l) bq).k,l,a⟩:Pa))) (r0 [] [(6,i6 0),(7,.bool false)] [6,7] (lf ab.zero [1] [(0,0)] []))))
theorem Sn(g:Nat)(t:Tb)(k l a:Nat)(f:t.l.length≤1000)(h:aX (bM k) t.l=t.l.length)(i:t.l.length≠t.J):aa YU 239 #[pt g 0,iN k,.agg #[iN l,iN a]] [pk (dU g t)] [0] (λ_=>[pk (dU g {t with l:=t.l++[⟨k,l,a⟩]})]) (λ_=> .tuple #[i6 0,.bool false]):=aa.pkZ Tryz.func239 λL e=>by
 obtain⟨v,rfl⟩:=e;refine⟨[0,1],λE=>[ob g #[(E.val 0),iN t.J,.func (.func 178) #[] #[]] 356,dZ (E.val 0) (t.l++([(⟨k,l,a⟩:Pa)]))],?_,rfl,λE=>⟨rfl,rfl,⟨_,rfl⟩⟩⟩;exact fG Tryz.func239 λw cs=>ra (λd=>[(5,pt (B0 d) 0),(6,i6 0),(7,.bool false)]) (λd=>[ob (B0 d) #[iN l,iN a] 290]) λd=>r0 [(2,.c [0,1] [] (aa.at (rd':=[ob g #[v,iN t.J,.func (.func 178) #[] #[]] 356,dZ v t.l]) (vU g v t.l t.J k Om Om) (atS (bP (λ_ h=>ar.sq h) (λ_ h=>h)))))] [(8,i6 (-1))] [] (rF [] 13 (rF [(3,.l 0),(4,eS eF v t.l 1),(8,.l 0),(9,.t (tk (show Value.bool ((t.l.length:Int)==(t.J:Int))= .bool false from ALca Value.bool (by rw[dz];omega))))] 32 (rr (λb=>[(4,.m (ld 0 (v))),(6,.m (ls 2 ([iN l,iN a]))),(8,.m (bs 3 1)),(9,e7 eF (v) t.l 1 3 ([(⟨k,l,a⟩:Pa)])),(12,.m (fv 0 1 (dZ ((b 9).val 0) (t.l++([(⟨k,l,a⟩:Pa)]))) ((b 9).val 0) λbs h=>ar.one ((λ_ h=>h) bs h)))]) N0 [] (λb L=>(L.set 0 (ob g #[(b 9).val 0,iN t.J,.func (.func 178) #[] #[]] 356)).set 1 (dZ ((b 9).val 0) (t.l++([(⟨k,l,a⟩:Pa)])))++[ob ((b 8).y 0) #[iN k,iN l,iN a] 386]) λb=>r0 [] [(6,i6 0),(7,.bool false)] [6,7] (lf (.l [] [] [(b 9).val 0]) [0,1] [] []))))
theorem So(g:Nat)(t:Tb)(k l a:Nat)(o:t.l.length≤1000)(h1:1≤t.l.length)(h:aX (bM k) t.l=t.l.length)(n:t.l.length=t.J):aa YU 239 #[pt g 0,iN k,.agg #[iN l,iN a]] [pk (dU g t)] [0] (λ_=>[pk (dU g {t with l:=t.l.eraseIdx (eb t.l t.l.length).1++[⟨k,l,a⟩]})]) (λ_=> .tuple #[iN ((t.l.getD ((eb t.l t.l.length).1) bq).k),.bool true]):=aa.pkZ Tryz.func239 λL i=>by
 obtain⟨v,rfl⟩:=i;refine⟨[0,1],λE=>[ob g #[(E.val 0),iN t.J,.func (.func 178) #[] #[]] 356,dZ (E.val 0) ((t.l.eraseIdx ((eb t.l t.l.length).1))++([(⟨k,l,a⟩:Pa)]))],?_,rfl,λE=>⟨rfl,rfl,⟨_,rfl⟩⟩⟩;have f:=zU t.l t.l.length h1;have j:(t.l.eraseIdx (eb t.l t.l.length).1).length=t.l.length-1:=by rw[Y7,ALifp f]
 exact fG Tryz.func239 λw cs=>ra (λe=>[(5,pt (B0 e) 0),(6,i6 0),(7,.bool false)]) (λe=>[ob (B0 e) #[iN l,iN a] 290]) λe=>r0 [(2,.c [0,1] [] (aa.at (rd':=[ob g #[v,iN t.J,.func (.func 178) #[] #[]] 356,dZ v t.l]) (vU g v t.l t.J k Om Om) (atS (bP (λ_ h=>ar.sq h) (λ_ h=>h)))))] [(8,i6 (-1))] [] (rF [] 13 (rT [(3,.l 0),(4,eS eF v t.l 1),(8,.l 0),(9,.t (tk (show Value.bool ((t.l.length:Int)==(t.J:Int))= .bool true from ALca Value.bool (by rw[n];exact beq_self_eq_true _))))] 32 (rr (λ_=>[(2,.c [0,1] [] (aa.at (rd':=[ob g #[v,iN t.J,.func (.func 178) #[] #[]] 356,dZ v t.l]) (Sg g v t.l t.J Om) (atS (bP (λ_ h=>ar.sq h) (λ_ h=>h))))),(3,.c [0,1] [0,1] (FP g v t.l t.J ((eb t.l t.l.length).1) Om Om))]) (λ_=>[(6,iN ((t.l.getD ((eb t.l t.l.length).1) bq).k)),(7,.bool true)]) [6,7] (λd L=>(L.set 0 (ob g #[((d 3).val 0),iN t.J,.func (.func 178) #[] #[]] 356)).set 1 (dZ ((d 3).val 0) (t.l.eraseIdx ((eb t.l t.l.length).1)))) λd=>rr (λb=>[(4,.m (ld 0 (((d 3).val 0)))),(6,.m (ls 2 ([iN l,iN a]))),(8,.m (bs 3 1)),(9,e7 eF (((d 3).val 0)) (t.l.eraseIdx ((eb t.l t.l.length).1)) 1 3 ([(⟨k,l,a⟩:Pa)])),(12,.m (fv 0 1 (dZ ((b 9).val 0) ((t.l.eraseIdx ((eb t.l t.l.length).1))++([(⟨k,l,a⟩:Pa)]))) ((b 9).val 0) λbs h=>ar.one ((λ_ h=>h) bs h)))]) N0 [] (λb L=>(L.set 0 (ob g #[(b 9).val 0,iN t.J,.func (.func 178) #[] #[]] 356)).set 1 (dZ ((b 9).val 0) ((t.l.eraseIdx ((eb t.l t.l.length).1))++([(⟨k,l,a⟩:Pa)])))++[ob ((b 8).y 0) #[iN k,iN l,iN a] 386]) λb=>r0 [] [(6,iN ((t.l.getD ((eb t.l t.l.length).1) bq).k)),(7,.bool true)] [6,7] (lf (.l [] [] [(b 9).val 0]) [0,1] [] []))))
theorem Sp(g:Nat)(t:Tb)(k:Nat)(d:t.l.length≤1000000)(h:aX (bM k) t.l<t.l.length):aa YU 270 #[pt g 0,iN k] [pk (dU g t)] [0] (λ_=>[pk (dU g {t with l:=t.l.eraseIdx (aX (bM k) t.l)})]) (λ_=> .bool true):=aa.pkZ Tryz.func270 λL b=>by
 obtain⟨v,rfl⟩:=b;refine⟨[0,1],λE=>[ob g #[(E.val 0),iN t.J,.func (.func 178) #[] #[]] 356,dZ (E.val 0) (t.l.eraseIdx (aX (bM k) t.l))],?_,rfl,λE=>⟨rfl,rfl,⟨_,rfl⟩⟩⟩;exact fG Tryz.func270 λw cs=>r0 [] [(4,.bool false)] [] (r0 [(2,.c [0,1] [] (aa.at (rd':=[ob g #[v,iN t.J,.func (.func 178) #[] #[]] 356,dZ v t.l]) (zV g v t.l t.J k Om Om) (atS (bP (λ_ h=>ar.sq h) (λ_ h=>h)))))] [(5,iN (aX (bM k) t.l))] [] (rF [(1,.t (tk (show Value.bool (decide (((aX (bM k) t.l:Nat):Int)<0))= .bool false from ALca Value.bool (by exact bj Om))))] 10 (rr (λ_=>[(2,.c [0,1] [0,1] (FP g v t.l t.J (aX (bM k) t.l) Om Om))]) N0 [] (λa L=>(L.set 0 (ob g #[((a 2).val 0),iN t.J,.func (.func 178) #[] #[]] 356)).set 1 (dZ ((a 2).val 0) (t.l.eraseIdx (aX (bM k) t.l)))) λa=>r0 [] [(4,.bool true)] [4] (lf (.l [] [] [((a 2).val 0)]) [0,1] [] []))))
theorem Sq(g:Nat)(t:Tb)(k:Nat)(b:t.l.length≤1000000)(h:aX (bM k) t.l=t.l.length):aa YU 270 #[pt g 0,iN k] [pk (dU g t)] [0] (λ_=>[pk (dU g t)]) (λ_=> .bool false):=aa.pkZ Tryz.func270 λL a=>by
 obtain⟨v,rfl⟩:=a;refine⟨[1],λ_=>[dZ v t.l],?_,rfl,λE=>⟨rfl,rfl,⟨_,rfl⟩⟩⟩;exact fG Tryz.func270 λw cs=>r0 [] [(4,.bool false)] [] (r0 [(2,.c [0,1] [] (aa.at (rd':=[ob g #[v,iN t.J,.func (.func 178) #[] #[]] 356,dZ v t.l]) (vU g v t.l t.J k Om Om) (atS (bP (λ_ h=>ar.sq h) (λ_ h=>h)))))] [(5,i6 (-1))] [] (rT [] 10 (r0 [] [(4,.bool false)] [4] (lf ab.zero [1] [(0,0)] []))))
theorem Sr(g:Nat)(t:Tb)(k:Nat)(b:t.l.length≤1000000):aa YU 238 #[pt g 0,iN k] [pk (dU g t)] [0] (λ_=>[pk (dU g t)]) (λ_=> .tuple #[.agg #[iN ((dg t k).l),iN ((dg t k).a)],.bool (vT t k)]):=by
 unfold dg vT;by_cases h:aX (bM k) t.l=t.l.length
 ·rw[ALifp h,c0 h];exact Sk g t k b h
 ·rw[ALifn h,bj h];exact Sj g t k b (by have:=o7 (bM k) t.l;omega)
theorem Ss(g:Nat)(t:Tb)(k l a:Nat)(c:t.l.length≤1000)(h1:1≤t.J):aa YU 239 #[pt g 0,iN k,.agg #[iN l,iN a]] [pk (dU g t)] [0] (λ_=>[pk (dU g (pa t k l a))]) (λ_=> .tuple #[iN (FM t k),.bool (FN t k)]):=by
 unfold pa FM FN;by_cases h:aX (bM k) t.l=t.l.length
 ·by_cases b:t.l.length=t.J
  ·rw[ALifp h,ALifp b,ALifp ⟨h,b⟩,c0 h,c0 b];exact So g t k l a c Om h b
  ·rw[ALifp h,ALifn b,ALifn (λq=>b q.2),c0 h,bj b];exact Sn g t k l a c h b
 ·rw[ALifn h,ALifn (λq=>h q.1),bj h];exact Sm g t k l a Om (by have:=o7 (bM k) t.l;omega)
theorem Su(g:Nat)(t:Tb)(k:Nat)(a:t.l.length≤1000000):aa YU 270 #[pt g 0,iN k] [pk (dU g t)] [0] (λ_=>[pk (dU g (pb t k))]) (λ_=> .bool (vT t k)):=by
 unfold pb vT;by_cases h:aX (bM k) t.l=t.l.length
 ·rw[ALifp h,c0 h];exact Sq g t k a h
 ·rw[ALifn h,bj h];exact Sp g t k a (by have:=o7 (bM k) t.l;omega)
theorem FQ(g:Nat)(v:Value)(rs:List Bk)(j c d e f h i r:Nat)(k:r<rs.length):aa YU 236 #[pt g 0,iN r] [ob g #[iN c,iN d,iN e,iN f,iN h,iN i,v,pt j 0] 294,.p (aP zQ v rs)] [] N0 (λ_=> .bool true):=by
 exact fO Tryz.func236 1 rfl λb a=>fG Tryz.func236 λw cs=>r0 [] [(4,.bool false)] [] (r0 [(7,.m (ld 0 (v))),(8,eD a.1 1),] [(4,.bool ((decide (0≤(r:Int)))&&(decide ((r:Int)<(rs.length:Int)))))] [4] (aq (.bool ((decide (0≤(r:Int)))&&(decide ((r:Int)<(rs.length:Int))))) ab.zero (by exact ALca Value.bool (by simp only[Y2,decide_eq_true_eq];omega)) [] [(0,0),(1,1)] []))
theorem FR(g b:Nat)(c:Tk)(d:dS c)(r p n:Nat)(x:r<c.F.length)(u:n≤65536):aa YU 206 #[pt g 0,iN r,iN p,iN n] [pk (aF g b c)] [0] (λ_=>[pk (aF g b (fy c r p n))]) (λ_=> .tuple #[.agg #[.bool (cY c.lr ((c.F.getD r bh).l) n),.bool (cY c.lp ((dg c.t p).l) n)],i6 0]):=aa.pkZ Tryz.func206 λL t=>by
 obtain⟨v,rfl⟩:=t;refine⟨[1,2],λ_=>[kD v (c.F.set r (⟨b6 ((c.F.getD r bh).l) n,(c.F.getD r bh).a⟩:Bk)),pk (dU b (pa c.t p (b6 ((dg c.t p).l) n) ((dg c.t p).a)))],?_,rfl,λE=>⟨rfl,rfl,⟨_,rfl⟩⟩⟩;have y:=d.t.l;have z:=d.t.r;have o:=d.t.r1;have A:=d.n;have j:=d.b r x;have k:=d.t.get d.p.e1 p;refine fG Tryz.func206 λw cs=>ra (λf=>[(8,pt (B0 f) 0),(9,i6 0)]) (λf=>[ob (B0 f) #[.bool false,.bool false] 339]) λf=>r0 [(2,.c [0,1] [] (aa.at (rd':=[ob g #[iN c.lr,iN c.er,iN c.lp,iN c.ep,iN c.J,iN c.I,v,pt b 0] 294,kD v c.F]) (FQ g v c.F b c.lr c.er c.lp c.ep c.J c.I r Om) (atS (bP (λ_ h=>ar.sq h) (λ_ h=>h)))))] [(20,.bool (decide ((n:Int)<0)))] [] ?_;have q:(decide ((n:Int)<0))=false:=by exact bj Om
 exact cF (decide ((n:Int)<0)) q (ra (λe=>[(10,pt (B0 e) 0)]) (λe=>[ob (B0 e) #[.bool false,.bool false] 339]) λe=>rr (λ_=>[(3,.m (ld 0 (v))),(8,.m (ld 0 (v))),(10,cy k7 v c.F 1 r),(11,pO k7 v c.F 1 r 0 2),(16,.m (ls 0 ([iN c.lr,iN c.er]))),(18,.c [] [] (FA c.lr c.er ((c.F.getD r bh).l) ((c.F.getD r bh).a) n (by exact d.r) (by exact j) Om)),(22,cy k7 v c.F 1 r),(23,rz k7 v c.F 1 r (⟨b6 ((c.F.getD r bh).l) n,(c.F.getD r bh).a⟩:Bk)),(25,.s 4)]) N0 [] (λ_ L=>(L.set 1 (kD v (c.F.set r (⟨b6 ((c.F.getD r bh).l) n,(c.F.getD r bh).a⟩:Bk)))).set 4 (ob (B0 e) #[.bool (cY c.lr ((c.F.getD r bh).l) n),.bool false] 339)) λB=>rr (λ_=>[(3,.m (ld 0 (pt b 0))),(5,.c [2] [2] (Sr b c.t p Om)),(9,.m (al 5)),(10,.s 5)]) (λi=>[(11,pt ((i 9).y 0) 0)]) [] (λi L=>L++[ob ((i 9).y 0) #[iN ((dg c.t p).l),iN ((dg c.t p).a)] 290]) λi=>rr (λ_=>[(0,.m (ls 5 ([iN ((dg c.t p).l),iN ((dg c.t p).a)]))),(5,.m (ls 0 ([iN c.lp,iN c.ep]))),(7,.c [] [] (FA c.lp c.ep ((dg c.t p).l) ((dg c.t p).a) n (by exact d.p) (by exact k) Om)),(11,.s 5),(13,.s 4)]) N0 [] (λ_ L=>(L.set 4 (ob (B0 e) #[.bool (cY c.lr ((c.F.getD r bh).l) n),.bool (cY c.lp ((dg c.t p).l) n)] 339)).set 5 (ob ((i 9).y 0) #[iN (b6 ((dg c.t p).l) n),iN ((dg c.t p).a)] 290)) λC=>rs [(3,.l 0),(5,.l 5),(6,.c [2] [2] (Ss b c.t p (b6 ((dg c.t p).l) n) ((dg c.t p).a) Om Om))] 2 ((pk (dU b (pa c.t p (b6 ((dg c.t p).l) n) ((dg c.t p).a))))) (rr (λ_=>[(0,.l 4),(1,.s 3)]) (λ_=>[(9,i6 0)]) [9] (λ_ L=>L.set 3 (ob (B0 f) #[.bool (cY c.lr ((c.F.getD r bh).l) n),.bool (cY c.lp ((dg c.t p).l) n)] 339)) λD=>lf ab.zero [1,2] [(0,0)] [3]))
theorem Sw(g a:Nat)(c:Tk)(b:dS c)(p:Nat):aa YU 249 #[pt g 0,iN p] [pk (aF g a c)] [0] (λ_=>[pk (aF g a (qo c p))]) (λ_=> .tuple #[]):=aa.pkZ Tryz.func249 λL e=>by
 obtain⟨v,rfl⟩:=e;refine⟨[1,2],λ_=>[kD v c.F,pk (dU a (pb c.t p))],?_,rfl,λE=>⟨rfl,rfl,⟨_,rfl⟩⟩⟩;have f:=b.t.l;have h:=b.t.r;have d:=b.t.r1;have i:=b.n;refine fG Tryz.func249 λw cs=>rs [(3,.l 0),(5,.c [2] [2] (Su a c.t p Om))] 2 ((pk (dU a (pb c.t p)))) ?_;exact eo ab.zero [1,2] [(0,0)] []
theorem Sx(g a:Nat)(c:Tk)(b:dS c)(r:Nat)(k:r<c.F.length):aa YU 250 #[pt g 0,iN r] [pk (aF g a c)] [0] (λ_=>[pk (aF g a (pd c r))]) (λ_=> .tuple #[]):=aa.pkZ Tryz.func250 λL e=>by
 obtain⟨v,rfl⟩:=e;refine⟨[1,2],λ_=>[kD v (c.F.set r (⟨0,0⟩:Bk)),pk (dU a c.t)],?_,rfl,λE=>⟨rfl,rfl,⟨_,rfl⟩⟩⟩;have f:=b.t.l;have i:=b.t.r;have d:=b.t.r1;have j:=b.n;refine fG Tryz.func250 λw cs=>rT [(2,.c [0,1] [] (aa.at (rd':=[ob g #[iN c.lr,iN c.er,iN c.lp,iN c.ep,iN c.J,iN c.I,v,pt a 0] 294,kD v c.F]) (FQ g v c.F a c.lr c.er c.lp c.ep c.J c.I r Om) (atS (bP (λ_ h=>ar.sq h) (λ_ h=>h)))))] 6 (rs [(3,.l 0),(6,cy k7 v c.F 1 r),(7,rz k7 v c.F 1 r (⟨0,0⟩:Bk))] 1 (kD v (c.F.set r (⟨0,0⟩:Bk))) ?_);exact eo ab.zero [1,2] [(0,0)] []
section
def aY{α:Type}(f:α→α)(l:List α)(k:Nat):List α:=(l.take k).map f++l.drop k
section
variable {α:Type} {f:α→α} {l:List α} {k:Nat} {d:α}
theorem sM(f:α→α)(l:List α)(k:Nat):(aY f l k).length=l.length:=by unfold aY;rw[YW,Y5,YZ,Y6];omega
theorem vV(a:k<l.length):(aY f l k).getD k d=l.getD k d:=by
 unfold aY;rw[YX,Ze (by rw[Y5,YZ];omega),Y5,YZ,Zx,YX]
 congr 2;omega
theorem FT(f:α→α)(l:List α):aY f l 0=l:=by unfold aY;simp
theorem FU(f:α→α)(l:List α):aY f l l.length=l.map f:=by unfold aY;simp
theorem FV(a:k<l.length):(aY f l k).set k (f (l.getD k d))=aY f l (k+1):=by
 unfold aY;rw[Zu _ _ (by rw[Y5,YZ];omega),Y5,YZ,show k-min k l.length=0 by omega,Zf a,Zl,YY a,List.map_append,Y0,YX,YY a];rfl
end
def dV(ev:Nat)(b:Bk):Bk:=⟨im ev b.l b.a,iq ev b.l b.a⟩
def cQ(ev:Nat)(p:Pa):Pa:=⟨p.k,im ev p.l p.a,iq ev p.l p.a⟩
theorem Sz{ev:Nat}{l:List Bk}{k:Nat}(b:k<l.length):(aY (dV ev) l k).set k ⟨im ev ((aY (dV ev) l k).getD k bh).l ((aY (dV ev) l k).getD k bh).a,iq ev ((aY (dV ev) l k).getD k bh).l ((aY (dV ev) l k).getD k bh).a⟩=aY (dV ev) l (k+1):=by
 rw[←FV (d:=bh) b,vV b];rfl
theorem SA{ev:Nat}{l:List Pa}{k:Nat}(b:k<l.length):(aY (cQ ev) l k).set k ⟨((aY (cQ ev) l k).getD k bq).k,im ev ((aY (cQ ev) l k).getD k bq).l ((aY (cQ ev) l k).getD k bq).a,iq ev ((aY (cQ ev) l k).getD k bq).l ((aY (cQ ev) l k).getD k bq).a⟩=aY (cQ ev) l (k+1):=by
 rw[←FV (d:=bq) b,vV b];rfl
def sN(t:Tb)(ev:Nat):Tb:={t with l:=aY (cQ ev) t.l t.l.length}
def mJ(c:Tk):Tk:={c with F:=aY (dV c.er) c.F c.F.length,t:=sN c.t c.ep}
end
theorem SB(b g e:Nat)(c:Tk)(hp:iL c.lp c.ep)(v:Value)(k l a:Nat)(f:eY c.ep l a):aa YU 210 #[iN k,.agg #[iN l,iN a],pt b 0] [ob b #[pt g 0] 120,ob g #[iN c.lr,iN c.er,iN c.lp,iN c.ep,iN c.J,iN c.I,v,pt e 0] 294] [] N0 (λ_=> .agg #[iN (im c.ep l a),iN (iq c.ep l a)]):=by
 exact fG Tryz.func210 λw cs=>ra (λd=>[(4,pt (B0 d) 0),(5,pt (B1 d) 0)]) (λd=>[ob (B0 d) #[iN l,iN a] 290,ob (B1 d) #[i6 0,i6 0] 290]) λd=>rs [(0,.l 2),(1,.l 0),(5,.l 1),(6,.c [] [] (FB c.lp c.ep l a hp f)),(7,.s 3)] 3 (ob (B1 d) #[iN (im c.ep l a),iN (iq c.ep l a)] 290) (lf ab.zero [] [(0,0),(1,1)] [3])
theorem SC(e:Nat)(t:Tb)(b g:Nat)(c:Tk)(o:dS c)(ht:iw c.ep t)(v:Value):aa YU 209 #[pt e 0,.func (.func 210) #[] #[pt b 0]] [pk (dU e t),ob b #[pt g 0] 120,ob g #[iN c.lr,iN c.er,iN c.lp,iN c.ep,iN c.J,iN c.I,v,pt e 0] 294] [0] (λ_=>[pk (dU e (sN t c.ep))]) (λ_=> .tuple #[]):=aa.pkZ Tryz.func209 λL n=>by
 obtain⟨d,rfl⟩:=n;refine⟨[1],λ_=>[dZ d (aY (cQ c.ep) t.l t.l.length)],?_,rfl,λE=>⟨rfl,rfl,⟨_,rfl⟩⟩⟩;have r:=ht.l;have u:=ht.r;refine fG Tryz.func209 λw cs=>r0 [(3,.l 0),(4,eS eF d t.l 1)] [(9,d),(10,iN t.l.length),(11,i6 0)] [] ?_;refine lq (λk=>k≤t.l.length) (λk=>[(11,iN k)]) (λk L=>L.set 1 (dZ d (aY (cQ c.ep) t.l k))) (λk=>t.l.length-k) 0 Om Kr (by rw[FT];kernel_rfl) (λk p=>?_);have q:=sM (cQ c.ep) t.l k;refine r0 [] [(12,.bool (decide ((k:Int)<(t.l.length:Int))))] [] ?_;refine cc (k:Int) (t.l.length:Int) (λj h=>?_) λj h=>?_
 ·refine rr (λ_=>[(1,cy eF d (aY (cQ c.ep) t.l k) 1 k),(2,pO eF d (aY (cQ c.ep) t.l k) 1 k 0 3),(5,.s 4)]) (λf=>[(5,pt (B3 f) 0),(4,iN k)]) [] (λf L=>L++[ob (B3 f) #[iN (((aY (cQ c.ep) t.l k).getD k bq).k),iN (((aY (cQ c.ep) t.l k).getD k bq).l),iN (((aY (cQ c.ep) t.l k).getD k bq).a)] 386]) λf=>?_;have i:eY c.ep ((aY (cQ c.ep) t.l k).getD k bq).l ((aY (cQ c.ep) t.l k).getD k bq).a:=by rw[vV Om];exact ht.b k Om
  exact rs [(3,.m (ld 0 (d))),(7,.m (ld 4 (iN (((aY (cQ c.ep) t.l k).getD k bq).k)))),(9,.m (ls 4 ([iN (((aY (cQ c.ep) t.l k).getD k bq).l),iN (((aY (cQ c.ep) t.l k).getD k bq).a)]))),(10,.c [2,3] [] (SB b g e c o.p v (((aY (cQ c.ep) t.l k).getD k bq).k) (((aY (cQ c.ep) t.l k).getD k bq).l) (((aY (cQ c.ep) t.l k).getD k bq).a) i)),(11,cy eF d (aY (cQ c.ep) t.l k) 1 k),(12,uz eF d (aY (cQ c.ep) t.l k) 1 (k*3) 1),(13,FL eF d (aY (cQ c.ep) t.l k) 1 k 1 (⟨((aY (cQ c.ep) t.l k).getD k bq).k,im c.ep (((aY (cQ c.ep) t.l k).getD k bq).l) (((aY (cQ c.ep) t.l k).getD k bq).a),iq c.ep (((aY (cQ c.ep) t.l k).getD k bq).l) (((aY (cQ c.ep) t.l k).getD k bq).a)⟩:Pa) [iN (im c.ep (((aY (cQ c.ep) t.l k).getD k bq).l) (((aY (cQ c.ep) t.l k).getD k bq).a)),iN (iq c.ep (((aY (cQ c.ep) t.l k).getD k bq).l) (((aY (cQ c.ep) t.l k).getD k bq).a))] Kr Om)] 1 (dZ d ((aY (cQ c.ep) t.l k).set k (⟨((aY (cQ c.ep) t.l k).getD k bq).k,im c.ep (((aY (cQ c.ep) t.l k).getD k bq).l) (((aY (cQ c.ep) t.l k).getD k bq).a),iq c.ep (((aY (cQ c.ep) t.l k).getD k bq).l) (((aY (cQ c.ep) t.l k).getD k bq).a)⟩:Pa))) (r0 [(0,ad k 1)] [(11,iN (k+1))] [11] (le (k+1) Om Om Kr [0,1,2,3] (by rw[←SA Om];kernel_rfl)))
 obtain rfl:t.l.length=k:=by omega
 refine lx ?_;exact eo ab.zero [1] [(0,0),(2,2),(3,3)] []
theorem SD(g d:Nat)(c:Tk)(b:dS c):aa YU 164 #[pt g 0] [pk (aF g d c)] [0] (λ_=>[pk (aF g d (mJ c))]) (λ_=> .tuple #[]):=aa.pkZ Tryz.func164 λL o=>by
 obtain⟨v,rfl⟩:=o;refine⟨[1,2],λ_=>[kD v (aY (dV c.er) c.F c.F.length),pk (dU d (sN c.t c.ep))],?_,rfl,λE=>⟨rfl,rfl,⟨_,rfl⟩⟩⟩;have r:=b.t.l;have t:=b.t.r;have j:=b.t.r1;have u:=b.n;refine fG Tryz.func164 λw cs=>ra (λe=>[(1,pt (B0 e) 0)]) (λe=>[ob (B0 e) #[pt g 0] 120]) λe=>r0 [(0,.l 3),(3,.l 0),(4,eS k7 v c.F 1)] [(7,v),(8,iN c.F.length),(9,i6 0)] [] ?_;refine lq (λk=>k≤c.F.length) (λk=>[(9,iN k)]) (λk L=>L.set 1 (kD v (aY (dV c.er) c.F k))) (λk=>c.F.length-k) 0 Om Kr (by rw[FT];kernel_rfl) (λk p=>?_);have q:=sM (dV c.er) c.F k;refine r0 [] [(10,.bool (decide ((k:Int)<(c.F.length:Int))))] [] ?_;refine cc (k:Int) (c.F.length:Int) (λn h=>?_) λn h=>?_
 ·refine rr (λ_=>[(1,cy k7 v (aY (dV c.er) c.F k) 1 k),(2,pO k7 v (aY (dV c.er) c.F k) 1 k 0 2),(5,.s 4)]) (λf=>[(3,pt (B3 f) 0),(2,iN k)]) [] (λf L=>L++[ob (B3 f) #[iN (((aY (dV c.er) c.F k).getD k bh).l),iN (((aY (dV c.er) c.F k).getD k bh).a)] 290]) λf=>?_;have i:eY c.er ((aY (dV c.er) c.F k).getD k bh).l ((aY (dV c.er) c.F k).getD k bh).a:=by rw[vV Om];exact b.b k Om
  exact rs [(0,.m (ld 3 (pt g 0))),(3,.m (ld 0 (v))),(5,.m (ls 4 ([iN (((aY (dV c.er) c.F k).getD k bh).l),iN (((aY (dV c.er) c.F k).getD k bh).a)]))),(6,.m (ld 3 (pt g 0))),(10,.m (ls 0 ([iN c.lr,iN c.er]))),(11,.c [] [] (FB c.lr c.er (((aY (dV c.er) c.F k).getD k bh).l) (((aY (dV c.er) c.F k).getD k bh).a) b.r i)),(12,cy k7 v (aY (dV c.er) c.F k) 1 k),(13,rz k7 v (aY (dV c.er) c.F k) 1 k (⟨im c.er (((aY (dV c.er) c.F k).getD k bh).l) (((aY (dV c.er) c.F k).getD k bh).a),iq c.er (((aY (dV c.er) c.F k).getD k bh).l) (((aY (dV c.er) c.F k).getD k bh).a)⟩:Bk))] 1 (kD v ((aY (dV c.er) c.F k).set k (⟨im c.er (((aY (dV c.er) c.F k).getD k bh).l) (((aY (dV c.er) c.F k).getD k bh).a),iq c.er (((aY (dV c.er) c.F k).getD k bh).l) (((aY (dV c.er) c.F k).getD k bh).a)⟩:Bk))) (r0 [(0,ad k 1)] [(9,iN (k+1))] [9] (le (k+1) Om Om Kr [0,1,2,3] (by rw[←Sz Om];kernel_rfl)))
 obtain rfl:c.F.length=k:=by omega
 refine lx (rs [(0,.l 3),(3,.l 0),(5,.c [2,3,0] [2] (SC d c.t (B0 e) g c b b.t v))] 2 ((pk (dU d (sN c.t c.ep)))) ?_);exact eo ab.zero [1,2] [(0,0)] []
theorem SE(room:Nat)(h1:1≤room)(h2:room≤256):aa YU 177 #[iN room,.func (.func 178) #[] #[]] [] [] (λE=>[ob (E.y 0) #[.slice none 0 0,iN room,.func (.func 178) #[] #[]] 356]) (λE=> .tuple #[pt ((E.y 0)) 0,i6 0]):=by
 refine fG Tryz.func177 λw cs=>r0 [] [(4,.pointer none),(5,i6 0)] [] (r0 [] [(11,.bool ((decide ((room:Int)<1))||(decide (256<(room:Int)))))] [] ?_);have b:((decide ((room:Int)<1))||(decide (256<(room:Int))))=false:=by rw[Zc];exact⟨bj Om,bj Om⟩
 exact cF ((decide ((room:Int)<1))||(decide (256<(room:Int)))) b (rr N0 (λa=>[(4,pt (B3 a) 0),(5,i6 0)]) [4,5] (λa L=>L++[ob (B3 a) #[.slice none 0 0,iN room,.func (.func 178) #[] #[]] 356]) λa=>lf (.l [(a 3).y 0] [] []) [0] [] [])
theorem SF(room:Nat)(h1:1≤room)(h2:room≤256):aa YU 177 #[iN room,.func (.func 178) #[] #[]] [] [] (λE=>[pk (dU (E.y 0) ⟨[],room⟩)]) (λE=> .tuple #[pt (E.y 0) 0,i6 0]):=(SE room h1 h2).outs λE b a=>zT ⟨_,rfl⟩ a
theorem FW(f d e b a heavy:Int):aa YU 110 #[.agg #[i6 f,i6 d,i6 e,i6 b,i6 a,i6 heavy]] [] [] N0 (λ_=> .bool (((((gU f d&&gU e b)&&decide (1≤a))&&decide (a≤256))&&decide (1≤heavy))&&decide (heavy≤65536))):=by
 exact fG Tryz.func110 λw cs=>ra (λg=>[(1,pt (B0 g) 0),(2,.bool false)]) (λg=>[ob (B0 g) #[i6 f,i6 d,i6 e,i6 b,i6 a,i6 heavy] 29]) λg=>r0 [(1,.m (ls 0 ([i6 f,i6 d]))),(2,.c [] [] (zR f d)),(5,.m (ls 0 ([i6 e,i6 b]))),(6,.c [] [] (zR e b)),(10,.m (ld 0 (i6 a))),(15,.m (ld 0 (i6 a))),(20,.m (ld 0 (i6 heavy))),(25,.m (ld 0 (i6 heavy))),] [(2,.bool ((((((gU f d)&&(gU e b))&&(decide (1≤a)))&&(decide (a≤256)))&&(decide (1≤heavy)))&&(decide (heavy≤65536))))] [2] (aq (.bool ((((((gU f d)&&(gU e b))&&(decide (1≤a)))&&(decide (a≤256)))&&(decide (1≤heavy)))&&(decide (heavy≤65536)))) ab.zero ba [] [] [])
def pf(e c d b a heavy f:Nat):Tk:=⟨e,c,d,b,a,heavy,YV f bh,⟨[],a⟩⟩
theorem SG(h f g e a heavy b:Nat)(m:iL h f)(k:iL g e)(h1:1≤a)(h2:a≤256)(o:1≤heavy)(n:heavy≤65536)(p:1≤b)(q:b≤8):aa YU 138 #[.agg #[iN h,iN f,iN g,iN e,iN a,iN heavy],iN b] [] [] (λE=>[ob (E.y 0) #[iN h,iN f,iN g,iN e,iN a,iN heavy,(E.val 0),pt ((E.y 1)) 0] 294,kD (E.val 0) (YV b bh),pk (dU (E.y 1) ⟨[],a⟩)]) (λE=> .tuple #[pt ((E.y 0)) 0,i6 0]):=by
 refine fG Tryz.func138 λw cs=>ra (λj=>[(2,pt (B0 j) 0),(4,.pointer none),(5,i6 0)]) (λj=>[ob (B0 j) #[iN h,iN f,iN g,iN e,iN a,iN heavy] 29]) λj=>rF [(0,.l 0),(1,.c [] [] (aa.v ((FW (h:Int) (f:Int) (g:Int) (e:Int) (a:Int) (heavy:Int))) λ_=>ALca Value.bool (show(((((gU (h:Int) (f:Int)&&gU (g:Int) (e:Int))&&decide (1≤(a:Int)))&&decide ((a:Int)≤256))&&decide (1≤(heavy:Int)))&&decide ((heavy:Int)≤65536))=true from(by rw[m.r,k.r];simp only[Y2,decide_eq_true_eq,true_and];omega))))] 8 (r0 [] [(12,.bool ((decide ((b:Int)<1))||(decide (8<(b:Int)))))] [] ?_);have n:((decide ((b:Int)<1))||(decide (8<(b:Int))))=false:=by rw[Zc];exact⟨bj Om,bj Om⟩
 exact cF ((decide ((b:Int)<1))||(decide (8<(b:Int)))) n (rr (λ_=>[(1,.l 0),(2,.c [] [1] (SF a Om Om))]) (λi=>[(6,pt ((B2 i)) 0),(7,i6 0)]) [] (λi L=>L++[pk (dU (B2 i) ⟨[],a⟩)]) λi=>rF [] 26 (rr (λ_=>[(0,.l 0),(2,rK k7 2 b)]) (λd=>[(4,pt (B5 d) 0),(5,i6 0)]) [4,5] (λd L=>L++[kD (.slice (some ⟨(d 2).y 0,0,none⟩) b b) (YV b bh),ob (B5 d) #[iN h,iN f,iN g,iN e,iN a,iN heavy,.slice (some ⟨(d 2).y 0,0,none⟩) b b,pt ((B2 i)) 0] 294]) λd=>lf (.l [(d 5).y 0,(B2 i)] [] [.slice (some ⟨(d 2).y 0,0,none⟩) b b]) [3,2,1] [] []))
theorem SH(f d e c a heavy b:Nat)(h:iL f d)(g:iL e c)(h1:1≤a)(h2:a≤256)(i:1≤heavy)(j:heavy≤65536)(k:1≤b)(l:b≤8):aa YU 138 #[.agg #[iN f,iN d,iN e,iN c,iN a,iN heavy],iN b] [] [] (λE=>[pk (aF (E.y 0) (E.y 1) (pf f d e c a heavy b))]) (λE=> .tuple #[pt ((E.y 0)) 0,i6 0]):=(SG f d e c a heavy b h g h1 h2 i j k l).outs λE n m=>sr ⟨_,rfl⟩ m
def k8(r s b m c way a:Int):Bool:=(((((ja r s b m c&&decide (0≤way))&&decide (way<4))&&decide (0≤a))&&decide (a≤64))&&decide (a<r*b*m))
theorem SI(R S B M C:Nat)(d:cC R S B M C)(way a:Int):aa YU 106 #[.agg #[iN R,iN S,iN B,iN M,iN C,i6 way,i6 a]] [] [] N0 (λ_=> .bool (k8 R S B M C way a)):=by
 exact fG Tryz.func106 λw cs=>ra (λb=>[(1,pt (B0 b) 0),(2,.bool false)]) (λb=>[ob (B0 b) #[iN R,iN S,iN B,iN M,iN C,i6 way,i6 a] 25]) λb=>r0 [(1,.m (ls 0 ([iN R,iN S,iN B,iN M,iN C]))),(3,.m (ld 0 (i6 way))),(4,.c [] [] (zt (R:Int) (S:Int) (B:Int) (M:Int) (C:Int) way)),(7,.m (ld 0 (i6 a))),(12,.m (ld 0 (i6 a))),(17,.m (ld 0 (i6 a))),(19,.m (ls 0 ([iN R,iN S,iN B,iN M,iN C]))),(20,.c [] [] (mD R S B M C d)),] [(2,.bool ((((((ja (R:Int) (S:Int) (B:Int) (M:Int) (C:Int))&&(decide (0≤way)))&&(decide (way<4)))&&(decide (0≤a)))&&(decide (a≤64)))&&(decide (a<(((R*B)*M:Nat):Int)))))] [2] (aq (.bool ((((((ja (R:Int) (S:Int) (B:Int) (M:Int) (C:Int))&&(decide (0≤way)))&&(decide (way<4)))&&(decide (0≤a)))&&(decide (a≤64)))&&(decide (a<(((R*B)*M:Nat):Int))))) ab.zero (by unfold k8;rw[Y9,Y9]) [] [] [])
theorem SJ(r s b m c way a:Int)(f:ja r s b m c=false):aa YU 106 #[.agg #[i6 r,i6 s,i6 b,i6 m,i6 c,i6 way,i6 a]] [] [] N0 (λ_=> .bool (k8 r s b m c way a)):=by
 exact fG Tryz.func106 λw cs=>ra (λe=>[(1,pt (B0 e) 0),(2,.bool false)]) (λe=>[ob (B0 e) #[i6 r,i6 s,i6 b,i6 m,i6 c,i6 way,i6 a] 25]) λe=>r0 [(1,.m (ls 0 ([i6 r,i6 s,i6 b,i6 m,i6 c]))),(3,.m (ld 0 (i6 way))),(4,.c [] [] (aa.v ((zt r s b m c way)) λ_=>ALca Value.bool (show(((ja r s b m c)&&(decide (0≤way)))&&(decide (way<4)))=false from(by rw[f];rfl)))),(6,.d),(7,.d),(8,.d),(11,.d),(12,.d),(13,.d),(16,.d),(17,.d),(18,.d),(19,.d),(20,.d),(21,.d)] [(2,.bool false)] [2] (aq (.bool false) ab.zero (by unfold k8;rw[f];rfl) [] [] [])
theorem SK(r s b m c way a:Int):aa YU 106 #[.agg #[i6 r,i6 s,i6 b,i6 m,i6 c,i6 way,i6 a]] [] [] N0 (λ_=> .bool (k8 r s b m c way a)):=by
 cases d:ja r s b m c with
 | false=>exact SJ r s b m c way a d
 | true=>
  obtain⟨R,S,B,M,C,rfl,rfl,rfl,rfl,rfl,e⟩:=EJ d;exact SI R S B M C e way a
def mK(r s b m c way e mode i g h f a heavy d:Int):Bool:=((((k8 r s b m c way e&&((mode==1)||(mode==2)))&&(((((gU i g&&gU h f)&&decide (1≤a))&&decide (a≤256))&&decide (1≤heavy))&&decide (heavy≤65536)))&&decide (1≤d))&&decide (d≤256))
theorem FX(r s b m c way e mode j h i g a heavy d:Int)(f:Bool):aa YU 79 #[.agg #[i6 r,i6 s,i6 b,i6 m,i6 c,i6 way,i6 e,i6 mode,i6 j,i6 h,i6 i,i6 g,i6 a,i6 heavy,i6 d,.bool f]] [] [] N0 (λ_=> .bool (mK r s b m c way e mode j h i g a heavy d)):=by
 exact fG Tryz.func79 λw cs=>ra (λk=>[(1,pt (B0 k) 0),(2,.bool false)]) (λk=>[ob (B0 k) #[i6 r,i6 s,i6 b,i6 m,i6 c,i6 way,i6 e,i6 mode,i6 j,i6 h,i6 i,i6 g,i6 a,i6 heavy,i6 d,.bool f] 31]) λk=>r0 [(1,.m (ls 0 ([i6 r,i6 s,i6 b,i6 m,i6 c,i6 way,i6 e]))),(2,.c [] [] (SK r s b m c way e)),(5,.m (ld 0 (i6 mode))),(6,.c [] [] (oW mode)),(10,.m (ls 0 ([i6 j,i6 h,i6 i,i6 g,i6 a,i6 heavy]))),(11,.c [] [] (FW j h i g a heavy)),(15,.m (ld 0 (i6 d))),(20,.m (ld 0 (i6 d))),] [(2,.bool (((((k8 r s b m c way e)&&((mode==1)||(mode==2)))&&(((((gU j h&&gU i g)&&decide (1≤a))&&decide (a≤256))&&decide (1≤heavy))&&decide (heavy≤65536)))&&(decide (1≤d)))&&(decide (d≤256))))] [2] (aq (.bool (((((k8 r s b m c way e)&&((mode==1)||(mode==2)))&&(((((gU j h&&gU i g)&&decide (1≤a))&&decide (a≤256))&&decide (1≤heavy))&&decide (heavy≤65536)))&&(decide (1≤d)))&&(decide (d≤256)))) ab.zero ba [] [] [])
structure Cf where
 R:Nat
 S:Nat
 B:Nat
 M:Nat
 C:Nat
 G:Nat
 res:Nat
 E:Nat
 lr:Nat
 er:Nat
 lp:Nat
 ep:Nat
 J:Nat
 I:Nat
 log:Nat
 X:Bool
abbrev cA(c:Cf):Array Value:=#[i6 (c.R:Int),i6 (c.S:Int),i6 (c.B:Int),i6 (c.M:Int),i6 (c.C:Int),i6 (c.G:Int),i6 (c.res:Int),i6 (c.E:Int),i6 (c.lr:Int),i6 (c.er:Int),i6 (c.lp:Int),i6 (c.ep:Int),i6 (c.J:Int),i6 (c.I:Int),i6 (c.log:Int),.bool c.X]
abbrev lA(c:Cf)(a b d t:Nat):Array Value:=#[i6 (c.R:Int),i6 (c.S:Int),i6 (c.B:Int),i6 (c.M:Int),i6 (c.C:Int),i6 (c.G:Int),i6 (c.res:Int),i6 (c.E:Int),i6 (c.lr:Int),i6 (c.er:Int),i6 (c.lp:Int),i6 (c.ep:Int),i6 (c.J:Int),i6 (c.I:Int),i6 (c.log:Int),.bool c.X,pt a 0,pt b 0,pt d 0,i6 (t:Int)]
structure cZ (c:Cf):Prop where
 ly:ij c.R c.S c.B c.M c.C c.G c.res
 E:c.E=1∨c.E=2
 r:iL c.lr c.er
 p:iL c.lp c.ep
 m1:1≤c.J
 m2:c.J≤256
 h1:1≤c.I
 h2:c.I≤65536
 l1:1≤c.log
 l2:c.log≤256
theorem SL{k:Nat}{w:World}(h:k<3):(Instr.index 228 (.agg #[i6 0,i6 0,i6 0]) (.int .i64 (k:Int))).run YU w= .ok (i6 0) w:=by
 rcases k with _ | _ | _ | k
 ·kernel_rfl
 ·kernel_rfl
 ·kernel_rfl
 ·omega
theorem ij.v{R S B M C way a:Nat}(h:ij R S B M C way a):k8 R S B M C way a=true:=by
 have b:=h.G;have c:=h.r64;have d:=h.rp;unfold k8;rw[h.O.ok];simp only[ZJ,Y2,decide_eq_true_eq];rw[←Y9,←Y9];omega
theorem cZ.v{c:Cf}(h:cZ c):mK c.R c.S c.B c.M c.C c.G c.res c.E c.lr c.er c.lp c.ep c.J c.I c.log=true:=by
 have a:=h.m1;have b:=h.m2;have d:=h.h1;have f:=h.h2;have g:=h.l1;have i:=h.l2;unfold mK;rw[h.ly.v,h.r.r,h.p.r];simp only[ZJ,Y2,Zn,decide_eq_true_eq,beq_iff_eq];rcases h.E with e | e<;>omega
theorem SM{r s b m c way a:Int}(h:k8 r s b m c way a=true): ∃R S B M C w q:Nat,r=R∧s=S∧b=B∧m=M∧c=C∧way=w∧a=q∧ij R S B M C w q:=by
 unfold k8 at h;simp only[Y2,decide_eq_true_eq] at h;obtain⟨⟨⟨⟨⟨f,g⟩,i⟩,j⟩,k⟩,d⟩:=h;obtain⟨R,S,B,M,C,rfl,rfl,rfl,rfl,rfl,e⟩:=EJ f;rw[←Y9,←Y9] at d;exact⟨R,S,B,M,C,way.toNat,a.toNat,rfl,rfl,rfl,rfl,rfl,by omega,by omega,e,by omega,by omega,by omega⟩
theorem SN{r s b m c way f mode k i j g a heavy d:Int}(e:Bool)(h:mK r s b m c way f mode k i j g a heavy d=true): ∃q:Cf,r=q.R∧s=q.S∧b=q.B∧m=q.M∧c=q.C∧way=q.G∧f=q.res∧mode=q.E∧k=q.lr∧i=q.er∧j=q.lp∧g=q.ep∧a=q.J∧heavy=q.I∧d=q.log∧e=q.X∧cZ q:=by
 unfold mK at h;simp only[Y2,Zn,decide_eq_true_eq,beq_iff_eq] at h;obtain⟨⟨⟨⟨p,D⟩,⟨⟨⟨⟨⟨t,hp⟩,u⟩,v⟩,x⟩,y⟩⟩,z⟩,A⟩:=h;obtain⟨R,S,B,M,C,w,q,rfl,rfl,rfl,rfl,rfl,rfl,rfl,l⟩:=SM p;obtain⟨k,i,rfl,rfl,o⟩:=Fw t;obtain⟨j,g,rfl,rfl,n⟩:=Fw hp;exact⟨⟨R,S,B,M,C,w,q,mode.toNat,k,i,j,g,a.toNat,heavy.toNat,d.toNat,e⟩,rfl,rfl,rfl,rfl,rfl,rfl,rfl,by show mode=(mode.toNat:Int);omega,rfl,rfl,rfl,rfl,by show a=(a.toNat:Int);omega,by show heavy=(heavy.toNat:Int);omega,by show d=(d.toNat:Int);omega,rfl,l,by show mode.toNat=1∨mode.toNat=2;omega,o,n,by show 1≤a.toNat;omega,by show a.toNat≤256;omega,by show 1≤heavy.toNat;omega,by show heavy.toNat≤65536;omega,by show 1≤d.toNat;omega,by show d.toNat≤256;omega⟩
theorem zW(c:Cf)(h:cZ c):aa YU 79 #[.agg (cA c)] [] [] N0 (λ_=> .bool true):=by
 have a:=FX c.R c.S c.B c.M c.C c.G c.res c.E c.lr c.er c.lp c.ep c.J c.I c.log c.X;rwa [h.v] at a
theorem SO(c:Cf)(a:cZ c):aa YU 114 #[.agg (cA c)] [] [] (λE=>[ob (E.y 0) #[iN c.R,iN c.S,iN c.B,iN c.M,iN c.C,iN c.G,iN c.res,iN c.E,iN c.lr,iN c.er,iN c.lp,iN c.ep,iN c.J,iN c.I,iN c.log,.bool c.X,pt ((E.y 1)) 0,pt ((E.y 2)) 0,pt ((E.y 3)) 0,i6 0] 122,pk (au (E.y 1) ((E.y 4)) ((E.y 5)) ⟨lU c.R c.S c.B c.M c.C c.G c.res,lW,[]⟩),pk (aF (E.y 2) ((E.y 6)) (pf c.lr c.er c.lp c.ep c.J c.I c.R)),pk (aB (E.y 3) (o8 c.log))]) (λE=> .tuple #[pt ((E.y 0)) 0,i6 0]):=by
 have f:=a.ly;have p:=a.r;have o:=a.p;have y:=a.m1;have z:=a.m2;have q:=a.h1;have r:=a.h2;have v:=a.l1;have x:=a.l2;have A:=f.O.bd.r1;have B:=f.O.bd.r8;refine fG Tryz.func114 λw cs=>ra (λi=>[(1,pt (B0 i) 0),(2,.pointer none),(3,i6 0)]) (λi=>[ob (B0 i) (cA c) 31]) λi=>rF [(0,.l 0),(1,.c [] [] (zW c a))] 10 (rr (λ_=>[(0,.l 0)]) (λd=>[(4,pt (B2 d) 0)]) [] (λd L=>L++[ob (B2 d) #[iN c.R,iN c.S,iN c.B,iN c.M,iN c.C,iN c.G,iN c.res,iN c.E,iN c.lr,iN c.er,iN c.lp,iN c.ep,iN c.J,iN c.I,iN c.log,.bool c.X,.pointer none,.pointer none,.pointer none,i6 0] 122]) λd=>ra (λj=>[(5,pt (B0 j) 0)]) (λj=>[ob (B0 j) #[i6 0,i6 0,i6 0] 228]) λj=>rr (λb=>[(2,.m (ls 0 ([iN c.R,iN c.S,iN c.B,iN c.M,iN c.C,iN c.G,iN c.res]))),(3,.c [] [3] (Rk c.R c.S c.B c.M c.C c.G c.res f)),(9,.s 1),(11,.s 2)]) N0 [] (λb L=>L.set 1 (ob (B2 d) #[iN c.R,iN c.S,iN c.B,iN c.M,iN c.C,iN c.G,iN c.res,iN c.E,iN c.lr,iN c.er,iN c.lp,iN c.ep,iN c.J,iN c.I,iN c.log,.bool c.X,pt ((B3 b)) 0,.pointer none,.pointer none,i6 0] 122)++[pk (au (B3 b) ((b 3).y 1) ((b 3).y 2) ⟨lU c.R c.S c.B c.M c.C c.G c.res,lW,[]⟩)]) λb=>rr (λe=>[(2,.m (ls 0 ([iN c.lr,iN c.er,iN c.lp,iN c.ep,iN c.J,iN c.I]))),(6,.m (ld 0 (iN c.R))),(7,.c [] [4] (SH c.lr c.er c.lp c.ep c.J c.I c.R p o Om Om Om Om Om Om)),(13,.s 1),(15,.s 2)]) N0 [] (λe L=>L.set 1 (ob (B2 d) #[iN c.R,iN c.S,iN c.B,iN c.M,iN c.C,iN c.G,iN c.res,iN c.E,iN c.lr,iN c.er,iN c.lp,iN c.ep,iN c.J,iN c.I,iN c.log,.bool c.X,pt ((B3 b)) 0,pt ((B7 e)) 0,.pointer none,i6 0] 122)++[pk (aF (B7 e) ((e 7).y 1) (pf c.lr c.er c.lp c.ep c.J c.I c.R))]) λe=>rr (λh=>[(2,.m (ld 0 (iN c.log))),(3,.c [] [5] (RT c.log Om Om)),(9,.s 1),(11,.s 2)]) N0 [] (λh L=>L.set 1 (ob (B2 d) #[iN c.R,iN c.S,iN c.B,iN c.M,iN c.C,iN c.G,iN c.res,iN c.E,iN c.lr,iN c.er,iN c.lp,iN c.ep,iN c.J,iN c.I,iN c.log,.bool c.X,pt ((B3 b)) 0,pt ((B7 e)) 0,pt ((B3 h)) 0,i6 0] 122)++[pk (aB (B3 h) (o8 c.log))]) λh=>r0 [(0,.l 2)] [(48,.agg #[i6 0,i6 0,i6 0]),(49,i6 0)] [] ?_);refine lq (λk=>k≤3) (λk=>[(49,iN k)]) (λ_ L=>L) (λk=>3-k) 0 Om Kr Kr (λk u=>?_);refine r0 [] [(50,.bool (decide ((k:Int)<3)))] [] ?_;refine cc (k:Int) 3 (λn g=>?_) λn g=>?_
 ·exact r0 [(0,.t (tv (Instr.index 228 (.agg #[i6 0,i6 0,i6 0]) (iN k)) (λ_=>SL Om)))] [(7,i6 0)] [] (rF [] 53 (r0 [(0,ad k 1)] [(49,iN (k+1))] [49] (le (k+1) Om Om Kr [0,1,2,3,4,5] Kr)))
 obtain rfl:k=3:=by omega
 exact lx (r0 [] [(2,pt (B2 d) 0),(3,i6 0)] [] (lf (.l [(d 2).y 0,(B3 b),(B7 e),(B3 h),(b 3).y 1,(b 3).y 2,(e 7).y 1] [] []) [1,3,4,5] [] []))
theorem nn(b e d a:Nat)(c:Cf)(time:Nat)(g:Lg)(f:fT g)(k i o:Nat):aa YU 205 #[pt b 0,iN k,iN i,iN o] [ob b (lA c e d a time) 122,pk (aB a g)] [1] (λ_=>[pk (aB a (bY g ⟨0,time,k,i,o⟩))]) (λ_=> .tuple #[]):=by
 refine fG Tryz.func205 λw cs=>rs [(3,.m (ld 0 (pt a 0))),(7,.m (ld 0 (iN time))),(12,.c [1] [1] (R6 a g ⟨0,time,k,i,o⟩ f))] 1 ((pk (aB a (bY g ⟨0,time,k,i,o⟩)))) ?_;exact eo ab.zero [1] [(0,0)] [] (hf:=by kernel_rfl)
theorem SP(g a b:Nat)(r:Rp)(d:Yo r)(p:Nat)(hp:p<r.m.R*r.m.B*r.m.M):aa YU 64 #[pt a 0,iN p] [pk (au g a b r)] [0] (λ_=>[pk (au g a b r)]) (λ_=> .tuple #[iN (bB r.m p),i6 0]):=(E5 a r.m d.m p hp).inW λL c=>⟨1,by rw[c];rfl,by rw[c];rfl⟩
theorem SQ(g a b:Nat)(r:Rp)(d:Yo r)(p:Nat)(hp:p<r.m.R*r.m.B*r.m.M):aa YU 86 #[pt a 0,iN p] [pk (au g a b r)] [0] (λ_=>[pk (au g a b r)]) (λ_=> .bool (decide (p<r.m.R*r.m.B*r.m.M-r.m.res+r.m.Q)&& !r.m.P.getD p false)):=(Qq a r.m d.m p hp).inW λL c=>⟨1,by rw[c];rfl,by rw[c];rfl⟩
theorem FY(g a b:Nat)(r:Rp)(d:Yo r):aa YU 63 #[pt a 0] [pk (au g a b r)] [0] (λ_=>[pk (au g a b r)]) (λ_=> .agg #[iN r.m.R,iN r.m.S,iN r.m.B,iN r.m.M,iN r.m.C,iN r.m.G,iN r.m.res]):=(jd a r.m d.m).inW λL c=>⟨1,by rw[c];rfl,by rw[c];rfl⟩
theorem qp(g a i h d e:Nat)(c:Cf)(time:Nat)(r:Rp)(f:Yo r)(p:Nat)(hp:p<r.m.R*r.m.B*r.m.M):aa YU 248 #[pt g 0,iN p] [ob g (lA c a i h time) 122,pk (au a d e r)] [1] (λ_=>[pk (au a d e r)]) (λ_=>iN (bB r.m p*64)):=by
 have j:=vB f.m hp;exact fG Tryz.func248 λw cs=>r0 [] [(4,i6 0)] [] (r0 [(3,.m (ld 0 (pt a 0))),(4,.c [1] [1] (vP a d e r f)),(6,.c [1] [1] (SP a d e r f p hp)),] [(5,iN (bB r.m p))] [] (r0 [(1,.t (tv (av .shl 3 (.tmp 17) (.const (u6 6)) (iN (bB r.m p)) (u6 6)) (λ_=>dJ (b:=((bB r.m p*64:Nat):Int)) (fH 6 Dc Om Om) Om)))] [(4,iN (bB r.m p*64))] [4] (lf ab.zero [1] [(0,0)] [])))
theorem SR(i h e a j m p:Nat)(c:Cf)(time:Nat)(r:Rp)(n:Yo r)(k:Tk)(y:dS k)(g:Lg)(s:fT g)(f t:Nat)(q:f<r.m.R*r.m.B*r.m.M)(x:t<r.m.R*r.m.B*r.m.M):aa YU 213 #[pt i 0,i6 1,.agg #[i6 3,iN f,iN t]] [ob i (lA c h e a time) 122,pk (au h j m r),pk (aF e p k),pk (aB a g)] [1,2,3] (λ_=>[pk (au h j m r),pk (aF e p k),pk (aB a (bY g ⟨0,time,3,(bB r.m f*64),(bB r.m t*64)⟩))]) (λ_=> .tuple #[]):=by
 have u:=n.m.np;have v:=n.m.ly.rp;refine fG Tryz.func213 λw cs=>ra (λo=>[(5,pt (B0 o) 0)]) (λo=>[ob (B0 o) #[i6 3,iN f,iN t] 349]) λo=>r0 [(1,.l 4),(2,.t (tv (av .shl 3 (.tmp 9) (.const (u6 20)) (iN f) (u6 20)) (λ_=>dJ (b:=((f*1048576:Nat):Int)) (fH 20 Dc Om Om) Om))),(4,.l 4),(5,.t (tv (av .shl 3 (.tmp 12) (.const (u6 20)) (iN t) (u6 20)) (λ_=>dJ (b:=((t*1048576:Nat):Int)) (fH 20 Dc Om Om) Om)))] [(6,iN (f*1048576)),(7,iN (t*1048576))] [] (rT [] 15 (r0 [(2,.l 4),(3,.c [0,1] [1] (qp i h e a j m c time r n f Om)),(6,.l 4),(7,.c [0,1] [1] (qp i h e a j m c time r n t Om))] [(6,iN (bB r.m f*64)),(7,iN (bB r.m t*64))] [6,7] (rF [(1,.l 4)] 26 (rs [(2,.l 4),(5,.c [0,3] [3] (nn i h e a c time g s 3 (bB r.m f*64) (bB r.m t*64)))] 3 ((pk (aB a (bY g ⟨0,time,3,(bB r.m f*64),(bB r.m t*64)⟩)))) (rF [(1,.l 4),(4,.d),(5,.d)] 35 (rF [(1,.l 4)] 50 ?_))))));exact eo ab.zero [1,2,3] [(0,0)] []
theorem SS(i h e a j m p:Nat)(c:Cf)(time:Nat)(r:Rp)(n:Yo r)(k:Tk)(x:dS k)(g:Lg)(s:fT g)(f:Nat)(q:f<r.m.R*r.m.B*r.m.M):aa YU 213 #[pt i 0,i6 1,.agg #[i6 5,iN f,i6 0]] [ob i (lA c h e a time) 122,pk (au h j m r),pk (aF e p k),pk (aB a g)] [1,2,3] (λ_=>[pk (au h j m r),pk (aF e p k),pk (aB a (bY g ⟨0,time,5,(bB r.m f*64),0⟩))]) (λ_=> .tuple #[]):=by
 have u:=n.m.np;have v:=n.m.ly.rp;refine fG Tryz.func213 λw cs=>ra (λo=>[(5,pt (B0 o) 0)]) (λo=>[ob (B0 o) #[i6 5,iN f,i6 0] 349]) λo=>r0 [(1,.l 4),(2,.t (tv (av .shl 3 (.tmp 9) (.const (u6 20)) (iN f) (u6 20)) (λ_=>dJ (b:=((f*1048576:Nat):Int)) (fH 20 Dc Om Om) Om))),(4,.l 4),(5,.t (tv (av .shl 3 (.tmp 12) (.const (u6 20)) (i6 0) (u6 20)) (λ_=>dJ (b:=((0:Nat):Int)) (fH 20 Dc Om Om) Om)))] [(6,iN (f*1048576)),(7,i6 0)] [] (rT [] 15 (r0 [(2,.l 4),(3,.c [0,1] [1] (qp i h e a j m c time r n f Om)),(6,.l 4),(7,.c [0,1] [1] (qp i h e a j m c time r n 0 Om))] [(6,iN (bB r.m f*64)),(7,iN (bB r.m 0*64))] [6,7] (rT [(1,.l 4)] 26 (r0 [(1,.l 4)] [(7,i6 0)] [7] (rs [(2,.l 4),(5,.c [0,3] [3] (nn i h e a c time g s 5 (bB r.m f*64) 0))] 3 ((pk (aB a (bY g ⟨0,time,5,(bB r.m f*64),0⟩)))) (rF [(1,.l 4),(4,.d),(5,.d)] 35 (rF [(1,.l 4)] 50 ?_)))))));exact eo ab.zero [1,2,3] [(0,0)] []
theorem SU(h e a d i j m:Nat)(c:Cf)(time:Nat)(r:Rp)(n:Yo r)(k:Tk)(s:dS k)(g:Lg)(q:fT g)(f t:Nat)(p:f<r.m.R*r.m.B*r.m.M)(x:t<r.m.R*r.m.B*r.m.M):aa YU 213 #[pt h 0,i6 1,.agg #[i6 6,iN f,iN t]] [ob h (lA c e a d time) 122,pk (au e i j r),pk (aF a m k),pk (aB d g)] [1,2,3] (λ_=>[pk (au e i j r),pk (aF a m (qo k f)),pk (aB d (bY g ⟨0,time,6,(bB r.m f*64),(bB r.m t*64)⟩))]) (λ_=> .tuple #[]):=by
 have u:=n.m.np;have v:=n.m.ly.rp;refine fG Tryz.func213 λw cs=>ra (λo=>[(5,pt (B0 o) 0)]) (λo=>[ob (B0 o) #[i6 6,iN f,iN t] 349]) λo=>r0 [(1,.l 4),(2,.t (tv (av .shl 3 (.tmp 9) (.const (u6 20)) (iN f) (u6 20)) (λ_=>dJ (b:=((f*1048576:Nat):Int)) (fH 20 Dc Om Om) Om))),(4,.l 4),(5,.t (tv (av .shl 3 (.tmp 12) (.const (u6 20)) (iN t) (u6 20)) (λ_=>dJ (b:=((t*1048576:Nat):Int)) (fH 20 Dc Om Om) Om)))] [(6,iN (f*1048576)),(7,iN (t*1048576))] [] (rT [] 15 (r0 [(2,.l 4),(3,.c [0,1] [1] (qp h e a d i j c time r n f Om)),(6,.l 4),(7,.c [0,1] [1] (qp h e a d i j c time r n t Om))] [(6,iN (bB r.m f*64)),(7,iN (bB r.m t*64))] [6,7] (rF [(1,.l 4)] 26 (rs [(2,.l 4),(5,.c [0,3] [3] (nn h e a d c time g q 6 (bB r.m f*64) (bB r.m t*64)))] 3 ((pk (aB d (bY g ⟨0,time,6,(bB r.m f*64),(bB r.m t*64)⟩)))) (rT [(1,.l 4)] 35 (rs [(3,.l 0),(5,.l 4),(6,.c [2] [2] (Sw a m k s f))] 2 ((pk (aF a m (qo k f)))) ?_))))));exact eo ab.zero [1,2,3] [(0,0)] []
theorem SV(j h e a m n o:Nat)(c:Cf)(time:Nat)(r:Rp)(p:Yo r)(k:Tk)(y:dS k)(g:Lg)(s:fT g)(f t:Nat)(q:f<8)(x:t<8):aa YU 213 #[pt j 0,i6 2,.agg #[i6 4,iN f,iN t]] [ob j (lA c h e a time) 122,pk (au h m n r),pk (aF e o k),pk (aB a g)] [1,2,3] (λ_=>[pk (au h m n r),pk (aF e o k),pk (aB a (bY g ⟨0,time,4,(f*1048576),(t*1048576)⟩))]) (λ_=> .tuple #[]):=by
 have u:=p.m.np;have v:=p.m.ly.rp;refine fG Tryz.func213 λw cs=>ra (λi=>[(5,pt (B0 i) 0)]) (λi=>[ob (B0 i) #[i6 4,iN f,iN t] 349]) λi=>r0 [(1,.l 4),(2,.t (tv (av .shl 3 (.tmp 9) (.const (u6 20)) (iN f) (u6 20)) (λ_=>dJ (b:=((f*1048576:Nat):Int)) (fH 20 Dc Om Om) Om))),(4,.l 4),(5,.t (tv (av .shl 3 (.tmp 12) (.const (u6 20)) (iN t) (u6 20)) (λ_=>dJ (b:=((t*1048576:Nat):Int)) (fH 20 Dc Om Om) Om)))] [(6,iN (f*1048576)),(7,iN (t*1048576))] [] (rF [] 15 (rF [(1,.l 4)] 26 (rs [(2,.l 4),(5,.c [0,3] [3] (nn j h e a c time g s 4 (f*1048576) (t*1048576)))] 3 ((pk (aB a (bY g ⟨0,time,4,(f*1048576),(t*1048576)⟩)))) (rF [(1,.l 4),(4,.d),(5,.d)] 35 (rF [(1,.l 4)] 50 ?_)))));exact eo ab.zero [1,2,3] [(0,0)] []
theorem SW(j h e a m n o:Nat)(c:Cf)(time:Nat)(r:Rp)(p:Yo r)(k:Tk)(x:dS k)(g:Lg)(s:fT g)(f:Nat)(q:f<8):aa YU 213 #[pt j 0,i6 2,.agg #[i6 5,iN f,i6 1]] [ob j (lA c h e a time) 122,pk (au h m n r),pk (aF e o k),pk (aB a g)] [1,2,3] (λ_=>[pk (au h m n r),pk (aF e o k),pk (aB a (bY g ⟨0,time,5,(f*1048576),1⟩))]) (λ_=> .tuple #[]):=by
 have u:=p.m.np;have v:=p.m.ly.rp;refine fG Tryz.func213 λw cs=>ra (λi=>[(5,pt (B0 i) 0)]) (λi=>[ob (B0 i) #[i6 5,iN f,i6 1] 349]) λi=>r0 [(1,.l 4),(2,.t (tv (av .shl 3 (.tmp 9) (.const (u6 20)) (iN f) (u6 20)) (λ_=>dJ (b:=((f*1048576:Nat):Int)) (fH 20 Dc Om Om) Om))),(4,.l 4),(5,.t (tv (av .shl 3 (.tmp 12) (.const (u6 20)) (i6 1) (u6 20)) (λ_=>dJ (b:=((1048576:Nat):Int)) (fH 20 Dc Om Om) Om)))] [(6,iN (f*1048576)),(7,i6 1048576)] [] (rF [] 15 (rT [(1,.l 4)] 26 (r0 [(1,.l 4)] [(7,i6 1)] [7] (rs [(2,.l 4),(5,.c [0,3] [3] (nn j h e a c time g s 5 (f*1048576) 1))] 3 ((pk (aB a (bY g ⟨0,time,5,(f*1048576),1⟩)))) (rF [(1,.l 4),(4,.d),(5,.d)] 35 (rF [(1,.l 4)] 50 ?_))))));exact eo ab.zero [1,2,3] [(0,0)] []
theorem SX(j e a d m n h:Nat)(c:Cf)(time:Nat)(r:Rp)(o:Yo r)(k:Tk)(u:dS k)(g:Lg)(s:fT g)(f t:Nat)(p:f<8)(y:t<8)(q:f<k.F.length):aa YU 213 #[pt j 0,i6 2,.agg #[i6 6,iN f,iN t]] [ob j (lA c e a d time) 122,pk (au e m n r),pk (aF a h k),pk (aB d g)] [1,2,3] (λ_=>[pk (au e m n r),pk (aF a h (pd k f)),pk (aB d (bY g ⟨0,time,6,(f*1048576),(t*1048576)⟩))]) (λ_=> .tuple #[]):=by
 have v:=o.m.np;have x:=o.m.ly.rp;refine fG Tryz.func213 λw cs=>ra (λi=>[(5,pt (B0 i) 0)]) (λi=>[ob (B0 i) #[i6 6,iN f,iN t] 349]) λi=>r0 [(1,.l 4),(2,.t (tv (av .shl 3 (.tmp 9) (.const (u6 20)) (iN f) (u6 20)) (λ_=>dJ (b:=((f*1048576:Nat):Int)) (fH 20 Dc Om Om) Om))),(4,.l 4),(5,.t (tv (av .shl 3 (.tmp 12) (.const (u6 20)) (iN t) (u6 20)) (λ_=>dJ (b:=((t*1048576:Nat):Int)) (fH 20 Dc Om Om) Om)))] [(6,iN (f*1048576)),(7,iN (t*1048576))] [] (rF [] 15 (rF [(1,.l 4)] 26 (rs [(2,.l 4),(5,.c [0,3] [3] (nn j e a d c time g s 6 (f*1048576) (t*1048576)))] 3 ((pk (aB d (bY g ⟨0,time,6,(f*1048576),(t*1048576)⟩)))) (rF [(1,.l 4)] 35 (rT [(1,.l 4)] 50 (rs [(3,.l 0),(5,.l 4),(6,.c [2] [2] (Sx a h k u f Om))] 2 ((pk (aF a h (pd k f)))) ?_))))));exact eo ab.zero [1,2,3] [(0,0)] []
theorem SY(m:Nat)(a:m<18446744073709551616):aa YU 131 #[u6 (m:Int)] [] [] N0 (λ_=> .bool (decide (pc m=64))):=by
 exact fG Tryz.func131 λw cs=>r0 [] [(2,.bool false)] [] (r0 [(1,.c [] [] (rO m Om))] [(2,.bool ((((pc m):Nat):Int)==64))] [2] (aq (.bool ((((pc m):Nat):Int)==64)) ab.zero (by exact ALca Value.bool (lV (pc m) 64)) [] [] []))
def eZ(x:UInt8)(k:Nat):List UInt8:=YV k x++YV (64-k) 0
theorem SZ{x:UInt8}{k:Nat}(h:k≤64):(eZ x k).length=64:=by unfold eZ;rw[YW,Y1,Y1];omega
theorem S1{x:UInt8}{k:Nat}(h:k<64):(eZ x k).set k x=eZ x (k+1):=by
 unfold eZ;rw[Zu _ _ (by rw[Y1];exact Za _),Y1,Nat.sub_self,show 64-k=(64-(k+1))+1 by omega,Zv,List.replicate_succ',Y0];rfl
theorem S2(x:UInt8):aa YU 46 #[u1 (x.toNat:Int)] [] [] N0 (λ_=> .agg (rB 64 (eZ x 64)).toArray):=by
 refine fG Tryz.func46 λw cs=>ra (λb=>[(2,pt (B0 b) 0)]) (λb=>[ob (B0 b) (rB 64 z6).toArray 43]) λb=>ra (λa=>[(3,pt (B0 a) 0)]) (λa=>[ob (B0 a) (rB 64 z6).toArray 43]) λa=>r0 [] [(5,i6 0)] [] ?_;refine lq (λk=>k≤64) (λk=>[(5,iN k)]) (λk L=>L.set 1 (ob (B0 a) (rB 64 (eZ x k)).toArray 43)) (λk=>64-k) 0 Om Kr (by rw[show eZ x 0=YV 64 0 from rfl];kernel_rfl) (λk f=>?_);have d:=SZ (x:=x) (k:=k) Om;refine r0 [] [(6,.bool (decide ((k:Int)<64)))] [] ?_;refine cc (k:Int) 64 (λe c=>?_) λe c=>?_
 ·exact r0 [] [(4,iN k)] [] (rs [(2,iA 43 .i64 (B0 a) 0 64 1 k),(3,wD 1 (B0 a) k 43 (u1 (x.toNat:Int)) (rB 64 (eZ x k)) (rB 64 ((eZ x k).set k x)) (jT Om) (mj (show(eZ x k).length=64 by(simp only[LL,d];done))))] 1 (ob (B0 a) (rB 64 ((eZ x k).set k x)).toArray 43) (r0 [(0,ad k 1)] [(5,iN (k+1))] [5] (le (k+1) Om Om Kr [0,1] (by rw[←S1 Om];kernel_rfl))))
 obtain rfl:k=64:=by omega
 exact lx (rs [(0,.l 1),(1,.s 0)] 0 (ob (B0 b) (rB 64 (eZ x 64)).toArray 43) (lf ab.zero [] [] [0]))
theorem FZ(v:Value)(xs:List UInt8)(e:xs.length=64):aa YU 130 #[v] [.p (aP eB v xs)] [] N0 (λ_=> .tuple #[.agg (rB 64 xs).toArray,i6 0]):=by
 exact fO Tryz.func130 0 rfl λb a=>fG Tryz.func130 λw cs=>ra (λd=>[(2,pt (B0 d) 0),(3,i6 0)]) (λd=>[ob (B0 d) (rB 64 z6).toArray 43]) λd=>rF [(1,eD a.1 0),(2,.t (tk (show Value.bool ((xs.length:Int) != 64)= .bool false from ALca Value.bool (by rw[e];rfl))))] 6 (rr (λ_=>[(1,.m (CG 0 (.c b) 64 (cP a.1) Dc Om)),(2,.m (CH 0 (.c b) 64 (rB 64 xs) (cP a.1) (kN e).symm Om (CI (λ_=>rfl) e))),(3,.s 1)]) (λ_=>[(3,i6 0)]) [3] (λ_ L=>L.set 1 (ob (B0 d) (rB 64 xs).toArray 43)) λf=>lf ab.zero [] [(0,0)] [1])
def ka(l o:List UInt8)(is:List Nat):List UInt8:=is.foldl (λl i=>l.set i (o.getD i 0)) l
def iM(l o:List UInt8)(m:Nat):List UInt8:=ka l o (bA m)
theorem vW(o:List UInt8): ∀(is:List Nat) (l:List UInt8),(ka l o is).length=l.length
 | [],_=>rfl
 | i::is,l=>by
  show(ka (l.set i (o.getD i 0)) o is).length=_;rw[vW o is,Y4]
theorem S3{l o:List UInt8}{is:List Nat}{k:Nat}(h:k<is.length):(ka l o (is.take k)).set (is.getD k 0) (o.getD (is.getD k 0) 0)=ka l o (is.take (k+1)):=by
 unfold ka;rw[Zl,YY h,ZA,YX,YY h];rfl
theorem S4(l y:List UInt8)(m:Nat)(f:l.length=64)(h:y.length=64)(u:m<18446744073709551616):aa YU 94 #[.agg (rB 64 l).toArray,.agg (rB 64 y).toArray,u6 (m:Int)] [] [] N0 (λ_=> .agg (rB 64 (ka l y ((bA m).take ((bA m).length)))).toArray):=by
 refine fG Tryz.func94 λw cs=>ra (λa=>[(3,pt (B0 a) 0),(4,pt (B1 a) 0),(6,pt (B2 a) 0)]) (λa=>[ob (B0 a) (rB 64 l).toArray 43,ob (B1 a) (rB 64 y).toArray 43,ob (B2 a) (rB 64 z6).toArray 43]) λa=>rr (λ_=>[(1,.c [] [3] (CP m))]) (λb=>[(9,.func (.func 172) #[] #[pt ((B1 b)) 0])]) [] (λb L=>L++[ob (B1 b) #[u6 (m:Int)] 44]) λb=>?_;refine Cq (encs:=λ(i:Nat)=>#[iN i]) (xs:=bA m) (XO:=[((B1 b),.cells #[u6 (m:Int)] 44 (0,0))]) (KO:=[]) (CO (B1 b) m Om) (enters_of Tryz.func172 Kr rfl) (λk=>k≤(bA m).length) (λk L=>L.set 0 (ob (B0 a) (rB 64 (ka l y ((bA m).take k))).toArray 43)) [ob (B0 a) (rB 64 l).toArray 43,ob (B1 a) (rB 64 y).toArray 43,ob (B2 a) (rB 64 z6).toArray 43] [0,1,2,3] [3] [] Om (by rw[show ka l y ((bA m).take 0)=l by rw[Zo];rfl];kernel_rfl) (λv k x p r g e=>?_) (λo e=>?_)
 ·obtain⟨d,rfl⟩:=tN 0 g;have j:=(vW y ((bA m).take k) l).trans f;have n:=DM d;refine r0 [] [(7,iN ((bA m).getD k 0))] [] ?_;refine ag [] (λq t=>?_);exact rs [(2,iA 43 .i64 (B1 a) 0 64 1 ((bA m).getD k 0)),(3,rD 1 (B1 a) ((bA m).getD k 0) 43 (rB 64 y) (nK Om)),(4,iA 43 .i64 (B0 a) 0 64 1 ((bA m).getD k 0)),(5,wD 0 (B0 a) ((bA m).getD k 0) 43 (u1 ((y.getD ((bA m).getD k 0) 0).toNat:Int)) (rB 64 (ka l y ((bA m).take k))) (rB 64 ((ka l y ((bA m).take k)).set ((bA m).getD k 0) (y.getD ((bA m).getD k 0) 0))) (jT Om) (mj (show(ka l y ((bA m).take k)).length=64 by(simp only[LL,f,h,vW,f,h];done))))] 0 (ob (B0 a) (rB 64 ((ka l y ((bA m).take k)).set ((bA m).getD k 0) (y.getD ((bA m).getD k 0) 0))).toArray 43) (ne _ ⟨Om,rfl⟩ [0,1,2] (by rw[←S3 Om];kernel_rfl))
 exact rs [(0,.l 0),(1,.s 2)] 2 (ob (B2 a) (rB 64 (ka l y ((bA m).take ((bA m).length)))).toArray 43) (lf ab.zero [] [] [2])
section
theorem oe{α:Type}{p:α→Prop}{l:List α}(d:α):(∀i,i<l.length→p (l.getD i d))↔∀x∈l,p x:=by
 constructor
 ·intro h x b;obtain⟨i,a,rfl⟩:=List.getElem_of_mem b;have:=h i a;rwa [YX,YY a] at this
 ·intro h i a;rw[YX,YY a];exact h _ (List.getElem_mem a)
theorem F0{α:Type}{l:List α}{i:Nat}(h:i<l.length):(l.eraseIdx i).length=l.length-1:=by rw[Y7,ALifp h]
theorem mL(g:Lg)(x:Re):(bY g x).next=g.next+1:=by
 unfold bY
 split
 ·split<;>rfl
 ·rfl
theorem zX(g:Lg)(x:Re):(bY g x).J=g.J:=by
 unfold bY
 split
 ·split<;>rfl
 ·rfl
theorem fT.add{g:Lg}(h:fT g)(x:Re)(b:g.next+1≤1000000000):fT (bY g x):=by
 refine⟨?_,by rw[zX];exact h.r1,by rw[zX];exact h.r,by rw[mL];exact b⟩;rw[zX];have d:=h.l;have f:=o7 cO g.l;unfold bY
 split
 ·rename_i e
  split
  ·exact h.l
  ·rename_i c;have a:aX cO g.l<g.l.length:=by omega
   show(g.l.eraseIdx (aX cO g.l)++[qn x g.next]).length≤g.J;rw[YW,F0 a];show g.l.length-1+1≤g.J;omega
 ·show(g.l++[qn x g.next]).length≤g.J;rw[YW];show g.l.length+1≤g.J;omega
theorem fT.clear{g:Lg}(h:fT g):fT (nm g):=⟨Y8 _,h.r1,h.r,h.n⟩
theorem F1{α:Type}{l:List α}{i:Nat}{x:α}(h:x∈l.eraseIdx i):x∈l:=List.mem_of_mem_eraseIdx h
section
variable {ev:Nat} {t:Tb}
theorem iw.mk'{a:Tb}(h:iw ev t)(b:a.J=t.J)(d:a.l.length≤t.J)(c: ∀x∈a.l,eY ev x.l x.a):iw ev a:=⟨by rw[b];exact d,by rw[b];exact h.r1,by rw[b];exact h.r,(oe (p:=λx:Pa=>eY ev x.l x.a) bq).2 c⟩
theorem iw.mem(h:iw ev t): ∀x∈t.l,eY ev x.l x.a:=(oe (p:=λx:Pa=>eY ev x.l x.a) bq).1 h.b
theorem iw.put(h:iw ev t){k l a:Nat}(c:eY ev l a):iw ev (pa t k l a):=by
 have d:=h.l;have f:=h.r1;unfold pa
 split
 ·split
  ·rename_i e;refine h.mk' rfl ?_ λx b=>?_
   ·show(t.l.eraseIdx (eb t.l t.l.length).1++[(⟨k,l,a⟩:Pa)]).length≤t.J;rw[YW,F0 (zU t.l t.l.length Om)];show t.l.length-1+1≤t.J;omega
   ·rcases List.mem_append.1 b with b | b
    ·exact h.mem x (F1 b)
    ·rw[List.mem_singleton.1 b];exact c
  ·rename_i e;refine h.mk' rfl ?_ λx b=>?_
   ·show(t.l++[(⟨k,l,a⟩:Pa)]).length≤t.J;rw[YW];show t.l.length+1≤t.J;omega
   ·rcases List.mem_append.1 b with b | b
    ·exact h.mem x b
    ·rw[List.mem_singleton.1 b];exact c
 ·refine h.mk' rfl ?_ λx b=>?_
  ·show(t.l.set _ _).length≤t.J;rw[Y4];exact h.l
  ·rcases Zp b with b | rfl
   ·exact h.mem x b
   ·exact c
theorem iw.drop(h:iw ev t)(k:Nat):iw ev (pb t k):=by
 unfold pb
 split
 ·exact h
 ·refine h.mk' rfl ?_ λx a=>h.mem x (F1 a);show(t.l.eraseIdx _).length≤t.J;rw[Y7];have:=h.l
  split<;>omega
theorem iw.tick(h:iw ev t):iw ev (sN t ev):=by
 refine h.mk' rfl ?_ λx a=>?_
 ·show(aY (cQ ev) t.l t.l.length).length≤t.J;rw[sM];exact h.l
 ·have a:x∈aY (cQ ev) t.l t.l.length:=a;rw[FU] at a;obtain⟨y,b,rfl⟩:=List.mem_map.1 a;exact Fy (h.mem y b)
end
section
variable {k:Tk}
theorem dS.rk(h:dS k): ∀x∈k.F,eY k.er x.l x.a:=(oe (p:=λx:Bk=>eY k.er x.l x.a) bh).1 h.b
theorem dS.set(h:dS k)(r:Nat){b:Bk}(d:eY k.er b.l b.a): ∀i,i<(k.F.set r b).length→eY k.er ((k.F.set r b).getD i bh).l ((k.F.set r b).getD i bh).a:=
 (oe (p:=λx:Bk=>eY k.er x.l x.a) bh).2 λx c=>by
  rcases Zp c with c | rfl
  ·exact h.rk x c
  ·exact d
theorem dS.note(h:dS k){r:Nat}(p n:Nat)(c:r<k.F.length):dS (fy k r p n):=
 ⟨h.r,h.p,h.h1,h.h2,by show(k.F.set r _).length≤8;rw[Y4];exact h.n,h.set r (b:=⟨b6 (k.F.getD r bh).l n,(k.F.getD r bh).a⟩) (Fx (h.b r c)),h.t.put (Fx (h.t.get h.p.e1 p))⟩
theorem dS.reset(h:dS k)(r:Nat):dS (pd k r):=
 ⟨h.r,h.p,h.h1,h.h2,by show(k.F.set r _).length≤8;rw[Y4];exact h.n,h.set r (b:=⟨0,0⟩) ⟨Y8 _,h.r.e1⟩,h.t⟩
theorem dS.drop(h:dS k)(p:Nat):dS (qo k p):=⟨h.r,h.p,h.h1,h.h2,h.n,h.b,h.t.drop p⟩
theorem dS.tick(h:dS k):dS (mJ k):=by
 refine⟨h.r,h.p,h.h1,h.h2,?_,(oe (p:=λx:Bk=>eY k.er x.l x.a) bh).2 λx a=>?_,h.t.tick⟩
 ·show(aY (dV k.er) k.F k.F.length).length≤8;rw[sM];exact h.n
 ·have a:x∈aY (dV k.er) k.F k.F.length:=a;rw[FU] at a;obtain⟨y,b,rfl⟩:=List.mem_map.1 a;exact Fy (h.rk y b)
theorem S5(k:Tk)(r p n:Nat):(fy k r p n).F.length=k.F.length:=Y4
theorem S6(k:Tk)(r:Nat):(pd k r).F.length=k.F.length:=Y4
theorem S7(k:Tk):(mJ k).F.length=k.F.length:=sM ..
end
def fU(of:Nat)(v:Ev):Nat:=if v.k=3 then 1 else if v.k=4 then 2 else if v.k=5 then 1+v.t else of
def gy(of:Nat)(k:Tk)(v:Ev):Tk:=if v.k=6 then(if of=1 then qo k v.f else pd k v.f) else k
def og(m:Mp)(of x:Nat):Nat:=if of=1 then bB m x*64 else x*1048576
def iO(m:Mp)(of time:Nat)(v:Ev):Re:=⟨0,time,v.k,og m of v.f,if v.k=5 then v.t else og m of v.t⟩
structure iP (np n of:Nat) (v:Ev):Prop where
 k:(of=1∧v.f<np∧(v.k=3∨v.k=6)∧v.t<np)∨(of=1∧v.f<np∧v.k=5∧v.t=0)∨(of=2∧v.f<n∧(v.k=4∨v.k=6)∧v.t<8)∨(of=2∧v.f<n∧v.k=5∧v.t=1)
theorem S8(of:Nat)(k:Tk)(v:Ev):(gy of k v).F.length=k.F.length:=by
 unfold gy
 split
 ·split
  ·rfl
  ·exact S6 _ _
 ·rfl
theorem S9{k:Tk}(h:dS k)(of:Nat)(v:Ev):dS (gy of k v):=by
 unfold gy
 split
 ·split
  ·exact h.drop _
  ·exact h.reset _
 ·exact h
def fc(of:Nat)(k:Tk)(l:List Ev):Tk:=l.foldl (λk v=>gy (fU of v) k v) k
def eG(m:Mp)(of time:Nat)(g:Lg)(l:List Ev):Lg:=l.foldl (λg v=>bY g (iO m (fU of v) time v)) g
theorem zY(of:Nat): ∀(l:List Ev) {k:Tk},dS k→dS (fc of k l)
 | [],_,h=>h
 | v::l,_,h=>zY of l (S9 h (fU of v) v)
theorem zZ(of:Nat): ∀(l:List Ev) (k:Tk),(fc of k l).F.length=k.F.length
 | [],_=>rfl
 | v::l,k=>(zZ of l (gy (fU of v) k v)).trans (S8 _ k v)
theorem vX(m:Mp)(of time:Nat): ∀(l:List Ev) (g:Lg),(eG m of time g l).next=g.next+l.length
 | [],_=>rfl
 | v::l,g=>(vX m of time l (bY g (iO m (fU of v) time v))).trans (by rw[mL,ZD];omega)
theorem z0(m:Mp)(of time:Nat): ∀(l:List Ev) {g:Lg},fT g→g.next+l.length≤1000000000→fT (eG m of time g l)
 | [],_,h,_=>h
 | v::l,g,h,a=>by
  rw[ZD] at a;exact z0 m of time l (h.add _ Om) (by rw[mL];omega)
theorem Yx{α β:Type}{f:β→α→β}{b:β}{l:List α}{i:Nat}{d:α}(h:i<l.length):(l.take (i+1)).foldl f b=f ((l.take i).foldl f b) (l.getD i d):=by
 rw[Zl,YY h,ZA,YX,YY h];rfl
theorem Ta{of:Nat}{k:Tk}{l:List Ev}{i:Nat}(h:i<l.length):fc of k (l.take (i+1))=gy (fU of (l.getD i cG)) (fc of k (l.take i)) (l.getD i cG):=Yx h
theorem Tc{m:Mp}{of time:Nat}{g:Lg}{l:List Ev}{i:Nat}(h:i<l.length):eG m of time g (l.take (i+1))=bY (eG m of time g (l.take i)) (iO m (fU of (l.getD i cG)) time (l.getD i cG)):=Yx h
structure eH (m m':Mp):Prop where
 R:m'.R=m.R
 S:m'.S=m.S
 B:m'.B=m.B
 M:m'.M=m.M
 C:m'.C=m.C
 G:m'.G=m.G
 res:m'.res=m.res
theorem eH.rfl'(m:Mp):eH m m:=⟨rfl,rfl,rfl,rfl,rfl,rfl,rfl⟩
theorem eH.tr{a b c:Mp}(h:eH a b)(g:eH b c):eH a c:=⟨g.R.trans h.R,g.S.trans h.S,g.B.trans h.B,g.M.trans h.M,g.C.trans h.C,g.G.trans h.G,g.res.trans h.res⟩
theorem F2(r:Rp)(a:Ak):eH r.m (dn r a).m:=by
 unfold dn;cases a.k==1<;>cases dC r.m<;>cases eu r.m<;>exact⟨rfl,rfl,rfl,rfl,rfl,rfl,rfl⟩
theorem oh(r:Rp)(a:Ak):eH r.m (br r a).m:=by
 unfold br;cases de r a
 ·cases r.j.A==0
  ·exact eH.rfl' _
  ·exact F2 r a
 ·exact eH.rfl' _
theorem F3(r:Rp):eH r.m (jM r).m:=by
 unfold jM;cases r.j.A==1<;>exact⟨rfl,rfl,rfl,rfl,rfl,rfl,rfl⟩
theorem F4(s:Rp×List Ev):eH s.1.m (ik s).1.m:=by
 unfold ik;cases de (a4 s.1) (s.1.q.headD aK)
 ·exact F2 (a4 s.1) _
 ·exact eH.rfl' _
theorem F5: ∀(n:Nat) (s:Rp×List Ev),eH s.1.m (fb n s).1.m
 | 0,s=>eH.rfl' _
 | n+1,s=>by
  unfold fb
  split
  ·exact(F4 s).tr (F5 n _)
  ·exact eH.rfl' _
theorem vY(r:Rp):eH r.m (fo r).1.m:=by
 unfold fo;cases lX r.m (bI r).j
 ·exact eH.rfl' _
 ·exact(F3 (bI r)).tr (F5 _ (ae (bI r)))
theorem Td{r:Rp}{a:Ak}(h:Yo r)(c:ew r.m a):Yo (br r a):=by
 unfold br;cases hv:de r a
 ·rw[ALcf];cases r.j.A==0
  ·refine⟨h.m,h.j,λx b=>?_,?_,h.fr⟩
   ·have b:x∈qh r.q a:=b;unfold qh at b
    split at b
    ·exact h.q x b
    ·split at b
     ·exact h.q x b
     ·rcases List.mem_append.1 b with b | b
      ·exact h.q x b
      ·rw[List.mem_singleton.1 b];exact c
   ·show(qh r.q a).length≤256;have:=h.n;unfold qh
    split
    ·exact h.n
    ·split
     ·exact h.n
     ·rw[YW];show r.q.length+1≤256;omega
  ·exact Fo h c hv
 ·exact h
theorem F6{r:Rp}{a:Ak}(h:Yo r)(d:ew r.m a)(of:Nat): ∀v∈fS r a,iP (r.m.R*r.m.B*r.m.M) r.m.R (fU of v) v:=by
 have i:=h.m.O.bd.r8;have e:=h.m.pg;have f:=h.m.rk;have g:=h.m.ly.rp;unfold fS;rcases d.k with⟨b,c⟩ | ⟨b,c⟩
 ·rw[b];show ∀v∈(bif dC r.m then _ else _),_;cases hp:dC r.m
  ·intro v hv;obtain rfl:=List.mem_singleton.1 hv;exact⟨.inr (.inl ⟨by rw[b];rfl,c,rfl,by rw[b]⟩)⟩
  ·intro v hv;obtain rfl:=List.mem_singleton.1 hv;refine⟨.inl ⟨rfl,c,.inl rfl,?_⟩⟩;show dY r.m<_;have:r.m.Q≠r.m.res:=by unfold dC at hp;simpa using hp
   unfold dY;rw[ALifn this];show r.m.R*r.m.B*r.m.M-r.m.res+r.m.Q<_;omega
 ·rw[b];show ∀v∈(bif eu r.m then _ else _),_;cases hp:eu r.m
  ·intro v hv;obtain rfl:=List.mem_singleton.1 hv;exact⟨.inr (.inr (.inr ⟨by rw[b];rfl,c,rfl,by rw[b]⟩))⟩
  ·intro v hv;obtain rfl:=List.mem_singleton.1 hv;refine⟨.inr (.inr (.inl ⟨rfl,c,.inl rfl,?_⟩))⟩;show fR r.m<_;have:r.m.F≠r.m.S:=by unfold eu at hp;simpa using hp
   unfold fR;rw[ALifn this];omega
theorem qq{r:Rp}{a:Ak}(h:Yo r)(d:ew r.m a)(of:Nat): ∀v∈bW r a,iP (r.m.R*r.m.B*r.m.M) r.m.R (fU of v) v:=by
 unfold bW;cases de r a
 ·rw[ALcf];cases r.j.A==0
  ·rw[ALcf];cases vF r.q a==14
   ·intro v hv;cases hv
   ·intro v hv;obtain rfl:=List.mem_singleton.1 hv;rcases d.k with⟨b,c⟩ | ⟨b,c⟩
    ·exact⟨.inr (.inl ⟨by rw[b];rfl,c,rfl,by rw[b]⟩)⟩
    ·exact⟨.inr (.inr (.inr ⟨by rw[b];rfl,c,rfl,by rw[b]⟩))⟩
  ·exact F6 h d of
 ·intro v hv;cases hv
theorem ph(r:Rp)(a:Ak):(bW r a).length≤1:=by
 unfold bW;cases de r a
 ·rw[ALcf];cases r.j.A==0
  ·rw[ALcf];cases vF r.q a==14
   ·exact Y8 _
   ·exact Za _
  ·rw[ALct,vL];exact Za _
 ·exact Y8 _
theorem Te{s:Rp×List Ev}(h:Yo s.1)(b:0<s.1.q.length)(of:Nat)(a: ∀v∈s.2,iP (s.1.m.R*s.1.m.B*s.1.m.M) s.1.m.R (fU of v) v): ∀v∈(ik s).2,iP (s.1.m.R*s.1.m.B*s.1.m.M) s.1.m.R (fU of v) v:=by
 unfold ik;cases de (a4 s.1) (s.1.q.headD aK)
 ·intro v hv;rcases List.mem_append.1 hv with hv | hv
  ·exact a v hv
  ·exact F6 (r:=a4 s.1) (vK h) ⟨(sJ h b).k⟩ of v hv
 ·exact a
theorem F7: ∀(n:Nat) (s:Rp×List Ev),n=s.1.q.length→Yo s.1→∀b,(∀v∈s.2,iP (s.1.m.R*s.1.m.B*s.1.m.M) s.1.m.R (fU b v) v)→Yo (fb n s).1∧(fb n s).2.length≤s.2.length+n∧∀v∈(fb n s).2,iP (s.1.m.R*s.1.m.B*s.1.m.M) s.1.m.R (fU b v) v
 | 0,s,_,h,b,c=>⟨h,Za _,c⟩
 | n+1,s,i,h,b,c=>by
  unfold fb
  split
  ·have e:0<s.1.q.length:=by omega
   have a:=F4 s;obtain⟨f,g,d⟩:=F7 n (ik s) (by rw[zJ,ZE];omega) (zI h e) b (by rw[a.R,a.B,a.M];exact Te h e b c);rw[a.R,a.B,a.M] at d;exact⟨f,by have:=Fs s;omega,d⟩
  ·exact⟨h,by omega,c⟩
theorem F8{r:Rp}(h:Yo r)(b:r.j.A≠0)(f:r.j.nx<gD r.j.A r.m.B r.m.M r.m.C):Yo (fo r).1∧(fo r).2.length≤257∧∀v∈(fo r).2,iP (r.m.R*r.m.B*r.m.M) r.m.R (fU r.j.A v) v:=by
 unfold fo;cases lX r.m (bI r).j
 ·exact⟨vJ h b f,Y8 _,λv hv=>by cases hv⟩
 ·rw[ALct];have l:=vJ h b f;have a:=F3 (bI r);have i: ∀v∈(ae (bI r)).2,iP (r.m.R*r.m.B*r.m.M) r.m.R (fU r.j.A v) v:=by
   intro v hv;obtain rfl:=List.mem_singleton.1 hv;have w:=h.m.O.bd.r8;have n:=h.m.rk;rcases h.j.k with e | ⟨e,c⟩ | ⟨e,c⟩
   ·rw[e] at b;exact absurd rfl b
   ·rw[e];exact⟨.inl ⟨rfl,c.hf,.inr rfl,c.ht⟩⟩
   ·rw[e];refine⟨.inr (.inr (.inl ⟨rfl,c.hf,.inr rfl,?_⟩))⟩;have:=c.t1;show r.j.tg<8;omega
  obtain⟨g,o,d⟩:=F7 (bI r).q.length (ae (bI r)) (by unfold ae jM;rfl) (vH l b) r.j.A (by
   show ∀v∈(ae (bI r)).2,iP ((jM (bI r)).m.R*(jM (bI r)).m.B*(jM (bI r)).m.M) (jM (bI r)).m.R _ v;rw[a.R,a.B,a.M];exact i)
  have d: ∀v∈(cH (bI r)).2,iP ((jM (bI r)).m.R*(jM (bI r)).m.B*(jM (bI r)).m.M) (jM (bI r)).m.R (fU r.j.A v) v:=d;rw[a.R,a.B,a.M] at d;refine⟨g,?_,d⟩;have p:=h.n;have s:(bI r).q.length=r.q.length:=rfl;have u:(ae (bI r)).2.length=1:=rfl;show(fb (bI r).q.length (ae (bI r))).2.length≤257;omega
theorem Tf(of:Nat)(v:Ev):(((bif ((v.k:Nat):Int)==3 then 1 else(bif ((v.k:Nat):Int)==4 then 2 else(bif ((v.k:Nat):Int)==5 then 1+v.t else of))):Nat):Int)=((fU of v:Nat):Int):=by
 unfold fU;by_cases a:v.k=3
 ·rw[a];rfl
 by_cases b:v.k=4
 ·rw[b];rfl
 by_cases c:v.k=5
 ·rw[c];rfl
 have d:(((v.k:Nat):Int)==3)=false:=by rw[dz];omega
 have e:(((v.k:Nat):Int)==4)=false:=by rw[dz];omega
 have f:(((v.k:Nat):Int)==5)=false:=by rw[dz];omega
 rw[d,e,f,ALifn a,ALifn b,ALifn c];rfl
structure Le where
 r:Rp
 k:Tk
 g:Lg
 time:Nat
structure cR (s:Le) (K:Nat):Prop where
 r:Yo s.r
 k:dS s.k
 g:fT s.g
 n:s.g.next≤K
 rk:s.k.F.length=s.r.m.R
theorem cR.mono{s:Le}{K a:Nat}(h:cR s K)(b:K≤a):cR s a:=⟨h.r,h.k,h.g,Y3 h.n b,h.rk⟩
def Yy(of:Nat)(s:Le)(l:List Ev):Le:={s with k:=fc of s.k l,g:=eG s.r.m of s.time s.g l}
theorem F9{s:Le}{K:Nat}(h:cR s K)(of:Nat)(l:List Ev)(a:K+l.length≤1000000000):cR (Yy of s l) (K+l.length):=by
 have b:=h.n;exact⟨h.r,zY of l h.k,z0 _ of _ l h.g Om,by show(eG _ of _ s.g l).next≤_;rw[vX];omega,(zZ of l s.k).trans h.rk⟩
def z3(s:Le)(x:Re):Le:={s with g:=bY s.g x}
theorem vZ{s:Le}{K:Nat}(h:cR s K)(x:Re)(a:K+1≤1000000000):cR (z3 s x) (K+1):=by
 have b:=h.n;exact⟨h.r,h.k,h.g.add x Om,by show(bY s.g x).next≤_;rw[mL];omega,h.rk⟩
def Ga(s:Le)(r p n:Nat):Le:={s with k:=fy s.k r p n}
theorem z4{s:Le}{K:Nat}(h:cR s K){r:Nat}(p n:Nat)(a:r<s.r.m.R):cR (Ga s r p n) K:=⟨h.r,h.k.note p n (by rw[h.rk];exact a),h.g,h.n,(S5 ..).trans h.rk⟩
def v3(s:Le)(r:Rp):Le:={s with r:=r}
theorem pj{s:Le}{K:Nat}(h:cR s K){a:Ak}(b:ew s.r.m a):cR (v3 s (br s.r a)) K:=⟨Td h.r b,h.k,h.g,h.n,h.rk.trans (oh s.r a).R.symm⟩
def qt(s:Le)(a:Ak):Le:=Yy a.k (v3 s (br s.r a)) (bW s.r a)
theorem v5{s:Le}{K:Nat}(h:cR s K){a:Ak}(b:ew s.r.m a)(c:K+1≤1000000000):cR (qt s a) (K+1):=by
 have d:=ph s.r a;exact(F9 (pj h b) a.k (bW s.r a) Om).mono Om
theorem v7(s:Le)(a:Ak):eH s.r.m (qt s a).r.m:=oh s.r a
theorem ew.ly{m b:Mp}{a:Ak}(h:ew m a)(e:eH m b):ew b a:=⟨by rw[e.R,e.B,e.M];exact h.k⟩
theorem iP.ly{m a:Mp}{of:Nat}{v:Ev}(h:iP (m.R*m.B*m.M) m.R of v)(e:eH m a):iP (a.R*a.B*a.M) a.R of v:=by rw[e.R,e.B,e.M];exact h
def nq(s:Le)(b a w:Nat)(x:Re):Le:=Ga (z3 s x) b a w
def gF(s:Le)(b a w:Nat)(x:Re):Le:=bif cY s.k.lp (dg s.k.t a).l w then qt (nq s b a w x) ⟨1,a⟩ else nq s b a w x
def fp(s:Le)(a b w:Nat)(x:Re):Le:=bif cY s.k.lr (s.k.F.getD a bh).l w then qt (gF s a b w x) ⟨2,a⟩ else gF s a b w x
theorem Gb{s:Le}{K b a w:Nat}(x:Re)(h:cR s K)(e:b<s.r.m.R)(d:a<s.r.m.R*s.r.m.B*s.r.m.M)(f:K+3≤1000000000):cR (gF s b a w x) (K+2):=by
 have c:=z4 (vZ h x Om) a w e;unfold gF;cases cY s.k.lp (dg s.k.t a).l w
 ·exact c.mono Om
 ·exact(v5 c ⟨.inl ⟨rfl,d⟩⟩ Om).mono Om
theorem v8(s:Le)(b a w:Nat)(x:Re):eH s.r.m (gF s b a w x).r.m:=by
 unfold gF;cases cY s.k.lp (dg s.k.t a).l w
 ·exact eH.rfl' _
 ·exact v7 (nq s b a w x) _
theorem Gc{s:Le}{K a b w:Nat}(x:Re)(h:cR s K)(d:a<s.r.m.R)(f:b<s.r.m.R*s.r.m.B*s.r.m.M)(e:K+3≤1000000000):cR (fp s a b w x) (K+3):=by
 have c:=Gb (w:=w) x h d f e;unfold fp;cases cY s.k.lr (s.k.F.getD a bh).l w
 ·exact c.mono Om
 ·exact(v5 c ⟨.inr ⟨rfl,by rw[(v8 s a b w x).R];exact d⟩⟩ Om).mono Om
theorem Gd(s:Le)(a b w:Nat)(x:Re):eH s.r.m (fp s a b w x).r.m:=by
 unfold fp;cases cY s.k.lr (s.k.F.getD a bh).l w
 ·exact v8 ..
 ·exact(v8 s a b w x).tr (v7 _ _)
structure Nt where
 k:Nat
 v:Nat
 f:Nat
 i:Nat
 h:Nat
 r:Nat
def dD(heavy:Nat)(s:Le)(n:Nt):Le:=if n.v=0 then s else if n.v=1 then fp s n.r n.h 1 ⟨0,s.time,1,n.i,n.f⟩ else if n.v=2 then z3 s ⟨0,s.time,2,n.i,1⟩ else fp s n.r n.h heavy ⟨0,s.time,2,n.i,0⟩
theorem Tg(heavy:Nat)(s:Le)(n:Nt):eH s.r.m (dD heavy s n).r.m:=by
 unfold dD
 split
 ·exact eH.rfl' _
 split
 ·exact Gd ..
 split
 ·exact eH.rfl' _
 ·exact Gd ..
theorem Th{heavy K:Nat}{s:Le}{n:Nt}(h:cR s K)(c:n.r<s.r.m.R)(b:n.h<s.r.m.R*s.r.m.B*s.r.m.M)(a:K+3≤1000000000):cR (dD heavy s n) (K+3):=by
 unfold dD
 split
 ·exact h.mono Om
 split
 ·exact Gc _ h c b a
 split
 ·exact(vZ h _ Om).mono Om
 ·exact Gc _ h c b a
def iz(s:Le):Le:=Yy s.r.j.A (v3 s (fo s.r).1) (fo s.r).2
theorem Ti{s:Le}{K:Nat}(h:cR s K)(c:s.r.j.A≠0)(d:s.r.j.nx<gD s.r.j.A s.r.m.B s.r.m.M s.r.m.C)(g:K+257≤1000000000):cR (iz s) (K+257):=by
 obtain⟨a,e,f⟩:=F8 h.r c d;have b:cR (v3 s (fo s.r).1) K:=⟨a,h.k,h.g,h.n,h.rk.trans (vY s.r).R.symm⟩;exact(F9 b _ (fo s.r).2 Om).mono Om
theorem Tj(s:Le):eH s.r.m (iz s).r.m:=vY s.r
def Ge(s:Le):Le:={s with k:=mJ s.k,time:=s.time+1}
def Gf(s:Le):Le:={s with g:=nm s.g}
theorem Tl{s:Le}{K:Nat}(h:cR s K):cR (Ge s) K:=⟨h.r,h.k.tick,h.g,h.n,(S7 _).trans h.rk⟩
theorem Tm{s:Le}{K:Nat}(h:cR s K):cR (Gf s) K:=⟨h.r,h.k,h.g.clear,h.n,h.rk⟩
end
theorem Tn(j h f e l m n:Nat)(c:Cf)(time:Nat)(r:Rp)(o:Yo r)(k:Tk)(s:dS k)(g:Lg)(q:fT g)(of:Nat)(v:Ev)(hv:iP (r.m.R*r.m.B*r.m.M) r.m.R of v)(t:k.F.length=r.m.R):aa YU 213 #[pt j 0,iN of,.agg #[iN v.k,iN v.f,iN v.t]] [ob j (lA c h f e time) 122,pk (au h l m r),pk (aF f n k),pk (aB e g)] [1,2,3] (λ_=>[pk (au h l m r),pk (aF f n (gy of k v)),pk (aB e (bY g (iO r.m of time v)))]) (λ_=> .tuple #[]):=by
 have u:=o.m.O.bd.r8;obtain⟨w,a,b⟩:=v;obtain⟨hv⟩:=hv;simp only at hv;rcases hv with⟨rfl,p,d,i⟩ | ⟨rfl,p,d,i⟩ | ⟨rfl,p,d,i⟩ | ⟨rfl,p,d,i⟩
 ·rcases d with rfl | rfl
  ·rw[show iO r.m 1 time ⟨3,a,b⟩=⟨0,time,3,bB r.m a*64,bB r.m b*64⟩ by simp [iO,og],show gy 1 k ⟨3,a,b⟩=k by simp [gy]];exact SR j h f e l m n c time r o k s g q a b p i
  ·rw[show iO r.m 1 time ⟨6,a,b⟩=⟨0,time,6,bB r.m a*64,bB r.m b*64⟩ by simp [iO,og],show gy 1 k ⟨6,a,b⟩=qo k a by simp [gy]];exact SU j h f e l m n c time r o k s g q a b p i
 ·subst d;subst i;rw[show iO r.m 1 time ⟨5,a,0⟩=⟨0,time,5,bB r.m a*64,0⟩ by simp [iO,og],show gy 1 k ⟨5,a,0⟩=k by simp [gy]];exact SS j h f e l m n c time r o k s g q a p
 ·rcases d with rfl | rfl
  ·rw[show iO r.m 2 time ⟨4,a,b⟩=⟨0,time,4,a*1048576,b*1048576⟩ by simp [iO,og],show gy 2 k ⟨4,a,b⟩=k by simp [gy]];exact SV j h f e l m n c time r o k s g q a b Om i
  ·rw[show iO r.m 2 time ⟨6,a,b⟩=⟨0,time,6,a*1048576,b*1048576⟩ by simp [iO,og],show gy 2 k ⟨6,a,b⟩=pd k a by simp [gy]];exact SX j h f e l m n c time r o k s g q a b Om i Om
 ·subst d;subst i;rw[show iO r.m 2 time ⟨5,a,1⟩=⟨0,time,5,a*1048576,1⟩ by simp [iO,og],show gy 2 k ⟨5,a,1⟩=k by simp [gy]];exact SW j h f e l m n c time r o k s g q a Om
theorem iP.tb{np n of:Nat}{v:Ev}(h:iP np n of v)(a:np≤4096):v.t<4096:=by
 obtain⟨h⟩:=h;omega
theorem pn(m d b a n o j:Nat)(c:Cf)(time:Nat)(r:Rp)(I:Yo r)(k:Tk)(R:dS k)(g:Lg)(Q:fT g)(of:Nat)(v:Value)(l:List Ev)(V:l.length≤300)(T:g.next+l.length≤1000000000)(P: ∀e∈l,iP (r.m.R*r.m.B*r.m.M) r.m.R (fU of e) e)(G:k.F.length=r.m.R):aa YU 166 #[pt m 0,iN of,v] [ob m (lA c d b a time) 122,pk (au d n o r),pk (aF b j k),pk (aB a g),.p (aP zG v l)] [1,2,3] (λ_=>[pk (au d n o r),pk (aF b j (fc of k l)),pk (aB a (eG r.m of time g l))]) (λ_=> .tuple #[]):=by
 refine fO Tryz.func166 4 rfl λh x=>fG Tryz.func166 λw cs=>r0 [(1,eD x.1 4)] [(9,v),(10,iN l.length),(11,i6 0)] [] ?_;refine lq (λi=>i≤l.length) (λi=>[(11,iN i)]) (λi L=>(L.set 2 ((pk (aF b j (fc of k (l.take i)))))).set 3 ((pk (aB a (eG r.m of time g (l.take i)))))) (λi=>l.length-i) 0 Om Kr (by rw[Zo];kernel_rfl) (λi S=>?_);have K:=zY of (l.take i) R;have M:(l.take i).length≤l.length:=by rw[YZ];omega
 have J:=z0 r.m of time (l.take i) Q Om;have B:=(zZ of (l.take i) k).trans G;refine r0 [] [(12,.bool (decide ((i:Int)<(l.length:Int))))] [] ?_;refine cc (i:Int) (l.length:Int) (λO C=>?_) λO C=>?_
 ·have H:=(oe cG).2 P i Om;have N:=H.tb I.m.np;refine rr (λ_=>[(0,fh x.1 4 i 3),(1,m7 jg x.1 4 i 0 3),(3,.s 5)]) (λy=>[(7,pt (B2 y) 0)]) [] (λy L=>L++[ob (B2 y) #[iN ((l.getD i cG).k),iN ((l.getD i cG).f),iN ((l.getD i cG).t)] 349]) λy=>r0 [] [(8,iN of)] [] (r0 [(1,.l 5)] [(17,iN ((l.getD i cG).k))] [] (r0 [] [(18,.bool ((((l.getD i cG).k:Nat):Int)==3))] [] ?_));refine cJ ((((l.getD i cG).k:Nat):Int)==3) (λc=>[(8,iN (bif c then 1 else(bif (((l.getD i cG).k:Nat):Int)==4 then 2 else(bif (((l.getD i cG).k:Nat):Int)==5 then 1+((l.getD i cG).t) else of))))]) (λ_=>[ob m (lA c d b a time) 122,pk (au d n o r),pk (aF b j (fc of k (l.take i))),pk (aB a (eG r.m of time g (l.take i))),.c h,ob (B2 y) #[iN ((l.getD i cG).k),iN ((l.getD i cG).f),iN ((l.getD i cG).t)] 349]) (λF=>?_) (λF=>?_) ?_
  ·have D:=eq_of_beq F;refine r0 [] [(8,i6 1)] [8] ?_;exact cm Kr [0,1,2,3,4,5] Kr
  ·have D:=ne_of_beq_false F;refine r0 [] [(20,.bool ((((l.getD i cG).k:Nat):Int)==4))] [] ?_;refine cJ ((((l.getD i cG).k:Nat):Int)==4) (λc=>[(8,iN (bif c then 2 else(bif (((l.getD i cG).k:Nat):Int)==5 then 1+((l.getD i cG).t) else of)))]) (λ_=>[ob m (lA c d b a time) 122,pk (au d n o r),pk (aF b j (fc of k (l.take i))),pk (aB a (eG r.m of time g (l.take i))),.c h,ob (B2 y) #[iN ((l.getD i cG).k),iN ((l.getD i cG).f),iN ((l.getD i cG).t)] 349]) (λq=>?_) (λq=>?_) ?_
   ·have z:=eq_of_beq q;refine r0 [] [(8,i6 2)] [8] ?_;exact cm Kr [0,1,2,3,4,5] Kr
   ·have z:=ne_of_beq_false q;refine r0 [] [(22,.bool ((((l.getD i cG).k:Nat):Int)==5))] [] ?_;refine cJ ((((l.getD i cG).k:Nat):Int)==5) (λc=>[(8,iN (bif c then 1+((l.getD i cG).t) else of))]) (λ_=>[ob m (lA c d b a time) 122,pk (au d n o r),pk (aF b j (fc of k (l.take i))),pk (aB a (eG r.m of time g (l.take i))),.c h,ob (B2 y) #[iN ((l.getD i cG).k),iN ((l.getD i cG).f),iN ((l.getD i cG).t)] 349]) (λu=>?_) (λu=>?_) ?_
    ·have A:=eq_of_beq u;refine r0 [(1,.l 5),(2,ad 1 ((l.getD i cG).t))] [(8,iN (1+((l.getD i cG).t)))] [8] ?_;exact cm Kr [0,1,2,3,4,5] Kr
    ·have A:=ne_of_beq_false u;exact cm Kr [0,1,2,3,4,5] Kr
    exact cm Kr [0,1,2,3,4,5] Kr
   exact cm Kr [0,1,2,3,4,5] Kr
  exact rr (λ_=>[(1,.t (tk (show iN (bif (((l.getD i cG).k:Nat):Int)==3 then 1 else(bif (((l.getD i cG).k:Nat):Int)==4 then 2 else(bif (((l.getD i cG).k:Nat):Int)==5 then 1+((l.getD i cG).t) else of)))=iN (fU of (l.getD i cG)) from ALca (Value.int .i64) (Tf of (l.getD i cG))))),(2,.l 5),(3,.c [0,1,2,3] [1,2,3] (Tn m d b a n o j c time r I (fc of k (l.take i)) K (eG r.m of time g (l.take i)) J (fU of (l.getD i cG)) (l.getD i cG) H B))]) N0 [] (λ_ L=>(L.set 2 ((pk (aF b j (gy (fU of (l.getD i cG)) (fc of k (l.take i)) (l.getD i cG)))))).set 3 ((pk (aB a (bY (eG r.m of time g (l.take i)) (iO r.m (fU of (l.getD i cG)) time (l.getD i cG))))))) λU=>r0 [(0,ad i 1)] [(11,iN (i+1))] [11] (le (i+1) Om Om Kr [0,1,2,3,4] (by rw[Ta Om,Tc Om];kernel_rfl))
 obtain rfl:i=l.length:=by omega
 refine cl [ob m (lA c d b a time) 122,pk (au d n o r),pk (aF b j (fc of k l)),pk (aB a (eG r.m of time g l)),.c h] (by rw[ZF];kernel_rfl) (lx ?_);exact eo ab.zero [1,2,3] [(0,0),(4,4)] []
theorem To(q d b j n o p:Nat)(c:Cf)(s:Le)(K:Nat)(hs:cR s K)(hK:K+3≤1000000000)(Y:c.I≤65536)(i h a f:Nat)(A:a<s.r.m.R)(V:h<s.r.m.R*s.r.m.B*s.r.m.M):aa YU 163 #[pt q 0,.agg #[i6 1,i6 1,iN f,iN i,iN h,iN a]] [ob q (lA c d b j s.time) 122,pk (au d n o s.r),pk (aF b p s.k),pk (aB j s.g)] [1,2,3] (λ_=>[pk (au d n o (fp s a h (1) ⟨0,s.time,1,i,f⟩).r),pk (aF b p (fp s a h (1) ⟨0,s.time,1,i,f⟩).k),pk (aB j (fp s a h (1) ⟨0,s.time,1,i,f⟩).g)]) (λ_=> .tuple #[]):=by
 have N:=hs.rk;have X:=hs.n;have U:=vZ hs ⟨0,s.time,1,i,f⟩ Om;have z:=z4 U h (1) A;have H:ew (nq s a h (1) ⟨0,s.time,1,i,f⟩).r.m ⟨1,h⟩:=⟨.inl ⟨rfl,V⟩⟩;have I:ew (nq s a h (1) ⟨0,s.time,1,i,f⟩).r.m ⟨2,a⟩:=⟨.inr ⟨rfl,A⟩⟩;have O:=pj z H;have R:=qq z.r H 1;have Z:=ph s.r ⟨1,h⟩;have F:=v5 z H Om;have P:=pj z I;have S:=qq z.r I 2;have l5:=ph s.r ⟨2,a⟩;have M:ew (qt (nq s a h (1) ⟨0,s.time,1,i,f⟩) ⟨1,h⟩).r.m ⟨2,a⟩:=I.ly (v7 _ _);have Q:=pj F M;have T:=qq F.r M 2;have l6:=ph (br s.r ⟨1,h⟩) ⟨2,a⟩;have y3:=oh s.r ⟨1,h⟩;have y5:=oh s.r ⟨2,a⟩;have y6:=oh (br s.r ⟨1,h⟩) ⟨2,a⟩;have n3:(bY s.g ⟨0,s.time,1,i,f⟩).next+(bW s.r ⟨1,h⟩).length≤1000000000:=by rw[mL];omega
 have n5:(bY s.g ⟨0,s.time,1,i,f⟩).next+(bW s.r ⟨2,a⟩).length≤1000000000:=by rw[mL];omega
 have n6:(eG (br s.r ⟨1,h⟩).m 1 s.time (bY s.g ⟨0,s.time,1,i,f⟩) (bW s.r ⟨1,h⟩)).next+(bW (br s.r ⟨1,h⟩) ⟨2,a⟩).length≤1000000000:=by rw[vX,mL];omega
 have W:=A;refine fG Tryz.func163 λw cs=>ra (λD=>[(3,pt (B0 D) 0)]) (λD=>[ob (B0 D) #[i6 1,i6 1,iN f,iN i,iN h,iN a] 81]) λD=>r0 [] [(4,i6 0)] [] (r0 [(2,.l 4)] [(9,i6 1)] [] (rF [] 20 (rT [] 22 (r0 [] [(4,i6 1)] [4] (rs [(2,.l 4),(5,.l 4),(6,.c [0,3] [3] (nn q d b j c s.time s.g hs.g 1 i f))] 3 ((pk (aB j (bY s.g ⟨0,s.time,1,i,f⟩)))) (rr (λ_=>[(0,.v (pt q 0)),(1,.v (pt q 0)),(2,.v (pt q 17)),(3,.m (ld 0 (pt b 0))),(4,.v (pt (B0 D) 5)),(5,.m (ld 4 (iN a))),(6,.v (pt (B0 D) 4)),(7,.m (ld 4 (iN h))),(8,.v (i6 1)),(9,.c [2] [2] (FR b p s.k hs.k a h 1 (by rw[N];exact A) Om)),(10,.v (.tuple #[.agg #[.bool (cY s.k.lr ((s.k.F.getD a bh).l) 1),.bool (cY s.k.lp ((dg s.k.t h).l) 1)],i6 0])),(11,.v (.agg #[.bool (cY s.k.lr ((s.k.F.getD a bh).l) 1),.bool (cY s.k.lp ((dg s.k.t h).l) 1)])),(12,.v (i6 0)),(13,.m (al 5)),(14,.s 5),(15,.v (i6 0))]) (λJ=>[(5,pt ((J 13).y 0) 0)]) [] (λJ L=>L.set 2 ((pk (aF b p (fy s.k a h 1))))++[ob ((J 13).y 0) #[.bool (cY s.k.lr ((s.k.F.getD a bh).l) 1),.bool (cY s.k.lp ((dg s.k.t h).l) 1)] 339]) λJ=>r0 [(1,.l 5)] [(51,.bool (cY s.k.lp ((dg s.k.t h).l) 1))] [] ?_))))));refine cB (cY s.k.lp ((dg s.k.t h).l) 1) (λt=>?_) λt=>?_
 ·refine rr (λu=>[(4,.l 0),(6,.l 4),(8,.c [1] [1,6] (ql d n o s.r (by exact hs.r) (⟨1,h⟩:Ak) (by exact H))),(9,.c [0,1,2,3,6] [1,2,3] (aa.at (rd':=[ob q (lA c d b j s.time) 122,pk (au d n o (br s.r (⟨1,h⟩:Ak))),pk (aF b p (fy s.k a h 1)),pk (aB j (bY s.g ⟨0,s.time,1,i,f⟩)),bc ((u 8).val 0) (bW s.r (⟨1,h⟩:Ak))]) (pn q d b j n o p c s.time (br s.r (⟨1,h⟩:Ak)) (by exact O.r) (fy s.k a h 1) (by exact z.k) (bY s.g ⟨0,s.time,1,i,f⟩) (by exact z.g) 1 ((u 8).val 0) (bW s.r (⟨1,h⟩:Ak)) (by exact Y3 Z Dc) (by exact n3) (by exact λe G=>(R e G).ly y3) (by exact O.rk)) (atS (atS (atS (atS (bP (λ_ h=>ar.sq h) (λ_ h=>h))))))))]) N0 [] (λu L=>((L.set 1 ((pk (au d n o (br s.r (⟨1,h⟩:Ak)))))).set 2 ((pk (aF b p (fc 1 (fy s.k a h 1) (bW s.r (⟨1,h⟩:Ak))))))).set 3 ((pk (aB j (eG (br s.r (⟨1,h⟩:Ak)).m 1 s.time (bY s.g ⟨0,s.time,1,i,f⟩) (bW s.r (⟨1,h⟩:Ak))))))++[bc ((u 8).val 0) (bW s.r (⟨1,h⟩:Ak))]) λu=>r0 [(1,.l 5)] [(63,.bool (cY s.k.lr ((s.k.F.getD a bh).l) 1))] [] ?_;refine cB (cY s.k.lr ((s.k.F.getD a bh).l) 1) (λB=>?_) λB=>?_
  ·refine rr (λx=>[(4,.l 0),(6,.l 4),(8,.c [1] [1,7] (ql d n o (br s.r (⟨1,h⟩:Ak)) (by exact F.r) (⟨2,a⟩:Ak) (by exact M))),(9,.c [0,1,2,3,7] [1,2,3] (aa.at (rd':=[ob q (lA c d b j s.time) 122,pk (au d n o (br (br s.r (⟨1,h⟩:Ak)) (⟨2,a⟩:Ak))),pk (aF b p (fc 1 (fy s.k a h 1) (bW s.r (⟨1,h⟩:Ak)))),pk (aB j (eG (br s.r (⟨1,h⟩:Ak)).m 1 s.time (bY s.g ⟨0,s.time,1,i,f⟩) (bW s.r (⟨1,h⟩:Ak)))),bc ((x 8).val 0) (bW (br s.r (⟨1,h⟩:Ak)) (⟨2,a⟩:Ak))]) (pn q d b j n o p c s.time (br (br s.r (⟨1,h⟩:Ak)) (⟨2,a⟩:Ak)) (by exact Q.r) (fc 1 (fy s.k a h 1) (bW s.r (⟨1,h⟩:Ak))) (by exact F.k) (eG (br s.r (⟨1,h⟩:Ak)).m 1 s.time (bY s.g ⟨0,s.time,1,i,f⟩) (bW s.r (⟨1,h⟩:Ak))) (by exact F.g) 2 ((x 8).val 0) (bW (br s.r (⟨1,h⟩:Ak)) (⟨2,a⟩:Ak)) (by exact Y3 l6 Dc) (by exact n6) (by exact λe G=>(T e G).ly y6) (by exact Q.rk)) (atS (atS (atS (atS (bP (λ_ h=>ar.sq h) (λ_ h=>h))))))))]) N0 [] (λx L=>((L.set 1 ((pk (au d n o (br (br s.r (⟨1,h⟩:Ak)) (⟨2,a⟩:Ak)))))).set 2 ((pk (aF b p (fc 2 (fc 1 (fy s.k a h 1) (bW s.r (⟨1,h⟩:Ak))) (bW (br s.r (⟨1,h⟩:Ak)) (⟨2,a⟩:Ak))))))).set 3 ((pk (aB j (eG (br (br s.r (⟨1,h⟩:Ak)) (⟨2,a⟩:Ak)).m 2 s.time (eG (br s.r (⟨1,h⟩:Ak)).m 1 s.time (bY s.g ⟨0,s.time,1,i,f⟩) (bW s.r (⟨1,h⟩:Ak))) (bW (br s.r (⟨1,h⟩:Ak)) (⟨2,a⟩:Ak))))))++[bc ((x 8).val 0) (bW (br s.r (⟨1,h⟩:Ak)) (⟨2,a⟩:Ak))]) λx=>?_;exact eo ab.zero [1,2,3] [(0,0)] [] (hf:=by unfold fp gF;(repeat (first | rw[t] | rw[B] | rw[ALct]));kernel_rfl)
  exact eo ab.zero [1,2,3] [(0,0)] [] (hf:=by unfold fp gF;(repeat (first | rw[t] | rw[B] | rw[ALct] | rw[ALcf]));kernel_rfl)
 refine r0 [(1,.l 5)] [(63,.bool (cY s.k.lr ((s.k.F.getD a bh).l) 1))] [] ?_;refine cB (cY s.k.lr ((s.k.F.getD a bh).l) 1) (λC=>?_) λC=>?_
 ·refine rr (λy=>[(4,.l 0),(6,.l 4),(8,.c [1] [1,6] (ql d n o s.r (by exact hs.r) (⟨2,a⟩:Ak) (by exact I))),(9,.c [0,1,2,3,6] [1,2,3] (aa.at (rd':=[ob q (lA c d b j s.time) 122,pk (au d n o (br s.r (⟨2,a⟩:Ak))),pk (aF b p (fy s.k a h 1)),pk (aB j (bY s.g ⟨0,s.time,1,i,f⟩)),bc ((y 8).val 0) (bW s.r (⟨2,a⟩:Ak))]) (pn q d b j n o p c s.time (br s.r (⟨2,a⟩:Ak)) (by exact P.r) (fy s.k a h 1) (by exact z.k) (bY s.g ⟨0,s.time,1,i,f⟩) (by exact z.g) 2 ((y 8).val 0) (bW s.r (⟨2,a⟩:Ak)) (by exact Y3 l5 Dc) (by exact n5) (by exact λe G=>(S e G).ly y5) (by exact P.rk)) (atS (atS (atS (atS (bP (λ_ h=>ar.sq h) (λ_ h=>h))))))))]) N0 [] (λy L=>((L.set 1 ((pk (au d n o (br s.r (⟨2,a⟩:Ak)))))).set 2 ((pk (aF b p (fc 2 (fy s.k a h 1) (bW s.r (⟨2,a⟩:Ak))))))).set 3 ((pk (aB j (eG (br s.r (⟨2,a⟩:Ak)).m 2 s.time (bY s.g ⟨0,s.time,1,i,f⟩) (bW s.r (⟨2,a⟩:Ak))))))++[bc ((y 8).val 0) (bW s.r (⟨2,a⟩:Ak))]) λy=>?_;exact eo ab.zero [1,2,3] [(0,0)] [] (hf:=by unfold fp gF;(repeat (first | rw[t] | rw[C] | rw[ALct] | rw[ALcf]));kernel_rfl)
 exact eo ab.zero [1,2,3] [(0,0)] [] (hf:=by unfold fp gF;(repeat (first | rw[t] | rw[C] | rw[ALcf]));kernel_rfl)
theorem Tp(q d b j n o p:Nat)(c:Cf)(s:Le)(K:Nat)(hs:cR s K)(hK:K+3≤1000000000)(Y:c.I≤65536)(i h a f:Nat)(A:a<s.r.m.R)(V:h<s.r.m.R*s.r.m.B*s.r.m.M):aa YU 163 #[pt q 0,.agg #[i6 1,i6 3,iN f,iN i,iN h,iN a]] [ob q (lA c d b j s.time) 122,pk (au d n o s.r),pk (aF b p s.k),pk (aB j s.g)] [1,2,3] (λ_=>[pk (au d n o (fp s a h (c.I) ⟨0,s.time,2,i,0⟩).r),pk (aF b p (fp s a h (c.I) ⟨0,s.time,2,i,0⟩).k),pk (aB j (fp s a h (c.I) ⟨0,s.time,2,i,0⟩).g)]) (λ_=> .tuple #[]):=by
 have N:=hs.rk;have X:=hs.n;have U:=vZ hs ⟨0,s.time,2,i,0⟩ Om;have z:=z4 U h (c.I) A;have H:ew (nq s a h (c.I) ⟨0,s.time,2,i,0⟩).r.m ⟨1,h⟩:=⟨.inl ⟨rfl,V⟩⟩;have I:ew (nq s a h (c.I) ⟨0,s.time,2,i,0⟩).r.m ⟨2,a⟩:=⟨.inr ⟨rfl,A⟩⟩;have O:=pj z H;have R:=qq z.r H 1;have Z:=ph s.r ⟨1,h⟩;have F:=v5 z H Om;have P:=pj z I;have S:=qq z.r I 2;have l5:=ph s.r ⟨2,a⟩;have M:ew (qt (nq s a h (c.I) ⟨0,s.time,2,i,0⟩) ⟨1,h⟩).r.m ⟨2,a⟩:=I.ly (v7 _ _);have Q:=pj F M;have T:=qq F.r M 2;have l6:=ph (br s.r ⟨1,h⟩) ⟨2,a⟩;have y3:=oh s.r ⟨1,h⟩;have y5:=oh s.r ⟨2,a⟩;have y6:=oh (br s.r ⟨1,h⟩) ⟨2,a⟩;have n3:(bY s.g ⟨0,s.time,2,i,0⟩).next+(bW s.r ⟨1,h⟩).length≤1000000000:=by rw[mL];omega
 have n5:(bY s.g ⟨0,s.time,2,i,0⟩).next+(bW s.r ⟨2,a⟩).length≤1000000000:=by rw[mL];omega
 have n6:(eG (br s.r ⟨1,h⟩).m 1 s.time (bY s.g ⟨0,s.time,2,i,0⟩) (bW s.r ⟨1,h⟩)).next+(bW (br s.r ⟨1,h⟩) ⟨2,a⟩).length≤1000000000:=by rw[vX,mL];omega
 have W:=A;refine fG Tryz.func163 λw cs=>ra (λD=>[(3,pt (B0 D) 0)]) (λD=>[ob (B0 D) #[i6 1,i6 3,iN f,iN i,iN h,iN a] 81]) λD=>r0 [] [(4,i6 0)] [] (r0 [(2,.l 4)] [(9,i6 3)] [] (rF [] 20 (rF [] 22 (rF [] 31 (r0 [(5,.l 0)] [(4,iN c.I)] [4] (rs [(2,.l 4),(3,.c [0,3] [3] (nn q d b j c s.time s.g hs.g 2 i 0))] 3 ((pk (aB j (bY s.g ⟨0,s.time,2,i,0⟩)))) (rr (λ_=>[(0,.v (pt q 0)),(1,.v (pt q 0)),(2,.v (pt q 17)),(3,.m (ld 0 (pt b 0))),(4,.v (pt (B0 D) 5)),(5,.m (ld 4 (iN a))),(6,.v (pt (B0 D) 4)),(7,.m (ld 4 (iN h))),(8,.v (iN c.I)),(9,.c [2] [2] (FR b p s.k hs.k a h c.I (by rw[N];exact A) Om)),(10,.v (.tuple #[.agg #[.bool (cY s.k.lr ((s.k.F.getD a bh).l) c.I),.bool (cY s.k.lp ((dg s.k.t h).l) c.I)],i6 0])),(11,.v (.agg #[.bool (cY s.k.lr ((s.k.F.getD a bh).l) c.I),.bool (cY s.k.lp ((dg s.k.t h).l) c.I)])),(12,.v (i6 0)),(13,.m (al 5)),(14,.s 5),(15,.v (i6 0))]) (λJ=>[(5,pt ((J 13).y 0) 0)]) [] (λJ L=>L.set 2 ((pk (aF b p (fy s.k a h c.I))))++[ob ((J 13).y 0) #[.bool (cY s.k.lr ((s.k.F.getD a bh).l) c.I),.bool (cY s.k.lp ((dg s.k.t h).l) c.I)] 339]) λJ=>r0 [(1,.l 5)] [(51,.bool (cY s.k.lp ((dg s.k.t h).l) c.I))] [] ?_)))))));refine cB (cY s.k.lp ((dg s.k.t h).l) c.I) (λt=>?_) λt=>?_
 ·refine rr (λu=>[(4,.l 0),(6,.l 4),(8,.c [1] [1,6] (ql d n o s.r (by exact hs.r) (⟨1,h⟩:Ak) (by exact H))),(9,.c [0,1,2,3,6] [1,2,3] (aa.at (rd':=[ob q (lA c d b j s.time) 122,pk (au d n o (br s.r (⟨1,h⟩:Ak))),pk (aF b p (fy s.k a h c.I)),pk (aB j (bY s.g ⟨0,s.time,2,i,0⟩)),bc ((u 8).val 0) (bW s.r (⟨1,h⟩:Ak))]) (pn q d b j n o p c s.time (br s.r (⟨1,h⟩:Ak)) (by exact O.r) (fy s.k a h c.I) (by exact z.k) (bY s.g ⟨0,s.time,2,i,0⟩) (by exact z.g) 1 ((u 8).val 0) (bW s.r (⟨1,h⟩:Ak)) (by exact Y3 Z Dc) (by exact n3) (by exact λe G=>(R e G).ly y3) (by exact O.rk)) (atS (atS (atS (atS (bP (λ_ h=>ar.sq h) (λ_ h=>h))))))))]) N0 [] (λu L=>((L.set 1 ((pk (au d n o (br s.r (⟨1,h⟩:Ak)))))).set 2 ((pk (aF b p (fc 1 (fy s.k a h c.I) (bW s.r (⟨1,h⟩:Ak))))))).set 3 ((pk (aB j (eG (br s.r (⟨1,h⟩:Ak)).m 1 s.time (bY s.g ⟨0,s.time,2,i,0⟩) (bW s.r (⟨1,h⟩:Ak))))))++[bc ((u 8).val 0) (bW s.r (⟨1,h⟩:Ak))]) λu=>r0 [(1,.l 5)] [(63,.bool (cY s.k.lr ((s.k.F.getD a bh).l) c.I))] [] ?_;refine cB (cY s.k.lr ((s.k.F.getD a bh).l) c.I) (λB=>?_) λB=>?_
  ·refine rr (λx=>[(4,.l 0),(6,.l 4),(8,.c [1] [1,7] (ql d n o (br s.r (⟨1,h⟩:Ak)) (by exact F.r) (⟨2,a⟩:Ak) (by exact M))),(9,.c [0,1,2,3,7] [1,2,3] (aa.at (rd':=[ob q (lA c d b j s.time) 122,pk (au d n o (br (br s.r (⟨1,h⟩:Ak)) (⟨2,a⟩:Ak))),pk (aF b p (fc 1 (fy s.k a h c.I) (bW s.r (⟨1,h⟩:Ak)))),pk (aB j (eG (br s.r (⟨1,h⟩:Ak)).m 1 s.time (bY s.g ⟨0,s.time,2,i,0⟩) (bW s.r (⟨1,h⟩:Ak)))),bc ((x 8).val 0) (bW (br s.r (⟨1,h⟩:Ak)) (⟨2,a⟩:Ak))]) (pn q d b j n o p c s.time (br (br s.r (⟨1,h⟩:Ak)) (⟨2,a⟩:Ak)) (by exact Q.r) (fc 1 (fy s.k a h c.I) (bW s.r (⟨1,h⟩:Ak))) (by exact F.k) (eG (br s.r (⟨1,h⟩:Ak)).m 1 s.time (bY s.g ⟨0,s.time,2,i,0⟩) (bW s.r (⟨1,h⟩:Ak))) (by exact F.g) 2 ((x 8).val 0) (bW (br s.r (⟨1,h⟩:Ak)) (⟨2,a⟩:Ak)) (by exact Y3 l6 Dc) (by exact n6) (by exact λe G=>(T e G).ly y6) (by exact Q.rk)) (atS (atS (atS (atS (bP (λ_ h=>ar.sq h) (λ_ h=>h))))))))]) N0 [] (λx L=>((L.set 1 ((pk (au d n o (br (br s.r (⟨1,h⟩:Ak)) (⟨2,a⟩:Ak)))))).set 2 ((pk (aF b p (fc 2 (fc 1 (fy s.k a h c.I) (bW s.r (⟨1,h⟩:Ak))) (bW (br s.r (⟨1,h⟩:Ak)) (⟨2,a⟩:Ak))))))).set 3 ((pk (aB j (eG (br (br s.r (⟨1,h⟩:Ak)) (⟨2,a⟩:Ak)).m 2 s.time (eG (br s.r (⟨1,h⟩:Ak)).m 1 s.time (bY s.g ⟨0,s.time,2,i,0⟩) (bW s.r (⟨1,h⟩:Ak))) (bW (br s.r (⟨1,h⟩:Ak)) (⟨2,a⟩:Ak))))))++[bc ((x 8).val 0) (bW (br s.r (⟨1,h⟩:Ak)) (⟨2,a⟩:Ak))]) λx=>?_;exact eo ab.zero [1,2,3] [(0,0)] [] (hf:=by unfold fp gF;(repeat (first | rw[t] | rw[B] | rw[ALct]));kernel_rfl)
  exact eo ab.zero [1,2,3] [(0,0)] [] (hf:=by unfold fp gF;(repeat (first | rw[t] | rw[B] | rw[ALct] | rw[ALcf]));kernel_rfl)
 refine r0 [(1,.l 5)] [(63,.bool (cY s.k.lr ((s.k.F.getD a bh).l) c.I))] [] ?_;refine cB (cY s.k.lr ((s.k.F.getD a bh).l) c.I) (λC=>?_) λC=>?_
 ·refine rr (λy=>[(4,.l 0),(6,.l 4),(8,.c [1] [1,6] (ql d n o s.r (by exact hs.r) (⟨2,a⟩:Ak) (by exact I))),(9,.c [0,1,2,3,6] [1,2,3] (aa.at (rd':=[ob q (lA c d b j s.time) 122,pk (au d n o (br s.r (⟨2,a⟩:Ak))),pk (aF b p (fy s.k a h c.I)),pk (aB j (bY s.g ⟨0,s.time,2,i,0⟩)),bc ((y 8).val 0) (bW s.r (⟨2,a⟩:Ak))]) (pn q d b j n o p c s.time (br s.r (⟨2,a⟩:Ak)) (by exact P.r) (fy s.k a h c.I) (by exact z.k) (bY s.g ⟨0,s.time,2,i,0⟩) (by exact z.g) 2 ((y 8).val 0) (bW s.r (⟨2,a⟩:Ak)) (by exact Y3 l5 Dc) (by exact n5) (by exact λe G=>(S e G).ly y5) (by exact P.rk)) (atS (atS (atS (atS (bP (λ_ h=>ar.sq h) (λ_ h=>h))))))))]) N0 [] (λy L=>((L.set 1 ((pk (au d n o (br s.r (⟨2,a⟩:Ak)))))).set 2 ((pk (aF b p (fc 2 (fy s.k a h c.I) (bW s.r (⟨2,a⟩:Ak))))))).set 3 ((pk (aB j (eG (br s.r (⟨2,a⟩:Ak)).m 2 s.time (bY s.g ⟨0,s.time,2,i,0⟩) (bW s.r (⟨2,a⟩:Ak))))))++[bc ((y 8).val 0) (bW s.r (⟨2,a⟩:Ak))]) λy=>?_;exact eo ab.zero [1,2,3] [(0,0)] [] (hf:=by unfold fp gF;(repeat (first | rw[t] | rw[C] | rw[ALct] | rw[ALcf]));kernel_rfl)
 exact eo ab.zero [1,2,3] [(0,0)] [] (hf:=by unfold fp gF;(repeat (first | rw[t] | rw[C] | rw[ALcf]));kernel_rfl)
theorem Tq(g e d b j k m:Nat)(c:Cf)(s:Le)(K:Nat)(hs:cR s K)(i h n f:Nat):aa YU 163 #[pt g 0,.agg #[i6 1,i6 0,iN f,iN i,iN h,iN n]] [ob g (lA c e d b s.time) 122,pk (au e j k s.r),pk (aF d m s.k),pk (aB b s.g)] [1,2,3] (λ_=>[pk (au e j k s.r),pk (aF d m s.k),pk (aB b s.g)]) (λ_=> .tuple #[]):=by
 exact fG Tryz.func163 λw cs=>ra (λa=>[(3,pt (B0 a) 0)]) (λa=>[ob (B0 a) #[i6 1,i6 0,iN f,iN i,iN h,iN n] 81]) λa=>r0 [] [(4,i6 0)] [] (r0 [(2,.l 4)] [(9,i6 0)] [] (rT [] 20 (lf ab.zero [1,2,3] [(0,0)] [])))
theorem Tr(g d b a j k m:Nat)(c:Cf)(s:Le)(K:Nat)(hs:cR s K)(o:K+3≤1000000000)(i h n f:Nat):aa YU 163 #[pt g 0,.agg #[i6 1,i6 2,iN f,iN i,iN h,iN n]] [ob g (lA c d b a s.time) 122,pk (au d j k s.r),pk (aF b m s.k),pk (aB a s.g)] [1,2,3] (λ_=>[pk (au d j k s.r),pk (aF b m s.k),pk (aB a (bY s.g ⟨0,s.time,2,i,1⟩))]) (λ_=> .tuple #[]):=by
 exact fG Tryz.func163 λw cs=>ra (λe=>[(3,pt (B0 e) 0)]) (λe=>[ob (B0 e) #[i6 1,i6 2,iN f,iN i,iN h,iN n] 81]) λe=>r0 [] [(4,i6 0)] [] (r0 [(2,.l 4)] [(9,i6 2)] [] (rF [] 20 (rF [] 22 (rT [] 31 (rs [(2,.l 4),(3,.c [0,3] [3] (nn g d b a c s.time s.g hs.g 2 i 1))] 3 ((pk (aB a (bY s.g ⟨0,s.time,2,i,1⟩)))) (lf ab.zero [1,2,3] [(0,0)] []))))))
theorem Gg(m:Nat)(a:m=1∨m=2):aa YU 75 #[iN m] [] [] N0 (λ_=>iN (aT (m:Int))):=by
 rcases a with rfl | rfl
 ·exact u0
 ·exact u2
theorem Gh(m:Nat)(a:m=1∨m=2):aa YU 192 #[iN m] [] [] N0 (λ_=>iN (dB (m:Int))):=by
 rcases a with rfl | rfl
 ·exact yF
 ·exact yG
structure Fa where
 x0:Int
 x1:Int
 x2:Int
 x3:Int
 x4:Int
 x5:Int
 x6:Int
 x7:Int
def b7:Fa:=⟨0,0,0,0,0,0,0,0⟩
def po(x:Fa):List Value:=[i6 x.x0,i6 x.x1,i6 x.x2,i6 x.x3,i6 x.x4,i6 x.x5,i6 x.x6,i6 x.x7]
def lZ:Kd YU Fa:=⟨po,[i6 0,i6 0,i6 0,i6 0,i6 0,i6 0,i6 0,i6 0],93,48,b7,8,λ_=>rfl,rfl,λ_=>rfl,dT.mk' Kr Kr rfl⟩
abbrev dp(v:Value)(xs:List Fa):aC:= .p (ar po ([i6 0,i6 0,i6 0,i6 0,i6 0,i6 0,i6 0,i6 0]) 48 v xs)
theorem z5(i n:Int):aa YU 74 #[i6 i,i6 n] [] [] N0 (λ_=> .bool (bQ i n)):=by
 exact fG Tryz.func74 λw cs=>r0 [] [(4,.bool false)] [] (r0 [] [(4,.bool ((decide (0≤i))&&(decide (i<n))))] [4] (aq (.bool ((decide (0≤i))&&(decide (i<n)))) ab.zero ba [] [] []))
def kE(f:Fa):Bool:=(decide (2≤f.x0))&&(decide (f.x0≤5))
theorem Gi(f:Fa):aa YU 169 #[.agg #[i6 f.x0,i6 f.x1,i6 f.x2,i6 f.x3,i6 f.x4,i6 f.x5,i6 f.x6,i6 f.x7]] [] [] N0 (λ_=> .bool (kE f)):=by
 exact fG Tryz.func169 λw cs=>ra (λa=>[(1,pt (B0 a) 0),(2,.bool false)]) (λa=>[ob (B0 a) #[i6 f.x0,i6 f.x1,i6 f.x2,i6 f.x3,i6 f.x4,i6 f.x5,i6 f.x6,i6 f.x7] 48]) λa=>r0 [(1,.l 0),(5,.l 0)] [(2,.bool ((decide (2≤f.x0))&&(decide (f.x0≤5))))] [2] (aq (.bool ((decide (2≤f.x0))&&(decide (f.x0≤5)))) ab.zero ba [] [] [])
def l0(f:Fa)(a b c d:Int):Bool:=(bif (bif f.x0==1 then f.x0==1 else f.x0==2) then(a==f.x1&&(b==f.x2&&(c==f.x3&&(d==f.x4&&true)))) else(bif f.x0==3 then(a==f.x1&&(b==f.x2&&(c==f.x3&&(f.x4==f.x4&&true)))) else(bif f.x0==4 then(a==f.x1&&(b==f.x2&&(f.x3==f.x3&&(d==f.x4&&true)))) else(bif f.x0==5 then a==f.x1 else false))))
theorem Ts(f:Fa)(a b i j:Int):aa YU 69 #[.agg #[i6 f.x0,i6 f.x1,i6 f.x2,i6 f.x3,i6 f.x4,i6 f.x5,i6 f.x6,i6 f.x7],.agg #[i6 a,i6 b,i6 i,i6 j]] [] [] N0 (λ_=> .bool (l0 f a b i j)):=by
 refine fG Tryz.func69 λw cs=>ra (λg=>[(2,pt (B0 g) 0),(3,pt (B1 g) 0),(4,.bool false)]) (λg=>[ob (B0 g) #[i6 f.x0,i6 f.x1,i6 f.x2,i6 f.x3,i6 f.x4,i6 f.x5,i6 f.x6,i6 f.x7] 48,ob (B1 g) #[i6 a,i6 b,i6 i,i6 j] 46]) λg=>rr (λ_=>[(1,.l 0),(3,.s 2)]) (λq=>[(5,pt (B2 q) 0)]) [] (λq L=>L++[ob (B2 q) #[i6 f.x1,i6 f.x2,i6 f.x3,i6 f.x4] 46]) λq=>r0 [(1,.l 0)] [(9,i6 f.x0)] [] (r0 [] [(10,.bool (f.x0==1))] [] ?_);refine cJ (f.x0==1) (λc=>[(10,.bool (bif c then f.x0==1 else f.x0==2))]) (λ_=>[ob (B0 g) #[i6 f.x0,i6 f.x1,i6 f.x2,i6 f.x3,i6 f.x4,i6 f.x5,i6 f.x6,i6 f.x7] 48,ob (B1 g) #[i6 a,i6 b,i6 i,i6 j] 46,ob (B2 q) #[i6 f.x1,i6 f.x2,i6 f.x3,i6 f.x4] 46]) (λt=>?_) (λt=>?_) ?_
 ·have r:=eq_of_beq t;exact cm Kr [0,1,2] Kr
 ·have r:=ne_of_beq_false t;refine r0 [] [(10,.bool (f.x0==2))] [10] ?_;exact cm Kr [0,1,2] Kr
 refine cB ((bif f.x0==1 then f.x0==1 else f.x0==2)) (λm=>?_) λm=>?_
 ·exact r0 [(0,.l 1),(1,.l 2),(2,.e)] [(4,.bool (a==f.x1&&(b==f.x2&&(i==f.x3&&(j==f.x4&&true)))))] [4] (aq (.bool (a==f.x1&&(b==f.x2&&(i==f.x3&&(j==f.x4&&true))))) ab.zero (by((try simp only[l0]);(repeat (first | rw[m] | rw[ALct])))<;>rfl) [] [] [])
 refine r0 [] [(16,.bool (f.x0==3))] [] ?_;refine cE f.x0 3 (λd n=>?_) λd n=>?_
 ·exact rr (λ_=>[(1,.l 2),(3,.s 1)]) N0 [] (λ_ L=>L.set 1 (ob (B1 g) #[i6 a,i6 b,i6 i,i6 f.x4] 46)) λu=>r0 [(0,.l 1),(1,.l 2),(2,.e)] [(4,.bool (a==f.x1&&(b==f.x2&&(i==f.x3&&(f.x4==f.x4&&true)))))] [4] (aq (.bool (a==f.x1&&(b==f.x2&&(i==f.x3&&(f.x4==f.x4&&true))))) ab.zero (by((try simp only[l0]);(repeat (first | rw[m] | rw[d] | rw[ALct] | rw[ALcf])))<;>rfl) [] [] [])
 refine r0 [] [(24,.bool (f.x0==4))] [] ?_;refine cE f.x0 4 (λh o=>?_) λh o=>?_
 ·exact rr (λ_=>[(1,.l 2),(3,.s 1)]) N0 [] (λ_ L=>L.set 1 (ob (B1 g) #[i6 a,i6 b,i6 f.x3,i6 j] 46)) λv=>r0 [(0,.l 1),(1,.l 2),(2,.e)] [(4,.bool (a==f.x1&&(b==f.x2&&(f.x3==f.x3&&(j==f.x4&&true)))))] [4] (aq (.bool (a==f.x1&&(b==f.x2&&(f.x3==f.x3&&(j==f.x4&&true))))) ab.zero (by((try simp only[l0]);(repeat (first | rw[m] | rw[d] | rw[h] | rw[ALct] | rw[ALcf])))<;>rfl) [] [] [])
 refine r0 [] [(32,.bool (f.x0==5))] [] ?_;refine cE f.x0 5 (λk p=>?_) λk p=>?_
 ·exact r0 [(1,.l 1),(3,.l 2)] [(4,.bool (a==f.x1))] [4] (aq (.bool (a==f.x1)) ab.zero (by((try simp only[l0]);(repeat (first | rw[m] | rw[d] | rw[h] | rw[k] | rw[ALct] | rw[ALcf])))<;>rfl) [] [] [])
 exact r0 [] [(4,.bool false)] [4] (aq (.bool false) ab.zero (by((try simp only[l0]);(repeat (first | rw[m] | rw[d] | rw[h] | rw[k] | rw[ALcf])))<;>rfl) [] [] [])
def jh(f:Fa):Int:=(bif f.x0==1 then f.x1 else(bif f.x0==2 then f.x1 else(bif f.x0==3 then f.x1 else(bif f.x0==4 then f.x1 else(bif f.x0==5 then f.x1 else(bif f.x0==7 then 0 else f.x1))))))
def ji(f:Fa):Int:=(bif f.x0==1 then(bif f.x0==3 then f.x2 else(bif f.x0==4 then f.x2 else(bif f.x0==5 then 0 else f.x2))) else(bif f.x0==2 then(bif f.x0==3 then f.x2 else(bif f.x0==4 then f.x2 else(bif f.x0==5 then 0 else f.x2))) else(bif f.x0==3 then f.x2 else(bif f.x0==4 then f.x2 else(bif f.x0==5 then 0 else(bif f.x0==7 then 0 else f.x2))))))
def jj(f:Fa):Int:=(bif f.x0==1 then(bif f.x0==3 then f.x3 else(bif f.x0==4 then 0 else(bif f.x0==5 then 0 else f.x3))) else(bif f.x0==2 then(bif f.x0==3 then f.x3 else(bif f.x0==4 then 0 else(bif f.x0==5 then 0 else f.x3))) else(bif f.x0==3 then f.x3 else(bif f.x0==4 then 0 else(bif f.x0==5 then 0 else(bif f.x0==7 then 0 else f.x3))))))
def jk(f:Fa):Int:=(bif f.x0==1 then(bif f.x0==3 then 0 else(bif f.x0==4 then f.x4 else(bif f.x0==5 then 0 else f.x4))) else(bif f.x0==2 then(bif f.x0==3 then 0 else(bif f.x0==4 then f.x4 else(bif f.x0==5 then 0 else f.x4))) else(bif f.x0==3 then 0 else(bif f.x0==4 then f.x4 else(bif f.x0==5 then 0 else(bif f.x0==7 then 0 else f.x4))))))
def jm(f:Fa):Int:=(bif f.x0==1 then 0 else(bif f.x0==2 then 0 else(bif f.x0==3 then f.x5 else(bif f.x0==4 then f.x5 else(bif f.x0==5 then f.x5 else 0)))))
def jn(f:Fa):Int:=(bif f.x0==1 then f.x6 else(bif f.x0==2 then f.x6 else 0))
def jo(f:Fa):Int:=(bif f.x0==1 then 0 else(bif f.x0==2 then f.x7 else(bif f.x0==3 then f.x7 else(bif f.x0==4 then f.x7 else(bif f.x0==5 then f.x7 else 0)))))
theorem Tt(f:Fa):aa YU 72 #[.agg #[i6 f.x0,i6 f.x1,i6 f.x2,i6 f.x3,i6 f.x4,i6 f.x5,i6 f.x6,i6 f.x7]] [] [] N0 (λ_=> .agg #[i6 f.x0,i6 (jh f),i6 (ji f),i6 (jj f),i6 (jk f),i6 (jm f),i6 (jn f),i6 (jo f)]):=by
 refine fG Tryz.func72 λw cs=>ra (λd=>[(1,pt (B0 d) 0),(2,pt (B1 d) 0)]) (λd=>[ob (B0 d) #[i6 f.x0,i6 f.x1,i6 f.x2,i6 f.x3,i6 f.x4,i6 f.x5,i6 f.x6,i6 f.x7] 48,ob (B1 d) #[i6 0,i6 0,i6 0,i6 0,i6 0,i6 0,i6 0,i6 0] 48]) λd=>rr (λ_=>[(1,.l 0),(3,.l 0),(6,.s 2)]) (λe=>[(3,pt (B5 e) 0)]) [] (λe L=>L++[ob (B5 e) #[i6 f.x0,i6 f.x1,i6 f.x2,i6 f.x3,i6 f.x4,i6 0,i6 0,i6 0] 48]) λe=>r0 [(1,.l 0)] [(10,i6 f.x0)] [] (r0 [] [(11,.bool (f.x0==1))] [] ?_);refine cE f.x0 1 (λh D=>?_) λh D=>?_
 ·refine rr (λ_=>[(1,.l 0),(3,.s 2)]) N0 [] (λ_ L=>L.set 2 (ob (B5 e) #[i6 f.x0,i6 f.x1,i6 f.x2,i6 f.x3,i6 f.x4,i6 0,i6 f.x6,i6 0] 48)) λQ=>r0 [(1,.l 0)] [(39,i6 f.x0)] [] (r0 [] [(40,.bool (f.x0==3))] [] ?_);refine cE f.x0 3 (λC F=>?_) λC F=>?_
  ·exact rr (λ_=>[(2,.s 2)]) N0 [] (λ_ L=>L.set 2 (ob (B5 e) #[i6 f.x0,i6 f.x1,i6 f.x2,i6 f.x3,i6 0,i6 0,i6 f.x6,i6 0] 48)) λG=>rs [(0,.l 2),(1,.s 1)] 1 (ob (B1 d) #[i6 f.x0,i6 f.x1,i6 f.x2,i6 f.x3,i6 0,i6 0,i6 f.x6,i6 0] 48) (aq (.agg #[i6 f.x0,i6 f.x1,i6 f.x2,i6 f.x3,i6 0,i6 0,i6 f.x6,i6 0]) ab.zero (by((try simp only[jh,ji,jj,jk,jm,jn,jo]);(repeat (first | rw[h] | rw[C] | rw[ALct])))<;>rfl) [] [] [1])
  refine r0 [] [(44,.bool (f.x0==4))] [] ?_;refine cE f.x0 4 (λj p=>?_) λj p=>?_
  ·exact rr (λ_=>[(2,.s 2)]) N0 [] (λ_ L=>L.set 2 (ob (B5 e) #[i6 f.x0,i6 f.x1,i6 f.x2,i6 0,i6 f.x4,i6 0,i6 f.x6,i6 0] 48)) λH=>rs [(0,.l 2),(1,.s 1)] 1 (ob (B1 d) #[i6 f.x0,i6 f.x1,i6 f.x2,i6 0,i6 f.x4,i6 0,i6 f.x6,i6 0] 48) (aq (.agg #[i6 f.x0,i6 f.x1,i6 f.x2,i6 0,i6 f.x4,i6 0,i6 f.x6,i6 0]) ab.zero (by((try simp only[jh,ji,jj,jk,jm,jn,jo]);(repeat (first | rw[h] | rw[C] | rw[j] | rw[ALct] | rw[ALcf])))<;>rfl) [] [] [1])
  refine r0 [] [(48,.bool (f.x0==5))] [] ?_;refine cE f.x0 5 (λm q=>?_) λm q=>?_
  ·exact rr (λ_=>[(2,.l 0),(5,.s 2)]) N0 [] (λ_ L=>L.set 2 (ob (B5 e) #[i6 f.x0,i6 f.x1,i6 0,i6 0,i6 0,i6 0,i6 f.x6,i6 0] 48)) λI=>rs [(0,.l 2),(1,.s 1)] 1 (ob (B1 d) #[i6 f.x0,i6 f.x1,i6 0,i6 0,i6 0,i6 0,i6 f.x6,i6 0] 48) (aq (.agg #[i6 f.x0,i6 f.x1,i6 0,i6 0,i6 0,i6 0,i6 f.x6,i6 0]) ab.zero (by((try simp only[jh,ji,jj,jk,jm,jn,jo]);(repeat (first | rw[h] | rw[C] | rw[j] | rw[m] | rw[ALct] | rw[ALcf])))<;>rfl) [] [] [1])
  exact rs [(0,.l 2),(1,.s 1)] 1 (ob (B1 d) #[i6 f.x0,i6 f.x1,i6 f.x2,i6 f.x3,i6 f.x4,i6 0,i6 f.x6,i6 0] 48) (aq (.agg #[i6 f.x0,i6 f.x1,i6 f.x2,i6 f.x3,i6 f.x4,i6 0,i6 f.x6,i6 0]) ab.zero (by((try simp only[jh,ji,jj,jk,jm,jn,jo]);(repeat (first | rw[h] | rw[C] | rw[j] | rw[m] | rw[ALct] | rw[ALcf])))<;>rfl) [] [] [1])
 refine r0 [] [(16,.bool (f.x0==2))] [] ?_;refine cE f.x0 2 (λb r=>?_) λb r=>?_
 ·refine rr (λ_=>[(1,.l 0),(3,.l 0),(5,.s 2),(7,.s 2)]) N0 [] (λ_ L=>L.set 2 (ob (B5 e) #[i6 f.x0,i6 f.x1,i6 f.x2,i6 f.x3,i6 f.x4,i6 0,i6 f.x6,i6 f.x7] 48)) λJ=>r0 [(1,.l 0)] [(39,i6 f.x0)] [] (r0 [] [(40,.bool (f.x0==3))] [] ?_);refine cE f.x0 3 (λi u=>?_) λi u=>?_
  ·exact rr (λ_=>[(2,.s 2)]) N0 [] (λ_ L=>L.set 2 (ob (B5 e) #[i6 f.x0,i6 f.x1,i6 f.x2,i6 f.x3,i6 0,i6 0,i6 f.x6,i6 f.x7] 48)) λK=>rs [(0,.l 2),(1,.s 1)] 1 (ob (B1 d) #[i6 f.x0,i6 f.x1,i6 f.x2,i6 f.x3,i6 0,i6 0,i6 f.x6,i6 f.x7] 48) (aq (.agg #[i6 f.x0,i6 f.x1,i6 f.x2,i6 f.x3,i6 0,i6 0,i6 f.x6,i6 f.x7]) ab.zero (by((try simp only[jh,ji,jj,jk,jm,jn,jo]);(repeat (first | rw[h] | rw[b] | rw[i] | rw[ALct] | rw[ALcf])))<;>rfl) [] [] [1])
  refine r0 [] [(44,.bool (f.x0==4))] [] ?_;refine cE f.x0 4 (λk v=>?_) λk v=>?_
  ·exact rr (λ_=>[(2,.s 2)]) N0 [] (λ_ L=>L.set 2 (ob (B5 e) #[i6 f.x0,i6 f.x1,i6 f.x2,i6 0,i6 f.x4,i6 0,i6 f.x6,i6 f.x7] 48)) λM=>rs [(0,.l 2),(1,.s 1)] 1 (ob (B1 d) #[i6 f.x0,i6 f.x1,i6 f.x2,i6 0,i6 f.x4,i6 0,i6 f.x6,i6 f.x7] 48) (aq (.agg #[i6 f.x0,i6 f.x1,i6 f.x2,i6 0,i6 f.x4,i6 0,i6 f.x6,i6 f.x7]) ab.zero (by((try simp only[jh,ji,jj,jk,jm,jn,jo]);(repeat (first | rw[h] | rw[b] | rw[i] | rw[k] | rw[ALct] | rw[ALcf])))<;>rfl) [] [] [1])
  refine r0 [] [(48,.bool (f.x0==5))] [] ?_;refine cE f.x0 5 (λn x=>?_) λn x=>?_
  ·exact rr (λ_=>[(2,.l 0),(5,.s 2)]) N0 [] (λ_ L=>L.set 2 (ob (B5 e) #[i6 f.x0,i6 f.x1,i6 0,i6 0,i6 0,i6 0,i6 f.x6,i6 f.x7] 48)) λN=>rs [(0,.l 2),(1,.s 1)] 1 (ob (B1 d) #[i6 f.x0,i6 f.x1,i6 0,i6 0,i6 0,i6 0,i6 f.x6,i6 f.x7] 48) (aq (.agg #[i6 f.x0,i6 f.x1,i6 0,i6 0,i6 0,i6 0,i6 f.x6,i6 f.x7]) ab.zero (by((try simp only[jh,ji,jj,jk,jm,jn,jo]);(repeat (first | rw[h] | rw[b] | rw[i] | rw[k] | rw[n] | rw[ALct] | rw[ALcf])))<;>rfl) [] [] [1])
  exact rs [(0,.l 2),(1,.s 1)] 1 (ob (B1 d) #[i6 f.x0,i6 f.x1,i6 f.x2,i6 f.x3,i6 f.x4,i6 0,i6 f.x6,i6 f.x7] 48) (aq (.agg #[i6 f.x0,i6 f.x1,i6 f.x2,i6 f.x3,i6 f.x4,i6 0,i6 f.x6,i6 f.x7]) ab.zero (by((try simp only[jh,ji,jj,jk,jm,jn,jo]);(repeat (first | rw[h] | rw[b] | rw[i] | rw[k] | rw[n] | rw[ALct] | rw[ALcf])))<;>rfl) [] [] [1])
 refine r0 [] [(24,.bool (f.x0==3))] [] ?_;refine cE f.x0 3 (λa y=>?_) λa y=>?_
 ·exact cT (f.x0==3) a (rs [(1,.l 0),(3,.l 0),(5,.s 2),(7,.s 2)] 2 (ob (B5 e) #[i6 f.x0,i6 f.x1,i6 f.x2,i6 f.x3,i6 f.x4,i6 f.x5,i6 0,i6 f.x7] 48) (r0 [(1,.l 0)] [(39,i6 f.x0)] [] (rT [(0,.t (tk (show Value.bool (f.x0==3)= .bool true from ALca Value.bool a)))] 40 (rs [(2,.s 2)] 2 (ob (B5 e) #[i6 f.x0,i6 f.x1,i6 f.x2,i6 f.x3,i6 0,i6 f.x5,i6 0,i6 f.x7] 48) (rs [(0,.l 2),(1,.s 1)] 1 (ob (B1 d) #[i6 f.x0,i6 f.x1,i6 f.x2,i6 f.x3,i6 0,i6 f.x5,i6 0,i6 f.x7] 48) (aq (.agg #[i6 f.x0,i6 f.x1,i6 f.x2,i6 f.x3,i6 0,i6 f.x5,i6 0,i6 f.x7]) ab.zero (by((try simp only[jh,ji,jj,jk,jm,jn,jo]);(repeat (first | rw[h] | rw[b] | rw[a] | rw[ALct] | rw[ALcf])))<;>rfl) [] [] [1]))))))
 refine r0 [] [(24,.bool (f.x0==4))] [24] ?_;refine cE f.x0 4 (λc z=>?_) λc z=>?_
 ·exact cT (f.x0==4) c (rs [(1,.l 0),(3,.l 0),(5,.s 2),(7,.s 2)] 2 (ob (B5 e) #[i6 f.x0,i6 f.x1,i6 f.x2,i6 f.x3,i6 f.x4,i6 f.x5,i6 0,i6 f.x7] 48) (r0 [(1,.l 0)] [(39,i6 f.x0)] [] (rF [(0,.t (tk (show Value.bool (f.x0==3)= .bool false from ALca Value.bool a)))] 40 (rT [(0,.t (tk (show Value.bool (f.x0==4)= .bool true from ALca Value.bool c)))] 44 (rs [(2,.s 2)] 2 (ob (B5 e) #[i6 f.x0,i6 f.x1,i6 f.x2,i6 0,i6 f.x4,i6 f.x5,i6 0,i6 f.x7] 48) (rs [(0,.l 2),(1,.s 1)] 1 (ob (B1 d) #[i6 f.x0,i6 f.x1,i6 f.x2,i6 0,i6 f.x4,i6 f.x5,i6 0,i6 f.x7] 48) (aq (.agg #[i6 f.x0,i6 f.x1,i6 f.x2,i6 0,i6 f.x4,i6 f.x5,i6 0,i6 f.x7]) ab.zero (by((try simp only[jh,ji,jj,jk,jm,jn,jo]);(repeat (first | rw[h] | rw[b] | rw[a] | rw[c] | rw[ALct] | rw[ALcf])))<;>rfl) [] [] [1])))))))
 refine r0 [] [(24,.bool (f.x0==5))] [24] ?_;refine cE f.x0 5 (λg A=>?_) λg A=>?_
 ·exact rr (λ_=>[(1,.l 0),(3,.l 0),(5,.s 2),(7,.s 2)]) N0 [] (λ_ L=>L.set 2 (ob (B5 e) #[i6 f.x0,i6 f.x1,i6 f.x2,i6 f.x3,i6 f.x4,i6 f.x5,i6 0,i6 f.x7] 48)) λO=>r0 [(1,.l 0)] [(39,i6 f.x0)] [] (rF [(0,.t (tk (show Value.bool (f.x0==3)= .bool false from ALca Value.bool a)))] 40 (rF [(0,.t (tk (show Value.bool (f.x0==4)= .bool false from ALca Value.bool c)))] 44 (rT [(0,.t (tk (show Value.bool (f.x0==5)= .bool true from ALca Value.bool g)))] 48 (rs [(2,.l 0),(5,.s 2)] 2 (ob (B5 e) #[i6 f.x0,i6 f.x1,i6 0,i6 0,i6 0,i6 f.x5,i6 0,i6 f.x7] 48) (rs [(0,.l 2),(1,.s 1)] 1 (ob (B1 d) #[i6 f.x0,i6 f.x1,i6 0,i6 0,i6 0,i6 f.x5,i6 0,i6 f.x7] 48) (aq (.agg #[i6 f.x0,i6 f.x1,i6 0,i6 0,i6 0,i6 f.x5,i6 0,i6 f.x7]) ab.zero (by((try simp only[jh,ji,jj,jk,jm,jn,jo]);(repeat (first | rw[h] | rw[b] | rw[a] | rw[c] | rw[g] | rw[ALct] | rw[ALcf])))<;>rfl) [] [] [1]))))))
 refine r0 [] [(34,.bool (f.x0==7))] [] ?_;refine cE f.x0 7 (λo B=>?_) λo B=>?_
 ·exact rr (λ_=>[(2,.s 2)]) N0 [] (λ_ L=>L.set 2 (ob (B5 e) #[i6 f.x0,i6 0,i6 0,i6 0,i6 0,i6 0,i6 0,i6 0] 48)) λP=>r0 [(1,.l 0)] [(39,i6 f.x0)] [] (rF [(0,.t (tk (show Value.bool (f.x0==3)= .bool false from ALca Value.bool a)))] 40 (rF [(0,.t (tk (show Value.bool (f.x0==4)= .bool false from ALca Value.bool c)))] 44 (rF [(0,.t (tk (show Value.bool (f.x0==5)= .bool false from ALca Value.bool g)))] 48 (rs [(0,.l 2),(1,.s 1)] 1 (ob (B1 d) #[i6 f.x0,i6 0,i6 0,i6 0,i6 0,i6 0,i6 0,i6 0] 48) (aq (.agg #[i6 f.x0,i6 0,i6 0,i6 0,i6 0,i6 0,i6 0,i6 0]) ab.zero (by((try simp only[jh,ji,jj,jk,jm,jn,jo]);(repeat (first | rw[h] | rw[b] | rw[a] | rw[c] | rw[g] | rw[o] | rw[ALct] | rw[ALcf])))<;>rfl) [] [] [1])))))
 exact r0 [(1,.l 0)] [(39,i6 f.x0)] [] (rF [(0,.t (tk (show Value.bool (f.x0==3)= .bool false from ALca Value.bool a)))] 40 (rF [(0,.t (tk (show Value.bool (f.x0==4)= .bool false from ALca Value.bool c)))] 44 (rF [(0,.t (tk (show Value.bool (f.x0==5)= .bool false from ALca Value.bool g)))] 48 (rs [(0,.l 2),(1,.s 1)] 1 (ob (B1 d) #[i6 f.x0,i6 f.x1,i6 f.x2,i6 f.x3,i6 f.x4,i6 0,i6 0,i6 0] 48) (aq (.agg #[i6 f.x0,i6 f.x1,i6 f.x2,i6 f.x3,i6 f.x4,i6 0,i6 0,i6 0]) ab.zero (by((try simp only[jh,ji,jj,jk,jm,jn,jo]);(repeat (first | rw[h] | rw[b] | rw[a] | rw[c] | rw[g] | rw[o] | rw[ALcf])))<;>rfl) [] [] [1])))))
def pq(f:Fa)(R S B M C m:Nat):Bool:=(((((((decide (1≤f.x0))&&(decide (f.x0≤7)))&&(((m:Int)==1)||((m:Int)==2)))&&(f.x0==f.x0&&(f.x1==(jh f)&&(f.x2==(ji f)&&(f.x3==(jj f)&&(f.x4==(jk f)&&(f.x5==(jm f)&&(f.x6==(jn f)&&(f.x7==(jo f)&&true)))))))))&&(hold R S B M C f.x1 f.x2 f.x3 f.x4))&&(bQ f.x6 576))&&(bQ f.x5 ((aT (m:Int):Nat):Int)))&&(bQ f.x7 (bif f.x0==2 then 2 else 256))
theorem Tu(f:Fa)(R S B M C m:Nat)(g:cC R S B M C)(h:m=1∨m=2):aa YU 38 #[.agg #[i6 f.x0,i6 f.x1,i6 f.x2,i6 f.x3,i6 f.x4,i6 f.x5,i6 f.x6,i6 f.x7],.agg #[iN R,iN S,iN B,iN M,iN C],iN m] [] [] N0 (λ_=> .bool (pq f R S B M C m)):=by
 refine fG Tryz.func38 λw cs=>ra (λa=>[(3,pt (B0 a) 0),(4,pt (B1 a) 0),(6,.bool false)]) (λa=>[ob (B0 a) #[i6 f.x0,i6 f.x1,i6 f.x2,i6 f.x3,i6 f.x4,i6 f.x5,i6 f.x6,i6 f.x7] 48,ob (B1 a) #[iN R,iN S,iN B,iN M,iN C] 23]) λa=>r0 [] [(7,i6 256)] [] (r0 [(1,.l 0)] [(10,.bool (f.x0==2))] [] ?_);refine cJ (f.x0==2) (λc=>[(7,i6 (bif c then 2 else 256))]) (λ_=>[ob (B0 a) #[i6 f.x0,i6 f.x1,i6 f.x2,i6 f.x3,i6 f.x4,i6 f.x5,i6 f.x6,i6 f.x7] 48,ob (B1 a) #[iN R,iN S,iN B,iN M,iN C] 23]) (λd=>?_) (λd=>?_) ?_
 ·have b:=eq_of_beq d;refine r0 [] [(7,i6 2)] [7] ?_;exact cm Kr [0,1] Kr
 ·have b:=ne_of_beq_false d;exact cm Kr [0,1] Kr
 exact r0 [(1,.m (ld 0 (i6 f.x0))),(5,.m (ld 0 (i6 f.x0))),(10,.c [] [] (oW (m:Int))),(13,.m (ls 0 ([i6 f.x0,i6 f.x1,i6 f.x2,i6 f.x3,i6 f.x4,i6 f.x5,i6 f.x6,i6 f.x7]))),(14,.m (ls 0 ([i6 f.x0,i6 f.x1,i6 f.x2,i6 f.x3,i6 f.x4,i6 f.x5,i6 f.x6,i6 f.x7]))),(15,.c [] [] (Tt f)),(16,.e),(19,.m (ls 1 ([iN R,iN S,iN B,iN M,iN C]))),(21,.m (ls 0 ([i6 f.x1,i6 f.x2,i6 f.x3,i6 f.x4]))),(22,.c [] [] (sd R S B M C g f.x1 f.x2 f.x3 f.x4)),(26,.m (ld 0 (i6 f.x6))),(27,.c [] [] (z5 f.x6 576)),(31,.m (ld 0 (i6 f.x5))),(33,.c [] [] (Gg m h)),(34,.c [] [] (z5 f.x5 ((aT (m:Int):Nat):Int))),(38,.m (ld 0 (i6 f.x7))),(40,.c [] [] (z5 f.x7 (bif f.x0==2 then 2 else 256)))] [(6,.bool ((((((((decide (1≤f.x0))&&(decide (f.x0≤7)))&&(((m:Int)==1)||((m:Int)==2)))&&(f.x0==f.x0&&(f.x1==(jh f)&&(f.x2==(ji f)&&(f.x3==(jj f)&&(f.x4==(jk f)&&(f.x5==(jm f)&&(f.x6==(jn f)&&(f.x7==(jo f)&&true)))))))))&&(hold R S B M C f.x1 f.x2 f.x3 f.x4))&&(bQ f.x6 576))&&(bQ f.x5 ((aT (m:Int):Nat):Int)))&&(bQ f.x7 (bif f.x0==2 then 2 else 256))))] [6] (lf ab.zero [] [] [])
theorem Tv{P:Program}{T:TypeId}{x y:Operand}{w:World}{yk:IntKind}{a:Nat}(n:Nat)(b:n≤8):(av .shr T x y (.int .u8 (a:Int)) (.int yk (n:Int))).run P w= .ok (.int .u8 ((a/2^n:Nat):Int)) w:=by
 unfold av;simp only[ZN,eqGuard_shr,ZO,Zw,binOp_shr,shift_shr_u8 _ _ _ (Int.natCast_nonneg n) Om,Int.toNat_natCast];push_cast;rfl
def oi(xs:List UInt8)(b:Nat):Nat:=(xs.getD (b/8) 0).toNat/2^(b%8)%2
theorem Tw(x:UInt8)(n:Nat):x.toNat/2^n<256:=Nat.lt_of_le_of_lt (Nat.div_le_self _ _) x.toNat_lt
theorem Tx(v:Value)(xs:List UInt8)(g:xs.length=72)(b:Int)(h0:0≤b)(h1:b<576):aa YU 284 #[v,i6 b] [.p (aP eB v xs)] [] N0 (λ_=>iN (oi xs b.toNat)):=by
 exact fO Tryz.func284 0 rfl λd c=>fG Tryz.func284 λw cs=>r0 [] [(4,i6 0)] [] (rF [(1,.t (tk (show Value.bool (decide (b<0))= .bool false from ALca Value.bool (by exact bj Om)))),(4,.t (tv (av .shr 3 (.tmp 8) (.const (u6 3)) (i6 b) (u6 3)) (λ_=>dJ (b:=((b.toNat/8:Nat):Int)) (iE 3 Dc) Om))),(6,eD c.1 0),(7,.t (tk (show Value.bool (decide ((xs.length:Int)≤((b.toNat/8:Nat):Int)))= .bool false from ALca Value.bool (by exact bj Om))))] 13 (r0 [(2,.t (tv (av .shr 3 (.tmp 15) (.const (u6 3)) (i6 b) (u6 3)) (λ_=>dJ (b:=((b.toNat/8:Nat):Int)) (iE 3 Dc) Om))),(3,fh c.1 0 (b.toNat/8) 1),(4,iU kB c.1 0 (b.toNat/8) 0),(6,.t (tv (av .and 3 (.tmp 19) (.const (i6 7)) (i6 b) (i6 7)) (λ_=>dJ (b:=((b.toNat%8:Nat):Int)) (mw _ 3 8 Dc Dc Dc Dc) Om))),(7,.t (tc (k:= .i64) (l:= .u64) (a:=iN (b.toNat%8)) λ_ _ _ e f=>m0 e f Om)),(8,.t (tv (av .shr 5 (.tmp 18) (.tmp 21) (u1 ((xs.getD (b.toNat/8) 0).toNat:Int)) (u6 ((b.toNat%8:Nat):Int))) (λ_=>Tv (b.toNat%8) Om))),(9,.t (tv (convert 5 3 (u1 (((xs.getD (b.toNat/8) 0).toNat/2^(b.toNat%8):Nat):Int))) (λ_=>Jt Tryz.underlying5 Tryz.underlying3 (Tw _ _)))),(10,.t (tv (av .and 3 (.tmp 23) (.const (i6 1)) (iN ((xs.getD (b.toNat/8) 0).toNat/2^(b.toNat%8))) (i6 1)) (λ_=>CD)))] [(4,iN (oi xs b.toNat))] [4] (lf ab.zero [] [(0,0)] [])))
theorem Gj(xs:List UInt8)(g:xs.length=72)(b:Int)(h0:0≤b)(h1:b<576):aa YU 168 #[.agg (rB 72 xs).toArray,i6 b] [] [] N0 (λ_=> .agg (rB 72 (xs.set (b.toNat/8) ((xs.getD (b.toNat/8) 0)^^^(UInt8.ofNat (1*2^(b.toNat%8)))))).toArray):=by
 refine fG Tryz.func168 λw cs=>ra (λc=>[(2,pt (B0 c) 0),(4,pt (B1 c) 0)]) (λc=>[ob (B0 c) (rB 72 xs).toArray 217,ob (B1 c) (rB 72 (YV 72 0)).toArray 217]) λc=>r0 [] [(10,.bool ((decide (0≤b))&&(decide (b<576))))] [] ?_;have d:((decide (0≤b))&&(decide (b<576)))=true:=by rw[c0 Om,c0 Om];rfl
 exact cT ((decide (0≤b))&&(decide (b<576))) d (rs [(1,.t (tv (av .shr 3 (.tmp 11) (.const (u6 3)) (i6 b) (u6 3)) (λ_=>dJ (b:=((b.toNat/8:Nat):Int)) (iE 3 Dc) Om))),(2,iA 217 .i64 (B0 c) 0 72 1 (b.toNat/8)),(3,rD 0 (B0 c) (b.toNat/8) 217 (rB 72 xs) (nK Om)),(5,.t (tv (av .and 3 (.tmp 15) (.const (i6 7)) (i6 b) (i6 7)) (λ_=>dJ (b:=((b.toNat%8:Nat):Int)) (mw _ 3 8 Dc Dc Dc Dc) Om))),(6,.t (tc (k:= .i64) (l:= .u64) (a:=iN (b.toNat%8)) λ_ _ _ e f=>m0 e f Om)),(7,.t (tv (av .shl 5 (.const (u1 1)) (.tmp 17) (u1 1) (u6 ((b.toNat%8:Nat):Int))) (λ_=>uG (a:=1) (b.toNat%8) Om))),(8,.t (tb (a:=u1 ((xs.getD (b.toNat/8) 0).toNat:Int)) (b:=u1 ((UInt8.ofNat (1*2^(b.toNat%8))).toNat:Int)) λ_ _ _ _=>lL (xs.getD (b.toNat/8) 0) ((UInt8.ofNat (1*2^(b.toNat%8)))))),(9,iA 217 .i64 (B0 c) 0 72 1 (b.toNat/8)),(10,wD 0 (B0 c) (b.toNat/8) 217 (u1 (((xs.getD (b.toNat/8) 0)^^^(UInt8.ofNat (1*2^(b.toNat%8)))).toNat:Int)) (rB 72 xs) (rB 72 (xs.set (b.toNat/8) ((xs.getD (b.toNat/8) 0)^^^(UInt8.ofNat (1*2^(b.toNat%8)))))) (jT Om) (mj g))] 0 (ob (B0 c) (rB 72 (xs.set (b.toNat/8) ((xs.getD (b.toNat/8) 0)^^^(UInt8.ofNat (1*2^(b.toNat%8)))))).toArray 217) (rs [(0,.l 0),(1,.s 1)] 1 (ob (B1 c) (rB 72 (xs.set (b.toNat/8) ((xs.getD (b.toNat/8) 0)^^^(UInt8.ofNat (1*2^(b.toNat%8)))))).toArray 217) (lf ab.zero [] [] [1])))
section
theorem Ty{α:Type}{en:α→List Value}{d:α}{a m:Nat}{ys:List α}{t:TypeId}(h1: ∀x,(en x).length=1)(h:ys.length=m):aP en (.slice (some ⟨a,0,none⟩) m m) ys [(a,.cells ((cD en d m ys).toArray) t (0,0))]:=⟨oL h1 h,some ⟨a,0,none⟩,0,by rw[h];rfl⟩
theorem v9(m:Int):aT m≤36:=by unfold aT;split<;>(try split)<;>omega
theorem Gk(m:Int):dB m≤8:=by unfold dB;split<;>(try split)<;>omega
theorem z7{m:Int}{k:Nat}(c:k≤dB m):aT m*k≤72:=by
 by_cases b:m=1
 ·subst b;have a:k≤8:=c;show 9*k≤72;omega
 ·by_cases a:m=2
  ·subst a;have d:k≤2:=c;show 36*k≤72;omega
  ·unfold aT;rw[ALifn b,ALifn a];omega
theorem z8{m:Int}{xs ys:List UInt8}(o:Nat): ∀k,cd (λi=>c8 m (xs.getD (o+i) 0) (ys.getD (o+i) 0)) k≤8*k
 | 0=>Za _
 | k+1=>by
  rw[cd];have h:=z8 (m:=m) (xs:=xs) (ys:=ys) o k;have a:=OB m (xs.getD (o+k) 0) (ys.getD (o+k) 0);have b:c8 m (xs.getD (o+k) 0) (ys.getD (o+k) 0)≤8:=by
   split at a<;>omega
  omega
theorem Gl{m:Int}{xs ys:List UInt8}(k:Nat):cd (λi=>c8 m (xs.getD i 0) (ys.getD i 0)) k≤8*k:=by
 have h:=z8 (m:=m) (xs:=xs) (ys:=ys) 0 k;simpa using h
theorem Gm{f g:Nat→Nat}: ∀{n:Nat},(∀i,i<n→f i=g i)→cd f n=cd g n
 | 0,_=>rfl
 | n+1,h=>by rw[cd,cd,Gm λi a=>h i (ZC a),h n (Zj n)]
theorem Gn{xs:List UInt8}{o n i:Nat}(h:i<n):((xs.drop o).take n).getD i 0=xs.getD (o+i) 0:=by
 rw[YX,List.getElem?_take,ALifp h,Zx,YX]
theorem Tz(a b:UInt8):c8 1 a b=pc (a^^^b).toNat:=ALifp rfl
theorem TA{a b:UInt8}(h:((a.toNat:Int) != (b.toNat:Int))=true):c8 2 a b=1:=by
 unfold c8;rw[ALifn Dc,ALifn (λe=>by subst e;simp at h)]
theorem TB{a b:UInt8}(h:((a.toNat:Int) != (b.toNat:Int))=false):c8 2 a b=0:=by
 unfold c8;have c:=bne_eq_false_iff_eq.1 h;rw[ALifn Dc,ALifp (UInt8.toNat_inj.1 Om)]
theorem TC(m:Int)(a b:List UInt8)(k:Nat):((j8 m a b (k+1):Nat):Int)=max ((j8 m a b k:Nat):Int) ((cd (λi=>c8 m (((a.drop (aT m*k)).take (aT m)).getD i 0) (((b.drop (aT m*k)).take (aT m)).getD i 0)) (aT m):Nat):Int):=by
 rw[show cd (λi=>c8 m (((a.drop (aT m*k)).take (aT m)).getD i 0) (((b.drop (aT m*k)).take (aT m)).getD i 0)) (aT m)=wC m a b k from Gm λi c=>by rw[Gn c,Gn c],j8];omega
theorem TE(xs ys:List UInt8)(k:Nat):cd (λz=>c8 1 (xs.getD z 0) (ys.getD z 0)) (k+1)=cd (λz=>c8 1 (xs.getD z 0) (ys.getD z 0)) k+pc (xs.getD k 0^^^ys.getD k 0).toNat:=by rw[cd,Tz]
theorem TF(xs ys:List UInt8)(k:Nat):cd (λz=>c8 2 (xs.getD z 0) (ys.getD z 0)) (k+1)=bif ((xs.getD k 0).toNat:Int) != ((ys.getD k 0).toNat:Int) then cd (λz=>c8 2 (xs.getD z 0) (ys.getD z 0)) k+1 else cd (λz=>c8 2 (xs.getD z 0) (ys.getD z 0)) k:=by
 rw[cd];cases h:((xs.getD k 0).toNat:Int) != ((ys.getD k 0).toNat:Int) with
 | true=>rw[TA h];rfl
 | false=>rw[TB h];rfl
theorem TG(b:UInt8):pc b.toNat≤8:=D9 b.toNat_lt
theorem Gp(f:Nat→Nat):cd f 0=0:=by rw[cd]
theorem Gq(m:Nat)(c:m=1∨m=2)(xs:List UInt8)(b:xs.length=72)(q:Nat)(a:q<dB (m:Int)):aa YU 194 #[.agg (rB 72 xs).toArray,iN m,iN q] [] [] (λE=>[bC (E.val 0) ((xs.drop (aT (m:Int)*q)).take (aT (m:Int)))]) (λE=>E.val 0):=by
 rcases c with rfl | rfl
 ·exact DS xs b q a
 ·exact DT xs b q a
attribute [local irreducible] cd j8 pc c8 aT dB oi
theorem TI(v u:Value)(xs ys:List UInt8)(l:ys.length=xs.length)(r:xs.length≤100):aa YU 226 #[v,u] [.p (aP eB v xs),.p (aP eB u ys)] [] N0 (λ_=>i6 ((cd (λz=>c8 1 (xs.getD z 0) (ys.getD z 0)) xs.length:Nat):Int)):=by
 refine fO Tryz.func226 0 rfl λg d=>?_;refine fO Tryz.func226 1 rfl λh e=>?_;refine fG Tryz.func226 λw cs=>?_;refine r0 [] [(4,i6 0)] [] (rF [(1,eD d.1 0),(3,eD e.1 1),(4,.t (tk (show Value.bool (decide ((ys.length:Int)<(xs.length:Int)))= .bool false from ALca Value.bool (by exact bj Om))))] 12 (r0 [(1,eD e.1 1),(3,eD d.1 0),(4,.t (tv (av .sub 3 (.tmp 16) (.tmp 18) (iN ys.length) (iN xs.length)) (λ_=>dJ (b:=0) (qL Om Om) Om)))] [(5,i6 0)] [] (r0 [(1,eD d.1 0)] [(21,v),(22,iN xs.length),(23,i6 0)] [] ?_)));refine lq (λi=>i≤xs.length) (λi=>[(23,iN i),(5,i6 ((cd (λz=>c8 1 (xs.getD z 0) (ys.getD z 0)) i:Nat):Int))]) (λ_ L=>L) (λi=>xs.length-i) 0 Om (by rw[Gp];kernel_rfl) Kr (λi k=>?_);have o:=Gl (m:=1) (xs:=xs) (ys:=ys) i;have n:=TG (xs.getD i 0^^^ys.getD i 0);have q:=(xs.getD i 0^^^ys.getD i 0).toNat_lt;refine r0 [] [(24,.bool (decide ((i:Int)<(xs.length:Int))))] [] ?_;refine cc (i:Int) (xs.length:Int) (λj f=>?_) λj f=>?_
 ·refine r0 [(1,fh d.1 0 i 1),(2,iU kB d.1 0 i 0)] [(6,iN i),(7,u1 ((xs.getD i 0).toNat:Int))] [] ?_;refine r0 [(4,fh e.1 1 i 1),(5,iU kB e.1 1 i 0),(6,.t (tb (a:=u1 ((xs.getD i 0).toNat:Int)) (b:=u1 ((ys.getD i 0).toNat:Int)) λ_ _ _ _=>lL (xs.getD i 0) (ys.getD i 0))),(7,.c [] [] (CJ (((xs.getD i 0)^^^(ys.getD i 0)).toNat) Om)),(8,ad (cd (λz=>c8 1 (xs.getD z 0) (ys.getD z 0)) i) (pc (((xs.getD i 0)^^^(ys.getD i 0)).toNat)))] [(5,i6 (((cd (λz=>c8 1 (xs.getD z 0) (ys.getD z 0)) i)+(pc (((xs.getD i 0)^^^(ys.getD i 0)).toNat)):Nat):Int))] [5] (r0 [(0,ad i 1)] [(23,i6 ((i+1:Nat):Int))] [23] ?_);exact le (i+1) Om Om (by rw[TE];kernel_rfl) [0,1] Kr
 obtain rfl:i=xs.length:=by omega
 refine lx ?_;exact r0 [] [(4,i6 ((cd (λz=>c8 1 (xs.getD z 0) (ys.getD z 0)) xs.length:Nat):Int))] [4] (lf ab.zero [] [(0,0),(1,1)] [])
theorem TJ(v u:Value)(xs ys:List UInt8)(f:ys.length=xs.length)(g:xs.length≤100):aa YU 193 #[i6 1,v,u] [.p (aP eB v xs),.p (aP eB u ys)] [] N0 (λ_=>i6 ((cd (λz=>c8 1 (xs.getD z 0) (ys.getD z 0)) xs.length:Nat):Int)):=by
 refine fO Tryz.func193 0 rfl λa d=>?_;refine fO Tryz.func193 1 rfl λb e=>?_;refine fG Tryz.func193 λw cs=>?_;exact r0 [] [(6,i6 0)] [] (rT [] 11 (r0 [(2,.c [0,1] [] (aa.at (rd':=[.c a,.c b]) (TI v u xs ys Om Om) (ei d (ei e (λ_ h=>h)))))] [(6,i6 ((cd (λz=>c8 1 (xs.getD z 0) (ys.getD z 0)) xs.length:Nat):Int))] [6] (lf ab.zero [] [(0,0),(1,1)] [])))
theorem TK(v u:Value)(xs ys:List UInt8)(l:ys.length=xs.length)(o:xs.length≤100):aa YU 193 #[i6 2,v,u] [.p (aP eB v xs),.p (aP eB u ys)] [] N0 (λ_=>i6 ((cd (λz=>c8 2 (xs.getD z 0) (ys.getD z 0)) xs.length:Nat):Int)):=by
 refine fO Tryz.func193 0 rfl λf b=>?_;refine fO Tryz.func193 1 rfl λg e=>?_;refine fG Tryz.func193 λw cs=>?_;refine r0 [] [(6,i6 0)] [] (rF [] 11 (r0 [] [(7,i6 0)] [] (r0 [(1,eD b.1 0)] [(15,v),(16,iN xs.length),(17,i6 0)] [] ?_)));refine lq (λi=>i≤xs.length) (λi=>[(17,iN i),(7,i6 ((cd (λz=>c8 2 (xs.getD z 0) (ys.getD z 0)) i:Nat):Int))]) (λ_ L=>L) (λi=>xs.length-i) 0 Om (by rw[Gp];kernel_rfl) Kr (λi k=>?_);have n:=Gl (m:=2) (xs:=xs) (ys:=ys) i;refine r0 [] [(18,.bool (decide ((i:Int)<(xs.length:Int))))] [] ?_;refine cc (i:Int) (xs.length:Int) (λj h=>?_) λj h=>?_
 ·refine r0 [(1,fh b.1 0 i 1),(2,iU kB b.1 0 i 0)] [(8,iN i),(9,u1 ((xs.getD i 0).toNat:Int))] [] ?_;refine r0 [(3,fh e.1 1 i 1),(4,iU kB e.1 1 i 0)] [(27,.bool (((xs.getD i 0).toNat:Int) != ((ys.getD i 0).toNat:Int)))] [] ?_;refine cJ (((xs.getD i 0).toNat:Int) != ((ys.getD i 0).toNat:Int)) (λc=>[(7,i6 (((bif c then(cd (λz=>c8 2 (xs.getD z 0) (ys.getD z 0)) i)+1 else cd (λz=>c8 2 (xs.getD z 0) (ys.getD z 0)) i):Nat):Int))]) (λ_=>[.c f,.c g]) (λa=>?_) (λa=>?_) ?_
  ·have d:=bne_iff_ne.1 a;refine r0 [(1,ad (cd (λz=>c8 2 (xs.getD z 0) (ys.getD z 0)) i) 1)] [(7,i6 (((cd (λz=>c8 2 (xs.getD z 0) (ys.getD z 0)) i)+1:Nat):Int))] [7] ?_;exact cm Kr [0,1] Kr
  ·have d:=BR a;exact cm Kr [0,1] Kr
  refine r0 [(0,ad i 1)] [(17,i6 ((i+1:Nat):Int))] [17] ?_;exact le (i+1) Om Om (by rw[TF];kernel_rfl) [0,1] Kr
 obtain rfl:i=xs.length:=by omega
 refine lx ?_;exact r0 [] [(6,i6 ((cd (λz=>c8 2 (xs.getD z 0) (ys.getD z 0)) xs.length:Nat):Int))] [6] (lf ab.zero [] [(0,0),(1,1)] [])
theorem TL(m:Nat)(c:m=1∨m=2)(v u:Value)(xs ys:List UInt8)(n:Nat)(d:xs.length=n)(b:ys.length=n)(a:n≤100):aa YU 193 #[iN m,v,u] [.p (aP eB v xs),.p (aP eB u ys)] [] N0 (λ_=>i6 ((cd (λi=>c8 (m:Int) (xs.getD i 0) (ys.getD i 0)) n:Nat):Int)):=by
 subst d;rcases c with rfl | rfl
 ·exact TJ v u xs ys b a
 ·exact TK v u xs ys b a
theorem Gr{xs:List UInt8}{m:Int}{k:Nat}(b:xs.length=72)(a:k<dB m):((xs.drop (aT m*k)).take (aT m)).length=aT m:=by
 have h:=z7 (m:=m) (k:=k+1) a;rw[ZP] at h;rw[YZ,Y6];omega
theorem Gs(m:Nat)(hm:m=1∨m=2)(a b:List UInt8)(ha:a.length=72)(hb:b.length=72):aa YU 149 #[iN m,.agg (rB 72 a).toArray,.agg (rB 72 b).toArray] [] [] N0 (λ_=>i6 ((b0 (m:Int) a b:Nat):Int)):=by
 refine fG Tryz.func149 λw cs=>?_
 refine ra (λq1=>[(4,pt (B0 q1) 0),(5,pt (B1 q1) 0),(6,i6 0)]) (λq1=>[ob (B0 q1) (rB 72 a).toArray 217,ob (B1 q1) (rB 72 b).toArray 217]) λq1=>r0 [] [(7,i6 0)] [] (r0 [(1,.c [] [] (Gh m hm))] [(10,i6 ((dB (m:Int):Nat):Int)),(11,i6 0)] [] ?_)
 refine lq (λk=>k≤(dB (m:Int))) (λk=>[(11,iN k),(7,i6 ((j8 (m:Int) a b k:Nat):Int))]) (λ_ L=>L) (λk=>(dB (m:Int))-k) 0 Om (by rw[j8];kernel_rfl) Kr (λk hk4=>?_)
 have hw8:=Gk (m:Int)
 refine r0 [] [(12,.bool (decide ((k:Int)<((dB (m:Int):Nat):Int))))] [] ?_
 refine cc (k:Int) ((dB (m:Int):Nat):Int) (λh6 dh6=>?_) λh6 dh6=>?_
 ·have HLA:=Gr (m:=(m:Int)) (k:=k) ha Om
  have HLB:=Gr (m:=(m:Int)) (k:=k) hb Om
  have HLC:aT (m:Int)≤100:=Y3 (v9 _) Dc
  refine r0 [] [(8,iN k)] [] (rr (λq8=>[(2,.m (ls 0 (rB 72 a))),(5,.c [] [2] (Gq m hm a (by(simp only[LL,ha,hb,ha,hb];done)) k Om)),(6,.m (ls 1 (rB 72 b))),(9,.c [] [3] (Gq m hm b (by(simp only[LL,ha,hb,ha,hb];done)) k Om)),(10,.c [2,3] [] (aa.at (rd':=[bC ((q8 5).val 0) ((a.drop (aT (m:Int)*k)).take (aT (m:Int))),bC ((q8 9).val 0) ((b.drop (aT (m:Int)*k)).take (aT (m:Int)))]) (TL m hm ((q8 5).val 0) ((q8 9).val 0) ((a.drop (aT (m:Int)*k)).take (aT (m:Int))) ((b.drop (aT (m:Int)*k)).take (aT (m:Int))) (aT (m:Int)) HLA HLB HLC) (bP (λ_ h=>ar.sq h) (bP (λ_ h=>ar.sq h) (λ_ h=>h))))),(11,.t (tv (Builtin.max_ #[3,3] 3 #[i6 ((j8 (m:Int) a b k:Nat):Int),i6 ((cd (λz=>c8 (m:Int) (((a.drop (aT (m:Int)*k)).take (aT (m:Int))).getD z 0) (((b.drop (aT (m:Int)*k)).take (aT (m:Int))).getD z 0)) (aT (m:Int)):Nat):Int)]) (λ_=>pH _ _ _ _)))]) (λ_=>[(7,i6 (max ((j8 (m:Int) a b k:Nat):Int) ((cd (λz=>c8 (m:Int) (((a.drop (aT (m:Int)*k)).take (aT (m:Int))).getD z 0) (((b.drop (aT (m:Int)*k)).take (aT (m:Int))).getD z 0)) (aT (m:Int)):Nat):Int)))]) [7] (λq8 L=>L++[bC ((q8 5).val 0) ((a.drop (aT (m:Int)*k)).take (aT (m:Int))),bC ((q8 9).val 0) ((b.drop (aT (m:Int)*k)).take (aT (m:Int)))]) λq8=>r0 [(0,ad k 1)] [(11,i6 ((k+1:Nat):Int))] [11] ?_)
  exact le (k+1) Om Om (by rw[TC];kernel_rfl) [0,1] Kr
 obtain rfl:k=(dB (m:Int)):=by omega
 refine lx ?_
 refine r0 [] [(6,i6 ((j8 (m:Int) a b (dB (m:Int)):Nat):Int))] [6] ?_
 exact aq (i6 ((j8 (m:Int) a b (dB (m:Int)):Nat):Int)) ab.zero ba [] [] []
end
section
attribute [local irreducible] aT dB oi
theorem TM(e f c m:Nat)(i:m=1∨m=2)(D:c<aT (m:Int)):e4 5 YU 288 #[pt e 0,pt f 0] (λ(x:Nat)=>#[iN x]) ((Zg (dB (m:Int))).map λk=>aT (m:Int)*k+c) (ZL [[(e,.cells #[iN m] 3 (0,0))],[(f,.cells #[iN c] 3 (0,0))]]):=by
 have r:=v9 (m:Int);have t:=Gk (m:Int);refine gi (KO:=[[(e,.cells #[iN m] 3 (0,0))],[(f,.cells #[iN c] 3 (0,0))]]) Tryz.func288 (λu y w C A h q p=>?_);refine r0 [(0,.l 0),(1,.c [] [] (Gg m i))] [(4,iN (aT (m:Int)))] [] (r0 [(0,.l 1),(3,.l 1)] [(14,.bool ((decide ((c:Int)<0))||(decide (((aT (m:Int):Nat):Int)≤(c:Int)))))] [] ?_);have o:((decide ((c:Int)<0))||(decide (((aT (m:Int):Nat):Int)≤(c:Int))))=false:=by rw[bj Om,bj Om];rfl
 refine cF ((decide ((c:Int)<0))||(decide (((aT (m:Int):Nat):Int)≤(c:Int)))) o (r0 [(0,.l 0),(1,.c [] [] (Gh m i))] [(16,iN (dB (m:Int))),(17,i6 0)] [] ?_);refine jW (λk=>k≤(dB (m:Int))) (λk=>[(17,iN k)]) (λ_ L=>L) (λk=>(dB (m:Int))-k) (λk=>k) 0 Om p Kr Kr (λk z B s d=>?_);have u9:=z7 (m:=(m:Int)) (k:=k) Om;refine r0 [] [(18,.bool (decide ((k:Int)<((dB (m:Int):Nat):Int))))] [] ?_;refine cc (k:Int) ((dB (m:Int):Nat):Int) (λg a=>?_) λg a=>?_
 ·refine r0 [] [(5,iN k)] [] ?_;refine iy h q d 6 (λ_=>[(3,ml (aT (m:Int)) k),(4,.l 1),(5,ad ((aT (m:Int))*k) c)]) (λ_=>[(20,.func (.yield u) #[] #[]),(25,iN (((aT (m:Int))*k)+c))]) [] (λ_ L=>L) N0 [0,1] (nI Om) (λv j n b=>?_);refine cF _ rfl (r0 [(0,ad k 1)] [(17,iN (k+1))] [17] ?_);exact iG (k+1) Om b Om Kr [0,1] Kr
 refine jX ?_;exact kV h d (by(rw[Y5,Zh];omega)) [] [0,1]
theorem TN(m c:Nat):aa YU 285 #[iN m,iN c] [] [] (λE=>[ob (E.y 0) #[iN m] 3,ob (E.y 1) #[iN c] 3]) (λE=> .func (.func 288) #[] #[pt ((E.y 0)) 0,pt ((E.y 1)) 0]):=by
 exact fG Tryz.func285 λw cs=>ra (λa=>[(2,pt (B0 a) 0),(3,pt (B1 a) 0),(4,.nilFunc)]) (λa=>[ob (B0 a) #[iN m] 3,ob (B1 a) #[iN c] 3]) λa=>r0 [] [(4,.func (.func 288) #[] #[pt (B0 a) 0,pt (B1 a) 0])] [4] (lf (.l [(a 0).y 0,(a 1).y 0] [] []) [0,1] [] [])
def gH(n c:Nat)(v:UInt8)(xs:List UInt8):Nat→List UInt8
 | 0=>xs
 | k+1=>(gH n c v xs k).set (n*k+c) v
theorem wa(n c:Nat)(v:UInt8)(xs:List UInt8): ∀k,(gH n c v xs k).length=xs.length
 | 0=>rfl
 | k+1=>by rw[gH,Y4,wa]
theorem TO(n c:Nat)(v:UInt8)(xs:List UInt8):gH n c v xs 0=xs:=rfl
theorem TP(n c k:Nat)(v:UInt8)(xs:List UInt8):gH n c v xs (k+1)=(gH n c v xs k).set (n*k+c) v:=rfl
def nt(xs:List UInt8)(b v:Int):List UInt8:=bif (!(((oi xs b.toNat:Nat):Int)==v%2)) then xs.set (b.toNat/8) (xs.getD (b.toNat/8) 0^^^UInt8.ofNat (1*2^(b.toNat%8))) else xs
theorem TQ(xs:List UInt8)(b v:Int):(nt xs b v).length=xs.length:=by
 unfold nt;cases (!(((oi xs b.toNat:Nat):Int)==v%2))
 ·rfl
 ·exact Y4
attribute [local irreducible] gH
theorem TR(xs:List UInt8)(g:xs.length=72)(b v:Int)(h0:0≤b)(h1:b<576):aa YU 271 #[.agg (rB 72 xs).toArray,i6 b,i6 v] [] [] N0 (λ_=> .agg (rB 72 (nt xs b v)).toArray):=by
 refine fG Tryz.func271 λw cs=>ra (λa=>[(3,pt (B0 a) 0),(6,pt (B1 a) 0)]) (λa=>[ob (B0 a) (rB 72 xs).toArray 217,ob (B1 a) (rB 72 (YV 72 0)).toArray 217]) λa=>r0 [(0,aS 217 (B0 a) 72 1),(2,.c [0] [] (aa.at (rd':=[ob (B0 a) (rB 72 xs).toArray 217]) (Tx (.slice (some ⟨(a 0).y 0,0,none⟩) 72 72) xs (by(simp only[LL,g];done)) b Om Om) (ei (Ty (d:=0) (λ_=>rfl) g) (λ_ h=>h)))),(4,.t (tv (av .and 3 (.tmp 10) (.const (i6 1)) (i6 v) (i6 1)) (λ_=>mw _ 1 2 Dc Dc Dc Dc)))] [(12,.bool (((oi xs b.toNat:Nat):Int) != (v%2)))] [] ?_;refine m6 ((oi xs b.toNat:Nat):Int) (v%2) (λf e=>?_) λf e=>?_
 ·exact rr (λ_=>[(0,.l 0),(2,.c [] [] (Gj xs (by(simp only[LL,g];done)) b Om Om)),(3,.s 1)]) N0 [] (λ_ L=>L.set 1 (ob (B1 a) (rB 72 (xs.set (b.toNat/8) ((xs.getD (b.toNat/8) 0)^^^(UInt8.ofNat (1*2^(b.toNat%8)))))).toArray 217)) λi=>aq (.agg (rB 72 (xs.set (b.toNat/8) ((xs.getD (b.toNat/8) 0)^^^(UInt8.ofNat (1*2^(b.toNat%8)))))).toArray) ab.zero (by unfold nt;(repeat (first | rw[f] | rw[ALct]))) [] [] [1]
 exact rs [(0,.l 0),(1,.s 1)] 1 (ob (B1 a) (rB 72 xs).toArray 217) (aq (.agg (rB 72 xs).toArray) ab.zero (by unfold nt;(repeat (first | rw[f] | rw[ALcf]))) [] [] [1])
theorem TT(xs:List UInt8)(f:xs.length=72)(c m:Nat)(o:m=1∨m=2)(i:c<aT (m:Int))(v:UInt8):aa YU 272 #[.agg (rB 72 xs).toArray,iN m,iN c,u1 (v.toNat:Int)] [] [] N0 (λ_=> .agg (rB 72 (gH (aT (m:Int)) c v xs (dB (m:Int)))).toArray):=by
 have n:=v9 (m:Int);have d:=f;refine fG Tryz.func272 λw cs=>ra (λa=>[(4,pt (B0 a) 0),(7,pt (B1 a) 0),(8,pt (B2 a) 0)]) (λa=>[ob (B0 a) (rB 72 xs).toArray 217,ob (B1 a) #[u1 (v.toNat:Int)] 5,ob (B2 a) (rB 72 (YV 72 0)).toArray 217]) λa=>rr (λ_=>[(2,.c [] [3,4] (TN m c))]) (λb=>[(12,.func (.func 288) #[] #[pt ((B2 b)) 0,pt (((b 2).y 1)) 0])]) [] (λb L=>L++[ob (B2 b) #[iN m] 3,ob ((b 2).y 1) #[iN c] 3]) λb=>?_;refine nR (encs:=λ(x:Nat)=>#[iN x]) (xs:=(Zg (dB (m:Int))).map λk=>aT (m:Int)*k+c) (KO:=[[((B2 b),.cells #[iN m] 3 (0,0))],[(((b 2).y 1),.cells #[iN c] 3 (0,0))]]) (TM (B2 b) ((b 2).y 1) c m o i) (enters_of Tryz.func288 Kr rfl) (λk=>k≤dB (m:Int)) (λk L=>L.set 0 (ob (B0 a) (rB 72 (gH (aT (m:Int)) c v xs k)).toArray 217)) [3,4] Om (by rw[TO];kernel_rfl) (λy k z q t g e=>?_) (λp e=>?_)
 ·obtain⟨h,rfl⟩:=mi g;have d:=(wa (aT (m:Int)) c v xs k).trans f;have u9:=z7 (m:=(m:Int)) (k:=k+1) Om;have j:aT (m:Int)*(k+1)=aT (m:Int)*k+aT (m:Int):=ZP _ _;refine r0 [] [(9,iN (aT (m:Int)*k+c))] [] ?_;refine ag [3,4] (λr u=>?_);exact rs [(1,.l 1),(2,iA 217 .i64 (B0 a) 0 72 1 (aT (m:Int)*k+c)),(3,wD 0 (B0 a) (aT (m:Int)*k+c) 217 (u1 (v.toNat:Int)) (rB 72 (gH (aT (m:Int)) c v xs k)) (rB 72 ((gH (aT (m:Int)) c v xs k).set (aT (m:Int)*k+c) v)) (jT Om) (mj (show(gH (aT (m:Int)) c v xs k).length=72 by(simp only[LL,f,d,f];done))))] 0 (ob (B0 a) (rB 72 ((gH (aT (m:Int)) c v xs k).set (aT (m:Int)*k+c) v)).toArray 217) (ne _ ⟨Om,rfl⟩ [0,1,2,3,4] (by rw[TP];kernel_rfl))
 refine cl [ob (B0 a) (rB 72 (gH (aT (m:Int)) c v xs (dB (m:Int)))).toArray 217,ob (B1 a) #[u1 (v.toNat:Int)] 5,ob (B2 a) (rB 72 (YV 72 0)).toArray 217,ob (B2 b) #[iN m] 3,ob ((b 2).y 1) #[iN c] 3] (by rw[Y5,Zh];kernel_rfl) ?_;simp only[Y5,Zh] at e;have d:=(wa (aT (m:Int)) c v xs (dB (m:Int))).trans f;exact rs [(0,.l 0),(1,.s 2)] 2 (ob (B2 a) (rB 72 (gH (aT (m:Int)) c v xs (dB (m:Int)))).toArray 217) (lf ab.zero [] [] [2])
end
section
structure mM (c:Cf) (f:Fa):Prop where
 ok:pq f c.R c.S c.B c.M c.C c.E=true
section
variable {c:Cf} {f:Fa}
theorem mM.all(h:mM c f):hold c.R c.S c.B c.M c.C f.x1 f.x2 f.x3 f.x4=true∧(0≤f.x6∧f.x6<576)∧(0≤f.x5∧f.x5<((aT (c.E:Int):Nat):Int)):=by
 have a:=h.ok;unfold pq at a;simp only[Y2] at a;exact⟨a.1.1.1.2,lS.1 a.1.1.2,lS.1 a.1.2⟩
end
theorem TU(xs:List UInt8)(d:xs.length=72)(c:Int)(m:Nat)(b:m=1∨m=2)(a:0≤c∧c<((aT (m:Int):Nat):Int))(v:UInt8):aa YU 272 #[.agg (rB 72 xs).toArray,iN m,i6 c,u1 (v.toNat:Int)] [] [] N0 (λ_=> .agg (rB 72 (gH (aT (m:Int)) c.toNat v xs (dB (m:Int)))).toArray):=by
 obtain⟨n,rfl⟩:=Int.eq_ofNat_of_zero_le a.1;exact TT xs d n m b Om v
def mN(m:Nat)(a b d e:Int)(xs:List UInt8)(f:Fa):List UInt8:=bif ((!(kE f))||(!(l0 f a b d e))) then xs else(bif (f.x0==2) then nt xs f.x6 f.x7 else gH (aT (m:Int)) f.x5.toNat (aN f.x7) xs (dB (m:Int)))
theorem Gt(m:Nat)(a b d e:Int)(xs:List UInt8)(f:Fa):(mN m a b d e xs f).length=xs.length:=by
 unfold mN;cases ((!(kE f))||(!(l0 f a b d e)))
 ·cases (f.x0==2)
  ·exact wa ..
  ·exact TQ ..
 ·rfl
def kb(m:Nat)(a b d e:Int)(xs:List UInt8)(l:List Fa):List UInt8:=l.foldl (mN m a b d e) xs
theorem wb(m:Nat)(a b d e:Int): ∀(l:List Fa) (xs:List UInt8),(kb m a b d e xs l).length=xs.length
 | [],_=>rfl
 | f::l,xs=>(wb m a b d e l _).trans (Gt ..)
theorem TV{m:Nat}{a b d e:Int}{xs:List UInt8}{l:List Fa}{i:Nat}(h:i<l.length):kb m a b d e xs (l.take (i+1))=mN m a b d e (kb m a b d e xs (l.take i)) (l.getD i b7):=Yx h
attribute [local irreducible] l0 kE aT dB gH nt hold dQ
theorem TW(c:Cf)(f:Fa)(p:mM c f)(z:c.E=1∨c.E=2)(e g h i:Int)(xs:List UInt8)(m:xs.length=72):aa YU 252 #[.agg #[i6 f.x0,i6 f.x1,i6 f.x2,i6 f.x3,i6 f.x4,i6 f.x5,i6 f.x6,i6 f.x7],iN c.E,.agg #[i6 e,i6 g,i6 h,i6 i],.agg (rB 72 xs).toArray] [] [] N0 (λ_=> .agg (rB 72 (mN c.E e g h i xs f)).toArray):=by
 have d:=p.all;have x:=d.2.1.1;have y:=d.2.1.2;have q:=d.2.2;have r:=z;refine fG Tryz.func252 λw cs=>ra (λb=>[(4,pt (B0 b) 0),(6,pt (B1 b) 0),(7,pt (B2 b) 0),(8,pt (B3 b) 0)]) (λb=>[ob (B0 b) #[i6 f.x0,i6 f.x1,i6 f.x2,i6 f.x3,i6 f.x4,i6 f.x5,i6 f.x6,i6 f.x7] 48,ob (B1 b) #[i6 e,i6 g,i6 h,i6 i] 46,ob (B2 b) (rB 72 xs).toArray 217,ob (B3 b) (rB 72 (YV 72 0)).toArray 217]) λb=>r0 [(0,.l 0),(1,.c [] [] (Gi f)),(4,.l 0),(5,.l 1),(6,.c [] [] (Ts f e g h i))] [(9,.bool ((!(kE f))||(!(l0 f e g h i))))] [] ?_;refine cB ((!(kE f))||(!(l0 f e g h i))) (λj=>?_) λj=>?_
 ·exact rr (λ_=>[(0,.l 2),(1,.s 3)]) N0 [] (λ_ L=>L.set 3 (ob (B3 b) (rB 72 xs).toArray 217)) λA=>aq (.agg (rB 72 xs).toArray) ab.zero (by unfold mN;(repeat (first | rw[j] | rw[ALct]))) [] [] [3]
 refine r0 [(1,.l 0)] [(20,.bool (f.x0==2))] [] ?_;refine cE f.x0 2 (λo n=>?_) λo n=>?_
 ·exact rr (λ_=>[(0,.l 2),(2,.l 0),(4,.l 0),(5,.c [] [] (TR xs (by(simp only[LL,m,m];done)) f.x6 f.x7 Om Om)),(6,.s 3)]) N0 [] (λ_ L=>L.set 3 (ob (B3 b) (rB 72 (nt xs f.x6 f.x7)).toArray 217)) λB=>aq (.agg (rB 72 (nt xs f.x6 f.x7)).toArray) ab.zero (by unfold mN;(repeat (first | rw[j] | rw[o] | rw[ALct] | rw[ALcf]))) [] [] [3]
 exact rs [(0,.l 2),(3,.l 0),(5,.l 0),(6,.t (tc (k:= .i64) (l:= .u8) (a:=i6 f.x7) λ_ _ _ u v=>ox u v)),(7,.c [] [] (TU xs (by(simp only[LL,m,m];done)) f.x5 c.E r q (aN f.x7))),(8,.s 3)] 3 (ob (B3 b) (rB 72 (gH (aT (c.E:Int)) (f.x5).toNat (aN f.x7) xs (dB (c.E:Int)))).toArray 217) (aq (.agg (rB 72 (gH (aT (c.E:Int)) (f.x5).toNat (aN f.x7) xs (dB (c.E:Int)))).toArray) ab.zero (by unfold mN;(repeat (first | rw[j] | rw[o] | rw[ALcf]))) [] [] [3])
attribute [local irreducible] mN
theorem TX(c:Cf)(z:c.E=1∨c.E=2)(v:Value)(l:List Fa)(y:l.length≤1000)(r: ∀f∈l,mM c f)(a b d e:Int)(xs:List UInt8)(j:xs.length=72):aa YU 225 #[v,iN c.E,.agg #[i6 a,i6 b,i6 d,i6 e],.agg (rB 72 xs).toArray] [.p (aP po v l)] [] N0 (λ_=> .agg (rB 72 (kb c.E a b d e xs l)).toArray):=by
 refine fO Tryz.func225 0 rfl λo i=>fG Tryz.func225 λw cs=>ra (λg=>[(6,pt (B0 g) 0),(7,pt (B1 g) 0),(8,pt (B2 g) 0)]) (λg=>[ob (B0 g) #[i6 a,i6 b,i6 d,i6 e] 46,ob (B1 g) (rB 72 xs).toArray 217,ob (B2 g) (rB 72 (YV 72 0)).toArray 217]) λg=>r0 [(1,eD i.1 0)] [(11,v),(12,iN l.length),(13,i6 0)] [] ?_;refine lq (λk=>k≤l.length) (λk=>[(13,iN k)]) (λk L=>L.set 2 (ob (B1 g) (rB 72 (kb c.E a b d e xs (l.take k))).toArray 217)) (λk=>l.length-k) 0 Om Kr (by rw[Zo];kernel_rfl) (λk x=>?_);have h:=(wb c.E a b d e (l.take k) xs).trans j;refine r0 [] [(14,.bool (decide ((k:Int)<(l.length:Int))))] [] ?_;refine cc (k:Int) (l.length:Int) (λu q=>?_) λu q=>?_
 ·refine rr (λ_=>[(0,fh i.1 0 k 8),(1,m7 lZ i.1 0 k 0 8),(3,.s 4)]) (λm=>[(10,pt (B2 m) 0)]) [] (λm L=>L++[ob (B2 m) #[i6 ((l.getD k b7).x0),i6 ((l.getD k b7).x1),i6 ((l.getD k b7).x2),i6 ((l.getD k b7).x3),i6 ((l.getD k b7).x4),i6 ((l.getD k b7).x5),i6 ((l.getD k b7).x6),i6 ((l.getD k b7).x7)] 48]) λm=>?_;have n:=(oe b7).2 r k Om;have t:=(Gt c.E a b d e (kb c.E a b d e xs (l.take k)) (l.getD k b7)).trans h;exact rs [(0,.l 4),(2,.l 1),(3,.l 2),(4,.c [] [] (TW c (l.getD k b7) n z a b d e (kb c.E a b d e xs (l.take k)) (by(simp only[LL,j,h,t,j];done)))),(5,.s 2)] 2 (ob (B1 g) (rB 72 (mN c.E a b d e (kb c.E a b d e xs (l.take k)) (l.getD k b7))).toArray 217) (r0 [(0,ad k 1)] [(13,iN (k+1))] [13] (le (k+1) Om Om Kr [0,1,2,3] (by rw[TV Om];kernel_rfl)))
 obtain rfl:k=l.length:=by omega
 refine cl [.c o,ob (B0 g) #[i6 a,i6 b,i6 d,i6 e] 46,ob (B1 g) (rB 72 (kb c.E a b d e xs l)).toArray 217,ob (B2 g) (rB 72 (YV 72 0)).toArray 217] (by rw[ZF];kernel_rfl) (lx ?_);have h:=(wb c.E a b d e l xs).trans j;exact rs [(0,.l 2),(1,.s 3)] 3 (ob (B2 g) (rB 72 (kb c.E a b d e xs l)).toArray 217) (lf ab.zero [] [(0,0)] [3])
end
theorem Gu(c:Cf)(b:cC c.R c.S c.B c.M c.C)(a p1 p2 p3:Int)(d:hold c.R c.S c.B c.M c.C a p1 p2 p3=true):aa YU 147 #[.agg #[iN c.R,iN c.S,iN c.B,iN c.M,iN c.C],.agg #[i6 a,i6 p1,i6 p2,i6 p3]] [] [] N0 (λ_=> .tuple #[i6 (dQ a p1 p2 p3),i6 0]):=by
 have h:=EM c.R c.S c.B c.M c.C b a p1 p2 p3;unfold se sf at h;rw[d] at h;exact h
theorem z9(c:Cf)(b:cC c.R c.S c.B c.M c.C)(i:Int)(a:fY c.R c.S c.B c.M c.C i=true):aa YU 68 #[.agg #[iN c.R,iN c.S,iN c.B,iN c.M,iN c.C],i6 i] [] [] N0 (λ_=> .tuple #[.agg #[i6 (i/1048576),i6 (i/65536%16),i6 (i/64%1024),i6 (i%64)],i6 0]):=by
 have h:=EN c.R c.S c.B c.M c.C b i;unfold sh si sj sk sm at h;unfold fY at a;rw[Bool.not_eq_true'] at a;rw[a] at h;exact h
theorem TZ{i:Nat}{w:World}{α:Type}{en:α→List Value}{v:Value}{xs:List α}{bs:aA}(h:aP en v xs bs):(av .eql 93 (.tmp i) (.const (.slice none 0 0)) v (.slice none 0 0)).run YU w= .ok (.bool (oS v)) w:=by
 obtain⟨a,r,rfl⟩:=h.2;cases a<;>kernel_rfl
theorem T0(v:Value)(xs:List Fa)(f:xs.length≤1000):aa YU 70 #[v] [.p (aP po v xs)] [] (λE=>[dp (E.val 0) xs]) (λE=>(E.val 0)):=by
 refine fO Tryz.func70 0 rfl λd a=>fG Tryz.func70 λw cs=>r0 [] [(2,.slice none 0 0)] [] (r0 [(1,.t (tv (av .eql 93 (.tmp 3) (.const (.slice none 0 0)) (v) (.slice none 0 0)) (λ_=>TZ a)))] [(4,.bool (oS v))] [] ?_);refine cB (oS v) (λe=>?_) λe=>?_
 ·exact r0 [] [(2,.slice none 0 0)] [2] (cz lZ (lf (.l [] [] [.slice none 0 0]) [1] [(0,0)] [] (hf:=by(try rewrite [uS a As]);kernel_rfl)))
 exact rr (λb=>[(0,.m (rn 1 po ([i6 0,i6 0,i6 0,i6 0,i6 0,i6 0,i6 0,i6 0]) 48)),(2,.m (mn 1 0 lZ.hT (.slice (some ⟨(b 0).y 0,0,none⟩) 0 0) (v) (xs:=[]) (ys:=xs) (.c d) (cP a.1) lZ.one lZ.lz (by simp only[LL];omega)))]) (λb=>[(2,(b 2).val 0)]) [2] (λb L=>L++[dp ((b 2).val 0) (([])++xs)]) λb=>lf (.l [] [] [(b 2).val 0]) [1] [(0,0)] [] (hf:=by(try rewrite [uS a As]);kernel_rfl)
theorem T1(v:Value)(xs:List Fa)(l:Nat)(a:l≤xs.length)(b:xs.length≤1000):aa YU 70 #[gM v l xs.length 8] [.p (aP po v xs)] [] (λE=>[dp (E.val 0) (xs.drop l)]) (λE=>E.val 0):=
 aa.at (T0 (gM v l xs.length 8) (xs.drop l) (by rw[Y6];omega)) (bP (λ_ h=>aP.drop (en:=po) (k:=8) (λ_=>rfl) h a) λ_ h=>h)
def kc(xs:List Fa):Int:=(bif decide (256≤(xs.length:Int)) then 14 else 0)
def jq(xs:List Fa)(f:Fa):List Fa:=(bif decide (256≤(xs.length:Int)) then xs else xs++([f]))
theorem Gv(v:Value)(xs:List Fa)(f:Fa):aa YU 170 #[v,.agg #[i6 f.x0,i6 f.x1,i6 f.x2,i6 f.x3,i6 f.x4,i6 f.x5,i6 f.x6,i6 f.x7]] [dp v xs] [0] (λE=>[dp (E.val 0) (jq xs f)]) (λE=> .tuple #[(E.val 0),i6 (kc xs)]):=by
 refine fG Tryz.func170 λw cs=>ra (λc=>[(3,pt (B0 c) 0),(4,.slice none 0 0),(5,i6 0)]) (λc=>[ob (B0 c) #[i6 f.x0,i6 f.x1,i6 f.x2,i6 f.x3,i6 f.x4,i6 f.x5,i6 f.x6,i6 f.x7] 48]) λc=>r0 [(1,eS lZ v xs 0)] [(8,.bool (decide (256≤(xs.length:Int))))] [] ?_;refine oI 256 (xs.length:Int) (λb d=>?_) λb d=>?_
 ·exact r0 [] [(4,v),(5,i6 14)] [4,5] (aq (.tuple #[v,i6 14]) (.l [] [] [v]) (by((try simp only[kc,jq]);(repeat (first | rw[b] | rw[ALct])))<;>rfl) [0] [] [] (hf:=by(try simp only[kc,jq]);(repeat (first | rw[b] | rw[ALct]));kernel_rfl))
 exact rr (λ_=>[(1,.l 1),(2,.m (bs 2 1)),(3,e7 lZ (v) xs 0 2 ([f]))]) (λa=>[(4,(a 3).val 0),(5,i6 0)]) [4,5] (λa L=>L.set 0 (dp ((a 3).val 0) (xs++([f])))++[ob (B2 a) #[i6 f.x0,i6 f.x1,i6 f.x2,i6 f.x3,i6 f.x4,i6 f.x5,i6 f.x6,i6 f.x7] 48]) λa=>aq (.tuple #[(a 3).val 0,i6 0]) (.l [] [] [(a 3).val 0]) (by((try simp only[kc,jq]);(repeat (first | rw[b] | rw[ALcf])))<;>rfl) [0] [] [] (hf:=by(try simp only[kc,jq]);(repeat (first | rw[b] | rw[ALcf]));kernel_rfl)
structure Dr where
 cells:Int→List UInt8
 Y:List Fa
 H:List Fa
def k9:List UInt8:=YV 72 0
def qu(r:List UInt8):Value:= .agg (rB 72 r).toArray
abbrev eJ(f:Int→List UInt8)(g:Nat):aC:= .p (lO qu k9 f g)
abbrev fZ(g:Nat)(c:Cf)(D:Dr)(L:ah):Prop:=∃(gm:Nat) (a b:Value),L=[ob g #[iN c.R,iN c.S,iN c.B,iN c.M,iN c.C,iN c.E,.map (some gm),a,b] 162,eJ D.cells gm,dp a D.Y,dp b D.H]
structure iB (c:Cf) (D:Dr):Prop where
 cl: ∀k,(D.cells k).length=72
 l1:D.Y.length≤256
 l2:D.H.length≤256
 f1: ∀f∈D.Y,mM c f
 f2: ∀f∈D.H,mM c f
def sP:Dr:=⟨λ_=>k9,[],[]⟩
theorem T2(c:Cf):iB c sP:=⟨λ_=>Y1,Y8 _,Y8 _,λf h=>absurd h Zb,λf h=>absurd h Zb⟩
def a1(D:Dr)(i:Int):Int:=bif (D.H.length:Int)==0 then i else bif (D.H.getD 0 b7).x0==7 then i else dQ (D.H.getD 0 b7).x1 (D.H.getD 0 b7).x2 (D.H.getD 0 b7).x3 (D.H.getD 0 b7).x4
def cS(D:Dr):Bool:=bif (D.H.length:Int)==0 then false else(D.H.getD 0 b7).x0==7
def ec(D:Dr):Dr:={D with H:=D.H.drop 1}
theorem Aa{α:Type}{l:List α}(h:(l.length:Int)=0):l.drop 1=l:=by
 have e:l=[]:=List.length_eq_zero_iff.1 Om;subst e;rfl
theorem sQ{c:Cf}{D:Dr}(h:iB c D):iB c (ec D):=⟨h.cl,h.l1,by show(D.H.drop 1).length≤256;rw[Y6];have:=h.l2;omega,h.f1,λf a=>h.f2 f (List.mem_of_mem_drop a)⟩
theorem Gw{c:Cf}{l:List Fa}(h: ∀f∈l,mM c f)(a:(l.length:Int)≠0):mM c (l.getD 0 b7):=(oe b7).2 h 0 Om
theorem T3(c:Cf)(b:cZ c):aa YU 112 #[.agg #[iN c.R,iN c.S,iN c.B,iN c.M,iN c.C],iN c.E] [] [] (λE=>[ob (E.y 0) #[iN c.R,iN c.S,iN c.B,iN c.M,iN c.C,iN c.E,.map (some (E.y 1)),.slice none 0 0,.slice none 0 0] 162,eJ (λ_=>k9) (E.y 1)]) (λE=> .tuple #[pt ((E.y 0)) 0,i6 0]):=by
 have g:=b.ly.O;have h:=b.E;refine fG Tryz.func112 λw cs=>ra (λd=>[(2,pt (B0 d) 0),(4,.pointer none),(5,i6 0)]) (λd=>[ob (B0 d) #[iN c.R,iN c.S,iN c.B,iN c.M,iN c.C] 23]) λd=>rF [(0,.l 0),(1,.c [] [] (vu c.R c.S c.B c.M c.C g))] 6 (r0 [(1,.c [] [] (oW (c.E:Int)))] [(10,.bool (!(((c.E:Int)==1)||((c.E:Int)==2))))] [] ?_);have f:(!(((c.E:Int)==1)||((c.E:Int)==2)))=false:=by rw[show((((c.E:Nat):Int)==1)||(((c.E:Nat):Int)==2))=true by rcases h with e | e<;>rw[e]<;>rfl];rfl
 exact cF (!(((c.E:Int)==1)||((c.E:Int)==2))) f (rr (λ_=>[(0,.l 0),(2,.m (mm 1 qu k9))]) (λa=>[(4,pt (B4 a) 0),(5,i6 0)]) [4,5] (λa L=>L++[eJ (λ_=>k9) (B2 a),ob (B4 a) #[iN c.R,iN c.S,iN c.B,iN c.M,iN c.C,iN c.E,.map (some (B2 a)),.slice none 0 0,.slice none 0 0] 162]) λa=>lf (.l [(a 4).y 0,(a 2).y 0] [] []) [2,1] [] [])
theorem T4(g:Nat)(c:Cf)(D:Dr):aa YU 113 #[pt g 0] [pk (fZ g c D)] [0] (λ_=>[pk (fZ g c D)]) (λ_=> .agg #[iN c.R,iN c.S,iN c.B,iN c.M,iN c.C]):=aa.pkZ Tryz.func113 λL b=>by
 obtain⟨gm,d,e,rfl⟩:=b;refine⟨[1,2,3],λ_=>[eJ D.cells gm,dp d D.Y,dp e D.H],?_,rfl,λE=>⟨rfl,rfl,⟨_,_,_,rfl⟩⟩⟩;exact fG Tryz.func113 λw cs=>ra (λa=>[(2,pt (B0 a) 0)]) (λa=>[ob (B0 a) #[i6 0,i6 0,i6 0,i6 0,i6 0] 23]) λa=>rs [(3,.l 0),(4,.s 4)] 4 (ob (B0 a) #[iN c.R,iN c.S,iN c.B,iN c.M,iN c.C] 23) (lf ab.zero [1,2,3] [(0,0)] [4])
theorem Ab(g:Nat)(c:Cf)(D:Dr):aa YU 107 #[pt g 0] [pk (fZ g c D)] [0] (λ_=>[pk (fZ g c D)]) (λ_=>iN c.E):=aa.pkZ Tryz.func107 λL a=>by
 obtain⟨gm,b,d,rfl⟩:=a;refine⟨[1,2,3],λ_=>[eJ D.cells gm,dp b D.Y,dp d D.H],?_,rfl,λE=>⟨rfl,rfl,⟨_,_,_,rfl⟩⟩⟩;exact fG Tryz.func107 λw cs=>r0 [] [(2,i6 0)] [] (r0 [(3,.l 0)] [(2,iN c.E)] [2] (lf ab.zero [1,2,3] [(0,0)] []))
theorem Gx(g:Nat)(c:Cf)(r:cZ c)(D:Dr)(t:iB c D)(i:Int)(gm:Nat)(f a:Value):aa YU 190 #[pt g 0,i6 i] [ob g #[iN c.R,iN c.S,iN c.B,iN c.M,iN c.C,iN c.E,.map (some gm),f,a] 162,eJ D.cells gm,dp f D.Y,dp a D.H] [0,1,2,3] (λE=>[ob g #[iN c.R,iN c.S,iN c.B,iN c.M,iN c.C,iN c.E,.map (some gm),f,(E.val 0)] 162,eJ ((ec D).cells) gm,dp f ((ec D).Y),dp (E.val 0) ((ec D).H)]) (λ_=> .agg #[i6 (a1 D i),.bool (cS D)]):=by
 have u:=t.l2;have n:=r.ly.O;refine fG Tryz.func190 λw cs=>ra (λe=>[(4,pt (B0 e) 0)]) (λe=>[ob (B0 e) #[i6 0,.bool false] 88]) λe=>r0 [(3,.l 0),(4,eS lZ a D.H 3)] [(13,.bool ((D.H.length:Int)==0))] [] ?_;refine cE (D.H.length:Int) 0 (λj d=>?_) λj d=>?_
 ·exact rr (λ_=>[(2,.s 4)]) N0 [] (λ_ L=>L.set 4 (ob (B0 e) #[i6 i,.bool false] 88)) λy=>aq (.agg #[i6 i,.bool false]) (.l [] [] [a]) (by unfold a1 cS;(repeat (first | rw[j] | rw[ALct]))) [0,1,2,3] [] [4] (hf:=by unfold ec;(try rewrite [Aa As]);kernel_rfl)
 have o:=(Gw t.f2 d).all.1;have v:0<D.H.length:=by have x:=d;omega
 refine rr (λ_=>[(3,.l 0),(4,cy lZ a D.H 3 0),(5,pO lZ a D.H 3 0 0 8),(7,.s 5)]) (λk=>[(5,pt (B6 k) 0)]) [] (λk L=>L++[ob (B6 k) #[i6 ((D.H.getD 0 b7).x0),i6 ((D.H.getD 0 b7).x1),i6 ((D.H.getD 0 b7).x2),i6 ((D.H.getD 0 b7).x3),i6 ((D.H.getD 0 b7).x4),i6 ((D.H.getD 0 b7).x5),i6 ((D.H.getD 0 b7).x6),i6 ((D.H.getD 0 b7).x7)] 48]) λk=>rr (λb=>[(4,.l 0),(5,Ki lZ a D.H 3 1),(6,.c [3] [6] (aa.at (rd':=[dp a D.H]) (T1 a D.H 1 Om Om) (bP (λ_ h=>ar.sq h) (λ_ h=>h)))),(9,.m (fv 0 6 (dp ((b 6).val 0) ((D.H).drop (1))) ((b 6).val 0) λbs h=>ar.one ((λ_ h=>h) bs h)))]) N0 [] (λb L=>L.set 0 (ob g #[iN c.R,iN c.S,iN c.B,iN c.M,iN c.C,iN c.E,.map (some gm),f,(b 6).val 0] 162)++[dp ((b 6).val 0) ((D.H).drop (1))]) λb=>r0 [(1,.l 5)] [(33,.bool (((D.H.getD 0 b7).x0)==7))] [] ?_;refine cE ((D.H.getD 0 b7).x0) 7 (λq p=>?_) λq p=>?_
 ·exact rr (λ_=>[(2,.s 4)]) N0 [] (λ_ L=>L.set 4 (ob (B0 e) #[i6 i,.bool true] 88)) λz=>aq (.agg #[i6 i,.bool true]) (.l [] [] [((b 6).val 0)]) (by unfold a1 cS;(repeat (first | rw[j] | rw[q] | rw[ALct] | rw[ALcf]))) [0,1,2,6] [] [4] (hf:=by unfold ec;(try rewrite [Aa As]);kernel_rfl)
 exact r0 [(3,.m (ls 0 ([iN c.R,iN c.S,iN c.B,iN c.M,iN c.C]))),(5,.m (ls 5 ([i6 ((D.H.getD 0 b7).x1),i6 ((D.H.getD 0 b7).x2),i6 ((D.H.getD 0 b7).x3),i6 ((D.H.getD 0 b7).x4)]))),(6,.c [] [] (Gu c n ((D.H.getD 0 b7).x1) ((D.H.getD 0 b7).x2) ((D.H.getD 0 b7).x3) ((D.H.getD 0 b7).x4) o)),] [(6,i6 (dQ ((D.H.getD 0 b7).x1) ((D.H.getD 0 b7).x2) ((D.H.getD 0 b7).x3) ((D.H.getD 0 b7).x4))),(7,i6 0)] [] (rF [] 47 (rs [(2,.s 4)] 4 (ob (B0 e) #[i6 (dQ ((D.H.getD 0 b7).x1) ((D.H.getD 0 b7).x2) ((D.H.getD 0 b7).x3) ((D.H.getD 0 b7).x4)),.bool false] 88) (aq (.agg #[i6 (dQ ((D.H.getD 0 b7).x1) ((D.H.getD 0 b7).x2) ((D.H.getD 0 b7).x3) ((D.H.getD 0 b7).x4)),.bool false]) (.l [] [] [((b 6).val 0)]) (by unfold a1 cS;(repeat (first | rw[j] | rw[q] | rw[ALcf]))) [0,1,2,6] [] [4] (hf:=by unfold ec;(try rewrite [Aa As]);kernel_rfl))))
section
theorem Ad{R S B M C:Nat}(f:cC R S B M C){a p1 p2 p3:Int}(h:hold R S B M C a p1 p2 p3=true):fY R S B M C (dQ a p1 p2 p3)=true:=by
 obtain⟨b,c,d,e,g,i⟩:=PR f.bd h;unfold fY;rw[b,c,d,e,h,bj Om];rfl
theorem T5{c:Cf}(a:cZ c){D:Dr}(d:iB c D){i:Int}(b:fY c.R c.S c.B c.M c.C i=true):fY c.R c.S c.B c.M c.C (a1 D i)=true:=by
 unfold a1;cases h:((D.H.length:Int)==0)
 ·rw[ALcf];cases (D.H.getD 0 b7).x0==7
  ·exact Ad a.ly.O (Gw d.f2 (ne_of_beq_false h)).all.1
  ·exact b
 ·exact b
def qv(c:Cf)(D:Dr)(i:Int):List UInt8:=kb c.E (i/1048576) (i/65536%16) (i/64%1024) (i%64) (D.cells i) D.Y
theorem Ae{c:Cf}{D:Dr}(a:iB c D)(i:Int):(qv c D i).length=72:=(wb ..).trans (a.cl i)
def b8(c:Cf)(D:Dr)(i:Int):List UInt8:=bif cS D then YV 72 0 else qv c (ec D) (a1 D i)
theorem mO{c:Cf}{D:Dr}(a:iB c D)(i:Int):(b8 c D i).length=72:=by
 unfold b8;cases cS D
 ·exact Ae (sQ a) _
 ·exact Y1
def om(D:Dr)(i:Int)(r:List UInt8):Dr:=⟨bif !(cS D) then du D.cells (a1 D i) r else D.cells,D.Y,D.H.drop 1⟩
theorem sS{f:Int→List UInt8}{n:Nat}(h: ∀k,(f k).length=n)(i:Int){r:List UInt8}(a:r.length=n)(k:Int):(du f i r k).length=n:=by
 unfold du
 split<;>simp [*]
theorem Gy{c:Cf}{D:Dr}(h:iB c D)(i:Int){r:List UInt8}(b:r.length=72):iB c (om D i r):=by
 have a:=sQ h;refine⟨?_,a.l1,a.l2,a.f1,a.f2⟩;show ∀k,((bif !(cS D) then du D.cells (a1 D i) r else D.cells) k).length=72;cases cS D
 ·exact sS h.cl _ b
 ·exact h.cl
def Gz(xs:List UInt8)(b:Int):List UInt8:=xs.set (b.toNat/8) (xs.getD (b.toNat/8) 0^^^UInt8.ofNat (1*2^(b.toNat%8)))
def kF(c:Cf)(f:Fa):Bool:=pq f c.R c.S c.B c.M c.C c.E
def kG(c:Cf)(D:Dr)(f:Fa):Dr:=
 ⟨bif !(kF c f) then D.cells else bif f.x0==1 then du D.cells (dQ f.x1 f.x2 f.x3 f.x4) (Gz (D.cells (dQ f.x1 f.x2 f.x3 f.x4)) f.x6) else D.cells,
  bif !(kF c f) then D.Y else bif f.x0==1 then D.Y else bif kE f then jq D.Y f else D.Y,
  bif !(kF c f) then D.H else bif f.x0==1 then D.H else bif kE f then D.H else jq D.H f⟩
def gV(c:Cf)(D:Dr)(f:Fa):Int:=bif !(kF c f) then 10 else bif f.x0==1 then 0 else bif kE f then kc D.Y else kc D.H
theorem GA{xs:List Fa}(f:Fa)(h:xs.length≤256):(jq xs f).length≤256:=by
 unfold jq;cases a:decide (256≤(xs.length:Int))
 ·have:=of_decide_eq_false a;simp only[ALcf,YW,List.length_singleton];omega
 ·exact h
theorem GB{xs:List Fa}{f:Fa}{p:Fa→Prop}(h: ∀x∈xs,p x)(hf:p f): ∀x∈jq xs f,p x:=by
 unfold jq;cases decide (256≤(xs.length:Int))
 ·simp only[ALcf,List.mem_append,List.mem_singleton];rintro x (a | rfl)
  ·exact h x a
  ·exact hf
 ·exact h
theorem T6{c:Cf}{D:Dr}(h:iB c D)(f:Fa):iB c (kG c D f):=by
 unfold kG;cases b:kF c f
 ·exact⟨h.cl,h.l1,h.l2,h.f1,h.f2⟩
 ·have a:mM c f:=⟨b⟩;cases f.x0==1
  ·cases kE f
   ·exact⟨h.cl,h.l1,GA f h.l2,h.f1,GB h.f2 a⟩
   ·exact⟨h.cl,GA f h.l1,h.l2,GB h.f1 a,h.f2⟩
  ·exact⟨sS h.cl _ (by unfold Gz;rw[Y4];exact h.cl _),h.l1,h.l2,h.f1,h.f2⟩
attribute [local irreducible] kb a1 cS fY dQ kE kc jq pq
theorem T7(g:Nat)(c:Cf)(d:cZ c)(D:Dr)(b:iB c D)(i:Int)(n:fY c.R c.S c.B c.M c.C i=true)(gm:Nat)(a p:Value):aa YU 191 #[pt g 0,i6 i] [ob g #[iN c.R,iN c.S,iN c.B,iN c.M,iN c.C,iN c.E,.map (some gm),a,p] 162,eJ D.cells gm,dp a D.Y,dp p D.H] [1,2,3] (λ_=>[eJ D.cells gm,dp a D.Y,dp p D.H]) (λ_=> .tuple #[.agg (rB 72 (qv c D i)).toArray,i6 0]):=by
 have j:=d.ly.O;have k:=n;have q:=b.l1;have l:=b.cl i;have o:=Ae b i;have r:=d.E;exact fG Tryz.func191 λw cs=>ra (λe=>[(4,pt (B0 e) 0),(5,i6 0)]) (λe=>[ob (B0 e) (rB 72 (YV 72 0)).toArray 217]) λe=>rr (λ_=>[(3,.m (ls 0 ([iN c.R,iN c.S,iN c.B,iN c.M,iN c.C]))),(5,.c [] [] (z9 c j i k)),(9,.m (al 5)),(10,.s 5)]) (λf=>[(6,pt ((f 9).y 0) 0),(7,i6 0)]) [] (λf L=>L++[ob ((f 9).y 0) #[i6 (i/1048576),i6 (i/65536%16),i6 (i/64%1024),i6 (i%64)] 46]) λf=>rF [] 18 (rr (λ_=>[(3,.m (ld 0 (a))),(7,.m (ld 0 (iN c.E))),(8,.m (ls 5 ([i6 (i/1048576),i6 (i/65536%16),i6 (i/64%1024),i6 (i%64)]))),(12,.m (ld 0 (.map (some gm)))),(14,.m (mg 1 (eJ D.cells gm) gm i (λ_ h=>h))),(15,.c [2] [] (aa.at (rd':=[dp a D.Y]) (TX c r a D.Y (Y3 b.l1 Dc) b.f1 (i/1048576) (i/65536%16) (i/64%1024) (i%64) (D.cells i) (by(simp only[LL,l,o];done))) (bP (λ_ h=>ar.sq h) (λ_ h=>h)))),(16,.s 4)]) (λ_=>[(5,i6 0)]) [5] (λ_ L=>L.set 4 (ob (B0 e) (rB 72 (kb c.E (i/1048576) (i/65536%16) (i/64%1024) (i%64) (D.cells i) D.Y)).toArray 217)) λt=>aq (.tuple #[.agg (rB 72 (kb c.E (i/1048576) (i/65536%16) (i/64%1024) (i%64) (D.cells i) D.Y)).toArray,i6 0]) ab.zero ba [1,2,3] [(0,0)] [4])
theorem T8(g:Nat)(c:Cf)(d:cZ c)(D:Dr)(o:iB c D)(i:Int)(k:fY c.R c.S c.B c.M c.C i=true)(r:List UInt8)(t:r.length=72):aa YU 204 #[pt g 0,i6 i,.agg (rB 72 r).toArray] [pk (fZ g c D)] [0] (λ_=>[pk (fZ g c (om D i r))]) (λ_=> .tuple #[.agg #[i6 (a1 D i),.bool (cS D)],i6 0]):=aa.pkZ Tryz.func204 λL p=>by
 obtain⟨gm,e,q,rfl⟩:=p;refine⟨[0,1,2,3],λE=>[ob g #[iN c.R,iN c.S,iN c.B,iN c.M,iN c.C,iN c.E,.map (some gm),e,(E.val 0)] 162,eJ ((om D i r).cells) gm,dp e ((ec D).Y),dp (E.val 0) ((ec D).H)],?_,rfl,λE=>⟨rfl,rfl,⟨_,_,_,rfl⟩⟩⟩;have f:=d.ly.O;have h:=k;refine fG Tryz.func204 λw cs=>ra (λa=>[(5,pt (B0 a) 0),(6,pt (B1 a) 0),(7,i6 0)]) (λa=>[ob (B0 a) (rB 72 r).toArray 217,ob (B1 a) #[i6 0,.bool false] 88]) λa=>rr (λ_=>[(3,.m (ls 0 ([iN c.R,iN c.S,iN c.B,iN c.M,iN c.C]))),(5,.c [] [] (z9 c f i h)),(9,.m (al 6)),(10,.s 6)]) (λ_=>[(9,i6 0)]) [] (λn L=>L++[ob ((n 9).y 0) #[i6 (i/1048576),i6 (i/65536%16),i6 (i/64%1024),i6 (i%64)] 46]) λn=>rF [] 21 (rr (λ_=>[(2,.c [0,1,2,3] [0,1,2,3] (Gx g c d D o i gm e q)),(4,.s 7)]) (λb=>[(10,pt (B3 b) 0)]) [] (λb L=>(((L.set 0 (ob g #[iN c.R,iN c.S,iN c.B,iN c.M,iN c.C,iN c.E,.map (some gm),e,((b 2).val 0)] 162)).set 1 (eJ ((ec D).cells) gm)).set 2 (dp e ((ec D).Y))).set 3 (dp ((b 2).val 0) ((ec D).H))++[ob (B3 b) #[i6 (a1 D i),.bool (cS D)] 88]) λb=>r0 [(1,.l 7)] [(29,.bool (!(cS D)))] [] ?_);refine cB (!(cS D)) (λj=>?_) λj=>?_
 ·exact rr (λ_=>[(3,.l 0),(5,.l 7),(6,.l 4),(7,.m (mu 1 gm (a1 D i) qu k9 ((ec D).cells) r))]) N0 [] (λ_ L=>L.set 1 (eJ (du ((ec D).cells) (a1 D i) r) gm)) λu=>rr (λ_=>[(0,.l 7),(1,.s 5)]) (λ_=>[(7,i6 0)]) [7] (λ_ L=>L.set 5 (ob (B1 a) #[i6 (a1 D i),.bool (cS D)] 88)) λv=>lf (.l [] [] [((b 2).val 0)]) [0,1,2,3] [] [5] (hf:=by unfold om;(repeat (first | rw[j] | rw[ALct]));kernel_rfl)
 exact rr (λ_=>[(0,.l 7),(1,.s 5)]) (λ_=>[(7,i6 0)]) [7] (λ_ L=>L.set 5 (ob (B1 a) #[i6 (a1 D i),.bool (cS D)] 88)) λx=>lf (.l [] [] [((b 2).val 0)]) [0,1,2,3] [] [5] (hf:=by unfold om;(repeat (first | rw[j] | rw[ALcf]));kernel_rfl)
theorem T9(g:Nat)(c:Cf)(b:cZ c)(D:Dr)(h:iB c D)(i:Int)(f:fY c.R c.S c.B c.M c.C i=true):aa YU 148 #[pt g 0,i6 i] [pk (fZ g c D)] [0] (λ_=>[pk (fZ g c (ec D))]) (λ_=> .tuple #[.agg (rB 72 (b8 c D i)).toArray,.agg #[i6 (a1 D i),.bool (cS D)],i6 0]):=aa.pkZ Tryz.func148 λL r=>by
 obtain⟨gm,e,u,rfl⟩:=r;refine⟨[0,1,2,3],λE=>[ob g #[iN c.R,iN c.S,iN c.B,iN c.M,iN c.C,iN c.E,.map (some gm),e,(E.val 0)] 162,eJ ((ec D).cells) gm,dp e ((ec D).Y),dp (E.val 0) ((ec D).H)],?_,rfl,λE=>⟨rfl,rfl,⟨_,_,_,rfl⟩⟩⟩;have k:=b.ly.O;have n:=f;have p:=T5 b h f;have t:=Ae (sQ h) (a1 D i);refine fG Tryz.func148 λw cs=>ra (λd=>[(4,pt (B0 d) 0),(5,pt (B1 d) 0),(6,i6 0)]) (λd=>[ob (B0 d) (rB 72 (YV 72 0)).toArray 217,ob (B1 d) #[i6 0,.bool false] 88]) λd=>rr (λ_=>[(3,.m (ls 0 ([iN c.R,iN c.S,iN c.B,iN c.M,iN c.C]))),(5,.c [] [] (z9 c k i n)),(9,.m (al 6)),(10,.s 6)]) (λ_=>[(8,i6 0)]) [] (λq L=>L++[ob ((q 9).y 0) #[i6 (i/1048576),i6 (i/65536%16),i6 (i/64%1024),i6 (i%64)] 46]) λq=>rF [] 22 (rr (λ_=>[(2,.c [0,1,2,3] [0,1,2,3] (Gx g c b D h i gm e u)),(4,.s 7)]) (λa=>[(9,pt (B3 a) 0)]) [] (λa L=>(((L.set 0 (ob g #[iN c.R,iN c.S,iN c.B,iN c.M,iN c.C,iN c.E,.map (some gm),e,((a 2).val 0)] 162)).set 1 (eJ ((ec D).cells) gm)).set 2 (dp e ((ec D).Y))).set 3 (dp ((a 2).val 0) ((ec D).H))++[ob (B3 a) #[i6 (a1 D i),.bool (cS D)] 88]) λa=>r0 [(1,.l 7)] [(30,.bool (cS D))] [] ?_);refine cB (cS D) (λo=>?_) λo=>?_
 ·exact rr (λ_=>[(1,.l 7),(2,.s 4),(3,.s 5)]) (λ_=>[(6,i6 0)]) [6] (λ_ L=>L.set 5 (ob (B1 d) #[i6 (a1 D i),.bool (cS D)] 88)) λv=>aq (.tuple #[.agg (rB 72 (YV 72 0)).toArray,.agg #[i6 (a1 D i),.bool (cS D)],i6 0]) (.l [] [] [((a 2).val 0)]) (by unfold b8;(repeat (first | rw[o] | rw[ALct]))) [0,1,2,3] [] [4,5]
 exact rr (λ_=>[(2,.l 7),(3,.c [0,1,2,3] [1,2,3] (T7 g c b (ec D) (sQ h) (a1 D i) p gm e ((a 2).val 0))),(8,.s 8)]) (λj=>[(10,pt (B7 j) 0),(11,i6 0)]) [] (λj L=>L.set 3 (dp ((a 2).val 0) ((ec D).H))++[ob (B7 j) (rB 72 (qv c (ec D) (a1 D i))).toArray 217]) λj=>rr (λ_=>[(0,.l 8),(1,.l 7),(3,.s 4),(4,.s 5)]) (λ_=>[(6,i6 0)]) [6] (λ_ L=>(L.set 4 (ob (B0 d) (rB 72 (qv c (ec D) (a1 D i))).toArray 217)).set 5 (ob (B1 d) #[i6 (a1 D i),.bool (cS D)] 88)) λx=>aq (.tuple #[.agg (rB 72 (qv c (ec D) (a1 D i))).toArray,.agg #[i6 (a1 D i),.bool (cS D)],i6 0]) (.l [] [] [((a 2).val 0)]) (by unfold b8;(repeat (first | rw[o] | rw[ALcf]))) [0,1,2,3] [] [4,5]
theorem Ua(g:Nat)(c:Cf)(k:cZ c)(D:Dr)(u:iB c D)(f:Fa):aa YU 129 #[pt g 0,.agg #[i6 f.x0,i6 f.x1,i6 f.x2,i6 f.x3,i6 f.x4,i6 f.x5,i6 f.x6,i6 f.x7]] [pk (fZ g c D)] [0] (λ_=>[pk (fZ g c (kG c D f))]) (λ_=>i6 (gV c D f)):=aa.pkZ Tryz.func129 λL x=>by
 obtain⟨gm,n,o,rfl⟩:=x;refine⟨[0,1,2,3],λE=>[ob g #[iN c.R,iN c.S,iN c.B,iN c.M,iN c.C,iN c.E,.map (some gm),(E.val 0),(E.val 1)] 162,eJ ((kG c D f).cells) gm,dp (E.val 0) ((kG c D f).Y),dp (E.val 1) ((kG c D f).H)],?_,rfl,λE=>⟨rfl,rfl,⟨_,_,_,rfl⟩⟩⟩;have q:=k.ly.O;have t:=u.cl (dQ f.x1 f.x2 f.x3 f.x4);have v:=k.ly.O;refine fG Tryz.func129 λw cs=>ra (λp=>[(3,pt (B0 p) 0),(4,i6 0)]) (λp=>[ob (B0 p) #[i6 f.x0,i6 f.x1,i6 f.x2,i6 f.x3,i6 f.x4,i6 f.x5,i6 f.x6,i6 f.x7] 48]) λp=>r0 [(0,.m (ls 4 ([i6 f.x0,i6 f.x1,i6 f.x2,i6 f.x3,i6 f.x4,i6 f.x5,i6 f.x6,i6 f.x7]))),(4,.m (ls 0 ([iN c.R,iN c.S,iN c.B,iN c.M,iN c.C]))),(8,.m (ld 0 (iN c.E))),(9,.c [] [] (Tu f c.R c.S c.B c.M c.C c.E v k.E)),] [(19,.bool (!(pq f c.R c.S c.B c.M c.C c.E)))] [] ?_;refine cB (!(pq f c.R c.S c.B c.M c.C c.E)) (λe=>?_) λe=>?_
 ·exact r0 [] [(4,i6 10)] [4] (aq (i6 10) (.l [] [] [n,o]) (by unfold gV kF;(repeat (first | rw[e] | rw[ALct]))) [0,1,2,3] [] [] (hf:=by unfold kG kF;(repeat (first | rw[e] | rw[ALct]));kernel_rfl))
 have i:mM c f:=⟨by simpa using e⟩;have r:=i.all.1;refine r0 [(1,.l 4)] [(31,.bool (f.x0==1))] [] ?_;refine cE f.x0 1 (λj s=>?_) λj s=>?_
 ·exact r0 [(3,.m (ls 0 ([iN c.R,iN c.S,iN c.B,iN c.M,iN c.C]))),(5,.m (ls 4 ([i6 f.x1,i6 f.x2,i6 f.x3,i6 f.x4]))),(6,.c [] [] (Gu c q f.x1 f.x2 f.x3 f.x4 r)),] [(5,i6 (dQ f.x1 f.x2 f.x3 f.x4)),(6,i6 0)] [] (rs [(3,.m (ld 0 (.map (some gm)))),(8,.m (ld 0 (.map (some gm)))),(10,.m (mg 1 (eJ D.cells gm) gm (dQ f.x1 f.x2 f.x3 f.x4) (λ_ h=>h))),(12,.m (ld 4 (i6 f.x6))),(13,.c [] [] (Gj (D.cells (dQ f.x1 f.x2 f.x3 f.x4)) (by(simp only[LL,t];done)) f.x6 i.all.2.1.1 i.all.2.1.2)),(14,.m (mu 1 gm (dQ f.x1 f.x2 f.x3 f.x4) qu k9 D.cells ((D.cells (dQ f.x1 f.x2 f.x3 f.x4)).set (f.x6.toNat/8) (((D.cells (dQ f.x1 f.x2 f.x3 f.x4)).getD (f.x6.toNat/8) 0)^^^(UInt8.ofNat (1*2^(f.x6.toNat%8)))))))] 1 (eJ (du D.cells (dQ f.x1 f.x2 f.x3 f.x4) ((D.cells (dQ f.x1 f.x2 f.x3 f.x4)).set (f.x6.toNat/8) (((D.cells (dQ f.x1 f.x2 f.x3 f.x4)).getD (f.x6.toNat/8) 0)^^^(UInt8.ofNat (1*2^(f.x6.toNat%8)))))) gm) (r0 [] [(4,i6 0)] [4] (aq (i6 0) (.l [] [] [n,o]) (by unfold gV kF;(repeat (first | rw[e] | rw[j] | rw[ALct] | rw[ALcf]))) [0,1,2,3] [] [] (hf:=by unfold kG kF;(repeat (first | rw[e] | rw[j] | rw[ALct] | rw[ALcf]));kernel_rfl))))
 refine r0 [(0,.l 4),(1,.c [] [] (Gi f))] [(60,.bool (kE f))] [] ?_;refine cB (kE f) (λd=>?_) λd=>?_
 ·exact rr (λa=>[(4,.m (ld 0 (n))),(5,.m (ls 4 ([i6 f.x0,i6 f.x1,i6 f.x2,i6 f.x3,i6 f.x4,i6 f.x5,i6 f.x6,i6 f.x7]))),(6,.c [2] [2] (Gv n D.Y f)),(12,.m (fv 0 2 (dp ((a 6).val 0) (jq D.Y f)) ((a 6).val 0) λbs h=>ar.one ((λ_ h=>h) bs h)))]) (λ_=>[(4,i6 (kc D.Y))]) [4] (λa L=>(L.set 0 (ob g #[iN c.R,iN c.S,iN c.B,iN c.M,iN c.C,iN c.E,.map (some gm),((a 6).val 0),o] 162)).set 2 (dp ((a 6).val 0) (jq D.Y f))) λa=>r0 [] [(4,i6 (kc D.Y))] [4] (aq (i6 (kc D.Y)) (.l [] [] [((a 6).val 0),o]) (by unfold gV kF;(repeat (first | rw[e] | rw[j] | rw[d] | rw[ALct] | rw[ALcf]))) [0,1,2,3] [] [] (hf:=by unfold kG kF;(repeat (first | rw[e] | rw[j] | rw[d] | rw[ALct] | rw[ALcf]));kernel_rfl))
 exact rr (λb=>[(4,.m (ld 0 (o))),(5,.m (ls 4 ([i6 f.x0,i6 f.x1,i6 f.x2,i6 f.x3,i6 f.x4,i6 f.x5,i6 f.x6,i6 f.x7]))),(6,.c [3] [3] (Gv o D.H f)),(12,.m (fv 0 3 (dp ((b 6).val 0) (jq D.H f)) ((b 6).val 0) λbs h=>ar.one ((λ_ h=>h) bs h)))]) (λ_=>[(4,i6 (kc D.H))]) [4] (λb L=>(L.set 0 (ob g #[iN c.R,iN c.S,iN c.B,iN c.M,iN c.C,iN c.E,.map (some gm),n,((b 6).val 0)] 162)).set 3 (dp ((b 6).val 0) (jq D.H f))) λb=>r0 [] [(4,i6 (kc D.H))] [4] (aq (i6 (kc D.H)) (.l [] [] [n,((b 6).val 0)]) (by unfold gV kF;(repeat (first | rw[e] | rw[j] | rw[d] | rw[ALcf]))) [0,1,2,3] [] [] (hf:=by unfold kG kF;(repeat (first | rw[e] | rw[j] | rw[d] | rw[ALcf]));kernel_rfl))
end
section
theorem GC{α β:Type}{en:α→List Value}{z:List Value}{T:TypeId}{b:β→List Value}{e:List Value}{c:TypeId}{S:ah→Prop}{L:ah}{ds:List aA}(d:S (L++[.p (ar en z T (.slice none 0 0) ([]:List α)),.p (ar b e c (.slice none 0 0) ([]:List β))]))(h:bo L ds): ∃a,bo [pk S] a∧a.flatten=ds.flatten:=
 ⟨[ds.flatten],⟨⟨_,ds++[[],[]],d,kj h ⟨ar.nil none,ar.nil none,trivial⟩,by simp⟩,trivial⟩,by simp⟩
theorem Ub(c:Cf)(a:cZ c):aa YU 112 #[.agg #[iN c.R,iN c.S,iN c.B,iN c.M,iN c.C],iN c.E] [] [] (λE=>[pk (fZ (E.y 0) c sP)]) (λE=> .tuple #[pt (E.y 0) 0,i6 0]):=(T3 c a).outs λE d b=>GC ⟨_,_,_,rfl⟩ b
structure Ac where
 wr:Bool
 ix:Int
 wt:Int
 dr:Bool
 ex:Int
 mr:Bool
def aD:Ac:=⟨false,0,0,false,0,false⟩
def Af(x:Ac):List Value:=[.bool x.wr,i6 x.ix,i6 x.wt,.bool x.dr,i6 x.ex,.bool x.mr]
def sT:Kd YU Ac:=⟨Af,[.bool false,i6 0,i6 0,.bool false,i6 0,.bool false],142,90,aD,6,λ_=>rfl,rfl,λ_=>rfl,dT.mk' Kr Kr rfl⟩
abbrev lh(v:Value)(xs:List Ac):aC:= .p (ar Af ([.bool false,i6 0,i6 0,.bool false,i6 0,.bool false]) 90 v xs)
def Ag(x:Int):Value:= .int .i64 x
abbrev lj(f:Int→Int)(g:Nat):aC:= .p (lO Ag 0 f g)
structure Dv where
 D:Dr
 W:Int→List UInt8
 Z:Int→Int
 l:List Ac
abbrev bk(g a:Nat)(c:Cf)(V:Dv)(L:ah):Prop:=∃(gm gk:Nat) (v:Value),L=[ob g #[pt a 0,.map (some gm),.map (some gk),v] 144,pk (fZ a c V.D),eJ V.W gm,lj V.Z gk,lh v V.l]
structure nu (c:Cf) (V:Dv):Prop where
 D:iB c V.D
 gl: ∀k,(V.W k).length=72
 ll:V.l.length≤900000
def sU:Dv:=⟨sP,λ_=>k9,λ_=>0,[]⟩
def iC(V:Dv)(i:Int)(r:List UInt8)(mk:Int):Dv:=⟨om V.D i r,du V.W i r,du V.Z i mk,V.l++[⟨true,i,a1 V.D i,cS V.D,0,false⟩]⟩
def lB(c:Cf)(V:Dv)(i:Int):Ac:=⟨false,i,a1 V.D i,cS V.D,((b0 (c.E:Int) (b8 c V.D i) (V.W (a1 V.D i)):Nat):Int),bif !(cS V.D) then V.Z (a1 V.D i)==1 else false⟩
def qw(c:Cf)(V:Dv)(i:Int):Dv:=⟨ec V.D,V.W,V.Z,V.l++[lB c V i]⟩
def nv(c:Cf)(V:Dv)(f:Fa):Dv:={V with D:=kG c V.D f}
attribute [local irreducible] b0 b8 a1 cS fY
theorem Uc(g b c a:Nat)(v:Value)(f:Int→Int)(i:Int):aa YU 150 #[pt g 0,i6 i] [ob g #[pt b 0,.map (some c),.map (some a),v] 144,lj f a] [1] (λ_=>[lj f a]) (λ_=> .bool ((f i)==1)):=by
 exact fG Tryz.func150 λw cs=>r0 [] [(4,.bool false)] [] (r0 [(3,.l 0),(5,.m (mg 1 (lj f a) a i (λ_ h=>h)))] [(4,.bool ((f i)==1))] [4] (lf ab.zero [1] [(0,0)] []))
theorem Ah(g a:Nat)(c:Cf)(V:Dv):aa YU 36 #[pt g 0] [pk (bk g a c V)] [0] (λ_=>[pk (bk g a c V)]) (λ_=>pt a 0):=aa.pkZ Tryz.func36 λL d=>by
 obtain⟨gm,b,v,rfl⟩:=d;refine⟨[1,2,3,4],λ_=>[pk (fZ a c V.D),eJ V.W gm,lj V.Z b,lh v V.l],?_,rfl,λE=>⟨rfl,rfl,⟨_,_,_,rfl⟩⟩⟩;exact fG Tryz.func36 λw cs=>r0 [] [(2,.pointer none)] [] (r0 [(3,.l 0)] [(2,pt a 0)] [2] (lf ab.zero [1,2,3,4] [(0,0)] []))
theorem Ud(g a:Nat)(c:Cf)(V:Dv):aa YU 42 #[pt g 0] [pk (bk g a c V)] [0] (λ_=>[pk (bk g a c V)]) (λ_=>iN V.l.length):=aa.pkZ Tryz.func42 λL d=>by
 obtain⟨gm,b,v,rfl⟩:=d;refine⟨[1,2,3,4],λ_=>[pk (fZ a c V.D),eJ V.W gm,lj V.Z b,lh v V.l],?_,rfl,λE=>⟨rfl,rfl,⟨_,_,_,rfl⟩⟩⟩;exact fG Tryz.func42 λw cs=>r0 [] [(2,i6 0)] [] (r0 [(3,.l 0),(4,eS sT v V.l 4)] [(2,iN V.l.length)] [2] (lf ab.zero [1,2,3,4] [(0,0)] []))
theorem Ue(g a:Nat)(c:Cf)(d:cZ c)(V:Dv)(i:nu c V)(f:Fa):aa YU 90 #[pt g 0,.agg #[i6 f.x0,i6 f.x1,i6 f.x2,i6 f.x3,i6 f.x4,i6 f.x5,i6 f.x6,i6 f.x7]] [pk (bk g a c V)] [0] (λ_=>[pk (bk g a c (nv c V f))]) (λ_=>i6 (gV c V.D f)):=aa.pkZ Tryz.func90 λL h=>by
 obtain⟨gm,e,v,rfl⟩:=h;refine⟨[1,2,3,4],λ_=>[pk (fZ a c (kG c V.D f)),eJ V.W gm,lj V.Z e,lh v V.l],?_,rfl,λE=>⟨rfl,rfl,⟨_,_,_,rfl⟩⟩⟩;exact fG Tryz.func90 λw cs=>ra (λb=>[(3,pt (B0 b) 0),(4,i6 0)]) (λb=>[ob (B0 b) #[i6 f.x0,i6 f.x1,i6 f.x2,i6 f.x3,i6 f.x4,i6 f.x5,i6 f.x6,i6 f.x7] 48]) λb=>rr (λ_=>[(3,.l 0),(4,.l 5),(5,.c [1] [1] (Ua a c d V.D i.D f))]) (λ_=>[(4,i6 (gV c V.D f))]) [4] (λ_ L=>L.set 1 ((pk (fZ a c (kG c V.D f))))) λj=>lf ab.zero [1,2,3,4] [(0,0)] []
theorem GD(g a:Nat)(c:Cf)(j:cZ c)(V:Dv)(n:nu c V)(i:Int)(k:fY c.R c.S c.B c.M c.C i=true)(r:List UInt8)(o:r.length=72)(mk:Int):aa YU 162 #[pt g 0,i6 i,.agg (rB 72 r).toArray,i6 mk] [pk (bk g a c V)] [0] (λ_=>[pk (bk g a c (iC V i r mk))]) (λ_=>i6 0):=aa.pkZ Tryz.func162 λL p=>by
 obtain⟨gm,d,v,rfl⟩:=p;refine⟨[0,1,2,3,4],λE=>[ob g #[pt a 0,.map (some gm),.map (some d),(E.val 0)] 144,pk (fZ a c (om V.D i r)),eJ (du V.W i r) gm,lj (du V.Z i mk) d,lh (E.val 0) (V.l++([(⟨true,i,(a1 V.D i),cS V.D,0,false⟩:Ac)]))],?_,rfl,λE=>⟨rfl,rfl,⟨_,_,_,rfl⟩⟩⟩;have q:=n.ll;exact fG Tryz.func162 λw cs=>ra (λe=>[(6,pt (B0 e) 0),(8,i6 0)]) (λe=>[ob (B0 e) (rB 72 r).toArray 217]) λe=>rr (λ_=>[(0,.v (pt g 0)),(1,.v (pt g 0)),(2,.v (pt g 0)),(3,.m (ld 0 (pt a 0))),(4,.v (i6 i)),(5,.m (ls 5 (rB 72 r))),(6,.c [1] [1] (T8 a c j V.D n.D i k r (by(simp only[LL,o,o];done)))),(7,.v (.tuple #[.agg #[i6 (a1 V.D i),.bool (cS V.D)],i6 0])),(8,.v (.agg #[i6 (a1 V.D i),.bool (cS V.D)])),(9,.v (i6 0)),(10,.m (al 6)),(11,.s 6),(12,.v (i6 0))]) (λf=>[(9,pt ((f 10).y 0) 0),(10,i6 0)]) [] (λf L=>L.set 1 ((pk (fZ a c (om V.D i r))))++[ob ((f 10).y 0) #[i6 (a1 V.D i),.bool (cS V.D)] 88]) λf=>rF [] 22 (rs [(3,.l 0),(5,.l 5),(6,.m (mu 2 gm i qu k9 V.W r))] 2 (eJ (du V.W i r) gm) (rs [(3,.l 0),(6,.m (mu 3 d i Ag 0 V.Z mk))] 3 (lj (du V.Z i mk) d) (rr (λb=>[(0,.v (pt g 0)),(1,.v (pt g 0)),(2,.v (pt g 0)),(3,.v (pt g 3)),(4,.m (ld 0 (v))),(5,.v (i6 i)),(6,.m (ls 6 ([i6 (a1 V.D i),.bool (cS V.D)]))),(7,.v (.agg #[.bool true,i6 i,i6 (a1 V.D i),.bool (cS V.D),i6 0,.bool false])),(8,.m (bs 7 1)),(9,e7 sT (v) V.l 4 7 ([(⟨true,i,(a1 V.D i),cS V.D,0,false⟩:Ac)])),(10,.v (pt g 0)),(11,.v (pt g 3)),(12,.m (fv 0 4 (lh ((b 9).val 0) (V.l++([(⟨true,i,(a1 V.D i),cS V.D,0,false⟩:Ac)]))) ((b 9).val 0) λbs h=>ar.one ((λ_ h=>h) bs h)))]) N0 [] (λb L=>(L.set 0 (ob g #[pt a 0,.map (some gm),.map (some d),(b 9).val 0] 144)).set 4 (lh ((b 9).val 0) (V.l++([(⟨true,i,(a1 V.D i),cS V.D,0,false⟩:Ac)])))++[ob ((b 8).y 0) #[.bool true,i6 i,i6 (a1 V.D i),.bool (cS V.D),i6 0,.bool false] 90]) λb=>r0 [] [(8,i6 0)] [8] (lf (.l [] [] [(b 9).val 0]) [0,1,2,3,4] [] []))))
theorem Uf(g a:Nat)(c:Cf)(d:cZ c)(V:Dv)(h:nu c V)(i:Int)(e:fY c.R c.S c.B c.M c.C i=true)(r:List UInt8)(f:r.length=72):aa YU 127 #[pt g 0,i6 i,.agg (rB 72 r).toArray] [pk (bk g a c V)] [0] (λ_=>[pk (bk g a c (iC V i r 0))]) (λ_=>i6 0):=by
 exact fG Tryz.func127 λw cs=>ra (λb=>[(5,pt (B0 b) 0),(6,i6 0)]) (λb=>[ob (B0 b) (rB 72 r).toArray 217]) λb=>rr (λ_=>[(2,.l 1),(3,.c [0] [0] (GD g a c d V h i e r (by(simp only[LL,f,f];done)) 0))]) (λ_=>[(6,i6 0)]) [6] (λ_ L=>L.set 0 ((pk (bk g a c (iC V i r 0))))) λj=>lf ab.zero [0] [] []
theorem Ug(g a:Nat)(c:Cf)(d:cZ c)(V:Dv)(h:nu c V)(i:Int)(e:fY c.R c.S c.B c.M c.C i=true)(r:List UInt8)(f:r.length=72):aa YU 126 #[pt g 0,i6 i,.agg (rB 72 r).toArray] [pk (bk g a c V)] [0] (λ_=>[pk (bk g a c (iC V i r 1))]) (λ_=>i6 0):=by
 exact fG Tryz.func126 λw cs=>ra (λb=>[(5,pt (B0 b) 0),(6,i6 0)]) (λb=>[ob (B0 b) (rB 72 r).toArray 217]) λb=>rr (λ_=>[(2,.l 1),(3,.c [0] [0] (GD g a c d V h i e r (by(simp only[LL,f,f];done)) 1))]) (λ_=>[(6,i6 0)]) [6] (λ_ L=>L.set 0 ((pk (bk g a c (iC V i r 1))))) λj=>lf ab.zero [0] [] []
theorem Uh(g a:Nat)(c:Cf)(p:cZ c)(V:Dv)(q:nu c V)(i:Int)(r:fY c.R c.S c.B c.M c.C i=true):aa YU 123 #[pt g 0,i6 i] [pk (bk g a c V)] [0] (λ_=>[pk (bk g a c (qw c V i))]) (λ_=> .tuple #[.agg (rB 72 (b8 c V.D i)).toArray,i6 0]):=aa.pkZ Tryz.func123 λL u=>by
 obtain⟨gm,o,v,rfl⟩:=u;refine⟨[0,1,2,3,4],λE=>[ob g #[pt a 0,.map (some gm),.map (some o),(E.val 0)] 144,pk (fZ a c (ec V.D)),eJ V.W gm,lj V.Z o,lh (E.val 0) ((qw c V i).l)],?_,rfl,λE=>⟨rfl,rfl,⟨_,_,_,rfl⟩⟩⟩;have x:=q.ll;have f:=mO q.D i;have e:=q.gl (a1 V.D i);have y:=p.E;refine fG Tryz.func123 λw cs=>ra (λn=>[(4,pt (B0 n) 0),(5,i6 0)]) (λn=>[ob (B0 n) (rB 72 (YV 72 0)).toArray 217]) λn=>rr (λ_=>[(0,.v (pt g 0)),(1,.v (pt g 0)),(2,.v (pt g 0)),(3,.m (ld 0 (pt a 0))),(4,.v (i6 i)),(5,.c [1] [1] (T9 a c p V.D q.D i r)),(6,.v (.tuple #[.agg (rB 72 (b8 c V.D i)).toArray,.agg #[i6 (a1 V.D i),.bool (cS V.D)],i6 0])),(7,.v (.agg (rB 72 (b8 c V.D i)).toArray)),(8,.v (.agg #[i6 (a1 V.D i),.bool (cS V.D)])),(9,.v (i6 0)),(10,.m (al 6)),(11,.m (al 7)),(12,.s 6),(13,.s 7),(14,.v (i6 0))]) (λb=>[(6,pt ((b 10).y 0) 0),(7,pt ((b 11).y 0) 0),(8,i6 0)]) [] (λb L=>L.set 1 ((pk (fZ a c (ec V.D))))++[ob ((b 10).y 0) (rB 72 (b8 c V.D i)).toArray 217,ob ((b 11).y 0) #[i6 (a1 V.D i),.bool (cS V.D)] 88]) λb=>rF [] 20 ?_;cases t:(cS V.D)
 case true=>
  exact rr (λj=>[(0,.v (pt g 0)),(1,.v (pt g 0)),(2,.v (pt g 0)),(3,.v (pt g 3)),(4,.m (ld 0 (v))),(5,.v (i6 i)),(6,.m (ls 7 ([i6 (a1 V.D i),.bool true]))),(7,.v (pt g 0)),(8,.v (pt g 0)),(9,.v (pt g 0)),(10,.m (ld 0 (pt a 0))),(11,.c [1] [1] (Ab a c (ec V.D))),(12,.m (ls 6 (rB 72 (b8 c V.D i)))),(13,.v (pt g 0)),(14,.v (pt g 0)),(15,.v (pt g 1)),(16,.m (ld 0 (.map (some gm)))),(17,.v (pt ((b 11).y 0) 0)),(18,.m (ld 7 (i6 (a1 V.D i)))),(19,.m (mg 2 (eJ V.W gm) gm (a1 V.D i) (λ_ h=>h))),(20,.c [] [] (Gs c.E Om (b8 c V.D i) (V.W (a1 V.D i)) (by(simp only[LL,f,e];done)) (by(simp only[LL,f,e];done)))),(21,.v (pt ((b 11).y 0) 1)),(22,.m (ld 7 (.bool true))),(23,.v (.bool false)),(24,.v (.bool false)),(25,.d),(26,.d),(27,.d),(28,.d),(30,.v (.agg #[.bool false,i6 i,i6 (a1 V.D i),.bool true,iN (b0 (c.E:Int) (b8 c V.D i) (V.W (a1 V.D i))),.bool false])),(31,.m (bs 8 1)),(32,e7 sT (v) V.l 4 8 ([(⟨false,i,(a1 V.D i),true,((b0 (c.E:Int) (b8 c V.D i) (V.W (a1 V.D i)):Nat):Int),false⟩:Ac)])),(33,.v (pt g 0)),(34,.v (pt g 3)),(35,.m (fv 0 4 (lh ((j 32).val 0) (V.l++([(⟨false,i,(a1 V.D i),true,((b0 (c.E:Int) (b8 c V.D i) (V.W (a1 V.D i)):Nat):Int),false⟩:Ac)]))) ((j 32).val 0) λbs h=>ar.one ((λ_ h=>h) bs h)))]) N0 [] (λj L=>(L.set 0 (ob g #[pt a 0,.map (some gm),.map (some o),(j 32).val 0] 144)).set 4 (lh ((j 32).val 0) (V.l++([(⟨false,i,(a1 V.D i),true,((b0 (c.E:Int) (b8 c V.D i) (V.W (a1 V.D i)):Nat):Int),false⟩:Ac)])))++[ob ((j 31).y 0) #[.bool false,i6 i,i6 (a1 V.D i),.bool true,iN (b0 (c.E:Int) (b8 c V.D i) (V.W (a1 V.D i))),.bool false] 90]) λj=>rr (λ_=>[(0,.l 6),(1,.s 5)]) (λ_=>[(5,i6 0)]) [5] (λ_ L=>L.set 5 (ob (B0 n) (rB 72 (b8 c V.D i)).toArray 217)) λz=>lf (.l [] [] [(j 32).val 0]) [0,1,2,3,4] [] [5] (hf:=by unfold qw lB;(repeat (rw[t]));kernel_rfl)
 exact rr (λk=>[(0,.v (pt g 0)),(1,.v (pt g 0)),(2,.v (pt g 0)),(3,.v (pt g 3)),(4,.m (ld 0 (v))),(5,.v (i6 i)),(6,.m (ls 7 ([i6 (a1 V.D i),.bool false]))),(7,.v (pt g 0)),(8,.v (pt g 0)),(9,.v (pt g 0)),(10,.m (ld 0 (pt a 0))),(11,.c [1] [1] (Ab a c (ec V.D))),(12,.m (ls 6 (rB 72 (b8 c V.D i)))),(13,.v (pt g 0)),(14,.v (pt g 0)),(15,.v (pt g 1)),(16,.m (ld 0 (.map (some gm)))),(17,.v (pt ((b 11).y 0) 0)),(18,.m (ld 7 (i6 (a1 V.D i)))),(19,.m (mg 2 (eJ V.W gm) gm (a1 V.D i) (λ_ h=>h))),(20,.c [] [] (Gs c.E Om (b8 c V.D i) (V.W (a1 V.D i)) (by(simp only[LL,f,e];done)) (by(simp only[LL,f,e];done)))),(21,.v (pt ((b 11).y 0) 1)),(22,.m (ld 7 (.bool false))),(23,.v (.bool true)),(24,.v (.bool true)),(25,.v (pt g 0)),(26,.v (pt ((b 11).y 0) 0)),(27,.m (ld 7 (i6 (a1 V.D i)))),(28,.c [0,3] [3] (Uc g a gm o v V.Z (a1 V.D i))),(30,.v (.agg #[.bool false,i6 i,i6 (a1 V.D i),.bool false,iN (b0 (c.E:Int) (b8 c V.D i) (V.W (a1 V.D i))),.bool ((V.Z (a1 V.D i))==1)])),(31,.m (bs 8 1)),(32,e7 sT (v) V.l 4 8 ([(⟨false,i,(a1 V.D i),false,((b0 (c.E:Int) (b8 c V.D i) (V.W (a1 V.D i)):Nat):Int),(V.Z (a1 V.D i))==1⟩:Ac)])),(33,.v (pt g 0)),(34,.v (pt g 3)),(35,.m (fv 0 4 (lh ((k 32).val 0) (V.l++([(⟨false,i,(a1 V.D i),false,((b0 (c.E:Int) (b8 c V.D i) (V.W (a1 V.D i)):Nat):Int),(V.Z (a1 V.D i))==1⟩:Ac)]))) ((k 32).val 0) λbs h=>ar.one ((λ_ h=>h) bs h)))]) N0 [] (λk L=>(L.set 0 (ob g #[pt a 0,.map (some gm),.map (some o),(k 32).val 0] 144)).set 4 (lh ((k 32).val 0) (V.l++([(⟨false,i,(a1 V.D i),false,((b0 (c.E:Int) (b8 c V.D i) (V.W (a1 V.D i)):Nat):Int),(V.Z (a1 V.D i))==1⟩:Ac)])))++[ob ((k 31).y 0) #[.bool false,i6 i,i6 (a1 V.D i),.bool false,iN (b0 (c.E:Int) (b8 c V.D i) (V.W (a1 V.D i))),.bool ((V.Z (a1 V.D i))==1)] 90]) λk=>rr (λ_=>[(0,.l 6),(1,.s 5)]) (λ_=>[(5,i6 0)]) [5] (λ_ L=>L.set 5 (ob (B0 n) (rB 72 (b8 c V.D i)).toArray 217)) λA=>lf (.l [] [] [(k 32).val 0]) [0,1,2,3,4] [] [5] (hf:=by unfold qw lB;(repeat (rw[t]));kernel_rfl)
end
theorem Ui(c:Cf)(e:cZ c):aa YU 81 #[.agg #[iN c.R,iN c.S,iN c.B,iN c.M,iN c.C],iN c.E] [] [] (λE=>[ob (E.y 0) #[pt ((E.y 1)) 0,.map (some (E.y 2)),.map (some (E.y 3)),.slice none 0 0] 144,pk (fZ (E.y 1) c sP),eJ (λ_=>k9) (E.y 2),lj (λ_=>0) (E.y 3)]) (λE=> .tuple #[pt ((E.y 0)) 0,i6 0]):=by
 exact fG Tryz.func81 λw cs=>ra (λd=>[(2,pt (B0 d) 0),(4,.pointer none),(5,i6 0)]) (λd=>[ob (B0 d) #[iN c.R,iN c.S,iN c.B,iN c.M,iN c.C] 23]) λd=>rr (λ_=>[(0,.l 0),(2,.c [] [1] (Ub c e))]) (λb=>[(6,pt ((B2 b)) 0),(7,i6 0)]) [] (λb L=>L++[pk (fZ (B2 b) c sP)]) λb=>rF [] 15 (rr (λ_=>[(1,.m (mm 2 qu k9)),(2,.m (mm 3 Ag 0))]) (λa=>[(4,pt (B4 a) 0),(5,i6 0)]) [4,5] (λa L=>L++[eJ (λ_=>k9) (B1 a),lj (λ_=>0) (B2 a),ob (B4 a) #[pt ((B2 b)) 0,.map (some (B1 a)),.map (some (B2 a)),.slice none 0 0] 144]) λa=>lf (.l [(a 4).y 0,(B2 b),(a 1).y 0,(a 2).y 0] [] []) [4,1,2,3] [] [])
theorem GF(n:Nat):max (n:Int) 0=((n+0:Nat):Int):=by omega
theorem Uj(c d g h j i n:Nat)(v:Value)(l:List Ac)(bs:aA)(f:aP Af v l bs)(G:l.length≤1000000)(u:n≤1000000):e4 5 YU 60 #[pt c 0,pt d 0] (λ(x:Nat×Ac)=>#[i6 (x.1:Int),.agg #[.bool (x.2.wr),i6 (x.2.ix),i6 (x.2.wt),.bool (x.2.dr),i6 (x.2.ex),.bool (x.2.mr)]]) ((Zg (l.length-n)).map λk=>(n+k,l.getD (n+k) aD)) (ZL [[(c,.cells #[iN n] 3 (0,0))],[(d,.cells #[pt g 0] 84 (0,0))],[(g,.cells #[pt h 0,.map (some j),.map (some i),v] 144 (0,0))],bs]):=by
 refine gi (KO:=[[(c,.cells #[iN n] 3 (0,0))],[(d,.cells #[pt g 0] 84 (0,0))],[(g,.cells #[pt h 0,.map (some j),.map (some i),v] 144 (0,0))],bs]) Tryz.func60 (λw z y F C m r q=>?_);refine r0 [(0,.l 0),(1,.t (tv (Builtin.max_ #[3,3] 3 #[iN n,i6 0]) (λ_=>pH _ _ _ _)))] [(4,i6 (max (n:Int) 0))] [] ?_;refine jW (λk=>k≤(l.length-n)) (λk=>[(4,iN (n+k))]) (λ_ L=>L) (λk=>(l.length-n)-k) (λk=>k) 0 Om q (by rw[GF];kernel_rfl) Kr (λk A D s b=>?_);refine r0 [(1,.l 1),(4,.l 2),(5,eD f.1 3)] [(13,.bool (decide (((n+k:Nat):Int)<(l.length:Int))))] [] ?_;refine cc ((n+k:Nat):Int) (l.length:Int) (λp e=>?_) λp e=>?_
 ·refine iy m r b 9 (λ_=>[(2,.l 1),(5,.l 2),(7,fh f.1 3 (n+k) 6),(8,m7 sT f.1 3 (n+k) 0 6)]) (λ_=>[(16,.func (.yield w) #[] #[]),(17,iN (n+k)),(24,.agg #[.bool ((l.getD (n+k) aD).wr),i6 ((l.getD (n+k) aD).ix),i6 ((l.getD (n+k) aD).wt),.bool ((l.getD (n+k) aD).dr),i6 ((l.getD (n+k) aD).ex),.bool ((l.getD (n+k) aD).mr)])]) [] (λ_ L=>L) N0 [0,1,2,3] (nI Om) (λH B o a=>?_);refine cF _ rfl (r0 [(1,ad (n+k) 1)] [(4,iN ((n+k)+1))] [4] ?_);exact iG (k+1) Om a Om Kr [0,1,2,3] Kr
 refine jX ?_;exact kV m b (by(rw[Y5,Zh];omega)) [] [0,1,2,3]
theorem GG(g n:Nat):aa YU 31 #[pt g 0,iN n] [] [] (λE=>[ob (E.y 0) #[iN n] 3,ob (E.y 1) #[pt g 0] 84]) (λE=> .func (.func 60) #[] #[pt ((E.y 0)) 0,pt ((E.y 1)) 0]):=by
 exact fG Tryz.func31 λw cs=>ra (λa=>[(2,pt (B0 a) 0),(3,pt (B1 a) 0),(4,.nilFunc)]) (λa=>[ob (B0 a) #[pt g 0] 84,ob (B1 a) #[iN n] 3]) λa=>r0 [] [(4,.func (.func 60) #[] #[pt (B1 a) 0,pt (B0 a) 0])] [4] (lf (.l [(a 1).y 0,(a 0).y 0] [] []) [1,0] [] [])
def kd(a:Ac):Bool:=a.dr||(a.wt != a.ix)
theorem GH(x:Ac):aa YU 32 #[.agg #[.bool x.wr,i6 x.ix,i6 x.wt,.bool x.dr,i6 x.ex,.bool x.mr]] [] [] N0 (λ_=> .bool (kd x)):=by
 exact fG Tryz.func32 λw cs=>ra (λa=>[(1,pt (B0 a) 0),(2,.bool false)]) (λa=>[ob (B0 a) #[.bool x.wr,i6 x.ix,i6 x.wt,.bool x.dr,i6 x.ex,.bool x.mr] 90]) λa=>r0 [(0,.v (pt (B0 a) 2)),(1,.v (pt (B0 a) 3)),(2,.m (ld 0 (.bool x.dr))),(3,.v (.bool x.dr)),(4,.v (pt (B0 a) 2)),(5,.v (pt (B0 a) 2)),(6,.m (ld 0 (i6 x.wt))),(7,.v (pt (B0 a) 1)),(8,.m (ld 0 (i6 x.ix))),(9,.v (.bool (x.wt != x.ix))),(11,.v (.bool (x.dr||(x.wt != x.ix))))] [(2,.bool (x.dr||(x.wt != x.ix)))] [2] (aq (.bool (x.dr||(x.wt != x.ix))) ab.zero ba [] [] [])
theorem Uk(c:Cf)(a:cZ c):aa YU 81 #[.agg #[iN c.R,iN c.S,iN c.B,iN c.M,iN c.C],iN c.E] [] [] (λE=>[pk (bk (E.y 0) (E.y 1) c sU)]) (λE=> .tuple #[pt (E.y 0) 0,i6 0]):=(Ui c a).outs λE d b=>zT (S:=bk (E.y 0) (E.y 1) c sU) ⟨_,_,_,rfl⟩ b
theorem e4.mono{α:Type}{n:Nat}{P:Program}{j:Nat}{k:Array Value}{encs:α→Array Value}{xs:List α}{KO a:aA}(h:e4 n P j k encs xs KO)(hs:KO.Sublist a):e4 n P j k encs xs a:=by
 intro l J m W O c t g u v r;refine h l J m W O ⟨λx d=>c.obj x (hs.subset d),c.nd.sublist hs⟩ t g u (λi x p q d z B=>(v i x p q d z B).mono λe C y=>?_) r;obtain⟨o,f,s⟩:=y;exact⟨o,⟨f.size,f.old,f.new,λb w A=>f.keep b w (A.imp id λ⟨x,d,e⟩=>⟨x,hs.subset d,e⟩)⟩,s⟩
section
section
variable {P:Program} {f:FuncId} {args:Array Value} {rd:ah} {wt:ab→ah} {v:ab→Value}
theorem aa.sub(h:aa P f args rd [] wt v){L:ah}(js:List Nat)(d:(dj js,js.map λj=>L[j]?)=(true,rd.map some)):aa P f args L [] wt v:=by
 have r:=nC (ALca (·.1) d);have d:=ALca (·.2) d;simp only at d;refine⟨h.ent,λw cs p o=>?_⟩;have n:=qU o.nd;have q: ∀(js:List Nat) (rd:ah),js.map (λj=>L[j]?)=rd.map some→bo rd (js.map λj=>cs.getD j []):=by
  intro js
  induction js with
  | nil=>intro rd e;cases rd with
   | nil=>trivial
   | cons x rd=>cases e
  | cons j js ih=>intro rd e;cases rd with
   | nil=>cases e
   | cons x rd=>
    rw[ZK,ZK,List.cons.injEq] at e;exact⟨mZ p e.1,ih rd e.2⟩
 have k: ∀j∈js,j<cs.length:=by
  intro j c;have:L[j]?∈js.map λj=>L[j]? :=List.mem_map_of_mem c;rw[d] at this;obtain⟨x,_,e⟩:=List.mem_map.1 this;rw[←jv p];exact(List.getElem?_eq_some_iff.1 e.symm).1
 have:=h.out w (js.map λj=>cs.getD j []) (q js rd d) ⟨λy m=>?_,?_⟩
 ·simpa using this
 ·obtain⟨l,i,m⟩:=List.mem_flatten.1 m;obtain⟨j,c,rfl⟩:=List.mem_map.1 i;exact o.obj y (List.mem_flatten.2 ⟨_,nE (k j c),m⟩)
 ·refine List.pairwise_flatten.2 ⟨λl i=>?_,?_⟩
  ·obtain⟨j,_,rfl⟩:=List.mem_map.1 i;exact n.1 j
  ·exact List.Pairwise.map _ (λa b g=>n.2 a b g) r
end
abbrev dL(g:Nat)(L:ah):Prop:=∃(b a f:Nat) (u:Value),L=[ob g #[pt b 0,pt a 0] 242,ob b (rB 74 (a6 10)++rI 256 (bL 10)).toArray 298,ob a #[pt f 0,u] 309,ob f (rB 255 aQ++rN 256 aW).toArray 312,bC u cu]
theorem Ul:aa YU 115 #[] [] [] (λE=>[pk (dL (E.y 0))]) (λE=>pt (E.y 0) 0):=NM.outs λE b a=>sr (S:=dL (E.y 0)) ⟨_,_,_,_,rfl⟩ a
def fe(m:Nat)(l:List UInt8)(x:Int)(p:Bool):List UInt8:=if m=1 then bf 9 (dP l x p) 8 else bf 36 (cN l x p) 2
theorem qx(m:Nat){l:List UInt8}(a:l.length=64)(x:Int)(p:Bool):(fe m l x p).length=72:=by
 unfold fe
 split
 ·exact n7 (n8 l x p) Dc
 ·exact n7 (o0 a x p) Dc
def oo(m:Nat)(xs:List UInt8)(x:Int):List UInt8:=if m=1 then oY xs x else oZ xs x
def nw(m:Nat)(xs:List UInt8)(x:Int):List Int:=if m=1 then(Zg 8).map (dK xs x) else(Zg 2).map (cK xs x)
def jN(m:Nat)(xs:List UInt8)(x:Int):Nat:=(jK (nw m xs x)).toNat
def gX(m:Nat)(xs:List UInt8)(x:Int):Nat:=(gx (nw m xs x)).toNat
theorem Um(xs:List UInt8)(x:Int)(k:Nat):dK xs x k≤3:=by
 unfold dK j7;generalize dd _ _=z;cases z==0<;>cases z==1<;>cases z==2<;>cases z==3<;>decide
theorem Un(m:Nat)(xs:List UInt8)(x:Int):jN m xs x≤3:=by
 have h:jK (nw m xs x)≤3:=yY Dc λy a=>by
  unfold nw at a
  split at a
  ·obtain⟨k,_,rfl⟩:=List.mem_map.1 a;exact Um xs x k
  ·obtain⟨k,_,rfl⟩:=List.mem_map.1 a;exact Ez xs x k
 unfold jN;omega
theorem Uo(m:Nat)(xs:List UInt8)(x:Int):((jN m xs x:Nat):Int)=jK (nw m xs x):=Zy (vc _)
theorem Up(m:Nat)(xs:List UInt8)(x:Int):((gX m xs x:Nat):Int)=gx (nw m xs x):=by
 refine Zy ?_;unfold gx;cases jK (nw m xs x) != 1
 ·exact(DV _).1
 ·exact Int.le_refl _
theorem Uq(m:Nat)(e:m=1∨m=2)(g:Nat)(l:List UInt8)(c:l.length=64)(x:Int)(h0: -9223372036854775808≤x)(h1:x≤9223372036854775807)(p:Bool):aa YU 125 #[pt g 0,iN m,.agg (rB 64 l).toArray,i6 x,.bool p] [pk (dL g)] [] N0 (λ_=> .agg (rB 72 (fe m l x p)).toArray):=by
 refine aa.pkR (rest:=[]) (enters_of Tryz.func125 Kr rfl) λL d=>?_;obtain⟨b,a,f,u,rfl⟩:=d;unfold fe;rcases e with rfl | rfl
 ·exact(Og g b a l c x p).sub [0,1] rfl
 ·exact(aa.at (rd':=[ob g #[pt b 0,pt a 0] 242,ob a #[pt f 0,u] 309,ob f (rB 255 aQ++rN 256 aW).toArray 312,bC u cu]) (Oh g b a f u l c x h0 h1 p) (atS (atS (atS (bP (λ_ h=>ar.sq h) λ_ h=>h))))).sub [0,2,3,4] rfl
theorem Ur(m:Nat)(e:m=1∨m=2)(g:Nat)(xs:List UInt8)(c:xs.length=72)(x:Int)(h0: -9223372036854775808≤x)(h1:x≤9223372036854775807):aa YU 124 #[pt g 0,iN m,.agg (rB 72 xs).toArray,i6 x] [pk (dL g)] [] N0 (λ_=> .tuple #[.agg (rB 64 (oo m xs x)).toArray,.agg #[i6 ((jN m xs x:Nat):Int),i6 ((gX m xs x:Nat):Int)]]):=by
 refine aa.pkR (rest:=[]) (enters_of Tryz.func124 Kr rfl) λL d=>?_;obtain⟨b,a,f,u,rfl⟩:=d;rw[Uo,Up];unfold oo nw;rcases e with rfl | rfl
 ·exact(Oe g b a xs c x).sub [0,1] rfl
 ·exact(aa.at (rd':=[ob g #[pt b 0,pt a 0] 242,ob a #[pt f 0,u] 309,ob f (rB 255 aQ++rN 256 aW).toArray 312,bC u cu]) (Of g b a f u xs c x h0 h1) (atS (atS (atS (bP (λ_ h=>ar.sq h) λ_ h=>h))))).sub [0,2,3,4] rfl
theorem Us(j d b a l m o:Nat)(c:Cf)(s:Le)(K:Nat)(hs:cR s K)(t:K+3≤1000000000)(q:c.I≤65536)(n:Nt)(p:n.v≤3)(e:n.r<s.r.m.R)(u:n.h<s.r.m.R*s.r.m.B*s.r.m.M):aa YU 163 #[pt j 0,.agg #[i6 1,iN n.v,iN n.f,iN n.i,iN n.h,iN n.r]] [ob j (lA c d b a s.time) 122,pk (au d l m s.r),pk (aF b o s.k),pk (aB a s.g)] [1,2,3] (λ_=>[pk (au d l m (dD c.I s n).r),pk (aF b o (dD c.I s n).k),pk (aB a (dD c.I s n).g)]) (λ_=> .tuple #[]):=by
 obtain⟨k,v,f,i,h,r⟩:=n;simp only at p e u
 match v,p with
 | 0,_=>exact Tq j d b a l m o c s K hs i h r f
 | 1,_=>exact To j d b a l m o c s K hs t q i h r f e u
 | 2,_=>exact Tr j d b a l m o c s K hs t i h r f
 | 3,_=>exact Tp j d b a l m o c s K hs t q i h r f e u
theorem Ut(t m j i n o p:Nat)(c:Cf)(s:Le)(K:Nat)(hs:cR s K)(z:K+3≤1000000000)(y:c.I≤65536)(d e h a b:Nat)(u:d≤3)(x:b<s.r.m.R)(A:a<s.r.m.R*s.r.m.B*s.r.m.M):aa YU 128 #[pt t 0,.agg #[i6 1,iN d,iN e,iN h,iN a,iN b]] [ob t (lA c m j i s.time) 122,pk (au m n o s.r),pk (aF j p s.k),pk (aB i s.g)] [1,2,3] (λ_=>[pk (au m n o (dD c.I s (⟨1,d,e,h,a,b⟩:Nt)).r),pk (aF j p (dD c.I s (⟨1,d,e,h,a,b⟩:Nt)).k),pk (aB i (dD c.I s (⟨1,d,e,h,a,b⟩:Nt)).g)]) (λ_=> .tuple #[]):=by
 refine fG Tryz.func128 λw cs=>ra (λq=>[(3,pt (B0 q) 0)]) (λq=>[ob (B0 q) #[i6 1,iN d,iN e,iN h,iN a,iN b] 81]) λq=>r0 [(1,.l 4)] [(8,i6 1)] [] (rT [] 9 (rr (λ_=>[(1,.l 4),(2,.c [0,1,2,3] [1,2,3] (Us t m j i n o p c s K hs z y (⟨1,d,e,h,a,b⟩:Nt) u x A))]) N0 [] (λ_ L=>((L.set 1 ((pk (au m n o (dD c.I s (⟨1,d,e,h,a,b⟩:Nt)).r)))).set 2 ((pk (aF j p (dD c.I s (⟨1,d,e,h,a,b⟩:Nt)).k)))).set 3 ((pk (aB i (dD c.I s (⟨1,d,e,h,a,b⟩:Nt)).g)))) λB=>?_));exact eo ab.zero [1,2,3] [(0,0)] []
theorem Uu(e d a b i j g:Nat)(c:Cf)(s:Le)(K:Nat)(hs:cR s K)(k:s.time≤1000000000000000):aa YU 128 #[pt e 0,.agg #[i6 2,i6 0,i6 0,i6 0,i6 0,i6 0]] [ob e (lA c d a b s.time) 122,pk (au d i j s.r),pk (aF a g s.k),pk (aB b s.g)] [0,1,2,3] (λ_=>[ob e (lA c d a b ((s.time+1:Nat))) 122,pk (au d i j s.r),pk (aF a g (mJ s.k)),pk (aB b s.g)]) (λ_=> .tuple #[]):=by
 refine fG Tryz.func128 λw cs=>ra (λh=>[(3,pt (B0 h) 0)]) (λh=>[ob (B0 h) #[i6 2,i6 0,i6 0,i6 0,i6 0,i6 0] 81]) λh=>r0 [(1,.l 4)] [(8,i6 2)] [] (rF [] 9 (rT [] 14 (rs [(3,.l 0),(4,ad s.time 1),(7,.s 0)] 0 (ob e (lA c d a b ((s.time+1:Nat))) 122) (rs [(3,.l 0),(4,.c [2] [2] (SD a g s.k hs.k))] 2 ((pk (aF a g (mJ s.k)))) ?_))));exact eo ab.zero [0,1,2,3] [] []
theorem Uv(q a n j d i p:Nat)(c:Cf)(s:Le)(K:Nat)(hs:cR s K)(C:K+257≤1000000000)(u:s.r.j.A≠0)(x:s.r.j.nx<gD s.r.j.A s.r.m.B s.r.m.M s.r.m.C):aa YU 128 #[pt q 0,.agg #[i6 3,i6 0,i6 0,i6 0,i6 0,i6 0]] [ob q (lA c a n j s.time) 122,pk (au a d i s.r),pk (aF n p s.k),pk (aB j s.g)] [1,2,3] (λ_=>[pk (au a d i (iz s).r),pk (aF n p (iz s).k),pk (aB j (iz s).g)]) (λ_=> .tuple #[]):=by
 have B:=hs.n;have b:=F8 hs.r u x;have A:=hs.r;refine fG Tryz.func128 λw cs=>ra (λt=>[(3,pt (B0 t) 0)]) (λt=>[ob (B0 t) #[i6 3,i6 0,i6 0,i6 0,i6 0,i6 0] 81]) λt=>r0 [(1,.l 4)] [(8,i6 3)] [] (rF [] 9 (rF [] 14 (rT [] 28 (r0 [(3,.l 0),(4,.c [1] [1] (zN a d i s.r A))] [(4,iN s.r.j.A)] [] (rr (λ_=>[(3,.l 0),(4,.c [1] [1,5] (RK a d i s.r hs.r u x))]) (λo=>[(5,(o 4).val 0)]) [] (λo L=>L.set 1 ((pk (au a d i (fo s.r).1)))++[bc ((o 4).val 0) ((fo s.r).2)]) λo=>rr (λ_=>[(3,.c [0,1,2,3,5] [1,2,3] (aa.at (rd':=[ob q (lA c a n j s.time) 122,pk (au a d i (fo s.r).1),pk (aF n p s.k),pk (aB j s.g),bc ((o 4).val 0) ((fo s.r).2)]) (pn q a n j d i p c s.time ((fo s.r).1) b.1 s.k hs.k s.g hs.g s.r.j.A ((o 4).val 0) ((fo s.r).2) (by have y:=b.2.1;omega) (by have y:=b.2.1;omega) (λe z=>(b.2.2 e z).ly (vY s.r)) (hs.rk.trans (vY s.r).R.symm)) (atS (atS (atS (atS (bP (λ_ h=>ar.sq h) (λ_ h=>h))))))))]) N0 [] (λ_ L=>((L.set 1 ((pk (au a d i ((fo s.r).1))))).set 2 ((pk (aF n p (fc s.r.j.A s.k ((fo s.r).2)))))).set 3 ((pk (aB j (eG ((fo s.r).1).m s.r.j.A s.time s.g ((fo s.r).2)))))) λD=>?_)))));exact eo ab.zero [1,2,3] [(0,0)] [] (hf:=by kernel_rfl)
theorem Uw(g e d a h i j:Nat)(c:Cf)(s:Le)(K:Nat)(hs:cR s K):aa YU 128 #[pt g 0,.agg #[i6 4,i6 0,i6 0,i6 0,i6 0,i6 0]] [ob g (lA c e d a s.time) 122,pk (au e h i s.r),pk (aF d j s.k),pk (aB a s.g)] [1,2,3] (λ_=>[pk (au e h i s.r),pk (aF d j s.k),pk (aB a (nm s.g))]) (λ_=> .tuple #[]):=by
 refine fG Tryz.func128 λw cs=>ra (λb=>[(3,pt (B0 b) 0)]) (λb=>[ob (B0 b) #[i6 4,i6 0,i6 0,i6 0,i6 0,i6 0] 81]) λb=>r0 [(1,.l 4)] [(8,i6 4)] [] (rF [] 9 (rF [] 14 (rF [] 28 (rT [] 48 (rs [(3,.l 0),(4,.c [3] [3] (RU a s.g))] 3 ((pk (aB a (nm s.g)))) ?_)))));exact eo ab.zero [1,2,3] [(0,0)] []
end
section
structure sX (c:Cf) (m:Mp):Prop where
 R:m.R=c.R
 S:m.S=c.S
 B:m.B=c.B
 M:m.M=c.M
 C:m.C=c.C
 G:m.G=c.G
 res:m.res=c.res
theorem sX.tr{c:Cf}{m a:Mp}(h:sX c m)(e:eH m a):sX c a:=⟨e.R.trans h.R,e.S.trans h.S,e.B.trans h.B,e.M.trans h.M,e.C.trans h.C,e.G.trans h.G,e.res.trans h.res⟩
def gY(r:Rp):Prop:=r.j.A≠0→r.j.nx<gD r.j.A r.m.B r.m.M r.m.C
theorem GI{m:Mp}(h:bp m){k:Nat}(b:k=1∨k=2):0<gD k m.B m.M m.C:=by
 have a:=h.O.bd;rcases b with rfl | rfl
 ·exact a.c1
 ·exact Nat.mul_pos (Nat.mul_pos a.b1 a.m1) a.c1
theorem GJ{r:Rp}(d:bp r.m){a:Ak}(g:ew r.m a)(h:gY r):gY (dn r a):=by
 have e:=GI d (.inl rfl);have f:=GI d (.inr rfl);unfold dn;rcases g.k with⟨b,_⟩ | ⟨b,_⟩
 ·rw[b];show gY (bif dC r.m then _ else _);cases dC r.m
  ·exact h
  ·exact λ_=>e
 ·rw[b];show gY (bif eu r.m then _ else _);cases eu r.m
  ·exact h
  ·exact λ_=>f
theorem GK{r:Rp}(d:Yo r){a:Ak}(b:ew r.m a)(h:gY r):gY (br r a):=by
 unfold br;cases de r a
 ·cases r.j.A==0
  ·exact h
  ·exact GJ d.m b h
 ·exact h
theorem GL{r:Rp}(a:Ak)(h:r.j.A≠0):(br r a).j=r.j∧(br r a).m=r.m:=by
 unfold br;cases de r a
 ·rw[show(r.j.A==0)=false from dz.2 h];exact⟨rfl,rfl⟩
 ·exact⟨rfl,rfl⟩
theorem Ux{s:Rp×List Ev}(a:Yo s.1)(d:0<s.1.q.length)(h:gY s.1):gY (ik s).1:=by
 have b:=sJ a d;unfold ik;cases de (a4 s.1) (s.1.q.headD aK)
 ·exact GJ (r:=a4 s.1) a.m ⟨b.k⟩ h
 ·exact h
theorem GN: ∀(n:Nat) (s:Rp×List Ev),n=s.1.q.length→Yo s.1→gY s.1→gY (fb n s).1
 | 0,s,_,_,h=>h
 | n+1,s,d,b,h=>by
  unfold fb
  split
  ·have a:0<s.1.q.length:=by omega
   exact GN n (ik s) (by rw[zJ,ZE];omega) (zI b a) (Ux b a h)
  ·exact h
theorem Uy{r:Rp}(f:Yo r)(b:r.j.A≠0)(h:gY r):gY (fo r).1:=by
 have d:=h b;unfold fo;cases a:lX r.m (bI r).j
 ·intro _;unfold lX at a;have g: ¬(r.j.nx+1=gD r.j.A r.m.B r.m.M r.m.C):=by
   intro e;rw[Bool.and_eq_false_iff] at a;rcases a with a | a
   ·exact absurd (of_decide_eq_false a) (λq=>q b)
   ·exact of_decide_eq_false a e
  show r.j.nx+1<gD r.j.A r.m.B r.m.M r.m.C;omega
 ·exact GN _ (ae (bI r)) (by unfold ae jM;rfl) (vH (vJ f b d) b) (λq=>absurd rfl q)
theorem Uz{s:Le}{K b a w:Nat}(x:Re)(h:cR s K)(f:b<s.r.m.R)(e:a<s.r.m.R*s.r.m.B*s.r.m.M)(d:gY s.r):gY (gF s b a w x).r:=by
 unfold gF;cases cY s.k.lp (dg s.k.t a).l w
 ·exact d
 ·exact GK h.r ⟨.inl ⟨rfl,e⟩⟩ d
theorem GO{s:Le}{K a b w:Nat}(x:Re)(h:cR s K)(d:a<s.r.m.R)(f:b<s.r.m.R*s.r.m.B*s.r.m.M)(i:K+3≤1000000000)(j:gY s.r):gY (fp s a b w x).r:=by
 have g:=Gb (w:=w) x h d f i;have e:=Uz (w:=w) x h d f j;unfold fp;cases cY s.k.lr (s.k.F.getD a bh).l w
 ·exact e
 ·exact GK g.r ⟨.inr ⟨rfl,by rw[(v8 s a b w x).R];exact d⟩⟩ e
theorem UA{heavy K:Nat}{s:Le}{n:Nt}(h:cR s K)(e:n.r<s.r.m.R)(d:n.h<s.r.m.R*s.r.m.B*s.r.m.M)(b:K+3≤1000000000)(a:gY s.r):gY (dD heavy s n).r:=by
 unfold dD
 split
 ·exact a
 split
 ·exact GO _ h e d b a
 split
 ·exact a
 ·exact GO _ h e d b a
theorem UB(s:Le)(b a w:Nat)(x:Re)(h:s.r.j.A≠0):(gF s b a w x).r.j=s.r.j∧(gF s b a w x).r.m=s.r.m:=by
 unfold gF;cases cY s.k.lp (dg s.k.t a).l w
 ·exact⟨rfl,rfl⟩
 ·exact GL (r:=s.r) _ h
theorem GP(s:Le)(a b w:Nat)(x:Re)(h:s.r.j.A≠0):(fp s a b w x).r.j=s.r.j∧(fp s a b w x).r.m=s.r.m:=by
 have d:=UB s a b w x h;unfold fp;cases cY s.k.lr (s.k.F.getD a bh).l w
 ·exact d
 ·have e:=GL (r:=(gF s a b w x).r) ⟨2,a⟩ (by rw[d.1];exact h);exact⟨e.1.trans d.1,e.2.trans d.2⟩
theorem GQ(heavy:Nat)(s:Le)(n:Nt)(h:s.r.j.A≠0):(dD heavy s n).r.j=s.r.j∧(dD heavy s n).r.m=s.r.m:=by
 unfold dD
 split
 ·exact⟨rfl,rfl⟩
 split
 ·exact GP _ _ _ _ _ h
 split
 ·exact⟨rfl,rfl⟩
 ·exact GP _ _ _ _ _ h
theorem UC{R S B M C a p1 p2 p3:Nat}(b:cC R S B M C)(h:ig R S B M C a p1 p2 p3):fY R S B M C ((bU a p1 p2 p3:Nat):Int)=true:=by
 rw[←vw];refine Ad b (vq.2 ?_);have:=h.h0;have:=h.h1;have:=h.h2;have:=h.h3;omega
structure gZ (R S B M C i:Nat):Prop where
 ex: ∃p0 p1 p2 p3,i=bU p0 p1 p2 p3∧ig R S B M C p0 p1 p2 p3
theorem gZ.has{R S B M C i:Nat}(h:gZ R S B M C i)(a:cC R S B M C):fY R S B M C (i:Int)=true:=by
 obtain⟨d,e,f,g,rfl,b⟩:=h.ex;exact UC a b
theorem gZ.bd{R S B M C i:Nat}(h:gZ R S B M C i)(a:cC R S B M C):i<8388608:=by
 obtain⟨d,e,f,g,rfl,b⟩:=h.ex;exact zr a.bd b
theorem UD(m:Mp)(p i:Nat):bB m p*64+i=bU (lT m p) (fP m.G m.R m.B m.M p) (fM m.G m.R m.B m.M p) i:=by unfold bB bU;omega
theorem Ai{m:Mp}(h:bp m){p i:Nat}(hp:p<m.R*m.B*m.M)(b:i<m.C):gZ m.R m.S m.B m.M m.C (a9 m 1 p i):=by
 have a:=vA h hp;exact⟨_,_,_,_,UD m p i,a.h0,a.h1,a.h2,b⟩
theorem Aj{m:Mp}(h:bp m){r i:Nat}(b:r<m.R+m.S)(a:i<m.B*m.M*m.C):gZ m.R m.S m.B m.M m.C (a9 m 2 r i):=⟨_,_,_,_,rfl,vE h b a⟩
theorem GR{m:Mp}{j:Jb}(h:bp m)(b:sG m j){n:Nat}(d:n<(m.R*m.B*m.M-m.res)*m.C):gZ m.R m.S m.B m.M m.C (aU m j n):=by
 have a:gZ m.R m.S m.B m.M m.C (eX m n):=⟨_,_,_,_,E7 m n,E8 h d⟩;rcases b.k with e | ⟨e,b⟩ | ⟨e,b⟩
 ·rw[e];exact a
 ·unfold aU;rw[e];show gZ _ _ _ _ _ (if az m n=j.fr then _ else _)
  split
  ·split
   ·exact Ai h b.ht (Nat.mod_lt _ h.O.bd.c1)
   ·exact a
  ·exact a
 ·unfold aU;rw[e];show gZ _ _ _ _ _ (if aO m.G m.R m.B m.M (az m n)=j.fr then _ else _)
  split
  ·split
   ·have:=b.t1;have:=h.rk;exact Aj h Om (zA h d)
   ·exact a
  ·exact a
structure Ct where
 s:Le
 U:Nat
 ns:List Nt
 V:Dv
structure bu (c:Cf) (x:Ct) (K A:Nat):Prop where
 cf:cZ c
 s:cR x.s K
 D:iB c x.V.D
 gl: ∀k,(x.V.W k).length=72
 vl:x.V.l.length≤A
 nl:x.ns.length≤A
 ly:sX c x.s.r.m
 run:gY x.s.r
 U:x.U<(c.R*c.B*c.M-c.res)*c.C
 time:x.s.time≤1099511627776
theorem bu.mono{c:Cf}{x:Ct}{K A b a:Nat}(h:bu c x K A)(d:K≤b)(hA:A≤a):bu c x b a:=⟨h.cf,h.s.mono d,h.D,h.gl,Y3 h.vl hA,Y3 h.nl hA,h.ly,h.run,h.U,h.time⟩
theorem bu.dv{c:Cf}{x:Ct}{K A:Nat}(h:bu c x K A)(hA:A≤900000):nu c x.V:=⟨h.D,h.gl,Y3 h.vl hA⟩
theorem cZ.O{c:Cf}(h:cZ c):cC c.R c.S c.B c.M c.C:=h.ly.O
theorem gZ.lay{c:Cf}{m:Mp}(e:sX c m){i:Nat}(h:gZ m.R m.S m.B m.M m.C i):gZ c.R c.S c.B c.M c.C i:=by rw[e.R,e.S,e.B,e.M,e.C] at h;exact h
def ny(c:Cf)(x:Ct)(i:Nat)(l:List UInt8)(p:Bool):Ct:={x with V:=iC x.V (i:Int) (fe c.E l (i:Int) p) (bif p then 1 else 0)}
def l7(c:Cf)(x:Ct)(i:Nat):List UInt8:=b8 c x.V.D (i:Int)
def bK(c:Cf)(x:Ct)(i:Nat):Nat:=jN c.E (l7 c x i) (i:Int)
def cU(c:Cf)(x:Ct)(i:Nat):List UInt8:=oo c.E (l7 c x i) (i:Int)
def mP(c:Cf)(x:Ct)(i h r:Nat):Nt:=⟨1,bK c x i,gX c.E (l7 c x i) (i:Int),i,h,r⟩
def b3(c:Cf)(x:Ct)(i h r:Nat):Ct:=⟨⟨(dD c.I x.s (mP c x i h r)).r,(dD c.I x.s (mP c x i h r)).k,(dD c.I x.s (mP c x i h r)).g,x.s.time⟩,x.U,x.ns++[mP c x i h r],qw c x.V (i:Int)⟩
def a2(x:Ct)(n:Nat):Nat:=aU x.s.r.m x.s.r.j n
def mQ(x:Ct)(n:Nat):Nat:=az x.s.r.m n
def mS(x:Ct)(n:Nat):Nat:=aO x.s.r.m.G x.s.r.m.R x.s.r.m.B x.s.r.m.M (az x.s.r.m n)
def jr(c:Cf)(x:Ct)(n:Nat):Ct:=b3 c x (a2 x n) (mQ x n) (mS x n)
def kH(x y:Ct):Ct:=⟨⟨y.s.r,y.s.k,y.s.g,x.s.time⟩,x.U,y.ns,y.V⟩
def cI(c:Cf)(x:Ct)(n:Nat)(a:Bool):Ct:=kH x<| bif (((bK c x (a2 x n):Nat):Int)==1)&&a then ny c (jr c x n) (a2 x n) (cU c x (a2 x n)) false else jr c x n
def cp(k:Nat):Int:=bif (k:Int)==3 then 40 else bif (k:Int)==2 then 41 else 0
section
variable {c:Cf} {x:Ct} {K A:Nat}
theorem oq(m:Nat){xs:List UInt8}(a:xs.length=72)(x:Int):(oo m xs x).length=64:=by
 unfold oo oY oZ
 split
 ·cases decide (2≤jK ((Zg 8).map (dK xs x)))
  ·exact k4 _ _ _
  ·exact Y1
 ·cases decide (2≤jK ((Zg 2).map (cK xs x)))
  ·exact u4 (r5 a x) (Za 2)
  ·exact Y1
theorem qy(h:bu c x K A){i:Nat}{l:List UInt8}(a:l.length=64)(p:Bool):bu c (ny c x i l p) K (A+1):=by
 refine⟨h.cf,h.s,Gy h.D _ (qx _ a _ _),sS h.gl _ (qx _ a _ _),?_,Nat.le_succ_of_le h.nl,h.ly,h.run,h.U,h.time⟩;show(x.V.l++[_]).length≤A+1;rw[YW];exact Zi h.vl
theorem Al(h:bu c x K A){i b r:Nat}(f:r<x.s.r.m.R)(e:b<x.s.r.m.R*x.s.r.m.B*x.s.r.m.M)(d:K+3≤1000000000):bu c (b3 c x i b r) (K+3) (A+1):=by
 have a:=Th (heavy:=c.I) (n:=mP c x i b r) h.s f e d;refine⟨h.cf,⟨a.r,a.k,a.g,a.n,a.rk⟩,sQ h.D,h.gl,?_,?_,h.ly.tr (Tg c.I x.s (mP c x i b r)),UA (heavy:=c.I) (n:=mP c x i b r) h.s f e d h.run,h.U,h.time⟩
 ·show(x.V.l++[_]).length≤A+1;rw[YW];exact Zi h.vl
 ·show(x.ns++[_]).length≤A+1;rw[YW];exact Zi h.nl
theorem wc(h:bu c x K A){n:Nat}(d:n<(c.R*c.B*c.M-c.res)*c.C):a2 x n<8388608∧fY c.R c.S c.B c.M c.C ((a2 x n:Nat):Int)=true∧mQ x n<x.s.r.m.R*x.s.r.m.B*x.s.r.m.M∧mS x n<x.s.r.m.R∧n<(x.s.r.m.R*x.s.r.m.B*x.s.r.m.M-x.s.r.m.res)*x.s.r.m.C:=by
 have a:n<(x.s.r.m.R*x.s.r.m.B*x.s.r.m.M-x.s.r.m.res)*x.s.r.m.C:=by rw[h.ly.R,h.ly.B,h.ly.M,h.ly.C,h.ly.res];exact d
 have b:=(GR h.s.r.m h.s.r.j a).lay h.ly;exact⟨b.bd h.cf.O,b.has h.cf.O,vC h.s.r.m a,sC h.s.r.m.O,a⟩
theorem wg(h:bu c x K A){n:Nat}(a:n<(c.R*c.B*c.M-c.res)*c.C)(b:K+3≤1000000000):bu c (jr c x n) (K+3) (A+1):=Al h (wc h a).2.2.2.1 (wc h a).2.2.1 b
theorem bu.fix{y:Ct}{b a:Nat}(h:bu c x K A)(g:bu c y b a):bu c (kH x y) b a:=⟨g.cf,⟨g.s.r,g.s.k,g.s.g,g.s.n,g.s.rk⟩,g.D,g.gl,g.vl,g.nl,g.ly,g.run,h.U,h.time⟩
theorem GS(h:bu c x K A){n:Nat}(e:n<(c.R*c.B*c.M-c.res)*c.C)(a:Bool)(d:K+3≤1000000000):bu c (cI c x n a) (K+3) (A+2):=by
 have b:=wg h e d;unfold cI;refine h.fix ?_;cases (((bK c x (a2 x n):Nat):Int)==1)&&a
 ·exact b.mono (Za _) (Nat.le_succ _)
 ·exact qy b (oq _ (mO h.D _) _) false
end
end
def e3:Nt:=⟨0,0,0,0,0,0⟩
def Am(x:Nt):List Value:=[iN x.k,iN x.v,iN x.f,iN x.i,iN x.h,iN x.r]
def sY:Kd YU Nt:=⟨Am,[i6 0,i6 0,i6 0,i6 0,i6 0,i6 0],117,81,e3,6,λ_=>rfl,rfl,λ_=>rfl,dT.mk' Kr Kr rfl⟩
abbrev b9(v:Value)(xs:List Nt):aC:= .p (ar Am ([i6 0,i6 0,i6 0,i6 0,i6 0,i6 0]) 81 v xs)
abbrev aV(h e g j k d l b a i f:Nat)(c:Cf)(x:Ct)(L:ah):Prop:=∃v:Value,L=[ob h #[pt e 0,pt a 0,pt f 0,iN x.U,v] 119,ob e (lA c g d b x.s.time) 122,pk (au g j k x.s.r),pk (aF d l x.s.k),pk (aB b x.s.g),pk (dL f),pk (bk a i c x.V),b9 v x.ns]
theorem pr(t q z y x a f g:Nat)(c:Cf)(b:cZ c)(o time:Nat)(v:Value)(V:Dv)(h:nu c V)(i:Nat)(A:i<8388608)(j:fY c.R c.S c.B c.M c.C ((i:Nat):Int)=true)(l:List UInt8)(e:l.length=64)(p:Bool):aa YU 88 #[pt t 0,iN i,.agg (rB 64 l).toArray,.bool p] [ob t #[pt q 0,pt a 0,pt g 0,iN o,v] 119,ob q (lA c z y x time) 122,pk (dL g),pk (bk a f c V)] [2,3] (λ_=>[pk (dL g),pk (bk a f c (iC V (i:Int) (fe c.E l (i:Int) p) (bif p then 1 else 0)))]) (λ_=> .tuple #[]):=by
 have u:=b.E;have d:=qx c.E e (i:Int) p;refine fG Tryz.func88 λw cs=>ra (λk=>[(6,pt (B0 k) 0)]) (λk=>[ob (B0 k) (rB 64 l).toArray 43]) λk=>rr (λ_=>[(3,.m (ld 0 (pt g 0))),(7,.m (ld 0 (pt q 0))),(11,.m (ld 1 (iN c.E))),(12,.m (ls 4 (rB 64 l))),(15,.c [2] [] (Uq c.E u g l (by(simp only[LL,e,d,e];done)) (i:Int) Om Om p)),(16,.m (al 5)),(17,.s 5)]) (λn=>[(8,pt ((n 16).y 0) 0)]) [] (λn L=>L++[ob ((n 16).y 0) (rB 72 (fe c.E l (i:Int) p)).toArray 217]) λn=>r0 [] [(25,.bool p)] [] ?_;refine cB (p) (λr=>?_) λr=>?_
 ·refine rr (λ_=>[(3,.l 0),(5,.l 5),(6,.c [3] [3] (Ug a f c b V h (i:Int) j (fe c.E l (i:Int) p) (by(simp only[LL,e,d,e];done))))]) N0 [] (λ_ L=>L.set 3 ((pk (bk a f c (iC V (i:Int) (fe c.E l (i:Int) p) 1))))) λB=>?_;exact eo ab.zero [2,3] [(0,0),(1,1)] [] (hf:=by(repeat (first | rw[r] | rw[ALct]));kernel_rfl)
 refine rs [(3,.l 0),(5,.l 5),(6,.c [3] [3] (Uf a f c b V h (i:Int) j (fe c.E l (i:Int) p) (by(simp only[LL,e,d,e];done))))] 3 ((pk (bk a f c (iC V (i:Int) (fe c.E l (i:Int) p) 0)))) ?_;exact eo ab.zero [2,3] [(0,0),(1,1)] [] (hf:=by(repeat (first | rw[r] | rw[ALcf]));kernel_rfl)
theorem UE(t p q u x o y n A B:Nat)(c:Cf)(s:Le)(K:Nat)(hs:cR s K)(j:Nat)(v:Value)(ns:List Nt)(I:ns.length≤800000)(G:K+3≤1000000000)(F:c.I≤65536)(d e f a b:Nat)(C:d≤3)(D:b<s.r.m.R)(H:a<s.r.m.R*s.r.m.B*s.r.m.M):aa YU 89 #[pt t 0,.agg #[i6 1,iN d,iN e,iN f,iN a,iN b]] [ob t #[pt p 0,pt A 0,pt B 0,iN j,v] 119,ob p (lA c q o n s.time) 122,pk (au q u x s.r),pk (aF o y s.k),pk (aB n s.g),b9 v ns] [0,2,3,4,5] (λE=>[ob t #[pt p 0,pt A 0,pt B 0,iN j,(E.val 0)] 119,pk (au q u x (dD c.I s (⟨1,d,e,f,a,b⟩:Nt)).r),pk (aF o y (dD c.I s (⟨1,d,e,f,a,b⟩:Nt)).k),pk (aB n (dD c.I s (⟨1,d,e,f,a,b⟩:Nt)).g),b9 (E.val 0) (ns++([(⟨1,d,e,f,a,b⟩:Nt)]))]) (λ_=> .tuple #[]):=by
 refine fG Tryz.func89 λw cs=>ra (λz=>[(3,pt (B0 z) 0)]) (λz=>[ob (B0 z) #[i6 1,iN d,iN e,iN f,iN a,iN b] 81]) λz=>rr (λi=>[(4,.l 0),(5,.l 6),(6,.m (bs 7 1)),(7,e7 sY (v) ns 5 7 ([(⟨1,d,e,f,a,b⟩:Nt)])),(10,.m (fv 0 5 (b9 ((i 7).val 0) (ns++([(⟨1,d,e,f,a,b⟩:Nt)]))) ((i 7).val 0) λbs h=>ar.one ((λ_ h=>h) bs h)))]) N0 [] (λi L=>(L.set 0 (ob t #[pt p 0,pt A 0,pt B 0,iN j,(i 7).val 0] 119)).set 5 (b9 ((i 7).val 0) (ns++([(⟨1,d,e,f,a,b⟩:Nt)])))++[ob (B6 i) #[i6 1,iN d,iN e,iN f,iN a,iN b] 81]) λi=>rr (λ_=>[(3,.l 0),(4,.l 6),(5,.c [1,2,3,4] [2,3,4] (Ut p q o n u x y c s _ hs G F d e f a b C D H))]) N0 [] (λ_ L=>((L.set 2 ((pk (au q u x (dD c.I s (⟨1,d,e,f,a,b⟩:Nt)).r)))).set 3 ((pk (aF o y (dD c.I s (⟨1,d,e,f,a,b⟩:Nt)).k)))).set 4 ((pk (aB n (dD c.I s (⟨1,d,e,f,a,b⟩:Nt)).g)))) λJ=>?_;exact eo (.l [] [] [(i 7).val 0]) [0,2,3,4,5] [(1,1)] []
theorem UF(i e g o q d j f n p:Nat)(c:Cf)(s:Le)(K:Nat)(hs:cR s K)(b:Nat)(v:Value)(ns:List Nt)(t:ns.length≤800000)(r:s.time≤1000000000000000):aa YU 89 #[pt i 0,.agg #[i6 2,i6 0,i6 0,i6 0,i6 0,i6 0]] [ob i #[pt e 0,pt n 0,pt p 0,iN b,v] 119,ob e (lA c g d f s.time) 122,pk (au g o q s.r),pk (aF d j s.k),pk (aB f s.g),b9 v ns] [0,1,2,3,4,5] (λE=>[ob i #[pt e 0,pt n 0,pt p 0,iN b,(E.val 0)] 119,ob e (lA c g d f ((s.time+1:Nat))) 122,pk (au g o q s.r),pk (aF d j (mJ s.k)),pk (aB f s.g),b9 (E.val 0) (ns++([(⟨2,0,0,0,0,0⟩:Nt)]))]) (λ_=> .tuple #[]):=by
 refine fG Tryz.func89 λw cs=>ra (λk=>[(3,pt (B0 k) 0)]) (λk=>[ob (B0 k) #[i6 2,i6 0,i6 0,i6 0,i6 0,i6 0] 81]) λk=>rr (λa=>[(4,.l 0),(5,.l 6),(6,.m (bs 7 1)),(7,e7 sY (v) ns 5 7 ([(⟨2,0,0,0,0,0⟩:Nt)])),(10,.m (fv 0 5 (b9 ((a 7).val 0) (ns++([(⟨2,0,0,0,0,0⟩:Nt)]))) ((a 7).val 0) λbs h=>ar.one ((λ_ h=>h) bs h)))]) N0 [] (λa L=>(L.set 0 (ob i #[pt e 0,pt n 0,pt p 0,iN b,(a 7).val 0] 119)).set 5 (b9 ((a 7).val 0) (ns++([(⟨2,0,0,0,0,0⟩:Nt)])))++[ob (B6 a) #[i6 2,i6 0,i6 0,i6 0,i6 0,i6 0] 81]) λa=>rr (λ_=>[(3,.l 0),(4,.l 6),(5,.c [1,2,3,4] [1,2,3,4] (Uu e g d f o q j c s _ hs r))]) N0 [] (λ_ L=>(L.set 1 (ob e (lA c g d f ((s.time+1:Nat))) 122)).set 3 ((pk (aF d j (mJ s.k))))) λu=>?_;exact eo (.l [] [] [(a 7).val 0]) [0,1,2,3,4,5] [] []
theorem GU(j f i n o e p d t u:Nat)(c:Cf)(s:Le)(K:Nat)(hs:cR s K)(b:Nat)(v:Value)(ns:List Nt)(A:ns.length≤800000)(x:K+257≤1000000000)(y:s.r.j.A≠0)(z:s.r.j.nx<gD s.r.j.A s.r.m.B s.r.m.M s.r.m.C):aa YU 89 #[pt j 0,.agg #[i6 3,i6 0,i6 0,i6 0,i6 0,i6 0]] [ob j #[pt f 0,pt t 0,pt u 0,iN b,v] 119,ob f (lA c i e d s.time) 122,pk (au i n o s.r),pk (aF e p s.k),pk (aB d s.g),b9 v ns] [0,2,3,4,5] (λE=>[ob j #[pt f 0,pt t 0,pt u 0,iN b,(E.val 0)] 119,pk (au i n o (iz s).r),pk (aF e p (iz s).k),pk (aB d (iz s).g),b9 (E.val 0) (ns++([(⟨3,0,0,0,0,0⟩:Nt)]))]) (λ_=> .tuple #[]):=by
 refine fG Tryz.func89 λw cs=>ra (λq=>[(3,pt (B0 q) 0)]) (λq=>[ob (B0 q) #[i6 3,i6 0,i6 0,i6 0,i6 0,i6 0] 81]) λq=>rr (λa=>[(4,.l 0),(5,.l 6),(6,.m (bs 7 1)),(7,e7 sY (v) ns 5 7 ([(⟨3,0,0,0,0,0⟩:Nt)])),(10,.m (fv 0 5 (b9 ((a 7).val 0) (ns++([(⟨3,0,0,0,0,0⟩:Nt)]))) ((a 7).val 0) λbs h=>ar.one ((λ_ h=>h) bs h)))]) N0 [] (λa L=>(L.set 0 (ob j #[pt f 0,pt t 0,pt u 0,iN b,(a 7).val 0] 119)).set 5 (b9 ((a 7).val 0) (ns++([(⟨3,0,0,0,0,0⟩:Nt)])))++[ob (B6 a) #[i6 3,i6 0,i6 0,i6 0,i6 0,i6 0] 81]) λa=>rr (λ_=>[(3,.l 0),(4,.l 6),(5,.c [1,2,3,4] [2,3,4] (Uv f i e d n o p c s _ hs x y z))]) N0 [] (λ_ L=>((L.set 2 ((pk (au i n o (iz s).r)))).set 3 ((pk (aF e p (iz s).k)))).set 4 ((pk (aB d (iz s).g)))) λB=>?_;exact eo (.l [] [] [(a 7).val 0]) [0,2,3,4,5] [(1,1)] []
theorem UG(f e i n p g q d k o:Nat)(c:Cf)(s:Le)(K:Nat)(hs:cR s K)(b:Nat)(v:Value)(ns:List Nt)(r:ns.length≤800000):aa YU 89 #[pt f 0,.agg #[i6 4,i6 0,i6 0,i6 0,i6 0,i6 0]] [ob f #[pt e 0,pt k 0,pt o 0,iN b,v] 119,ob e (lA c i g d s.time) 122,pk (au i n p s.r),pk (aF g q s.k),pk (aB d s.g),b9 v ns] [0,2,3,4,5] (λE=>[ob f #[pt e 0,pt k 0,pt o 0,iN b,(E.val 0)] 119,pk (au i n p s.r),pk (aF g q s.k),pk (aB d (nm s.g)),b9 (E.val 0) (ns++([(⟨4,0,0,0,0,0⟩:Nt)]))]) (λ_=> .tuple #[]):=by
 refine fG Tryz.func89 λw cs=>ra (λj=>[(3,pt (B0 j) 0)]) (λj=>[ob (B0 j) #[i6 4,i6 0,i6 0,i6 0,i6 0,i6 0] 81]) λj=>rr (λa=>[(4,.l 0),(5,.l 6),(6,.m (bs 7 1)),(7,e7 sY (v) ns 5 7 ([(⟨4,0,0,0,0,0⟩:Nt)])),(10,.m (fv 0 5 (b9 ((a 7).val 0) (ns++([(⟨4,0,0,0,0,0⟩:Nt)]))) ((a 7).val 0) λbs h=>ar.one ((λ_ h=>h) bs h)))]) N0 [] (λa L=>(L.set 0 (ob f #[pt e 0,pt k 0,pt o 0,iN b,(a 7).val 0] 119)).set 5 (b9 ((a 7).val 0) (ns++([(⟨4,0,0,0,0,0⟩:Nt)])))++[ob (B6 a) #[i6 4,i6 0,i6 0,i6 0,i6 0,i6 0] 81]) λa=>rs [(3,.l 0),(4,.l 6),(5,.c [1,2,3,4] [2,3,4] (Uw e i g d n p q c s _ hs))] 4 ((pk (aB d (nm s.g)))) ?_;exact eo (.l [] [] [(a 7).val 0]) [0,2,3,4,5] [(1,1)] []
theorem Ao(q o x C D u F t f B n:Nat)(c:Cf)(s:Le)(a:Nat)(ns:List Nt)(V:Dv)(K A:Nat)(h:bu c ⟨s,a,ns,V⟩ K A)(v:Value)(hA:A≤700000)(Q:K+3≤1000000000)(i b d:Nat)(R:i<8388608)(M:fY c.R c.S c.B c.M c.C ((i:Nat):Int)=true)(J:b<s.r.m.R*s.r.m.B*s.r.m.M)(O:d<s.r.m.R):aa YU 87 #[pt q 0,.agg #[iN i,iN b,iN d]] [ob q #[pt o 0,pt f 0,pt n 0,iN a,v] 119,ob o (lA c x u t s.time) 122,pk (au x C D s.r),pk (aF u F s.k),pk (aB t s.g),pk (dL n),pk (bk f B c V),b9 v ns] [0,2,3,4,5,6,7] (λE=>[ob q #[pt o 0,pt f 0,pt n 0,iN a,(E.val 0)] 119,pk (au x C D (b3 c (⟨s,a,ns,V⟩:Ct) i b d).s.r),pk (aF u F (b3 c (⟨s,a,ns,V⟩:Ct) i b d).s.k),pk (aB t (b3 c (⟨s,a,ns,V⟩:Ct) i b d).s.g),pk (dL n),pk (bk f B c (b3 c (⟨s,a,ns,V⟩:Ct) i b d).V),b9 (E.val 0) ((b3 c (⟨s,a,ns,V⟩:Ct) i b d).ns)]) (λ_=> .tuple #[.agg (rB 64 (cU c (⟨s,a,ns,V⟩:Ct) i)).toArray,.agg #[i6 ((bK c (⟨s,a,ns,V⟩:Ct) i:Nat):Int),i6 ((gX c.E (l7 c (⟨s,a,ns,V⟩:Ct) i) (i:Int):Nat):Int)]]):=by
 have j:=h.cf;have T:=j.E;have P:=j.E;have I:=h.dv Om;have S:=h.nl;have z:=mO h.D (i:Int);have N:=oq c.E z (i:Int);have y:ns.length≤800000:=Y3 h.nl Om;exact fG Tryz.func87 λw cs=>ra (λe=>[(3,pt (B0 e) 0),(4,pt (B1 e) 0),(5,pt (B2 e) 0)]) (λe=>[ob (B0 e) #[iN i,iN b,iN d] 180,ob (B1 e) (rB 64 z6).toArray 43,ob (B2 e) #[i6 0,i6 0] 79]) λe=>rr (λ_=>[(3,.m (ld 0 (pt f 0))),(5,.m (ld 8 (iN i))),(6,.c [6] [6] (Uh f B c j V I (i:Int) M)),(10,.m (al 11)),(11,.s 11)]) (λG=>[(6,pt ((G 10).y 0) 0)]) [] (λG L=>L.set 6 ((pk (bk f B c (qw c V (i:Int)))))++[ob ((G 10).y 0) (rB 72 (b8 c V.D (i:Int))).toArray 217]) λG=>rr (λ_=>[(3,.m (ld 0 (pt n 0))),(7,.m (ld 0 (pt o 0))),(11,.m (ld 1 (iN c.E))),(12,.m (ls 11 (rB 72 (b8 c V.D (i:Int))))),(14,.m (ld 8 (iN i))),(15,.c [5] [] (Ur c.E P n (b8 c V.D (i:Int)) (by(simp only[LL,z,N];done)) (i:Int) Om Om)),(19,.m (al 12)),(20,.m (al 13)),(21,.s 12),(22,.s 13)]) (λp=>[(8,pt ((p 19).y 0) 0),(9,pt ((p 20).y 0) 0)]) [] (λp L=>L++[ob ((p 19).y 0) (rB 64 (oo c.E (b8 c V.D (i:Int)) (i:Int))).toArray 43,ob ((p 20).y 0) #[i6 ((jN c.E (b8 c V.D (i:Int)) (i:Int):Nat):Int),i6 ((gX c.E (b8 c V.D (i:Int)) (i:Int):Nat):Int)] 79]) λp=>rr (λ_=>[(1,.l 13),(3,.l 8),(5,.l 8),(7,.l 8),(9,.c [0,1,2,3,4,7] [0,2,3,4,7] (UE q o x C D u F t f n c s _ h.s a v ns y Q j.h2 (jN c.E (b8 c V.D (i:Int)) (i:Int)) (gX c.E (b8 c V.D (i:Int)) (i:Int)) i b d (Un _ _ _) O J))]) N0 [] (λH L=>((((L.set 0 (ob q #[pt o 0,pt f 0,pt n 0,iN a,((H 9).val 0)] 119)).set 2 ((pk (au x C D (dD c.I s (⟨1,(jN c.E (b8 c V.D (i:Int)) (i:Int)),(gX c.E (b8 c V.D (i:Int)) (i:Int)),i,b,d⟩:Nt)).r)))).set 3 ((pk (aF u F (dD c.I s (⟨1,(jN c.E (b8 c V.D (i:Int)) (i:Int)),(gX c.E (b8 c V.D (i:Int)) (i:Int)),i,b,d⟩:Nt)).k)))).set 4 ((pk (aB t (dD c.I s (⟨1,(jN c.E (b8 c V.D (i:Int)) (i:Int)),(gX c.E (b8 c V.D (i:Int)) (i:Int)),i,b,d⟩:Nt)).g)))).set 7 (b9 ((H 9).val 0) (ns++([(⟨1,(jN c.E (b8 c V.D (i:Int)) (i:Int)),(gX c.E (b8 c V.D (i:Int)) (i:Int)),i,b,d⟩:Nt)])))) λH=>rr (λ_=>[(0,.l 12),(1,.l 13),(2,.s 9),(3,.s 10)]) N0 [] (λ_ L=>(L.set 9 (ob (B1 e) (rB 64 (oo c.E (b8 c V.D (i:Int)) (i:Int))).toArray 43)).set 10 (ob (B2 e) #[i6 ((jN c.E (b8 c V.D (i:Int)) (i:Int):Nat):Int),i6 ((gX c.E (b8 c V.D (i:Int)) (i:Int):Nat):Int)] 79)) λU=>aq (.tuple #[.agg (rB 64 (oo c.E (b8 c V.D (i:Int)) (i:Int))).toArray,.agg #[i6 ((jN c.E (b8 c V.D (i:Int)) (i:Int):Nat):Int),i6 ((gX c.E (b8 c V.D (i:Int)) (i:Int):Nat):Int)]]) (.l [] [] [((H 9).val 0)]) ba [0,2,3,4,5,6,7] [(1,1)] [9,10] (hf:=by kernel_rfl)
theorem Ap(v f:Nat):aa YU 117 #[.agg #[iN v,iN f]] [] [] N0 (λ_=>i6 (cp v)):=by
 refine fG Tryz.func117 λw cs=>ra (λb=>[(1,pt (B0 b) 0),(2,i6 0)]) (λb=>[ob (B0 b) #[iN v,iN f] 79]) λb=>r0 [(1,.l 0)] [(4,iN v)] [] (r0 [] [(5,.bool ((v:Int)==3))] [] ?_);refine cE (v:Int) 3 (λa c=>?_) λa c=>?_
 ·exact r0 [] [(2,i6 40)] [2] (aq (i6 40) ab.zero (by unfold cp;(repeat (first | rw[a] | rw[ALct]))) [] [] [])
 refine r0 [] [(7,.bool ((v:Int)==2))] [] ?_;refine cE (v:Int) 2 (λe d=>?_) λe d=>?_
 ·exact r0 [] [(2,i6 41)] [2] (aq (i6 41) ab.zero (by unfold cp;(repeat (first | rw[a] | rw[e] | rw[ALct] | rw[ALcf]))) [] [] [])
 exact r0 [] [(2,i6 0)] [2] (aq (i6 0) ab.zero (by unfold cp;(repeat (first | rw[a] | rw[e] | rw[ALcf]))) [] [] [])
theorem GV(h e a f g k j i l:Nat)(c:Cf)(r:Rp)(p:Yo r)(d time:Nat)(v:Value)(n:Nat)(o:n<(r.m.R*r.m.B*r.m.M-r.m.res)*r.m.C):aa YU 116 #[pt h 0,iN n] [ob h #[pt e 0,pt i 0,pt l 0,iN d,v] 119,ob e (lA c a k j time) 122,pk (au a f g r)] [2] (λ_=>[pk (au a f g r)]) (λ_=> .tuple #[.agg #[i6 ((aU r.m r.j n:Nat):Int),i6 ((az r.m n:Nat):Int),i6 ((aO r.m.G r.m.R r.m.B r.m.M (az r.m n):Nat):Int)],i6 0]):=by
 exact fG Tryz.func116 λw cs=>ra (λb=>[(4,pt (B0 b) 0),(5,i6 0)]) (λb=>[ob (B0 b) #[i6 0,i6 0,i6 0] 180]) λb=>r0 [(3,.m (ld 0 (pt e 0))),(6,.m (ld 1 (pt a 0))),(8,.c [2] [2] (Rl a f g r p n o)),] [(6,i6 ((aU r.m r.j n:Nat):Int)),(7,i6 ((az r.m n:Nat):Int)),(8,i6 ((aO r.m.G r.m.R r.m.B r.m.M (az r.m n):Nat):Int)),(9,i6 0)] [] (rF [] 25 (rr (λ_=>[(4,.s 3)]) (λ_=>[(5,i6 0)]) [5] (λ_ L=>L.set 3 (ob (B0 b) #[i6 ((aU r.m r.j n:Nat):Int),i6 ((az r.m n:Nat):Int),i6 ((aO r.m.G r.m.R r.m.B r.m.M (az r.m n):Nat):Int)] 180)) λq=>aq (.tuple #[.agg #[i6 ((aU r.m r.j n:Nat):Int),i6 ((az r.m n:Nat):Int),i6 ((aO r.m.G r.m.R r.m.B r.m.M (az r.m n):Nat):Int)],i6 0]) ab.zero ba [2] [(0,0),(1,1)] [3]))
theorem GW(h e a f g k j i l:Nat)(c:Cf)(r:Rp)(p:Yo r)(d time:Nat)(v:Value)(n:Int)(o:bQ n (((r.m.R*r.m.B*r.m.M-r.m.res)*r.m.C:Nat):Int)=false):aa YU 116 #[pt h 0,i6 n] [ob h #[pt e 0,pt i 0,pt l 0,iN d,v] 119,ob e (lA c a k j time) 122,pk (au a f g r)] [2] (λ_=>[pk (au a f g r)]) (λ_=> .tuple #[.agg #[i6 0,i6 0,i6 0],i6 30]):=by
 exact fG Tryz.func116 λw cs=>ra (λb=>[(4,pt (B0 b) 0),(5,i6 0)]) (λb=>[ob (B0 b) #[i6 0,i6 0,i6 0] 180]) λb=>r0 [(3,.m (ld 0 (pt e 0))),(6,.m (ld 1 (pt a 0))),(8,.c [2] [2] (Rm a f g r p n o)),] [(6,i6 0),(7,i6 0),(8,i6 0),(9,i6 12)] [] (rT [] 25 (r0 [(1,.s 3)] [(5,i6 30)] [5] (lf ab.zero [2] [(0,0),(1,1)] [3])))
theorem GX(i m o t u k z j f q g:Nat)(c:Cf)(s:Le)(a:Nat)(ns:List Nt)(V:Dv)(K A:Nat)(h:bu c ⟨s,a,ns,V⟩ K A)(v:Value)(hA:A≤700000)(J:K+3≤1000000000)(n:Nat)(M:n<(c.R*c.B*c.M-c.res)*c.C)(b:Bool):aa YU 83 #[pt i 0,iN n,.bool b] [ob i #[pt m 0,pt f 0,pt g 0,iN a,v] 119,ob m (lA c o k j s.time) 122,pk (au o t u s.r),pk (aF k z s.k),pk (aB j s.g),pk (dL g),pk (bk f q c V),b9 v ns] [0,2,3,4,5,6,7] (λE=>[ob i #[pt m 0,pt f 0,pt g 0,iN a,(E.val 0)] 119,pk (au o t u (cI c (⟨s,a,ns,V⟩:Ct) n b).s.r),pk (aF k z (cI c (⟨s,a,ns,V⟩:Ct) n b).s.k),pk (aB j (cI c (⟨s,a,ns,V⟩:Ct) n b).s.g),pk (dL g),pk (bk f q c (cI c (⟨s,a,ns,V⟩:Ct) n b).V),b9 (E.val 0) ((cI c (⟨s,a,ns,V⟩:Ct) n b).ns)]) (λ_=> .tuple #[.agg (rB 64 (cU c (⟨s,a,ns,V⟩:Ct) (a2 (⟨s,a,ns,V⟩:Ct) n))).toArray,i6 (cp (bK c (⟨s,a,ns,V⟩:Ct) (a2 (⟨s,a,ns,V⟩:Ct) n)))]):=by
 have p:=h.cf;have S:=p.E;have R:=p.E;have N:=h.dv Om;have O:=h.nl;have d:=wc h M;have P:=h.s.r;have Q:=wg h M J;have D:=Q.dv Om;have y:=d.1;have x:=d.2.1;have F:=d.2.2.1;have I:=d.2.2.2.1;have H:=d.2.2.2.2;have G:(cU c (⟨s,a,ns,V⟩:Ct) (aU s.r.m s.r.j n)).length=64:=oq c.E (mO h.D _) _;refine fG Tryz.func83 λw cs=>ra (λr=>[(6,pt (B0 r) 0),(7,i6 0)]) (λr=>[ob (B0 r) (rB 64 z6).toArray 43]) λr=>rr (λ_=>[(2,.c [0,1,2] [2] (GV i m o t u k j f g c s.r P a s.time v n H)),(7,.s 9)]) (λB=>[(8,pt (B6 B) 0),(9,i6 0)]) [] (λB L=>L++[ob (B6 B) #[i6 ((aU s.r.m s.r.j n:Nat):Int),i6 ((az s.r.m n:Nat):Int),i6 ((aO s.r.m.G s.r.m.R s.r.m.B s.r.m.M (az s.r.m n):Nat):Int)] 180]) λB=>rF [] 19 (rr (λ_=>[(1,.l 9),(2,.c [0,1,2,3,4,5,6,7] [0,2,3,4,5,6,7] (Ao i m o t u k z j f q g c s a ns V _ _ h v hA J (aU s.r.m s.r.j n) (az s.r.m n) (aO s.r.m.G s.r.m.R s.r.m.B s.r.m.M (az s.r.m n)) y x F I)),(8,.s 10),(9,.s 11)]) (λe=>[(10,pt (B6 e) 0),(11,pt (B7 e) 0)]) [] (λe L=>(((((L.set 0 (ob i #[pt m 0,pt f 0,pt g 0,iN a,((e 2).val 0)] 119)).set 2 ((pk (au o t u (b3 c (⟨s,a,ns,V⟩:Ct) (aU s.r.m s.r.j n) (az s.r.m n) (aO s.r.m.G s.r.m.R s.r.m.B s.r.m.M (az s.r.m n))).s.r)))).set 3 ((pk (aF k z (b3 c (⟨s,a,ns,V⟩:Ct) (aU s.r.m s.r.j n) (az s.r.m n) (aO s.r.m.G s.r.m.R s.r.m.B s.r.m.M (az s.r.m n))).s.k)))).set 4 ((pk (aB j (b3 c (⟨s,a,ns,V⟩:Ct) (aU s.r.m s.r.j n) (az s.r.m n) (aO s.r.m.G s.r.m.R s.r.m.B s.r.m.M (az s.r.m n))).s.g)))).set 6 ((pk (bk f q c (b3 c (⟨s,a,ns,V⟩:Ct) (aU s.r.m s.r.j n) (az s.r.m n) (aO s.r.m.G s.r.m.R s.r.m.B s.r.m.M (az s.r.m n))).V)))).set 7 (b9 ((e 2).val 0) ((b3 c (⟨s,a,ns,V⟩:Ct) (aU s.r.m s.r.j n) (az s.r.m n) (aO s.r.m.G s.r.m.R s.r.m.B s.r.m.M (az s.r.m n))).ns))++[ob (B6 e) (rB 64 (cU c (⟨s,a,ns,V⟩:Ct) (aU s.r.m s.r.j n))).toArray 43,ob (B7 e) #[i6 ((bK c (⟨s,a,ns,V⟩:Ct) (aU s.r.m s.r.j n):Nat):Int),i6 ((gX c.E (l7 c (⟨s,a,ns,V⟩:Ct) (aU s.r.m s.r.j n)) ((aU s.r.m s.r.j n):Int):Nat):Int)] 79]) λe=>r0 [(1,.l 11)] [(33,.bool ((((bK c (⟨s,a,ns,V⟩:Ct) (aU s.r.m s.r.j n):Nat):Int)==1)&&b))] [] ?_);refine cB ((((bK c (⟨s,a,ns,V⟩:Ct) (aU s.r.m s.r.j n):Nat):Int)==1)&&b) (λC=>?_) λC=>?_
 ·exact rr (λ_=>[(2,.l 9),(3,.l 10),(4,.c [0,1,5,6] [5,6] (pr i m o k j f q g c p a s.time ((e 2).val 0) ((b3 c (⟨s,a,ns,V⟩:Ct) (aU s.r.m s.r.j n) (az s.r.m n) (aO s.r.m.G s.r.m.R s.r.m.B s.r.m.M (az s.r.m n))).V) D (aU s.r.m s.r.j n) y x (cU c (⟨s,a,ns,V⟩:Ct) (aU s.r.m s.r.j n)) (by(simp only[LL,G];done)) false))]) N0 [] (λ_ L=>L.set 6 ((pk (bk f q c (iC ((b3 c (⟨s,a,ns,V⟩:Ct) (aU s.r.m s.r.j n) (az s.r.m n) (aO s.r.m.G s.r.m.R s.r.m.B s.r.m.M (az s.r.m n))).V) ((aU s.r.m s.r.j n):Int) (fe c.E (cU c (⟨s,a,ns,V⟩:Ct) (aU s.r.m s.r.j n)) ((aU s.r.m s.r.j n):Int) false) (bif false then 1 else 0)))))) λT=>rr (λ_=>[(0,.l 10),(1,.l 11),(2,.c [] [] (Ap (bK c (⟨s,a,ns,V⟩:Ct) (aU s.r.m s.r.j n)) (gX c.E (l7 c (⟨s,a,ns,V⟩:Ct) (aU s.r.m s.r.j n)) ((aU s.r.m s.r.j n):Int)))),(3,.s 8)]) (λ_=>[(7,i6 (cp (bK c (⟨s,a,ns,V⟩:Ct) (aU s.r.m s.r.j n))))]) [7] (λ_ L=>L.set 8 (ob (B0 r) (rB 64 (cU c (⟨s,a,ns,V⟩:Ct) (aU s.r.m s.r.j n))).toArray 43)) λU=>aq (.tuple #[.agg (rB 64 (cU c (⟨s,a,ns,V⟩:Ct) (aU s.r.m s.r.j n))).toArray,i6 (cp (bK c (⟨s,a,ns,V⟩:Ct) (aU s.r.m s.r.j n)))]) (.l [] [] [((e 2).val 0)]) ba [0,2,3,4,5,6,7] [(1,1)] [8] (hf:=by unfold cI kH jr a2 mQ mS;dsimp only;(repeat (first | rw[C] | rw[ALct] | rw[ALcf]));kernel_rfl)
 exact rr (λ_=>[(0,.l 10),(1,.l 11),(2,.c [] [] (Ap (bK c (⟨s,a,ns,V⟩:Ct) (aU s.r.m s.r.j n)) (gX c.E (l7 c (⟨s,a,ns,V⟩:Ct) (aU s.r.m s.r.j n)) ((aU s.r.m s.r.j n):Int)))),(3,.s 8)]) (λ_=>[(7,i6 (cp (bK c (⟨s,a,ns,V⟩:Ct) (aU s.r.m s.r.j n))))]) [7] (λ_ L=>L.set 8 (ob (B0 r) (rB 64 (cU c (⟨s,a,ns,V⟩:Ct) (aU s.r.m s.r.j n))).toArray 43)) λW=>aq (.tuple #[.agg (rB 64 (cU c (⟨s,a,ns,V⟩:Ct) (aU s.r.m s.r.j n))).toArray,i6 (cp (bK c (⟨s,a,ns,V⟩:Ct) (aU s.r.m s.r.j n)))]) (.l [] [] [((e 2).val 0)]) ba [0,2,3,4,5,6,7] [(1,1)] [8] (hf:=by unfold cI kH jr a2 mQ mS;dsimp only;(repeat (first | rw[C] | rw[ALcf]));kernel_rfl)
end E
end Go.Proofs.YtbcodenfkijdnaaGreat
