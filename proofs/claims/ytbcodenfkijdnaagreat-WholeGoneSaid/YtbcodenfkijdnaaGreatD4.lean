/- WholeGone, in 7 texts: part 4. For every input; no condition. -/
import Derived.Test.YtbcodenfkijdnaaGreatD3
import Derived.WalkKit
import Derived.Deep.RegionLaw
import Derived.Deep.LoopGhost
import Derived.Lib.SliceRun
import Derived.Lib.Walk
import Derived.Shelf.RegionOpenPlain
import Derived.Laws.AppendOwn
set_option linter.unusedVariables false
set_option linter.unusedSimpArgs false
set_option maxRecDepth 100000
namespace Go.Proofs.YtbcodenfkijdnaaGreat.E
open Go Go.RowKit Go.Shelf
open Go.Proofs.Tryz renaming prog→dZ
open Bool renaming and_eq_true→eF
open Nat renaming succ_lt_succ→ir,succ_pos→jg
theorem So(g gm gq:Nat)(m:Mp)(f t x:Nat)(q:List Ak)(hr:aN ⟨m,⟨1,f,t,x⟩,q⟩)(hj:oH m f t x):aa dZ 212 #[pt g 0] [pk (aq g gm gq ⟨m,⟨1,f,t,x⟩,q⟩)] [0] (λE=>[pk (aq g gm gq (cX ⟨m,⟨1,f,t,x⟩,q⟩).1),bg (E.val 0) ((cX ⟨m,⟨1,f,t,x⟩,q⟩).2)]) (λE=>(E.val 0)):=aa.pkW (n:=1) (N:=λE=>[bg (E.val 0) ((cX ⟨m,⟨1,f,t,x⟩,q⟩).2)]) (enters_of Tryz.func212 Kr rfl) λL hL=>by
 obtain⟨rfl⟩:=hL
 refine⟨[0,1,2],λ_=>[ob g #[pt gm 0,i6 (((cX ⟨m,⟨1,f,t,x⟩,q⟩).1.j.aa2:Nat):Int),i6 (((cX ⟨m,⟨1,f,t,x⟩,q⟩).1.j.fr:Nat):Int),i6 (((cX ⟨m,⟨1,f,t,x⟩,q⟩).1.j.tg:Nat):Int),i6 (((cX ⟨m,⟨1,f,t,x⟩,q⟩).1.j.nx:Nat):Int),pt gq 0] 133,pk (aG gm (cX ⟨m,⟨1,f,t,x⟩,q⟩).1.m),pk (bK gq (cX ⟨m,⟨1,f,t,x⟩,q⟩).1.q)],?_,rfl,λE=>⟨rfl,rfl,rfl⟩⟩
 have hm:=hr.m
 have hqn:q.length≤256:=hr.n
 have he:=vU hr (show(1:Nat)≠0 by decide)
 refine fG Tryz.func212 λw cs=>?_
 refine r0 [] [(2,.slice none 0 0)] [] (rr (λ_=>[(3,.l 0),(5,.s 3)]) (λq2=>[(3,pt (B4 q2) 0)]) [] (λq2 L=>L++[ob (B4 q2) #[i6 1,iN f,iN t,iN x] 70]) λq2=>rs [(4,.s 0)] 0 (ob g #[pt gm 0,i6 0,i6 0,i6 0,i6 0,pt gq 0] 133) (rT [(1,.l 3)] 17 (rs [(3,.l 0),(5,.l 3),(7,.l 3),(8,.c [1] [1] (Q7 gm m hm f t hj.hf hj.t0 hj.t1 hj.df hj.dt hj.ne))] 1 ((pk (aG gm (ky m f t)))) (rr (λ_=>[(1,.l 3),(3,.l 3),(5,ip jC 4 1 [(⟨6,f,t⟩:Ev)])]) (λq6=>[(4,.slice (some ⟨(q6 5).abd 0,0,none⟩) 1 1)]) [] (λq6 L=>L++[bg (.slice (some ⟨(q6 5).abd 0,0,none⟩) 1 1) ([(⟨6,f,t⟩:Ev)])]) λq6=>?_))))
 refine mN (λk _=>k≤q.length∧(fc q.length (ae ⟨m,⟨1,f,t,x⟩,q⟩)=fc (q.length-k) (af (ae ⟨m,⟨1,f,t,x⟩,q⟩) k))) (λ_ vS4=>[(4,vS4)]) (λk vS4 L=>(((L.set 0 (ob g #[pt gm 0,i6 (((af (ae ⟨m,⟨1,f,t,x⟩,q⟩) k).1.j.aa2:Nat):Int),i6 (((af (ae ⟨m,⟨1,f,t,x⟩,q⟩) k).1.j.fr:Nat):Int),i6 (((af (ae ⟨m,⟨1,f,t,x⟩,q⟩) k).1.j.tg:Nat):Int),i6 (((af (ae ⟨m,⟨1,f,t,x⟩,q⟩) k).1.j.nx:Nat):Int),pt gq 0] 133)).set 1 ((pk (aG gm (af (ae ⟨m,⟨1,f,t,x⟩,q⟩) k).1.m)))).set 2 ((pk (bK gq (af (ae ⟨m,⟨1,f,t,x⟩,q⟩) k).1.q)))).set 4 (bg vS4 ((af (ae ⟨m,⟨1,f,t,x⟩,q⟩) k).2))) (λk _=>q.length-k) 0 (.slice (some ⟨(q6 5).abd 0,0,none⟩) 1 1) ⟨by omega,rfl⟩ Kr Kr (λk vS4 ⟨hk7,hw⟩=>?_)
 have hI:aN (af (ae ⟨m,⟨1,f,t,x⟩,q⟩) k).1:=zS he k (show k≤q.length by omega)
 have hil:=zR (ae ⟨m,⟨1,f,t,x⟩,q⟩) k
 have hil1:(ae ⟨m,⟨1,f,t,x⟩,q⟩).2.length=1:=rfl
 have hiq:(af (ae ⟨m,⟨1,f,t,x⟩,q⟩) k).1.q.length=q.length-k:=vX (ae ⟨m,⟨1,f,t,x⟩,q⟩) k
 refine rr (λ_=>[(1,.c [0,1,2] [1,2] (mY g gm gq ((af (ae ⟨m,⟨1,f,t,x⟩,q⟩) k).1)))]) (λ_=>[(44,.bool (!((((af (ae ⟨m,⟨1,f,t,x⟩,q⟩) k).1).j.aa2:Int) != 0)))]) [] (λ_ L=>(L.set 1 ((pk (aG gm ((af (ae ⟨m,⟨1,f,t,x⟩,q⟩) k).1).m)))).set 2 ((pk (bK gq ((af (ae ⟨m,⟨1,f,t,x⟩,q⟩) k).1).q)))) λq8=>?_
 refine cB (!((((af (ae ⟨m,⟨1,f,t,x⟩,q⟩) k).1).j.aa2:Int) != 0)) (λh9=>?_) λh9=>?_
 ·have hb0:(af (ae ⟨m,⟨1,f,t,x⟩,q⟩) k).1.j.aa2=0:=by simpa using h9
  refine rr (λ_=>[(3,.l 0),(4,.c [2] [2] (Fz gq (((af (ae ⟨m,⟨1,f,t,x⟩,q⟩) k).1).q))),(9,.s 5)]) (λq10=>[(5,pt ((q10 8).abd 0) 0),(6,i6 (mw (((af (ae ⟨m,⟨1,f,t,x⟩,q⟩) k).1).q)))]) [] (λq10 L=>L.set 2 ((pk (bK gq (((af (ae ⟨m,⟨1,f,t,x⟩,q⟩) k).1).q).tail)))++[ob ((q10 8).abd 0) #[i6 ((((((af (ae ⟨m,⟨1,f,t,x⟩,q⟩) k).1).q).headD aJ).k:Nat):Int),i6 ((((((af (ae ⟨m,⟨1,f,t,x⟩,q⟩) k).1).q).headD aJ).w:Nat):Int)] 285]) λq10=>r0 [] [(54,.bool ((mw (((af (ae ⟨m,⟨1,f,t,x⟩,q⟩) k).1).q)) != 0))] [] ?_
  refine nA (mw (((af (ae ⟨m,⟨1,f,t,x⟩,q⟩) k).1).q)) 0 (λh12 dh12=>?_) λh12 dh12=>?_
  ·refine lF ?_
   have hx5:((af (ae ⟨m,⟨1,f,t,x⟩,q⟩) k).1.j.aa2≠0)∨(af (ae ⟨m,⟨1,f,t,x⟩,q⟩) k).1.q.length=0:=by(right;have h5:=dh12;unfold mw at h5;split at h5<;>first | assumption | exact absurd rfl h5)
   have hfin:cX ⟨m,⟨1,f,t,x⟩,q⟩=(af (ae ⟨m,⟨1,f,t,x⟩,q⟩) k):=by show fc q.length (ae ⟨m,⟨1,f,t,x⟩,q⟩)=_;rw[hw];rcases hx5 with h | h;exact vZ h _;rw[show q.length-k=0 by omega];rfl
   refine cl [ob g #[pt gm 0,i6 (((af (ae ⟨m,⟨1,f,t,x⟩,q⟩) k).1.j.aa2:Nat):Int),i6 (((af (ae ⟨m,⟨1,f,t,x⟩,q⟩) k).1.j.fr:Nat):Int),i6 (((af (ae ⟨m,⟨1,f,t,x⟩,q⟩) k).1.j.tg:Nat):Int),i6 (((af (ae ⟨m,⟨1,f,t,x⟩,q⟩) k).1.j.nx:Nat):Int),pt gq 0] 133,pk (aG gm ((af (ae ⟨m,⟨1,f,t,x⟩,q⟩) k).1).m),pk (bK gq (af (ae ⟨m,⟨1,f,t,x⟩,q⟩) k).1.q),ob (B4 q2) #[i6 1,iN f,iN t,iN x] 70,bg vS4 ((af (ae ⟨m,⟨1,f,t,x⟩,q⟩) k).2),ob ((q10 8).abd 0) #[i6 ((((((af (ae ⟨m,⟨1,f,t,x⟩,q⟩) k).1).q).headD aJ).k:Nat):Int),i6 ((((((af (ae ⟨m,⟨1,f,t,x⟩,q⟩) k).1).q).headD aJ).w:Nat):Int)] 285] (by(try rw[show(af (ae ⟨m,⟨1,f,t,x⟩,q⟩) k).1.q.tail=(af (ae ⟨m,⟨1,f,t,x⟩,q⟩) k).1.q from vY (hx5.resolve_left (λh=>h hb0))]);kernel_rfl) ?_
   exact r0 [] [(2,vS4)] [2] (lf (.l [] [] [vS4]) [0,1,2,4] [] [] (hf:=by rw[hfin];kernel_rfl))
  have hq0:0<(af (ae ⟨m,⟨1,f,t,x⟩,q⟩) k).1.q.length:=by have h5:=dh12;unfold mw at h5;split at h5<;>omega
  have hw2:=FF (s:=(ae ⟨m,⟨1,f,t,x⟩,q⟩)) (k:=k) (by show k<q.length;omega) hw hb0
  have hp1:=vV hI
  have hp2:eL (aX (af (ae ⟨m,⟨1,f,t,x⟩,q⟩) k).1).m ((af (ae ⟨m,⟨1,f,t,x⟩,q⟩) k).1.q.headD aJ):=⟨(tj hI hq0).k⟩
  refine cl [ob g #[pt gm 0,i6 (((aX (af (ae ⟨m,⟨1,f,t,x⟩,q⟩) k).1).j.aa2:Nat):Int),i6 (((aX (af (ae ⟨m,⟨1,f,t,x⟩,q⟩) k).1).j.fr:Nat):Int),i6 (((aX (af (ae ⟨m,⟨1,f,t,x⟩,q⟩) k).1).j.tg:Nat):Int),i6 (((aX (af (ae ⟨m,⟨1,f,t,x⟩,q⟩) k).1).j.nx:Nat):Int),pt gq 0] 133,pk (aG gm ((af (ae ⟨m,⟨1,f,t,x⟩,q⟩) k).1).m),pk (bK gq (((af (ae ⟨m,⟨1,f,t,x⟩,q⟩) k).1).q).tail),ob (B4 q2) #[i6 1,iN f,iN t,iN x] 70,bg vS4 ((af (ae ⟨m,⟨1,f,t,x⟩,q⟩) k).2),ob ((q10 8).abd 0) #[i6 ((((((af (ae ⟨m,⟨1,f,t,x⟩,q⟩) k).1).q).headD aJ).k:Nat):Int),i6 ((((((af (ae ⟨m,⟨1,f,t,x⟩,q⟩) k).1).q).headD aJ).w:Nat):Int)] 285] (by skip;kernel_rfl) ?_
  refine cl [ob g #[pt gm 0,i6 (((aX (af (ae ⟨m,⟨1,f,t,x⟩,q⟩) k).1).j.aa2:Nat):Int),i6 (((aX (af (ae ⟨m,⟨1,f,t,x⟩,q⟩) k).1).j.fr:Nat):Int),i6 (((aX (af (ae ⟨m,⟨1,f,t,x⟩,q⟩) k).1).j.tg:Nat):Int),i6 (((aX (af (ae ⟨m,⟨1,f,t,x⟩,q⟩) k).1).j.nx:Nat):Int),pt gq 0] 133,pk (aG gm (aX (af (ae ⟨m,⟨1,f,t,x⟩,q⟩) k).1).m),pk (bK gq (((af (ae ⟨m,⟨1,f,t,x⟩,q⟩) k).1).q).tail),ob (B4 q2) #[i6 1,iN f,iN t,iN x] 70,bg vS4 ((af (ae ⟨m,⟨1,f,t,x⟩,q⟩) k).2),ob ((q10 8).abd 0) #[i6 ((((((af (ae ⟨m,⟨1,f,t,x⟩,q⟩) k).1).q).headD aJ).k:Nat):Int),i6 ((((((af (ae ⟨m,⟨1,f,t,x⟩,q⟩) k).1).q).headD aJ).w:Nat):Int)] 285] (by skip;kernel_rfl) ?_
  refine cl [ob g #[pt gm 0,i6 (((aX (af (ae ⟨m,⟨1,f,t,x⟩,q⟩) k).1).j.aa2:Nat):Int),i6 (((aX (af (ae ⟨m,⟨1,f,t,x⟩,q⟩) k).1).j.fr:Nat):Int),i6 (((aX (af (ae ⟨m,⟨1,f,t,x⟩,q⟩) k).1).j.tg:Nat):Int),i6 (((aX (af (ae ⟨m,⟨1,f,t,x⟩,q⟩) k).1).j.nx:Nat):Int),pt gq 0] 133,pk (aG gm (aX (af (ae ⟨m,⟨1,f,t,x⟩,q⟩) k).1).m),pk (bK gq (aX (af (ae ⟨m,⟨1,f,t,x⟩,q⟩) k).1).q),ob (B4 q2) #[i6 1,iN f,iN t,iN x] 70,bg vS4 ((af (ae ⟨m,⟨1,f,t,x⟩,q⟩) k).2),ob ((q10 8).abd 0) #[i6 ((((((af (ae ⟨m,⟨1,f,t,x⟩,q⟩) k).1).q).headD aJ).k:Nat):Int),i6 ((((((af (ae ⟨m,⟨1,f,t,x⟩,q⟩) k).1).q).headD aJ).w:Nat):Int)] 285] (by skip;kernel_rfl) ?_
  refine r0 [(1,.l 5),(2,.c [0,1,2] [0,1,2] (pK g gm gq (aX (af (ae ⟨m,⟨1,f,t,x⟩,q⟩) k).1) hp1 ((((af (ae ⟨m,⟨1,f,t,x⟩,q⟩) k).1).q).headD aJ) hp2))] [(58,.bool (!(dh (aX (af (ae ⟨m,⟨1,f,t,x⟩,q⟩) k).1) ((((af (ae ⟨m,⟨1,f,t,x⟩,q⟩) k).1).q).headD aJ))))] [] ?_
  refine cB (!(dh (aX (af (ae ⟨m,⟨1,f,t,x⟩,q⟩) k).1) ((((af (ae ⟨m,⟨1,f,t,x⟩,q⟩) k).1).q).headD aJ))) (λh15=>?_) λh15=>?_
  ·refine rr (λq16=>[(2,.l 5),(3,.c [0,1,2] [0,1,2,6] (zV g gm gq (aX (af (ae ⟨m,⟨1,f,t,x⟩,q⟩) k).1) hp1 ((((af (ae ⟨m,⟨1,f,t,x⟩,q⟩) k).1).q).headD aJ) hp2)),(4,.m (mK 4 6 jC.hT (vS4) ((q16 3).val 0) (xs:=(af (ae ⟨m,⟨1,f,t,x⟩,q⟩) k).2) (ys:=gu (aX (af (ae ⟨m,⟨1,f,t,x⟩,q⟩) k).1) ((((af (ae ⟨m,⟨1,f,t,x⟩,q⟩) k).1).q).headD aJ)) (bg ((q16 3).val 0) (gu (aX (af (ae ⟨m,⟨1,f,t,x⟩,q⟩) k).1) ((((af (ae ⟨m,⟨1,f,t,x⟩,q⟩) k).1).q).headD aJ))) (λ_ h=>ap.src ((λ_ h=>h) _ h)) jC.one jC.lz (by simp only[LL,vW];omega)))]) (λq16=>[(4,(q16 4).val 0)]) [4] (λq16 L=>(((L.set 0 (ob g #[pt gm 0,i6 (((dn (aX (af (ae ⟨m,⟨1,f,t,x⟩,q⟩) k).1) ((((af (ae ⟨m,⟨1,f,t,x⟩,q⟩) k).1).q).headD aJ)).j.aa2:Nat):Int),i6 (((dn (aX (af (ae ⟨m,⟨1,f,t,x⟩,q⟩) k).1) ((((af (ae ⟨m,⟨1,f,t,x⟩,q⟩) k).1).q).headD aJ)).j.fr:Nat):Int),i6 (((dn (aX (af (ae ⟨m,⟨1,f,t,x⟩,q⟩) k).1) ((((af (ae ⟨m,⟨1,f,t,x⟩,q⟩) k).1).q).headD aJ)).j.tg:Nat):Int),i6 (((dn (aX (af (ae ⟨m,⟨1,f,t,x⟩,q⟩) k).1) ((((af (ae ⟨m,⟨1,f,t,x⟩,q⟩) k).1).q).headD aJ)).j.nx:Nat):Int),pt gq 0] 133)).set 1 ((pk (aG gm (dn (aX (af (ae ⟨m,⟨1,f,t,x⟩,q⟩) k).1) ((((af (ae ⟨m,⟨1,f,t,x⟩,q⟩) k).1).q).headD aJ)).m)))).set 2 ((pk (bK gq (dn (aX (af (ae ⟨m,⟨1,f,t,x⟩,q⟩) k).1) ((((af (ae ⟨m,⟨1,f,t,x⟩,q⟩) k).1).q).headD aJ)).q)))).set 4 (bg ((q16 4).val 0) (((af (ae ⟨m,⟨1,f,t,x⟩,q⟩) k).2)++(gu (aX (af (ae ⟨m,⟨1,f,t,x⟩,q⟩) k).1) ((((af (ae ⟨m,⟨1,f,t,x⟩,q⟩) k).1).q).headD aJ))))++[bg ((q16 3).val 0) (gu (aX (af (ae ⟨m,⟨1,f,t,x⟩,q⟩) k).1) ((((af (ae ⟨m,⟨1,f,t,x⟩,q⟩) k).1).q).headD aJ))]) λq16=>?_
   exact lE (k+1) ((q16 4).val 0) ⟨by omega,hw2⟩ Om Kr [0,1,2,3,4] (by(rw[FE (s:=(ae ⟨m,⟨1,f,t,x⟩,q⟩)) (k:=k) (by simpa using ‹(!dh (aX (af (ae ⟨m,⟨1,f,t,x⟩,q⟩) k).1) ((af (ae ⟨m,⟨1,f,t,x⟩,q⟩) k).1.q.headD aJ))=true›)]);kernel_rfl)
  exact lE (k+1) vS4 ⟨by omega,hw2⟩ Om Kr [0,1,2,3,4] (by(rw[FD (s:=(ae ⟨m,⟨1,f,t,x⟩,q⟩)) (k:=k) (by simpa using ‹(!dh (aX (af (ae ⟨m,⟨1,f,t,x⟩,q⟩) k).1) ((af (ae ⟨m,⟨1,f,t,x⟩,q⟩) k).1.q.headD aJ))=false›)]);kernel_rfl)
 refine lF ?_
 have hx5:((af (ae ⟨m,⟨1,f,t,x⟩,q⟩) k).1.j.aa2≠0)∨(af (ae ⟨m,⟨1,f,t,x⟩,q⟩) k).1.q.length=0:=by(left;simpa using h9)
 have hfin:cX ⟨m,⟨1,f,t,x⟩,q⟩=(af (ae ⟨m,⟨1,f,t,x⟩,q⟩) k):=by show fc q.length (ae ⟨m,⟨1,f,t,x⟩,q⟩)=_;rw[hw];rcases hx5 with h | h;exact vZ h _;rw[show q.length-k=0 by omega];rfl
 refine cl [ob g #[pt gm 0,i6 (((af (ae ⟨m,⟨1,f,t,x⟩,q⟩) k).1.j.aa2:Nat):Int),i6 (((af (ae ⟨m,⟨1,f,t,x⟩,q⟩) k).1.j.fr:Nat):Int),i6 (((af (ae ⟨m,⟨1,f,t,x⟩,q⟩) k).1.j.tg:Nat):Int),i6 (((af (ae ⟨m,⟨1,f,t,x⟩,q⟩) k).1.j.nx:Nat):Int),pt gq 0] 133,pk (aG gm ((af (ae ⟨m,⟨1,f,t,x⟩,q⟩) k).1).m),pk (bK gq (af (ae ⟨m,⟨1,f,t,x⟩,q⟩) k).1.q),ob (B4 q2) #[i6 1,iN f,iN t,iN x] 70,bg vS4 ((af (ae ⟨m,⟨1,f,t,x⟩,q⟩) k).2)] (by(try rw[show(af (ae ⟨m,⟨1,f,t,x⟩,q⟩) k).1.q.tail=(af (ae ⟨m,⟨1,f,t,x⟩,q⟩) k).1.q from vY (hx5.resolve_left (λh=>h hb0))]);kernel_rfl) ?_
 exact r0 [] [(2,vS4)] [2] (lf (.l [] [] [vS4]) [0,1,2,4] [] [] (hf:=by rw[hfin];kernel_rfl))
theorem Sp(g gm gq:Nat)(m:Mp)(f t x:Nat)(q:List Ak)(hr:aN ⟨m,⟨2,f,t,x⟩,q⟩)(hj:oI m f t x):aa dZ 212 #[pt g 0] [pk (aq g gm gq ⟨m,⟨2,f,t,x⟩,q⟩)] [0] (λE=>[pk (aq g gm gq (cX ⟨m,⟨2,f,t,x⟩,q⟩).1),bg (E.val 0) ((cX ⟨m,⟨2,f,t,x⟩,q⟩).2)]) (λE=>(E.val 0)):=aa.pkW (n:=1) (N:=λE=>[bg (E.val 0) ((cX ⟨m,⟨2,f,t,x⟩,q⟩).2)]) (enters_of Tryz.func212 Kr rfl) λL hL=>by
 obtain⟨rfl⟩:=hL
 refine⟨[0,1,2],λ_=>[ob g #[pt gm 0,i6 (((cX ⟨m,⟨2,f,t,x⟩,q⟩).1.j.aa2:Nat):Int),i6 (((cX ⟨m,⟨2,f,t,x⟩,q⟩).1.j.fr:Nat):Int),i6 (((cX ⟨m,⟨2,f,t,x⟩,q⟩).1.j.tg:Nat):Int),i6 (((cX ⟨m,⟨2,f,t,x⟩,q⟩).1.j.nx:Nat):Int),pt gq 0] 133,pk (aG gm (cX ⟨m,⟨2,f,t,x⟩,q⟩).1.m),pk (bK gq (cX ⟨m,⟨2,f,t,x⟩,q⟩).1.q)],?_,rfl,λE=>⟨rfl,rfl,rfl⟩⟩
 have hm:=hr.m
 have hqn:q.length≤256:=hr.n
 have he:=vU hr (show(2:Nat)≠0 by decide)
 refine fG Tryz.func212 λw cs=>?_
 refine r0 [] [(2,.slice none 0 0)] [] (rr (λ_=>[(3,.l 0),(5,.s 3)]) (λq2=>[(3,pt (B4 q2) 0)]) [] (λq2 L=>L++[ob (B4 q2) #[i6 2,iN f,iN t,iN x] 70]) λq2=>rs [(4,.s 0)] 0 (ob g #[pt gm 0,i6 0,i6 0,i6 0,i6 0,pt gq 0] 133) (rF [(1,.l 3)] 17 (rs [(3,.l 0),(5,.l 3),(7,.l 3),(8,.c [1] [1] (Q8 gm m hm f t hj.hf hj.t0 hj.t1 hj.hs))] 1 ((pk (aG gm (jz m f t)))) (rr (λ_=>[(1,.l 3),(3,.l 3),(5,ip jC 4 1 [(⟨6,f,t⟩:Ev)])]) (λq6=>[(4,.slice (some ⟨(q6 5).abd 0,0,none⟩) 1 1)]) [] (λq6 L=>L++[bg (.slice (some ⟨(q6 5).abd 0,0,none⟩) 1 1) ([(⟨6,f,t⟩:Ev)])]) λq6=>?_))))
 refine mN (λk _=>k≤q.length∧(fc q.length (ae ⟨m,⟨2,f,t,x⟩,q⟩)=fc (q.length-k) (af (ae ⟨m,⟨2,f,t,x⟩,q⟩) k))) (λ_ vS4=>[(4,vS4)]) (λk vS4 L=>(((L.set 0 (ob g #[pt gm 0,i6 (((af (ae ⟨m,⟨2,f,t,x⟩,q⟩) k).1.j.aa2:Nat):Int),i6 (((af (ae ⟨m,⟨2,f,t,x⟩,q⟩) k).1.j.fr:Nat):Int),i6 (((af (ae ⟨m,⟨2,f,t,x⟩,q⟩) k).1.j.tg:Nat):Int),i6 (((af (ae ⟨m,⟨2,f,t,x⟩,q⟩) k).1.j.nx:Nat):Int),pt gq 0] 133)).set 1 ((pk (aG gm (af (ae ⟨m,⟨2,f,t,x⟩,q⟩) k).1.m)))).set 2 ((pk (bK gq (af (ae ⟨m,⟨2,f,t,x⟩,q⟩) k).1.q)))).set 4 (bg vS4 ((af (ae ⟨m,⟨2,f,t,x⟩,q⟩) k).2))) (λk _=>q.length-k) 0 (.slice (some ⟨(q6 5).abd 0,0,none⟩) 1 1) ⟨by omega,rfl⟩ Kr Kr (λk vS4 ⟨hk7,hw⟩=>?_)
 have hI:aN (af (ae ⟨m,⟨2,f,t,x⟩,q⟩) k).1:=zS he k (show k≤q.length by omega)
 have hil:=zR (ae ⟨m,⟨2,f,t,x⟩,q⟩) k
 have hil1:(ae ⟨m,⟨2,f,t,x⟩,q⟩).2.length=1:=rfl
 have hiq:(af (ae ⟨m,⟨2,f,t,x⟩,q⟩) k).1.q.length=q.length-k:=vX (ae ⟨m,⟨2,f,t,x⟩,q⟩) k
 refine rr (λ_=>[(1,.c [0,1,2] [1,2] (mY g gm gq ((af (ae ⟨m,⟨2,f,t,x⟩,q⟩) k).1)))]) (λ_=>[(44,.bool (!((((af (ae ⟨m,⟨2,f,t,x⟩,q⟩) k).1).j.aa2:Int) != 0)))]) [] (λ_ L=>(L.set 1 ((pk (aG gm ((af (ae ⟨m,⟨2,f,t,x⟩,q⟩) k).1).m)))).set 2 ((pk (bK gq ((af (ae ⟨m,⟨2,f,t,x⟩,q⟩) k).1).q)))) λq8=>?_
 refine cB (!((((af (ae ⟨m,⟨2,f,t,x⟩,q⟩) k).1).j.aa2:Int) != 0)) (λh9=>?_) λh9=>?_
 ·have hb0:(af (ae ⟨m,⟨2,f,t,x⟩,q⟩) k).1.j.aa2=0:=by simpa using h9
  refine rr (λ_=>[(3,.l 0),(4,.c [2] [2] (Fz gq (((af (ae ⟨m,⟨2,f,t,x⟩,q⟩) k).1).q))),(9,.s 5)]) (λq10=>[(5,pt ((q10 8).abd 0) 0),(6,i6 (mw (((af (ae ⟨m,⟨2,f,t,x⟩,q⟩) k).1).q)))]) [] (λq10 L=>L.set 2 ((pk (bK gq (((af (ae ⟨m,⟨2,f,t,x⟩,q⟩) k).1).q).tail)))++[ob ((q10 8).abd 0) #[i6 ((((((af (ae ⟨m,⟨2,f,t,x⟩,q⟩) k).1).q).headD aJ).k:Nat):Int),i6 ((((((af (ae ⟨m,⟨2,f,t,x⟩,q⟩) k).1).q).headD aJ).w:Nat):Int)] 285]) λq10=>r0 [] [(54,.bool ((mw (((af (ae ⟨m,⟨2,f,t,x⟩,q⟩) k).1).q)) != 0))] [] ?_
  refine nA (mw (((af (ae ⟨m,⟨2,f,t,x⟩,q⟩) k).1).q)) 0 (λh12 dh12=>?_) λh12 dh12=>?_
  ·refine lF ?_
   have hx5:((af (ae ⟨m,⟨2,f,t,x⟩,q⟩) k).1.j.aa2≠0)∨(af (ae ⟨m,⟨2,f,t,x⟩,q⟩) k).1.q.length=0:=by(right;have h5:=dh12;unfold mw at h5;split at h5<;>first | assumption | exact absurd rfl h5)
   have hfin:cX ⟨m,⟨2,f,t,x⟩,q⟩=(af (ae ⟨m,⟨2,f,t,x⟩,q⟩) k):=by show fc q.length (ae ⟨m,⟨2,f,t,x⟩,q⟩)=_;rw[hw];rcases hx5 with h | h;exact vZ h _;rw[show q.length-k=0 by omega];rfl
   refine cl [ob g #[pt gm 0,i6 (((af (ae ⟨m,⟨2,f,t,x⟩,q⟩) k).1.j.aa2:Nat):Int),i6 (((af (ae ⟨m,⟨2,f,t,x⟩,q⟩) k).1.j.fr:Nat):Int),i6 (((af (ae ⟨m,⟨2,f,t,x⟩,q⟩) k).1.j.tg:Nat):Int),i6 (((af (ae ⟨m,⟨2,f,t,x⟩,q⟩) k).1.j.nx:Nat):Int),pt gq 0] 133,pk (aG gm ((af (ae ⟨m,⟨2,f,t,x⟩,q⟩) k).1).m),pk (bK gq (af (ae ⟨m,⟨2,f,t,x⟩,q⟩) k).1.q),ob (B4 q2) #[i6 2,iN f,iN t,iN x] 70,bg vS4 ((af (ae ⟨m,⟨2,f,t,x⟩,q⟩) k).2),ob ((q10 8).abd 0) #[i6 ((((((af (ae ⟨m,⟨2,f,t,x⟩,q⟩) k).1).q).headD aJ).k:Nat):Int),i6 ((((((af (ae ⟨m,⟨2,f,t,x⟩,q⟩) k).1).q).headD aJ).w:Nat):Int)] 285] (by(try rw[show(af (ae ⟨m,⟨2,f,t,x⟩,q⟩) k).1.q.tail=(af (ae ⟨m,⟨2,f,t,x⟩,q⟩) k).1.q from vY (hx5.resolve_left (λh=>h hb0))]);kernel_rfl) ?_
   exact r0 [] [(2,vS4)] [2] (lf (.l [] [] [vS4]) [0,1,2,4] [] [] (hf:=by rw[hfin];kernel_rfl))
  have hq0:0<(af (ae ⟨m,⟨2,f,t,x⟩,q⟩) k).1.q.length:=by have h5:=dh12;unfold mw at h5;split at h5<;>omega
  have hw2:=FF (s:=(ae ⟨m,⟨2,f,t,x⟩,q⟩)) (k:=k) (by show k<q.length;omega) hw hb0
  have hp1:=vV hI
  have hp2:eL (aX (af (ae ⟨m,⟨2,f,t,x⟩,q⟩) k).1).m ((af (ae ⟨m,⟨2,f,t,x⟩,q⟩) k).1.q.headD aJ):=⟨(tj hI hq0).k⟩
  refine cl [ob g #[pt gm 0,i6 (((aX (af (ae ⟨m,⟨2,f,t,x⟩,q⟩) k).1).j.aa2:Nat):Int),i6 (((aX (af (ae ⟨m,⟨2,f,t,x⟩,q⟩) k).1).j.fr:Nat):Int),i6 (((aX (af (ae ⟨m,⟨2,f,t,x⟩,q⟩) k).1).j.tg:Nat):Int),i6 (((aX (af (ae ⟨m,⟨2,f,t,x⟩,q⟩) k).1).j.nx:Nat):Int),pt gq 0] 133,pk (aG gm ((af (ae ⟨m,⟨2,f,t,x⟩,q⟩) k).1).m),pk (bK gq (((af (ae ⟨m,⟨2,f,t,x⟩,q⟩) k).1).q).tail),ob (B4 q2) #[i6 2,iN f,iN t,iN x] 70,bg vS4 ((af (ae ⟨m,⟨2,f,t,x⟩,q⟩) k).2),ob ((q10 8).abd 0) #[i6 ((((((af (ae ⟨m,⟨2,f,t,x⟩,q⟩) k).1).q).headD aJ).k:Nat):Int),i6 ((((((af (ae ⟨m,⟨2,f,t,x⟩,q⟩) k).1).q).headD aJ).w:Nat):Int)] 285] (by skip;kernel_rfl) ?_
  refine cl [ob g #[pt gm 0,i6 (((aX (af (ae ⟨m,⟨2,f,t,x⟩,q⟩) k).1).j.aa2:Nat):Int),i6 (((aX (af (ae ⟨m,⟨2,f,t,x⟩,q⟩) k).1).j.fr:Nat):Int),i6 (((aX (af (ae ⟨m,⟨2,f,t,x⟩,q⟩) k).1).j.tg:Nat):Int),i6 (((aX (af (ae ⟨m,⟨2,f,t,x⟩,q⟩) k).1).j.nx:Nat):Int),pt gq 0] 133,pk (aG gm (aX (af (ae ⟨m,⟨2,f,t,x⟩,q⟩) k).1).m),pk (bK gq (((af (ae ⟨m,⟨2,f,t,x⟩,q⟩) k).1).q).tail),ob (B4 q2) #[i6 2,iN f,iN t,iN x] 70,bg vS4 ((af (ae ⟨m,⟨2,f,t,x⟩,q⟩) k).2),ob ((q10 8).abd 0) #[i6 ((((((af (ae ⟨m,⟨2,f,t,x⟩,q⟩) k).1).q).headD aJ).k:Nat):Int),i6 ((((((af (ae ⟨m,⟨2,f,t,x⟩,q⟩) k).1).q).headD aJ).w:Nat):Int)] 285] (by skip;kernel_rfl) ?_
  refine cl [ob g #[pt gm 0,i6 (((aX (af (ae ⟨m,⟨2,f,t,x⟩,q⟩) k).1).j.aa2:Nat):Int),i6 (((aX (af (ae ⟨m,⟨2,f,t,x⟩,q⟩) k).1).j.fr:Nat):Int),i6 (((aX (af (ae ⟨m,⟨2,f,t,x⟩,q⟩) k).1).j.tg:Nat):Int),i6 (((aX (af (ae ⟨m,⟨2,f,t,x⟩,q⟩) k).1).j.nx:Nat):Int),pt gq 0] 133,pk (aG gm (aX (af (ae ⟨m,⟨2,f,t,x⟩,q⟩) k).1).m),pk (bK gq (aX (af (ae ⟨m,⟨2,f,t,x⟩,q⟩) k).1).q),ob (B4 q2) #[i6 2,iN f,iN t,iN x] 70,bg vS4 ((af (ae ⟨m,⟨2,f,t,x⟩,q⟩) k).2),ob ((q10 8).abd 0) #[i6 ((((((af (ae ⟨m,⟨2,f,t,x⟩,q⟩) k).1).q).headD aJ).k:Nat):Int),i6 ((((((af (ae ⟨m,⟨2,f,t,x⟩,q⟩) k).1).q).headD aJ).w:Nat):Int)] 285] (by skip;kernel_rfl) ?_
  refine r0 [(1,.l 5),(2,.c [0,1,2] [0,1,2] (pK g gm gq (aX (af (ae ⟨m,⟨2,f,t,x⟩,q⟩) k).1) hp1 ((((af (ae ⟨m,⟨2,f,t,x⟩,q⟩) k).1).q).headD aJ) hp2))] [(58,.bool (!(dh (aX (af (ae ⟨m,⟨2,f,t,x⟩,q⟩) k).1) ((((af (ae ⟨m,⟨2,f,t,x⟩,q⟩) k).1).q).headD aJ))))] [] ?_
  refine cB (!(dh (aX (af (ae ⟨m,⟨2,f,t,x⟩,q⟩) k).1) ((((af (ae ⟨m,⟨2,f,t,x⟩,q⟩) k).1).q).headD aJ))) (λh15=>?_) λh15=>?_
  ·refine rr (λq16=>[(2,.l 5),(3,.c [0,1,2] [0,1,2,6] (zV g gm gq (aX (af (ae ⟨m,⟨2,f,t,x⟩,q⟩) k).1) hp1 ((((af (ae ⟨m,⟨2,f,t,x⟩,q⟩) k).1).q).headD aJ) hp2)),(4,.m (mK 4 6 jC.hT (vS4) ((q16 3).val 0) (xs:=(af (ae ⟨m,⟨2,f,t,x⟩,q⟩) k).2) (ys:=gu (aX (af (ae ⟨m,⟨2,f,t,x⟩,q⟩) k).1) ((((af (ae ⟨m,⟨2,f,t,x⟩,q⟩) k).1).q).headD aJ)) (bg ((q16 3).val 0) (gu (aX (af (ae ⟨m,⟨2,f,t,x⟩,q⟩) k).1) ((((af (ae ⟨m,⟨2,f,t,x⟩,q⟩) k).1).q).headD aJ))) (λ_ h=>ap.src ((λ_ h=>h) _ h)) jC.one jC.lz (by simp only[LL,vW];omega)))]) (λq16=>[(4,(q16 4).val 0)]) [4] (λq16 L=>(((L.set 0 (ob g #[pt gm 0,i6 (((dn (aX (af (ae ⟨m,⟨2,f,t,x⟩,q⟩) k).1) ((((af (ae ⟨m,⟨2,f,t,x⟩,q⟩) k).1).q).headD aJ)).j.aa2:Nat):Int),i6 (((dn (aX (af (ae ⟨m,⟨2,f,t,x⟩,q⟩) k).1) ((((af (ae ⟨m,⟨2,f,t,x⟩,q⟩) k).1).q).headD aJ)).j.fr:Nat):Int),i6 (((dn (aX (af (ae ⟨m,⟨2,f,t,x⟩,q⟩) k).1) ((((af (ae ⟨m,⟨2,f,t,x⟩,q⟩) k).1).q).headD aJ)).j.tg:Nat):Int),i6 (((dn (aX (af (ae ⟨m,⟨2,f,t,x⟩,q⟩) k).1) ((((af (ae ⟨m,⟨2,f,t,x⟩,q⟩) k).1).q).headD aJ)).j.nx:Nat):Int),pt gq 0] 133)).set 1 ((pk (aG gm (dn (aX (af (ae ⟨m,⟨2,f,t,x⟩,q⟩) k).1) ((((af (ae ⟨m,⟨2,f,t,x⟩,q⟩) k).1).q).headD aJ)).m)))).set 2 ((pk (bK gq (dn (aX (af (ae ⟨m,⟨2,f,t,x⟩,q⟩) k).1) ((((af (ae ⟨m,⟨2,f,t,x⟩,q⟩) k).1).q).headD aJ)).q)))).set 4 (bg ((q16 4).val 0) (((af (ae ⟨m,⟨2,f,t,x⟩,q⟩) k).2)++(gu (aX (af (ae ⟨m,⟨2,f,t,x⟩,q⟩) k).1) ((((af (ae ⟨m,⟨2,f,t,x⟩,q⟩) k).1).q).headD aJ))))++[bg ((q16 3).val 0) (gu (aX (af (ae ⟨m,⟨2,f,t,x⟩,q⟩) k).1) ((((af (ae ⟨m,⟨2,f,t,x⟩,q⟩) k).1).q).headD aJ))]) λq16=>?_
   exact lE (k+1) ((q16 4).val 0) ⟨by omega,hw2⟩ Om Kr [0,1,2,3,4] (by(rw[FE (s:=(ae ⟨m,⟨2,f,t,x⟩,q⟩)) (k:=k) (by simpa using ‹(!dh (aX (af (ae ⟨m,⟨2,f,t,x⟩,q⟩) k).1) ((af (ae ⟨m,⟨2,f,t,x⟩,q⟩) k).1.q.headD aJ))=true›)]);kernel_rfl)
  exact lE (k+1) vS4 ⟨by omega,hw2⟩ Om Kr [0,1,2,3,4] (by(rw[FD (s:=(ae ⟨m,⟨2,f,t,x⟩,q⟩)) (k:=k) (by simpa using ‹(!dh (aX (af (ae ⟨m,⟨2,f,t,x⟩,q⟩) k).1) ((af (ae ⟨m,⟨2,f,t,x⟩,q⟩) k).1.q.headD aJ))=false›)]);kernel_rfl)
 refine lF ?_
 have hx5:((af (ae ⟨m,⟨2,f,t,x⟩,q⟩) k).1.j.aa2≠0)∨(af (ae ⟨m,⟨2,f,t,x⟩,q⟩) k).1.q.length=0:=by(left;simpa using h9)
 have hfin:cX ⟨m,⟨2,f,t,x⟩,q⟩=(af (ae ⟨m,⟨2,f,t,x⟩,q⟩) k):=by show fc q.length (ae ⟨m,⟨2,f,t,x⟩,q⟩)=_;rw[hw];rcases hx5 with h | h;exact vZ h _;rw[show q.length-k=0 by omega];rfl
 refine cl [ob g #[pt gm 0,i6 (((af (ae ⟨m,⟨2,f,t,x⟩,q⟩) k).1.j.aa2:Nat):Int),i6 (((af (ae ⟨m,⟨2,f,t,x⟩,q⟩) k).1.j.fr:Nat):Int),i6 (((af (ae ⟨m,⟨2,f,t,x⟩,q⟩) k).1.j.tg:Nat):Int),i6 (((af (ae ⟨m,⟨2,f,t,x⟩,q⟩) k).1.j.nx:Nat):Int),pt gq 0] 133,pk (aG gm ((af (ae ⟨m,⟨2,f,t,x⟩,q⟩) k).1).m),pk (bK gq (af (ae ⟨m,⟨2,f,t,x⟩,q⟩) k).1.q),ob (B4 q2) #[i6 2,iN f,iN t,iN x] 70,bg vS4 ((af (ae ⟨m,⟨2,f,t,x⟩,q⟩) k).2)] (by(try rw[show(af (ae ⟨m,⟨2,f,t,x⟩,q⟩) k).1.q.tail=(af (ae ⟨m,⟨2,f,t,x⟩,q⟩) k).1.q from vY (hx5.resolve_left (λh=>h hb0))]);kernel_rfl) ?_
 exact r0 [] [(2,vS4)] [2] (lf (.l [] [] [vS4]) [0,1,2,4] [] [] (hf:=by rw[hfin];kernel_rfl))
theorem Sq(g gm gq:Nat)(r:Rp)(hr:aN r)(hb:r.j.aa2≠0):aa dZ 212 #[pt g 0] [pk (aq g gm gq r)] [0] (λE=>[pk (aq g gm gq (cX r).1),bg (E.val 0) (cX r).2]) (λE=>E.val 0):=by
 obtain⟨m,⟨kd,f,t,x⟩,q⟩:=r
 rcases hr.j.k with h | ⟨hk,h⟩ | ⟨hk,h⟩
 ·cases h;exact absurd rfl hb
 ·cases hk;exact So g gm gq m f t x q hr h
 ·cases hk;exact Sp g gm gq m f t x q hr h
theorem Sr(g gm gq:Nat)(r:Rp)(hr:aN r)(hb:r.j.aa2≠0):aa dZ 212 #[pt g 0] (qM g gm gq r) [0,1,2] (λE=>qM g gm gq (cX r).1++[bg (E.val 0) (cX r).2]) (λE=>E.val 0):=(Sq g gm gq r hr hb).unpk (N:=λE=>[bg (E.val 0) (cX r).2])
theorem bz{r:Rp}(hb:r.j.aa2≠0):((r.j.aa2:Int)==0)=false:=by rw[dp];omega
theorem Ss(g gm gq:Nat)(r:Rp)(hr:aN r)(hb:r.j.aa2≠0)(hi:r.j.nx<eK r.j.aa2 r.m.B r.m.M r.m.C)(hd:kU r.m (bv r).j=true):aa dZ 165 #[pt g 0] [pk (aq g gm gq r)] [0] (λE=>[pk (aq g gm gq (cX (bv r)).1),bg (E.val 0) ((cX (bv r)).2)]) (λE=> .tuple #[(E.val 0),i6 0]):=aa.pkW (n:=1) (N:=λE=>[bg (E.val 0) ((cX (bv r)).2)]) (enters_of Tryz.func165 Kr rfl) λL hL=>by
 obtain⟨rfl⟩:=hL
 refine⟨[0,1,2],λ_=>[ob g #[pt gm 0,i6 (((cX (bv r)).1.j.aa2:Nat):Int),i6 (((cX (bv r)).1.j.fr:Nat):Int),i6 (((cX (bv r)).1.j.tg:Nat):Int),i6 (((cX (bv r)).1.j.nx:Nat):Int),pt gq 0] 133,pk (aG gm (cX (bv r)).1.m),pk (bK gq (cX (bv r)).1.q)],?_,rfl,λE=>⟨rfl,rfl,rfl⟩⟩
 have hm:=hr.m
 have hj:=hr.j
 have hqn:=hr.n
 have hG:=hm.abc
 have hly:=hm.ly
 have hnp:=hm.np
 have hkd:r.j.aa2=1∨r.j.aa2=2:=th hr hb
 have hnx:r.j.nx≤4096:=FB hr
 refine fG Tryz.func165 λw cs=>?_
 refine r0 [] [(2,.slice none 0 0),(3,i6 0)] [] (r0 [(1,.c [0,1,2] [1,2] (mY g gm gq r))] [(6,.bool (!((r.j.aa2:Int) != 0)))] [] ?_)
 have h3:(!((r.j.aa2:Int) != 0))=false:=by(rw[bne,bz hb];rfl)
 refine cF (!((r.j.aa2:Int) != 0)) h3 (rs [(4,.l 0),(5,ad r.j.nx 1),(9,.s 0)] 0 (ob g #[pt gm 0,iN r.j.aa2,iN r.j.fr,iN r.j.tg,i6 ((r.j.nx+1:Nat):Int),pt gq 0] 133) (rF [(3,.l 0),(7,.l 0),(8,.c [1] [1] (jA gm r.m hm)),(9,.c [] [] (aa.v ((Fw r.m hm r.j.aa2 r.j.fr r.j.tg (r.j.nx+1) hkd)) λ_=>ALca Value.bool (show(kU r.m ⟨r.j.aa2,r.j.fr,r.j.tg,(r.j.nx+1)⟩)=true from(by exact hd))))] 26 ?_))
 refine cl [ob g #[pt gm 0,i6 (((bv r).j.aa2:Nat):Int),i6 (((bv r).j.fr:Nat):Int),i6 (((bv r).j.tg:Nat):Int),i6 (((bv r).j.nx:Nat):Int),pt gq 0] 133,pk (aG gm r.m),pk (bK gq r.q)] (by skip;kernel_rfl) ?_
 refine cl [ob g #[pt gm 0,i6 (((bv r).j.aa2:Nat):Int),i6 (((bv r).j.fr:Nat):Int),i6 (((bv r).j.tg:Nat):Int),i6 (((bv r).j.nx:Nat):Int),pt gq 0] 133,pk (aG gm (bv r).m),pk (bK gq r.q)] (by skip;kernel_rfl) ?_
 refine cl [ob g #[pt gm 0,i6 (((bv r).j.aa2:Nat):Int),i6 (((bv r).j.fr:Nat):Int),i6 (((bv r).j.tg:Nat):Int),i6 (((bv r).j.nx:Nat):Int),pt gq 0] 133,pk (aG gm (bv r).m),pk (bK gq (bv r).q)] (by skip;kernel_rfl) ?_
 exact rr (λ_=>[(1,.c [0,1,2] [0,1,2,3] (Sr g gm gq (bv r) (qL hr hb hi) hb))]) (λq6=>[(2,(q6 1).val 0),(3,i6 0)]) [2,3] (λq6 L=>((L.set 0 (ob g #[pt gm 0,i6 (((cX (bv r)).1.j.aa2:Nat):Int),i6 (((cX (bv r)).1.j.fr:Nat):Int),i6 (((cX (bv r)).1.j.tg:Nat):Int),i6 (((cX (bv r)).1.j.nx:Nat):Int),pt gq 0] 133)).set 1 ((pk (aG gm (cX (bv r)).1.m)))).set 2 ((pk (bK gq (cX (bv r)).1.q)))++[bg ((q6 1).val 0) ((cX (bv r)).2)]) λq6=>lf (.l [] [] [((q6 1).val 0),(q6 1).val 0]) [0,1,2,3] [] []
theorem Su(g gm gq:Nat)(r:Rp)(hr:aN r)(hb:r.j.aa2≠0)(hi:r.j.nx<eK r.j.aa2 r.m.B r.m.M r.m.C)(hd:kU r.m (bv r).j=false):aa dZ 165 #[pt g 0] [pk (aq g gm gq r)] [0] (λE=>[pk (aq g gm gq (bv r)),bg (E.val 0) ([])]) (λE=> .tuple #[(E.val 0),i6 0]):=aa.pkW (n:=1) (N:=λE=>[bg (E.val 0) ([])]) (enters_of Tryz.func165 Kr rfl) λL hL=>by
 obtain⟨rfl⟩:=hL
 refine⟨[0,1,2],λ_=>[ob g #[pt gm 0,iN r.j.aa2,iN r.j.fr,iN r.j.tg,i6 ((r.j.nx+1:Nat):Int),pt gq 0] 133,pk (aG gm r.m),pk (bK gq r.q)],?_,rfl,λE=>⟨rfl,rfl,rfl⟩⟩
 have hm:=hr.m
 have hj:=hr.j
 have hqn:=hr.n
 have hG:=hm.abc
 have hly:=hm.ly
 have hnp:=hm.np
 have hkd:r.j.aa2=1∨r.j.aa2=2:=th hr hb
 have hnx:r.j.nx≤4096:=FB hr
 refine fG Tryz.func165 λw cs=>?_
 refine r0 [] [(2,.slice none 0 0),(3,i6 0)] [] (r0 [(1,.c [0,1,2] [1,2] (mY g gm gq r))] [(6,.bool (!((r.j.aa2:Int) != 0)))] [] ?_)
 have h3:(!((r.j.aa2:Int) != 0))=false:=by(rw[bne,bz hb];rfl)
 refine cF (!((r.j.aa2:Int) != 0)) h3 (rs [(4,.l 0),(5,ad r.j.nx 1),(9,.s 0)] 0 (ob g #[pt gm 0,iN r.j.aa2,iN r.j.fr,iN r.j.tg,i6 ((r.j.nx+1:Nat):Int),pt gq 0] 133) (rT [(3,.l 0),(7,.l 0),(8,.c [1] [1] (jA gm r.m hm)),(9,.c [] [] (aa.v ((Fw r.m hm r.j.aa2 r.j.fr r.j.tg (r.j.nx+1) hkd)) λ_=>ALca Value.bool (show(kU r.m ⟨r.j.aa2,r.j.fr,r.j.tg,(r.j.nx+1)⟩)=false from(by exact hd))))] 26 (r0 [] [(2,.slice none 0 0),(3,i6 0)] [2,3] ?_)))
 refine cz jC ?_
 exact lf (.l [] [] [.slice none 0 0]) [0,1,2,3] [] []
theorem Sw(g gm gq:Nat)(r:Rp)(hr:aN r)(hb:r.j.aa2≠0)(hi:r.j.nx<eK r.j.aa2 r.m.B r.m.M r.m.C):aa dZ 165 #[pt g 0] [pk (aq g gm gq r)] [0] (λE=>[pk (aq g gm gq (eT r).1),bg (E.val 0) (eT r).2]) (λE=> .tuple #[E.val 0,i6 0]):=by
 unfold eT
 cases hd:kU r.m (bv r).j with
 | true=>exact Ss g gm gq r hr hb hi hd
 | false=>exact Su g gm gq r hr hb hi hd
theorem Sx(a b:Nat):decide ((a:Int)<(b:Int))=decide (a<b):=by
 by_cases h:a<b
 ·rw[cC h,cC Om]
 ·rw[bj h,bj Om]
structure Bk where
 l:Nat
 a:Nat
deriving DecidableEq
def bA:Bk:=⟨0,0⟩
def zW(x:Bk):List Value:=[iN x.l,iN x.a]
def lP:Kd dZ Bk:=⟨zW,[i6 0,i6 0],292,290,bA,2,λ_=>rfl,rfl,λ_=>rfl,d9.mk' Kr Kr rfl⟩
abbrev kV(v:Value)(xs:List Bk):az:= .p (ap zW ([i6 0,i6 0]) 290 v xs)
structure ji (lim ev:Nat):Prop where
 l1:1≤lim
 l2:lim≤65536
 e1:1≤ev
 e2:ev≤65536
structure fk (ev:Nat) (l a:Nat):Prop where
 l:l≤65536
 a:a<ev
def kA(n a b:Int):Bool:=decide (a≤n)&&decide (n≤b)
def iv(l e:Int):Bool:=kA l 1 65536&&kA e 1 65536
theorem FG{l e:Int}(h:iv l e=true): ∃lim ev:Nat,l=lim∧e=ev∧ji lim ev:=by
 unfold iv kA at h
 simp only[eF,decide_eq_true_eq] at h
 exact⟨l.toNat,e.toNat,by omega,by omega,by omega,by omega,by omega,by omega⟩
theorem ji.r{lim ev:Nat}(h:ji lim ev):iv lim ev=true:=by
 have:=h.l1;have:=h.l2;have:=h.e1;have:=h.e2
 unfold iv kA
 simp only[eF,decide_eq_true_eq]
 omega
def b8(l n:Nat):Nat:=l+min n (65536-l)
def dH(lim l n:Nat):Bool:=decide (l<lim)&&decide (lim≤b8 l n)
def iR(ev l a:Nat):Nat:=if 1<ev-a then l else l-1
def iS(ev l a:Nat):Nat:=if 1<ev-a then a+1 else 0
theorem FH{ev l a n:Nat}(h:fk ev l a):fk ev (b8 l n) a:=⟨by have:=h.l;unfold b8;omega,h.a⟩
theorem FI{ev l a:Nat}(h:fk ev l a):fk ev (iR ev l a) (iS ev l a):=by
 have:=h.l;have:=h.a
 unfold iR iS
 constructor<;>split<;>omega
theorem v5(n a b:Int):aa dZ 174 #[i6 n,i6 a,i6 b] [] [] N0 (λ_=> .bool (kA n a b)):=by
 refine fG Tryz.func174 λw cs=>?_
 refine r0 [] [(6,.bool false)] [] (r0 [] [(6,.bool ((decide (a≤n))&&(decide (n≤b))))] [6] ?_)
 exact am (.bool ((decide (a≤n))&&(decide (n≤b)))) ab.zero bh [] [] []
theorem zX(l e:Int):aa dZ 136 #[.agg #[i6 l,i6 e]] [] [] N0 (λ_=> .bool (iv l e)):=by
 refine fG Tryz.func136 λw cs=>?_
 refine ra (λq1=>[(1,pt (B0 q1) 0),(2,.bool false)]) (λq1=>[ob (B0 q1) #[i6 l,i6 e] 27]) λq1=>r0 [(1,.l 0),(2,.c [] [] (v5 l 1 65536)),(5,.l 0),(6,.c [] [] (v5 e 1 65536))] [(2,.bool ((kA l 1 65536)&&(kA e 1 65536)))] [2] ?_
 exact am (.bool ((kA l 1 65536)&&(kA e 1 65536))) ab.zero bh [] [] []
theorem Sz(lim ev:Nat)(h:ji lim ev):aa dZ 136 #[.agg #[iN lim,iN ev]] [] [] N0 (λ_=> .bool true):=by
 have h1:=zX lim ev
 rwa [h.r] at h1
theorem FJ(lim ev l a:Nat)(hru:ji lim ev)(hb:fk ev l a):aa dZ 260 #[.agg #[iN l,iN a],.agg #[iN lim,iN ev]] [] [] N0 (λ_=> .bool true):=by
 have h1:=hb.l
 have h2:=hb.a
 have h3:=hru.e2
 refine fG Tryz.func260 λw cs=>?_
 refine ra (λq1=>[(2,pt (B0 q1) 0),(3,pt (B1 q1) 0),(4,.bool false)]) (λq1=>[ob (B0 q1) #[iN l,iN a] 290,ob (B1 q1) #[iN lim,iN ev] 27]) λq1=>r0 [(0,.m (ls 1 ([iN lim,iN ev]))),(1,.c [] [] (Sz lim ev hru)),(4,.m (ld 0 (iN l))),(5,.c [] [] (v5 (l:Int) 0 65536)),(9,.m (ld 0 (iN a))),(11,.m (ld 1 (iN ev))),(12,sI (ev:Int) (1) Om),(13,.c [] [] (v5 (a:Int) 0 ((ev:Int)-1)))] [(4,.bool ((kA (l:Int) 0 65536)&&(kA (a:Int) 0 ((ev:Int)-1))))] [4] ?_
 exact am (.bool ((kA (l:Int) 0 65536)&&(kA (a:Int) 0 ((ev:Int)-1)))) ab.zero (by exact ALca Value.bool (by unfold kA;simp only[eF,decide_eq_true_eq];omega)) [] [] []
theorem FK(lim ev l a n:Nat)(hru:ji lim ev)(hb:fk ev l a)(hn:n≤65536):aa dZ 237 #[.agg #[iN l,iN a],.agg #[iN lim,iN ev],iN n] [] [] N0 (λ_=> .tuple #[.agg #[i6 ((b8 l n:Nat):Int),iN a],.bool (dH lim l n)]):=by
 have h1:=hb.l
 have h3:=hru.l2
 refine fG Tryz.func237 λw cs=>?_
 refine ra (λq1=>[(3,pt (B0 q1) 0),(4,pt (B1 q1) 0),(6,pt (B2 q1) 0),(7,.bool false)]) (λq1=>[ob (B0 q1) #[iN l,iN a] 290,ob (B1 q1) #[iN lim,iN ev] 27,ob (B2 q1) #[i6 0,i6 0] 290]) λq1=>r0 [(0,.l 0),(1,.l 1),(2,.c [] [] (FJ lim ev l a hru hb))] [(16,.bool (decide ((n:Int)<0)))] [] ?_
 have h3:(decide ((n:Int)<0))=false:=by exact bj Om
 refine cF (decide ((n:Int)<0)) h3 (r0 [(1,.l 0)] [(8,iN l)] [] (rs [(1,.l 0),(4,.l 0),(5,sI 65536 ((l:Int)) Om),(6,.t (tv (Builtin.min_ #[3,3] 3 #[iN n,i6 (65536-(l:Int))]) (λ_=>JJ _ _ _ _))),(7,.t (tv (ar .add 3 (.tmp 21) (.tmp 26) (iN l) (i6 (min (n:Int) (65536-(l:Int))))) (λ_=>dU (b:=((b8 l n:Nat):Int)) (rv Om Om) (by unfold b8;omega)))),(9,.s 0)] 0 (ob (B0 q1) #[i6 ((b8 l n:Nat):Int),iN a] 290) (rr (λ_=>[(0,.m (ls 0 ([i6 ((b8 l n:Nat):Int),iN a]))),(3,.m (ld 1 (iN lim))),(7,.m (ld 0 (i6 ((b8 l n:Nat):Int)))),(9,.m (ld 1 (iN lim))),(12,.s 2)]) (λ_=>[(7,.bool ((decide ((l:Int)<(lim:Int)))&&(decide ((lim:Int)≤((b8 l n:Nat):Int)))))]) [7] (λ_ L=>L.set 2 (ob (B2 q1) #[i6 ((b8 l n:Nat):Int),iN a] 290)) λq6=>?_)))
 exact am (.tuple #[.agg #[i6 ((b8 l n:Nat):Int),iN a],.bool ((decide ((l:Int)<(lim:Int)))&&(decide ((lim:Int)≤((b8 l n:Nat):Int))))]) ab.zero (by unfold dH;rw[←zH,←Sx]) [] [] [2]
theorem SA(lim ev l a:Nat)(hru:ji lim ev)(hb:fk ev l a):aa dZ 244 #[.agg #[iN l,iN a],.agg #[iN lim,iN ev],i6 1] [] [] N0 (λ_=> .agg #[i6 ((iR ev l a:Nat):Int),i6 ((iS ev l a:Nat):Int)]):=by
 have h1:=hb.l
 have h2:=hb.a
 have h3:=hru.e2
 have h4:=hru.e1
 refine fG Tryz.func244 λw cs=>?_
 refine ra (λq1=>[(3,pt (B0 q1) 0),(4,pt (B1 q1) 0),(6,pt (B2 q1) 0)]) (λq1=>[ob (B0 q1) #[iN l,iN a] 290,ob (B1 q1) #[iN lim,iN ev] 27,ob (B2 q1) #[i6 0,i6 0] 290]) λq1=>rF [(0,.l 0),(1,.l 1),(2,.c [] [] (FJ lim ev l a hru hb))] 15 (r0 [(1,.l 1),(3,.l 0),(4,.t (tb (a:=iN ev) (b:=iN a) λ_ _ _ _=>mo (a:=ev) (b:=a) Om Om))] [(7,i6 ((ev-a:Nat):Int))] [] (r0 [] [(24,.bool (decide (1<((ev-a:Nat):Int))))] [] ?_))
 refine cj 1 ((ev-a:Nat):Int) (λh5 dh5=>?_) λh5 dh5=>?_
 ·refine rr (λ_=>[(1,.l 0),(3,ad a 1),(5,.s 0)]) N0 [] (λ_ L=>L.set 0 (ob (B0 q1) #[iN l,i6 ((a+1:Nat):Int)] 290)) λq6=>?_
  refine rs [(0,.l 0),(1,.s 2)] 2 (ob (B2 q1) #[iN l,i6 ((a+1:Nat):Int)] 290) ?_
  exact am (.agg #[iN l,i6 ((a+1:Nat):Int)]) ab.zero (by unfold iR iS;(rw[ALifp (show 1<ev-a by omega),ALifp (show 1<ev-a by omega)])) [] [] [2]
 refine r0 [(2,.t (tv (ar .sub 3 (.tmp 31) (.tmp 32) (i6 1) (i6 ((ev-a:Nat):Int))) (λ_=>dU (b:=0) (rx Om Om) Om)))] [(2,i6 0)] [2] (rs [(2,.l 1),(3,.t (tv (ar .rem 3 (.tmp 34) (.tmp 36) (i6 0) (iN ev)) (λ_=>dU (b:=0) (om (a:=0) (d:=ev) Om) (by simp)))),(5,.s 0)] 0 (ob (B0 q1) #[iN l,i6 0] 290) (rs [(1,.m (ld 0 (iN l))),(2,sI (l:Int) (1) Om),(5,.m (ld 1 (iN ev))),(6,.t (tv (ar .quo 3 (.tmp 42) (.tmp 44) (i6 0) (iN ev)) (λ_=>dU (b:=0) (o8 (a:=0) (d:=ev) Om Om) (by simp)))),(8,sI ((l:Int)-1) (0) Om),(9,.t (tv (Builtin.max_ #[3,3] 3 #[i6 0,i6 (((l:Int)-1)-0)]) (λ_=>r6 _ _ _ _))),(11,.s 0)] 0 (ob (B0 q1) #[i6 (max 0 (((l:Int)-1)-0)),i6 0] 290) (rs [(0,.l 0),(1,.s 2)] 2 (ob (B2 q1) #[i6 (max 0 (((l:Int)-1)-0)),i6 0] 290) ?_)))
 exact am (.agg #[i6 (max 0 (((l:Int)-1)-0)),i6 0]) ab.zero (by unfold iR iS;(rw[ALifn (show ¬1<ev-a by omega),ALifn (show ¬1<ev-a by omega)];exact ALca (λz:Int=>Value.agg #[i6 z,i6 0]) Om)) [] [] [2]
theorem FL(lim ev l a:Nat)(hru:ji lim ev)(hb:fk ev l a):aa dZ 208 #[.agg #[iN l,iN a],.agg #[iN lim,iN ev]] [] [] N0 (λ_=> .agg #[i6 ((iR ev l a:Nat):Int),i6 ((iS ev l a:Nat):Int)]):=by
 refine fG Tryz.func208 λw cs=>?_
 exact ra (λq1=>[(2,pt (B0 q1) 0),(3,pt (B1 q1) 0),(4,pt (B2 q1) 0)]) (λq1=>[ob (B0 q1) #[iN l,iN a] 290,ob (B1 q1) #[iN lim,iN ev] 27,ob (B2 q1) #[i6 0,i6 0] 290]) λq1=>rs [(0,.l 0),(1,.l 1),(2,.c [] [] (SA lim ev l a hru hb)),(3,.s 2)] 2 (ob (B2 q1) #[i6 ((iR ev l a:Nat):Int),i6 ((iS ev l a:Nat):Int)] 290) (lf ab.zero [] [] [2])
structure Re where
 s:Nat
 t:Nat
 k:Nat
 i:Nat
 o:Nat
deriving DecidableEq
def tn:Re:=⟨0,0,0,0,0⟩
def qO(x:Re):List Value:=[iN x.s,iN x.t,iN x.k,iN x.i,iN x.o]
def iT:Kd dZ Re:=⟨qO,[i6 0,i6 0,i6 0,i6 0,i6 0],41,59,tn,5,λ_=>rfl,rfl,λ_=>rfl,d9.mk' Kr Kr rfl⟩
abbrev iU(v:Value)(xs:List Re):az:= .p (ap qO ([i6 0,i6 0,i6 0,i6 0,i6 0]) 59 v xs)
def aY{α:Type}(p:α→Bool):List α→Nat
 | []=>0
 | x::xs=>bif p x then 0 else aY p xs+1
def iV{α:Type}(p:α→Bool)(xs:List α):Int:=if aY p xs=xs.length then -1 else(aY p xs:Int)
theorem pL{α:Type}(p:α→Bool): ∀xs:List α,aY p xs≤xs.length
 | []=>Nat.le_refl _
 | x::xs=>by
  unfold aY
  cases p x with
  | true=>exact Nat.zero_le _
  | false=>exact Nat.succ_le_succ (pL p xs)
theorem FM{α:Type}{p:α→Bool}{d:α}: ∀{xs:List α},(∀j,j<xs.length→p (xs.getD j d)=false)→aY p xs=xs.length
 | [],_=>rfl
 | x::xs,h=>by
  unfold aY
  rw[show p x=false from h 0 (jg _),ALcf,FM (d:=d) λj hj=>h (j+1) (ir hj)];rfl
theorem FN{α:Type}{p:α→Bool}{d:α}: ∀{xs:List α} {k:Nat},k<xs.length→(∀j,j<k→p (xs.getD j d)=false)→p (xs.getD k d)=true→aY p xs=k
 | [],k,hk,_,_=>by cases hk
 | x::xs,0,_,_,h1=>by
  unfold aY
  rw[show p x=true from h1];rfl
 | x::xs,k+1,hk,h,h1=>by
  unfold aY
  rw[show p x=false from h 0 (jg _),ALcf,FN (d:=d) (Nat.lt_of_succ_lt_succ hk) (λj hj=>h (j+1) (ir hj)) h1]
theorem FO{α:Type}{p:α→Bool}{d:α}{xs:List α}(h: ∀j,j<xs.length→p (xs.getD j d)=false):iV p xs= -1:=by unfold iV;rw[ALifp (FM h)]
theorem FP{α:Type}{p:α→Bool}{d:α}{xs:List α}{k:Nat}(hk:k<xs.length)(h: ∀j,j<k→p (xs.getD j d)=false)(h1:p (xs.getD k d)=true):iV p xs=(k:Int):=by
 unfold iV
 rw[FN hk h h1,ALifn Om]
def c7(x:Re):Bool:= !((x.k:Int)==2)
structure Lg where
 l:List Re
 room:Nat
 next:Nat
 lost:Bool
structure gw (g:Lg):Prop where
 l:g.l.length≤g.room
 r1:1≤g.room
 r:g.room≤256
 n:g.next≤1000000000
abbrev ay(g:Nat)(c:Lg)(L:ah):Prop:=∃v:Value,L=[ob g #[v,iN c.room,iN c.next,.bool c.lost] 124,iU v c.l]
def qP(x:Re)(n:Nat):Re:={x with s:=n}
def bW(c:Lg)(x:Re):Lg:=
 if c.l.length=c.room then
  (if c7 x=true∨aY c7 c.l=c.l.length then{c with next:=c.next+1,lost:=true}
   else{c with l:=c.l.eraseIdx (aY c7 c.l)++[qP x c.next],next:=c.next+1,lost:=true})
 else{c with l:=c.l++[qP x c.next],next:=c.next+1}
def FQ(c:Lg)(x:Re):Bool:= !(decide (c.l.length=c.room)&&(c7 x||decide (aY c7 c.l=c.l.length)))
def nS(c:Lg):Lg:={c with l:=[],lost:=false}
def pM(room:Nat):Lg:=⟨[],room,1,false⟩
theorem v6(x:Re):aa dZ 19 #[.agg #[iN x.s,iN x.t,iN x.k,iN x.i,iN x.o]] [] [] N0 (λ_=> .bool ((x.k:Int)==2)):=by
 refine fG Tryz.func19 λw cs=>?_
 exact ra (λq1=>[(1,pt (B0 q1) 0),(2,.bool false)]) (λq1=>[ob (B0 q1) #[iN x.s,iN x.t,iN x.k,iN x.i,iN x.o] 59]) λq1=>r0 [(1,.l 0)] [(2,.bool ((x.k:Int)==2))] [2] (lf ab.zero [] [] [])
theorem SB(x:Re):aa dZ 277 #[.agg #[iN x.s,iN x.t,iN x.k,iN x.i,iN x.o]] [] [] N0 (λ_=> .bool (c7 x)):=by
 refine fG Tryz.func277 λw cs=>?_
 refine ra (λq1=>[(1,pt (B0 q1) 0),(2,.bool false)]) (λq1=>[ob (B0 q1) #[iN x.s,iN x.t,iN x.k,iN x.i,iN x.o] 59]) λq1=>r0 [(0,.l 0),(1,.c [] [] (v6 x))] [(2,.bool (!((x.k:Int)==2)))] [2] ?_
 exact am (.bool (!((x.k:Int)==2))) ab.zero bh [] [] []
theorem SC(v:Value)(xs:List Re)(hx:xs.length≤1000000):aa dZ 276 #[v,.func (.func 277) #[] #[]] [.p (aK qO v xs)] [] N0 (λ_=>i6 (iV c7 xs)):=by
 refine fO Tryz.func276 0 rfl λbq0 hq0=>?_
 refine fG Tryz.func276 λw cs=>?_
 refine r0 [] [(4,i6 0)] [] (r0 [(1,eR hq0.1 0)] [(7,iN xs.length),(8,i6 0)] [] ?_)
 refine lq (λk=>k≤xs.length∧(∀j,j<k→c7 (xs.getD j tn)=false)) (λk=>[(8,iN k)]) (λ_ L=>L) (λk=>xs.length-k) 0 ⟨by omega,(λ_ h=>absurd h (Nat.not_lt_zero _))⟩ Kr Kr (λk ⟨hk3,hw⟩=>?_)
 refine r0 [] [(9,.bool (decide ((k:Int)<(xs.length:Int))))] [] ?_
 refine cj (k:Int) (xs.length:Int) (λh5 dh5=>?_) λh5 dh5=>?_
 ·refine r0 [] [(5,iN k)] [] ?_
  refine r0 [(3,fF hq0.1 0 k 5),(4,nC iT hq0.1 0 k 0 5),(5,.c [] [] (SB (xs.getD k tn)))] [(16,.bool (c7 (xs.getD k tn)))] [] ?_
  refine cB (c7 (xs.getD k tn)) (λh8=>?_) λh8=>?_
  ·refine r0 [] [(4,iN k)] [] ?_
   exact am (iN k) ab.zero (by(rw[FP Om hw As];done)) [] [(0,0)] []
  refine r0 [(0,ad k 1)] [(8,i6 ((k+1:Nat):Int))] [8] ?_
  exact le (k+1) ⟨by omega,zL hw As⟩ Om Kr [0] Kr
 obtain rfl:xs.length=k:=by omega
 refine lx ?_
 refine r0 [] [(4,i6 (-1))] [] ?_
 exact am (i6 (-1)) ab.zero (by(rw[FO hw];done)) [] [(0,0)] []
theorem FR(g:Nat)(c:Lg):aa dZ 20 #[pt g 0] [pk (ay g c)] [0] (λ_=>[pk (ay g c)]) (λ_=>iN c.l.length):=aa.pkZ Tryz.func20 λL hL=>by
 obtain⟨v,rfl⟩:=hL
 refine⟨[1],λ_=>[iU v c.l],?_,rfl,λE=>⟨rfl,rfl,⟨_,rfl⟩⟩⟩
 refine fG Tryz.func20 λw cs=>?_
 exact r0 [] [(2,i6 0)] [] (r0 [(3,.l 0),(4,fC iT v c.l 1)] [(2,iN c.l.length)] [2] (lf ab.zero [1] [(0,0)] []))
theorem zY(g:Nat)(v:Value)(l:List Re)(room next:Nat)(lost:Bool)(hl:l.length≤1000000):aa dZ 258 #[pt g 0] [ob g #[v,iN room,iN next,.bool lost] 124,.p (aK qO v l)] [] N0 (λ_=>i6 (iV c7 l)):=by
 refine fO Tryz.func258 1 rfl λbq1 hq1=>?_
 refine fG Tryz.func258 λw cs=>?_
 exact r0 [] [(2,i6 0)] [] (r0 [(3,.l 0),(4,.c [1] [] (aa.at (rd':=[.c bq1]) (SC v l Om) (em hq1 (λ_ h=>h))))] [(2,i6 (iV c7 l))] [2] (lf ab.zero [] [(0,0),(1,1)] []))
theorem SD(g:Nat)(v:Value)(l:List Re)(room next:Nat)(lost:Bool)(hl:l.length≤1000000)(h:aY c7 l<l.length):aa dZ 258 #[pt g 0] [ob g #[v,iN room,iN next,.bool lost] 124,.p (aK qO v l)] [] N0 (λ_=>i6 ((aY c7 l:Nat):Int)):=by
 have h1:=zY g v l room next lost hl
 unfold iV at h1
 rwa [ALifn Om] at h1
theorem SE(g:Nat)(v:Value)(l:List Re)(room next:Nat)(lost:Bool)(hl:l.length≤1000000)(h:aY c7 l=l.length):aa dZ 258 #[pt g 0] [ob g #[v,iN room,iN next,.bool lost] 124,.p (aK qO v l)] [] N0 (λ_=>i6 (-1)):=by
 have h1:=zY g v l room next lost hl
 unfold iV at h1
 rwa [ALifp h] at h1
theorem SF(room:Nat)(h1:1≤room)(h2:room≤256):aa dZ 139 #[iN room] [] [] (λE=>[ob (E.abd 0) #[.slice none 0 0,iN room,i6 1,.bool false] 124]) (λE=> .tuple #[pt ((E.abd 0)) 0,i6 0]):=by
 refine fG Tryz.func139 λw cs=>?_
 refine r0 [] [(2,.pointer none),(3,i6 0)] [] (r0 [] [(9,.bool ((decide ((room:Int)<1))||(decide (256<(room:Int)))))] [] ?_)
 have h3:((decide ((room:Int)<1))||(decide (256<(room:Int))))=false:=by rw[Bool.or_eq_false_iff];exact⟨bj Om,bj Om⟩
 exact cF ((decide ((room:Int)<1))||(decide (256<(room:Int)))) h3 (rr N0 (λq4=>[(2,pt (B2 q4) 0),(3,i6 0)]) [2,3] (λq4 L=>L++[ob (B2 q4) #[.slice none 0 0,iN room,i6 1,.bool false] 124]) λq4=>lf (.l [(q4 2).abd 0] [] []) [0] [] [])
theorem zZ{α:Type}{en:α→List Value}{z:List Value}{T:TypeId}{S:ah→Prop}{L:ah}{ds:List aw}(hS:S (L++[.p (ap en z T (.slice none 0 0) ([]:List α))]))(h:bu L ds): ∃ds',bu [pk S] ds'∧ds'.flatten=ds.flatten:=
 ⟨[ds.flatten],⟨⟨_,ds++[[]],hS,kG h ⟨ap.nil none,trivial⟩,by simp⟩,trivial⟩,by simp⟩
theorem SG(room:Nat)(h1:1≤room)(h2:room≤256):aa dZ 139 #[iN room] [] [] (λE=>[pk (ay (E.abd 0) (pM room))]) (λE=> .tuple #[pt (E.abd 0) 0,i6 0]):=(SF room h1 h2).outs λE ds hs=>zZ ⟨_,rfl⟩ hs
theorem SH(g:Nat)(c:Lg):aa dZ 167 #[pt g 0] [pk (ay g c)] [0] (λ_=>[pk (ay g (nS c))]) (λ_=>iN c.l.length):=aa.pkZ Tryz.func167 λL hL=>by
 obtain⟨v,rfl⟩:=hL
 refine⟨[0,1],λ_=>[ob g #[.slice none 0 0,iN c.room,iN c.next,.bool false] 124,iU (.slice none 0 0) ([])],?_,rfl,λE=>⟨rfl,rfl,⟨_,rfl⟩⟩⟩
 refine fG Tryz.func167 λw cs=>?_
 refine r0 [] [(2,i6 0)] [] (r0 [(3,.l 0),(4,fC iT v c.l 1)] [(3,iN c.l.length)] [] (rs [(4,.s 0),(7,.s 0)] 0 (ob g #[.slice none 0 0,iN c.room,iN c.next,.bool false] 124) (r0 [] [(2,iN c.l.length)] [2] ?_)))
 refine cz iT ?_
 exact lf ab.zero [0,2] [] []
end Go.Proofs.YtbcodenfkijdnaaGreat.E
namespace Go.Proofs.YtbcodenfkijdnaaGreat.E
open Go Go.RowKit Go.Shelf Go.Lib
open List renaming length_append→dZ,replicate→eF,append_assoc→ir,length_drop→jh,getElem?_append_right→jm,length_take→jw
open Nat renaming add_mul→jg
open Go.Proofs.Tryz renaming prog→ka
theorem FS{P:Program}{ops:Array Oper}{o:Oper}{a:Act}{w:World}{K:Act→World→Prop}{Q:Exit→Act→World→Prop}{E:Prop}
  (hg:o.guard=none) (s x:Operand) (t:TypeId) (hop:o.op=Op.call {callee:=Callee.builtin Builtin.append,args:=#[s,x],argTypes:=#[t,t]})
  (e:TypeId) (i:TypeInfo) (size:Nat) (h1:P.underlying t=some (.slice e)) (h2:P.info? e=some i) (h4:i.size=size)
  (g n cap:Nat) (cur:Array Value) (hgc:w.heap[g]? =some (.cells cur e (0,0))) (hs:a.eval s= .slice (some ⟨g,0,none⟩) n cap)
  (ad:Addr) (m c:Nat) (news:List Value) (hx:a.eval x= .slice (some ad) m c) (hn:news.length=m*size) (hc: ∀j u,news[j]? =some u→w.cell? (ad.add j)=some u) (h1c: ∀u∈news,u.oneCell'=true)
  (hroom:n+m≤cap) (hfit:n*size+news.length≤cur.size)
  (hK:K (a.put o.dst (.slice (some ⟨g,0,none⟩) (n+m) cap)) (w.setRow g (cur.toList.take (n*size)++news++cur.toList.drop (n*size+news.length)).toArray)):
  if Region.wanted o (yielded ops a.tmps)=true then Oper.wp P o a w K Q else E:=by
 have hw:Region.wanted o (yielded ops a.tmps)=true:=by simp [Region.wanted,hg]
 rw[ALifp hw]
 subst h4
 have hrun:=run_append_room (P:=P) w t o.type e i h1 h2 g n cap cur hgc ad m c news hn hc h1c hroom hfit
 unfold Oper.wp
 simp [execOp,hop,resolve,invoke,builtin,hs,hx,hrun,Result.andThen]
 rw[ir] at hK
 exact hK
theorem FT{P:Program}{T' e ty t:TypeId}{z:List Value}{w:World}{g off m c:Nat}{cs:Array Value}(hT:d9 P T' e z)(hb:w.heap[g]? =some (.cells cs t (0,0)))(hm:0<m)(h7:off+m*z.length≤cs.size)(h1: ∀u∈z,u.oneCell'=true):
  (Builtin.clear_ #[T'] ty #[.slice (some ⟨g,off,none⟩) m c]).run P w= .ok (.tuple #[]) (w.setRow g (cs.toList.take off++(eF m z).flatten++cs.toList.drop (off+m*z.length)).toArray):=by
 obtain⟨ht,⟨i,zv,hi,hz,hs,hzc,hby⟩,h0⟩:=hT
 have hzz:0<zv.cells.size:=by rw[←Array.length_toList,hzc];exact h0
 have hzv:(zeroValue e).run P w= .ok zv w:=by simp [zeroValue,typeInfo,hi,hz]
 have hl:=rQ z m
 have hst:=run_storeCells_at P g off t (eF m z).flatten 0 cs w hb (by rw[hl];omega) (λu hu=>by
  obtain⟨l,hl,hu⟩:=List.mem_flatten.1 hu
  rw[List.eq_of_mem_replicate hl] at hu
  exact h1 u hu)
 simp only[Nat.add_zero] at hst
 obtain⟨m,rfl⟩: ∃k,m=k+1:=⟨m-1,by omega⟩
 rw[hl] at hst
 simp [Builtin.clear_,run_underlying ht,hzv,xA _ _ hzz,hzc,hst]
set_option maxRecDepth 1000000 in
set_option maxHeartbeats 1000000 in
theorem SI(g n cap i j:Nat)(w:World)(hlt:i<j)(hjn:j≤n)(hcap:n≤cap)(cur:Array Value)(hgc:w.heap[g]? =some (.cells cur 59 (0,0)))(news:List Value)(hnews:news.length=(n-(j))*5)(hone: ∀u∈news,u.oneCell'=true)(hsrc: ∀t u,news[t]? =some u→w.cell? ⟨g,(j)*5+t,none⟩=some u)(hfit:i*5+news.length≤cur.size)(hsize:n*5≤cur.size):Calls ka 259 #[.slice (some ⟨g,0,none⟩) n cap,.int .i64 (i:Int),.int .i64 (j:Int)] w λe w'=>e= .returned (.slice (some ⟨g,0,none⟩) (n-(j-i)) cap)∧w'=(w.drew.setRow g (cur.toList.take (i*5)++news++cur.toList.drop (i*5+news.length)).toArray).setRow g ((cur.toList.take (i*5)++news++cur.toList.drop (i*5+news.length)).toArray.toList.take ((i+(n-j))*5)++(eF (n-(i+(n-j))) iT.z).flatten++(cur.toList.take (i*5)++news++cur.toList.drop (i*5+news.length)).toArray.toList.drop ((i+(n-j))*5+(n-(i+(n-j)))*5)).toArray:=by
 have mixed:Tryz.prog.follows .mixedOrders=true:=by kernel_rfl
 have hic:i≤cap:=by omega
 have hjc:j≤cap:=by omega
 obtain⟨ii,zv,hii,hz0,hz1,hzc,hby⟩:=iT.hT.hi
 obtain⟨A,hA,hsrc2⟩: ∃A:Addr,(if cap=j then some (⟨g,0,none⟩:Addr) else some ⟨g,(j)*5,none⟩)=some A∧Hid (∀t u,news[t]? =some u→w.drew.cell? (A.add t)=some u):=by
  by_cases h:cap=j
  ·refine⟨⟨g,0,none⟩,by simp [h],λt u hu=>?_⟩
   have h0:news.length=0:=by rw[hnews];omega
   rw[List.length_eq_zero_iff.1 h0] at hu
   simp at hu
  ·exact⟨⟨g,(j)*5,none⟩,by simp [h],λt u hu=>by rw[Addr.add_lit];exact hsrc t u hu⟩
 have s1:Hid (news.length=(n-(j))*5):=hnews
 have s2:Hid (∀u∈news,u.oneCell'=true):=hone
 have s3:Hid (i*5+news.length≤cur.size):=hfit
 have s4:Hid (w.drew.heap[g]? =some (.cells cur 59 (0,0))):=hgc
 obtain⟨W1,hW1⟩: ∃W1,W1=w.drew.setRow g (cur.toList.take (i*5)++news++cur.toList.drop (i*5+news.length)).toArray:=⟨_,rfl⟩
 have hW:Hid (W1=w.drew.setRow g (cur.toList.take (i*5)++news++cur.toList.drop (i*5+news.length)).toArray):=hW1
 obtain⟨cs1,hcs1⟩: ∃cs1,cs1=(cur.toList.take (i*5)++news++cur.toList.drop (i*5+news.length)).toArray:=⟨_,rfl⟩
 have hsz:cs1.size=cur.size:=by
  rw[hcs1]
  simp only[List.size_toArray,dZ,jw,jh,Array.length_toList]
  omega
 have hgc1:W1.heap[g]? =some (.cells cs1 59 (0,0)):=by rw[hW1,←hcs1];exact setRow_heap _ g cur _ _ _ s4.out
 obtain⟨W2,hW2⟩: ∃W2,W2=W1.setRow g (cs1.toList.take ((i+(n-j))*5)++(eF (n-(i+(n-j))) iT.z).flatten++cs1.toList.drop ((i+(n-j))*5+(n-(i+(n-j)))*5)).toArray:=⟨_,rfl⟩
 have hcl: ∀ty,(Builtin.clear_ #[41] ty #[.slice (some ⟨g,(i+(n-j))*5,none⟩) (n-(i+(n-j))) (cap-(i+(n-j)))]).run ka W1= .ok (.tuple #[]) W2:=λty=>by
  rw[hW2]
  exact FT iT.hT hgc1 Om (by show _+_*5≤_;rw[hsz];omega) (λu hu=>by
   simp only[iT,List.mem_cons,List.not_mem_nil,or_false] at hu
   rcases hu with rfl | rfl | rfl | rfl | rfl<;>rfl)
 have hX:Hid (W2=W1.setRow g (cs1.toList.take ((i+(n-j))*5)++(eF (n-(i+(n-j))) iT.z).flatten++cs1.toList.drop ((i+(n-j))*5+(n-(i+(n-j)))*5)).toArray):=hW2
 have hY:Hid (cs1=(cur.toList.take (i*5)++news++cur.toList.drop (i*5+news.length)).toArray):=hcs1
 clear hW1 hsrc hnews hone hfit hgc hW2 hgc1 hsz hcs1
 go_enter Tryz.func259,Tryz.ntmps259
 go_wp2_with fail
 go_region_law_o (refine FS rfl (.tmp 22) (.tmp 25) 41 rfl 59 ii 5 iT.hT.ht hii hz1 g i cap cur s4.out (by simp [Act.eval,Act.put]) A (n-(j)) (cap-(j)) news (by simp [Act.eval,Act.put]) s1.out hsrc2.out s2.out Om s3.out ?_;rw[←hW.out])
 go_wp2
 go_ret
 refine⟨by rw[show n-(j-i)=i+(n-j) by omega];rfl,?_⟩
 rw[hX.out,hW.out,hY.out]
theorem SJ(A B C Z zz:List Value)(h:B.length=zz.length):
  ((A++(B++(C++Z))).take A.length++C++(A++(B++(C++Z))).drop (A.length+C.length)).take (A.length+C.length)++zz++((A++(B++(C++Z))).take A.length++C++(A++(B++(C++Z))).drop (A.length+C.length)).drop (A.length+C.length+zz.length)=A++C++(zz++Z):=by
 have e1:(A++(B++(C++Z))).take A.length=A:=List.take_left
 have e2:(A++(B++(C++Z))).drop (A.length+C.length)=(B++C).drop C.length++Z:=by
  rw[List.drop_append,List.drop_eq_nil_of_le Om,List.nil_append,Nat.add_sub_cancel_left,←ir B,List.drop_append_of_le_length (by rw[dZ];omega)]
 have e3:((B++C).drop C.length).length=zz.length:=by rw[jh,dZ];omega
 rw[e1,e2]
 have e4:(A++C++((B++C).drop C.length++Z)).take (A.length+C.length)=A++C:=List.take_left' (by rw[dZ])
 have e5:(A++C++((B++C).drop C.length++Z)).drop (A.length+C.length+zz.length)=Z:=by
  rw[←ir (A++C)]
  exact List.drop_left' (by rw[dZ,dZ,e3])
 rw[e4,e5,ir (A++C)]
theorem FU{P:Program}{f:FuncId}{α:Type}(K:Kd P α){v:Value}{xs:List α}{i:Nat}(hE:Enters P f)(hi:i<xs.length)
  (hdel: ∀(g cap:Nat) (w:World) (cur:Array Value) (news:List Value),xs.length≤cap→w.heap[g]? =some (.cells cur K.T (0,0))→news.length=(xs.length-(i+1))*K.k→(∀u∈news,u.oneCell'=true)→(∀t u,news[t]? =some u→w.cell? ⟨g,(i+1)*K.k+t,none⟩=some u)→i*K.k+news.length≤cur.size→xs.length*K.k≤cur.size→
   Calls P f #[.slice (some ⟨g,0,none⟩) xs.length cap,.int .i64 (i:Int),.int .i64 ((i+1:Nat):Int)] w λe w'=>e= .returned (.slice (some ⟨g,0,none⟩) (xs.length-(i+1-i)) cap)∧w'=(w.drew.setRow g (cur.toList.take (i*K.k)++news++cur.toList.drop (i*K.k+news.length)).toArray).setRow g ((cur.toList.take (i*K.k)++news++cur.toList.drop (i*K.k+news.length)).toArray.toList.take ((i+(xs.length-(i+1)))*K.k)++(eF (xs.length-(i+(xs.length-(i+1)))) K.z).flatten++(cur.toList.take (i*K.k)++news++cur.toList.drop (i*K.k+news.length)).toArray.toList.drop ((i+(xs.length-(i+1)))*K.k+(xs.length-(i+(xs.length-(i+1))))*K.k)).toArray):
  aa P f #[v,.int .i64 (i:Int),.int .i64 ((i+1:Nat):Int)] [sl K v xs] [0] (λE=>[sl K (E.val 0) (xs.eraseIdx i)]) (λE=>E.val 0):=by
 refine⟨hE,λw cs hs hh=>?_⟩
 obtain⟨bs,cs,rfl,hb,hcs⟩:=eG hs
 have hcs:=o0 hcs
 subst hcs
 obtain⟨g,r,rfl,rfl⟩: ∃g r,v= .slice (some ⟨g,0,none⟩) xs.length (xs.length+r)∧bs=[(g,.cells (bH (aj K.en xs) K.z r) K.T (0,0))]:=by
  rcases hb with⟨rfl,_,_⟩ | h
  ·cases hi
  ·exact h
 have hgc:w.heap[g]? =some (.cells (bH (aj K.en xs) K.z r) K.T (0,0)):=hh.obj (g,_) (by simp)
 have hz:=K.hz
 have hA:(aj K.en (xs.take i)).length=i*K.k:=fY K.hk (by rw[jw];omega)
 have hC:(aj K.en (xs.drop (i+1))).length=(xs.length-(i+1))*K.k:=fY K.hk (by rw[jh])
 have hB:(K.en xs[i]).length=K.z.length:=(K.hk _).trans hz
 have hcur:(bH (aj K.en xs) K.z r).toList=aj K.en (xs.take i)++(K.en xs[i]++(aj K.en (xs.drop (i+1))++(eF r K.z).flatten)):=by
  have e:xs=xs.take i++(xs[i]::xs.drop (i+1)):=by rw[←List.drop_eq_getElem_cons hi,List.take_append_drop]
  have e2:aj K.en xs=aj K.en (xs.take i)++(K.en xs[i]++aj K.en (xs.drop (i+1))):=by
   conv=>lhs;rw[e]
   rw[kH];rfl
  unfold bH
  show aj K.en xs++_=_
  rw[e2,ir,ir]
 have hmul:(xs.length-(i+1))*K.k+i*K.k+K.k=xs.length*K.k:=by
  have:xs.length=(xs.length-(i+1))+i+1:=by omega
  conv=>rhs;rw[this]
  rw[jg,jg,Nat.one_mul]
 have hsz:(bH (aj K.en xs) K.z r).size=xs.length*K.k+r*K.k:=by
  rw[←Array.length_toList]
  unfold bH
  rw[dZ,fY K.hk rfl,rQ,←hz]
 have hC1:=hdel g (xs.length+r) w (bH (aj K.en xs) K.z r) (aj K.en (xs.drop (i+1))) Om hgc hC (BR K.one) (λt u ht=>by
  have h0:(bH (aj K.en xs) K.z r).toList[(i+1)*K.k+t]? =some u:=by
   rw[hcur,jm (by rw[hA,jg];omega),hA,jm (by rw[K.hk,jg];omega),K.hk,show(i+1)*K.k+t-i*K.k-K.k=t by rw[jg];omega]
   have hlt:=(List.getElem?_eq_some_iff.1 ht).1
   rw[List.getElem?_append_left hlt];exact ht
  rw[cell_of_row w g _ _ _ _ hgc,←Array.getElem?_toList];exact h0) (by rw[hC,hsz];omega) (by rw[hsz];omega)
 refine(callsIn_wide (n:=6)).1 ((callsIn_wide.2 hC1).mono λe w' he=>?_)
 obtain⟨rfl,rfl⟩:=he
 have hlen:(xs.eraseIdx i).length=xs.length-1:=by rw[List.length_eraseIdx,ALifp hi]
 have hfin:(((bH (aj K.en xs) K.z r).toList.take (i*K.k)++aj K.en (xs.drop (i+1))++(bH (aj K.en xs) K.z r).toList.drop (i*K.k+(aj K.en (xs.drop (i+1))).length)).toArray.toList.take ((i+(xs.length-(i+1)))*K.k)++(eF (xs.length-(i+(xs.length-(i+1)))) K.z).flatten++((bH (aj K.en xs) K.z r).toList.take (i*K.k)++aj K.en (xs.drop (i+1))++(bH (aj K.en xs) K.z r).toList.drop (i*K.k+(aj K.en (xs.drop (i+1))).length)).toArray.toList.drop ((i+(xs.length-(i+1)))*K.k+(xs.length-(i+(xs.length-(i+1))))*K.k)).toArray=bH (aj K.en (xs.eraseIdx i)) K.z (r+1):=by
  have e1:xs.length-(i+(xs.length-(i+1)))=1:=by omega
  have e2:(i+(xs.length-(i+1)))*K.k=(aj K.en (xs.take i)).length+(aj K.en (xs.drop (i+1))).length:=by rw[hA,hC,jg]
  have e3:(eF 1 K.z).flatten=K.z:=by simp
  rw[e1,e2,←hA,hcur,Nat.one_mul,e3,hz,List.toList_toArray,SJ _ _ _ _ _ hB]
  unfold bH
  rw[List.eraseIdx_eq_take_drop_succ,kH,List.replicate_succ,List.flatten_cons]
 rw[hfin]
 refine⟨ab.ov _,[[(g,.cells (bH (aj K.en (xs.eraseIdx i)) K.z (r+1)) K.T (0,0))]],rfl,⟨.inr ⟨g,r+1,?_,rfl⟩,trivial⟩,?_⟩
 ·show Value.slice _ _ _=_
  rw[hlen,show xs.length-(i+1-i)=xs.length-1 by omega,show xs.length-1+(r+1)=xs.length+r by omega]
 ·have st1:=bc.setRow (W:=w.drew) ((bH (aj K.en xs) K.z r).toList.take (i*K.k)++aj K.en (xs.drop (i+1))++(bH (aj K.en xs) K.z r).toList.drop (i*K.k+(aj K.en (xs.drop (i+1))).length)).toArray hgc
  have st2:=bc.setRow (bH (aj K.en (xs.eraseIdx i)) K.z (r+1)) (st1.obj _ (List.mem_singleton.2 rfl))
  exact⟨st2.os.trans st1.os,st2.tape.trans st1.tape,st2.output.trans st1.output,Nat.le_trans st1.size st2.size,by simpa using st2.obj,λx hx=>by simp at hx;left;simp [hx],by simp,λb hb hn=>by
   have hn:b∉[g]:=by simpa using hn
   exact(st2.far b (Nat.lt_of_lt_of_le hb st1.size) hn).trans (st1.far b hb hn)⟩
theorem SK(v:Value)(xs:List Re)(i:Nat)(hi:i<xs.length):aa ka 259 #[v,iN i,i6 ((i+1:Nat):Int)] [iU v xs] [0] (λE=>[iU (E.val 0) (xs.eraseIdx i)]) (λE=>E.val 0):=
 FU iT (enters_of Tryz.func259 Kr rfl) hi λg cap w cur news hcap hgc hn h1 hsrc hfit hsize=>SI g xs.length cap i (i+1) w (Nat.lt_succ_self i) hi hcap cur hgc news hn h1 hsrc hfit hsize
end Go.Proofs.YtbcodenfkijdnaaGreat.E
namespace Go.Proofs.YtbcodenfkijdnaaGreat.E
open Go Go.RowKit Go.Shelf
open Go.Proofs.Tryz renaming prog→dZ
open List renaming toList_toArray→eF,append_assoc→ir
theorem SL(g:Nat)(c:Lg)(x:Re)(hc:gw c)(hq:c.l.length≠c.room):aa dZ 235 #[pt g 0,.agg #[iN x.s,iN x.t,iN x.k,iN x.i,iN x.o]] [pk (ay g c)] [0] (λ_=>[pk (ay g {c with l:=c.l++[qP x c.next],next:=c.next+1})]) (λ_=> .tuple #[.agg #[iN c.next,iN x.t,iN x.k,iN x.i,iN x.o],.bool true]):=aa.pkZ Tryz.func235 λL hL=>by
 obtain⟨v,rfl⟩:=hL
 refine⟨[0,1],λE=>[ob g #[(E.val 0),iN c.room,i6 ((c.next+1:Nat):Int),.bool c.lost] 124,iU (E.val 0) (c.l++([(⟨c.next,x.t,x.k,x.i,x.o⟩:Re)]))],?_,rfl,λE=>⟨rfl,rfl,⟨_,rfl⟩⟩⟩
 have hl:=hc.l
 have hr:=hc.r
 have hn:=hc.n
 refine fG Tryz.func235 λw cs=>?_
 refine ra (λq1=>[(3,pt (B0 q1) 0),(4,pt (B1 q1) 0),(5,.bool false)]) (λq1=>[ob (B0 q1) #[iN x.s,iN x.t,iN x.k,iN x.i,iN x.o] 59,ob (B1 q1) #[i6 0,i6 0,i6 0,i6 0,i6 0] 59]) λq1=>rs [(3,.l 0),(5,.s 2)] 2 (ob (B0 q1) #[iN c.next,iN x.t,iN x.k,iN x.i,iN x.o] 59) (rs [(3,.l 0),(4,ad c.next 1),(7,.s 0)] 0 (ob g #[v,iN c.room,i6 ((c.next+1:Nat):Int),.bool c.lost] 124) (rF [(3,.l 0),(4,fC iT v c.l 1),(8,.l 0),(9,.t (tk (show Value.bool ((c.l.length:Int)==(c.room:Int))= .bool false from ALca Value.bool (by rw[dp];omega))))] 28 (rr (λq5=>[(4,.l 0),(5,.l 2),(6,.m (bs 4 1)),(7,fD iT (v) c.l 1 4 ([(⟨c.next,x.t,x.k,x.i,x.o⟩:Re)])),(10,.m (fZ 0 1 (iU ((q5 7).val 0) (c.l++([(⟨c.next,x.t,x.k,x.i,x.o⟩:Re)]))) ((q5 7).val 0) λbs h=>ap.one ((λ_ h=>h) bs h)))]) N0 [] (λq5 L=>(L.set 0 (ob g #[(q5 7).val 0,iN c.room,i6 ((c.next+1:Nat):Int),.bool c.lost] 124)).set 1 (iU ((q5 7).val 0) (c.l++([(⟨c.next,x.t,x.k,x.i,x.o⟩:Re)])))++[ob (B6 q5) #[iN c.next,iN x.t,iN x.k,iN x.i,iN x.o] 59]) λq5=>rr (λ_=>[(0,.l 2),(1,.s 3)]) (λ_=>[(5,.bool true)]) [5] (λ_ L=>L.set 3 (ob (B1 q1) #[iN c.next,iN x.t,iN x.k,iN x.i,iN x.o] 59)) λq6=>?_)))
 exact lf (.l [] [] [(q5 7).val 0]) [0,1] [] [3]
theorem SM(g:Nat)(c:Lg)(x:Re)(hc:gw c)(hq:c.l.length=c.room)(hx:c7 x=true):aa dZ 235 #[pt g 0,.agg #[iN x.s,iN x.t,iN x.k,iN x.i,iN x.o]] [pk (ay g c)] [0] (λ_=>[pk (ay g {c with next:=c.next+1,lost:=true})]) (λ_=> .tuple #[.agg #[iN c.next,iN x.t,iN x.k,iN x.i,iN x.o],.bool false]):=aa.pkZ Tryz.func235 λL hL=>by
 obtain⟨v,rfl⟩:=hL
 refine⟨[0,1],λ_=>[ob g #[v,iN c.room,i6 ((c.next+1:Nat):Int),.bool true] 124,iU v c.l],?_,rfl,λE=>⟨rfl,rfl,⟨_,rfl⟩⟩⟩
 have hl:=hc.l
 have hr:=hc.r
 have hn:=hc.n
 refine fG Tryz.func235 λw cs=>?_
 refine ra (λq1=>[(3,pt (B0 q1) 0),(4,pt (B1 q1) 0),(5,.bool false)]) (λq1=>[ob (B0 q1) #[iN x.s,iN x.t,iN x.k,iN x.i,iN x.o] 59,ob (B1 q1) #[i6 0,i6 0,i6 0,i6 0,i6 0] 59]) λq1=>rs [(3,.l 0),(5,.s 2)] 2 (ob (B0 q1) #[iN c.next,iN x.t,iN x.k,iN x.i,iN x.o] 59) (rs [(3,.l 0),(4,ad c.next 1),(7,.s 0)] 0 (ob g #[v,iN c.room,i6 ((c.next+1:Nat):Int),.bool c.lost] 124) (rT [(3,.l 0),(4,fC iT v c.l 1),(8,.l 0),(9,.t (tk (show Value.bool ((c.l.length:Int)==(c.room:Int))= .bool true from ALca Value.bool (by rw[hq];exact beq_self_eq_true _))))] 28 (rs [(3,.s 0)] 0 (ob g #[v,iN c.room,i6 ((c.next+1:Nat):Int),.bool true] 124) (r0 [(1,.c [0,1] [] (aa.at (rd':=[ob g #[v,iN c.room,i6 ((c.next+1:Nat):Int),.bool true] 124,iU v c.l]) (zY g v c.l c.room (c.next+1) true Om) (ak (bO (λ_ h=>ap.sq h) (λ_ h=>h)))))] [(6,i6 (iV c7 c.l))] [] ?_))))
 refine r0 [(0,.l 2),(1,.c [] [] (v6 (⟨c.next,x.t,x.k,x.i,x.o⟩:Re)))] [(40,.bool ((!(((⟨c.next,x.t,x.k,x.i,x.o⟩:Re).k:Int)==2))||(decide ((iV c7 c.l)<0))))] [] ?_
 have h8:((!(((⟨c.next,x.t,x.k,x.i,x.o⟩:Re).k:Int)==2))||(decide ((iV c7 c.l)<0)))=true:=by rw[show(!((x.k:Int)==2))=true from hx];rfl
 exact cT ((!(((⟨c.next,x.t,x.k,x.i,x.o⟩:Re).k:Int)==2))||(decide ((iV c7 c.l)<0))) h8 (rr (λ_=>[(0,.l 2),(1,.s 3)]) (λ_=>[(5,.bool false)]) [5] (λ_ L=>L.set 3 (ob (B1 q1) #[iN c.next,iN x.t,iN x.k,iN x.i,iN x.o] 59)) λq9=>lf ab.zero [0,1] [] [3])
theorem SN(g:Nat)(c:Lg)(x:Re)(hc:gw c)(hq:c.l.length=c.room)(hx:c7 x=false)(hi:aY c7 c.l=c.l.length):aa dZ 235 #[pt g 0,.agg #[iN x.s,iN x.t,iN x.k,iN x.i,iN x.o]] [pk (ay g c)] [0] (λ_=>[pk (ay g {c with next:=c.next+1,lost:=true})]) (λ_=> .tuple #[.agg #[iN c.next,iN x.t,iN x.k,iN x.i,iN x.o],.bool false]):=aa.pkZ Tryz.func235 λL hL=>by
 obtain⟨v,rfl⟩:=hL
 refine⟨[0,1],λ_=>[ob g #[v,iN c.room,i6 ((c.next+1:Nat):Int),.bool true] 124,iU v c.l],?_,rfl,λE=>⟨rfl,rfl,⟨_,rfl⟩⟩⟩
 have hl:=hc.l
 have hr:=hc.r
 have hn:=hc.n
 refine fG Tryz.func235 λw cs=>?_
 refine ra (λq1=>[(3,pt (B0 q1) 0),(4,pt (B1 q1) 0),(5,.bool false)]) (λq1=>[ob (B0 q1) #[iN x.s,iN x.t,iN x.k,iN x.i,iN x.o] 59,ob (B1 q1) #[i6 0,i6 0,i6 0,i6 0,i6 0] 59]) λq1=>rs [(3,.l 0),(5,.s 2)] 2 (ob (B0 q1) #[iN c.next,iN x.t,iN x.k,iN x.i,iN x.o] 59) (rs [(3,.l 0),(4,ad c.next 1),(7,.s 0)] 0 (ob g #[v,iN c.room,i6 ((c.next+1:Nat):Int),.bool c.lost] 124) (rT [(3,.l 0),(4,fC iT v c.l 1),(8,.l 0),(9,.t (tk (show Value.bool ((c.l.length:Int)==(c.room:Int))= .bool true from ALca Value.bool (by rw[hq];exact beq_self_eq_true _))))] 28 (rs [(3,.s 0)] 0 (ob g #[v,iN c.room,i6 ((c.next+1:Nat):Int),.bool true] 124) (r0 [(1,.c [0,1] [] (aa.at (rd':=[ob g #[v,iN c.room,i6 ((c.next+1:Nat):Int),.bool true] 124,iU v c.l]) (SE g v c.l c.room (c.next+1) true Om Om) (ak (bO (λ_ h=>ap.sq h) (λ_ h=>h)))))] [(6,i6 (-1))] [] ?_))))
 refine r0 [(0,.l 2),(1,.c [] [] (v6 (⟨c.next,x.t,x.k,x.i,x.o⟩:Re)))] [(40,.bool ((!(((⟨c.next,x.t,x.k,x.i,x.o⟩:Re).k:Int)==2))||true))] [] ?_
 have h8:((!(((⟨c.next,x.t,x.k,x.i,x.o⟩:Re).k:Int)==2))||true)=true:=by rw[Bool.or_true]
 exact cT ((!(((⟨c.next,x.t,x.k,x.i,x.o⟩:Re).k:Int)==2))||true) h8 (rr (λ_=>[(0,.l 2),(1,.s 3)]) (λ_=>[(5,.bool false)]) [5] (λ_ L=>L.set 3 (ob (B1 q1) #[iN c.next,iN x.t,iN x.k,iN x.i,iN x.o] 59)) λq9=>lf ab.zero [0,1] [] [3])
theorem SO(g:Nat)(c:Lg)(x:Re)(hc:gw c)(hq:c.l.length=c.room)(hx:c7 x=false)(hi:aY c7 c.l<c.l.length):aa dZ 235 #[pt g 0,.agg #[iN x.s,iN x.t,iN x.k,iN x.i,iN x.o]] [pk (ay g c)] [0] (λ_=>[pk (ay g {c with l:=c.l.eraseIdx (aY c7 c.l)++[qP x c.next],next:=c.next+1,lost:=true})]) (λ_=> .tuple #[.agg #[iN c.next,iN x.t,iN x.k,iN x.i,iN x.o],.bool true]):=aa.pkZ Tryz.func235 λL hL=>by
 obtain⟨v,rfl⟩:=hL
 refine⟨[0,1],λE=>[ob g #[(E.val 0),iN c.room,i6 ((c.next+1:Nat):Int),.bool true] 124,iU (E.val 0) ((c.l.eraseIdx (aY c7 c.l))++([(⟨c.next,x.t,x.k,x.i,x.o⟩:Re)]))],?_,rfl,λE=>⟨rfl,rfl,⟨_,rfl⟩⟩⟩
 have hl:=hc.l
 have hr:=hc.r
 have hn:=hc.n
 have hel:(c.l.eraseIdx (aY c7 c.l)).length=c.l.length-1:=by rw[List.length_eraseIdx,ALifp hi]
 refine fG Tryz.func235 λw cs=>?_
 refine ra (λq1=>[(3,pt (B0 q1) 0),(4,pt (B1 q1) 0),(5,.bool false)]) (λq1=>[ob (B0 q1) #[iN x.s,iN x.t,iN x.k,iN x.i,iN x.o] 59,ob (B1 q1) #[i6 0,i6 0,i6 0,i6 0,i6 0] 59]) λq1=>rs [(3,.l 0),(5,.s 2)] 2 (ob (B0 q1) #[iN c.next,iN x.t,iN x.k,iN x.i,iN x.o] 59) (rs [(3,.l 0),(4,ad c.next 1),(7,.s 0)] 0 (ob g #[v,iN c.room,i6 ((c.next+1:Nat):Int),.bool c.lost] 124) (rT [(3,.l 0),(4,fC iT v c.l 1),(8,.l 0),(9,.t (tk (show Value.bool ((c.l.length:Int)==(c.room:Int))= .bool true from ALca Value.bool (by rw[hq];exact beq_self_eq_true _))))] 28 (rs [(3,.s 0)] 0 (ob g #[v,iN c.room,i6 ((c.next+1:Nat):Int),.bool true] 124) (r0 [(1,.c [0,1] [] (aa.at (rd':=[ob g #[v,iN c.room,i6 ((c.next+1:Nat):Int),.bool true] 124,iU v c.l]) (SD g v c.l c.room (c.next+1) true Om Om) (ak (bO (λ_ h=>ap.sq h) (λ_ h=>h)))))] [(6,i6 ((aY c7 c.l:Nat):Int))] [] ?_))))
 refine r0 [(0,.l 2),(1,.c [] [] (v6 (⟨c.next,x.t,x.k,x.i,x.o⟩:Re)))] [(40,.bool ((!(((⟨c.next,x.t,x.k,x.i,x.o⟩:Re).k:Int)==2))||(decide (((aY c7 c.l:Nat):Int)<0))))] [] ?_
 have h8:((!(((⟨c.next,x.t,x.k,x.i,x.o⟩:Re).k:Int)==2))||(decide (((aY c7 c.l:Nat):Int)<0)))=false:=by rw[show(!((x.k:Int)==2))=false from hx,Bool.false_or];exact bj Om
 exact cF ((!(((⟨c.next,x.t,x.k,x.i,x.o⟩:Re).k:Int)==2))||(decide (((aY c7 c.l:Nat):Int)<0))) h8 (rr (λq9=>[(4,.m (ld 0 (v))),(7,ad (aY c7 c.l) 1),(8,.c [1] [1] (SK v c.l (aY c7 c.l) Om)),(11,.m (fZ 0 1 (iU ((q9 8).val 0) (c.l.eraseIdx (aY c7 c.l))) ((q9 8).val 0) λbs h=>ap.one ((λ_ h=>h) bs h)))]) N0 [] (λq9 L=>(L.set 0 (ob g #[(q9 8).val 0,iN c.room,i6 ((c.next+1:Nat):Int),.bool true] 124)).set 1 (iU ((q9 8).val 0) (c.l.eraseIdx (aY c7 c.l)))) λq9=>rr (λq10=>[(4,.l 0),(5,.l 2),(6,.m (bs 4 1)),(7,fD iT ((q9 8).val 0) (c.l.eraseIdx (aY c7 c.l)) 1 4 ([(⟨c.next,x.t,x.k,x.i,x.o⟩:Re)])),(10,.m (fZ 0 1 (iU ((q10 7).val 0) ((c.l.eraseIdx (aY c7 c.l))++([(⟨c.next,x.t,x.k,x.i,x.o⟩:Re)]))) ((q10 7).val 0) λbs h=>ap.one ((λ_ h=>h) bs h)))]) N0 [] (λq10 L=>(L.set 0 (ob g #[(q10 7).val 0,iN c.room,i6 ((c.next+1:Nat):Int),.bool true] 124)).set 1 (iU ((q10 7).val 0) ((c.l.eraseIdx (aY c7 c.l))++([(⟨c.next,x.t,x.k,x.i,x.o⟩:Re)])))++[ob (B6 q10) #[iN c.next,iN x.t,iN x.k,iN x.i,iN x.o] 59]) λq10=>rr (λ_=>[(0,.l 2),(1,.s 3)]) (λ_=>[(5,.bool true)]) [5] (λ_ L=>L.set 3 (ob (B1 q1) #[iN c.next,iN x.t,iN x.k,iN x.i,iN x.o] 59)) λq11=>lf (.l [] [] [(q10 7).val 0]) [0,1] [] [3])
theorem SP(g:Nat)(c:Lg)(x:Re)(hc:gw c):aa dZ 235 #[pt g 0,.agg #[iN x.s,iN x.t,iN x.k,iN x.i,iN x.o]] [pk (ay g c)] [0] (λ_=>[pk (ay g (bW c x))]) (λ_=> .tuple #[.agg #[iN c.next,iN x.t,iN x.k,iN x.i,iN x.o],.bool (FQ c x)]):=by
 unfold bW FQ
 by_cases hq:c.l.length=c.room
 ·rw[ALifp hq,cC hq]
  cases hx:c7 x with
  | true=>rw[ALifp (.inl rfl)];exact SM g c x hc hq hx
  | false=>
   by_cases hi:aY c7 c.l=c.l.length
   ·rw[ALifp (.inr hi),cC hi];exact SN g c x hc hq hx hi
   ·rw[ALifn (λh=>h.elim (λh=>by cases h) hi),bj hi]
    exact SO g c x hc hq hx (by have:=pL c7 c.l;omega)
 ·rw[ALifn hq,bj hq];exact SL g c x hc hq
section
variable {α:Type} {P:Program} {en:α→List Value} {z:List Value} {e T:TypeId} {v:Value} {xs ys:List α} {bs:aw} {w:World}
theorem SQ{i:Nat}(hi:i<xs.length):aj en xs=aj en (xs.take i)++(en xs[i]++aj en (xs.drop (i+1))):=by
 have e:xs=xs.take i++(xs[i]::xs.drop (i+1)):=by rw[←List.drop_eq_getElem_cons hi,List.take_append_drop]
 conv=>lhs;rw[e]
 rw[kH];rfl
theorem SR{i:Nat}{a:α}(hi:i<xs.length):aj en (xs.set i a)=aj en (xs.take i)++(en a++aj en (xs.drop (i+1))):=by
 rw[List.set_eq_take_append_cons_drop,ALifp hi,kH];rfl
theorem SS(A X C l:List Value)(f:Nat)(hl:f+l.length≤X.length):(A++(X++C)).take (A.length+f)++l++(A++(X++C)).drop (A.length+f+l.length)=A++((X.take f++l++X.drop (f+l.length))++C):=by
 have e1:(A++(X++C)).take (A.length+f)=A++X.take f:=by
  rw[List.take_append,List.take_of_length_le Om,Nat.add_sub_cancel_left,List.take_append_of_le_length Om]
 have e2:(A++(X++C)).drop (A.length+f+l.length)=X.drop (f+l.length)++C:=by
  rw[List.drop_append,List.drop_eq_nil_of_le Om,List.nil_append,show A.length+f+l.length-A.length=f+l.length by omega,List.drop_append_of_le_length hl]
 rw[e1,e2]
 simp only[ir]
theorem ST(p i k f:Nat){a d:α}{l:List Value}(hk: ∀y,(en y).length=k)(hi:i<xs.length)(hl:f+l.length≤k)(hu:en a=(en (xs.getD i d)).take f++l++(en (xs.getD i d)).drop (f+l.length)):MD.ok P (λ_=>undef) (qj P p (.p (ap en z T v xs)) (.p (ap en z T v (xs.set i a))) v (i*k+f) l) [p]:=by
 intro o ρ C he w c hH
 unfold qj at he hH⊢
 split at he
 ·rename_i T' x y hop
  simp only[hop] at hH⊢
  simp only[List.mem_cons,List.not_mem_nil,or_false,forall_eq_or_imp,forall_eq,sE,sB] at he
  obtain⟨ha,hb,h3,h4⟩:=he
  obtain⟨h1,h2⟩:=hH.ent
  obtain⟨g,r,rfl,hc⟩:=ap.some (show ap en z T v xs (c p) from h1) hi
  rw[hc] at h2
  have hbk:=h2.one
  have hgd:xs.getD i d=xs[i]:=by rw[List.getD_eq_getElem?_getD,List.getElem?_eq_getElem hi];rfl
  have hA:(aj en (xs.take i)).length=i*k:=fY hk (by rw[List.length_take];omega)
  have hs:(bH (aj en xs) z r).toList.take (0+(i*k+f))++l++(bH (aj en xs) z r).toList.drop (0+(i*k+f)+l.length)=(bH (aj en (xs.set i a)) z r).toList:=by
   unfold bH
   rw[eF,eF,SQ (en:=en) hi,SR hi,hu,hgd,Nat.zero_add,←hA]
   have:=SS (aj en (xs.take i)) (en xs[i]) (aj en (xs.drop (i+1))++(List.replicate r z).flatten) l f (by rw[hk];exact hl)
   simp only[ir] at this⊢
   exact this
  have hle:0+(i*k+f)+l.length≤(bH (aj en xs) z r).size:=by
   rw[un,fY hk rfl]
   have:=Nat.mul_le_mul_right k (show i+1≤xs.length from hi)
   rw[Nat.add_mul] at this
   omega
  simp only[fp,add_lit] at ha
  have hst:=bc.setRow (bH (aj en (xs.set i a)) z r) hbk
  refine⟨ab.zero,λ_=>[(g,.cells (bH (aj en (xs.set i a)) z r) T (0,0))],w.setRow g (bH (aj en (xs.set i a)) z r),.inr ⟨?_,by simp⟩,λq h=>?_,?_⟩
  ·unfold execOp
   have hr:=ug (P:=P) (T:=T') hbk hle (List.all_eq_true.1 h3) h4
   rw[hs,Array.toArray_toList] at hr
   simp only[hop,ha,uh hb,Instr.storeAt,Instr.sureAddr,Sem.run_bind,Sem.run_pure,Result.andThen_ok,hr]
  ·rw[List.mem_singleton.1 h]
   exact .inr ⟨g,r,by rw[List.length_set],rfl⟩
  ·rw[show([p].flatMap λp=>bN (c p))=_ by simp only[List.flatMap_cons,List.flatMap_nil,hc,bN];rfl]
   exact hst
 ·exact(bG he).elim
def FV(K:Kd P α)(v:Value)(xs:List α)(p i f:Nat)(a:α)(l:List Value)(hu:K.en a=(K.en (xs.getD i K.d)).take f++l++(K.en (xs.getD i K.d)).drop (f+l.length))(hi:i<xs.length:=by omega)(hl:f+l.length≤K.k:=by exact Nat.le_of_ble_eq_true rfl):cS P:=
 .m ⟨[p],qj P p (.p (ap K.en K.z K.T v xs)) (.p (ap K.en K.z K.T v (xs.set i a))) v (i*K.k+f) l,ST (d:=K.d) p i K.k f K.hk hi hl hu⟩
end
end Go.Proofs.YtbcodenfkijdnaaGreat.E
namespace Go.Proofs.YtbcodenfkijdnaaGreat.E
open Go Go.RowKit Go.Shelf
open Go.Proofs.Tryz renaming prog→dZ
structure Pa where
 k:Nat
 l:Nat
 a:Nat
deriving DecidableEq
def bB:Pa:=⟨0,0,0⟩
def pN(x:Pa):List Value:=[iN x.k,iN x.l,iN x.a]
def eU:Kd dZ Pa:=⟨pN,[i6 0,i6 0,i6 0],354,386,bB,3,λ_=>rfl,rfl,λ_=>rfl,d9.mk' Kr Kr rfl⟩
abbrev ew(v:Value)(xs:List Pa):az:= .p (ap pN ([i6 0,i6 0,i6 0]) 386 v xs)
def bM(k:Nat)(x:Pa):Bool:=(x.k:Int)==(k:Int)
structure Tb where
 l:List Pa
 room:Nat
structure iW (ev:Nat) (t:Tb):Prop where
 l:t.l.length≤t.room
 r1:1≤t.room
 r:t.room≤256
 b: ∀i,i<t.l.length→fk ev (t.l.getD i bB).l (t.l.getD i bB).a
abbrev ek(g:Nat)(t:Tb)(L:ah):Prop:=∃v:Value,L=[ob g #[v,iN t.room,.func (.func 178) #[] #[]] 356,ew v t.l]
def ez(xs:List Pa):Nat→Nat×Nat
 | 0=>(0,0)
 | k+1=>if k=0∨(xs.getD k bB).l<(ez xs k).2 then(k,(xs.getD k bB).l) else ez xs k
theorem z0(xs:List Pa): ∀k,1≤k→(ez xs k).1<k
 | 0,h=>by omega
 | 1,_=>by unfold ez;rw[ALifp (.inl rfl)];exact Nat.zero_lt_one
 | k+2,_=>by
  unfold ez
  split
  ·exact Nat.lt_succ_self _
  ·exact Nat.lt_succ_of_lt (z0 xs (k+1) Om)
theorem SU{xs:List Pa}{k:Nat}(h:(((k:Int)==0)||decide ((((xs.getD k bB).l:Nat):Int)<(((ez xs k).2:Nat):Int)))=true):ez xs (k+1)=(k,(xs.getD k bB).l):=by
 rw[ez,ALifp]
 simp only[Bool.or_eq_true,decide_eq_true_eq,beq_iff_eq] at h
 omega
theorem SV{xs:List Pa}{k:Nat}(h:(((k:Int)==0)||decide ((((xs.getD k bB).l:Nat):Int)<(((ez xs k).2:Nat):Int)))=false):ez xs (k+1)=ez xs k:=by
 rw[ez,ALifn]
 simp only[Bool.or_eq_false_iff,decide_eq_false_iff_not,dp] at h
 omega
def dI(t:Tb)(k:Nat):Bk:=if aY (bM k) t.l=t.l.length then bA else⟨(t.l.getD (aY (bM k) t.l) bB).l,(t.l.getD (aY (bM k) t.l) bB).a⟩
def v7(t:Tb)(k:Nat):Bool:= !decide (aY (bM k) t.l=t.l.length)
def pO(t:Tb)(k l a:Nat):Tb:=
 if aY (bM k) t.l=t.l.length then
  (if t.l.length=t.room then{t with l:=t.l.eraseIdx (ez t.l t.l.length).1++[⟨k,l,a⟩]} else{t with l:=t.l++[⟨k,l,a⟩]})
 else{t with l:=t.l.set (aY (bM k) t.l) ⟨(t.l.getD (aY (bM k) t.l) bB).k,l,a⟩}
def pP(t:Tb)(k:Nat):Tb:=if aY (bM k) t.l=t.l.length then t else{t with l:=t.l.eraseIdx (aY (bM k) t.l)}
def FW(t:Tb)(k:Nat):Nat:=if aY (bM k) t.l=t.l.length∧t.l.length=t.room then(t.l.getD (ez t.l t.l.length).1 bB).k else 0
def FX(t:Tb)(k:Nat):Bool:=decide (aY (bM k) t.l=t.l.length)&&decide (t.l.length=t.room)
structure Tk where
 lr:Nat
 er:Nat
 lp:Nat
 ep:Nat
 room:Nat
 heavy:Nat
 abb:List Bk
 t:Tb
structure d7 (c:Tk):Prop where
 r:ji c.lr c.er
 p:ji c.lp c.ep
 h1:1≤c.heavy
 h2:c.heavy≤65536
 n:c.abb.length≤8
 b: ∀i,i<c.abb.length→fk c.er (c.abb.getD i bA).l (c.abb.getD i bA).a
 t:iW c.ep c.t
abbrev aC(g gt:Nat)(c:Tk)(L:ah):Prop:=∃v:Value,L=[ob g #[iN c.lr,iN c.er,iN c.lp,iN c.ep,iN c.room,iN c.heavy,v,pt gt 0] 294,kV v c.abb,pk (ek gt c.t)]
def fR(c:Tk)(r p n:Nat):Tk:={c with abb:=c.abb.set r ⟨b8 (c.abb.getD r bA).l n,(c.abb.getD r bA).a⟩,t:=pO c.t p (b8 (dI c.t p).l n) (dI c.t p).a}
def pQ(c:Tk)(r:Nat):Tk:={c with abb:=c.abb.set r ⟨0,0⟩}
def qQ(c:Tk)(p:Nat):Tk:={c with t:=pP c.t p}
theorem iW.get{ev:Nat}{t:Tb}(h:iW ev t)(he:1≤ev)(k:Nat):fk ev (dI t k).l (dI t k).a:=by
 unfold dI
 split
 ·exact⟨Nat.zero_le _,he⟩
 ·have:=pL (bM k) t.l
  exact h.b _ Om
theorem SW(l a:Nat):aa dZ 178 #[.agg #[iN l,iN a]] [] [] N0 (λ_=>iN l):=by
 refine fG Tryz.func178 λw cs=>?_
 exact ra (λq1=>[(1,pt (B0 q1) 0),(2,i6 0)]) (λq1=>[ob (B0 q1) #[iN l,iN a] 290]) λq1=>r0 [(1,.l 0)] [(2,iN l)] [2] (lf ab.zero [] [] [])
theorem SX(b k:Nat)(x:Pa):aa dZ 279 #[.agg #[iN x.k,iN x.l,iN x.a],pt b 0] [ob b #[iN k] 3] [] N0 (λ_=> .bool (bM k x)):=by
 refine fG Tryz.func279 λw cs=>?_
 refine ra (λq1=>[(2,pt (B0 q1) 0),(3,.bool false)]) (λq1=>[ob (B0 q1) #[iN x.k,iN x.l,iN x.a] 386]) λq1=>r0 [(1,.l 1),(2,.l 0)] [(3,.bool ((x.k:Int)==(k:Int)))] [3] ?_
 exact am (.bool ((x.k:Int)==(k:Int))) ab.zero bh [] [(0,0)] []
theorem SY(v:Value)(b k:Nat)(xs:List Pa)(hx:xs.length≤1000000):aa dZ 278 #[v,.func (.func 279) #[] #[pt b 0]] [ob b #[iN k] 3,.p (aK pN v xs)] [] N0 (λ_=>i6 (iV (bM k) xs)):=by
 refine fO Tryz.func278 1 rfl λbq1 hq1=>?_
 refine fG Tryz.func278 λw cs=>?_
 refine r0 [] [(4,i6 0)] [] (r0 [(1,eR hq1.1 1)] [(7,iN xs.length),(8,i6 0)] [] ?_)
 refine lq (λn=>n≤xs.length∧(∀j,j<n→bM k (xs.getD j bB)=false)) (λn=>[(8,iN n)]) (λ_ L=>L) (λn=>xs.length-n) 0 ⟨by omega,(λ_ h=>absurd h (Nat.not_lt_zero _))⟩ Kr Kr (λn ⟨hk3,hw⟩=>?_)
 refine r0 [] [(9,.bool (decide ((n:Int)<(xs.length:Int))))] [] ?_
 refine cj (n:Int) (xs.length:Int) (λh5 dh5=>?_) λh5 dh5=>?_
 ·refine r0 [] [(5,iN n)] [] ?_
  refine r0 [(3,fF hq1.1 1 n 3),(4,nC eU hq1.1 1 n 0 3),(5,.c [0] [] (SX b k (xs.getD n bB)))] [(16,.bool (bM k (xs.getD n bB)))] [] ?_
  refine cB (bM k (xs.getD n bB)) (λh8=>?_) λh8=>?_
  ·refine r0 [] [(4,iN n)] [] ?_
   exact am (iN n) ab.zero (by(rw[FP Om hw As];done)) [] [(0,0),(1,1)] []
  refine r0 [(0,ad n 1)] [(8,i6 ((n+1:Nat):Int))] [8] ?_
  exact le (n+1) ⟨by omega,zL hw As⟩ Om Kr [0,1] Kr
 obtain rfl:xs.length=n:=by omega
 refine lx ?_
 refine r0 [] [(4,i6 (-1))] [] ?_
 exact am (i6 (-1)) ab.zero (by(rw[FO hw];done)) [] [(0,0),(1,1)] []
theorem FY(g:Nat)(v:Value)(l:List Pa)(room k:Nat)(hl:l.length≤1000000):aa dZ 261 #[pt g 0,iN k] [ob g #[v,iN room,.func (.func 178) #[] #[]] 356,.p (aK pN v l)] [] N0 (λ_=>i6 (iV (bM k) l)):=by
 refine fO Tryz.func261 1 rfl λbq1 hq1=>?_
 refine fG Tryz.func261 λw cs=>?_
 exact ra (λq1=>[(3,pt (B0 q1) 0),(4,i6 0)]) (λq1=>[ob (B0 q1) #[iN k] 3]) λq1=>r0 [(3,.l 0),(5,.c [2,1] [] (aa.at (rd':=[ob (B0 q1) #[iN k] 3,.c bq1]) (SY v (B0 q1) k l Om) (ak (em hq1 (λ_ h=>h)))))] [(4,i6 (iV (bM k) l))] [4] (lf ab.zero [] [(0,0),(1,1)] [])
theorem z3(g:Nat)(v:Value)(l:List Pa)(room k:Nat)(hl:l.length≤1000000)(h:aY (bM k) l<l.length):aa dZ 261 #[pt g 0,iN k] [ob g #[v,iN room,.func (.func 178) #[] #[]] 356,.p (aK pN v l)] [] N0 (λ_=>i6 ((aY (bM k) l:Nat):Int)):=by
 have h1:=FY g v l room k hl
 unfold iV at h1
 rwa [ALifn Om] at h1
theorem v8(g:Nat)(v:Value)(l:List Pa)(room k:Nat)(hl:l.length≤1000000)(h:aY (bM k) l=l.length):aa dZ 261 #[pt g 0,iN k] [ob g #[v,iN room,.func (.func 178) #[] #[]] 356,.p (aK pN v l)] [] N0 (λ_=>i6 (-1)):=by
 have h1:=FY g v l room k hl
 unfold iV at h1
 rwa [ALifp h] at h1
theorem SZ(g:Nat)(v:Value)(l:List Pa)(room:Nat)(hl:l.length≤1000000):aa dZ 263 #[pt g 0] [ob g #[v,iN room,.func (.func 178) #[] #[]] 356,.p (aK pN v l)] [] N0 (λ_=>i6 (((ez l l.length).1:Nat):Int)):=by
 refine fO Tryz.func263 1 rfl λbq1 hq1=>?_
 refine fG Tryz.func263 λw cs=>?_
 refine r0 [] [(2,i6 0)] [] (r0 [] [(3,i6 0),(4,i6 0)] [] (r0 [(3,.l 0),(4,eR hq1.1 1)] [(11,v),(12,iN l.length),(13,i6 0)] [] ?_))
 refine lq (λk=>k≤l.length) (λk=>[(3,i6 (((ez l k).1:Nat):Int)),(4,i6 (((ez l k).2:Nat):Int)),(13,iN k)]) (λ_ L=>L) (λk=>l.length-k) 0 Om Kr Kr (λk hk4=>?_)
 refine r0 [] [(14,.bool (decide ((k:Int)<(l.length:Int))))] [] ?_
 refine cj (k:Int) (l.length:Int) (λh6 dh6=>?_) λh6 dh6=>?_
 ·refine rr (λ_=>[(1,fF hq1.1 1 k 3),(2,nC eU hq1.1 1 k 0 3),(5,.s 2)]) (λq7=>[(6,pt (B3 q7) 0),(5,iN k)]) [] (λq7 L=>L++[ob (B3 q7) #[i6 (((l.getD k bB).k:Nat):Int),i6 (((l.getD k bB).l:Nat):Int),i6 (((l.getD k bB).a:Nat):Int)] 386]) λq7=>?_
  refine r0 [(3,.l 0),(5,.l 2),(6,.c [] [] (SW ((l.getD k bB).l) ((l.getD k bB).a)))] [(7,i6 (((l.getD k bB).l:Nat):Int))] [] (r0 [] [(31,.bool (((k:Int)==0)||(decide ((((l.getD k bB).l:Nat):Int)<(((ez l k).2:Nat):Int)))))] [] ?_)
  refine cB (((k:Int)==0)||(decide ((((l.getD k bB).l:Nat):Int)<(((ez l k).2:Nat):Int)))) (λh10=>?_) λh10=>?_
  ·refine r0 [] [(3,iN k),(4,i6 (((l.getD k bB).l:Nat):Int))] [3,4] ?_
   refine r0 [(0,ad k 1)] [(13,i6 ((k+1:Nat):Int))] [13] ?_
   exact le (k+1) Om Om (by(rw[SU As]);kernel_rfl) [0,1] Kr
  refine r0 [(0,ad k 1)] [(13,i6 ((k+1:Nat):Int))] [13] ?_
  exact le (k+1) Om Om (by(rw[SV As]);kernel_rfl) [0,1] Kr
 obtain rfl:l.length=k:=by omega
 refine lx ?_
 exact r0 [] [(2,i6 (((ez l l.length).1:Nat):Int))] [2] (lf ab.zero [] [(0,0),(1,1)] [])
end Go.Proofs.YtbcodenfkijdnaaGreat.E
namespace Go.Proofs.YtbcodenfkijdnaaGreat.E
open Go Go.RowKit Go.Shelf Go.Lib
open List renaming replicate→dZ
open Go.Proofs.Tryz renaming prog→eF
set_option maxRecDepth 1000000 in
set_option maxHeartbeats 1000000 in
theorem S2(g n cap i j:Nat)(w:World)(hlt:i<j)(hjn:j≤n)(hcap:n≤cap)(cur:Array Value)(hgc:w.heap[g]? =some (.cells cur 386 (0,0)))(news:List Value)(hnews:news.length=(n-(j))*3)(hone: ∀u∈news,u.oneCell'=true)(hsrc: ∀t u,news[t]? =some u→w.cell? ⟨g,(j)*3+t,none⟩=some u)(hfit:i*3+news.length≤cur.size)(hsize:n*3≤cur.size):Calls eF 280 #[.slice (some ⟨g,0,none⟩) n cap,.int .i64 (i:Int),.int .i64 (j:Int)] w λe w'=>e= .returned (.slice (some ⟨g,0,none⟩) (n-(j-i)) cap)∧w'=(w.drew.setRow g (cur.toList.take (i*3)++news++cur.toList.drop (i*3+news.length)).toArray).setRow g ((cur.toList.take (i*3)++news++cur.toList.drop (i*3+news.length)).toArray.toList.take ((i+(n-j))*3)++(dZ (n-(i+(n-j))) eU.z).flatten++(cur.toList.take (i*3)++news++cur.toList.drop (i*3+news.length)).toArray.toList.drop ((i+(n-j))*3+(n-(i+(n-j)))*3)).toArray:=by
 have mixed:Tryz.prog.follows .mixedOrders=true:=by kernel_rfl
 have hic:i≤cap:=by omega
 have hjc:j≤cap:=by omega
 obtain⟨ii,zv,hii,hz0,hz1,hzc,hby⟩:=eU.hT.hi
 obtain⟨A,hA,hsrc2⟩: ∃A:Addr,(if cap=j then some (⟨g,0,none⟩:Addr) else some ⟨g,(j)*3,none⟩)=some A∧Hid (∀t u,news[t]? =some u→w.drew.cell? (A.add t)=some u):=by
  by_cases h:cap=j
  ·refine⟨⟨g,0,none⟩,by simp [h],λt u hu=>?_⟩
   have h0:news.length=0:=by rw[hnews];omega
   rw[List.length_eq_zero_iff.1 h0] at hu
   simp at hu
  ·exact⟨⟨g,(j)*3,none⟩,by simp [h],λt u hu=>by rw[Addr.add_lit];exact hsrc t u hu⟩
 have s1:Hid (news.length=(n-(j))*3):=hnews
 have s2:Hid (∀u∈news,u.oneCell'=true):=hone
 have s3:Hid (i*3+news.length≤cur.size):=hfit
 have s4:Hid (w.drew.heap[g]? =some (.cells cur 386 (0,0))):=hgc
 obtain⟨W1,hW1⟩: ∃W1,W1=w.drew.setRow g (cur.toList.take (i*3)++news++cur.toList.drop (i*3+news.length)).toArray:=⟨_,rfl⟩
 have hW:Hid (W1=w.drew.setRow g (cur.toList.take (i*3)++news++cur.toList.drop (i*3+news.length)).toArray):=hW1
 obtain⟨cs1,hcs1⟩: ∃cs1,cs1=(cur.toList.take (i*3)++news++cur.toList.drop (i*3+news.length)).toArray:=⟨_,rfl⟩
 have hsz:cs1.size=cur.size:=by
  rw[hcs1]
  simp only[List.size_toArray,List.length_append,List.length_take,List.length_drop,Array.length_toList]
  omega
 have hgc1:W1.heap[g]? =some (.cells cs1 386 (0,0)):=by rw[hW1,←hcs1];exact setRow_heap _ g cur _ _ _ s4.out
 obtain⟨W2,hW2⟩: ∃W2,W2=W1.setRow g (cs1.toList.take ((i+(n-j))*3)++(dZ (n-(i+(n-j))) eU.z).flatten++cs1.toList.drop ((i+(n-j))*3+(n-(i+(n-j)))*3)).toArray:=⟨_,rfl⟩
 have hcl: ∀ty,(Builtin.clear_ #[354] ty #[.slice (some ⟨g,(i+(n-j))*3,none⟩) (n-(i+(n-j))) (cap-(i+(n-j)))]).run eF W1= .ok (.tuple #[]) W2:=λty=>by
  rw[hW2]
  exact FT eU.hT hgc1 Om (by show _+_*3≤_;rw[hsz];omega) (λu hu=>by
   simp only[eU,List.mem_cons,List.not_mem_nil,or_false] at hu
   rcases hu with rfl | rfl | rfl<;>rfl)
 have hX:Hid (W2=W1.setRow g (cs1.toList.take ((i+(n-j))*3)++(dZ (n-(i+(n-j))) eU.z).flatten++cs1.toList.drop ((i+(n-j))*3+(n-(i+(n-j)))*3)).toArray):=hW2
 have hY:Hid (cs1=(cur.toList.take (i*3)++news++cur.toList.drop (i*3+news.length)).toArray):=hcs1
 clear hW1 hsrc hnews hone hfit hgc hW2 hgc1 hsz hcs1
 go_enter Tryz.func280,Tryz.ntmps280
 go_wp2_with fail
 go_region_law_o (refine FS rfl (.tmp 22) (.tmp 25) 354 rfl 386 ii 3 eU.hT.ht hii hz1 g i cap cur s4.out (by simp [Act.eval,Act.put]) A (n-(j)) (cap-(j)) news (by simp [Act.eval,Act.put]) s1.out hsrc2.out s2.out Om s3.out ?_;rw[←hW.out])
 go_wp2
 go_ret
 refine⟨by rw[show n-(j-i)=i+(n-j) by omega];rfl,?_⟩
 rw[hX.out,hW.out,hY.out]
theorem S3(v:Value)(xs:List Pa)(i:Nat)(hi:i<xs.length):aa eF 280 #[v,iN i,i6 ((i+1:Nat):Int)] [ew v xs] [0] (λE=>[ew (E.val 0) (xs.eraseIdx i)]) (λE=>E.val 0):=
 FU eU (enters_of Tryz.func280 Kr rfl) hi λg cap w cur news hcap hgc hn h1 hsrc hfit hsize=>S2 g xs.length cap i (i+1) w (Nat.lt_succ_self i) hi hcap cur hgc news hn h1 hsrc hfit hsize
end Go.Proofs.YtbcodenfkijdnaaGreat.E
namespace Go.Proofs.YtbcodenfkijdnaaGreat.E
open Go Go.RowKit Go.Shelf
open Go.Proofs.Tryz renaming prog→dZ
open List renaming length_take→eF,length_map→ir,getD_eq_getElem?_getD→jg,getElem?_eq_getElem→jh
theorem FZ(g:Nat)(v:Value)(l:List Pa)(room i:Nat)(hi:i<l.length)(hl:l.length≤1000000):aa dZ 262 #[pt g 0,iN i] [ob g #[v,iN room,.func (.func 178) #[] #[]] 356,ew v l] [0,1] (λE=>[ob g #[(E.val 0),iN room,.func (.func 178) #[] #[]] 356,ew (E.val 0) (l.eraseIdx i)]) (λ_=>i6 (((l.getD i bB).k:Nat):Int)):=by
 refine fG Tryz.func262 λw cs=>?_
 exact r0 [] [(4,i6 0)] [] (r0 [(3,.l 0),(5,cU eU v l 1 i),(6,uN eU v l 1 (i*3) 0),(7,fg eU v l 1 i 0)] [(5,i6 (((l.getD i bB).k:Nat):Int))] [] (rr (λq3=>[(4,.m (ld 0 (v))),(7,ad i 1),(8,.c [1] [1] (S3 v l i Om)),(11,.m (fZ 0 1 (ew ((q3 8).val 0) (l.eraseIdx i)) ((q3 8).val 0) λbs h=>ap.one ((λ_ h=>h) bs h)))]) N0 [] (λq3 L=>(L.set 0 (ob g #[(q3 8).val 0,iN room,.func (.func 178) #[] #[]] 356)).set 1 (ew ((q3 8).val 0) (l.eraseIdx i))) λq3=>r0 [] [(4,i6 (((l.getD i bB).k:Nat):Int))] [4] (lf (.l [] [] [((q3 8).val 0)]) [0,1] [] [])))
theorem S4(g:Nat)(t:Tb)(k:Nat)(hl:t.l.length≤1000000)(h:aY (bM k) t.l<t.l.length):aa dZ 238 #[pt g 0,iN k] [pk (ek g t)] [0] (λ_=>[pk (ek g t)]) (λ_=> .tuple #[.agg #[i6 (((t.l.getD (aY (bM k) t.l) bB).l:Nat):Int),i6 (((t.l.getD (aY (bM k) t.l) bB).a:Nat):Int)],.bool true]):=aa.pkZ Tryz.func238 λL hL=>by
 obtain⟨v,rfl⟩:=hL
 refine⟨[1],λ_=>[ew v t.l],?_,rfl,λE=>⟨rfl,rfl,⟨_,rfl⟩⟩⟩
 refine fG Tryz.func238 λw cs=>?_
 exact ra (λq1=>[(4,pt (B0 q1) 0),(5,.bool false)]) (λq1=>[ob (B0 q1) #[i6 0,i6 0] 290]) λq1=>r0 [(2,.c [0,1] [] (aa.at (rd':=[ob g #[v,iN t.room,.func (.func 178) #[] #[]] 356,ew v t.l]) (z3 g v t.l t.room k Om Om) (ak (bO (λ_ h=>ap.sq h) (λ_ h=>h)))))] [(6,i6 ((aY (bM k) t.l:Nat):Int))] [] (rF [(1,.t (tk (show Value.bool (decide (((aY (bM k) t.l:Nat):Int)<0))= .bool false from ALca Value.bool (by exact bj Om))))] 12 (rr (λ_=>[(3,.l 0),(5,cU eU v t.l 1 (aY (bM k) t.l)),(6,uN eU v t.l 1 ((aY (bM k) t.l)*3) 1),(7,qm eU v t.l 1 (aY (bM k) t.l) 1 2),(8,.s 2)]) (λ_=>[(5,.bool true)]) [5] (λ_ L=>L.set 2 (ob (B0 q1) #[i6 (((t.l.getD (aY (bM k) t.l) bB).l:Nat):Int),i6 (((t.l.getD (aY (bM k) t.l) bB).a:Nat):Int)] 290)) λq4=>lf ab.zero [1] [(0,0)] [2]))
theorem S5(g:Nat)(t:Tb)(k:Nat)(hl:t.l.length≤1000000)(h:aY (bM k) t.l=t.l.length):aa dZ 238 #[pt g 0,iN k] [pk (ek g t)] [0] (λ_=>[pk (ek g t)]) (λ_=> .tuple #[.agg #[i6 0,i6 0],.bool false]):=aa.pkZ Tryz.func238 λL hL=>by
 obtain⟨v,rfl⟩:=hL
 refine⟨[1],λ_=>[ew v t.l],?_,rfl,λE=>⟨rfl,rfl,⟨_,rfl⟩⟩⟩
 refine fG Tryz.func238 λw cs=>?_
 exact ra (λq1=>[(4,pt (B0 q1) 0),(5,.bool false)]) (λq1=>[ob (B0 q1) #[i6 0,i6 0] 290]) λq1=>r0 [(2,.c [0,1] [] (aa.at (rd':=[ob g #[v,iN t.room,.func (.func 178) #[] #[]] 356,ew v t.l]) (v8 g v t.l t.room k Om Om) (ak (bO (λ_ h=>ap.sq h) (λ_ h=>h)))))] [(6,i6 (-1))] [] (rT [] 12 (ra (λq4=>[(7,pt (B0 q4) 0)]) (λq4=>[ob (B0 q4) #[i6 0,i6 0] 290]) λq4=>r0 [(0,.l 3),(1,.s 2)] [(5,.bool false)] [5] (lf ab.zero [1] [(0,0)] [2])))
theorem S6(g:Nat)(t:Tb)(k l a:Nat)(hl:t.l.length≤1000000)(h:aY (bM k) t.l<t.l.length):aa dZ 239 #[pt g 0,iN k,.agg #[iN l,iN a]] [pk (ek g t)] [0] (λ_=>[pk (ek g {t with l:=t.l.set (aY (bM k) t.l) ⟨(t.l.getD (aY (bM k) t.l) bB).k,l,a⟩})]) (λ_=> .tuple #[i6 0,.bool false]):=aa.pkZ Tryz.func239 λL hL=>by
 obtain⟨v,rfl⟩:=hL
 refine⟨[1],λ_=>[ew v (t.l.set (aY (bM k) t.l) (⟨(t.l.getD (aY (bM k) t.l) bB).k,l,a⟩:Pa))],?_,rfl,λE=>⟨rfl,rfl,⟨_,rfl⟩⟩⟩
 refine fG Tryz.func239 λw cs=>?_
 exact ra (λq1=>[(5,pt (B0 q1) 0),(6,i6 0),(7,.bool false)]) (λq1=>[ob (B0 q1) #[iN l,iN a] 290]) λq1=>r0 [(2,.c [0,1] [] (aa.at (rd':=[ob g #[v,iN t.room,.func (.func 178) #[] #[]] 356,ew v t.l]) (z3 g v t.l t.room k Om Om) (ak (bO (λ_ h=>ap.sq h) (λ_ h=>h)))))] [(8,i6 ((aY (bM k) t.l:Nat):Int))] [] (rT [(1,.t (tk (show Value.bool (decide (0≤((aY (bM k) t.l:Nat):Int)))= .bool true from ALca Value.bool (by exact cC Om))))] 13 (rs [(3,.l 0),(5,.l 2),(6,cU eU v t.l 1 (aY (bM k) t.l)),(7,uN eU v t.l 1 ((aY (bM k) t.l)*3) 1),(8,FV eU v t.l 1 (aY (bM k) t.l) 1 (⟨(t.l.getD (aY (bM k) t.l) bB).k,l,a⟩:Pa) [iN l,iN a] Kr Om)] 1 (ew v (t.l.set (aY (bM k) t.l) (⟨(t.l.getD (aY (bM k) t.l) bB).k,l,a⟩:Pa))) (r0 [] [(6,i6 0),(7,.bool false)] [6,7] (lf ab.zero [1] [(0,0)] []))))
theorem S7(g:Nat)(t:Tb)(k l a:Nat)(hl:t.l.length≤1000)(h:aY (bM k) t.l=t.l.length)(hr:t.l.length≠t.room):aa dZ 239 #[pt g 0,iN k,.agg #[iN l,iN a]] [pk (ek g t)] [0] (λ_=>[pk (ek g {t with l:=t.l++[⟨k,l,a⟩]})]) (λ_=> .tuple #[i6 0,.bool false]):=aa.pkZ Tryz.func239 λL hL=>by
 obtain⟨v,rfl⟩:=hL
 refine⟨[0,1],λE=>[ob g #[(E.val 0),iN t.room,.func (.func 178) #[] #[]] 356,ew (E.val 0) (t.l++([(⟨k,l,a⟩:Pa)]))],?_,rfl,λE=>⟨rfl,rfl,⟨_,rfl⟩⟩⟩
 refine fG Tryz.func239 λw cs=>?_
 refine ra (λq1=>[(5,pt (B0 q1) 0),(6,i6 0),(7,.bool false)]) (λq1=>[ob (B0 q1) #[iN l,iN a] 290]) λq1=>r0 [(2,.c [0,1] [] (aa.at (rd':=[ob g #[v,iN t.room,.func (.func 178) #[] #[]] 356,ew v t.l]) (v8 g v t.l t.room k Om Om) (ak (bO (λ_ h=>ap.sq h) (λ_ h=>h)))))] [(8,i6 (-1))] [] (rF [] 13 (rF [(3,.l 0),(4,fC eU v t.l 1),(8,.l 0),(9,.t (tk (show Value.bool ((t.l.length:Int)==(t.room:Int))= .bool false from ALca Value.bool (by rw[dp];omega))))] 32 (rr (λq5=>[(4,.m (ld 0 (v))),(6,.m (ls 2 ([iN l,iN a]))),(8,.m (bs 3 1)),(9,fD eU (v) t.l 1 3 ([(⟨k,l,a⟩:Pa)])),(12,.m (fZ 0 1 (ew ((q5 9).val 0) (t.l++([(⟨k,l,a⟩:Pa)]))) ((q5 9).val 0) λbs h=>ap.one ((λ_ h=>h) bs h)))]) N0 [] (λq5 L=>(L.set 0 (ob g #[(q5 9).val 0,iN t.room,.func (.func 178) #[] #[]] 356)).set 1 (ew ((q5 9).val 0) (t.l++([(⟨k,l,a⟩:Pa)])))++[ob ((q5 8).abd 0) #[iN k,iN l,iN a] 386]) λq5=>r0 [] [(6,i6 0),(7,.bool false)] [6,7] ?_)))
 exact lf (.l [] [] [(q5 9).val 0]) [0,1] [] []
theorem S8(g:Nat)(t:Tb)(k l a:Nat)(hl:t.l.length≤1000)(h1:1≤t.l.length)(h:aY (bM k) t.l=t.l.length)(hr:t.l.length=t.room):aa dZ 239 #[pt g 0,iN k,.agg #[iN l,iN a]] [pk (ek g t)] [0] (λ_=>[pk (ek g {t with l:=t.l.eraseIdx (ez t.l t.l.length).1++[⟨k,l,a⟩]})]) (λ_=> .tuple #[i6 (((t.l.getD ((ez t.l t.l.length).1) bB).k:Nat):Int),.bool true]):=aa.pkZ Tryz.func239 λL hL=>by
 obtain⟨v,rfl⟩:=hL
 refine⟨[0,1],λE=>[ob g #[(E.val 0),iN t.room,.func (.func 178) #[] #[]] 356,ew (E.val 0) ((t.l.eraseIdx ((ez t.l t.l.length).1))++([(⟨k,l,a⟩:Pa)]))],?_,rfl,λE=>⟨rfl,rfl,⟨_,rfl⟩⟩⟩
 have hlt:=z0 t.l t.l.length h1
 have hel:(t.l.eraseIdx (ez t.l t.l.length).1).length=t.l.length-1:=by rw[List.length_eraseIdx,ALifp hlt]
 refine fG Tryz.func239 λw cs=>?_
 refine ra (λq1=>[(5,pt (B0 q1) 0),(6,i6 0),(7,.bool false)]) (λq1=>[ob (B0 q1) #[iN l,iN a] 290]) λq1=>r0 [(2,.c [0,1] [] (aa.at (rd':=[ob g #[v,iN t.room,.func (.func 178) #[] #[]] 356,ew v t.l]) (v8 g v t.l t.room k Om Om) (ak (bO (λ_ h=>ap.sq h) (λ_ h=>h)))))] [(8,i6 (-1))] [] (rF [] 13 (rT [(3,.l 0),(4,fC eU v t.l 1),(8,.l 0),(9,.t (tk (show Value.bool ((t.l.length:Int)==(t.room:Int))= .bool true from ALca Value.bool (by rw[hr];exact beq_self_eq_true _))))] 32 (rr (λ_=>[(2,.c [0,1] [] (aa.at (rd':=[ob g #[v,iN t.room,.func (.func 178) #[] #[]] 356,ew v t.l]) (SZ g v t.l t.room Om) (ak (bO (λ_ h=>ap.sq h) (λ_ h=>h))))),(3,.c [0,1] [0,1] (FZ g v t.l t.room ((ez t.l t.l.length).1) Om Om))]) (λ_=>[(6,i6 (((t.l.getD ((ez t.l t.l.length).1) bB).k:Nat):Int)),(7,.bool true)]) [6,7] (λq5 L=>(L.set 0 (ob g #[((q5 3).val 0),iN t.room,.func (.func 178) #[] #[]] 356)).set 1 (ew ((q5 3).val 0) (t.l.eraseIdx ((ez t.l t.l.length).1)))) λq5=>rr (λq6=>[(4,.m (ld 0 (((q5 3).val 0)))),(6,.m (ls 2 ([iN l,iN a]))),(8,.m (bs 3 1)),(9,fD eU (((q5 3).val 0)) (t.l.eraseIdx ((ez t.l t.l.length).1)) 1 3 ([(⟨k,l,a⟩:Pa)])),(12,.m (fZ 0 1 (ew ((q6 9).val 0) ((t.l.eraseIdx ((ez t.l t.l.length).1))++([(⟨k,l,a⟩:Pa)]))) ((q6 9).val 0) λbs h=>ap.one ((λ_ h=>h) bs h)))]) N0 [] (λq6 L=>(L.set 0 (ob g #[(q6 9).val 0,iN t.room,.func (.func 178) #[] #[]] 356)).set 1 (ew ((q6 9).val 0) ((t.l.eraseIdx ((ez t.l t.l.length).1))++([(⟨k,l,a⟩:Pa)])))++[ob ((q6 8).abd 0) #[iN k,iN l,iN a] 386]) λq6=>?_)))
 exact r0 [] [(6,i6 (((t.l.getD ((ez t.l t.l.length).1) bB).k:Nat):Int)),(7,.bool true)] [6,7] (lf (.l [] [] [(q6 9).val 0]) [0,1] [] [])
theorem S9(g:Nat)(t:Tb)(k:Nat)(hl:t.l.length≤1000000)(h:aY (bM k) t.l<t.l.length):aa dZ 270 #[pt g 0,iN k] [pk (ek g t)] [0] (λ_=>[pk (ek g {t with l:=t.l.eraseIdx (aY (bM k) t.l)})]) (λ_=> .bool true):=aa.pkZ Tryz.func270 λL hL=>by
 obtain⟨v,rfl⟩:=hL
 refine⟨[0,1],λE=>[ob g #[(E.val 0),iN t.room,.func (.func 178) #[] #[]] 356,ew (E.val 0) (t.l.eraseIdx (aY (bM k) t.l))],?_,rfl,λE=>⟨rfl,rfl,⟨_,rfl⟩⟩⟩
 refine fG Tryz.func270 λw cs=>?_
 exact r0 [] [(4,.bool false)] [] (r0 [(2,.c [0,1] [] (aa.at (rd':=[ob g #[v,iN t.room,.func (.func 178) #[] #[]] 356,ew v t.l]) (z3 g v t.l t.room k Om Om) (ak (bO (λ_ h=>ap.sq h) (λ_ h=>h)))))] [(5,i6 ((aY (bM k) t.l:Nat):Int))] [] (rF [(1,.t (tk (show Value.bool (decide (((aY (bM k) t.l:Nat):Int)<0))= .bool false from ALca Value.bool (by exact bj Om))))] 10 (rr (λ_=>[(2,.c [0,1] [0,1] (FZ g v t.l t.room (aY (bM k) t.l) Om Om))]) N0 [] (λq4 L=>(L.set 0 (ob g #[((q4 2).val 0),iN t.room,.func (.func 178) #[] #[]] 356)).set 1 (ew ((q4 2).val 0) (t.l.eraseIdx (aY (bM k) t.l)))) λq4=>r0 [] [(4,.bool true)] [4] (lf (.l [] [] [((q4 2).val 0)]) [0,1] [] []))))
theorem Ta(g:Nat)(t:Tb)(k:Nat)(hl:t.l.length≤1000000)(h:aY (bM k) t.l=t.l.length):aa dZ 270 #[pt g 0,iN k] [pk (ek g t)] [0] (λ_=>[pk (ek g t)]) (λ_=> .bool false):=aa.pkZ Tryz.func270 λL hL=>by
 obtain⟨v,rfl⟩:=hL
 refine⟨[1],λ_=>[ew v t.l],?_,rfl,λE=>⟨rfl,rfl,⟨_,rfl⟩⟩⟩
 refine fG Tryz.func270 λw cs=>?_
 exact r0 [] [(4,.bool false)] [] (r0 [(2,.c [0,1] [] (aa.at (rd':=[ob g #[v,iN t.room,.func (.func 178) #[] #[]] 356,ew v t.l]) (v8 g v t.l t.room k Om Om) (ak (bO (λ_ h=>ap.sq h) (λ_ h=>h)))))] [(5,i6 (-1))] [] (rT [] 10 (r0 [] [(4,.bool false)] [4] (lf ab.zero [1] [(0,0)] []))))
theorem Tc(g:Nat)(t:Tb)(k:Nat)(hl:t.l.length≤1000000):aa dZ 238 #[pt g 0,iN k] [pk (ek g t)] [0] (λ_=>[pk (ek g t)]) (λ_=> .tuple #[.agg #[i6 (((dI t k).l:Nat):Int),i6 (((dI t k).a:Nat):Int)],.bool (v7 t k)]):=by
 unfold dI v7
 by_cases h:aY (bM k) t.l=t.l.length
 ·rw[ALifp h,cC h];exact S5 g t k hl h
 ·rw[ALifn h,bj h];exact S4 g t k hl (by have:=pL (bM k) t.l;omega)
theorem Td(g:Nat)(t:Tb)(k l a:Nat)(hl:t.l.length≤1000)(h1:1≤t.room):aa dZ 239 #[pt g 0,iN k,.agg #[iN l,iN a]] [pk (ek g t)] [0] (λ_=>[pk (ek g (pO t k l a))]) (λ_=> .tuple #[i6 ((FW t k:Nat):Int),.bool (FX t k)]):=by
 unfold pO FW FX
 by_cases h:aY (bM k) t.l=t.l.length
 ·by_cases hr:t.l.length=t.room
  ·rw[ALifp h,ALifp hr,ALifp ⟨h,hr⟩,cC h,cC hr];exact S8 g t k l a hl Om h hr
  ·rw[ALifp h,ALifn hr,ALifn (λq=>hr q.2),cC h,bj hr];exact S7 g t k l a hl h hr
 ·rw[ALifn h,ALifn (λq=>h q.1),bj h];exact S6 g t k l a Om (by have:=pL (bM k) t.l;omega)
theorem Te(g:Nat)(t:Tb)(k:Nat)(hl:t.l.length≤1000000):aa dZ 270 #[pt g 0,iN k] [pk (ek g t)] [0] (λ_=>[pk (ek g (pP t k))]) (λ_=> .bool (v7 t k)):=by
 unfold pP v7
 by_cases h:aY (bM k) t.l=t.l.length
 ·rw[ALifp h,cC h];exact Ta g t k hl h
 ·rw[ALifn h,bj h];exact S9 g t k hl (by have:=pL (bM k) t.l;omega)
theorem F0(g:Nat)(v:Value)(rs:List Bk)(gt c0 c1 c2 c3 c4 c5 r:Nat)(hr:r<rs.length):aa dZ 236 #[pt g 0,iN r] [ob g #[iN c0,iN c1,iN c2,iN c3,iN c4,iN c5,v,pt gt 0] 294,.p (aK zW v rs)] [] N0 (λ_=> .bool true):=by
 refine fO Tryz.func236 1 rfl λbq1 hq1=>?_
 refine fG Tryz.func236 λw cs=>?_
 refine r0 [] [(4,.bool false)] [] (r0 [(7,.m (ld 0 (v))),(8,eR hq1.1 1),] [(4,.bool ((decide (0≤(r:Int)))&&(decide ((r:Int)<(rs.length:Int)))))] [4] ?_)
 exact am (.bool ((decide (0≤(r:Int)))&&(decide ((r:Int)<(rs.length:Int))))) ab.zero (by exact ALca Value.bool (by simp only[Bool.and_eq_true,decide_eq_true_eq];omega)) [] [(0,0),(1,1)] []
theorem F1(g gt:Nat)(c:Tk)(hc:d7 c)(r p n:Nat)(hr:r<c.abb.length)(hn5:n≤65536):aa dZ 206 #[pt g 0,iN r,iN p,iN n] [pk (aC g gt c)] [0] (λ_=>[pk (aC g gt (fR c r p n))]) (λ_=> .tuple #[.agg #[.bool (dH c.lr ((c.abb.getD r bA).l) n),.bool (dH c.lp ((dI c.t p).l) n)],i6 0]):=aa.pkZ Tryz.func206 λL hL=>by
 obtain⟨v,rfl⟩:=hL
 refine⟨[1,2],λ_=>[kV v (c.abb.set r (⟨b8 ((c.abb.getD r bA).l) n,(c.abb.getD r bA).a⟩:Bk)),pk (ek gt (pO c.t p (b8 ((dI c.t p).l) n) ((dI c.t p).a)))],?_,rfl,λE=>⟨rfl,rfl,⟨_,rfl⟩⟩⟩
 have htl:=hc.t.l
 have htr:=hc.t.r
 have htr1:=hc.t.r1
 have hn:=hc.n
 have hb1:=hc.b r hr
 have hb2:=hc.t.get hc.p.e1 p
 refine fG Tryz.func206 λw cs=>?_
 refine ra (λq1=>[(8,pt (B0 q1) 0),(9,i6 0)]) (λq1=>[ob (B0 q1) #[.bool false,.bool false] 339]) λq1=>r0 [(2,.c [0,1] [] (aa.at (rd':=[ob g #[iN c.lr,iN c.er,iN c.lp,iN c.ep,iN c.room,iN c.heavy,v,pt gt 0] 294,kV v c.abb]) (F0 g v c.abb gt c.lr c.er c.lp c.ep c.room c.heavy r Om) (ak (bO (λ_ h=>ap.sq h) (λ_ h=>h)))))] [(20,.bool (decide ((n:Int)<0)))] [] ?_
 have h3:(decide ((n:Int)<0))=false:=by exact bj Om
 refine cF (decide ((n:Int)<0)) h3 (ra (λq4=>[(10,pt (B0 q4) 0)]) (λq4=>[ob (B0 q4) #[.bool false,.bool false] 339]) λq4=>rr (λ_=>[(3,.m (ld 0 (v))),(8,.m (ld 0 (v))),(10,cU lP v c.abb 1 r),(11,qm lP v c.abb 1 r 0 2),(16,.m (ls 0 ([iN c.lr,iN c.er]))),(18,.c [] [] (FK c.lr c.er ((c.abb.getD r bA).l) ((c.abb.getD r bA).a) n (by exact hc.r) (by exact hb1) Om)),(22,cU lP v c.abb 1 r),(23,sh lP v c.abb 1 r (⟨b8 ((c.abb.getD r bA).l) n,(c.abb.getD r bA).a⟩:Bk)),(25,.s 4)]) N0 [] (λ_ L=>(L.set 1 (kV v (c.abb.set r (⟨b8 ((c.abb.getD r bA).l) n,(c.abb.getD r bA).a⟩:Bk)))).set 4 (ob (B0 q4) #[.bool (dH c.lr ((c.abb.getD r bA).l) n),.bool false] 339)) λq5=>rr (λ_=>[(3,.m (ld 0 (pt gt 0))),(5,.c [2] [2] (Tc gt c.t p Om)),(9,.m (al 5)),(10,.s 5)]) (λq6=>[(11,pt ((q6 9).abd 0) 0)]) [] (λq6 L=>L++[ob ((q6 9).abd 0) #[i6 (((dI c.t p).l:Nat):Int),i6 (((dI c.t p).a:Nat):Int)] 290]) λq6=>rr (λ_=>[(0,.m (ls 5 ([i6 (((dI c.t p).l:Nat):Int),i6 (((dI c.t p).a:Nat):Int)]))),(5,.m (ls 0 ([iN c.lp,iN c.ep]))),(7,.c [] [] (FK c.lp c.ep ((dI c.t p).l) ((dI c.t p).a) n (by exact hc.p) (by exact hb2) Om)),(11,.s 5),(13,.s 4)]) N0 [] (λ_ L=>(L.set 4 (ob (B0 q4) #[.bool (dH c.lr ((c.abb.getD r bA).l) n),.bool (dH c.lp ((dI c.t p).l) n)] 339)).set 5 (ob ((q6 9).abd 0) #[i6 ((b8 ((dI c.t p).l) n:Nat):Int),i6 (((dI c.t p).a:Nat):Int)] 290)) λq7=>rs [(3,.l 0),(5,.l 5),(6,.c [2] [2] (Td gt c.t p (b8 ((dI c.t p).l) n) ((dI c.t p).a) Om Om))] 2 ((pk (ek gt (pO c.t p (b8 ((dI c.t p).l) n) ((dI c.t p).a))))) ?_)
 exact rr (λ_=>[(0,.l 4),(1,.s 3)]) (λ_=>[(9,i6 0)]) [9] (λ_ L=>L.set 3 (ob (B0 q1) #[.bool (dH c.lr ((c.abb.getD r bA).l) n),.bool (dH c.lp ((dI c.t p).l) n)] 339)) λq9=>lf ab.zero [1,2] [(0,0)] [3]
theorem Tf(g gt:Nat)(c:Tk)(hc:d7 c)(p:Nat):aa dZ 249 #[pt g 0,iN p] [pk (aC g gt c)] [0] (λ_=>[pk (aC g gt (qQ c p))]) (λ_=> .tuple #[]):=aa.pkZ Tryz.func249 λL hL=>by
 obtain⟨v,rfl⟩:=hL
 refine⟨[1,2],λ_=>[kV v c.abb,pk (ek gt (pP c.t p))],?_,rfl,λE=>⟨rfl,rfl,⟨_,rfl⟩⟩⟩
 have htl:=hc.t.l
 have htr:=hc.t.r
 have htr1:=hc.t.r1
 have hn:=hc.n
 refine fG Tryz.func249 λw cs=>?_
 refine rs [(3,.l 0),(5,.c [2] [2] (Te gt c.t p Om))] 2 ((pk (ek gt (pP c.t p)))) ?_
 exact eH ab.zero [1,2] [(0,0)] []
theorem Tg(g gt:Nat)(c:Tk)(hc:d7 c)(r:Nat)(hr:r<c.abb.length):aa dZ 250 #[pt g 0,iN r] [pk (aC g gt c)] [0] (λ_=>[pk (aC g gt (pQ c r))]) (λ_=> .tuple #[]):=aa.pkZ Tryz.func250 λL hL=>by
 obtain⟨v,rfl⟩:=hL
 refine⟨[1,2],λ_=>[kV v (c.abb.set r (⟨0,0⟩:Bk)),pk (ek gt c.t)],?_,rfl,λE=>⟨rfl,rfl,⟨_,rfl⟩⟩⟩
 have htl:=hc.t.l
 have htr:=hc.t.r
 have htr1:=hc.t.r1
 have hn:=hc.n
 refine fG Tryz.func250 λw cs=>?_
 refine rT [(2,.c [0,1] [] (aa.at (rd':=[ob g #[iN c.lr,iN c.er,iN c.lp,iN c.ep,iN c.room,iN c.heavy,v,pt gt 0] 294,kV v c.abb]) (F0 g v c.abb gt c.lr c.er c.lp c.ep c.room c.heavy r Om) (ak (bO (λ_ h=>ap.sq h) (λ_ h=>h)))))] 6 (rs [(3,.l 0),(6,cU lP v c.abb 1 r),(7,sh lP v c.abb 1 r (⟨0,0⟩:Bk))] 1 (kV v (c.abb.set r (⟨0,0⟩:Bk))) ?_)
 exact eH ab.zero [1,2] [(0,0)] []
def aZ{α:Type}(f:α→α)(l:List α)(k:Nat):List α:=(l.take k).map f++l.drop k
section
variable {α:Type} {f:α→α} {l:List α} {k:Nat} {d:α}
theorem Zz(f:α→α)(l:List α)(k:Nat):(aZ f l k).length=l.length:=by unfold aZ;rw[List.length_append,ir,eF,List.length_drop];omega
theorem v9(hk:k<l.length):(aZ f l k).getD k d=l.getD k d:=by
 unfold aZ
 rw[jg,List.getElem?_append_right (by rw[ir,eF];omega),ir,eF,List.getElem?_drop,jg]
 congr 2;omega
theorem F2(f:α→α)(l:List α):aZ f l 0=l:=by unfold aZ;simp
theorem F3(f:α→α)(l:List α):aZ f l l.length=l.map f:=by unfold aZ;simp
theorem F4(hk:k<l.length):(aZ f l k).set k (f (l.getD k d))=aZ f l (k+1):=by
 unfold aZ
 rw[List.set_append_right _ _ (by rw[ir,eF];omega),ir,eF,show k-min k l.length=0 by omega,List.drop_eq_getElem_cons hk,List.take_add_one,jh hk,List.map_append,List.append_assoc,jg,jh hk]
 rfl
end
def el(ev:Nat)(b:Bk):Bk:=⟨iR ev b.l b.a,iS ev b.l b.a⟩
def c8(ev:Nat)(p:Pa):Pa:=⟨p.k,iR ev p.l p.a,iS ev p.l p.a⟩
theorem Th{ev:Nat}{l:List Bk}{k:Nat}(hk:k<l.length):(aZ (el ev) l k).set k ⟨iR ev ((aZ (el ev) l k).getD k bA).l ((aZ (el ev) l k).getD k bA).a,iS ev ((aZ (el ev) l k).getD k bA).l ((aZ (el ev) l k).getD k bA).a⟩=aZ (el ev) l (k+1):=by
 rw[←F4 (d:=bA) hk,v9 hk];rfl
theorem Ti{ev:Nat}{l:List Pa}{k:Nat}(hk:k<l.length):(aZ (c8 ev) l k).set k ⟨((aZ (c8 ev) l k).getD k bB).k,iR ev ((aZ (c8 ev) l k).getD k bB).l ((aZ (c8 ev) l k).getD k bB).a,iS ev ((aZ (c8 ev) l k).getD k bB).l ((aZ (c8 ev) l k).getD k bB).a⟩=aZ (c8 ev) l (k+1):=by
 rw[←F4 (d:=bB) hk,v9 hk];rfl
def tp(t:Tb)(ev:Nat):Tb:={t with l:=aZ (c8 ev) t.l t.l.length}
def mZ(c:Tk):Tk:={c with abb:=aZ (el c.er) c.abb c.abb.length,t:=tp c.t c.ep}
end Go.Proofs.YtbcodenfkijdnaaGreat.E
namespace Go.Proofs.YtbcodenfkijdnaaGreat.E
open Go Go.RowKit Go.Shelf
open Go.Proofs.Tryz renaming prog→dZ
open List renaming getElem?_eq_getElem→eF,length_append→ir,getD_eq_getElem?_getD→jg,length_set→jh,replicate→jw,length_replicate→ka,mem_or_eq_of_mem_set→n7,length_eraseIdx→po,take_add_one→pD,foldl_append→p4,length_cons→p6
open Int renaming natCast_mul→jm
open Bool renaming and_eq_true→kP,or_eq_false_iff→oG,or_eq_true→qx,true_and→qz
open Nat renaming zero_le→na,le_refl→nN
theorem Tj(b g gt:Nat)(c:Tk)(hp:ji c.lp c.ep)(v:Value)(k l a:Nat)(hb:fk c.ep l a):aa dZ 210 #[iN k,.agg #[iN l,iN a],pt b 0] [ob b #[pt g 0] 120,ob g #[iN c.lr,iN c.er,iN c.lp,iN c.ep,iN c.room,iN c.heavy,v,pt gt 0] 294] [] N0 (λ_=> .agg #[i6 ((iR c.ep l a:Nat):Int),i6 ((iS c.ep l a:Nat):Int)]):=by
 refine fG Tryz.func210 λw cs=>?_
 exact ra (λq1=>[(4,pt (B0 q1) 0),(5,pt (B1 q1) 0)]) (λq1=>[ob (B0 q1) #[iN l,iN a] 290,ob (B1 q1) #[i6 0,i6 0] 290]) λq1=>rs [(0,.l 2),(1,.l 0),(5,.l 1),(6,.c [] [] (FL c.lp c.ep l a hp hb)),(7,.s 3)] 3 (ob (B1 q1) #[i6 ((iR c.ep l a:Nat):Int),i6 ((iS c.ep l a:Nat):Int)] 290) (lf ab.zero [] [(0,0),(1,1)] [3])
theorem Tl(gt:Nat)(t:Tb)(b g:Nat)(c:Tk)(hc:d7 c)(ht:iW c.ep t)(v:Value):aa dZ 209 #[pt gt 0,.func (.func 210) #[] #[pt b 0]] [pk (ek gt t),ob b #[pt g 0] 120,ob g #[iN c.lr,iN c.er,iN c.lp,iN c.ep,iN c.room,iN c.heavy,v,pt gt 0] 294] [0] (λ_=>[pk (ek gt (tp t c.ep))]) (λ_=> .tuple #[]):=aa.pkZ Tryz.func209 λL hL=>by
 obtain⟨vt,rfl⟩:=hL
 refine⟨[1],λ_=>[ew vt (aZ (c8 c.ep) t.l t.l.length)],?_,rfl,λE=>⟨rfl,rfl,⟨_,rfl⟩⟩⟩
 have htl:=ht.l
 have htr:=ht.r
 refine fG Tryz.func209 λw cs=>?_
 refine r0 [(3,.l 0),(4,fC eU vt t.l 1)] [(9,vt),(10,iN t.l.length),(11,i6 0)] [] ?_
 refine lq (λk=>k≤t.l.length) (λk=>[(11,iN k)]) (λk L=>L.set 1 (ew vt (aZ (c8 c.ep) t.l k))) (λk=>t.l.length-k) 0 Om Kr (by rw[F2];kernel_rfl) (λk hk2=>?_)
 have hml:=Zz (c8 c.ep) t.l k
 refine r0 [] [(12,.bool (decide ((k:Int)<(t.l.length:Int))))] [] ?_
 refine cj (k:Int) (t.l.length:Int) (λh4 dh4=>?_) λh4 dh4=>?_
 ·refine rr (λ_=>[(1,cU eU vt (aZ (c8 c.ep) t.l k) 1 k),(2,qm eU vt (aZ (c8 c.ep) t.l k) 1 k 0 3),(5,.s 4)]) (λq5=>[(5,pt (B3 q5) 0),(4,iN k)]) [] (λq5 L=>L++[ob (B3 q5) #[i6 ((((aZ (c8 c.ep) t.l k).getD k bB).k:Nat):Int),i6 ((((aZ (c8 c.ep) t.l k).getD k bB).l:Nat):Int),i6 ((((aZ (c8 c.ep) t.l k).getD k bB).a:Nat):Int)] 386]) λq5=>?_
  have hbk:fk c.ep ((aZ (c8 c.ep) t.l k).getD k bB).l ((aZ (c8 c.ep) t.l k).getD k bB).a:=by rw[v9 Om];exact ht.b k Om
  refine rs [(3,.m (ld 0 (vt))),(7,.m (ld 4 (i6 ((((aZ (c8 c.ep) t.l k).getD k bB).k:Nat):Int)))),(9,.m (ls 4 ([i6 ((((aZ (c8 c.ep) t.l k).getD k bB).l:Nat):Int),i6 ((((aZ (c8 c.ep) t.l k).getD k bB).a:Nat):Int)]))),(10,.c [2,3] [] (Tj b g gt c hc.p v (((aZ (c8 c.ep) t.l k).getD k bB).k) (((aZ (c8 c.ep) t.l k).getD k bB).l) (((aZ (c8 c.ep) t.l k).getD k bB).a) hbk)),(11,cU eU vt (aZ (c8 c.ep) t.l k) 1 k),(12,uN eU vt (aZ (c8 c.ep) t.l k) 1 (k*3) 1),(13,FV eU vt (aZ (c8 c.ep) t.l k) 1 k 1 (⟨((aZ (c8 c.ep) t.l k).getD k bB).k,iR c.ep (((aZ (c8 c.ep) t.l k).getD k bB).l) (((aZ (c8 c.ep) t.l k).getD k bB).a),iS c.ep (((aZ (c8 c.ep) t.l k).getD k bB).l) (((aZ (c8 c.ep) t.l k).getD k bB).a)⟩:Pa) [i6 ((iR c.ep (((aZ (c8 c.ep) t.l k).getD k bB).l) (((aZ (c8 c.ep) t.l k).getD k bB).a):Nat):Int),i6 ((iS c.ep (((aZ (c8 c.ep) t.l k).getD k bB).l) (((aZ (c8 c.ep) t.l k).getD k bB).a):Nat):Int)] Kr Om)] 1 (ew vt ((aZ (c8 c.ep) t.l k).set k (⟨((aZ (c8 c.ep) t.l k).getD k bB).k,iR c.ep (((aZ (c8 c.ep) t.l k).getD k bB).l) (((aZ (c8 c.ep) t.l k).getD k bB).a),iS c.ep (((aZ (c8 c.ep) t.l k).getD k bB).l) (((aZ (c8 c.ep) t.l k).getD k bB).a)⟩:Pa))) (r0 [(0,ad k 1)] [(11,i6 ((k+1:Nat):Int))] [11] ?_)
  exact le (k+1) Om Om Kr [0,1,2,3] (by rw[←Ti Om];kernel_rfl)
 obtain rfl:t.l.length=k:=by omega
 refine lx ?_
 exact eH ab.zero [1] [(0,0),(2,2),(3,3)] []
theorem Tm(g gt:Nat)(c:Tk)(hc:d7 c):aa dZ 164 #[pt g 0] [pk (aC g gt c)] [0] (λ_=>[pk (aC g gt (mZ c))]) (λ_=> .tuple #[]):=aa.pkZ Tryz.func164 λL hL=>by
 obtain⟨v,rfl⟩:=hL
 refine⟨[1,2],λ_=>[kV v (aZ (el c.er) c.abb c.abb.length),pk (ek gt (tp c.t c.ep))],?_,rfl,λE=>⟨rfl,rfl,⟨_,rfl⟩⟩⟩
 have htl:=hc.t.l
 have htr:=hc.t.r
 have htr1:=hc.t.r1
 have hn:=hc.n
 refine fG Tryz.func164 λw cs=>?_
 refine ra (λq1=>[(1,pt (B0 q1) 0)]) (λq1=>[ob (B0 q1) #[pt g 0] 120]) λq1=>r0 [(0,.l 3),(3,.l 0),(4,fC lP v c.abb 1)] [(7,v),(8,iN c.abb.length),(9,i6 0)] [] ?_
 refine lq (λk=>k≤c.abb.length) (λk=>[(9,iN k)]) (λk L=>L.set 1 (kV v (aZ (el c.er) c.abb k))) (λk=>c.abb.length-k) 0 Om Kr (by rw[F2];kernel_rfl) (λk hk3=>?_)
 have hml:=Zz (el c.er) c.abb k
 refine r0 [] [(10,.bool (decide ((k:Int)<(c.abb.length:Int))))] [] ?_
 refine cj (k:Int) (c.abb.length:Int) (λh5 dh5=>?_) λh5 dh5=>?_
 ·refine rr (λ_=>[(1,cU lP v (aZ (el c.er) c.abb k) 1 k),(2,qm lP v (aZ (el c.er) c.abb k) 1 k 0 2),(5,.s 4)]) (λq6=>[(3,pt (B3 q6) 0),(2,iN k)]) [] (λq6 L=>L++[ob (B3 q6) #[i6 ((((aZ (el c.er) c.abb k).getD k bA).l:Nat):Int),i6 ((((aZ (el c.er) c.abb k).getD k bA).a:Nat):Int)] 290]) λq6=>?_
  have hbk:fk c.er ((aZ (el c.er) c.abb k).getD k bA).l ((aZ (el c.er) c.abb k).getD k bA).a:=by rw[v9 Om];exact hc.b k Om
  refine rs [(0,.m (ld 3 (pt g 0))),(3,.m (ld 0 (v))),(5,.m (ls 4 ([i6 ((((aZ (el c.er) c.abb k).getD k bA).l:Nat):Int),i6 ((((aZ (el c.er) c.abb k).getD k bA).a:Nat):Int)]))),(6,.m (ld 3 (pt g 0))),(10,.m (ls 0 ([iN c.lr,iN c.er]))),(11,.c [] [] (FL c.lr c.er (((aZ (el c.er) c.abb k).getD k bA).l) (((aZ (el c.er) c.abb k).getD k bA).a) hc.r hbk)),(12,cU lP v (aZ (el c.er) c.abb k) 1 k),(13,sh lP v (aZ (el c.er) c.abb k) 1 k (⟨iR c.er (((aZ (el c.er) c.abb k).getD k bA).l) (((aZ (el c.er) c.abb k).getD k bA).a),iS c.er (((aZ (el c.er) c.abb k).getD k bA).l) (((aZ (el c.er) c.abb k).getD k bA).a)⟩:Bk))] 1 (kV v ((aZ (el c.er) c.abb k).set k (⟨iR c.er (((aZ (el c.er) c.abb k).getD k bA).l) (((aZ (el c.er) c.abb k).getD k bA).a),iS c.er (((aZ (el c.er) c.abb k).getD k bA).l) (((aZ (el c.er) c.abb k).getD k bA).a)⟩:Bk))) (r0 [(0,ad k 1)] [(9,i6 ((k+1:Nat):Int))] [9] ?_)
  exact le (k+1) Om Om Kr [0,1,2,3] (by rw[←Th Om];kernel_rfl)
 obtain rfl:c.abb.length=k:=by omega
 refine lx ?_
 refine rs [(0,.l 3),(3,.l 0),(5,.c [2,3,0] [2] (Tl gt c.t (B0 q1) g c hc hc.t v))] 2 ((pk (ek gt (tp c.t c.ep)))) ?_
 exact eH ab.zero [1,2] [(0,0)] []
theorem Tn(room:Nat)(h1:1≤room)(h2:room≤256):aa dZ 177 #[iN room,.func (.func 178) #[] #[]] [] [] (λE=>[ob (E.abd 0) #[.slice none 0 0,iN room,.func (.func 178) #[] #[]] 356]) (λE=> .tuple #[pt ((E.abd 0)) 0,i6 0]):=by
 refine fG Tryz.func177 λw cs=>?_
 refine r0 [] [(4,.pointer none),(5,i6 0)] [] (r0 [] [(11,.bool ((decide ((room:Int)<1))||(decide (256<(room:Int)))))] [] ?_)
 have h3:((decide ((room:Int)<1))||(decide (256<(room:Int))))=false:=by rw[oG];exact⟨bj Om,bj Om⟩
 exact cF ((decide ((room:Int)<1))||(decide (256<(room:Int)))) h3 (rr N0 (λq4=>[(4,pt (B3 q4) 0),(5,i6 0)]) [4,5] (λq4 L=>L++[ob (B3 q4) #[.slice none 0 0,iN room,.func (.func 178) #[] #[]] 356]) λq4=>lf (.l [(q4 3).abd 0] [] []) [0] [] [])
theorem To(room:Nat)(h1:1≤room)(h2:room≤256):aa dZ 177 #[iN room,.func (.func 178) #[] #[]] [] [] (λE=>[pk (ek (E.abd 0) ⟨[],room⟩)]) (λE=> .tuple #[pt (E.abd 0) 0,i6 0]):=(Tn room h1 h2).outs λE ds hs=>zZ ⟨_,rfl⟩ hs
theorem F5(lr er lp ep room heavy:Int):aa dZ 110 #[.agg #[i6 lr,i6 er,i6 lp,i6 ep,i6 room,i6 heavy]] [] [] N0 (λ_=> .bool (((((iv lr er&&iv lp ep)&&decide (1≤room))&&decide (room≤256))&&decide (1≤heavy))&&decide (heavy≤65536))):=by
 refine fG Tryz.func110 λw cs=>?_
 refine ra (λq1=>[(1,pt (B0 q1) 0),(2,.bool false)]) (λq1=>[ob (B0 q1) #[i6 lr,i6 er,i6 lp,i6 ep,i6 room,i6 heavy] 29]) λq1=>r0 [(1,.m (ls 0 ([i6 lr,i6 er]))),(2,.c [] [] (zX lr er)),(5,.m (ls 0 ([i6 lp,i6 ep]))),(6,.c [] [] (zX lp ep)),(10,.m (ld 0 (i6 room))),(15,.m (ld 0 (i6 room))),(20,.m (ld 0 (i6 heavy))),(25,.m (ld 0 (i6 heavy))),] [(2,.bool ((((((iv lr er)&&(iv lp ep))&&(decide (1≤room)))&&(decide (room≤256)))&&(decide (1≤heavy)))&&(decide (heavy≤65536))))] [2] ?_
 exact am (.bool ((((((iv lr er)&&(iv lp ep))&&(decide (1≤room)))&&(decide (room≤256)))&&(decide (1≤heavy)))&&(decide (heavy≤65536)))) ab.zero bh [] [] []
def pR(lr er lp ep room heavy rk:Nat):Tk:=⟨lr,er,lp,ep,room,heavy,jw rk bA,⟨[],room⟩⟩
theorem Tp(lr er lp ep room heavy rk:Nat)(hru:ji lr er)(hrp:ji lp ep)(h1:1≤room)(h2:room≤256)(h3:1≤heavy)(h4:heavy≤65536)(h5:1≤rk)(h6:rk≤8):aa dZ 138 #[.agg #[iN lr,iN er,iN lp,iN ep,iN room,iN heavy],iN rk] [] [] (λE=>[ob (E.abd 0) #[iN lr,iN er,iN lp,iN ep,iN room,iN heavy,(E.val 0),pt ((E.abd 1)) 0] 294,kV (E.val 0) (jw rk bA),pk (ek (E.abd 1) ⟨[],room⟩)]) (λE=> .tuple #[pt ((E.abd 0)) 0,i6 0]):=by
 refine fG Tryz.func138 λw cs=>?_
 refine ra (λq1=>[(2,pt (B0 q1) 0),(4,.pointer none),(5,i6 0)]) (λq1=>[ob (B0 q1) #[iN lr,iN er,iN lp,iN ep,iN room,iN heavy] 29]) λq1=>rF [(0,.l 0),(1,.c [] [] (aa.v ((F5 (lr:Int) (er:Int) (lp:Int) (ep:Int) (room:Int) (heavy:Int))) λ_=>ALca Value.bool (show(((((iv (lr:Int) (er:Int)&&iv (lp:Int) (ep:Int))&&decide (1≤(room:Int)))&&decide ((room:Int)≤256))&&decide (1≤(heavy:Int)))&&decide ((heavy:Int)≤65536))=true from(by rw[hru.r,hrp.r];simp only[kP,decide_eq_true_eq,true_and];omega))))] 8 (r0 [] [(12,.bool ((decide ((rk:Int)<1))||(decide (8<(rk:Int)))))] [] ?_)
 have h4:((decide ((rk:Int)<1))||(decide (8<(rk:Int))))=false:=by rw[oG];exact⟨bj Om,bj Om⟩
 exact cF ((decide ((rk:Int)<1))||(decide (8<(rk:Int)))) h4 (rr (λ_=>[(1,.l 0),(2,.c [] [1] (To room Om Om))]) (λq5=>[(6,pt ((B2 q5)) 0),(7,i6 0)]) [] (λq5 L=>L++[pk (ek (B2 q5) ⟨[],room⟩)]) λq5=>rF [] 26 (rr (λ_=>[(0,.l 0),(2,su lP 2 rk)]) (λq7=>[(4,pt (B5 q7) 0),(5,i6 0)]) [4,5] (λq7 L=>L++[kV (.slice (some ⟨(q7 2).abd 0,0,none⟩) rk rk) (jw rk bA),ob (B5 q7) #[iN lr,iN er,iN lp,iN ep,iN room,iN heavy,.slice (some ⟨(q7 2).abd 0,0,none⟩) rk rk,pt ((B2 q5)) 0] 294]) λq7=>lf (.l [(q7 5).abd 0,(B2 q5)] [] [.slice (some ⟨(q7 2).abd 0,0,none⟩) rk rk]) [3,2,1] [] []))
theorem Tq(lr er lp ep room heavy rk:Nat)(hru:ji lr er)(hrp:ji lp ep)(h1:1≤room)(h2:room≤256)(h3:1≤heavy)(h4:heavy≤65536)(h5:1≤rk)(h6:rk≤8):aa dZ 138 #[.agg #[iN lr,iN er,iN lp,iN ep,iN room,iN heavy],iN rk] [] [] (λE=>[pk (aC (E.abd 0) (E.abd 1) (pR lr er lp ep room heavy rk))]) (λE=> .tuple #[pt ((E.abd 0)) 0,i6 0]):=(Tp lr er lp ep room heavy rk hru hrp h1 h2 h3 h4 h5 h6).outs λE ds hs=>s5 ⟨_,rfl⟩ hs
def lQ(r s b m c way res:Int):Bool:=(((((jx r s b m c&&decide (0≤way))&&decide (way<4))&&decide (0≤res))&&decide (res≤64))&&decide (res<r*b*m))
theorem Tr(R S B M C:Nat)(hG:f9 R S B M C)(way res:Int):aa dZ 106 #[.agg #[iN R,iN S,iN B,iN M,iN C,i6 way,i6 res]] [] [] N0 (λ_=> .bool (lQ R S B M C way res)):=by
 refine fG Tryz.func106 λw cs=>?_
 refine ra (λq1=>[(1,pt (B0 q1) 0),(2,.bool false)]) (λq1=>[ob (B0 q1) #[iN R,iN S,iN B,iN M,iN C,i6 way,i6 res] 25]) λq1=>r0 [(1,.m (ls 0 ([iN R,iN S,iN B,iN M,iN C]))),(3,.m (ld 0 (i6 way))),(4,.c [] [] (zA (R:Int) (S:Int) (B:Int) (M:Int) (C:Int) way)),(7,.m (ld 0 (i6 res))),(12,.m (ld 0 (i6 res))),(17,.m (ld 0 (i6 res))),(19,.m (ls 0 ([iN R,iN S,iN B,iN M,iN C]))),(20,.c [] [] (mU R S B M C hG)),] [(2,.bool ((((((jx (R:Int) (S:Int) (B:Int) (M:Int) (C:Int))&&(decide (0≤way)))&&(decide (way<4)))&&(decide (0≤res)))&&(decide (res≤64)))&&(decide (res<(((R*B)*M:Nat):Int)))))] [2] ?_
 exact am (.bool ((((((jx (R:Int) (S:Int) (B:Int) (M:Int) (C:Int))&&(decide (0≤way)))&&(decide (way<4)))&&(decide (0≤res)))&&(decide (res≤64)))&&(decide (res<(((R*B)*M:Nat):Int))))) ab.zero (by unfold lQ;rw[jm,jm]) [] [] []
theorem Ts(r s b m c way res:Int)(hg:jx r s b m c=false):aa dZ 106 #[.agg #[i6 r,i6 s,i6 b,i6 m,i6 c,i6 way,i6 res]] [] [] N0 (λ_=> .bool (lQ r s b m c way res)):=by
 refine fG Tryz.func106 λw cs=>?_
 refine ra (λq1=>[(1,pt (B0 q1) 0),(2,.bool false)]) (λq1=>[ob (B0 q1) #[i6 r,i6 s,i6 b,i6 m,i6 c,i6 way,i6 res] 25]) λq1=>r0 [(1,.m (ls 0 ([i6 r,i6 s,i6 b,i6 m,i6 c]))),(3,.m (ld 0 (i6 way))),(4,.c [] [] (aa.v ((zA r s b m c way)) λ_=>ALca Value.bool (show(((jx r s b m c)&&(decide (0≤way)))&&(decide (way<4)))=false from(by rw[hg];rfl)))),(6,.d),(7,.d),(8,.d),(11,.d),(12,.d),(13,.d),(16,.d),(17,.d),(18,.d),(19,.d),(20,.d),(21,.d)] [(2,.bool false)] [2] ?_
 exact am (.bool false) ab.zero (by unfold lQ;rw[hg];rfl) [] [] []
theorem Tt(r s b m c way res:Int):aa dZ 106 #[.agg #[i6 r,i6 s,i6 b,i6 m,i6 c,i6 way,i6 res]] [] [] N0 (λ_=> .bool (lQ r s b m c way res)):=by
 cases hg:jx r s b m c with
 | false=>exact Ts r s b m c way res hg
 | true=>
  obtain⟨R,S,B,M,C,rfl,rfl,rfl,rfl,rfl,hG⟩:=EZ hg
  exact Tr R S B M C hG way res
def m0(r s b m c way res mode lr er lp ep room heavy log:Int):Bool:=((((lQ r s b m c way res&&((mode==1)||(mode==2)))&&(((((iv lr er&&iv lp ep)&&decide (1≤room))&&decide (room≤256))&&decide (1≤heavy))&&decide (heavy≤65536)))&&decide (1≤log))&&decide (log≤256))
theorem F6(r s b m c way res mode lr er lp ep room heavy log:Int)(back:Bool):aa dZ 79 #[.agg #[i6 r,i6 s,i6 b,i6 m,i6 c,i6 way,i6 res,i6 mode,i6 lr,i6 er,i6 lp,i6 ep,i6 room,i6 heavy,i6 log,.bool back]] [] [] N0 (λ_=> .bool (m0 r s b m c way res mode lr er lp ep room heavy log)):=by
 refine fG Tryz.func79 λw cs=>?_
 refine ra (λq1=>[(1,pt (B0 q1) 0),(2,.bool false)]) (λq1=>[ob (B0 q1) #[i6 r,i6 s,i6 b,i6 m,i6 c,i6 way,i6 res,i6 mode,i6 lr,i6 er,i6 lp,i6 ep,i6 room,i6 heavy,i6 log,.bool back] 31]) λq1=>r0 [(1,.m (ls 0 ([i6 r,i6 s,i6 b,i6 m,i6 c,i6 way,i6 res]))),(2,.c [] [] (Tt r s b m c way res)),(5,.m (ld 0 (i6 mode))),(6,.c [] [] (py mode)),(10,.m (ls 0 ([i6 lr,i6 er,i6 lp,i6 ep,i6 room,i6 heavy]))),(11,.c [] [] (F5 lr er lp ep room heavy)),(15,.m (ld 0 (i6 log))),(20,.m (ld 0 (i6 log))),] [(2,.bool (((((lQ r s b m c way res)&&((mode==1)||(mode==2)))&&(((((iv lr er&&iv lp ep)&&decide (1≤room))&&decide (room≤256))&&decide (1≤heavy))&&decide (heavy≤65536)))&&(decide (1≤log)))&&(decide (log≤256))))] [2] ?_
 exact am (.bool (((((lQ r s b m c way res)&&((mode==1)||(mode==2)))&&(((((iv lr er&&iv lp ep)&&decide (1≤room))&&decide (room≤256))&&decide (1≤heavy))&&decide (heavy≤65536)))&&(decide (1≤log)))&&(decide (log≤256)))) ab.zero bh [] [] []
structure Cf where
 R:Nat
 S:Nat
 B:Nat
 M:Nat
 C:Nat
 way:Nat
 res:Nat
 mode:Nat
 lr:Nat
 er:Nat
 lp:Nat
 ep:Nat
 room:Nat
 heavy:Nat
 log:Nat
 back:Bool
abbrev cA(c:Cf):Array Value:=#[i6 (c.R:Int),i6 (c.S:Int),i6 (c.B:Int),i6 (c.M:Int),i6 (c.C:Int),i6 (c.way:Int),i6 (c.res:Int),i6 (c.mode:Int),i6 (c.lr:Int),i6 (c.er:Int),i6 (c.lp:Int),i6 (c.ep:Int),i6 (c.room:Int),i6 (c.heavy:Int),i6 (c.log:Int),.bool c.back]
abbrev lA(c:Cf)(a b d t:Nat):Array Value:=#[i6 (c.R:Int),i6 (c.S:Int),i6 (c.B:Int),i6 (c.M:Int),i6 (c.C:Int),i6 (c.way:Int),i6 (c.res:Int),i6 (c.mode:Int),i6 (c.lr:Int),i6 (c.er:Int),i6 (c.lp:Int),i6 (c.ep:Int),i6 (c.room:Int),i6 (c.heavy:Int),i6 (c.log:Int),.bool c.back,pt a 0,pt b 0,pt d 0,i6 (t:Int)]
structure dd (c:Cf):Prop where
 ly:iP c.R c.S c.B c.M c.C c.way c.res
 mode:c.mode=1∨c.mode=2
 r:ji c.lr c.er
 p:ji c.lp c.ep
 m1:1≤c.room
 m2:c.room≤256
 h1:1≤c.heavy
 h2:c.heavy≤65536
 l1:1≤c.log
 l2:c.log≤256
theorem Tu{k:Nat}{w:World}(h:k<3):(Instr.index 228 (.agg #[i6 0,i6 0,i6 0]) (.int .i64 (k:Int))).run dZ w= .ok (i6 0) w:=by
 rcases k with _ | _ | _ | k
 ·kernel_rfl
 ·kernel_rfl
 ·kernel_rfl
 ·omega
theorem iP.v{R S B M C way res:Nat}(h:iP R S B M C way res):lQ R S B M C way res=true:=by
 have h1:=h.way;have h2:=h.r64;have h3:=h.rp
 unfold lQ
 rw[h.abc.ok]
 simp only[qz,kP,decide_eq_true_eq]
 rw[←jm,←jm]
 omega
theorem dd.v{c:Cf}(h:dd c):m0 c.R c.S c.B c.M c.C c.way c.res c.mode c.lr c.er c.lp c.ep c.room c.heavy c.log=true:=by
 have h1:=h.m1;have h2:=h.m2;have h3:=h.h1;have h4:=h.h2;have h5:=h.l1;have h6:=h.l2
 unfold m0
 rw[h.ly.v,h.r.r,h.p.r]
 simp only[qz,kP,qx,decide_eq_true_eq,beq_iff_eq]
 rcases h.mode with e | e<;>omega
theorem Tv{r s b m c way res:Int}(h:lQ r s b m c way res=true): ∃R S B M C w q:Nat,r=R∧s=S∧b=B∧m=M∧c=C∧way=w∧res=q∧iP R S B M C w q:=by
 unfold lQ at h
 simp only[kP,decide_eq_true_eq] at h
 obtain⟨⟨⟨⟨⟨hg,h1⟩,h2⟩,h3⟩,h4⟩,h5⟩:=h
 obtain⟨R,S,B,M,C,rfl,rfl,rfl,rfl,rfl,hG⟩:=EZ hg
 rw[←jm,←jm] at h5
 exact⟨R,S,B,M,C,way.toNat,res.toNat,rfl,rfl,rfl,rfl,rfl,by omega,by omega,hG,by omega,by omega,by omega⟩
theorem Tw{r s b m c way res mode lr er lp ep room heavy log:Int}(back:Bool)(h:m0 r s b m c way res mode lr er lp ep room heavy log=true): ∃q:Cf,r=q.R∧s=q.S∧b=q.B∧m=q.M∧c=q.C∧way=q.way∧res=q.res∧mode=q.mode∧lr=q.lr∧er=q.er∧lp=q.lp∧ep=q.ep∧room=q.room∧heavy=q.heavy∧log=q.log∧back=q.back∧dd q:=by
 unfold m0 at h
 simp only[kP,qx,decide_eq_true_eq,beq_iff_eq] at h
 obtain⟨⟨⟨⟨hl,hm⟩,⟨⟨⟨⟨⟨hr,hp⟩,h1⟩,h2⟩,h3⟩,h4⟩⟩,h5⟩,h6⟩:=h
 obtain⟨R,S,B,M,C,w,q,rfl,rfl,rfl,rfl,rfl,rfl,rfl,hly⟩:=Tv hl
 obtain⟨lr,er,rfl,rfl,hru⟩:=FG hr
 obtain⟨lp,ep,rfl,rfl,hrp⟩:=FG hp
 exact⟨⟨R,S,B,M,C,w,q,mode.toNat,lr,er,lp,ep,room.toNat,heavy.toNat,log.toNat,back⟩,rfl,rfl,rfl,rfl,rfl,rfl,rfl,by show mode=(mode.toNat:Int);omega,rfl,rfl,rfl,rfl,by show room=(room.toNat:Int);omega,by show heavy=(heavy.toNat:Int);omega,by show log=(log.toNat:Int);omega,rfl,hly,by show mode.toNat=1∨mode.toNat=2;omega,hru,hrp,by show 1≤room.toNat;omega,by show room.toNat≤256;omega,by show 1≤heavy.toNat;omega,by show heavy.toNat≤65536;omega,by show 1≤log.toNat;omega,by show log.toNat≤256;omega⟩
theorem z4(c:Cf)(h:dd c):aa dZ 79 #[.agg (cA c)] [] [] N0 (λ_=> .bool true):=by
 have h1:=F6 c.R c.S c.B c.M c.C c.way c.res c.mode c.lr c.er c.lp c.ep c.room c.heavy c.log c.back
 rwa [h.v] at h1
theorem Tx(c:Cf)(hcf:dd c):aa dZ 114 #[.agg (cA c)] [] [] (λE=>[ob (E.abd 0) #[iN c.R,iN c.S,iN c.B,iN c.M,iN c.C,iN c.way,iN c.res,iN c.mode,iN c.lr,iN c.er,iN c.lp,iN c.ep,iN c.room,iN c.heavy,iN c.log,.bool c.back,pt ((E.abd 1)) 0,pt ((E.abd 2)) 0,pt ((E.abd 3)) 0,i6 0] 122,pk (aq (E.abd 1) ((E.abd 4)) ((E.abd 5)) ⟨lO c.R c.S c.B c.M c.C c.way c.res,kz,[]⟩),pk (aC (E.abd 2) ((E.abd 6)) (pR c.lr c.er c.lp c.ep c.room c.heavy c.R)),pk (ay (E.abd 3) (pM c.log))]) (λE=> .tuple #[pt ((E.abd 0)) 0,i6 0]):=by
 have hly:=hcf.ly
 have hru:=hcf.r
 have hrp:=hcf.p
 have hm1:=hcf.m1
 have hm2:=hcf.m2
 have hh1:=hcf.h1
 have hh2:=hcf.h2
 have hl1:=hcf.l1
 have hl2:=hcf.l2
 have hr1:=hly.abc.bd.r1
 have hr8:=hly.abc.bd.r8
 refine fG Tryz.func114 λw cs=>?_
 refine ra (λq1=>[(1,pt (B0 q1) 0),(2,.pointer none),(3,i6 0)]) (λq1=>[ob (B0 q1) (cA c) 31]) λq1=>rF [(0,.l 0),(1,.c [] [] (z4 c hcf))] 10 (rr (λ_=>[(0,.l 0)]) (λq3=>[(4,pt (B2 q3) 0)]) [] (λq3 L=>L++[ob (B2 q3) #[iN c.R,iN c.S,iN c.B,iN c.M,iN c.C,iN c.way,iN c.res,iN c.mode,iN c.lr,iN c.er,iN c.lp,iN c.ep,iN c.room,iN c.heavy,iN c.log,.bool c.back,.pointer none,.pointer none,.pointer none,i6 0] 122]) λq3=>ra (λq4=>[(5,pt (B0 q4) 0)]) (λq4=>[ob (B0 q4) #[i6 0,i6 0,i6 0] 228]) λq4=>rr (λq5=>[(2,.m (ls 0 ([iN c.R,iN c.S,iN c.B,iN c.M,iN c.C,iN c.way,iN c.res]))),(3,.c [] [3] (RX c.R c.S c.B c.M c.C c.way c.res hly)),(9,.s 1),(11,.s 2)]) N0 [] (λq5 L=>L.set 1 (ob (B2 q3) #[iN c.R,iN c.S,iN c.B,iN c.M,iN c.C,iN c.way,iN c.res,iN c.mode,iN c.lr,iN c.er,iN c.lp,iN c.ep,iN c.room,iN c.heavy,iN c.log,.bool c.back,pt ((B3 q5)) 0,.pointer none,.pointer none,i6 0] 122)++[pk (aq (B3 q5) ((q5 3).abd 1) ((q5 3).abd 2) ⟨lO c.R c.S c.B c.M c.C c.way c.res,kz,[]⟩)]) λq5=>rr (λq6=>[(2,.m (ls 0 ([iN c.lr,iN c.er,iN c.lp,iN c.ep,iN c.room,iN c.heavy]))),(6,.m (ld 0 (iN c.R))),(7,.c [] [4] (Tq c.lr c.er c.lp c.ep c.room c.heavy c.R hru hrp Om Om Om Om Om Om)),(13,.s 1),(15,.s 2)]) N0 [] (λq6 L=>L.set 1 (ob (B2 q3) #[iN c.R,iN c.S,iN c.B,iN c.M,iN c.C,iN c.way,iN c.res,iN c.mode,iN c.lr,iN c.er,iN c.lp,iN c.ep,iN c.room,iN c.heavy,iN c.log,.bool c.back,pt ((B3 q5)) 0,pt ((B7 q6)) 0,.pointer none,i6 0] 122)++[pk (aC (B7 q6) ((q6 7).abd 1) (pR c.lr c.er c.lp c.ep c.room c.heavy c.R))]) λq6=>?_)
 refine rr (λq7=>[(2,.m (ld 0 (iN c.log))),(3,.c [] [5] (SG c.log Om Om)),(9,.s 1),(11,.s 2)]) N0 [] (λq7 L=>L.set 1 (ob (B2 q3) #[iN c.R,iN c.S,iN c.B,iN c.M,iN c.C,iN c.way,iN c.res,iN c.mode,iN c.lr,iN c.er,iN c.lp,iN c.ep,iN c.room,iN c.heavy,iN c.log,.bool c.back,pt ((B3 q5)) 0,pt ((B7 q6)) 0,pt ((B3 q7)) 0,i6 0] 122)++[pk (ay (B3 q7) (pM c.log))]) λq7=>r0 [(0,.l 2)] [(48,.agg #[i6 0,i6 0,i6 0]),(49,i6 0)] [] ?_
 refine lq (λk=>k≤3) (λk=>[(49,iN k)]) (λ_ L=>L) (λk=>3-k) 0 Om Kr Kr (λk hk9=>?_)
 refine r0 [] [(50,.bool (decide ((k:Int)<3)))] [] ?_
 refine cj (k:Int) 3 (λh11 dh11=>?_) λh11 dh11=>?_
 ·refine r0 [(0,.t (tv (Instr.index 228 (.agg #[i6 0,i6 0,i6 0]) (iN k)) (λ_=>Tu Om)))] [(7,i6 0)] [] ?_
  refine rF [] 53 (r0 [(0,ad k 1)] [(49,i6 ((k+1:Nat):Int))] [49] ?_)
  exact le (k+1) Om Om Kr [0,1,2,3,4,5] Kr
 obtain rfl:k=3:=by omega
 refine lx ?_
 exact r0 [] [(2,pt (B2 q3) 0),(3,i6 0)] [] (lf (.l [(q3 2).abd 0,(B3 q5),(B7 q6),(B3 q7),(q5 3).abd 1,(q5 3).abd 2,(q6 7).abd 1] [] []) [1,3,4,5] [] [])
theorem nT(gl gr gk gg:Nat)(c:Cf)(time:Nat)(g:Lg)(hg:gw g)(k i o:Nat):aa dZ 205 #[pt gl 0,iN k,iN i,iN o] [ob gl (lA c gr gk gg time) 122,pk (ay gg g)] [1] (λ_=>[pk (ay gg (bW g ⟨0,time,k,i,o⟩))]) (λ_=> .tuple #[]):=by
 refine fG Tryz.func205 λw cs=>?_
 refine rs [(3,.m (ld 0 (pt gg 0))),(7,.m (ld 0 (iN time))),(12,.c [1] [1] (SP gg g ⟨0,time,k,i,o⟩ hg))] 1 ((pk (ay gg (bW g ⟨0,time,k,i,o⟩)))) ?_
 exact eH ab.zero [1] [(0,0)] [] (hf:=by kernel_rfl)
theorem Ty(g gm gq:Nat)(r:Rp)(hr:aN r)(p:Nat)(hp:p<r.m.R*r.m.B*r.m.M):aa dZ 64 #[pt gm 0,iN p] [pk (aq g gm gq r)] [0] (λ_=>[pk (aq g gm gq r)]) (λ_=> .tuple #[i6 ((bD r.m p:Nat):Int),i6 0]):=(Fm gm r.m hr.m p hp).inW λL hL=>⟨1,by rw[hL];rfl,by rw[hL];rfl⟩
theorem Tz(g gm gq:Nat)(r:Rp)(hr:aN r)(p:Nat)(hp:p<r.m.R*r.m.B*r.m.M):aa dZ 86 #[pt gm 0,iN p] [pk (aq g gm gq r)] [0] (λ_=>[pk (aq g gm gq r)]) (λ_=> .bool (decide (p<r.m.R*r.m.B*r.m.M-r.m.res+r.m.aba)&& !r.m.aa4.getD p false)):=(QX gm r.m hr.m p hp).inW λL hL=>⟨1,by rw[hL];rfl,by rw[hL];rfl⟩
theorem Z7(g gm gq:Nat)(r:Rp)(hr:aN r)(p:Nat)(hp:p<r.m.R*r.m.B*r.m.M):aa dZ 25 #[pt gm 0,iN p] [pk (aq g gm gq r)] [0] (λ_=>[pk (aq g gm gq r)]) (λ_=> .bool (r.m.aa4.getD p false)):=(zE gm r.m hr.m p hp).inW λL hL=>⟨1,by rw[hL];rfl,by rw[hL];rfl⟩
theorem Z8(g gm gq:Nat)(r:Rp)(hr:aN r)(p:Nat)(hp:p<r.m.R):aa dZ 26 #[pt gm 0,iN p] [pk (aq g gm gq r)] [0] (λ_=>[pk (aq g gm gq r)]) (λ_=> .tuple #[i6 (kT r.m p),.bool (dM r.m p)]):=(Fk gm r.m hr.m p hp).inW λL hL=>⟨1,by rw[hL];rfl,by rw[hL];rfl⟩
theorem F7(g gm gq:Nat)(r:Rp)(hr:aN r):aa dZ 63 #[pt gm 0] [pk (aq g gm gq r)] [0] (λ_=>[pk (aq g gm gq r)]) (λ_=> .agg #[iN r.m.R,iN r.m.S,iN r.m.B,iN r.m.M,iN r.m.C,iN r.m.way,iN r.m.res]):=(jA gm r.m hr.m).inW λL hL=>⟨1,by rw[hL];rfl,by rw[hL];rfl⟩
theorem qR(gl gr gk gg gm gq:Nat)(c:Cf)(time:Nat)(r:Rp)(hr:aN r)(p:Nat)(hp:p<r.m.R*r.m.B*r.m.M):aa dZ 248 #[pt gl 0,iN p] [ob gl (lA c gr gk gg time) 122,pk (aq gr gm gq r)] [1] (λ_=>[pk (aq gr gm gq r)]) (λ_=>i6 ((bD r.m p*64:Nat):Int)):=by
 have hlb:=vP hr.m hp
 refine fG Tryz.func248 λw cs=>?_
 exact r0 [] [(4,i6 0)] [] (r0 [(3,.m (ld 0 (pt gr 0))),(4,.c [1] [1] (v4 gr gm gq r hr)),(6,.c [1] [1] (Ty gr gm gq r hr p hp)),] [(5,i6 ((bD r.m p:Nat):Int))] [] (r0 [(1,.t (tv (ar .shl 3 (.tmp 17) (.const (u6 6)) (i6 ((bD r.m p:Nat):Int)) (u6 6)) (λ_=>dU (b:=((bD r.m p*64:Nat):Int)) (gb 6 Dc Om Om) Om)))] [(4,i6 ((bD r.m p*64:Nat):Int))] [4] (lf ab.zero [1] [(0,0)] [])))
theorem TA(gl gr gk gg gm gq gt:Nat)(c:Cf)(time:Nat)(r:Rp)(hr:aN r)(k:Tk)(hk:d7 k)(g:Lg)(hg:gw g)(f t:Nat)(hf5:f<r.m.R*r.m.B*r.m.M)(ht5:t<r.m.R*r.m.B*r.m.M):aa dZ 213 #[pt gl 0,i6 1,.agg #[i6 3,iN f,iN t]] [ob gl (lA c gr gk gg time) 122,pk (aq gr gm gq r),pk (aC gk gt k),pk (ay gg g)] [1,2,3] (λ_=>[pk (aq gr gm gq r),pk (aC gk gt k),pk (ay gg (bW g ⟨0,time,3,(bD r.m f*64),(bD r.m t*64)⟩))]) (λ_=> .tuple #[]):=by
 have hnp:=hr.m.np
 have hrp:=hr.m.ly.rp
 refine fG Tryz.func213 λw cs=>?_
 refine ra (λq1=>[(5,pt (B0 q1) 0)]) (λq1=>[ob (B0 q1) #[i6 3,iN f,iN t] 349]) λq1=>r0 [(1,.l 4),(2,.t (tv (ar .shl 3 (.tmp 9) (.const (u6 20)) (iN f) (u6 20)) (λ_=>dU (b:=((f*1048576:Nat):Int)) (gb 20 Dc Om Om) Om))),(4,.l 4),(5,.t (tv (ar .shl 3 (.tmp 12) (.const (u6 20)) (iN t) (u6 20)) (λ_=>dU (b:=((t*1048576:Nat):Int)) (gb 20 Dc Om Om) Om)))] [(6,i6 ((f*1048576:Nat):Int)),(7,i6 ((t*1048576:Nat):Int))] [] (rT [] 15 (r0 [(2,.l 4),(3,.c [0,1] [1] (qR gl gr gk gg gm gq c time r hr f Om)),(6,.l 4),(7,.c [0,1] [1] (qR gl gr gk gg gm gq c time r hr t Om))] [(6,i6 ((bD r.m f*64:Nat):Int)),(7,i6 ((bD r.m t*64:Nat):Int))] [6,7] (rF [(1,.l 4)] 26 (rs [(2,.l 4),(5,.c [0,3] [3] (nT gl gr gk gg c time g hg 3 (bD r.m f*64) (bD r.m t*64)))] 3 ((pk (ay gg (bW g ⟨0,time,3,(bD r.m f*64),(bD r.m t*64)⟩)))) ?_))))
 refine rF [(1,.l 4),(4,.d),(5,.d)] 35 (rF [(1,.l 4)] 50 ?_)
 exact eH ab.zero [1,2,3] [(0,0)] []
theorem TB(gl gr gk gg gm gq gt:Nat)(c:Cf)(time:Nat)(r:Rp)(hr:aN r)(k:Tk)(hk:d7 k)(g:Lg)(hg:gw g)(f:Nat)(hf5:f<r.m.R*r.m.B*r.m.M):aa dZ 213 #[pt gl 0,i6 1,.agg #[i6 5,iN f,i6 0]] [ob gl (lA c gr gk gg time) 122,pk (aq gr gm gq r),pk (aC gk gt k),pk (ay gg g)] [1,2,3] (λ_=>[pk (aq gr gm gq r),pk (aC gk gt k),pk (ay gg (bW g ⟨0,time,5,(bD r.m f*64),0⟩))]) (λ_=> .tuple #[]):=by
 have hnp:=hr.m.np
 have hrp:=hr.m.ly.rp
 refine fG Tryz.func213 λw cs=>?_
 refine ra (λq1=>[(5,pt (B0 q1) 0)]) (λq1=>[ob (B0 q1) #[i6 5,iN f,i6 0] 349]) λq1=>r0 [(1,.l 4),(2,.t (tv (ar .shl 3 (.tmp 9) (.const (u6 20)) (iN f) (u6 20)) (λ_=>dU (b:=((f*1048576:Nat):Int)) (gb 20 Dc Om Om) Om))),(4,.l 4),(5,.t (tv (ar .shl 3 (.tmp 12) (.const (u6 20)) (i6 0) (u6 20)) (λ_=>dU (b:=((0:Nat):Int)) (gb 20 Dc Om Om) Om)))] [(6,i6 ((f*1048576:Nat):Int)),(7,i6 0)] [] (rT [] 15 (r0 [(2,.l 4),(3,.c [0,1] [1] (qR gl gr gk gg gm gq c time r hr f Om)),(6,.l 4),(7,.c [0,1] [1] (qR gl gr gk gg gm gq c time r hr 0 Om))] [(6,i6 ((bD r.m f*64:Nat):Int)),(7,i6 ((bD r.m 0*64:Nat):Int))] [6,7] (rT [(1,.l 4)] 26 (r0 [(1,.l 4)] [(7,i6 0)] [7] ?_))))
 refine rs [(2,.l 4),(5,.c [0,3] [3] (nT gl gr gk gg c time g hg 5 (bD r.m f*64) 0))] 3 ((pk (ay gg (bW g ⟨0,time,5,(bD r.m f*64),0⟩)))) (rF [(1,.l 4),(4,.d),(5,.d)] 35 (rF [(1,.l 4)] 50 ?_))
 exact eH ab.zero [1,2,3] [(0,0)] []
theorem TC(gl gr gk gg gm gq gt:Nat)(c:Cf)(time:Nat)(r:Rp)(hr:aN r)(k:Tk)(hk:d7 k)(g:Lg)(hg:gw g)(f t:Nat)(hf5:f<r.m.R*r.m.B*r.m.M)(ht5:t<r.m.R*r.m.B*r.m.M):aa dZ 213 #[pt gl 0,i6 1,.agg #[i6 6,iN f,iN t]] [ob gl (lA c gr gk gg time) 122,pk (aq gr gm gq r),pk (aC gk gt k),pk (ay gg g)] [1,2,3] (λ_=>[pk (aq gr gm gq r),pk (aC gk gt (qQ k f)),pk (ay gg (bW g ⟨0,time,6,(bD r.m f*64),(bD r.m t*64)⟩))]) (λ_=> .tuple #[]):=by
 have hnp:=hr.m.np
 have hrp:=hr.m.ly.rp
 refine fG Tryz.func213 λw cs=>?_
 refine ra (λq1=>[(5,pt (B0 q1) 0)]) (λq1=>[ob (B0 q1) #[i6 6,iN f,iN t] 349]) λq1=>r0 [(1,.l 4),(2,.t (tv (ar .shl 3 (.tmp 9) (.const (u6 20)) (iN f) (u6 20)) (λ_=>dU (b:=((f*1048576:Nat):Int)) (gb 20 Dc Om Om) Om))),(4,.l 4),(5,.t (tv (ar .shl 3 (.tmp 12) (.const (u6 20)) (iN t) (u6 20)) (λ_=>dU (b:=((t*1048576:Nat):Int)) (gb 20 Dc Om Om) Om)))] [(6,i6 ((f*1048576:Nat):Int)),(7,i6 ((t*1048576:Nat):Int))] [] (rT [] 15 (r0 [(2,.l 4),(3,.c [0,1] [1] (qR gl gr gk gg gm gq c time r hr f Om)),(6,.l 4),(7,.c [0,1] [1] (qR gl gr gk gg gm gq c time r hr t Om))] [(6,i6 ((bD r.m f*64:Nat):Int)),(7,i6 ((bD r.m t*64:Nat):Int))] [6,7] (rF [(1,.l 4)] 26 (rs [(2,.l 4),(5,.c [0,3] [3] (nT gl gr gk gg c time g hg 6 (bD r.m f*64) (bD r.m t*64)))] 3 ((pk (ay gg (bW g ⟨0,time,6,(bD r.m f*64),(bD r.m t*64)⟩)))) ?_))))
 refine rT [(1,.l 4)] 35 (rs [(3,.l 0),(5,.l 4),(6,.c [2] [2] (Tf gk gt k hk f))] 2 ((pk (aC gk gt (qQ k f)))) ?_)
 exact eH ab.zero [1,2,3] [(0,0)] []
theorem TE(gl gr gk gg gm gq gt:Nat)(c:Cf)(time:Nat)(r:Rp)(hr:aN r)(k:Tk)(hk:d7 k)(g:Lg)(hg:gw g)(f t:Nat)(hf5:f<8)(ht5:t<8):aa dZ 213 #[pt gl 0,i6 2,.agg #[i6 4,iN f,iN t]] [ob gl (lA c gr gk gg time) 122,pk (aq gr gm gq r),pk (aC gk gt k),pk (ay gg g)] [1,2,3] (λ_=>[pk (aq gr gm gq r),pk (aC gk gt k),pk (ay gg (bW g ⟨0,time,4,(f*1048576),(t*1048576)⟩))]) (λ_=> .tuple #[]):=by
 have hnp:=hr.m.np
 have hrp:=hr.m.ly.rp
 refine fG Tryz.func213 λw cs=>?_
 refine ra (λq1=>[(5,pt (B0 q1) 0)]) (λq1=>[ob (B0 q1) #[i6 4,iN f,iN t] 349]) λq1=>r0 [(1,.l 4),(2,.t (tv (ar .shl 3 (.tmp 9) (.const (u6 20)) (iN f) (u6 20)) (λ_=>dU (b:=((f*1048576:Nat):Int)) (gb 20 Dc Om Om) Om))),(4,.l 4),(5,.t (tv (ar .shl 3 (.tmp 12) (.const (u6 20)) (iN t) (u6 20)) (λ_=>dU (b:=((t*1048576:Nat):Int)) (gb 20 Dc Om Om) Om)))] [(6,i6 ((f*1048576:Nat):Int)),(7,i6 ((t*1048576:Nat):Int))] [] (rF [] 15 (rF [(1,.l 4)] 26 (rs [(2,.l 4),(5,.c [0,3] [3] (nT gl gr gk gg c time g hg 4 (f*1048576) (t*1048576)))] 3 ((pk (ay gg (bW g ⟨0,time,4,(f*1048576),(t*1048576)⟩)))) (rF [(1,.l 4),(4,.d),(5,.d)] 35 ?_))))
 refine rF [(1,.l 4)] 50 ?_
 exact eH ab.zero [1,2,3] [(0,0)] []
theorem TF(gl gr gk gg gm gq gt:Nat)(c:Cf)(time:Nat)(r:Rp)(hr:aN r)(k:Tk)(hk:d7 k)(g:Lg)(hg:gw g)(f:Nat)(hf5:f<8):aa dZ 213 #[pt gl 0,i6 2,.agg #[i6 5,iN f,i6 1]] [ob gl (lA c gr gk gg time) 122,pk (aq gr gm gq r),pk (aC gk gt k),pk (ay gg g)] [1,2,3] (λ_=>[pk (aq gr gm gq r),pk (aC gk gt k),pk (ay gg (bW g ⟨0,time,5,(f*1048576),1⟩))]) (λ_=> .tuple #[]):=by
 have hnp:=hr.m.np
 have hrp:=hr.m.ly.rp
 refine fG Tryz.func213 λw cs=>?_
 refine ra (λq1=>[(5,pt (B0 q1) 0)]) (λq1=>[ob (B0 q1) #[i6 5,iN f,i6 1] 349]) λq1=>r0 [(1,.l 4),(2,.t (tv (ar .shl 3 (.tmp 9) (.const (u6 20)) (iN f) (u6 20)) (λ_=>dU (b:=((f*1048576:Nat):Int)) (gb 20 Dc Om Om) Om))),(4,.l 4),(5,.t (tv (ar .shl 3 (.tmp 12) (.const (u6 20)) (i6 1) (u6 20)) (λ_=>dU (b:=((1048576:Nat):Int)) (gb 20 Dc Om Om) Om)))] [(6,i6 ((f*1048576:Nat):Int)),(7,i6 1048576)] [] (rF [] 15 (rT [(1,.l 4)] 26 (r0 [(1,.l 4)] [(7,i6 1)] [7] (rs [(2,.l 4),(5,.c [0,3] [3] (nT gl gr gk gg c time g hg 5 (f*1048576) 1))] 3 ((pk (ay gg (bW g ⟨0,time,5,(f*1048576),1⟩)))) ?_))))
 refine rF [(1,.l 4),(4,.d),(5,.d)] 35 (rF [(1,.l 4)] 50 ?_)
 exact eH ab.zero [1,2,3] [(0,0)] []
theorem TG(gl gr gk gg gm gq gt:Nat)(c:Cf)(time:Nat)(r:Rp)(hr:aN r)(k:Tk)(hk:d7 k)(g:Lg)(hg:gw g)(f t:Nat)(hf5:f<8)(ht5:t<8)(hf6:f<k.abb.length):aa dZ 213 #[pt gl 0,i6 2,.agg #[i6 6,iN f,iN t]] [ob gl (lA c gr gk gg time) 122,pk (aq gr gm gq r),pk (aC gk gt k),pk (ay gg g)] [1,2,3] (λ_=>[pk (aq gr gm gq r),pk (aC gk gt (pQ k f)),pk (ay gg (bW g ⟨0,time,6,(f*1048576),(t*1048576)⟩))]) (λ_=> .tuple #[]):=by
 have hnp:=hr.m.np
 have hrp:=hr.m.ly.rp
 refine fG Tryz.func213 λw cs=>?_
 refine ra (λq1=>[(5,pt (B0 q1) 0)]) (λq1=>[ob (B0 q1) #[i6 6,iN f,iN t] 349]) λq1=>r0 [(1,.l 4),(2,.t (tv (ar .shl 3 (.tmp 9) (.const (u6 20)) (iN f) (u6 20)) (λ_=>dU (b:=((f*1048576:Nat):Int)) (gb 20 Dc Om Om) Om))),(4,.l 4),(5,.t (tv (ar .shl 3 (.tmp 12) (.const (u6 20)) (iN t) (u6 20)) (λ_=>dU (b:=((t*1048576:Nat):Int)) (gb 20 Dc Om Om) Om)))] [(6,i6 ((f*1048576:Nat):Int)),(7,i6 ((t*1048576:Nat):Int))] [] (rF [] 15 (rF [(1,.l 4)] 26 (rs [(2,.l 4),(5,.c [0,3] [3] (nT gl gr gk gg c time g hg 6 (f*1048576) (t*1048576)))] 3 ((pk (ay gg (bW g ⟨0,time,6,(f*1048576),(t*1048576)⟩)))) (rF [(1,.l 4)] 35 ?_))))
 refine rT [(1,.l 4)] 50 (rs [(3,.l 0),(5,.l 4),(6,.c [2] [2] (Tg gk gt k hk f Om))] 2 ((pk (aC gk gt (pQ k f)))) ?_)
 exact eH ab.zero [1,2,3] [(0,0)] []
theorem TI(m:Nat)(hm:m<18446744073709551616):aa dZ 131 #[u6 (m:Int)] [] [] N0 (λ_=> .bool (decide (pc m=64))):=by
 refine fG Tryz.func131 λw cs=>?_
 refine r0 [] [(2,.bool false)] [] (r0 [(1,.c [] [] (sy m Om))] [(2,.bool ((((pc m):Nat):Int)==64))] [2] ?_)
 exact am (.bool ((((pc m):Nat):Int)==64)) ab.zero (by exact ALca Value.bool (mv (pc m) 64)) [] [] []
def fl(x:UInt8)(k:Nat):List UInt8:=jw k x++jw (64-k) 0
theorem TJ{x:UInt8}{k:Nat}(h:k≤64):(fl x k).length=64:=by unfold fl;rw[ir,ka,ka];omega
theorem TK{x:UInt8}{k:Nat}(h:k<64):(fl x k).set k x=fl x (k+1):=by
 unfold fl
 rw[List.set_append_right _ _ (by rw[ka];exact nN _),ka,Nat.sub_self,show 64-k=(64-(k+1))+1 by omega,List.replicate_succ,List.replicate_succ',List.append_assoc]
 rfl
theorem TL(x:UInt8):aa dZ 46 #[u1 (x.toNat:Int)] [] [] N0 (λ_=> .agg (rB 64 (fl x 64)).toArray):=by
 refine fG Tryz.func46 λw cs=>?_
 refine ra (λq1=>[(2,pt (B0 q1) 0)]) (λq1=>[ob (B0 q1) (rB 64 z6).toArray 43]) λq1=>ra (λq2=>[(3,pt (B0 q2) 0)]) (λq2=>[ob (B0 q2) (rB 64 z6).toArray 43]) λq2=>r0 [] [(5,i6 0)] [] ?_
 refine lq (λk=>k≤64) (λk=>[(5,iN k)]) (λk L=>L.set 1 (ob (B0 q2) (rB 64 (fl x k)).toArray 43)) (λk=>64-k) 0 Om Kr (by rw[show fl x 0=jw 64 0 from rfl];kernel_rfl) (λk hk4=>?_)
 have hfl:=TJ (x:=x) (k:=k) Om
 refine r0 [] [(6,.bool (decide ((k:Int)<64)))] [] ?_
 refine cj (k:Int) 64 (λh6 dh6=>?_) λh6 dh6=>?_
 ·refine r0 [] [(4,iN k)] [] ?_
  refine rs [(2,iA 43 .i64 (B0 q2) 0 64 1 k),(3,wD 1 (B0 q2) k 43 (u1 (x.toNat:Int)) (rB 64 (fl x k)) (rB 64 ((fl x k).set k x)) (kg Om) (mJ (show(fl x k).length=64 by(simp only[LL,hfl];done))))] 1 (ob (B0 q2) (rB 64 ((fl x k).set k x)).toArray 43) (r0 [(0,ad k 1)] [(5,i6 ((k+1:Nat):Int))] [5] ?_)
  exact le (k+1) Om Om Kr [0,1] (by rw[←TK Om];kernel_rfl)
 obtain rfl:k=64:=by omega
 refine lx ?_
 exact rs [(0,.l 1),(1,.s 0)] 0 (ob (B0 q1) (rB 64 (fl x 64)).toArray 43) (lf ab.zero [] [] [0])
theorem F8(v:Value)(xs:List UInt8)(hx:xs.length=64):aa dZ 130 #[v] [.p (aK eB v xs)] [] N0 (λ_=> .tuple #[.agg (rB 64 xs).toArray,i6 0]):=by
 refine fO Tryz.func130 0 rfl λbq0 hq0=>?_
 refine fG Tryz.func130 λw cs=>?_
 exact ra (λq1=>[(2,pt (B0 q1) 0),(3,i6 0)]) (λq1=>[ob (B0 q1) (rB 64 z6).toArray 43]) λq1=>rF [(1,eR hq0.1 0),(2,.t (tk (show Value.bool ((xs.length:Int) != 64)= .bool false from ALca Value.bool (by rw[hx];rfl))))] 6 (rr (λ_=>[(1,.m (CP 0 (.c bq0) 64 (cP hq0.1) Dc Om)),(2,.m (CQ 0 (.c bq0) 64 (rB 64 xs) (cP hq0.1) (lw hx).symm Om (CR (λ_=>rfl) hx))),(3,.s 1)]) (λ_=>[(3,i6 0)]) [3] (λ_ L=>L.set 1 (ob (B0 q1) (rB 64 xs).toArray 43)) λq3=>lf ab.zero [] [(0,0)] [1])
def jD(l o:List UInt8)(is:List Nat):List UInt8:=is.foldl (λl i=>l.set i (o.getD i 0)) l
def gH(l o:List UInt8)(m:Nat):List UInt8:=jD l o (bk m)
theorem wa(o:List UInt8): ∀(is:List Nat) (l:List UInt8),(jD l o is).length=l.length
 | [],_=>rfl
 | i::is,l=>by
  show(jD (l.set i (o.getD i 0)) o is).length=_
  rw[wa o is,jh]
theorem TM{l o:List UInt8}{is:List Nat}{k:Nat}(h:k<is.length):(jD l o (is.take k)).set (is.getD k 0) (o.getD (is.getD k 0) 0)=jD l o (is.take (k+1)):=by
 unfold jD
 rw[pD,eF h,p4,jg,eF h]
 rfl
theorem TN(l y:List UInt8)(m:Nat)(hl:l.length=64)(hy:y.length=64)(hm:m<18446744073709551616):aa dZ 94 #[.agg (rB 64 l).toArray,.agg (rB 64 y).toArray,u6 (m:Int)] [] [] N0 (λ_=> .agg (rB 64 (jD l y ((bk m).take ((bk m).length)))).toArray):=by
 refine fG Tryz.func94 λw cs=>?_
 refine ra (λq1=>[(3,pt (B0 q1) 0),(4,pt (B1 q1) 0),(6,pt (B2 q1) 0)]) (λq1=>[ob (B0 q1) (rB 64 l).toArray 43,ob (B1 q1) (rB 64 y).toArray 43,ob (B2 q1) (rB 64 z6).toArray 43]) λq1=>rr (λ_=>[(1,.c [] [3] (CX m))]) (λq2=>[(9,.func (.func 172) #[] #[pt ((B1 q2)) 0])]) [] (λq2 L=>L++[ob (B1 q2) #[u6 (m:Int)] 44]) λq2=>?_
 refine CA (encs:=λ(i:Nat)=>#[i6 ((i:Nat):Int)]) (xs:=bk m) (XO:=[((B1 q2),.cells #[u6 (m:Int)] 44 (0,0))]) (KO:=[]) (CW (B1 q2) m Om) (enters_of Tryz.func172 Kr rfl) (λk=>k≤(bk m).length) (λk L=>L.set 0 (ob (B0 q1) (rB 64 (jD l y ((bk m).take k))).toArray 43)) [ob (B0 q1) (rB 64 l).toArray 43,ob (B1 q1) (rB 64 y).toArray 43,ob (B2 q1) (rB 64 z6).toArray 43] [0,1,2,3] [3] [] Om (by rw[show jD l y ((bk m).take 0)=l by rw[List.take_zero];rfl];kernel_rfl) (λlR k xE R1 W1 hxE hk4=>?_) (λD3 hk4=>?_)
 ·obtain⟨hkb5,rfl⟩:=rP 0 hxE
  have hml:=(wa y ((bk m).take k) l).trans hl
  have hol:=DV hkb5
  refine r0 [] [(7,i6 (((bk m).getD k 0:Nat):Int))] [] ?_
  refine ag [] (λR2 W2=>?_)
  refine rs [(2,iA 43 .i64 (B1 q1) 0 64 1 ((bk m).getD k 0)),(3,rD 1 (B1 q1) ((bk m).getD k 0) 43 (rB 64 y) (ol Om)),(4,iA 43 .i64 (B0 q1) 0 64 1 ((bk m).getD k 0)),(5,wD 0 (B0 q1) ((bk m).getD k 0) 43 (u1 ((y.getD ((bk m).getD k 0) 0).toNat:Int)) (rB 64 (jD l y ((bk m).take k))) (rB 64 ((jD l y ((bk m).take k)).set ((bk m).getD k 0) (y.getD ((bk m).getD k 0) 0))) (kg Om) (mJ (show(jD l y ((bk m).take k)).length=64 by(simp only[LL,hl,hy,wa,hl,hy];done))))] 0 (ob (B0 q1) (rB 64 ((jD l y ((bk m).take k)).set ((bk m).getD k 0) (y.getD ((bk m).getD k 0) 0))).toArray 43) ?_
  exact ne _ ⟨Om,rfl⟩ [0,1,2] (by rw[←TM Om];kernel_rfl)
 exact rs [(0,.l 0),(1,.s 2)] 2 (ob (B2 q1) (rB 64 (jD l y ((bk m).take ((bk m).length)))).toArray 43) (lf ab.zero [] [] [2])
theorem oL{α:Type}{p:α→Prop}{l:List α}(d:α):(∀i,i<l.length→p (l.getD i d))↔∀x∈l,p x:=by
 constructor
 ·intro h x hx
  obtain⟨i,hi,rfl⟩:=List.getElem_of_mem hx
  have:=h i hi
  rwa [jg,eF hi] at this
 ·intro h i hi
  rw[jg,eF hi]
  exact h _ (List.getElem_mem hi)
theorem F9{α:Type}{l:List α}{i:Nat}(h:i<l.length):(l.eraseIdx i).length=l.length-1:=by rw[po,ALifp h]
theorem m3(g:Lg)(x:Re):(bW g x).next=g.next+1:=by
 unfold bW
 split
 ·split<;>rfl
 ·rfl
theorem z5(g:Lg)(x:Re):(bW g x).room=g.room:=by
 unfold bW
 split
 ·split<;>rfl
 ·rfl
theorem gw.add{g:Lg}(h:gw g)(x:Re)(hn:g.next+1≤1000000000):gw (bW g x):=by
 refine⟨?_,by rw[z5];exact h.r1,by rw[z5];exact h.r,by rw[m3];exact hn⟩
 rw[z5]
 have h1:=h.l
 have h2:=pL c7 g.l
 unfold bW
 split
 ·rename_i e
  split
  ·exact h.l
  ·rename_i e2
   have e3:aY c7 g.l<g.l.length:=by omega
   show(g.l.eraseIdx (aY c7 g.l)++[qP x g.next]).length≤g.room
   rw[ir,F9 e3]
   show g.l.length-1+1≤g.room
   omega
 ·show(g.l++[qP x g.next]).length≤g.room
  rw[ir]
  show g.l.length+1≤g.room
  omega
theorem gw.clear{g:Lg}(h:gw g):gw (nS g):=⟨na _,h.r1,h.r,h.n⟩
theorem Ga{α:Type}{l:List α}{i:Nat}{x:α}(h:x∈l.eraseIdx i):x∈l:=List.mem_of_mem_eraseIdx h
section
variable {ev:Nat} {t:Tb}
theorem iW.mk'{t':Tb}(h:iW ev t)(hr:t'.room=t.room)(hl:t'.l.length≤t.room)(hb: ∀x∈t'.l,fk ev x.l x.a):iW ev t':=⟨by rw[hr];exact hl,by rw[hr];exact h.r1,by rw[hr];exact h.r,(oL (p:=λx:Pa=>fk ev x.l x.a) bB).2 hb⟩
theorem iW.mem(h:iW ev t): ∀x∈t.l,fk ev x.l x.a:=(oL (p:=λx:Pa=>fk ev x.l x.a) bB).1 h.b
theorem iW.put(h:iW ev t){k l a:Nat}(hb:fk ev l a):iW ev (pO t k l a):=by
 have h1:=h.l
 have h2:=h.r1
 unfold pO
 split
 ·split
  ·rename_i e
   refine h.mk' rfl ?_ λx hx=>?_
   ·show(t.l.eraseIdx (ez t.l t.l.length).1++[(⟨k,l,a⟩:Pa)]).length≤t.room
    rw[ir,F9 (z0 t.l t.l.length Om)]
    show t.l.length-1+1≤t.room
    omega
   ·rcases List.mem_append.1 hx with hx | hx
    ·exact h.mem x (Ga hx)
    ·rw[List.mem_singleton.1 hx];exact hb
  ·rename_i e
   refine h.mk' rfl ?_ λx hx=>?_
   ·show(t.l++[(⟨k,l,a⟩:Pa)]).length≤t.room
    rw[ir]
    show t.l.length+1≤t.room
    omega
   ·rcases List.mem_append.1 hx with hx | hx
    ·exact h.mem x hx
    ·rw[List.mem_singleton.1 hx];exact hb
 ·refine h.mk' rfl ?_ λx hx=>?_
  ·show(t.l.set _ _).length≤t.room
   rw[jh];exact h.l
  ·rcases n7 hx with hx | rfl
   ·exact h.mem x hx
   ·exact hb
theorem iW.drop(h:iW ev t)(k:Nat):iW ev (pP t k):=by
 unfold pP
 split
 ·exact h
 ·refine h.mk' rfl ?_ λx hx=>h.mem x (Ga hx)
  show(t.l.eraseIdx _).length≤t.room
  rw[po]
  have:=h.l
  split<;>omega
theorem iW.tick(h:iW ev t):iW ev (tp t ev):=by
 refine h.mk' rfl ?_ λx hx=>?_
 ·show(aZ (c8 ev) t.l t.l.length).length≤t.room
  rw[Zz];exact h.l
 ·have hx:x∈aZ (c8 ev) t.l t.l.length:=hx
  rw[F3] at hx
  obtain⟨y,hy,rfl⟩:=List.mem_map.1 hx
  exact FI (h.mem y hy)
end
section
variable {k:Tk}
theorem d7.rk(h:d7 k): ∀x∈k.abb,fk k.er x.l x.a:=(oL (p:=λx:Bk=>fk k.er x.l x.a) bA).1 h.b
theorem d7.set(h:d7 k)(r:Nat){b:Bk}(hb:fk k.er b.l b.a): ∀i,i<(k.abb.set r b).length→fk k.er ((k.abb.set r b).getD i bA).l ((k.abb.set r b).getD i bA).a:=
 (oL (p:=λx:Bk=>fk k.er x.l x.a) bA).2 λx hx=>by
  rcases n7 hx with hx | rfl
  ·exact h.rk x hx
  ·exact hb
theorem d7.note(h:d7 k){r:Nat}(p n:Nat)(hr:r<k.abb.length):d7 (fR k r p n):=
 ⟨h.r,h.p,h.h1,h.h2,by show(k.abb.set r _).length≤8;rw[jh];exact h.n,h.set r (b:=⟨b8 (k.abb.getD r bA).l n,(k.abb.getD r bA).a⟩) (FH (h.b r hr)),h.t.put (FH (h.t.get h.p.e1 p))⟩
theorem d7.reset(h:d7 k)(r:Nat):d7 (pQ k r):=
 ⟨h.r,h.p,h.h1,h.h2,by show(k.abb.set r _).length≤8;rw[jh];exact h.n,h.set r (b:=⟨0,0⟩) ⟨na _,h.r.e1⟩,h.t⟩
theorem d7.drop(h:d7 k)(p:Nat):d7 (qQ k p):=⟨h.r,h.p,h.h1,h.h2,h.n,h.b,h.t.drop p⟩
theorem d7.tick(h:d7 k):d7 (mZ k):=by
 refine⟨h.r,h.p,h.h1,h.h2,?_,(oL (p:=λx:Bk=>fk k.er x.l x.a) bA).2 λx hx=>?_,h.t.tick⟩
 ·show(aZ (el k.er) k.abb k.abb.length).length≤8
  rw[Zz];exact h.n
 ·have hx:x∈aZ (el k.er) k.abb k.abb.length:=hx
  rw[F3] at hx
  obtain⟨y,hy,rfl⟩:=List.mem_map.1 hx
  exact FI (h.rk y hy)
theorem TO(k:Tk)(r p n:Nat):(fR k r p n).abb.length=k.abb.length:=jh
theorem TP(k:Tk)(r:Nat):(pQ k r).abb.length=k.abb.length:=jh
theorem TQ(k:Tk):(mZ k).abb.length=k.abb.length:=Zz ..
end
def gx(of:Nat)(v:Ev):Nat:=if v.k=3 then 1 else if v.k=4 then 2 else if v.k=5 then 1+v.t else of
def gQ(of:Nat)(k:Tk)(v:Ev):Tk:=if v.k=6 then(if of=1 then qQ k v.f else pQ k v.f) else k
def oM(m:Mp)(of x:Nat):Nat:=if of=1 then bD m x*64 else x*1048576
def jj(m:Mp)(of time:Nat)(v:Ev):Re:=⟨0,time,v.k,oM m of v.f,if v.k=5 then v.t else oM m of v.t⟩
structure jk (np n of:Nat) (v:Ev):Prop where
 k:(of=1∧v.f<np∧(v.k=3∨v.k=6)∧v.t<np)∨(of=1∧v.f<np∧v.k=5∧v.t=0)∨(of=2∧v.f<n∧(v.k=4∨v.k=6)∧v.t<8)∨(of=2∧v.f<n∧v.k=5∧v.t=1)
theorem TR(of:Nat)(k:Tk)(v:Ev):(gQ of k v).abb.length=k.abb.length:=by
 unfold gQ
 split
 ·split
  ·rfl
  ·exact TP _ _
 ·rfl
theorem TT{k:Tk}(h:d7 k)(of:Nat)(v:Ev):d7 (gQ of k v):=by
 unfold gQ
 split
 ·split
  ·exact h.drop _
  ·exact h.reset _
 ·exact h
def fw(of:Nat)(k:Tk)(l:List Ev):Tk:=l.foldl (λk v=>gQ (gx of v) k v) k
def eV(m:Mp)(of time:Nat)(g:Lg)(l:List Ev):Lg:=l.foldl (λg v=>bW g (jj m (gx of v) time v)) g
theorem z7(of:Nat): ∀(l:List Ev) {k:Tk},d7 k→d7 (fw of k l)
 | [],_,h=>h
 | v::l,_,h=>z7 of l (TT h (gx of v) v)
theorem z8(of:Nat): ∀(l:List Ev) (k:Tk),(fw of k l).abb.length=k.abb.length
 | [],_=>rfl
 | v::l,k=>(z8 of l (gQ (gx of v) k v)).trans (TR _ k v)
theorem wb(m:Mp)(of time:Nat): ∀(l:List Ev) (g:Lg),(eV m of time g l).next=g.next+l.length
 | [],_=>rfl
 | v::l,g=>(wb m of time l (bW g (jj m (gx of v) time v))).trans (by rw[m3,p6];omega)
theorem z9(m:Mp)(of time:Nat): ∀(l:List Ev) {g:Lg},gw g→g.next+l.length≤1000000000→gw (eV m of time g l)
 | [],_,h,_=>h
 | v::l,g,h,hn=>by
  rw[p6] at hn
  exact z9 m of time l (h.add _ Om) (by rw[m3];omega)
theorem Aa{α β:Type}{f:β→α→β}{b:β}{l:List α}{i:Nat}{d:α}(h:i<l.length):(l.take (i+1)).foldl f b=f ((l.take i).foldl f b) (l.getD i d):=by
 rw[pD,eF h,p4,jg,eF h];rfl
theorem TU{of:Nat}{k:Tk}{l:List Ev}{i:Nat}(h:i<l.length):fw of k (l.take (i+1))=gQ (gx of (l.getD i cV)) (fw of k (l.take i)) (l.getD i cV):=Aa h
theorem TV{m:Mp}{of time:Nat}{g:Lg}{l:List Ev}{i:Nat}(h:i<l.length):eV m of time g (l.take (i+1))=bW (eV m of time g (l.take i)) (jj m (gx of (l.getD i cV)) time (l.getD i cV)):=Aa h
structure eQ (m m':Mp):Prop where
 R:m'.R=m.R
 S:m'.S=m.S
 B:m'.B=m.B
 M:m'.M=m.M
 C:m'.C=m.C
 way:m'.way=m.way
 res:m'.res=m.res
theorem eQ.rfl'(m:Mp):eQ m m:=⟨rfl,rfl,rfl,rfl,rfl,rfl,rfl⟩
theorem eQ.tr{a b c:Mp}(h:eQ a b)(g:eQ b c):eQ a c:=⟨g.R.trans h.R,g.S.trans h.S,g.B.trans h.B,g.M.trans h.M,g.C.trans h.C,g.way.trans h.way,g.res.trans h.res⟩
theorem Gb(r:Rp)(a:Ak):eQ r.m (dn r a).m:=by
 unfold dn
 cases a.k==1<;>cases dD r.m<;>cases eh r.m<;>exact⟨rfl,rfl,rfl,rfl,rfl,rfl,rfl⟩
theorem oN(r:Rp)(a:Ak):eQ r.m (bp r a).m:=by
 unfold bp
 cases dh r a
 ·cases r.j.aa2==0
  ·exact eQ.rfl' _
  ·exact Gb r a
 ·exact eQ.rfl' _
theorem Ab(r:Rp):eQ r.m (hZ r).m:=by
 unfold hZ
 cases r.j.aa2==1<;>exact⟨rfl,rfl,rfl,rfl,rfl,rfl,rfl⟩
theorem Ad(s:Rp×List Ev):eQ s.1.m (gP s).1.m:=by
 unfold gP
 cases dh (aX s.1) (s.1.q.headD aJ)
 ·exact Gb (aX s.1) _
 ·exact eQ.rfl' _
theorem Gc: ∀(n:Nat) (s:Rp×List Ev),eQ s.1.m (fc n s).1.m
 | 0,s=>eQ.rfl' _
 | n+1,s=>by
  unfold fc
  split
  ·exact(Ad s).tr (Gc n _)
  ·exact eQ.rfl' _
theorem wc(r:Rp):eQ r.m (eT r).1.m:=by
 unfold eT
 cases kU r.m (bv r).j
 ·exact eQ.rfl' _
 ·exact(Ab (bv r)).tr (Gc _ (ae (bv r)))
theorem TW{r:Rp}{a:Ak}(h:aN r)(ha:eL r.m a):aN (bp r a):=by
 unfold bp
 cases hv:dh r a
 ·rw[ALcf]
  cases r.j.aa2==0
  ·refine⟨h.m,h.j,λx hx=>?_,?_,h.fr⟩
   ·have hx:x∈qI r.q a:=hx
    unfold qI at hx
    split at hx
    ·exact h.q x hx
    ·split at hx
     ·exact h.q x hx
     ·rcases List.mem_append.1 hx with hx | hx
      ·exact h.q x hx
      ·rw[List.mem_singleton.1 hx];exact ha
   ·show(qI r.q a).length≤256
    have:=h.n
    unfold qI
    split
    ·exact h.n
    ·split
     ·exact h.n
     ·rw[ir]
      show r.q.length+1≤256
      omega
  ·exact FA h ha hv
 ·exact h
theorem Gd{r:Rp}{a:Ak}(h:aN r)(ha:eL r.m a)(of:Nat): ∀v∈gu r a,jk (r.m.R*r.m.B*r.m.M) r.m.R (gx of v) v:=by
 have h8:=h.m.abc.bd.r8
 have hpg:=h.m.pg
 have hrk:=h.m.rk
 have hrp:=h.m.ly.rp
 unfold gu
 rcases ha.k with⟨hk,hw⟩ | ⟨hk,hw⟩
 ·rw[hk]
  show ∀v∈(bif dD r.m then _ else _),_
  cases hp:dD r.m
  ·intro v hv
   obtain rfl:=List.mem_singleton.1 hv
   exact⟨.inr (.inl ⟨by rw[hk];rfl,hw,rfl,by rw[hk]⟩)⟩
  ·intro v hv
   obtain rfl:=List.mem_singleton.1 hv
   refine⟨.inl ⟨rfl,hw,.inl rfl,?_⟩⟩
   show dN r.m<_
   have:r.m.aba≠r.m.res:=by unfold dD at hp;simpa using hp
   unfold dN
   rw[ALifn this]
   show r.m.R*r.m.B*r.m.M-r.m.res+r.m.aba<_
   omega
 ·rw[hk]
  show ∀v∈(bif eh r.m then _ else _),_
  cases hp:eh r.m
  ·intro v hv
   obtain rfl:=List.mem_singleton.1 hv
   exact⟨.inr (.inr (.inr ⟨by rw[hk];rfl,hw,rfl,by rw[hk]⟩))⟩
  ·intro v hv
   obtain rfl:=List.mem_singleton.1 hv
   refine⟨.inr (.inr (.inl ⟨rfl,hw,.inl rfl,?_⟩))⟩
   show ft r.m<_
   have:r.m.abb≠r.m.S:=by unfold eh at hp;simpa using hp
   unfold ft
   rw[ALifn this]
   omega
theorem qS{r:Rp}{a:Ak}(h:aN r)(ha:eL r.m a)(of:Nat): ∀v∈bS r a,jk (r.m.R*r.m.B*r.m.M) r.m.R (gx of v) v:=by
 unfold bS
 cases dh r a
 ·rw[ALcf]
  cases r.j.aa2==0
  ·rw[ALcf]
   cases vR r.q a==14
   ·intro v hv;cases hv
   ·intro v hv
    obtain rfl:=List.mem_singleton.1 hv
    rcases ha.k with⟨hk,hw⟩ | ⟨hk,hw⟩
    ·exact⟨.inr (.inl ⟨by rw[hk];rfl,hw,rfl,by rw[hk]⟩)⟩
    ·exact⟨.inr (.inr (.inr ⟨by rw[hk];rfl,hw,rfl,by rw[hk]⟩))⟩
  ·exact Gd h ha of
 ·intro v hv;cases hv
theorem pS(r:Rp)(a:Ak):(bS r a).length≤1:=by
 unfold bS
 cases dh r a
 ·rw[ALcf]
  cases r.j.aa2==0
  ·rw[ALcf]
   cases vR r.q a==14
   ·exact na _
   ·exact nN _
  ·rw[ALct,vW];exact nN _
 ·exact na _
theorem TX{s:Rp×List Ev}(h:aN s.1)(hq:0<s.1.q.length)(of:Nat)(he: ∀v∈s.2,jk (s.1.m.R*s.1.m.B*s.1.m.M) s.1.m.R (gx of v) v): ∀v∈(gP s).2,jk (s.1.m.R*s.1.m.B*s.1.m.M) s.1.m.R (gx of v) v:=by
 unfold gP
 cases dh (aX s.1) (s.1.q.headD aJ)
 ·intro v hv
  rcases List.mem_append.1 hv with hv | hv
  ·exact he v hv
  ·exact Gd (r:=aX s.1) (vV h) ⟨(tj h hq).k⟩ of v hv
 ·exact he
theorem Ge: ∀(n:Nat) (s:Rp×List Ev),n=s.1.q.length→aN s.1→∀of,(∀v∈s.2,jk (s.1.m.R*s.1.m.B*s.1.m.M) s.1.m.R (gx of v) v)→aN (fc n s).1∧(fc n s).2.length≤s.2.length+n∧∀v∈(fc n s).2,jk (s.1.m.R*s.1.m.B*s.1.m.M) s.1.m.R (gx of v) v
 | 0,s,_,h,of,he=>⟨h,nN _,he⟩
 | n+1,s,hn,h,of,he=>by
  unfold fc
  split
  ·have hq:0<s.1.q.length:=by omega
   have hl:=Ad s
   obtain⟨h1,h2,h3⟩:=Ge n (gP s) (by rw[zQ,List.length_tail];omega) (zP h hq) of (by rw[hl.R,hl.B,hl.M];exact TX h hq of he)
   rw[hl.R,hl.B,hl.M] at h3
   exact⟨h1,by have:=FC s;omega,h3⟩
  ·exact⟨h,by omega,he⟩
theorem Gf{r:Rp}(h:aN r)(hb:r.j.aa2≠0)(hi:r.j.nx<eK r.j.aa2 r.m.B r.m.M r.m.C):aN (eT r).1∧(eT r).2.length≤257∧∀v∈(eT r).2,jk (r.m.R*r.m.B*r.m.M) r.m.R (gx r.j.aa2 v) v:=by
 unfold eT
 cases kU r.m (bv r).j
 ·exact⟨qL h hb hi,na _,λv hv=>by cases hv⟩
 ·rw[ALct]
  have hn:=qL h hb hi
  have hl:=Ab (bv r)
  have he: ∀v∈(ae (bv r)).2,jk (r.m.R*r.m.B*r.m.M) r.m.R (gx r.j.aa2 v) v:=by
   intro v hv
   obtain rfl:=List.mem_singleton.1 hv
   have h8:=h.m.abc.bd.r8
   have hrk:=h.m.rk
   rcases h.j.k with e | ⟨e,hj⟩ | ⟨e,hj⟩
   ·rw[e] at hb;exact absurd rfl hb
   ·rw[e]
    exact⟨.inl ⟨rfl,hj.hf,.inr rfl,hj.ht⟩⟩
   ·rw[e]
    refine⟨.inr (.inr (.inl ⟨rfl,hj.hf,.inr rfl,?_⟩))⟩
    have:=hj.t1
    show r.j.tg<8
    omega
  obtain⟨h1,h2,h3⟩:=Ge (bv r).q.length (ae (bv r)) (by unfold ae hZ;rfl) (vU hn hb) r.j.aa2 (by
   show ∀v∈(ae (bv r)).2,jk ((hZ (bv r)).m.R*(hZ (bv r)).m.B*(hZ (bv r)).m.M) (hZ (bv r)).m.R _ v
   rw[hl.R,hl.B,hl.M];exact he)
  have h3: ∀v∈(cX (bv r)).2,jk ((hZ (bv r)).m.R*(hZ (bv r)).m.B*(hZ (bv r)).m.M) (hZ (bv r)).m.R (gx r.j.aa2 v) v:=h3
  rw[hl.R,hl.B,hl.M] at h3
  refine⟨h1,?_,h3⟩
  have h4:=h.n
  have h5:(bv r).q.length=r.q.length:=rfl
  have h6:(ae (bv r)).2.length=1:=rfl
  show(fc (bv r).q.length (ae (bv r))).2.length≤257
  omega
theorem TZ(of:Nat)(v:Ev):(((bif ((v.k:Nat):Int)==3 then 1 else(bif ((v.k:Nat):Int)==4 then 2 else(bif ((v.k:Nat):Int)==5 then 1+v.t else of))):Nat):Int)=((gx of v:Nat):Int):=by
 unfold gx
 by_cases h3:v.k=3
 ·rw[h3];rfl
 by_cases h4:v.k=4
 ·rw[h4];rfl
 by_cases h5:v.k=5
 ·rw[h5];rfl
 have e3:(((v.k:Nat):Int)==3)=false:=by rw[dp];omega
 have e4:(((v.k:Nat):Int)==4)=false:=by rw[dp];omega
 have e5:(((v.k:Nat):Int)==5)=false:=by rw[dp];omega
 rw[e3,e4,e5,ALifn h3,ALifn h4,ALifn h5];rfl
structure Le where
 r:Rp
 k:Tk
 g:Lg
 time:Nat
structure da (s:Le) (K:Nat):Prop where
 r:aN s.r
 k:d7 s.k
 g:gw s.g
 n:s.g.next≤K
 rk:s.k.abb.length=s.r.m.R
theorem da.mono{s:Le}{K K':Nat}(h:da s K)(hk:K≤K'):da s K':=⟨h.r,h.k,h.g,Nat.le_trans h.n hk,h.rk⟩
def Ae(of:Nat)(s:Le)(l:List Ev):Le:={s with k:=fw of s.k l,g:=eV s.r.m of s.time s.g l}
theorem Gg{s:Le}{K:Nat}(h:da s K)(of:Nat)(l:List Ev)(hK:K+l.length≤1000000000):da (Ae of s l) (K+l.length):=by
 have hn:=h.n
 exact⟨h.r,z7 of l h.k,z9 _ of _ l h.g Om,by show(eV _ of _ s.g l).next≤_;rw[wb];omega,(z8 of l s.k).trans h.rk⟩
def Af(s:Le)(x:Re):Le:={s with g:=bW s.g x}
theorem wd{s:Le}{K:Nat}(h:da s K)(x:Re)(hK:K+1≤1000000000):da (Af s x) (K+1):=by
 have hn:=h.n
 exact⟨h.r,h.k,h.g.add x Om,by show(bW s.g x).next≤_;rw[m3];omega,h.rk⟩
def Gh(s:Le)(r p n:Nat):Le:={s with k:=fR s.k r p n}
theorem Ag{s:Le}{K:Nat}(h:da s K){r:Nat}(p n:Nat)(hr:r<s.r.m.R):da (Gh s r p n) K:=⟨h.r,h.k.note p n (by rw[h.rk];exact hr),h.g,h.n,(TO ..).trans h.rk⟩
def ZD(s:Le)(r:Rp):Le:={s with r:=r}
theorem pT{s:Le}{K:Nat}(h:da s K){a:Ak}(ha:eL s.r.m a):da (ZD s (bp s.r a)) K:=⟨TW h.r ha,h.k,h.g,h.n,h.rk.trans (oN s.r a).R.symm⟩
def qT(s:Le)(a:Ak):Le:=Ae a.k (ZD s (bp s.r a)) (bS s.r a)
theorem wg{s:Le}{K:Nat}(h:da s K){a:Ak}(ha:eL s.r.m a)(hK:K+1≤1000000000):da (qT s a) (K+1):=by
 have hl:=pS s.r a
 exact(Gg (pT h ha) a.k (bS s.r a) Om).mono Om
theorem wh(s:Le)(a:Ak):eQ s.r.m (qT s a).r.m:=oN s.r a
theorem eL.ly{m m':Mp}{a:Ak}(h:eL m a)(e:eQ m m'):eL m' a:=⟨by rw[e.R,e.B,e.M];exact h.k⟩
theorem jk.ly{m m':Mp}{of:Nat}{v:Ev}(h:jk (m.R*m.B*m.M) m.R of v)(e:eQ m m'):jk (m'.R*m'.B*m'.M) m'.R of v:=by rw[e.R,e.B,e.M];exact h
def nU(s:Le)(rank home w:Nat)(x:Re):Le:=Gh (Af s x) rank home w
def gy(s:Le)(rank home w:Nat)(x:Re):Le:=bif dH s.k.lp (dI s.k.t home).l w then qT (nU s rank home w x) ⟨1,home⟩ else nU s rank home w x
def fm(s:Le)(rank home w:Nat)(x:Re):Le:=bif dH s.k.lr (s.k.abb.getD rank bA).l w then qT (gy s rank home w x) ⟨2,rank⟩ else gy s rank home w x
theorem Gi{s:Le}{K rank home w:Nat}(x:Re)(h:da s K)(hr:rank<s.r.m.R)(hh:home<s.r.m.R*s.r.m.B*s.r.m.M)(hK:K+3≤1000000000):da (gy s rank home w x) (K+2):=by
 have h1:=Ag (wd h x Om) home w hr
 unfold gy
 cases dH s.k.lp (dI s.k.t home).l w
 ·exact h1.mono Om
 ·exact(wg h1 ⟨.inl ⟨rfl,hh⟩⟩ Om).mono Om
theorem tq(s:Le)(rank home w:Nat)(x:Re):eQ s.r.m (gy s rank home w x).r.m:=by
 unfold gy
 cases dH s.k.lp (dI s.k.t home).l w
 ·exact eQ.rfl' _
 ·exact wh (nU s rank home w x) _
theorem Gj{s:Le}{K rank home w:Nat}(x:Re)(h:da s K)(hr:rank<s.r.m.R)(hh:home<s.r.m.R*s.r.m.B*s.r.m.M)(hK:K+3≤1000000000):da (fm s rank home w x) (K+3):=by
 have h1:=Gi (w:=w) x h hr hh hK
 unfold fm
 cases dH s.k.lr (s.k.abb.getD rank bA).l w
 ·exact h1.mono Om
 ·exact(wg h1 ⟨.inr ⟨rfl,by rw[(tq s rank home w x).R];exact hr⟩⟩ Om).mono Om
theorem Gk(s:Le)(rank home w:Nat)(x:Re):eQ s.r.m (fm s rank home w x).r.m:=by
 unfold fm
 cases dH s.k.lr (s.k.abb.getD rank bA).l w
 ·exact tq ..
 ·exact(tq s rank home w x).tr (wh _ _)
structure Nt where
 k:Nat
 v:Nat
 f:Nat
 i:Nat
 h:Nat
 r:Nat
def dE(heavy:Nat)(s:Le)(n:Nt):Le:=if n.v=0 then s else if n.v=1 then fm s n.r n.h 1 ⟨0,s.time,1,n.i,n.f⟩ else if n.v=2 then Af s ⟨0,s.time,2,n.i,1⟩ else fm s n.r n.h heavy ⟨0,s.time,2,n.i,0⟩
theorem T0(heavy:Nat)(s:Le)(n:Nt):eQ s.r.m (dE heavy s n).r.m:=by
 unfold dE
 split
 ·exact eQ.rfl' _
 split
 ·exact Gk ..
 split
 ·exact eQ.rfl' _
 ·exact Gk ..
theorem T1{heavy K:Nat}{s:Le}{n:Nt}(h:da s K)(hr:n.r<s.r.m.R)(hh:n.h<s.r.m.R*s.r.m.B*s.r.m.M)(hK:K+3≤1000000000):da (dE heavy s n) (K+3):=by
 unfold dE
 split
 ·exact h.mono Om
 split
 ·exact Gj _ h hr hh hK
 split
 ·exact(wd h _ Om).mono Om
 ·exact Gj _ h hr hh hK
def iX(s:Le):Le:=Ae s.r.j.aa2 (ZD s (eT s.r).1) (eT s.r).2
theorem T3{s:Le}{K:Nat}(h:da s K)(hb:s.r.j.aa2≠0)(hi:s.r.j.nx<eK s.r.j.aa2 s.r.m.B s.r.m.M s.r.m.C)(hK:K+257≤1000000000):da (iX s) (K+257):=by
 obtain⟨h1,h2,h3⟩:=Gf h.r hb hi
 have h4:da (ZD s (eT s.r).1) K:=⟨h1,h.k,h.g,h.n,h.rk.trans (wc s.r).R.symm⟩
 exact(Gg h4 _ (eT s.r).2 Om).mono Om
theorem T4(s:Le):eQ s.r.m (iX s).r.m:=wc s.r
def Gl(s:Le):Le:={s with k:=mZ s.k,time:=s.time+1}
def Gm(s:Le):Le:={s with g:=nS s.g}
theorem T5{s:Le}{K:Nat}(h:da s K):da (Gl s) K:=⟨h.r,h.k.tick,h.g,h.n,(TQ _).trans h.rk⟩
theorem T6{s:Le}{K:Nat}(h:da s K):da (Gm s) K:=⟨h.r,h.k,h.g.clear,h.n,h.rk⟩
end Go.Proofs.YtbcodenfkijdnaaGreat.E
namespace Go.Proofs.YtbcodenfkijdnaaGreat.E
open Go Go.RowKit Go.Shelf
open Go.Proofs.Tryz renaming prog→dZ
open Nat renaming le_trans→eF
open List renaming getD_eq_getElem?_getD→ir,length_take→jg
theorem T7(gl gr gk gg gm gq gt:Nat)(c:Cf)(time:Nat)(r:Rp)(hr:aN r)(k:Tk)(hk:d7 k)(g:Lg)(hg:gw g)(of:Nat)(v:Ev)(hv:jk (r.m.R*r.m.B*r.m.M) r.m.R of v)(hkr:k.abb.length=r.m.R):aa dZ 213 #[pt gl 0,iN of,.agg #[iN v.k,iN v.f,iN v.t]] [ob gl (lA c gr gk gg time) 122,pk (aq gr gm gq r),pk (aC gk gt k),pk (ay gg g)] [1,2,3] (λ_=>[pk (aq gr gm gq r),pk (aC gk gt (gQ of k v)),pk (ay gg (bW g (jj r.m of time v)))]) (λ_=> .tuple #[]):=by
 have h8:=hr.m.abc.bd.r8
 obtain⟨vk,vf,vt⟩:=v
 obtain⟨hv⟩:=hv
 simp only at hv
 rcases hv with⟨rfl,hf,hk2,ht⟩ | ⟨rfl,hf,hk2,ht⟩ | ⟨rfl,hf,hk2,ht⟩ | ⟨rfl,hf,hk2,ht⟩
 ·rcases hk2 with rfl | rfl
  ·rw[show jj r.m 1 time ⟨3,vf,vt⟩=⟨0,time,3,bD r.m vf*64,bD r.m vt*64⟩ by simp [jj,oM],show gQ 1 k ⟨3,vf,vt⟩=k by simp [gQ]]
   exact TA gl gr gk gg gm gq gt c time r hr k hk g hg vf vt hf ht
  ·rw[show jj r.m 1 time ⟨6,vf,vt⟩=⟨0,time,6,bD r.m vf*64,bD r.m vt*64⟩ by simp [jj,oM],show gQ 1 k ⟨6,vf,vt⟩=qQ k vf by simp [gQ]]
   exact TC gl gr gk gg gm gq gt c time r hr k hk g hg vf vt hf ht
 ·subst hk2;subst ht
  rw[show jj r.m 1 time ⟨5,vf,0⟩=⟨0,time,5,bD r.m vf*64,0⟩ by simp [jj,oM],show gQ 1 k ⟨5,vf,0⟩=k by simp [gQ]]
  exact TB gl gr gk gg gm gq gt c time r hr k hk g hg vf hf
 ·rcases hk2 with rfl | rfl
  ·rw[show jj r.m 2 time ⟨4,vf,vt⟩=⟨0,time,4,vf*1048576,vt*1048576⟩ by simp [jj,oM],show gQ 2 k ⟨4,vf,vt⟩=k by simp [gQ]]
   exact TE gl gr gk gg gm gq gt c time r hr k hk g hg vf vt Om ht
  ·rw[show jj r.m 2 time ⟨6,vf,vt⟩=⟨0,time,6,vf*1048576,vt*1048576⟩ by simp [jj,oM],show gQ 2 k ⟨6,vf,vt⟩=pQ k vf by simp [gQ]]
   exact TG gl gr gk gg gm gq gt c time r hr k hk g hg vf vt Om ht Om
 ·subst hk2;subst ht
  rw[show jj r.m 2 time ⟨5,vf,1⟩=⟨0,time,5,vf*1048576,1⟩ by simp [jj,oM],show gQ 2 k ⟨5,vf,1⟩=k by simp [gQ]]
  exact TF gl gr gk gg gm gq gt c time r hr k hk g hg vf Om
theorem jk.tb{np n of:Nat}{v:Ev}(h:jk np n of v)(hn:np≤4096):v.t<4096:=by
 obtain⟨h⟩:=h
 omega
theorem pU(gl gr gk gg gm gq gt:Nat)(c:Cf)(time:Nat)(r:Rp)(hr:aN r)(k:Tk)(hk:d7 k)(g:Lg)(hg:gw g)(of:Nat)(v:Value)(l:List Ev)(hl:l.length≤300)(hn5:g.next+l.length≤1000000000)(he: ∀e∈l,jk (r.m.R*r.m.B*r.m.M) r.m.R (gx of e) e)(hkr:k.abb.length=r.m.R):aa dZ 166 #[pt gl 0,iN of,v] [ob gl (lA c gr gk gg time) 122,pk (aq gr gm gq r),pk (aC gk gt k),pk (ay gg g),.p (aK zN v l)] [1,2,3] (λ_=>[pk (aq gr gm gq r),pk (aC gk gt (fw of k l)),pk (ay gg (eV r.m of time g l))]) (λ_=> .tuple #[]):=by
 refine fO Tryz.func166 4 rfl λbq4 hq4=>?_
 refine fG Tryz.func166 λw cs=>?_
 refine r0 [(1,eR hq4.1 4)] [(9,v),(10,iN l.length),(11,i6 0)] [] ?_
 refine lq (λi=>i≤l.length) (λi=>[(11,iN i)]) (λi L=>(L.set 2 ((pk (aC gk gt (fw of k (l.take i)))))).set 3 ((pk (ay gg (eV r.m of time g (l.take i)))))) (λi=>l.length-i) 0 Om Kr (by rw[List.take_zero];kernel_rfl) (λi hk2=>?_)
 have HK:=z7 of (l.take i) hk
 have HTL:(l.take i).length≤l.length:=by rw[jg];omega
 have HG:=z9 r.m of time (l.take i) hg Om
 have HKR:=(z8 of (l.take i) k).trans hkr
 refine r0 [] [(12,.bool (decide ((i:Int)<(l.length:Int))))] [] ?_
 refine cj (i:Int) (l.length:Int) (λh4 dh4=>?_) λh4 dh4=>?_
 ·have HV:=(oL cV).2 he i Om
  have HVT:=HV.tb hr.m.np
  refine rr (λ_=>[(0,fF hq4.1 4 i 3),(1,nC jC hq4.1 4 i 0 3),(3,.s 5)]) (λq5=>[(7,pt (B2 q5) 0)]) [] (λq5 L=>L++[ob (B2 q5) #[i6 (((l.getD i cV).k:Nat):Int),i6 (((l.getD i cV).f:Nat):Int),i6 (((l.getD i cV).t:Nat):Int)] 349]) λq5=>r0 [] [(8,iN of)] [] (r0 [(1,.l 5)] [(17,i6 (((l.getD i cV).k:Nat):Int))] [] (r0 [] [(18,.bool ((((l.getD i cV).k:Nat):Int)==3))] [] ?_))
  refine cJ ((((l.getD i cV).k:Nat):Int)==3) (λc=>[(8,i6 (((bif c then 1 else(bif (((l.getD i cV).k:Nat):Int)==4 then 2 else(bif (((l.getD i cV).k:Nat):Int)==5 then 1+((l.getD i cV).t) else of))):Nat):Int))]) (λ_=>[ob gl (lA c gr gk gg time) 122,pk (aq gr gm gq r),pk (aC gk gt (fw of k (l.take i))),pk (ay gg (eV r.m of time g (l.take i))),.c bq4,ob (B2 q5) #[i6 (((l.getD i cV).k:Nat):Int),i6 (((l.getD i cV).f:Nat):Int),i6 (((l.getD i cV).t:Nat):Int)] 349]) (λh9=>?_) (λh9=>?_) ?_
  ·have dh9:=eq_of_beq h9
   refine r0 [] [(8,i6 1)] [8] ?_
   exact cm Kr [0,1,2,3,4,5] Kr
  ·have dh9:=ne_of_beq_false h9
   refine r0 [] [(20,.bool ((((l.getD i cV).k:Nat):Int)==4))] [] ?_
   refine cJ ((((l.getD i cV).k:Nat):Int)==4) (λc=>[(8,i6 (((bif c then 2 else(bif (((l.getD i cV).k:Nat):Int)==5 then 1+((l.getD i cV).t) else of)):Nat):Int))]) (λ_=>[ob gl (lA c gr gk gg time) 122,pk (aq gr gm gq r),pk (aC gk gt (fw of k (l.take i))),pk (ay gg (eV r.m of time g (l.take i))),.c bq4,ob (B2 q5) #[i6 (((l.getD i cV).k:Nat):Int),i6 (((l.getD i cV).f:Nat):Int),i6 (((l.getD i cV).t:Nat):Int)] 349]) (λh12=>?_) (λh12=>?_) ?_
   ·have dh12:=eq_of_beq h12
    refine r0 [] [(8,i6 2)] [8] ?_
    exact cm Kr [0,1,2,3,4,5] Kr
   ·have dh12:=ne_of_beq_false h12
    refine r0 [] [(22,.bool ((((l.getD i cV).k:Nat):Int)==5))] [] ?_
    refine cJ ((((l.getD i cV).k:Nat):Int)==5) (λc=>[(8,i6 (((bif c then 1+((l.getD i cV).t) else of):Nat):Int))]) (λ_=>[ob gl (lA c gr gk gg time) 122,pk (aq gr gm gq r),pk (aC gk gt (fw of k (l.take i))),pk (ay gg (eV r.m of time g (l.take i))),.c bq4,ob (B2 q5) #[i6 (((l.getD i cV).k:Nat):Int),i6 (((l.getD i cV).f:Nat):Int),i6 (((l.getD i cV).t:Nat):Int)] 349]) (λh15=>?_) (λh15=>?_) ?_
    ·have dh15:=eq_of_beq h15
     refine r0 [(1,.l 5),(2,ad 1 ((l.getD i cV).t))] [(8,i6 ((1+((l.getD i cV).t):Nat):Int))] [8] ?_
     exact cm Kr [0,1,2,3,4,5] Kr
    ·have dh15:=ne_of_beq_false h15
     exact cm Kr [0,1,2,3,4,5] Kr
    exact cm Kr [0,1,2,3,4,5] Kr
   exact cm Kr [0,1,2,3,4,5] Kr
  refine rr (λ_=>[(1,.t (tk (show i6 (((bif (((l.getD i cV).k:Nat):Int)==3 then 1 else(bif (((l.getD i cV).k:Nat):Int)==4 then 2 else(bif (((l.getD i cV).k:Nat):Int)==5 then 1+((l.getD i cV).t) else of))):Nat):Int)=i6 ((gx of (l.getD i cV):Nat):Int) from ALca (Value.int .i64) (TZ of (l.getD i cV))))),(2,.l 5),(3,.c [0,1,2,3] [1,2,3] (T7 gl gr gk gg gm gq gt c time r hr (fw of k (l.take i)) HK (eV r.m of time g (l.take i)) HG (gx of (l.getD i cV)) (l.getD i cV) HV HKR))]) N0 [] (λ_ L=>(L.set 2 ((pk (aC gk gt (gQ (gx of (l.getD i cV)) (fw of k (l.take i)) (l.getD i cV)))))).set 3 ((pk (ay gg (bW (eV r.m of time g (l.take i)) (jj r.m (gx of (l.getD i cV)) time (l.getD i cV))))))) λq17=>r0 [(0,ad i 1)] [(11,i6 ((i+1:Nat):Int))] [11] ?_
  exact le (i+1) Om Om Kr [0,1,2,3,4] (by rw[TU Om,TV Om];kernel_rfl)
 obtain rfl:i=l.length:=by omega
 refine cl [ob gl (lA c gr gk gg time) 122,pk (aq gr gm gq r),pk (aC gk gt (fw of k l)),pk (ay gg (eV r.m of time g l)),.c bq4] (by rw[List.take_length];kernel_rfl) ?_
 refine lx ?_
 exact eH ab.zero [1,2,3] [(0,0),(4,4)] []
theorem T8(gl gr gk gg gm gq gt:Nat)(c:Cf)(s:Le)(K:Nat)(hs:da s K)(hK:K+3≤1000000000)(hv1:c.heavy≤65536)(i h rk f:Nat)(hrk:rk<s.r.m.R)(hh:h<s.r.m.R*s.r.m.B*s.r.m.M):aa dZ 163 #[pt gl 0,.agg #[i6 1,i6 1,iN f,iN i,iN h,iN rk]] [ob gl (lA c gr gk gg s.time) 122,pk (aq gr gm gq s.r),pk (aC gk gt s.k),pk (ay gg s.g)] [1,2,3] (λ_=>[pk (aq gr gm gq (fm s rk h (1) ⟨0,s.time,1,i,f⟩).r),pk (aC gk gt (fm s rk h (1) ⟨0,s.time,1,i,f⟩).k),pk (ay gg (fm s rk h (1) ⟨0,s.time,1,i,f⟩).g)]) (λ_=> .tuple #[]):=by
 have hkr:=hs.rk
 have hsn:=hs.n
 have h1:=wd hs ⟨0,s.time,1,i,f⟩ Om
 have h2:=Ag h1 h (1) hrk
 have a1:eL (nU s rk h (1) ⟨0,s.time,1,i,f⟩).r.m ⟨1,h⟩:=⟨.inl ⟨rfl,hh⟩⟩
 have a2:eL (nU s rk h (1) ⟨0,s.time,1,i,f⟩).r.m ⟨2,rk⟩:=⟨.inr ⟨rfl,hrk⟩⟩
 have h3:=pT h2 a1
 have e3:=qS h2.r a1 1
 have l3:=pS s.r ⟨1,h⟩
 have h4:=wg h2 a1 Om
 have h5:=pT h2 a2
 have e5:=qS h2.r a2 2
 have l5:=pS s.r ⟨2,rk⟩
 have a6:eL (qT (nU s rk h (1) ⟨0,s.time,1,i,f⟩) ⟨1,h⟩).r.m ⟨2,rk⟩:=a2.ly (wh _ _)
 have h6:=pT h4 a6
 have e6:=qS h4.r a6 2
 have l6:=pS (bp s.r ⟨1,h⟩) ⟨2,rk⟩
 have y3:=oN s.r ⟨1,h⟩
 have y5:=oN s.r ⟨2,rk⟩
 have y6:=oN (bp s.r ⟨1,h⟩) ⟨2,rk⟩
 have n3:(bW s.g ⟨0,s.time,1,i,f⟩).next+(bS s.r ⟨1,h⟩).length≤1000000000:=by rw[m3];omega
 have n5:(bW s.g ⟨0,s.time,1,i,f⟩).next+(bS s.r ⟨2,rk⟩).length≤1000000000:=by rw[m3];omega
 have n6:(eV (bp s.r ⟨1,h⟩).m 1 s.time (bW s.g ⟨0,s.time,1,i,f⟩) (bS s.r ⟨1,h⟩)).next+(bS (bp s.r ⟨1,h⟩) ⟨2,rk⟩).length≤1000000000:=by rw[wb,m3];omega
 have hrr:=hrk
 refine fG Tryz.func163 λw cs=>?_
 refine ra (λq1=>[(3,pt (B0 q1) 0)]) (λq1=>[ob (B0 q1) #[i6 1,i6 1,iN f,iN i,iN h,iN rk] 81]) λq1=>r0 [] [(4,i6 0)] [] (r0 [(2,.l 4)] [(9,i6 1)] [] (rF [] 20 (rT [] 22 (r0 [] [(4,i6 1)] [4] ?_))))
 refine rs [(2,.l 4),(5,.l 4),(6,.c [0,3] [3] (nT gl gr gk gg c s.time s.g hs.g 1 i f))] 3 ((pk (ay gg (bW s.g ⟨0,s.time,1,i,f⟩)))) (rr (λ_=>[(0,.v (pt gl 0)),(1,.v (pt gl 0)),(2,.v (pt gl 17)),(3,.m (ld 0 (pt gk 0))),(4,.v (pt (B0 q1) 5)),(5,.m (ld 4 (iN rk))),(6,.v (pt (B0 q1) 4)),(7,.m (ld 4 (iN h))),(8,.v (i6 1)),(9,.c [2] [2] (F1 gk gt s.k hs.k rk h 1 (by rw[hkr];exact hrk) Om)),(10,.v (.tuple #[.agg #[.bool (dH s.k.lr ((s.k.abb.getD rk bA).l) 1),.bool (dH s.k.lp ((dI s.k.t h).l) 1)],i6 0])),(11,.v (.agg #[.bool (dH s.k.lr ((s.k.abb.getD rk bA).l) 1),.bool (dH s.k.lp ((dI s.k.t h).l) 1)])),(12,.v (i6 0)),(13,.m (al 5)),(14,.s 5),(15,.v (i6 0))]) (λq8=>[(5,pt ((q8 13).abd 0) 0)]) [] (λq8 L=>L.set 2 ((pk (aC gk gt (fR s.k rk h 1))))++[ob ((q8 13).abd 0) #[.bool (dH s.k.lr ((s.k.abb.getD rk bA).l) 1),.bool (dH s.k.lp ((dI s.k.t h).l) 1)] 339]) λq8=>r0 [(1,.l 5)] [(51,.bool (dH s.k.lp ((dI s.k.t h).l) 1))] [] ?_)
 refine cB (dH s.k.lp ((dI s.k.t h).l) 1) (λh10=>?_) λh10=>?_
 ·refine rr (λq11=>[(4,.l 0),(6,.l 4),(8,.c [1] [1,6] (qN gr gm gq s.r (by exact hs.r) (⟨1,h⟩:Ak) (by exact a1))),(9,.c [0,1,2,3,6] [1,2,3] (aa.at (rd':=[ob gl (lA c gr gk gg s.time) 122,pk (aq gr gm gq (bp s.r (⟨1,h⟩:Ak))),pk (aC gk gt (fR s.k rk h 1)),pk (ay gg (bW s.g ⟨0,s.time,1,i,f⟩)),bg ((q11 8).val 0) (bS s.r (⟨1,h⟩:Ak))]) (pU gl gr gk gg gm gq gt c s.time (bp s.r (⟨1,h⟩:Ak)) (by exact h3.r) (fR s.k rk h 1) (by exact h2.k) (bW s.g ⟨0,s.time,1,i,f⟩) (by exact h2.g) 1 ((q11 8).val 0) (bS s.r (⟨1,h⟩:Ak)) (by exact eF l3 Dc) (by exact n3) (by exact λe he=>(e3 e he).ly y3) (by exact h3.rk)) (ak (ak (ak (ak (bO (λ_ h=>ap.sq h) (λ_ h=>h))))))))]) N0 [] (λq11 L=>((L.set 1 ((pk (aq gr gm gq (bp s.r (⟨1,h⟩:Ak)))))).set 2 ((pk (aC gk gt (fw 1 (fR s.k rk h 1) (bS s.r (⟨1,h⟩:Ak))))))).set 3 ((pk (ay gg (eV (bp s.r (⟨1,h⟩:Ak)).m 1 s.time (bW s.g ⟨0,s.time,1,i,f⟩) (bS s.r (⟨1,h⟩:Ak))))))++[bg ((q11 8).val 0) (bS s.r (⟨1,h⟩:Ak))]) λq11=>?_
  refine r0 [(1,.l 5)] [(63,.bool (dH s.k.lr ((s.k.abb.getD rk bA).l) 1))] [] ?_
  refine cB (dH s.k.lr ((s.k.abb.getD rk bA).l) 1) (λh13=>?_) λh13=>?_
  ·refine rr (λq14=>[(4,.l 0),(6,.l 4),(8,.c [1] [1,7] (qN gr gm gq (bp s.r (⟨1,h⟩:Ak)) (by exact h4.r) (⟨2,rk⟩:Ak) (by exact a6))),(9,.c [0,1,2,3,7] [1,2,3] (aa.at (rd':=[ob gl (lA c gr gk gg s.time) 122,pk (aq gr gm gq (bp (bp s.r (⟨1,h⟩:Ak)) (⟨2,rk⟩:Ak))),pk (aC gk gt (fw 1 (fR s.k rk h 1) (bS s.r (⟨1,h⟩:Ak)))),pk (ay gg (eV (bp s.r (⟨1,h⟩:Ak)).m 1 s.time (bW s.g ⟨0,s.time,1,i,f⟩) (bS s.r (⟨1,h⟩:Ak)))),bg ((q14 8).val 0) (bS (bp s.r (⟨1,h⟩:Ak)) (⟨2,rk⟩:Ak))]) (pU gl gr gk gg gm gq gt c s.time (bp (bp s.r (⟨1,h⟩:Ak)) (⟨2,rk⟩:Ak)) (by exact h6.r) (fw 1 (fR s.k rk h 1) (bS s.r (⟨1,h⟩:Ak))) (by exact h4.k) (eV (bp s.r (⟨1,h⟩:Ak)).m 1 s.time (bW s.g ⟨0,s.time,1,i,f⟩) (bS s.r (⟨1,h⟩:Ak))) (by exact h4.g) 2 ((q14 8).val 0) (bS (bp s.r (⟨1,h⟩:Ak)) (⟨2,rk⟩:Ak)) (by exact eF l6 Dc) (by exact n6) (by exact λe he=>(e6 e he).ly y6) (by exact h6.rk)) (ak (ak (ak (ak (bO (λ_ h=>ap.sq h) (λ_ h=>h))))))))]) N0 [] (λq14 L=>((L.set 1 ((pk (aq gr gm gq (bp (bp s.r (⟨1,h⟩:Ak)) (⟨2,rk⟩:Ak)))))).set 2 ((pk (aC gk gt (fw 2 (fw 1 (fR s.k rk h 1) (bS s.r (⟨1,h⟩:Ak))) (bS (bp s.r (⟨1,h⟩:Ak)) (⟨2,rk⟩:Ak))))))).set 3 ((pk (ay gg (eV (bp (bp s.r (⟨1,h⟩:Ak)) (⟨2,rk⟩:Ak)).m 2 s.time (eV (bp s.r (⟨1,h⟩:Ak)).m 1 s.time (bW s.g ⟨0,s.time,1,i,f⟩) (bS s.r (⟨1,h⟩:Ak))) (bS (bp s.r (⟨1,h⟩:Ak)) (⟨2,rk⟩:Ak))))))++[bg ((q14 8).val 0) (bS (bp s.r (⟨1,h⟩:Ak)) (⟨2,rk⟩:Ak))]) λq14=>?_
   exact eH ab.zero [1,2,3] [(0,0)] [] (hf:=by unfold fm gy;(repeat (first | rw[h10] | rw[h13] | rw[ALct]));kernel_rfl)
  exact eH ab.zero [1,2,3] [(0,0)] [] (hf:=by unfold fm gy;(repeat (first | rw[h10] | rw[h13] | rw[ALct] | rw[ALcf]));kernel_rfl)
 refine r0 [(1,.l 5)] [(63,.bool (dH s.k.lr ((s.k.abb.getD rk bA).l) 1))] [] ?_
 refine cB (dH s.k.lr ((s.k.abb.getD rk bA).l) 1) (λh16=>?_) λh16=>?_
 ·refine rr (λq17=>[(4,.l 0),(6,.l 4),(8,.c [1] [1,6] (qN gr gm gq s.r (by exact hs.r) (⟨2,rk⟩:Ak) (by exact a2))),(9,.c [0,1,2,3,6] [1,2,3] (aa.at (rd':=[ob gl (lA c gr gk gg s.time) 122,pk (aq gr gm gq (bp s.r (⟨2,rk⟩:Ak))),pk (aC gk gt (fR s.k rk h 1)),pk (ay gg (bW s.g ⟨0,s.time,1,i,f⟩)),bg ((q17 8).val 0) (bS s.r (⟨2,rk⟩:Ak))]) (pU gl gr gk gg gm gq gt c s.time (bp s.r (⟨2,rk⟩:Ak)) (by exact h5.r) (fR s.k rk h 1) (by exact h2.k) (bW s.g ⟨0,s.time,1,i,f⟩) (by exact h2.g) 2 ((q17 8).val 0) (bS s.r (⟨2,rk⟩:Ak)) (by exact eF l5 Dc) (by exact n5) (by exact λe he=>(e5 e he).ly y5) (by exact h5.rk)) (ak (ak (ak (ak (bO (λ_ h=>ap.sq h) (λ_ h=>h))))))))]) N0 [] (λq17 L=>((L.set 1 ((pk (aq gr gm gq (bp s.r (⟨2,rk⟩:Ak)))))).set 2 ((pk (aC gk gt (fw 2 (fR s.k rk h 1) (bS s.r (⟨2,rk⟩:Ak))))))).set 3 ((pk (ay gg (eV (bp s.r (⟨2,rk⟩:Ak)).m 2 s.time (bW s.g ⟨0,s.time,1,i,f⟩) (bS s.r (⟨2,rk⟩:Ak))))))++[bg ((q17 8).val 0) (bS s.r (⟨2,rk⟩:Ak))]) λq17=>?_
  exact eH ab.zero [1,2,3] [(0,0)] [] (hf:=by unfold fm gy;(repeat (first | rw[h10] | rw[h16] | rw[ALct] | rw[ALcf]));kernel_rfl)
 exact eH ab.zero [1,2,3] [(0,0)] [] (hf:=by unfold fm gy;(repeat (first | rw[h10] | rw[h16] | rw[ALcf]));kernel_rfl)
theorem T9(gl gr gk gg gm gq gt:Nat)(c:Cf)(s:Le)(K:Nat)(hs:da s K)(hK:K+3≤1000000000)(hv1:c.heavy≤65536)(i h rk f:Nat)(hrk:rk<s.r.m.R)(hh:h<s.r.m.R*s.r.m.B*s.r.m.M):aa dZ 163 #[pt gl 0,.agg #[i6 1,i6 3,iN f,iN i,iN h,iN rk]] [ob gl (lA c gr gk gg s.time) 122,pk (aq gr gm gq s.r),pk (aC gk gt s.k),pk (ay gg s.g)] [1,2,3] (λ_=>[pk (aq gr gm gq (fm s rk h (c.heavy) ⟨0,s.time,2,i,0⟩).r),pk (aC gk gt (fm s rk h (c.heavy) ⟨0,s.time,2,i,0⟩).k),pk (ay gg (fm s rk h (c.heavy) ⟨0,s.time,2,i,0⟩).g)]) (λ_=> .tuple #[]):=by
 have hkr:=hs.rk
 have hsn:=hs.n
 have h1:=wd hs ⟨0,s.time,2,i,0⟩ Om
 have h2:=Ag h1 h (c.heavy) hrk
 have a1:eL (nU s rk h (c.heavy) ⟨0,s.time,2,i,0⟩).r.m ⟨1,h⟩:=⟨.inl ⟨rfl,hh⟩⟩
 have a2:eL (nU s rk h (c.heavy) ⟨0,s.time,2,i,0⟩).r.m ⟨2,rk⟩:=⟨.inr ⟨rfl,hrk⟩⟩
 have h3:=pT h2 a1
 have e3:=qS h2.r a1 1
 have l3:=pS s.r ⟨1,h⟩
 have h4:=wg h2 a1 Om
 have h5:=pT h2 a2
 have e5:=qS h2.r a2 2
 have l5:=pS s.r ⟨2,rk⟩
 have a6:eL (qT (nU s rk h (c.heavy) ⟨0,s.time,2,i,0⟩) ⟨1,h⟩).r.m ⟨2,rk⟩:=a2.ly (wh _ _)
 have h6:=pT h4 a6
 have e6:=qS h4.r a6 2
 have l6:=pS (bp s.r ⟨1,h⟩) ⟨2,rk⟩
 have y3:=oN s.r ⟨1,h⟩
 have y5:=oN s.r ⟨2,rk⟩
 have y6:=oN (bp s.r ⟨1,h⟩) ⟨2,rk⟩
 have n3:(bW s.g ⟨0,s.time,2,i,0⟩).next+(bS s.r ⟨1,h⟩).length≤1000000000:=by rw[m3];omega
 have n5:(bW s.g ⟨0,s.time,2,i,0⟩).next+(bS s.r ⟨2,rk⟩).length≤1000000000:=by rw[m3];omega
 have n6:(eV (bp s.r ⟨1,h⟩).m 1 s.time (bW s.g ⟨0,s.time,2,i,0⟩) (bS s.r ⟨1,h⟩)).next+(bS (bp s.r ⟨1,h⟩) ⟨2,rk⟩).length≤1000000000:=by rw[wb,m3];omega
 have hrr:=hrk
 refine fG Tryz.func163 λw cs=>?_
 refine ra (λq1=>[(3,pt (B0 q1) 0)]) (λq1=>[ob (B0 q1) #[i6 1,i6 3,iN f,iN i,iN h,iN rk] 81]) λq1=>r0 [] [(4,i6 0)] [] (r0 [(2,.l 4)] [(9,i6 3)] [] (rF [] 20 (rF [] 22 (rF [] 31 ?_))))
 refine r0 [(5,.l 0)] [(4,iN c.heavy)] [4] (rs [(2,.l 4),(3,.c [0,3] [3] (nT gl gr gk gg c s.time s.g hs.g 2 i 0))] 3 ((pk (ay gg (bW s.g ⟨0,s.time,2,i,0⟩)))) (rr (λ_=>[(0,.v (pt gl 0)),(1,.v (pt gl 0)),(2,.v (pt gl 17)),(3,.m (ld 0 (pt gk 0))),(4,.v (pt (B0 q1) 5)),(5,.m (ld 4 (iN rk))),(6,.v (pt (B0 q1) 4)),(7,.m (ld 4 (iN h))),(8,.v (iN c.heavy)),(9,.c [2] [2] (F1 gk gt s.k hs.k rk h c.heavy (by rw[hkr];exact hrk) Om)),(10,.v (.tuple #[.agg #[.bool (dH s.k.lr ((s.k.abb.getD rk bA).l) c.heavy),.bool (dH s.k.lp ((dI s.k.t h).l) c.heavy)],i6 0])),(11,.v (.agg #[.bool (dH s.k.lr ((s.k.abb.getD rk bA).l) c.heavy),.bool (dH s.k.lp ((dI s.k.t h).l) c.heavy)])),(12,.v (i6 0)),(13,.m (al 5)),(14,.s 5),(15,.v (i6 0))]) (λq9=>[(5,pt ((q9 13).abd 0) 0)]) [] (λq9 L=>L.set 2 ((pk (aC gk gt (fR s.k rk h c.heavy))))++[ob ((q9 13).abd 0) #[.bool (dH s.k.lr ((s.k.abb.getD rk bA).l) c.heavy),.bool (dH s.k.lp ((dI s.k.t h).l) c.heavy)] 339]) λq9=>r0 [(1,.l 5)] [(51,.bool (dH s.k.lp ((dI s.k.t h).l) c.heavy))] [] ?_))
 refine cB (dH s.k.lp ((dI s.k.t h).l) c.heavy) (λh11=>?_) λh11=>?_
 ·refine rr (λq12=>[(4,.l 0),(6,.l 4),(8,.c [1] [1,6] (qN gr gm gq s.r (by exact hs.r) (⟨1,h⟩:Ak) (by exact a1))),(9,.c [0,1,2,3,6] [1,2,3] (aa.at (rd':=[ob gl (lA c gr gk gg s.time) 122,pk (aq gr gm gq (bp s.r (⟨1,h⟩:Ak))),pk (aC gk gt (fR s.k rk h c.heavy)),pk (ay gg (bW s.g ⟨0,s.time,2,i,0⟩)),bg ((q12 8).val 0) (bS s.r (⟨1,h⟩:Ak))]) (pU gl gr gk gg gm gq gt c s.time (bp s.r (⟨1,h⟩:Ak)) (by exact h3.r) (fR s.k rk h c.heavy) (by exact h2.k) (bW s.g ⟨0,s.time,2,i,0⟩) (by exact h2.g) 1 ((q12 8).val 0) (bS s.r (⟨1,h⟩:Ak)) (by exact eF l3 Dc) (by exact n3) (by exact λe he=>(e3 e he).ly y3) (by exact h3.rk)) (ak (ak (ak (ak (bO (λ_ h=>ap.sq h) (λ_ h=>h))))))))]) N0 [] (λq12 L=>((L.set 1 ((pk (aq gr gm gq (bp s.r (⟨1,h⟩:Ak)))))).set 2 ((pk (aC gk gt (fw 1 (fR s.k rk h c.heavy) (bS s.r (⟨1,h⟩:Ak))))))).set 3 ((pk (ay gg (eV (bp s.r (⟨1,h⟩:Ak)).m 1 s.time (bW s.g ⟨0,s.time,2,i,0⟩) (bS s.r (⟨1,h⟩:Ak))))))++[bg ((q12 8).val 0) (bS s.r (⟨1,h⟩:Ak))]) λq12=>?_
  refine r0 [(1,.l 5)] [(63,.bool (dH s.k.lr ((s.k.abb.getD rk bA).l) c.heavy))] [] ?_
  refine cB (dH s.k.lr ((s.k.abb.getD rk bA).l) c.heavy) (λh14=>?_) λh14=>?_
  ·refine rr (λq15=>[(4,.l 0),(6,.l 4),(8,.c [1] [1,7] (qN gr gm gq (bp s.r (⟨1,h⟩:Ak)) (by exact h4.r) (⟨2,rk⟩:Ak) (by exact a6))),(9,.c [0,1,2,3,7] [1,2,3] (aa.at (rd':=[ob gl (lA c gr gk gg s.time) 122,pk (aq gr gm gq (bp (bp s.r (⟨1,h⟩:Ak)) (⟨2,rk⟩:Ak))),pk (aC gk gt (fw 1 (fR s.k rk h c.heavy) (bS s.r (⟨1,h⟩:Ak)))),pk (ay gg (eV (bp s.r (⟨1,h⟩:Ak)).m 1 s.time (bW s.g ⟨0,s.time,2,i,0⟩) (bS s.r (⟨1,h⟩:Ak)))),bg ((q15 8).val 0) (bS (bp s.r (⟨1,h⟩:Ak)) (⟨2,rk⟩:Ak))]) (pU gl gr gk gg gm gq gt c s.time (bp (bp s.r (⟨1,h⟩:Ak)) (⟨2,rk⟩:Ak)) (by exact h6.r) (fw 1 (fR s.k rk h c.heavy) (bS s.r (⟨1,h⟩:Ak))) (by exact h4.k) (eV (bp s.r (⟨1,h⟩:Ak)).m 1 s.time (bW s.g ⟨0,s.time,2,i,0⟩) (bS s.r (⟨1,h⟩:Ak))) (by exact h4.g) 2 ((q15 8).val 0) (bS (bp s.r (⟨1,h⟩:Ak)) (⟨2,rk⟩:Ak)) (by exact eF l6 Dc) (by exact n6) (by exact λe he=>(e6 e he).ly y6) (by exact h6.rk)) (ak (ak (ak (ak (bO (λ_ h=>ap.sq h) (λ_ h=>h))))))))]) N0 [] (λq15 L=>((L.set 1 ((pk (aq gr gm gq (bp (bp s.r (⟨1,h⟩:Ak)) (⟨2,rk⟩:Ak)))))).set 2 ((pk (aC gk gt (fw 2 (fw 1 (fR s.k rk h c.heavy) (bS s.r (⟨1,h⟩:Ak))) (bS (bp s.r (⟨1,h⟩:Ak)) (⟨2,rk⟩:Ak))))))).set 3 ((pk (ay gg (eV (bp (bp s.r (⟨1,h⟩:Ak)) (⟨2,rk⟩:Ak)).m 2 s.time (eV (bp s.r (⟨1,h⟩:Ak)).m 1 s.time (bW s.g ⟨0,s.time,2,i,0⟩) (bS s.r (⟨1,h⟩:Ak))) (bS (bp s.r (⟨1,h⟩:Ak)) (⟨2,rk⟩:Ak))))))++[bg ((q15 8).val 0) (bS (bp s.r (⟨1,h⟩:Ak)) (⟨2,rk⟩:Ak))]) λq15=>?_
   exact eH ab.zero [1,2,3] [(0,0)] [] (hf:=by unfold fm gy;(repeat (first | rw[h11] | rw[h14] | rw[ALct]));kernel_rfl)
  exact eH ab.zero [1,2,3] [(0,0)] [] (hf:=by unfold fm gy;(repeat (first | rw[h11] | rw[h14] | rw[ALct] | rw[ALcf]));kernel_rfl)
 refine r0 [(1,.l 5)] [(63,.bool (dH s.k.lr ((s.k.abb.getD rk bA).l) c.heavy))] [] ?_
 refine cB (dH s.k.lr ((s.k.abb.getD rk bA).l) c.heavy) (λh17=>?_) λh17=>?_
 ·refine rr (λq18=>[(4,.l 0),(6,.l 4),(8,.c [1] [1,6] (qN gr gm gq s.r (by exact hs.r) (⟨2,rk⟩:Ak) (by exact a2))),(9,.c [0,1,2,3,6] [1,2,3] (aa.at (rd':=[ob gl (lA c gr gk gg s.time) 122,pk (aq gr gm gq (bp s.r (⟨2,rk⟩:Ak))),pk (aC gk gt (fR s.k rk h c.heavy)),pk (ay gg (bW s.g ⟨0,s.time,2,i,0⟩)),bg ((q18 8).val 0) (bS s.r (⟨2,rk⟩:Ak))]) (pU gl gr gk gg gm gq gt c s.time (bp s.r (⟨2,rk⟩:Ak)) (by exact h5.r) (fR s.k rk h c.heavy) (by exact h2.k) (bW s.g ⟨0,s.time,2,i,0⟩) (by exact h2.g) 2 ((q18 8).val 0) (bS s.r (⟨2,rk⟩:Ak)) (by exact eF l5 Dc) (by exact n5) (by exact λe he=>(e5 e he).ly y5) (by exact h5.rk)) (ak (ak (ak (ak (bO (λ_ h=>ap.sq h) (λ_ h=>h))))))))]) N0 [] (λq18 L=>((L.set 1 ((pk (aq gr gm gq (bp s.r (⟨2,rk⟩:Ak)))))).set 2 ((pk (aC gk gt (fw 2 (fR s.k rk h c.heavy) (bS s.r (⟨2,rk⟩:Ak))))))).set 3 ((pk (ay gg (eV (bp s.r (⟨2,rk⟩:Ak)).m 2 s.time (bW s.g ⟨0,s.time,2,i,0⟩) (bS s.r (⟨2,rk⟩:Ak))))))++[bg ((q18 8).val 0) (bS s.r (⟨2,rk⟩:Ak))]) λq18=>?_
  exact eH ab.zero [1,2,3] [(0,0)] [] (hf:=by unfold fm gy;(repeat (first | rw[h11] | rw[h17] | rw[ALct] | rw[ALcf]));kernel_rfl)
 exact eH ab.zero [1,2,3] [(0,0)] [] (hf:=by unfold fm gy;(repeat (first | rw[h11] | rw[h17] | rw[ALcf]));kernel_rfl)
theorem Ua(gl gr gk gg gm gq gt:Nat)(c:Cf)(s:Le)(K:Nat)(hs:da s K)(i h rk f:Nat):aa dZ 163 #[pt gl 0,.agg #[i6 1,i6 0,iN f,iN i,iN h,iN rk]] [ob gl (lA c gr gk gg s.time) 122,pk (aq gr gm gq s.r),pk (aC gk gt s.k),pk (ay gg s.g)] [1,2,3] (λ_=>[pk (aq gr gm gq s.r),pk (aC gk gt s.k),pk (ay gg s.g)]) (λ_=> .tuple #[]):=by
 refine fG Tryz.func163 λw cs=>?_
 exact ra (λq1=>[(3,pt (B0 q1) 0)]) (λq1=>[ob (B0 q1) #[i6 1,i6 0,iN f,iN i,iN h,iN rk] 81]) λq1=>r0 [] [(4,i6 0)] [] (r0 [(2,.l 4)] [(9,i6 0)] [] (rT [] 20 (lf ab.zero [1,2,3] [(0,0)] [])))
theorem Ub(gl gr gk gg gm gq gt:Nat)(c:Cf)(s:Le)(K:Nat)(hs:da s K)(hK:K+3≤1000000000)(i h rk f:Nat):aa dZ 163 #[pt gl 0,.agg #[i6 1,i6 2,iN f,iN i,iN h,iN rk]] [ob gl (lA c gr gk gg s.time) 122,pk (aq gr gm gq s.r),pk (aC gk gt s.k),pk (ay gg s.g)] [1,2,3] (λ_=>[pk (aq gr gm gq s.r),pk (aC gk gt s.k),pk (ay gg (bW s.g ⟨0,s.time,2,i,1⟩))]) (λ_=> .tuple #[]):=by
 refine fG Tryz.func163 λw cs=>?_
 refine ra (λq1=>[(3,pt (B0 q1) 0)]) (λq1=>[ob (B0 q1) #[i6 1,i6 2,iN f,iN i,iN h,iN rk] 81]) λq1=>r0 [] [(4,i6 0)] [] (r0 [(2,.l 4)] [(9,i6 2)] [] (rF [] 20 (rF [] 22 (rT [] 31 ?_))))
 exact rs [(2,.l 4),(3,.c [0,3] [3] (nT gl gr gk gg c s.time s.g hs.g 2 i 1))] 3 ((pk (ay gg (bW s.g ⟨0,s.time,2,i,1⟩)))) (lf ab.zero [1,2,3] [(0,0)] [])
theorem Gn(m:Nat)(hm:m=1∨m=2):aa dZ 75 #[iN m] [] [] N0 (λ_=>i6 ((aU (m:Int):Nat):Int)):=by
 rcases hm with rfl | rfl
 ·exact vq
 ·exact vr
theorem Gp(m:Nat)(hm:m=1∨m=2):aa dZ 192 #[iN m] [] [] N0 (λ_=>i6 ((dL (m:Int):Nat):Int)):=by
 rcases hm with rfl | rfl
 ·exact yN
 ·exact yO
structure Fa where
 x0:Int
 x1:Int
 x2:Int
 x3:Int
 x4:Int
 x5:Int
 x6:Int
 x7:Int
def b9:Fa:=⟨0,0,0,0,0,0,0,0⟩
def pV(x:Fa):List Value:=[i6 x.x0,i6 x.x1,i6 x.x2,i6 x.x3,i6 x.x4,i6 x.x5,i6 x.x6,i6 x.x7]
def Zt:Kd dZ Fa:=⟨pV,[i6 0,i6 0,i6 0,i6 0,i6 0,i6 0,i6 0,i6 0],93,48,b9,8,λ_=>rfl,rfl,λ_=>rfl,d9.mk' Kr Kr rfl⟩
abbrev dB(v:Value)(xs:List Fa):az:= .p (ap pV ([i6 0,i6 0,i6 0,i6 0,i6 0,i6 0,i6 0,i6 0]) 48 v xs)
theorem Ah(i n:Int):aa dZ 74 #[i6 i,i6 n] [] [] N0 (λ_=> .bool (bQ i n)):=by
 refine fG Tryz.func74 λw cs=>?_
 refine r0 [] [(4,.bool false)] [] (r0 [] [(4,.bool ((decide (0≤i))&&(decide (i<n))))] [4] ?_)
 exact am (.bool ((decide (0≤i))&&(decide (i<n)))) ab.zero bh [] [] []
def kW(f:Fa):Bool:=(decide (2≤f.x0))&&(decide (f.x0≤5))
theorem Gq(f:Fa):aa dZ 169 #[.agg #[i6 f.x0,i6 f.x1,i6 f.x2,i6 f.x3,i6 f.x4,i6 f.x5,i6 f.x6,i6 f.x7]] [] [] N0 (λ_=> .bool (kW f)):=by
 refine fG Tryz.func169 λw cs=>?_
 refine ra (λq1=>[(1,pt (B0 q1) 0),(2,.bool false)]) (λq1=>[ob (B0 q1) #[i6 f.x0,i6 f.x1,i6 f.x2,i6 f.x3,i6 f.x4,i6 f.x5,i6 f.x6,i6 f.x7] 48]) λq1=>r0 [(1,.l 0),(5,.l 0)] [(2,.bool ((decide (2≤f.x0))&&(decide (f.x0≤5))))] [2] ?_
 exact am (.bool ((decide (2≤f.x0))&&(decide (f.x0≤5)))) ab.zero bh [] [] []
def mA(f:Fa)(u0 u1 u2 u3:Int):Bool:=(bif (bif f.x0==1 then f.x0==1 else f.x0==2) then(u0==f.x1&&(u1==f.x2&&(u2==f.x3&&(u3==f.x4&&true)))) else(bif f.x0==3 then(u0==f.x1&&(u1==f.x2&&(u2==f.x3&&(f.x4==f.x4&&true)))) else(bif f.x0==4 then(u0==f.x1&&(u1==f.x2&&(f.x3==f.x3&&(u3==f.x4&&true)))) else(bif f.x0==5 then u0==f.x1 else false))))
theorem Uc(f:Fa)(u0 u1 u2 u3:Int):aa dZ 69 #[.agg #[i6 f.x0,i6 f.x1,i6 f.x2,i6 f.x3,i6 f.x4,i6 f.x5,i6 f.x6,i6 f.x7],.agg #[i6 u0,i6 u1,i6 u2,i6 u3]] [] [] N0 (λ_=> .bool (mA f u0 u1 u2 u3)):=by
 refine fG Tryz.func69 λw cs=>?_
 refine ra (λq1=>[(2,pt (B0 q1) 0),(3,pt (B1 q1) 0),(4,.bool false)]) (λq1=>[ob (B0 q1) #[i6 f.x0,i6 f.x1,i6 f.x2,i6 f.x3,i6 f.x4,i6 f.x5,i6 f.x6,i6 f.x7] 48,ob (B1 q1) #[i6 u0,i6 u1,i6 u2,i6 u3] 46]) λq1=>rr (λ_=>[(1,.l 0),(3,.s 2)]) (λq2=>[(5,pt (B2 q2) 0)]) [] (λq2 L=>L++[ob (B2 q2) #[i6 f.x1,i6 f.x2,i6 f.x3,i6 f.x4] 46]) λq2=>r0 [(1,.l 0)] [(9,i6 f.x0)] [] (r0 [] [(10,.bool (f.x0==1))] [] ?_)
 refine cJ (f.x0==1) (λc=>[(10,.bool (bif c then f.x0==1 else f.x0==2))]) (λ_=>[ob (B0 q1) #[i6 f.x0,i6 f.x1,i6 f.x2,i6 f.x3,i6 f.x4,i6 f.x5,i6 f.x6,i6 f.x7] 48,ob (B1 q1) #[i6 u0,i6 u1,i6 u2,i6 u3] 46,ob (B2 q2) #[i6 f.x1,i6 f.x2,i6 f.x3,i6 f.x4] 46]) (λh5=>?_) (λh5=>?_) ?_
 ·have dh5:=eq_of_beq h5
  exact cm Kr [0,1,2] Kr
 ·have dh5:=ne_of_beq_false h5
  refine r0 [] [(10,.bool (f.x0==2))] [10] ?_
  exact cm Kr [0,1,2] Kr
 refine cB ((bif f.x0==1 then f.x0==1 else f.x0==2)) (λh7=>?_) λh7=>?_
 ·refine r0 [(0,.l 1),(1,.l 2),(2,.e)] [(4,.bool (u0==f.x1&&(u1==f.x2&&(u2==f.x3&&(u3==f.x4&&true)))))] [4] ?_
  exact am (.bool (u0==f.x1&&(u1==f.x2&&(u2==f.x3&&(u3==f.x4&&true))))) ab.zero (by((try simp only[mA]);(repeat (first | rw[h7] | rw[ALct])))<;>rfl) [] [] []
 refine r0 [] [(16,.bool (f.x0==3))] [] ?_
 refine cZ f.x0 3 (λh10 dh10=>?_) λh10 dh10=>?_
 ·refine rr (λ_=>[(1,.l 2),(3,.s 1)]) N0 [] (λ_ L=>L.set 1 (ob (B1 q1) #[i6 u0,i6 u1,i6 u2,i6 f.x4] 46)) λq11=>?_
  refine r0 [(0,.l 1),(1,.l 2),(2,.e)] [(4,.bool (u0==f.x1&&(u1==f.x2&&(u2==f.x3&&(f.x4==f.x4&&true)))))] [4] ?_
  exact am (.bool (u0==f.x1&&(u1==f.x2&&(u2==f.x3&&(f.x4==f.x4&&true))))) ab.zero (by((try simp only[mA]);(repeat (first | rw[h7] | rw[h10] | rw[ALct] | rw[ALcf])))<;>rfl) [] [] []
 refine r0 [] [(24,.bool (f.x0==4))] [] ?_
 refine cZ f.x0 4 (λh14 dh14=>?_) λh14 dh14=>?_
 ·refine rr (λ_=>[(1,.l 2),(3,.s 1)]) N0 [] (λ_ L=>L.set 1 (ob (B1 q1) #[i6 u0,i6 u1,i6 f.x3,i6 u3] 46)) λq15=>?_
  refine r0 [(0,.l 1),(1,.l 2),(2,.e)] [(4,.bool (u0==f.x1&&(u1==f.x2&&(f.x3==f.x3&&(u3==f.x4&&true)))))] [4] ?_
  exact am (.bool (u0==f.x1&&(u1==f.x2&&(f.x3==f.x3&&(u3==f.x4&&true))))) ab.zero (by((try simp only[mA]);(repeat (first | rw[h7] | rw[h10] | rw[h14] | rw[ALct] | rw[ALcf])))<;>rfl) [] [] []
 refine r0 [] [(32,.bool (f.x0==5))] [] ?_
 refine cZ f.x0 5 (λh18 dh18=>?_) λh18 dh18=>?_
 ·refine r0 [(1,.l 1),(3,.l 2)] [(4,.bool (u0==f.x1))] [4] ?_
  exact am (.bool (u0==f.x1)) ab.zero (by((try simp only[mA]);(repeat (first | rw[h7] | rw[h10] | rw[h14] | rw[h18] | rw[ALct] | rw[ALcf])))<;>rfl) [] [] []
 refine r0 [] [(4,.bool false)] [4] ?_
 exact am (.bool false) ab.zero (by((try simp only[mA]);(repeat (first | rw[h7] | rw[h10] | rw[h14] | rw[h18] | rw[ALcf])))<;>rfl) [] [] []
def jE(f:Fa):Int:=(bif f.x0==1 then f.x1 else(bif f.x0==2 then f.x1 else(bif f.x0==3 then f.x1 else(bif f.x0==4 then f.x1 else(bif f.x0==5 then f.x1 else(bif f.x0==7 then 0 else f.x1))))))
def jG(f:Fa):Int:=(bif f.x0==1 then(bif f.x0==3 then f.x2 else(bif f.x0==4 then f.x2 else(bif f.x0==5 then 0 else f.x2))) else(bif f.x0==2 then(bif f.x0==3 then f.x2 else(bif f.x0==4 then f.x2 else(bif f.x0==5 then 0 else f.x2))) else(bif f.x0==3 then f.x2 else(bif f.x0==4 then f.x2 else(bif f.x0==5 then 0 else(bif f.x0==7 then 0 else f.x2))))))
def jH(f:Fa):Int:=(bif f.x0==1 then(bif f.x0==3 then f.x3 else(bif f.x0==4 then 0 else(bif f.x0==5 then 0 else f.x3))) else(bif f.x0==2 then(bif f.x0==3 then f.x3 else(bif f.x0==4 then 0 else(bif f.x0==5 then 0 else f.x3))) else(bif f.x0==3 then f.x3 else(bif f.x0==4 then 0 else(bif f.x0==5 then 0 else(bif f.x0==7 then 0 else f.x3))))))
def jI(f:Fa):Int:=(bif f.x0==1 then(bif f.x0==3 then 0 else(bif f.x0==4 then f.x4 else(bif f.x0==5 then 0 else f.x4))) else(bif f.x0==2 then(bif f.x0==3 then 0 else(bif f.x0==4 then f.x4 else(bif f.x0==5 then 0 else f.x4))) else(bif f.x0==3 then 0 else(bif f.x0==4 then f.x4 else(bif f.x0==5 then 0 else(bif f.x0==7 then 0 else f.x4))))))
def jJ(f:Fa):Int:=(bif f.x0==1 then 0 else(bif f.x0==2 then 0 else(bif f.x0==3 then f.x5 else(bif f.x0==4 then f.x5 else(bif f.x0==5 then f.x5 else 0)))))
def jL(f:Fa):Int:=(bif f.x0==1 then f.x6 else(bif f.x0==2 then f.x6 else 0))
def jM(f:Fa):Int:=(bif f.x0==1 then 0 else(bif f.x0==2 then f.x7 else(bif f.x0==3 then f.x7 else(bif f.x0==4 then f.x7 else(bif f.x0==5 then f.x7 else 0)))))
theorem Ud(f:Fa):aa dZ 72 #[.agg #[i6 f.x0,i6 f.x1,i6 f.x2,i6 f.x3,i6 f.x4,i6 f.x5,i6 f.x6,i6 f.x7]] [] [] N0 (λ_=> .agg #[i6 f.x0,i6 (jE f),i6 (jG f),i6 (jH f),i6 (jI f),i6 (jJ f),i6 (jL f),i6 (jM f)]):=by
 refine fG Tryz.func72 λw cs=>?_
 refine ra (λq1=>[(1,pt (B0 q1) 0),(2,pt (B1 q1) 0)]) (λq1=>[ob (B0 q1) #[i6 f.x0,i6 f.x1,i6 f.x2,i6 f.x3,i6 f.x4,i6 f.x5,i6 f.x6,i6 f.x7] 48,ob (B1 q1) #[i6 0,i6 0,i6 0,i6 0,i6 0,i6 0,i6 0,i6 0] 48]) λq1=>rr (λ_=>[(1,.l 0),(3,.l 0),(6,.s 2)]) (λq2=>[(3,pt (B5 q2) 0)]) [] (λq2 L=>L++[ob (B5 q2) #[i6 f.x0,i6 f.x1,i6 f.x2,i6 f.x3,i6 f.x4,i6 0,i6 0,i6 0] 48]) λq2=>r0 [(1,.l 0)] [(10,i6 f.x0)] [] (r0 [] [(11,.bool (f.x0==1))] [] ?_)
 refine cZ f.x0 1 (λh5 dh5=>?_) λh5 dh5=>?_
 ·refine rr (λ_=>[(1,.l 0),(3,.s 2)]) N0 [] (λ_ L=>L.set 2 (ob (B5 q2) #[i6 f.x0,i6 f.x1,i6 f.x2,i6 f.x3,i6 f.x4,i6 0,i6 f.x6,i6 0] 48)) λq6=>?_
  refine r0 [(1,.l 0)] [(39,i6 f.x0)] [] (r0 [] [(40,.bool (f.x0==3))] [] ?_)
  refine cZ f.x0 3 (λh9 dh9=>?_) λh9 dh9=>?_
  ·refine rr (λ_=>[(2,.s 2)]) N0 [] (λ_ L=>L.set 2 (ob (B5 q2) #[i6 f.x0,i6 f.x1,i6 f.x2,i6 f.x3,i6 0,i6 0,i6 f.x6,i6 0] 48)) λq10=>?_
   refine rs [(0,.l 2),(1,.s 1)] 1 (ob (B1 q1) #[i6 f.x0,i6 f.x1,i6 f.x2,i6 f.x3,i6 0,i6 0,i6 f.x6,i6 0] 48) ?_
   exact am (.agg #[i6 f.x0,i6 f.x1,i6 f.x2,i6 f.x3,i6 0,i6 0,i6 f.x6,i6 0]) ab.zero (by((try simp only[jE,jG,jH,jI,jJ,jL,jM]);(repeat (first | rw[h5] | rw[h9] | rw[ALct])))<;>rfl) [] [] [1]
  refine r0 [] [(44,.bool (f.x0==4))] [] ?_
  refine cZ f.x0 4 (λh13 dh13=>?_) λh13 dh13=>?_
  ·refine rr (λ_=>[(2,.s 2)]) N0 [] (λ_ L=>L.set 2 (ob (B5 q2) #[i6 f.x0,i6 f.x1,i6 f.x2,i6 0,i6 f.x4,i6 0,i6 f.x6,i6 0] 48)) λq14=>?_
   refine rs [(0,.l 2),(1,.s 1)] 1 (ob (B1 q1) #[i6 f.x0,i6 f.x1,i6 f.x2,i6 0,i6 f.x4,i6 0,i6 f.x6,i6 0] 48) ?_
   exact am (.agg #[i6 f.x0,i6 f.x1,i6 f.x2,i6 0,i6 f.x4,i6 0,i6 f.x6,i6 0]) ab.zero (by((try simp only[jE,jG,jH,jI,jJ,jL,jM]);(repeat (first | rw[h5] | rw[h9] | rw[h13] | rw[ALct] | rw[ALcf])))<;>rfl) [] [] [1]
  refine r0 [] [(48,.bool (f.x0==5))] [] ?_
  refine cZ f.x0 5 (λh17 dh17=>?_) λh17 dh17=>?_
  ·refine rr (λ_=>[(2,.l 0),(5,.s 2)]) N0 [] (λ_ L=>L.set 2 (ob (B5 q2) #[i6 f.x0,i6 f.x1,i6 0,i6 0,i6 0,i6 0,i6 f.x6,i6 0] 48)) λq18=>?_
   refine rs [(0,.l 2),(1,.s 1)] 1 (ob (B1 q1) #[i6 f.x0,i6 f.x1,i6 0,i6 0,i6 0,i6 0,i6 f.x6,i6 0] 48) ?_
   exact am (.agg #[i6 f.x0,i6 f.x1,i6 0,i6 0,i6 0,i6 0,i6 f.x6,i6 0]) ab.zero (by((try simp only[jE,jG,jH,jI,jJ,jL,jM]);(repeat (first | rw[h5] | rw[h9] | rw[h13] | rw[h17] | rw[ALct] | rw[ALcf])))<;>rfl) [] [] [1]
  refine rs [(0,.l 2),(1,.s 1)] 1 (ob (B1 q1) #[i6 f.x0,i6 f.x1,i6 f.x2,i6 f.x3,i6 f.x4,i6 0,i6 f.x6,i6 0] 48) ?_
  exact am (.agg #[i6 f.x0,i6 f.x1,i6 f.x2,i6 f.x3,i6 f.x4,i6 0,i6 f.x6,i6 0]) ab.zero (by((try simp only[jE,jG,jH,jI,jJ,jL,jM]);(repeat (first | rw[h5] | rw[h9] | rw[h13] | rw[h17] | rw[ALct] | rw[ALcf])))<;>rfl) [] [] [1]
 refine r0 [] [(16,.bool (f.x0==2))] [] ?_
 refine cZ f.x0 2 (λh22 dh22=>?_) λh22 dh22=>?_
 ·refine rr (λ_=>[(1,.l 0),(3,.l 0),(5,.s 2),(7,.s 2)]) N0 [] (λ_ L=>L.set 2 (ob (B5 q2) #[i6 f.x0,i6 f.x1,i6 f.x2,i6 f.x3,i6 f.x4,i6 0,i6 f.x6,i6 f.x7] 48)) λq23=>?_
  refine r0 [(1,.l 0)] [(39,i6 f.x0)] [] (r0 [] [(40,.bool (f.x0==3))] [] ?_)
  refine cZ f.x0 3 (λh26 dh26=>?_) λh26 dh26=>?_
  ·refine rr (λ_=>[(2,.s 2)]) N0 [] (λ_ L=>L.set 2 (ob (B5 q2) #[i6 f.x0,i6 f.x1,i6 f.x2,i6 f.x3,i6 0,i6 0,i6 f.x6,i6 f.x7] 48)) λq27=>?_
   refine rs [(0,.l 2),(1,.s 1)] 1 (ob (B1 q1) #[i6 f.x0,i6 f.x1,i6 f.x2,i6 f.x3,i6 0,i6 0,i6 f.x6,i6 f.x7] 48) ?_
   exact am (.agg #[i6 f.x0,i6 f.x1,i6 f.x2,i6 f.x3,i6 0,i6 0,i6 f.x6,i6 f.x7]) ab.zero (by((try simp only[jE,jG,jH,jI,jJ,jL,jM]);(repeat (first | rw[h5] | rw[h22] | rw[h26] | rw[ALct] | rw[ALcf])))<;>rfl) [] [] [1]
  refine r0 [] [(44,.bool (f.x0==4))] [] ?_
  refine cZ f.x0 4 (λh30 dh30=>?_) λh30 dh30=>?_
  ·refine rr (λ_=>[(2,.s 2)]) N0 [] (λ_ L=>L.set 2 (ob (B5 q2) #[i6 f.x0,i6 f.x1,i6 f.x2,i6 0,i6 f.x4,i6 0,i6 f.x6,i6 f.x7] 48)) λq31=>?_
   refine rs [(0,.l 2),(1,.s 1)] 1 (ob (B1 q1) #[i6 f.x0,i6 f.x1,i6 f.x2,i6 0,i6 f.x4,i6 0,i6 f.x6,i6 f.x7] 48) ?_
   exact am (.agg #[i6 f.x0,i6 f.x1,i6 f.x2,i6 0,i6 f.x4,i6 0,i6 f.x6,i6 f.x7]) ab.zero (by((try simp only[jE,jG,jH,jI,jJ,jL,jM]);(repeat (first | rw[h5] | rw[h22] | rw[h26] | rw[h30] | rw[ALct] | rw[ALcf])))<;>rfl) [] [] [1]
  refine r0 [] [(48,.bool (f.x0==5))] [] ?_
  refine cZ f.x0 5 (λh34 dh34=>?_) λh34 dh34=>?_
  ·refine rr (λ_=>[(2,.l 0),(5,.s 2)]) N0 [] (λ_ L=>L.set 2 (ob (B5 q2) #[i6 f.x0,i6 f.x1,i6 0,i6 0,i6 0,i6 0,i6 f.x6,i6 f.x7] 48)) λq35=>?_
   refine rs [(0,.l 2),(1,.s 1)] 1 (ob (B1 q1) #[i6 f.x0,i6 f.x1,i6 0,i6 0,i6 0,i6 0,i6 f.x6,i6 f.x7] 48) ?_
   exact am (.agg #[i6 f.x0,i6 f.x1,i6 0,i6 0,i6 0,i6 0,i6 f.x6,i6 f.x7]) ab.zero (by((try simp only[jE,jG,jH,jI,jJ,jL,jM]);(repeat (first | rw[h5] | rw[h22] | rw[h26] | rw[h30] | rw[h34] | rw[ALct] | rw[ALcf])))<;>rfl) [] [] [1]
  refine rs [(0,.l 2),(1,.s 1)] 1 (ob (B1 q1) #[i6 f.x0,i6 f.x1,i6 f.x2,i6 f.x3,i6 f.x4,i6 0,i6 f.x6,i6 f.x7] 48) ?_
  exact am (.agg #[i6 f.x0,i6 f.x1,i6 f.x2,i6 f.x3,i6 f.x4,i6 0,i6 f.x6,i6 f.x7]) ab.zero (by((try simp only[jE,jG,jH,jI,jJ,jL,jM]);(repeat (first | rw[h5] | rw[h22] | rw[h26] | rw[h30] | rw[h34] | rw[ALct] | rw[ALcf])))<;>rfl) [] [] [1]
 refine r0 [] [(24,.bool (f.x0==3))] [] ?_
 refine cZ f.x0 3 (λh39 dh39=>?_) λh39 dh39=>?_
 ·refine cT (f.x0==3) h39 ?_
  refine rs [(1,.l 0),(3,.l 0),(5,.s 2),(7,.s 2)] 2 (ob (B5 q2) #[i6 f.x0,i6 f.x1,i6 f.x2,i6 f.x3,i6 f.x4,i6 f.x5,i6 0,i6 f.x7] 48) (r0 [(1,.l 0)] [(39,i6 f.x0)] [] (rT [(0,.t (tk (show Value.bool (f.x0==3)= .bool true from ALca Value.bool h39)))] 40 (rs [(2,.s 2)] 2 (ob (B5 q2) #[i6 f.x0,i6 f.x1,i6 f.x2,i6 f.x3,i6 0,i6 f.x5,i6 0,i6 f.x7] 48) (rs [(0,.l 2),(1,.s 1)] 1 (ob (B1 q1) #[i6 f.x0,i6 f.x1,i6 f.x2,i6 f.x3,i6 0,i6 f.x5,i6 0,i6 f.x7] 48) ?_))))
  exact am (.agg #[i6 f.x0,i6 f.x1,i6 f.x2,i6 f.x3,i6 0,i6 f.x5,i6 0,i6 f.x7]) ab.zero (by((try simp only[jE,jG,jH,jI,jJ,jL,jM]);(repeat (first | rw[h5] | rw[h22] | rw[h39] | rw[ALct] | rw[ALcf])))<;>rfl) [] [] [1]
 refine r0 [] [(24,.bool (f.x0==4))] [24] ?_
 refine cZ f.x0 4 (λh46 dh46=>?_) λh46 dh46=>?_
 ·refine cT (f.x0==4) h46 ?_
  refine rs [(1,.l 0),(3,.l 0),(5,.s 2),(7,.s 2)] 2 (ob (B5 q2) #[i6 f.x0,i6 f.x1,i6 f.x2,i6 f.x3,i6 f.x4,i6 f.x5,i6 0,i6 f.x7] 48) (r0 [(1,.l 0)] [(39,i6 f.x0)] [] (rF [(0,.t (tk (show Value.bool (f.x0==3)= .bool false from ALca Value.bool h39)))] 40 (rT [(0,.t (tk (show Value.bool (f.x0==4)= .bool true from ALca Value.bool h46)))] 44 (rs [(2,.s 2)] 2 (ob (B5 q2) #[i6 f.x0,i6 f.x1,i6 f.x2,i6 0,i6 f.x4,i6 f.x5,i6 0,i6 f.x7] 48) (rs [(0,.l 2),(1,.s 1)] 1 (ob (B1 q1) #[i6 f.x0,i6 f.x1,i6 f.x2,i6 0,i6 f.x4,i6 f.x5,i6 0,i6 f.x7] 48) ?_)))))
  exact am (.agg #[i6 f.x0,i6 f.x1,i6 f.x2,i6 0,i6 f.x4,i6 f.x5,i6 0,i6 f.x7]) ab.zero (by((try simp only[jE,jG,jH,jI,jJ,jL,jM]);(repeat (first | rw[h5] | rw[h22] | rw[h39] | rw[h46] | rw[ALct] | rw[ALcf])))<;>rfl) [] [] [1]
 refine r0 [] [(24,.bool (f.x0==5))] [24] ?_
 refine cZ f.x0 5 (λh54 dh54=>?_) λh54 dh54=>?_
 ·refine rr (λ_=>[(1,.l 0),(3,.l 0),(5,.s 2),(7,.s 2)]) N0 [] (λ_ L=>L.set 2 (ob (B5 q2) #[i6 f.x0,i6 f.x1,i6 f.x2,i6 f.x3,i6 f.x4,i6 f.x5,i6 0,i6 f.x7] 48)) λq55=>?_
  refine r0 [(1,.l 0)] [(39,i6 f.x0)] [] (rF [(0,.t (tk (show Value.bool (f.x0==3)= .bool false from ALca Value.bool h39)))] 40 (rF [(0,.t (tk (show Value.bool (f.x0==4)= .bool false from ALca Value.bool h46)))] 44 (rT [(0,.t (tk (show Value.bool (f.x0==5)= .bool true from ALca Value.bool h54)))] 48 (rs [(2,.l 0),(5,.s 2)] 2 (ob (B5 q2) #[i6 f.x0,i6 f.x1,i6 0,i6 0,i6 0,i6 f.x5,i6 0,i6 f.x7] 48) (rs [(0,.l 2),(1,.s 1)] 1 (ob (B1 q1) #[i6 f.x0,i6 f.x1,i6 0,i6 0,i6 0,i6 f.x5,i6 0,i6 f.x7] 48) ?_)))))
  exact am (.agg #[i6 f.x0,i6 f.x1,i6 0,i6 0,i6 0,i6 f.x5,i6 0,i6 f.x7]) ab.zero (by((try simp only[jE,jG,jH,jI,jJ,jL,jM]);(repeat (first | rw[h5] | rw[h22] | rw[h39] | rw[h46] | rw[h54] | rw[ALct] | rw[ALcf])))<;>rfl) [] [] [1]
 refine r0 [] [(34,.bool (f.x0==7))] [] ?_
 refine cZ f.x0 7 (λh63 dh63=>?_) λh63 dh63=>?_
 ·refine rr (λ_=>[(2,.s 2)]) N0 [] (λ_ L=>L.set 2 (ob (B5 q2) #[i6 f.x0,i6 0,i6 0,i6 0,i6 0,i6 0,i6 0,i6 0] 48)) λq64=>?_
  refine r0 [(1,.l 0)] [(39,i6 f.x0)] [] (rF [(0,.t (tk (show Value.bool (f.x0==3)= .bool false from ALca Value.bool h39)))] 40 (rF [(0,.t (tk (show Value.bool (f.x0==4)= .bool false from ALca Value.bool h46)))] 44 (rF [(0,.t (tk (show Value.bool (f.x0==5)= .bool false from ALca Value.bool h54)))] 48 (rs [(0,.l 2),(1,.s 1)] 1 (ob (B1 q1) #[i6 f.x0,i6 0,i6 0,i6 0,i6 0,i6 0,i6 0,i6 0] 48) ?_))))
  exact am (.agg #[i6 f.x0,i6 0,i6 0,i6 0,i6 0,i6 0,i6 0,i6 0]) ab.zero (by((try simp only[jE,jG,jH,jI,jJ,jL,jM]);(repeat (first | rw[h5] | rw[h22] | rw[h39] | rw[h46] | rw[h54] | rw[h63] | rw[ALct] | rw[ALcf])))<;>rfl) [] [] [1]
 refine r0 [(1,.l 0)] [(39,i6 f.x0)] [] (rF [(0,.t (tk (show Value.bool (f.x0==3)= .bool false from ALca Value.bool h39)))] 40 (rF [(0,.t (tk (show Value.bool (f.x0==4)= .bool false from ALca Value.bool h46)))] 44 (rF [(0,.t (tk (show Value.bool (f.x0==5)= .bool false from ALca Value.bool h54)))] 48 (rs [(0,.l 2),(1,.s 1)] 1 (ob (B1 q1) #[i6 f.x0,i6 f.x1,i6 f.x2,i6 f.x3,i6 f.x4,i6 0,i6 0,i6 0] 48) ?_))))
 exact am (.agg #[i6 f.x0,i6 f.x1,i6 f.x2,i6 f.x3,i6 f.x4,i6 0,i6 0,i6 0]) ab.zero (by((try simp only[jE,jG,jH,jI,jJ,jL,jM]);(repeat (first | rw[h5] | rw[h22] | rw[h39] | rw[h46] | rw[h54] | rw[h63] | rw[ALcf])))<;>rfl) [] [] [1]
def nV(f:Fa)(R S B M C m:Nat):Bool:=(((((((decide (1≤f.x0))&&(decide (f.x0≤7)))&&(((m:Int)==1)||((m:Int)==2)))&&(f.x0==f.x0&&(f.x1==(jE f)&&(f.x2==(jG f)&&(f.x3==(jH f)&&(f.x4==(jI f)&&(f.x5==(jJ f)&&(f.x6==(jL f)&&(f.x7==(jM f)&&true)))))))))&&(hold R S B M C f.x1 f.x2 f.x3 f.x4))&&(bQ f.x6 576))&&(bQ f.x5 ((aU (m:Int):Nat):Int)))&&(bQ f.x7 (bif f.x0==2 then 2 else 256))
theorem Ue(f:Fa)(R S B M C m:Nat)(hG:f9 R S B M C)(hm:m=1∨m=2):aa dZ 38 #[.agg #[i6 f.x0,i6 f.x1,i6 f.x2,i6 f.x3,i6 f.x4,i6 f.x5,i6 f.x6,i6 f.x7],.agg #[iN R,iN S,iN B,iN M,iN C],iN m] [] [] N0 (λ_=> .bool (nV f R S B M C m)):=by
 refine fG Tryz.func38 λw cs=>?_
 refine ra (λq1=>[(3,pt (B0 q1) 0),(4,pt (B1 q1) 0),(6,.bool false)]) (λq1=>[ob (B0 q1) #[i6 f.x0,i6 f.x1,i6 f.x2,i6 f.x3,i6 f.x4,i6 f.x5,i6 f.x6,i6 f.x7] 48,ob (B1 q1) #[iN R,iN S,iN B,iN M,iN C] 23]) λq1=>r0 [] [(7,i6 256)] [] (r0 [(1,.l 0)] [(10,.bool (f.x0==2))] [] ?_)
 refine cJ (f.x0==2) (λc=>[(7,i6 (bif c then 2 else 256))]) (λ_=>[ob (B0 q1) #[i6 f.x0,i6 f.x1,i6 f.x2,i6 f.x3,i6 f.x4,i6 f.x5,i6 f.x6,i6 f.x7] 48,ob (B1 q1) #[iN R,iN S,iN B,iN M,iN C] 23]) (λh4=>?_) (λh4=>?_) ?_
 ·have dh4:=eq_of_beq h4
  refine r0 [] [(7,i6 2)] [7] ?_
  exact cm Kr [0,1] Kr
 ·have dh4:=ne_of_beq_false h4
  exact cm Kr [0,1] Kr
 exact r0 [(1,.m (ld 0 (i6 f.x0))),(5,.m (ld 0 (i6 f.x0))),(10,.c [] [] (py (m:Int))),(13,.m (ls 0 ([i6 f.x0,i6 f.x1,i6 f.x2,i6 f.x3,i6 f.x4,i6 f.x5,i6 f.x6,i6 f.x7]))),(14,.m (ls 0 ([i6 f.x0,i6 f.x1,i6 f.x2,i6 f.x3,i6 f.x4,i6 f.x5,i6 f.x6,i6 f.x7]))),(15,.c [] [] (Ud f)),(16,.e),(19,.m (ls 1 ([iN R,iN S,iN B,iN M,iN C]))),(21,.m (ls 0 ([i6 f.x1,i6 f.x2,i6 f.x3,i6 f.x4]))),(22,.c [] [] (sP R S B M C hG f.x1 f.x2 f.x3 f.x4)),(26,.m (ld 0 (i6 f.x6))),(27,.c [] [] (Ah f.x6 576)),(31,.m (ld 0 (i6 f.x5))),(33,.c [] [] (Gn m hm)),(34,.c [] [] (Ah f.x5 ((aU (m:Int):Nat):Int))),(38,.m (ld 0 (i6 f.x7))),(40,.c [] [] (Ah f.x7 (bif f.x0==2 then 2 else 256)))] [(6,.bool ((((((((decide (1≤f.x0))&&(decide (f.x0≤7)))&&(((m:Int)==1)||((m:Int)==2)))&&(f.x0==f.x0&&(f.x1==(jE f)&&(f.x2==(jG f)&&(f.x3==(jH f)&&(f.x4==(jI f)&&(f.x5==(jJ f)&&(f.x6==(jL f)&&(f.x7==(jM f)&&true)))))))))&&(hold R S B M C f.x1 f.x2 f.x3 f.x4))&&(bQ f.x6 576))&&(bQ f.x5 ((aU (m:Int):Nat):Int)))&&(bQ f.x7 (bif f.x0==2 then 2 else 256))))] [6] (lf ab.zero [] [] [])
theorem Uf{P:Program}{T:TypeId}{x y:Operand}{w:World}{yk:IntKind}{a:Nat}(n:Nat)(hn:n≤8):(ar .shr T x y (.int .u8 (a:Int)) (.int yk (n:Int))).run P w= .ok (.int .u8 ((a/2^n:Nat):Int)) w:=by
 unfold ar
 simp only[Sem.run_bind,eqGuard_shr,Sem.run_pure,Result.andThen_ok,binOp_shr,shift_shr_u8 _ _ _ (Int.natCast_nonneg n) Om,Int.toNat_natCast]
 push_cast
 rfl
def oO(xs:List UInt8)(b:Nat):Nat:=(xs.getD (b/8) 0).toNat/2^(b%8)%2
theorem Ug(x:UInt8)(n:Nat):x.toNat/2^n<256:=Nat.lt_of_le_of_lt (Nat.div_le_self _ _) x.toNat_lt
theorem Uh(v:Value)(xs:List UInt8)(hx:xs.length=72)(b:Int)(h0:0≤b)(h1:b<576):aa dZ 284 #[v,i6 b] [.p (aK eB v xs)] [] N0 (λ_=>i6 ((oO xs b.toNat:Nat):Int)):=by
 refine fO Tryz.func284 0 rfl λbq0 hq0=>?_
 refine fG Tryz.func284 λw cs=>?_
 exact r0 [] [(4,i6 0)] [] (rF [(1,.t (tk (show Value.bool (decide (b<0))= .bool false from ALca Value.bool (by exact bj Om)))),(4,.t (tv (ar .shr 3 (.tmp 8) (.const (u6 3)) (i6 b) (u6 3)) (λ_=>dU (b:=((b.toNat/8:Nat):Int)) (i8 3 Dc) Om))),(6,eR hq0.1 0),(7,.t (tk (show Value.bool (decide ((xs.length:Int)≤((b.toNat/8:Nat):Int)))= .bool false from ALca Value.bool (by exact bj Om))))] 13 (r0 [(2,.t (tv (ar .shr 3 (.tmp 15) (.const (u6 3)) (i6 b) (u6 3)) (λ_=>dU (b:=((b.toNat/8:Nat):Int)) (i8 3 Dc) Om))),(3,fF hq0.1 0 (b.toNat/8) 1),(4,jr kB hq0.1 0 (b.toNat/8) 0),(6,.t (tv (ar .and 3 (.tmp 19) (.const (i6 7)) (i6 b) (i6 7)) (λ_=>dU (b:=((b.toNat%8:Nat):Int)) (mO _ 3 8 Dc Dc Dc Dc) Om))),(7,.t (tc (k:= .i64) (l:= .u64) (a:=i6 ((b.toNat%8:Nat):Int)) λ_ _ _ hS hT=>Zu hS hT Om)),(8,.t (tv (ar .shr 5 (.tmp 18) (.tmp 21) (u1 ((xs.getD (b.toNat/8) 0).toNat:Int)) (u6 ((b.toNat%8:Nat):Int))) (λ_=>Uf (b.toNat%8) Om))),(9,.t (tv (convert 5 3 (u1 (((xs.getD (b.toNat/8) 0).toNat/2^(b.toNat%8):Nat):Int))) (λ_=>JP Tryz.underlying5 Tryz.underlying3 (Ug _ _)))),(10,.t (tv (ar .and 3 (.tmp 23) (.const (i6 1)) (i6 (((xs.getD (b.toNat/8) 0).toNat/2^(b.toNat%8):Nat):Int)) (i6 1)) (λ_=>CK)))] [(4,i6 ((oO xs b.toNat:Nat):Int))] [4] (lf ab.zero [] [(0,0)] [])))
theorem Gr(xs:List UInt8)(hx:xs.length=72)(b:Int)(h0:0≤b)(h1:b<576):aa dZ 168 #[.agg (rB 72 xs).toArray,i6 b] [] [] N0 (λ_=> .agg (rB 72 (xs.set (b.toNat/8) ((xs.getD (b.toNat/8) 0)^^^(UInt8.ofNat (1*2^(b.toNat%8)))))).toArray):=by
 refine fG Tryz.func168 λw cs=>?_
 refine ra (λq1=>[(2,pt (B0 q1) 0),(4,pt (B1 q1) 0)]) (λq1=>[ob (B0 q1) (rB 72 xs).toArray 217,ob (B1 q1) (rB 72 (List.replicate 72 0)).toArray 217]) λq1=>r0 [] [(10,.bool ((decide (0≤b))&&(decide (b<576))))] [] ?_
 have h3:((decide (0≤b))&&(decide (b<576)))=true:=by rw[cC Om,cC Om];rfl
 exact cT ((decide (0≤b))&&(decide (b<576))) h3 (rs [(1,.t (tv (ar .shr 3 (.tmp 11) (.const (u6 3)) (i6 b) (u6 3)) (λ_=>dU (b:=((b.toNat/8:Nat):Int)) (i8 3 Dc) Om))),(2,iA 217 .i64 (B0 q1) 0 72 1 (b.toNat/8)),(3,rD 0 (B0 q1) (b.toNat/8) 217 (rB 72 xs) (ol Om)),(5,.t (tv (ar .and 3 (.tmp 15) (.const (i6 7)) (i6 b) (i6 7)) (λ_=>dU (b:=((b.toNat%8:Nat):Int)) (mO _ 3 8 Dc Dc Dc Dc) Om))),(6,.t (tc (k:= .i64) (l:= .u64) (a:=i6 ((b.toNat%8:Nat):Int)) λ_ _ _ hS hT=>Zu hS hT Om)),(7,.t (tv (ar .shl 5 (.const (u1 1)) (.tmp 17) (u1 1) (u6 ((b.toNat%8:Nat):Int))) (λ_=>uV (a:=1) (b.toNat%8) Om))),(8,.t (tb (a:=u1 ((xs.getD (b.toNat/8) 0).toNat:Int)) (b:=u1 ((UInt8.ofNat (1*2^(b.toNat%8))).toNat:Int)) λ_ _ _ _=>Zs (xs.getD (b.toNat/8) 0) ((UInt8.ofNat (1*2^(b.toNat%8)))))),(9,iA 217 .i64 (B0 q1) 0 72 1 (b.toNat/8)),(10,wD 0 (B0 q1) (b.toNat/8) 217 (u1 (((xs.getD (b.toNat/8) 0)^^^(UInt8.ofNat (1*2^(b.toNat%8)))).toNat:Int)) (rB 72 xs) (rB 72 (xs.set (b.toNat/8) ((xs.getD (b.toNat/8) 0)^^^(UInt8.ofNat (1*2^(b.toNat%8)))))) (kg Om) (mJ hx))] 0 (ob (B0 q1) (rB 72 (xs.set (b.toNat/8) ((xs.getD (b.toNat/8) 0)^^^(UInt8.ofNat (1*2^(b.toNat%8)))))).toArray 217) (rs [(0,.l 0),(1,.s 1)] 1 (ob (B1 q1) (rB 72 (xs.set (b.toNat/8) ((xs.getD (b.toNat/8) 0)^^^(UInt8.ofNat (1*2^(b.toNat%8)))))).toArray 217) (lf ab.zero [] [] [1])))
theorem Ui{α:Type}{en:α→List Value}{d:α}{a m:Nat}{ys:List α}{t:TypeId}(h1: ∀x,(en x).length=1)(h:ys.length=m):aK en (.slice (some ⟨a,0,none⟩) m m) ys [(a,.cells ((cR en d m ys).toArray) t (0,0))]:=⟨pj h1 h,some ⟨a,0,none⟩,0,by rw[h];rfl⟩
theorem wi(m:Int):aU m≤36:=by unfold aU;split<;>(try split)<;>omega
theorem Gs(m:Int):dL m≤8:=by unfold dL;split<;>(try split)<;>omega
theorem Ai{m:Int}{k:Nat}(hk:k≤dL m):aU m*k≤72:=by
 by_cases h1:m=1
 ·subst h1
  have h2:k≤8:=hk
  show 9*k≤72
  omega
 ·by_cases h2:m=2
  ·subst h2
   have h3:k≤2:=hk
   show 36*k≤72
   omega
  ·unfold aU;rw[ALifn h1,ALifn h2];omega
theorem Aj{m:Int}{xs ys:List UInt8}(o:Nat): ∀k,cp (λi=>dk m (xs.getD (o+i) 0) (ys.getD (o+i) 0)) k≤8*k
 | 0=>Nat.le_refl _
 | k+1=>by
  rw[cp]
  have h:=Aj (m:=m) (xs:=xs) (ys:=ys) o k
  have h2:=O7 m (xs.getD (o+k) 0) (ys.getD (o+k) 0)
  have h3:dk m (xs.getD (o+k) 0) (ys.getD (o+k) 0)≤8:=by
   split at h2<;>omega
  omega
theorem Gt{m:Int}{xs ys:List UInt8}(k:Nat):cp (λi=>dk m (xs.getD i 0) (ys.getD i 0)) k≤8*k:=by
 have h:=Aj (m:=m) (xs:=xs) (ys:=ys) 0 k
 simpa using h
theorem Gu{f g:Nat→Nat}: ∀{n:Nat},(∀i,i<n→f i=g i)→cp f n=cp g n
 | 0,_=>rfl
 | n+1,h=>by rw[cp,cp,Gu λi hi=>h i (Nat.lt_succ_of_lt hi),h n (Nat.lt_succ_self n)]
theorem Gv{xs:List UInt8}{o n i:Nat}(h:i<n):((xs.drop o).take n).getD i 0=xs.getD (o+i) 0:=by
 rw[ir,List.getElem?_take,ALifp h,List.getElem?_drop,ir]
theorem Uj(a b:UInt8):dk 1 a b=pc (a^^^b).toNat:=ALifp rfl
theorem Uk{a b:UInt8}(h:((a.toNat:Int) != (b.toNat:Int))=true):dk 2 a b=1:=by
 unfold dk
 rw[ALifn Dc,ALifn (λe=>by subst e;simp at h)]
theorem Ul{a b:UInt8}(h:((a.toNat:Int) != (b.toNat:Int))=false):dk 2 a b=0:=by
 unfold dk
 have h1:=bne_eq_false_iff_eq.1 h
 rw[ALifn Dc,ALifp (UInt8.toNat_inj.1 Om)]
theorem Um(m:Int)(a b:List UInt8)(k:Nat):((kx m a b (k+1):Nat):Int)=max ((kx m a b k:Nat):Int) ((cp (λi=>dk m (((a.drop (aU m*k)).take (aU m)).getD i 0) (((b.drop (aU m*k)).take (aU m)).getD i 0)) (aU m):Nat):Int):=by
 rw[show cp (λi=>dk m (((a.drop (aU m*k)).take (aU m)).getD i 0) (((b.drop (aU m*k)).take (aU m)).getD i 0)) (aU m)=wC m a b k from Gu λi hi=>by rw[Gv hi,Gv hi],kx]
 omega
theorem Un(xs ys:List UInt8)(k:Nat):cp (λz=>dk 1 (xs.getD z 0) (ys.getD z 0)) (k+1)=cp (λz=>dk 1 (xs.getD z 0) (ys.getD z 0)) k+pc (xs.getD k 0^^^ys.getD k 0).toNat:=by rw[cp,Uj]
theorem Uo(xs ys:List UInt8)(k:Nat):cp (λz=>dk 2 (xs.getD z 0) (ys.getD z 0)) (k+1)=bif ((xs.getD k 0).toNat:Int) != ((ys.getD k 0).toNat:Int) then cp (λz=>dk 2 (xs.getD z 0) (ys.getD z 0)) k+1 else cp (λz=>dk 2 (xs.getD z 0) (ys.getD z 0)) k:=by
 rw[cp]
 cases h:((xs.getD k 0).toNat:Int) != ((ys.getD k 0).toNat:Int) with
 | true=>rw[Uk h];rfl
 | false=>rw[Ul h];rfl
theorem Up(b:UInt8):pc b.toNat≤8:=Em b.toNat_lt
theorem Gw(f:Nat→Nat):cp f 0=0:=by rw[cp]
theorem Gx(m:Nat)(hm:m=1∨m=2)(xs:List UInt8)(hx:xs.length=72)(q:Nat)(hq:q<dL (m:Int)):aa dZ 194 #[.agg (rB 72 xs).toArray,iN m,iN q] [] [] (λE=>[bE (E.val 0) ((xs.drop (aU (m:Int)*q)).take (aU (m:Int)))]) (λE=>E.val 0):=by
 rcases hm with rfl | rfl
 ·exact D1 xs hx q hq
 ·exact D2 xs hx q hq
attribute [local irreducible] cp kx pc dk aU dL oO
theorem Uq(v u:Value)(xs ys:List UInt8)(hl5:ys.length=xs.length)(hn:xs.length≤100):aa dZ 226 #[v,u] [.p (aK eB v xs),.p (aK eB u ys)] [] N0 (λ_=>i6 ((cp (λz=>dk 1 (xs.getD z 0) (ys.getD z 0)) xs.length:Nat):Int)):=by
 refine fO Tryz.func226 0 rfl λbq0 hq0=>?_
 refine fO Tryz.func226 1 rfl λbq1 hq1=>?_
 refine fG Tryz.func226 λw cs=>?_
 refine r0 [] [(4,i6 0)] [] (rF [(1,eR hq0.1 0),(3,eR hq1.1 1),(4,.t (tk (show Value.bool (decide ((ys.length:Int)<(xs.length:Int)))= .bool false from ALca Value.bool (by exact bj Om))))] 12 (r0 [(1,eR hq1.1 1),(3,eR hq0.1 0),(4,.t (tv (ar .sub 3 (.tmp 16) (.tmp 18) (iN ys.length) (iN xs.length)) (λ_=>dU (b:=0) (rx Om Om) Om)))] [(5,i6 0)] [] (r0 [(1,eR hq0.1 0)] [(21,v),(22,iN xs.length),(23,i6 0)] [] ?_)))
 refine lq (λi=>i≤xs.length) (λi=>[(23,iN i),(5,i6 ((cp (λz=>dk 1 (xs.getD z 0) (ys.getD z 0)) i:Nat):Int))]) (λ_ L=>L) (λi=>xs.length-i) 0 Om (by rw[Gw];kernel_rfl) Kr (λi hk5=>?_)
 have hsl:=Gt (m:=1) (xs:=xs) (ys:=ys) i
 have hp8:=Up (xs.getD i 0^^^ys.getD i 0)
 have hx8:=(xs.getD i 0^^^ys.getD i 0).toNat_lt
 refine r0 [] [(24,.bool (decide ((i:Int)<(xs.length:Int))))] [] ?_
 refine cj (i:Int) (xs.length:Int) (λh7 dh7=>?_) λh7 dh7=>?_
 ·refine r0 [(1,fF hq0.1 0 i 1),(2,jr kB hq0.1 0 i 0)] [(6,iN i),(7,u1 ((xs.getD i 0).toNat:Int))] [] ?_
  refine r0 [(4,fF hq1.1 1 i 1),(5,jr kB hq1.1 1 i 0),(6,.t (tb (a:=u1 ((xs.getD i 0).toNat:Int)) (b:=u1 ((ys.getD i 0).toNat:Int)) λ_ _ _ _=>Zs (xs.getD i 0) (ys.getD i 0))),(7,.c [] [] (CS (((xs.getD i 0)^^^(ys.getD i 0)).toNat) Om)),(8,ad (cp (λz=>dk 1 (xs.getD z 0) (ys.getD z 0)) i) (pc (((xs.getD i 0)^^^(ys.getD i 0)).toNat)))] [(5,i6 (((cp (λz=>dk 1 (xs.getD z 0) (ys.getD z 0)) i)+(pc (((xs.getD i 0)^^^(ys.getD i 0)).toNat)):Nat):Int))] [5] (r0 [(0,ad i 1)] [(23,i6 ((i+1:Nat):Int))] [23] ?_)
  exact le (i+1) Om Om (by rw[Un];kernel_rfl) [0,1] Kr
 obtain rfl:i=xs.length:=by omega
 refine lx ?_
 exact r0 [] [(4,i6 ((cp (λz=>dk 1 (xs.getD z 0) (ys.getD z 0)) xs.length:Nat):Int))] [4] (lf ab.zero [] [(0,0),(1,1)] [])
theorem Ur(v u:Value)(xs ys:List UInt8)(hl5:ys.length=xs.length)(hn:xs.length≤100):aa dZ 193 #[i6 1,v,u] [.p (aK eB v xs),.p (aK eB u ys)] [] N0 (λ_=>i6 ((cp (λz=>dk 1 (xs.getD z 0) (ys.getD z 0)) xs.length:Nat):Int)):=by
 refine fO Tryz.func193 0 rfl λbq0 hq0=>?_
 refine fO Tryz.func193 1 rfl λbq1 hq1=>?_
 refine fG Tryz.func193 λw cs=>?_
 exact r0 [] [(6,i6 0)] [] (rT [] 11 (r0 [(2,.c [0,1] [] (aa.at (rd':=[.c bq0,.c bq1]) (Uq v u xs ys Om Om) (em hq0 (em hq1 (λ_ h=>h)))))] [(6,i6 ((cp (λz=>dk 1 (xs.getD z 0) (ys.getD z 0)) xs.length:Nat):Int))] [6] (lf ab.zero [] [(0,0),(1,1)] [])))
theorem Us(v u:Value)(xs ys:List UInt8)(hl5:ys.length=xs.length)(hn:xs.length≤100):aa dZ 193 #[i6 2,v,u] [.p (aK eB v xs),.p (aK eB u ys)] [] N0 (λ_=>i6 ((cp (λz=>dk 2 (xs.getD z 0) (ys.getD z 0)) xs.length:Nat):Int)):=by
 refine fO Tryz.func193 0 rfl λbq0 hq0=>?_
 refine fO Tryz.func193 1 rfl λbq1 hq1=>?_
 refine fG Tryz.func193 λw cs=>?_
 refine r0 [] [(6,i6 0)] [] (rF [] 11 (r0 [] [(7,i6 0)] [] (r0 [(1,eR hq0.1 0)] [(15,v),(16,iN xs.length),(17,i6 0)] [] ?_)))
 refine lq (λi=>i≤xs.length) (λi=>[(17,iN i),(7,i6 ((cp (λz=>dk 2 (xs.getD z 0) (ys.getD z 0)) i:Nat):Int))]) (λ_ L=>L) (λi=>xs.length-i) 0 Om (by rw[Gw];kernel_rfl) Kr (λi hk5=>?_)
 have hsl:=Gt (m:=2) (xs:=xs) (ys:=ys) i
 refine r0 [] [(18,.bool (decide ((i:Int)<(xs.length:Int))))] [] ?_
 refine cj (i:Int) (xs.length:Int) (λh7 dh7=>?_) λh7 dh7=>?_
 ·refine r0 [(1,fF hq0.1 0 i 1),(2,jr kB hq0.1 0 i 0)] [(8,iN i),(9,u1 ((xs.getD i 0).toNat:Int))] [] ?_
  refine r0 [(3,fF hq1.1 1 i 1),(4,jr kB hq1.1 1 i 0)] [(27,.bool (((xs.getD i 0).toNat:Int) != ((ys.getD i 0).toNat:Int)))] [] ?_
  refine cJ (((xs.getD i 0).toNat:Int) != ((ys.getD i 0).toNat:Int)) (λc=>[(7,i6 (((bif c then(cp (λz=>dk 2 (xs.getD z 0) (ys.getD z 0)) i)+1 else cp (λz=>dk 2 (xs.getD z 0) (ys.getD z 0)) i):Nat):Int))]) (λ_=>[.c bq0,.c bq1]) (λh10=>?_) (λh10=>?_) ?_
  ·have dh10:=bne_iff_ne.1 h10
   refine r0 [(1,ad (cp (λz=>dk 2 (xs.getD z 0) (ys.getD z 0)) i) 1)] [(7,i6 (((cp (λz=>dk 2 (xs.getD z 0) (ys.getD z 0)) i)+1:Nat):Int))] [7] ?_
   exact cm Kr [0,1] Kr
  ·have dh10:=BX h10
   exact cm Kr [0,1] Kr
  refine r0 [(0,ad i 1)] [(17,i6 ((i+1:Nat):Int))] [17] ?_
  exact le (i+1) Om Om (by rw[Uo];kernel_rfl) [0,1] Kr
 obtain rfl:i=xs.length:=by omega
 refine lx ?_
 exact r0 [] [(6,i6 ((cp (λz=>dk 2 (xs.getD z 0) (ys.getD z 0)) xs.length:Nat):Int))] [6] (lf ab.zero [] [(0,0),(1,1)] [])
theorem Ut(m:Nat)(hm:m=1∨m=2)(v u:Value)(xs ys:List UInt8)(n:Nat)(hx:xs.length=n)(hy:ys.length=n)(hn:n≤100):aa dZ 193 #[iN m,v,u] [.p (aK eB v xs),.p (aK eB u ys)] [] N0 (λ_=>i6 ((cp (λi=>dk (m:Int) (xs.getD i 0) (ys.getD i 0)) n:Nat):Int)):=by
 subst hx
 rcases hm with rfl | rfl
 ·exact Ur v u xs ys hy hn
 ·exact Us v u xs ys hy hn
theorem Gy{xs:List UInt8}{m:Int}{k:Nat}(hx:xs.length=72)(hk:k<dL m):((xs.drop (aU m*k)).take (aU m)).length=aU m:=by
 have h:=Ai (m:=m) (k:=k+1) hk
 rw[Nat.mul_succ] at h
 rw[jg,List.length_drop]
 omega
theorem Gz(m:Nat)(hm:m=1∨m=2)(a b:List UInt8)(ha:a.length=72)(hb:b.length=72):aa dZ 149 #[iN m,.agg (rB 72 a).toArray,.agg (rB 72 b).toArray] [] [] N0 (λ_=>i6 ((dm (m:Int) a b:Nat):Int)):=by
 refine fG Tryz.func149 λw cs=>?_
 refine ra (λq1=>[(4,pt (B0 q1) 0),(5,pt (B1 q1) 0),(6,i6 0)]) (λq1=>[ob (B0 q1) (rB 72 a).toArray 217,ob (B1 q1) (rB 72 b).toArray 217]) λq1=>r0 [] [(7,i6 0)] [] (r0 [(1,.c [] [] (Gp m hm))] [(10,i6 ((dL (m:Int):Nat):Int)),(11,i6 0)] [] ?_)
 refine lq (λk=>k≤(dL (m:Int))) (λk=>[(11,iN k),(7,i6 ((kx (m:Int) a b k:Nat):Int))]) (λ_ L=>L) (λk=>(dL (m:Int))-k) 0 Om (by rw[kx];kernel_rfl) Kr (λk hk4=>?_)
 have hw8:=Gs (m:Int)
 refine r0 [] [(12,.bool (decide ((k:Int)<((dL (m:Int):Nat):Int))))] [] ?_
 refine cj (k:Int) ((dL (m:Int):Nat):Int) (λh6 dh6=>?_) λh6 dh6=>?_
 ·have HLA:=Gy (m:=(m:Int)) (k:=k) ha Om
  have HLB:=Gy (m:=(m:Int)) (k:=k) hb Om
  have HLC:aU (m:Int)≤100:=eF (wi _) Dc
  refine r0 [] [(8,iN k)] [] (rr (λq8=>[(2,.m (ls 0 (rB 72 a))),(5,.c [] [2] (Gx m hm a (by(simp only[LL,ha,hb,ha,hb];done)) k Om)),(6,.m (ls 1 (rB 72 b))),(9,.c [] [3] (Gx m hm b (by(simp only[LL,ha,hb,ha,hb];done)) k Om)),(10,.c [2,3] [] (aa.at (rd':=[bE ((q8 5).val 0) ((a.drop (aU (m:Int)*k)).take (aU (m:Int))),bE ((q8 9).val 0) ((b.drop (aU (m:Int)*k)).take (aU (m:Int)))]) (Ut m hm ((q8 5).val 0) ((q8 9).val 0) ((a.drop (aU (m:Int)*k)).take (aU (m:Int))) ((b.drop (aU (m:Int)*k)).take (aU (m:Int))) (aU (m:Int)) HLA HLB HLC) (bO (λ_ h=>ap.sq h) (bO (λ_ h=>ap.sq h) (λ_ h=>h))))),(11,.t (tv (Builtin.max_ #[3,3] 3 #[i6 ((kx (m:Int) a b k:Nat):Int),i6 ((cp (λz=>dk (m:Int) (((a.drop (aU (m:Int)*k)).take (aU (m:Int))).getD z 0) (((b.drop (aU (m:Int)*k)).take (aU (m:Int))).getD z 0)) (aU (m:Int)):Nat):Int)]) (λ_=>r6 _ _ _ _)))]) (λ_=>[(7,i6 (max ((kx (m:Int) a b k:Nat):Int) ((cp (λz=>dk (m:Int) (((a.drop (aU (m:Int)*k)).take (aU (m:Int))).getD z 0) (((b.drop (aU (m:Int)*k)).take (aU (m:Int))).getD z 0)) (aU (m:Int)):Nat):Int)))]) [7] (λq8 L=>L++[bE ((q8 5).val 0) ((a.drop (aU (m:Int)*k)).take (aU (m:Int))),bE ((q8 9).val 0) ((b.drop (aU (m:Int)*k)).take (aU (m:Int)))]) λq8=>r0 [(0,ad k 1)] [(11,i6 ((k+1:Nat):Int))] [11] ?_)
  exact le (k+1) Om Om (by rw[Um];kernel_rfl) [0,1] Kr
 obtain rfl:k=(dL (m:Int)):=by omega
 refine lx ?_
 refine r0 [] [(6,i6 ((kx (m:Int) a b (dL (m:Int)):Nat):Int))] [6] ?_
 exact am (i6 ((kx (m:Int) a b (dL (m:Int)):Nat):Int)) ab.zero bh [] [] []
end Go.Proofs.YtbcodenfkijdnaaGreat.E
namespace Go.Proofs.YtbcodenfkijdnaaGreat.E
open Go Go.RowKit Go.Shelf
open List renaming length_range→dZ,length_map→eF,replicate→ir,length_set→jh
open Go.Proofs.Tryz renaming prog→jg
attribute [local irreducible] aU dL oO
theorem Uu(b1 b2 c m:Nat)(hm:m=1∨m=2)(hc:c<aU (m:Int)):fy 5 jg 288 #[pt b1 0,pt b2 0] (λ(x:Nat)=>#[iN x]) ((List.range (dL (m:Int))).map λk=>aU (m:Int)*k+c) (List.flatten [[(b1,.cells #[iN m] 3 (0,0))],[(b2,.cells #[iN c] 3 (0,0))]]):=by
 have hcn:=wi (m:Int)
 have hwn:=Gs (m:Int)
 refine gi (KO:=[[(b1,.cells #[iN m] 3 (0,0))],[(b2,.cells #[iN c] 3 (0,0))]]) Tryz.func288 (λlY JY JX WI RI hJ hY hI=>?_)
 refine r0 [(0,.l 0),(1,.c [] [] (Gn m hm))] [(4,i6 ((aU (m:Int):Nat):Int))] [] (r0 [(0,.l 1),(3,.l 1)] [(14,.bool ((decide ((c:Int)<0))||(decide (((aU (m:Int):Nat):Int)≤(c:Int)))))] [] ?_)
 have h3:((decide ((c:Int)<0))||(decide (((aU (m:Int):Nat):Int)≤(c:Int))))=false:=by rw[bj Om,bj Om];rfl
 refine cF ((decide ((c:Int)<0))||(decide (((aU (m:Int):Nat):Int)≤(c:Int)))) h3 (r0 [(0,.l 0),(1,.c [] [] (Gp m hm))] [(16,i6 ((dL (m:Int):Nat):Int)),(17,i6 0)] [] ?_)
 refine kk (λk=>k≤(dL (m:Int))) (λk=>[(17,iN k)]) (λ_ L=>L) (λk=>(dL (m:Int))-k) (λk=>k) 0 Om hI Kr Kr (λk R7 W8 hk5 hI6=>?_)
 have hck:=Ai (m:=(m:Int)) (k:=k) Om
 refine r0 [] [(18,.bool (decide ((k:Int)<((dL (m:Int):Nat):Int))))] [] ?_
 refine cj (k:Int) ((dL (m:Int):Nat):Int) (λh10 dh10=>?_) λh10 dh10=>?_
 ·refine r0 [] [(5,iN k)] [] ?_
  refine iy hJ hY hI6 6 (λ_=>[(3,ml (aU (m:Int)) k),(4,.l 1),(5,ad ((aU (m:Int))*k) c)]) (λ_=>[(20,.func (.yield lY) #[] #[]),(25,i6 ((((aU (m:Int))*k)+c:Nat):Int))]) [] (λ_ L=>L) N0 [0,1] (o4 Om) (λq12 R13 W14 hI15=>?_)
  refine cF _ rfl (r0 [(0,ad k 1)] [(17,i6 ((k+1:Nat):Int))] [17] ?_)
  exact jc (k+1) Om hI15 Om Kr [0,1] Kr
 refine km ?_
 exact lH hJ hI6 (by(rw[eF,dZ];omega)) [] [0,1]
theorem Uv(m c:Nat):aa jg 285 #[iN m,iN c] [] [] (λE=>[ob (E.abd 0) #[iN m] 3,ob (E.abd 1) #[iN c] 3]) (λE=> .func (.func 288) #[] #[pt ((E.abd 0)) 0,pt ((E.abd 1)) 0]):=by
 refine fG Tryz.func285 λw cs=>?_
 exact ra (λq1=>[(2,pt (B0 q1) 0),(3,pt (B1 q1) 0),(4,.nilFunc)]) (λq1=>[ob (B0 q1) #[iN m] 3,ob (B1 q1) #[iN c] 3]) λq1=>r0 [] [(4,.func (.func 288) #[] #[pt (B0 q1) 0,pt (B1 q1) 0])] [4] (lf (.l [(q1 0).abd 0,(q1 1).abd 0] [] []) [0,1] [] [])
def ia(n c:Nat)(v:UInt8)(xs:List UInt8):Nat→List UInt8
 | 0=>xs
 | k+1=>(ia n c v xs k).set (n*k+c) v
theorem wj(n c:Nat)(v:UInt8)(xs:List UInt8): ∀k,(ia n c v xs k).length=xs.length
 | 0=>rfl
 | k+1=>by rw[ia,jh,wj]
theorem Uw(n c:Nat)(v:UInt8)(xs:List UInt8):ia n c v xs 0=xs:=rfl
theorem Ux(n c k:Nat)(v:UInt8)(xs:List UInt8):ia n c v xs (k+1)=(ia n c v xs k).set (n*k+c) v:=rfl
def nW(xs:List UInt8)(b v:Int):List UInt8:=bif (!(((oO xs b.toNat:Nat):Int)==v%2)) then xs.set (b.toNat/8) (xs.getD (b.toNat/8) 0^^^UInt8.ofNat (1*2^(b.toNat%8))) else xs
theorem Uy(xs:List UInt8)(b v:Int):(nW xs b v).length=xs.length:=by
 unfold nW
 cases (!(((oO xs b.toNat:Nat):Int)==v%2))
 ·rfl
 ·exact jh
attribute [local irreducible] ia
theorem Uz(xs:List UInt8)(hx:xs.length=72)(b v:Int)(h0:0≤b)(h1:b<576):aa jg 271 #[.agg (rB 72 xs).toArray,i6 b,i6 v] [] [] N0 (λ_=> .agg (rB 72 (nW xs b v)).toArray):=by
 refine fG Tryz.func271 λw cs=>?_
 refine ra (λq1=>[(3,pt (B0 q1) 0),(6,pt (B1 q1) 0)]) (λq1=>[ob (B0 q1) (rB 72 xs).toArray 217,ob (B1 q1) (rB 72 (ir 72 0)).toArray 217]) λq1=>r0 [(0,aS 217 (B0 q1) 72 1),(2,.c [0] [] (aa.at (rd':=[ob (B0 q1) (rB 72 xs).toArray 217]) (Uh (.slice (some ⟨(q1 0).abd 0,0,none⟩) 72 72) xs (by(simp only[LL,hx];done)) b Om Om) (em (Ui (d:=0) (λ_=>rfl) hx) (λ_ h=>h)))),(4,.t (tv (ar .and 3 (.tmp 10) (.const (i6 1)) (i6 v) (i6 1)) (λ_=>mO _ 1 2 Dc Dc Dc Dc)))] [(12,.bool (((oO xs b.toNat:Nat):Int) != (v%2)))] [] ?_
 refine nA ((oO xs b.toNat:Nat):Int) (v%2) (λh3 dh3=>?_) λh3 dh3=>?_
 ·refine rr (λ_=>[(0,.l 0),(2,.c [] [] (Gr xs (by(simp only[LL,hx];done)) b Om Om)),(3,.s 1)]) N0 [] (λ_ L=>L.set 1 (ob (B1 q1) (rB 72 (xs.set (b.toNat/8) ((xs.getD (b.toNat/8) 0)^^^(UInt8.ofNat (1*2^(b.toNat%8)))))).toArray 217)) λq4=>?_
  exact am (.agg (rB 72 (xs.set (b.toNat/8) ((xs.getD (b.toNat/8) 0)^^^(UInt8.ofNat (1*2^(b.toNat%8)))))).toArray) ab.zero (by unfold nW;(repeat (first | rw[h3] | rw[ALct]))) [] [] [1]
 refine rs [(0,.l 0),(1,.s 1)] 1 (ob (B1 q1) (rB 72 xs).toArray 217) ?_
 exact am (.agg (rB 72 xs).toArray) ab.zero (by unfold nW;(repeat (first | rw[h3] | rw[ALcf]))) [] [] [1]
theorem UA(xs:List UInt8)(hx:xs.length=72)(c m:Nat)(hm:m=1∨m=2)(hc:c<aU (m:Int))(v:UInt8):aa jg 272 #[.agg (rB 72 xs).toArray,iN m,iN c,u1 (v.toNat:Int)] [] [] N0 (λ_=> .agg (rB 72 (ia (aU (m:Int)) c v xs (dL (m:Int)))).toArray):=by
 have hcn:=wi (m:Int)
 have hcl:=hx
 refine fG Tryz.func272 λw cs=>?_
 refine ra (λq1=>[(4,pt (B0 q1) 0),(7,pt (B1 q1) 0),(8,pt (B2 q1) 0)]) (λq1=>[ob (B0 q1) (rB 72 xs).toArray 217,ob (B1 q1) #[u1 (v.toNat:Int)] 5,ob (B2 q1) (rB 72 (ir 72 0)).toArray 217]) λq1=>rr (λ_=>[(2,.c [] [3,4] (Uv m c))]) (λq2=>[(12,.func (.func 288) #[] #[pt ((B2 q2)) 0,pt (((q2 2).abd 1)) 0])]) [] (λq2 L=>L++[ob (B2 q2) #[iN m] 3,ob ((q2 2).abd 1) #[iN c] 3]) λq2=>?_
 refine ph (encs:=λ(x:Nat)=>#[iN x]) (xs:=(List.range (dL (m:Int))).map λk=>aU (m:Int)*k+c) (KO:=[[((B2 q2),.cells #[iN m] 3 (0,0))],[(((q2 2).abd 1),.cells #[iN c] 3 (0,0))]]) (Uu (B2 q2) ((q2 2).abd 1) c m hm hc) (enters_of Tryz.func288 Kr rfl) (λk=>k≤dL (m:Int)) (λk L=>L.set 0 (ob (B0 q1) (rB 72 (ia (aU (m:Int)) c v xs k)).toArray 217)) [3,4] Om (by rw[Uw];kernel_rfl) (λlR k xE R1 W1 hxE hk4=>?_) (λD3 hk4=>?_)
 ·obtain⟨hkb5,rfl⟩:=oh hxE
  have hcl:=(wj (aU (m:Int)) c v xs k).trans hx
  have hck:=Ai (m:=(m:Int)) (k:=k+1) Om
  have hcm:aU (m:Int)*(k+1)=aU (m:Int)*k+aU (m:Int):=Nat.mul_succ _ _
  refine r0 [] [(9,i6 ((aU (m:Int)*k+c:Nat):Int))] [] ?_
  refine ag [3,4] (λR2 W2=>?_)
  refine rs [(1,.l 1),(2,iA 217 .i64 (B0 q1) 0 72 1 (aU (m:Int)*k+c)),(3,wD 0 (B0 q1) (aU (m:Int)*k+c) 217 (u1 (v.toNat:Int)) (rB 72 (ia (aU (m:Int)) c v xs k)) (rB 72 ((ia (aU (m:Int)) c v xs k).set (aU (m:Int)*k+c) v)) (kg Om) (mJ (show(ia (aU (m:Int)) c v xs k).length=72 by(simp only[LL,hx,hcl,hx];done))))] 0 (ob (B0 q1) (rB 72 ((ia (aU (m:Int)) c v xs k).set (aU (m:Int)*k+c) v)).toArray 217) ?_
  exact ne _ ⟨Om,rfl⟩ [0,1,2,3,4] (by rw[Ux];kernel_rfl)
 refine cl [ob (B0 q1) (rB 72 (ia (aU (m:Int)) c v xs (dL (m:Int)))).toArray 217,ob (B1 q1) #[u1 (v.toNat:Int)] 5,ob (B2 q1) (rB 72 (ir 72 0)).toArray 217,ob (B2 q2) #[iN m] 3,ob ((q2 2).abd 1) #[iN c] 3] (by rw[eF,dZ];kernel_rfl) ?_
 simp only[eF,dZ] at hk4
 have hcl:=(wj (aU (m:Int)) c v xs (dL (m:Int))).trans hx
 exact rs [(0,.l 0),(1,.s 2)] 2 (ob (B2 q1) (rB 72 (ia (aU (m:Int)) c v xs (dL (m:Int)))).toArray 217) (lf ab.zero [] [] [2])
end Go.Proofs.YtbcodenfkijdnaaGreat.E
namespace Go.Proofs.YtbcodenfkijdnaaGreat.E
open Go Go.RowKit Go.Shelf
open List renaming replicate→dZ
open Go.Proofs.Tryz renaming prog→eF
structure m4 (c:Cf) (f:Fa):Prop where
 ok:nV f c.R c.S c.B c.M c.C c.mode=true
section
variable {c:Cf} {f:Fa}
theorem m4.all(h:m4 c f):hold c.R c.S c.B c.M c.C f.x1 f.x2 f.x3 f.x4=true∧(0≤f.x6∧f.x6<576)∧(0≤f.x5∧f.x5<((aU (c.mode:Int):Nat):Int)):=by
 have h1:=h.ok
 unfold nV at h1
 simp only[Bool.and_eq_true] at h1
 exact⟨h1.1.1.1.2,mq.1 h1.1.1.2,mq.1 h1.1.2⟩
end
theorem UB(xs:List UInt8)(hx:xs.length=72)(c:Int)(m:Nat)(hm:m=1∨m=2)(hc:0≤c∧c<((aU (m:Int):Nat):Int))(v:UInt8):aa eF 272 #[.agg (rB 72 xs).toArray,iN m,i6 c,u1 (v.toNat:Int)] [] [] N0 (λ_=> .agg (rB 72 (ia (aU (m:Int)) c.toNat v xs (dL (m:Int)))).toArray):=by
 obtain⟨n,rfl⟩:=Int.eq_ofNat_of_zero_le hc.1
 exact UA xs hx n m hm Om v
def m5(m:Nat)(u0 u1 u2 u3:Int)(xs:List UInt8)(f:Fa):List UInt8:=bif ((!(kW f))||(!(mA f u0 u1 u2 u3))) then xs else(bif (f.x0==2) then nW xs f.x6 f.x7 else ia (aU (m:Int)) f.x5.toNat (aO f.x7) xs (dL (m:Int)))
theorem GA(m:Nat)(u0 u1 u2 u3:Int)(xs:List UInt8)(f:Fa):(m5 m u0 u1 u2 u3 xs f).length=xs.length:=by
 unfold m5
 cases ((!(kW f))||(!(mA f u0 u1 u2 u3)))
 ·cases (f.x0==2)
  ·exact wj ..
  ·exact Uy ..
 ·rfl
def kC(m:Nat)(u0 u1 u2 u3:Int)(xs:List UInt8)(l:List Fa):List UInt8:=l.foldl (m5 m u0 u1 u2 u3) xs
theorem wk(m:Nat)(u0 u1 u2 u3:Int): ∀(l:List Fa) (xs:List UInt8),(kC m u0 u1 u2 u3 xs l).length=xs.length
 | [],_=>rfl
 | f::l,xs=>(wk m u0 u1 u2 u3 l _).trans (GA ..)
theorem UC{m:Nat}{u0 u1 u2 u3:Int}{xs:List UInt8}{l:List Fa}{i:Nat}(h:i<l.length):kC m u0 u1 u2 u3 xs (l.take (i+1))=m5 m u0 u1 u2 u3 (kC m u0 u1 u2 u3 xs (l.take i)) (l.getD i b9):=Aa h
attribute [local irreducible] mA kW aU dL ia nW hold dA
theorem UD(c:Cf)(f:Fa)(hf5:m4 c f)(hm:c.mode=1∨c.mode=2)(u0 u1 u2 u3:Int)(xs:List UInt8)(hx:xs.length=72):aa eF 252 #[.agg #[i6 f.x0,i6 f.x1,i6 f.x2,i6 f.x3,i6 f.x4,i6 f.x5,i6 f.x6,i6 f.x7],iN c.mode,.agg #[i6 u0,i6 u1,i6 u2,i6 u3],.agg (rB 72 xs).toArray] [] [] N0 (λ_=> .agg (rB 72 (m5 c.mode u0 u1 u2 u3 xs f)).toArray):=by
 have hfa:=hf5.all
 have hb0:=hfa.2.1.1
 have hb1:=hfa.2.1.2
 have HC:=hfa.2.2
 have HM:=hm
 refine fG Tryz.func252 λw cs=>?_
 refine ra (λq1=>[(4,pt (B0 q1) 0),(6,pt (B1 q1) 0),(7,pt (B2 q1) 0),(8,pt (B3 q1) 0)]) (λq1=>[ob (B0 q1) #[i6 f.x0,i6 f.x1,i6 f.x2,i6 f.x3,i6 f.x4,i6 f.x5,i6 f.x6,i6 f.x7] 48,ob (B1 q1) #[i6 u0,i6 u1,i6 u2,i6 u3] 46,ob (B2 q1) (rB 72 xs).toArray 217,ob (B3 q1) (rB 72 (dZ 72 0)).toArray 217]) λq1=>r0 [(0,.l 0),(1,.c [] [] (Gq f)),(4,.l 0),(5,.l 1),(6,.c [] [] (Uc f u0 u1 u2 u3))] [(9,.bool ((!(kW f))||(!(mA f u0 u1 u2 u3))))] [] ?_
 refine cB ((!(kW f))||(!(mA f u0 u1 u2 u3))) (λh3=>?_) λh3=>?_
 ·refine rr (λ_=>[(0,.l 2),(1,.s 3)]) N0 [] (λ_ L=>L.set 3 (ob (B3 q1) (rB 72 xs).toArray 217)) λq4=>?_
  exact am (.agg (rB 72 xs).toArray) ab.zero (by unfold m5;(repeat (first | rw[h3] | rw[ALct]))) [] [] [3]
 refine r0 [(1,.l 0)] [(20,.bool (f.x0==2))] [] ?_
 refine cZ f.x0 2 (λh6 dh6=>?_) λh6 dh6=>?_
 ·refine rr (λ_=>[(0,.l 2),(2,.l 0),(4,.l 0),(5,.c [] [] (Uz xs (by(simp only[LL,hx,hx];done)) f.x6 f.x7 Om Om)),(6,.s 3)]) N0 [] (λ_ L=>L.set 3 (ob (B3 q1) (rB 72 (nW xs f.x6 f.x7)).toArray 217)) λq7=>?_
  exact am (.agg (rB 72 (nW xs f.x6 f.x7)).toArray) ab.zero (by unfold m5;(repeat (first | rw[h3] | rw[h6] | rw[ALct] | rw[ALcf]))) [] [] [3]
 refine rs [(0,.l 2),(3,.l 0),(5,.l 0),(6,.t (tc (k:= .i64) (l:= .u8) (a:=i6 f.x7) λ_ _ _ hS hT=>oY hS hT)),(7,.c [] [] (UB xs (by(simp only[LL,hx,hx];done)) f.x5 c.mode HM HC (aO f.x7))),(8,.s 3)] 3 (ob (B3 q1) (rB 72 (ia (aU (c.mode:Int)) (f.x5).toNat (aO f.x7) xs (dL (c.mode:Int)))).toArray 217) ?_
 exact am (.agg (rB 72 (ia (aU (c.mode:Int)) (f.x5).toNat (aO f.x7) xs (dL (c.mode:Int)))).toArray) ab.zero (by unfold m5;(repeat (first | rw[h3] | rw[h6] | rw[ALcf]))) [] [] [3]
attribute [local irreducible] m5
theorem UE(c:Cf)(hm:c.mode=1∨c.mode=2)(v:Value)(l:List Fa)(hl5:l.length≤1000)(hf5: ∀f∈l,m4 c f)(u0 u1 u2 u3:Int)(xs:List UInt8)(hx:xs.length=72):aa eF 225 #[v,iN c.mode,.agg #[i6 u0,i6 u1,i6 u2,i6 u3],.agg (rB 72 xs).toArray] [.p (aK pV v l)] [] N0 (λ_=> .agg (rB 72 (kC c.mode u0 u1 u2 u3 xs l)).toArray):=by
 refine fO Tryz.func225 0 rfl λbq0 hq0=>?_
 refine fG Tryz.func225 λw cs=>?_
 refine ra (λq1=>[(6,pt (B0 q1) 0),(7,pt (B1 q1) 0),(8,pt (B2 q1) 0)]) (λq1=>[ob (B0 q1) #[i6 u0,i6 u1,i6 u2,i6 u3] 46,ob (B1 q1) (rB 72 xs).toArray 217,ob (B2 q1) (rB 72 (dZ 72 0)).toArray 217]) λq1=>r0 [(1,eR hq0.1 0)] [(11,v),(12,iN l.length),(13,i6 0)] [] ?_
 refine lq (λk=>k≤l.length) (λk=>[(13,iN k)]) (λk L=>L.set 2 (ob (B1 q1) (rB 72 (kC c.mode u0 u1 u2 u3 xs (l.take k))).toArray 217)) (λk=>l.length-k) 0 Om Kr (by rw[List.take_zero];kernel_rfl) (λk hk3=>?_)
 have hol:=(wk c.mode u0 u1 u2 u3 (l.take k) xs).trans hx
 refine r0 [] [(14,.bool (decide ((k:Int)<(l.length:Int))))] [] ?_
 refine cj (k:Int) (l.length:Int) (λh5 dh5=>?_) λh5 dh5=>?_
 ·refine rr (λ_=>[(0,fF hq0.1 0 k 8),(1,nC Zt hq0.1 0 k 0 8),(3,.s 4)]) (λq6=>[(10,pt (B2 q6) 0)]) [] (λq6 L=>L++[ob (B2 q6) #[i6 ((l.getD k b9).x0),i6 ((l.getD k b9).x1),i6 ((l.getD k b9).x2),i6 ((l.getD k b9).x3),i6 ((l.getD k b9).x4),i6 ((l.getD k b9).x5),i6 ((l.getD k b9).x6),i6 ((l.getD k b9).x7)] 48]) λq6=>?_
  have HFI:=(oL b9).2 hf5 k Om
  have hox:=(GA c.mode u0 u1 u2 u3 (kC c.mode u0 u1 u2 u3 xs (l.take k)) (l.getD k b9)).trans hol
  refine rs [(0,.l 4),(2,.l 1),(3,.l 2),(4,.c [] [] (UD c (l.getD k b9) HFI hm u0 u1 u2 u3 (kC c.mode u0 u1 u2 u3 xs (l.take k)) (by(simp only[LL,hx,hol,hox,hx];done)))),(5,.s 2)] 2 (ob (B1 q1) (rB 72 (m5 c.mode u0 u1 u2 u3 (kC c.mode u0 u1 u2 u3 xs (l.take k)) (l.getD k b9))).toArray 217) (r0 [(0,ad k 1)] [(13,i6 ((k+1:Nat):Int))] [13] ?_)
  exact le (k+1) Om Om Kr [0,1,2,3] (by rw[UC Om];kernel_rfl)
 obtain rfl:k=l.length:=by omega
 refine cl [.c bq0,ob (B0 q1) #[i6 u0,i6 u1,i6 u2,i6 u3] 46,ob (B1 q1) (rB 72 (kC c.mode u0 u1 u2 u3 xs l)).toArray 217,ob (B2 q1) (rB 72 (dZ 72 0)).toArray 217] (by rw[List.take_length];kernel_rfl) ?_
 refine lx ?_
 have hol:=(wk c.mode u0 u1 u2 u3 l xs).trans hx
 exact rs [(0,.l 2),(1,.s 3)] 3 (ob (B2 q1) (rB 72 (kC c.mode u0 u1 u2 u3 xs l)).toArray 217) (lf ab.zero [] [(0,0)] [3])
end Go.Proofs.YtbcodenfkijdnaaGreat.E
namespace Go.Proofs.YtbcodenfkijdnaaGreat.E
open Go Go.RowKit Go.Shelf
open Go.Proofs.Tryz renaming prog→dZ
open List renaming replicate→eF,length_replicate→ir,length_drop→jg,not_mem_nil→jh
theorem GB(c:Cf)(hG:f9 c.R c.S c.B c.M c.C)(p0 p1 p2 p3:Int)(hh:hold c.R c.S c.B c.M c.C p0 p1 p2 p3=true):aa dZ 147 #[.agg #[iN c.R,iN c.S,iN c.B,iN c.M,iN c.C],.agg #[i6 p0,i6 p1,i6 p2,i6 p3]] [] [] N0 (λ_=> .tuple #[i6 (dA p0 p1 p2 p3),i6 0]):=by
 have h:=E2 c.R c.S c.B c.M c.C hG p0 p1 p2 p3
 unfold sQ sS at h
 rw[hh] at h
 exact h
theorem Al(c:Cf)(hG:f9 c.R c.S c.B c.M c.C)(i:Int)(hh:gF c.R c.S c.B c.M c.C i=true):aa dZ 68 #[.agg #[iN c.R,iN c.S,iN c.B,iN c.M,iN c.C],i6 i] [] [] N0 (λ_=> .tuple #[.agg #[i6 (i/1048576),i6 (i/65536%16),i6 (i/64%1024),i6 (i%64)],i6 0]):=by
 have h:=E3 c.R c.S c.B c.M c.C hG i
 unfold sT sU sX sY sZ at h
 unfold gF at hh
 rw[Bool.not_eq_true'] at hh
 rw[hh] at h
 exact h
theorem UF{i:Nat}{w:World}{α:Type}{en:α→List Value}{v:Value}{xs:List α}{bs:aw}(h:aK en v xs bs):(ar .eql 93 (.tmp i) (.const (.slice none 0 0)) v (.slice none 0 0)).run dZ w= .ok (.bool (pr v)) w:=by
 obtain⟨a,r,rfl⟩:=h.2
 cases a<;>kernel_rfl
theorem UG(v:Value)(xs:List Fa)(hx:xs.length≤1000):aa dZ 70 #[v] [.p (aK pV v xs)] [] (λE=>[dB (E.val 0) xs]) (λE=>(E.val 0)):=by
 refine fO Tryz.func70 0 rfl λbq0 hq0=>?_
 refine fG Tryz.func70 λw cs=>?_
 refine r0 [] [(2,.slice none 0 0)] [] (r0 [(1,.t (tv (ar .eql 93 (.tmp 3) (.const (.slice none 0 0)) (v) (.slice none 0 0)) (λ_=>UF hq0)))] [(4,.bool (pr v))] [] ?_)
 refine cB (pr v) (λh3=>?_) λh3=>?_
 ·refine r0 [] [(2,.slice none 0 0)] [2] ?_
  refine cz Zt ?_
  exact lf (.l [] [] [.slice none 0 0]) [1] [(0,0)] [] (hf:=by(try rewrite [vg hq0 As]);kernel_rfl)
 exact rr (λq5=>[(0,.m (sa 1 pV ([i6 0,i6 0,i6 0,i6 0,i6 0,i6 0,i6 0,i6 0]) 48)),(2,.m (mK 1 0 Zt.hT (.slice (some ⟨(q5 0).abd 0,0,none⟩) 0 0) (v) (xs:=[]) (ys:=xs) (.c bq0) (cP hq0.1) Zt.one Zt.lz (by simp only[LL];omega)))]) (λq5=>[(2,(q5 2).val 0)]) [2] (λq5 L=>L++[dB ((q5 2).val 0) (([])++xs)]) λq5=>lf (.l [] [] [(q5 2).val 0]) [1] [(0,0)] [] (hf:=by(try rewrite [vg hq0 As]);kernel_rfl)
theorem UH(v:Value)(xs:List Fa)(l:Nat)(hn:l≤xs.length)(hx:xs.length≤1000):aa dZ 70 #[im v l xs.length 8] [.p (aK pV v xs)] [] (λE=>[dB (E.val 0) (xs.drop l)]) (λE=>E.val 0):=
 aa.at (UG (im v l xs.length 8) (xs.drop l) (by rw[jg];omega)) (bO (λ_ h=>aK.drop (en:=pV) (k:=8) (λ_=>rfl) h hn) λ_ h=>h)
def ib(xs:List Fa):Int:=(bif decide (256≤(xs.length:Int)) then 14 else 0)
def jN(xs:List Fa)(f:Fa):List Fa:=(bif decide (256≤(xs.length:Int)) then xs else xs++([f]))
theorem GC(v:Value)(xs:List Fa)(f:Fa):aa dZ 170 #[v,.agg #[i6 f.x0,i6 f.x1,i6 f.x2,i6 f.x3,i6 f.x4,i6 f.x5,i6 f.x6,i6 f.x7]] [dB v xs] [0] (λE=>[dB (E.val 0) (jN xs f)]) (λE=> .tuple #[(E.val 0),i6 (ib xs)]):=by
 refine fG Tryz.func170 λw cs=>?_
 refine ra (λq1=>[(3,pt (B0 q1) 0),(4,.slice none 0 0),(5,i6 0)]) (λq1=>[ob (B0 q1) #[i6 f.x0,i6 f.x1,i6 f.x2,i6 f.x3,i6 f.x4,i6 f.x5,i6 f.x6,i6 f.x7] 48]) λq1=>r0 [(1,fC Zt v xs 0)] [(8,.bool (decide (256≤(xs.length:Int))))] [] ?_
 refine pd 256 (xs.length:Int) (λh3 dh3=>?_) λh3 dh3=>?_
 ·refine r0 [] [(4,v),(5,i6 14)] [4,5] ?_
  exact am (.tuple #[v,i6 14]) (.l [] [] [v]) (by((try simp only[ib,jN]);(repeat (first | rw[h3] | rw[ALct])))<;>rfl) [0] [] [] (hf:=by(try simp only[ib,jN]);(repeat (first | rw[h3] | rw[ALct]));kernel_rfl)
 refine rr (λ_=>[(1,.l 1),(2,.m (bs 2 1)),(3,fD Zt (v) xs 0 2 ([f]))]) (λq5=>[(4,(q5 3).val 0),(5,i6 0)]) [4,5] (λq5 L=>L.set 0 (dB ((q5 3).val 0) (xs++([f])))++[ob (B2 q5) #[i6 f.x0,i6 f.x1,i6 f.x2,i6 f.x3,i6 f.x4,i6 f.x5,i6 f.x6,i6 f.x7] 48]) λq5=>?_
 exact am (.tuple #[(q5 3).val 0,i6 0]) (.l [] [] [(q5 3).val 0]) (by((try simp only[ib,jN]);(repeat (first | rw[h3] | rw[ALcf])))<;>rfl) [0] [] [] (hf:=by(try simp only[ib,jN]);(repeat (first | rw[h3] | rw[ALcf]));kernel_rfl)
structure Dr where
 cells:Int→List UInt8
 aa8:List Fa
 aa6:List Fa
def lS:List UInt8:=eF 72 0
def qU(r:List UInt8):Value:= .agg (rB 72 r).toArray
abbrev eX(f:Int→List UInt8)(g:Nat):az:= .p (mi qU lS f g)
abbrev gI(g:Nat)(c:Cf)(D:Dr)(L:ah):Prop:=∃(gm:Nat) (v1 v2:Value),L=[ob g #[iN c.R,iN c.S,iN c.B,iN c.M,iN c.C,iN c.mode,.map (some gm),v1,v2] 162,eX D.cells gm,dB v1 D.aa8,dB v2 D.aa6]
structure iY (c:Cf) (D:Dr):Prop where
 cl: ∀k,(D.cells k).length=72
 l1:D.aa8.length≤256
 l2:D.aa6.length≤256
 f1: ∀f∈D.aa8,m4 c f
 f2: ∀f∈D.aa6,m4 c f
def tt:Dr:=⟨λ_=>lS,[],[]⟩
theorem UI(c:Cf):iY c tt:=⟨λ_=>ir,Nat.zero_le _,Nat.zero_le _,λf h=>absurd h jh,λf h=>absurd h jh⟩
def a8(D:Dr)(i:Int):Int:=bif (D.aa6.length:Int)==0 then i else bif (D.aa6.getD 0 b9).x0==7 then i else dA (D.aa6.getD 0 b9).x1 (D.aa6.getD 0 b9).x2 (D.aa6.getD 0 b9).x3 (D.aa6.getD 0 b9).x4
def di(D:Dr):Bool:=bif (D.aa6.length:Int)==0 then false else(D.aa6.getD 0 b9).x0==7
def eA(D:Dr):Dr:={D with aa6:=D.aa6.drop 1}
theorem Am{α:Type}{l:List α}(h:(l.length:Int)=0):l.drop 1=l:=by
 have e:l=[]:=List.length_eq_zero_iff.1 Om
 subst e;rfl
theorem tu{c:Cf}{D:Dr}(h:iY c D):iY c (eA D):=⟨h.cl,h.l1,by show(D.aa6.drop 1).length≤256;rw[jg];have:=h.l2;omega,h.f1,λf hf=>h.f2 f (List.mem_of_mem_drop hf)⟩
theorem GD{c:Cf}{l:List Fa}(h: ∀f∈l,m4 c f)(hl:(l.length:Int)≠0):m4 c (l.getD 0 b9):=(oL b9).2 h 0 Om
theorem UJ(c:Cf)(hcf:dd c):aa dZ 112 #[.agg #[iN c.R,iN c.S,iN c.B,iN c.M,iN c.C],iN c.mode] [] [] (λE=>[ob (E.abd 0) #[iN c.R,iN c.S,iN c.B,iN c.M,iN c.C,iN c.mode,.map (some (E.abd 1)),.slice none 0 0,.slice none 0 0] 162,eX (λ_=>lS) (E.abd 1)]) (λE=> .tuple #[pt ((E.abd 0)) 0,i6 0]):=by
 have hG:=hcf.ly.abc
 have hm:=hcf.mode
 refine fG Tryz.func112 λw cs=>?_
 refine ra (λq1=>[(2,pt (B0 q1) 0),(4,.pointer none),(5,i6 0)]) (λq1=>[ob (B0 q1) #[iN c.R,iN c.S,iN c.B,iN c.M,iN c.C] 23]) λq1=>rF [(0,.l 0),(1,.c [] [] (vJ c.R c.S c.B c.M c.C hG))] 6 (r0 [(1,.c [] [] (py (c.mode:Int)))] [(10,.bool (!(((c.mode:Int)==1)||((c.mode:Int)==2))))] [] ?_)
 have h4:(!(((c.mode:Int)==1)||((c.mode:Int)==2)))=false:=by rw[show((((c.mode:Nat):Int)==1)||(((c.mode:Nat):Int)==2))=true by rcases hm with e | e<;>rw[e]<;>rfl];rfl
 exact cF (!(((c.mode:Int)==1)||((c.mode:Int)==2))) h4 (rr (λ_=>[(0,.l 0),(2,.m (mm 1 qU lS))]) (λq5=>[(4,pt (B4 q5) 0),(5,i6 0)]) [4,5] (λq5 L=>L++[eX (λ_=>lS) (B2 q5),ob (B4 q5) #[iN c.R,iN c.S,iN c.B,iN c.M,iN c.C,iN c.mode,.map (some (B2 q5)),.slice none 0 0,.slice none 0 0] 162]) λq5=>lf (.l [(q5 4).abd 0,(q5 2).abd 0] [] []) [2,1] [] [])
theorem UK(g:Nat)(c:Cf)(D:Dr):aa dZ 113 #[pt g 0] [pk (gI g c D)] [0] (λ_=>[pk (gI g c D)]) (λ_=> .agg #[iN c.R,iN c.S,iN c.B,iN c.M,iN c.C]):=aa.pkZ Tryz.func113 λL hL=>by
 obtain⟨gm,v1,v2,rfl⟩:=hL
 refine⟨[1,2,3],λ_=>[eX D.cells gm,dB v1 D.aa8,dB v2 D.aa6],?_,rfl,λE=>⟨rfl,rfl,⟨_,_,_,rfl⟩⟩⟩
 refine fG Tryz.func113 λw cs=>?_
 exact ra (λq1=>[(2,pt (B0 q1) 0)]) (λq1=>[ob (B0 q1) #[i6 0,i6 0,i6 0,i6 0,i6 0] 23]) λq1=>rs [(3,.l 0),(4,.s 4)] 4 (ob (B0 q1) #[iN c.R,iN c.S,iN c.B,iN c.M,iN c.C] 23) (lf ab.zero [1,2,3] [(0,0)] [4])
theorem Ao(g:Nat)(c:Cf)(D:Dr):aa dZ 107 #[pt g 0] [pk (gI g c D)] [0] (λ_=>[pk (gI g c D)]) (λ_=>iN c.mode):=aa.pkZ Tryz.func107 λL hL=>by
 obtain⟨gm,v1,v2,rfl⟩:=hL
 refine⟨[1,2,3],λ_=>[eX D.cells gm,dB v1 D.aa8,dB v2 D.aa6],?_,rfl,λE=>⟨rfl,rfl,⟨_,_,_,rfl⟩⟩⟩
 refine fG Tryz.func107 λw cs=>?_
 exact r0 [] [(2,i6 0)] [] (r0 [(3,.l 0)] [(2,iN c.mode)] [2] (lf ab.zero [1,2,3] [(0,0)] []))
theorem GE(g:Nat)(c:Cf)(hcf:dd c)(D:Dr)(hD:iY c D)(i:Int)(gm:Nat)(v1 v2:Value):aa dZ 190 #[pt g 0,i6 i] [ob g #[iN c.R,iN c.S,iN c.B,iN c.M,iN c.C,iN c.mode,.map (some gm),v1,v2] 162,eX D.cells gm,dB v1 D.aa8,dB v2 D.aa6] [0,1,2,3] (λE=>[ob g #[iN c.R,iN c.S,iN c.B,iN c.M,iN c.C,iN c.mode,.map (some gm),v1,(E.val 0)] 162,eX ((eA D).cells) gm,dB v1 ((eA D).aa8),dB (E.val 0) ((eA D).aa6)]) (λ_=> .agg #[i6 (a8 D i),.bool (di D)]):=by
 have hl2:=hD.l2
 have HGE:=hcf.ly.abc
 refine fG Tryz.func190 λw cs=>?_
 refine ra (λq1=>[(4,pt (B0 q1) 0)]) (λq1=>[ob (B0 q1) #[i6 0,.bool false] 88]) λq1=>r0 [(3,.l 0),(4,fC Zt v2 D.aa6 3)] [(13,.bool ((D.aa6.length:Int)==0))] [] ?_
 refine cZ (D.aa6.length:Int) 0 (λh3 dh3=>?_) λh3 dh3=>?_
 ·refine rr (λ_=>[(2,.s 4)]) N0 [] (λ_ L=>L.set 4 (ob (B0 q1) #[i6 i,.bool false] 88)) λq4=>?_
  exact am (.agg #[i6 i,.bool false]) (.l [] [] [v2]) (by unfold a8 di;(repeat (first | rw[h3] | rw[ALct]))) [0,1,2,3] [] [4] (hf:=by unfold eA;(try rewrite [Am As]);kernel_rfl)
 have HHP:=(GD hD.f2 dh3).all.1
 have hln:0<D.aa6.length:=by have h9:=dh3;omega
 refine rr (λ_=>[(3,.l 0),(4,cU Zt v2 D.aa6 3 0),(5,qm Zt v2 D.aa6 3 0 0 8),(7,.s 5)]) (λq5=>[(5,pt (B6 q5) 0)]) [] (λq5 L=>L++[ob (B6 q5) #[i6 ((D.aa6.getD 0 b9).x0),i6 ((D.aa6.getD 0 b9).x1),i6 ((D.aa6.getD 0 b9).x2),i6 ((D.aa6.getD 0 b9).x3),i6 ((D.aa6.getD 0 b9).x4),i6 ((D.aa6.getD 0 b9).x5),i6 ((D.aa6.getD 0 b9).x6),i6 ((D.aa6.getD 0 b9).x7)] 48]) λq5=>rr (λq6=>[(4,.l 0),(5,KN Zt v2 D.aa6 3 1),(6,.c [3] [6] (aa.at (rd':=[dB v2 D.aa6]) (UH v2 D.aa6 1 Om Om) (bO (λ_ h=>ap.sq h) (λ_ h=>h)))),(9,.m (fZ 0 6 (dB ((q6 6).val 0) ((D.aa6).drop (1))) ((q6 6).val 0) λbs h=>ap.one ((λ_ h=>h) bs h)))]) N0 [] (λq6 L=>L.set 0 (ob g #[iN c.R,iN c.S,iN c.B,iN c.M,iN c.C,iN c.mode,.map (some gm),v1,(q6 6).val 0] 162)++[dB ((q6 6).val 0) ((D.aa6).drop (1))]) λq6=>r0 [(1,.l 5)] [(33,.bool (((D.aa6.getD 0 b9).x0)==7))] [] ?_
 refine cZ ((D.aa6.getD 0 b9).x0) 7 (λh8 dh8=>?_) λh8 dh8=>?_
 ·refine rr (λ_=>[(2,.s 4)]) N0 [] (λ_ L=>L.set 4 (ob (B0 q1) #[i6 i,.bool true] 88)) λq9=>?_
  exact am (.agg #[i6 i,.bool true]) (.l [] [] [((q6 6).val 0)]) (by unfold a8 di;(repeat (first | rw[h3] | rw[h8] | rw[ALct] | rw[ALcf]))) [0,1,2,6] [] [4] (hf:=by unfold eA;(try rewrite [Am As]);kernel_rfl)
 refine r0 [(3,.m (ls 0 ([iN c.R,iN c.S,iN c.B,iN c.M,iN c.C]))),(5,.m (ls 5 ([i6 ((D.aa6.getD 0 b9).x1),i6 ((D.aa6.getD 0 b9).x2),i6 ((D.aa6.getD 0 b9).x3),i6 ((D.aa6.getD 0 b9).x4)]))),(6,.c [] [] (GB c HGE ((D.aa6.getD 0 b9).x1) ((D.aa6.getD 0 b9).x2) ((D.aa6.getD 0 b9).x3) ((D.aa6.getD 0 b9).x4) HHP)),] [(6,i6 (dA ((D.aa6.getD 0 b9).x1) ((D.aa6.getD 0 b9).x2) ((D.aa6.getD 0 b9).x3) ((D.aa6.getD 0 b9).x4))),(7,i6 0)] [] (rF [] 47 (rs [(2,.s 4)] 4 (ob (B0 q1) #[i6 (dA ((D.aa6.getD 0 b9).x1) ((D.aa6.getD 0 b9).x2) ((D.aa6.getD 0 b9).x3) ((D.aa6.getD 0 b9).x4)),.bool false] 88) ?_))
 exact am (.agg #[i6 (dA ((D.aa6.getD 0 b9).x1) ((D.aa6.getD 0 b9).x2) ((D.aa6.getD 0 b9).x3) ((D.aa6.getD 0 b9).x4)),.bool false]) (.l [] [] [((q6 6).val 0)]) (by unfold a8 di;(repeat (first | rw[h3] | rw[h8] | rw[ALcf]))) [0,1,2,6] [] [4] (hf:=by unfold eA;(try rewrite [Am As]);kernel_rfl)
theorem Ap{R S B M C:Nat}(hG:f9 R S B M C){p0 p1 p2 p3:Int}(h:hold R S B M C p0 p1 p2 p3=true):gF R S B M C (dA p0 p1 p2 p3)=true:=by
 obtain⟨h0,h1,h2,h3,h4,h5⟩:=Qo hG.bd h
 unfold gF
 rw[h0,h1,h2,h3,h,bj Om];rfl
theorem UL{c:Cf}(hcf:dd c){D:Dr}(hD:iY c D){i:Int}(hi:gF c.R c.S c.B c.M c.C i=true):gF c.R c.S c.B c.M c.C (a8 D i)=true:=by
 unfold a8
 cases h:((D.aa6.length:Int)==0)
 ·rw[ALcf]
  cases (D.aa6.getD 0 b9).x0==7
  ·exact Ap hcf.ly.abc (GD hD.f2 (ne_of_beq_false h)).all.1
  ·exact hi
 ·exact hi
def qV(c:Cf)(D:Dr)(i:Int):List UInt8:=kC c.mode (i/1048576) (i/65536%16) (i/64%1024) (i%64) (D.cells i) D.aa8
theorem Aq{c:Cf}{D:Dr}(hD:iY c D)(i:Int):(qV c D i).length=72:=(wk ..).trans (hD.cl i)
def cd(c:Cf)(D:Dr)(i:Int):List UInt8:=bif di D then eF 72 0 else qV c (eA D) (a8 D i)
theorem m6{c:Cf}{D:Dr}(hD:iY c D)(i:Int):(cd c D i).length=72:=by
 unfold cd
 cases di D
 ·exact Aq (tu hD) _
 ·exact ir
def oP(D:Dr)(i:Int)(r:List UInt8):Dr:=⟨bif !(di D) then cI D.cells (a8 D i) r else D.cells,D.aa8,D.aa6.drop 1⟩
theorem tx{f:Int→List UInt8}{n:Nat}(h: ∀k,(f k).length=n)(i:Int){r:List UInt8}(hr:r.length=n)(k:Int):(cI f i r k).length=n:=by
 unfold cI
 split<;>simp [*]
theorem GF{c:Cf}{D:Dr}(h:iY c D)(i:Int){r:List UInt8}(hr:r.length=72):iY c (oP D i r):=by
 have h1:=tu h
 refine⟨?_,h1.l1,h1.l2,h1.f1,h1.f2⟩
 show ∀k,((bif !(di D) then cI D.cells (a8 D i) r else D.cells) k).length=72
 cases di D
 ·exact tx h.cl _ hr
 ·exact h.cl
def GG(xs:List UInt8)(b:Int):List UInt8:=xs.set (b.toNat/8) (xs.getD (b.toNat/8) 0^^^UInt8.ofNat (1*2^(b.toNat%8)))
def kX(c:Cf)(f:Fa):Bool:=nV f c.R c.S c.B c.M c.C c.mode
def kY(c:Cf)(D:Dr)(f:Fa):Dr:=
 ⟨bif !(kX c f) then D.cells else bif f.x0==1 then cI D.cells (dA f.x1 f.x2 f.x3 f.x4) (GG (D.cells (dA f.x1 f.x2 f.x3 f.x4)) f.x6) else D.cells,
  bif !(kX c f) then D.aa8 else bif f.x0==1 then D.aa8 else bif kW f then jN D.aa8 f else D.aa8,
  bif !(kX c f) then D.aa6 else bif f.x0==1 then D.aa6 else bif kW f then D.aa6 else jN D.aa6 f⟩
def iw(c:Cf)(D:Dr)(f:Fa):Int:=bif !(kX c f) then 10 else bif f.x0==1 then 0 else bif kW f then ib D.aa8 else ib D.aa6
theorem GH{xs:List Fa}(f:Fa)(h:xs.length≤256):(jN xs f).length≤256:=by
 unfold jN
 cases hb:decide (256≤(xs.length:Int))
 ·have:=of_decide_eq_false hb
  simp only[ALcf,List.length_append,List.length_singleton]
  omega
 ·exact h
theorem GI{xs:List Fa}{f:Fa}{p:Fa→Prop}(h: ∀x∈xs,p x)(hf:p f): ∀x∈jN xs f,p x:=by
 unfold jN
 cases decide (256≤(xs.length:Int))
 ·simp only[ALcf,List.mem_append,List.mem_singleton]
  rintro x (hx | rfl)
  ·exact h x hx
  ·exact hf
 ·exact h
theorem UM{c:Cf}{D:Dr}(h:iY c D)(f:Fa):iY c (kY c D f):=by
 unfold kY
 cases hf:kX c f
 ·exact⟨h.cl,h.l1,h.l2,h.f1,h.f2⟩
 ·have hF:m4 c f:=⟨hf⟩
  cases f.x0==1
  ·cases kW f
   ·exact⟨h.cl,h.l1,GH f h.l2,h.f1,GI h.f2 hF⟩
   ·exact⟨h.cl,GH f h.l1,h.l2,GI h.f1 hF,h.f2⟩
  ·exact⟨tx h.cl _ (by unfold GG;rw[List.length_set];exact h.cl _),h.l1,h.l2,h.f1,h.f2⟩
attribute [local irreducible] kC a8 di gF dA kW ib jN nV
theorem UN(g:Nat)(c:Cf)(hcf:dd c)(D:Dr)(hD:iY c D)(i:Int)(hi5:gF c.R c.S c.B c.M c.C i=true)(gm:Nat)(v1 v2:Value):aa dZ 191 #[pt g 0,i6 i] [ob g #[iN c.R,iN c.S,iN c.B,iN c.M,iN c.C,iN c.mode,.map (some gm),v1,v2] 162,eX D.cells gm,dB v1 D.aa8,dB v2 D.aa6] [1,2,3] (λ_=>[eX D.cells gm,dB v1 D.aa8,dB v2 D.aa6]) (λ_=> .tuple #[.agg (rB 72 (qV c D i)).toArray,i6 0]):=by
 have HGE:=hcf.ly.abc
 have HHI:=hi5
 have hl1:=hD.l1
 have hcl:=hD.cl i
 have hll:=Aq hD i
 have hm:=hcf.mode
 refine fG Tryz.func191 λw cs=>?_
 refine ra (λq1=>[(4,pt (B0 q1) 0),(5,i6 0)]) (λq1=>[ob (B0 q1) (rB 72 (eF 72 0)).toArray 217]) λq1=>rr (λ_=>[(3,.m (ls 0 ([iN c.R,iN c.S,iN c.B,iN c.M,iN c.C]))),(5,.c [] [] (Al c HGE i HHI)),(9,.m (al 5)),(10,.s 5)]) (λq2=>[(6,pt ((q2 9).abd 0) 0),(7,i6 0)]) [] (λq2 L=>L++[ob ((q2 9).abd 0) #[i6 (i/1048576),i6 (i/65536%16),i6 (i/64%1024),i6 (i%64)] 46]) λq2=>rF [] 18 (rr (λ_=>[(3,.m (ld 0 (v1))),(7,.m (ld 0 (iN c.mode))),(8,.m (ls 5 ([i6 (i/1048576),i6 (i/65536%16),i6 (i/64%1024),i6 (i%64)]))),(12,.m (ld 0 (.map (some gm)))),(14,.m (mg 1 (eX D.cells gm) gm i (λ_ h=>h))),(15,.c [2] [] (aa.at (rd':=[dB v1 D.aa8]) (UE c hm v1 D.aa8 (Nat.le_trans hD.l1 Dc) hD.f1 (i/1048576) (i/65536%16) (i/64%1024) (i%64) (D.cells i) (by(simp only[LL,hcl,hll];done))) (bO (λ_ h=>ap.sq h) (λ_ h=>h)))),(16,.s 4)]) (λ_=>[(5,i6 0)]) [5] (λ_ L=>L.set 4 (ob (B0 q1) (rB 72 (kC c.mode (i/1048576) (i/65536%16) (i/64%1024) (i%64) (D.cells i) D.aa8)).toArray 217)) λq4=>?_)
 exact am (.tuple #[.agg (rB 72 (kC c.mode (i/1048576) (i/65536%16) (i/64%1024) (i%64) (D.cells i) D.aa8)).toArray,i6 0]) ab.zero bh [1,2,3] [(0,0)] [4]
theorem UO(g:Nat)(c:Cf)(hcf:dd c)(D:Dr)(hD:iY c D)(i:Int)(hi5:gF c.R c.S c.B c.M c.C i=true)(r:List UInt8)(hr:r.length=72):aa dZ 204 #[pt g 0,i6 i,.agg (rB 72 r).toArray] [pk (gI g c D)] [0] (λ_=>[pk (gI g c (oP D i r))]) (λ_=> .tuple #[.agg #[i6 (a8 D i),.bool (di D)],i6 0]):=aa.pkZ Tryz.func204 λL hL=>by
 obtain⟨gm,v1,v2,rfl⟩:=hL
 refine⟨[0,1,2,3],λE=>[ob g #[iN c.R,iN c.S,iN c.B,iN c.M,iN c.C,iN c.mode,.map (some gm),v1,(E.val 0)] 162,eX ((oP D i r).cells) gm,dB v1 ((eA D).aa8),dB (E.val 0) ((eA D).aa6)],?_,rfl,λE=>⟨rfl,rfl,⟨_,_,_,rfl⟩⟩⟩
 have HGE:=hcf.ly.abc
 have HHI:=hi5
 refine fG Tryz.func204 λw cs=>?_
 refine ra (λq1=>[(5,pt (B0 q1) 0),(6,pt (B1 q1) 0),(7,i6 0)]) (λq1=>[ob (B0 q1) (rB 72 r).toArray 217,ob (B1 q1) #[i6 0,.bool false] 88]) λq1=>rr (λ_=>[(3,.m (ls 0 ([iN c.R,iN c.S,iN c.B,iN c.M,iN c.C]))),(5,.c [] [] (Al c HGE i HHI)),(9,.m (al 6)),(10,.s 6)]) (λ_=>[(9,i6 0)]) [] (λq2 L=>L++[ob ((q2 9).abd 0) #[i6 (i/1048576),i6 (i/65536%16),i6 (i/64%1024),i6 (i%64)] 46]) λq2=>rF [] 21 (rr (λ_=>[(2,.c [0,1,2,3] [0,1,2,3] (GE g c hcf D hD i gm v1 v2)),(4,.s 7)]) (λq4=>[(10,pt (B3 q4) 0)]) [] (λq4 L=>(((L.set 0 (ob g #[iN c.R,iN c.S,iN c.B,iN c.M,iN c.C,iN c.mode,.map (some gm),v1,((q4 2).val 0)] 162)).set 1 (eX ((eA D).cells) gm)).set 2 (dB v1 ((eA D).aa8))).set 3 (dB ((q4 2).val 0) ((eA D).aa6))++[ob (B3 q4) #[i6 (a8 D i),.bool (di D)] 88]) λq4=>r0 [(1,.l 7)] [(29,.bool (!(di D)))] [] ?_)
 refine cB (!(di D)) (λh6=>?_) λh6=>?_
 ·refine rr (λ_=>[(3,.l 0),(5,.l 7),(6,.l 4),(7,.m (mu 1 gm (a8 D i) qU lS ((eA D).cells) r))]) N0 [] (λ_ L=>L.set 1 (eX (cI ((eA D).cells) (a8 D i) r) gm)) λq7=>?_
  exact rr (λ_=>[(0,.l 7),(1,.s 5)]) (λ_=>[(7,i6 0)]) [7] (λ_ L=>L.set 5 (ob (B1 q1) #[i6 (a8 D i),.bool (di D)] 88)) λq8=>lf (.l [] [] [((q4 2).val 0)]) [0,1,2,3] [] [5] (hf:=by unfold oP;(repeat (first | rw[h6] | rw[ALct]));kernel_rfl)
 exact rr (λ_=>[(0,.l 7),(1,.s 5)]) (λ_=>[(7,i6 0)]) [7] (λ_ L=>L.set 5 (ob (B1 q1) #[i6 (a8 D i),.bool (di D)] 88)) λq9=>lf (.l [] [] [((q4 2).val 0)]) [0,1,2,3] [] [5] (hf:=by unfold oP;(repeat (first | rw[h6] | rw[ALcf]));kernel_rfl)
theorem UP(g:Nat)(c:Cf)(hcf:dd c)(D:Dr)(hD:iY c D)(i:Int)(hi5:gF c.R c.S c.B c.M c.C i=true):aa dZ 148 #[pt g 0,i6 i] [pk (gI g c D)] [0] (λ_=>[pk (gI g c (eA D))]) (λ_=> .tuple #[.agg (rB 72 (cd c D i)).toArray,.agg #[i6 (a8 D i),.bool (di D)],i6 0]):=aa.pkZ Tryz.func148 λL hL=>by
 obtain⟨gm,v1,v2,rfl⟩:=hL
 refine⟨[0,1,2,3],λE=>[ob g #[iN c.R,iN c.S,iN c.B,iN c.M,iN c.C,iN c.mode,.map (some gm),v1,(E.val 0)] 162,eX ((eA D).cells) gm,dB v1 ((eA D).aa8),dB (E.val 0) ((eA D).aa6)],?_,rfl,λE=>⟨rfl,rfl,⟨_,_,_,rfl⟩⟩⟩
 have HGE:=hcf.ly.abc
 have HHI:=hi5
 have hwi:=UL hcf hD hi5
 have hll:=Aq (tu hD) (a8 D i)
 refine fG Tryz.func148 λw cs=>?_
 refine ra (λq1=>[(4,pt (B0 q1) 0),(5,pt (B1 q1) 0),(6,i6 0)]) (λq1=>[ob (B0 q1) (rB 72 (eF 72 0)).toArray 217,ob (B1 q1) #[i6 0,.bool false] 88]) λq1=>rr (λ_=>[(3,.m (ls 0 ([iN c.R,iN c.S,iN c.B,iN c.M,iN c.C]))),(5,.c [] [] (Al c HGE i HHI)),(9,.m (al 6)),(10,.s 6)]) (λ_=>[(8,i6 0)]) [] (λq2 L=>L++[ob ((q2 9).abd 0) #[i6 (i/1048576),i6 (i/65536%16),i6 (i/64%1024),i6 (i%64)] 46]) λq2=>rF [] 22 (rr (λ_=>[(2,.c [0,1,2,3] [0,1,2,3] (GE g c hcf D hD i gm v1 v2)),(4,.s 7)]) (λq4=>[(9,pt (B3 q4) 0)]) [] (λq4 L=>(((L.set 0 (ob g #[iN c.R,iN c.S,iN c.B,iN c.M,iN c.C,iN c.mode,.map (some gm),v1,((q4 2).val 0)] 162)).set 1 (eX ((eA D).cells) gm)).set 2 (dB v1 ((eA D).aa8))).set 3 (dB ((q4 2).val 0) ((eA D).aa6))++[ob (B3 q4) #[i6 (a8 D i),.bool (di D)] 88]) λq4=>r0 [(1,.l 7)] [(30,.bool (di D))] [] ?_)
 refine cB (di D) (λh6=>?_) λh6=>?_
 ·refine rr (λ_=>[(1,.l 7),(2,.s 4),(3,.s 5)]) (λ_=>[(6,i6 0)]) [6] (λ_ L=>L.set 5 (ob (B1 q1) #[i6 (a8 D i),.bool (di D)] 88)) λq7=>?_
  exact am (.tuple #[.agg (rB 72 (eF 72 0)).toArray,.agg #[i6 (a8 D i),.bool (di D)],i6 0]) (.l [] [] [((q4 2).val 0)]) (by unfold cd;(repeat (first | rw[h6] | rw[ALct]))) [0,1,2,3] [] [4,5]
 refine rr (λ_=>[(2,.l 7),(3,.c [0,1,2,3] [1,2,3] (UN g c hcf (eA D) (tu hD) (a8 D i) hwi gm v1 ((q4 2).val 0))),(8,.s 8)]) (λq8=>[(10,pt (B7 q8) 0),(11,i6 0)]) [] (λq8 L=>L.set 3 (dB ((q4 2).val 0) ((eA D).aa6))++[ob (B7 q8) (rB 72 (qV c (eA D) (a8 D i))).toArray 217]) λq8=>rr (λ_=>[(0,.l 8),(1,.l 7),(3,.s 4),(4,.s 5)]) (λ_=>[(6,i6 0)]) [6] (λ_ L=>(L.set 4 (ob (B0 q1) (rB 72 (qV c (eA D) (a8 D i))).toArray 217)).set 5 (ob (B1 q1) #[i6 (a8 D i),.bool (di D)] 88)) λq9=>?_
 exact am (.tuple #[.agg (rB 72 (qV c (eA D) (a8 D i))).toArray,.agg #[i6 (a8 D i),.bool (di D)],i6 0]) (.l [] [] [((q4 2).val 0)]) (by unfold cd;(repeat (first | rw[h6] | rw[ALcf]))) [0,1,2,3] [] [4,5]
theorem UQ(g:Nat)(c:Cf)(hcf:dd c)(D:Dr)(hD:iY c D)(f:Fa):aa dZ 129 #[pt g 0,.agg #[i6 f.x0,i6 f.x1,i6 f.x2,i6 f.x3,i6 f.x4,i6 f.x5,i6 f.x6,i6 f.x7]] [pk (gI g c D)] [0] (λ_=>[pk (gI g c (kY c D f))]) (λ_=>i6 (iw c D f)):=aa.pkZ Tryz.func129 λL hL=>by
 obtain⟨gm,v1,v2,rfl⟩:=hL
 refine⟨[0,1,2,3],λE=>[ob g #[iN c.R,iN c.S,iN c.B,iN c.M,iN c.C,iN c.mode,.map (some gm),(E.val 0),(E.val 1)] 162,eX ((kY c D f).cells) gm,dB (E.val 0) ((kY c D f).aa8),dB (E.val 1) ((kY c D f).aa6)],?_,rfl,λE=>⟨rfl,rfl,⟨_,_,_,rfl⟩⟩⟩
 have HGE:=hcf.ly.abc
 have hcl:=hD.cl (dA f.x1 f.x2 f.x3 f.x4)
 have hG:=hcf.ly.abc
 refine fG Tryz.func129 λw cs=>?_
 refine ra (λq1=>[(3,pt (B0 q1) 0),(4,i6 0)]) (λq1=>[ob (B0 q1) #[i6 f.x0,i6 f.x1,i6 f.x2,i6 f.x3,i6 f.x4,i6 f.x5,i6 f.x6,i6 f.x7] 48]) λq1=>r0 [(0,.m (ls 4 ([i6 f.x0,i6 f.x1,i6 f.x2,i6 f.x3,i6 f.x4,i6 f.x5,i6 f.x6,i6 f.x7]))),(4,.m (ls 0 ([iN c.R,iN c.S,iN c.B,iN c.M,iN c.C]))),(8,.m (ld 0 (iN c.mode))),(9,.c [] [] (Ue f c.R c.S c.B c.M c.C c.mode hG hcf.mode)),] [(19,.bool (!(nV f c.R c.S c.B c.M c.C c.mode)))] [] ?_
 refine cB (!(nV f c.R c.S c.B c.M c.C c.mode)) (λh3=>?_) λh3=>?_
 ·refine r0 [] [(4,i6 10)] [4] ?_
  exact am (i6 10) (.l [] [] [v1,v2]) (by unfold iw kX;(repeat (first | rw[h3] | rw[ALct]))) [0,1,2,3] [] [] (hf:=by unfold kY kX;(repeat (first | rw[h3] | rw[ALct]));kernel_rfl)
 have HFR:m4 c f:=⟨by simpa using h3⟩
 have HHP:=HFR.all.1
 refine r0 [(1,.l 4)] [(31,.bool (f.x0==1))] [] ?_
 refine cZ f.x0 1 (λh6 dh6=>?_) λh6 dh6=>?_
 ·refine r0 [(3,.m (ls 0 ([iN c.R,iN c.S,iN c.B,iN c.M,iN c.C]))),(5,.m (ls 4 ([i6 f.x1,i6 f.x2,i6 f.x3,i6 f.x4]))),(6,.c [] [] (GB c HGE f.x1 f.x2 f.x3 f.x4 HHP)),] [(5,i6 (dA f.x1 f.x2 f.x3 f.x4)),(6,i6 0)] [] ?_
  refine rs [(3,.m (ld 0 (.map (some gm)))),(8,.m (ld 0 (.map (some gm)))),(10,.m (mg 1 (eX D.cells gm) gm (dA f.x1 f.x2 f.x3 f.x4) (λ_ h=>h))),(12,.m (ld 4 (i6 f.x6))),(13,.c [] [] (Gr (D.cells (dA f.x1 f.x2 f.x3 f.x4)) (by(simp only[LL,hcl];done)) f.x6 HFR.all.2.1.1 HFR.all.2.1.2)),(14,.m (mu 1 gm (dA f.x1 f.x2 f.x3 f.x4) qU lS D.cells ((D.cells (dA f.x1 f.x2 f.x3 f.x4)).set (f.x6.toNat/8) (((D.cells (dA f.x1 f.x2 f.x3 f.x4)).getD (f.x6.toNat/8) 0)^^^(UInt8.ofNat (1*2^(f.x6.toNat%8)))))))] 1 (eX (cI D.cells (dA f.x1 f.x2 f.x3 f.x4) ((D.cells (dA f.x1 f.x2 f.x3 f.x4)).set (f.x6.toNat/8) (((D.cells (dA f.x1 f.x2 f.x3 f.x4)).getD (f.x6.toNat/8) 0)^^^(UInt8.ofNat (1*2^(f.x6.toNat%8)))))) gm) (r0 [] [(4,i6 0)] [4] ?_)
  exact am (i6 0) (.l [] [] [v1,v2]) (by unfold iw kX;(repeat (first | rw[h3] | rw[h6] | rw[ALct] | rw[ALcf]))) [0,1,2,3] [] [] (hf:=by unfold kY kX;(repeat (first | rw[h3] | rw[h6] | rw[ALct] | rw[ALcf]));kernel_rfl)
 refine r0 [(0,.l 4),(1,.c [] [] (Gq f))] [(60,.bool (kW f))] [] ?_
 refine cB (kW f) (λh11=>?_) λh11=>?_
 ·refine rr (λq12=>[(4,.m (ld 0 (v1))),(5,.m (ls 4 ([i6 f.x0,i6 f.x1,i6 f.x2,i6 f.x3,i6 f.x4,i6 f.x5,i6 f.x6,i6 f.x7]))),(6,.c [2] [2] (GC v1 D.aa8 f)),(12,.m (fZ 0 2 (dB ((q12 6).val 0) (jN D.aa8 f)) ((q12 6).val 0) λbs h=>ap.one ((λ_ h=>h) bs h)))]) (λ_=>[(4,i6 (ib D.aa8))]) [4] (λq12 L=>(L.set 0 (ob g #[iN c.R,iN c.S,iN c.B,iN c.M,iN c.C,iN c.mode,.map (some gm),((q12 6).val 0),v2] 162)).set 2 (dB ((q12 6).val 0) (jN D.aa8 f))) λq12=>?_
  refine r0 [] [(4,i6 (ib D.aa8))] [4] ?_
  exact am (i6 (ib D.aa8)) (.l [] [] [((q12 6).val 0),v2]) (by unfold iw kX;(repeat (first | rw[h3] | rw[h6] | rw[h11] | rw[ALct] | rw[ALcf]))) [0,1,2,3] [] [] (hf:=by unfold kY kX;(repeat (first | rw[h3] | rw[h6] | rw[h11] | rw[ALct] | rw[ALcf]));kernel_rfl)
 refine rr (λq14=>[(4,.m (ld 0 (v2))),(5,.m (ls 4 ([i6 f.x0,i6 f.x1,i6 f.x2,i6 f.x3,i6 f.x4,i6 f.x5,i6 f.x6,i6 f.x7]))),(6,.c [3] [3] (GC v2 D.aa6 f)),(12,.m (fZ 0 3 (dB ((q14 6).val 0) (jN D.aa6 f)) ((q14 6).val 0) λbs h=>ap.one ((λ_ h=>h) bs h)))]) (λ_=>[(4,i6 (ib D.aa6))]) [4] (λq14 L=>(L.set 0 (ob g #[iN c.R,iN c.S,iN c.B,iN c.M,iN c.C,iN c.mode,.map (some gm),v1,((q14 6).val 0)] 162)).set 3 (dB ((q14 6).val 0) (jN D.aa6 f))) λq14=>r0 [] [(4,i6 (ib D.aa6))] [4] ?_
 exact am (i6 (ib D.aa6)) (.l [] [] [v1,((q14 6).val 0)]) (by unfold iw kX;(repeat (first | rw[h3] | rw[h6] | rw[h11] | rw[ALcf]))) [0,1,2,3] [] [] (hf:=by unfold kY kX;(repeat (first | rw[h3] | rw[h6] | rw[h11] | rw[ALcf]));kernel_rfl)
end Go.Proofs.YtbcodenfkijdnaaGreat.E
namespace Go.Proofs.YtbcodenfkijdnaaGreat.E
open Go Go.RowKit Go.Shelf
open Go.Proofs.Tryz renaming prog→dZ
theorem GJ{α β:Type}{en:α→List Value}{z:List Value}{T:TypeId}{en2:β→List Value}{z2:List Value}{T2:TypeId}{S:ah→Prop}{L:ah}{ds:List aw}(hS:S (L++[.p (ap en z T (.slice none 0 0) ([]:List α)),.p (ap en2 z2 T2 (.slice none 0 0) ([]:List β))]))(h:bu L ds): ∃ds',bu [pk S] ds'∧ds'.flatten=ds.flatten:=
 ⟨[ds.flatten],⟨⟨_,ds++[[],[]],hS,kG h ⟨ap.nil none,ap.nil none,trivial⟩,by simp⟩,trivial⟩,by simp⟩
theorem UR(c:Cf)(hcf:dd c):aa dZ 112 #[.agg #[iN c.R,iN c.S,iN c.B,iN c.M,iN c.C],iN c.mode] [] [] (λE=>[pk (gI (E.abd 0) c tt)]) (λE=> .tuple #[pt (E.abd 0) 0,i6 0]):=(UJ c hcf).outs λE ds hs=>GJ ⟨_,_,_,rfl⟩ hs
structure Ac where
 wr:Bool
 ix:Int
 wt:Int
 dr:Bool
 ex:Int
 mr:Bool
def dO:Ac:=⟨false,0,0,false,0,false⟩
def Ar(x:Ac):List Value:=[.bool x.wr,i6 x.ix,i6 x.wt,.bool x.dr,i6 x.ex,.bool x.mr]
def tz:Kd dZ Ac:=⟨Ar,[.bool false,i6 0,i6 0,.bool false,i6 0,.bool false],142,90,dO,6,λ_=>rfl,rfl,λ_=>rfl,d9.mk' Kr Kr rfl⟩
abbrev lT(v:Value)(xs:List Ac):az:= .p (ap Ar ([.bool false,i6 0,i6 0,.bool false,i6 0,.bool false]) 90 v xs)
def At(x:Int):Value:= .int .i64 x
abbrev lU(f:Int→Int)(g:Nat):az:= .p (mi At 0 f g)
structure Dv where
 D:Dr
 aa7:Int→List UInt8
 aa9:Int→Int
 l:List Ac
abbrev bl(g ge:Nat)(c:Cf)(V:Dv)(L:ah):Prop:=∃(gm gk:Nat) (v:Value),L=[ob g #[pt ge 0,.map (some gm),.map (some gk),v] 144,pk (gI ge c V.D),eX V.aa7 gm,lU V.aa9 gk,lT v V.l]
structure nX (c:Cf) (V:Dv):Prop where
 D:iY c V.D
 gl: ∀k,(V.aa7 k).length=72
 ll:V.l.length≤900000
def tA:Dv:=⟨tt,λ_=>lS,λ_=>0,[]⟩
def iZ(V:Dv)(i:Int)(r:List UInt8)(mk:Int):Dv:=⟨oP V.D i r,cI V.aa7 i r,cI V.aa9 i mk,V.l++[⟨true,i,a8 V.D i,di V.D,0,false⟩]⟩
def nY(c:Cf)(V:Dv)(i:Int):Ac:=⟨false,i,a8 V.D i,di V.D,((dm (c.mode:Int) (cd c V.D i) (V.aa7 (a8 V.D i)):Nat):Int),bif !(di V.D) then V.aa9 (a8 V.D i)==1 else false⟩
def qW(c:Cf)(V:Dv)(i:Int):Dv:=⟨eA V.D,V.aa7,V.aa9,V.l++[nY c V i]⟩
def nZ(c:Cf)(V:Dv)(f:Fa):Dv:={V with D:=kY c V.D f}
attribute [local irreducible] dm cd a8 di gF
theorem US(g ge gm gk:Nat)(v:Value)(f:Int→Int)(i:Int):aa dZ 150 #[pt g 0,i6 i] [ob g #[pt ge 0,.map (some gm),.map (some gk),v] 144,lU f gk] [1] (λ_=>[lU f gk]) (λ_=> .bool ((f i)==1)):=by
 refine fG Tryz.func150 λw cs=>?_
 exact r0 [] [(4,.bool false)] [] (r0 [(3,.l 0),(5,.m (mg 1 (lU f gk) gk i (λ_ h=>h)))] [(4,.bool ((f i)==1))] [4] (lf ab.zero [1] [(0,0)] []))
theorem Au(g ge:Nat)(c:Cf)(V:Dv):aa dZ 36 #[pt g 0] [pk (bl g ge c V)] [0] (λ_=>[pk (bl g ge c V)]) (λ_=>pt ge 0):=aa.pkZ Tryz.func36 λL hL=>by
 obtain⟨gm,gk,v,rfl⟩:=hL
 refine⟨[1,2,3,4],λ_=>[pk (gI ge c V.D),eX V.aa7 gm,lU V.aa9 gk,lT v V.l],?_,rfl,λE=>⟨rfl,rfl,⟨_,_,_,rfl⟩⟩⟩
 refine fG Tryz.func36 λw cs=>?_
 exact r0 [] [(2,.pointer none)] [] (r0 [(3,.l 0)] [(2,pt ge 0)] [2] (lf ab.zero [1,2,3,4] [(0,0)] []))
theorem UT(g ge:Nat)(c:Cf)(V:Dv):aa dZ 42 #[pt g 0] [pk (bl g ge c V)] [0] (λ_=>[pk (bl g ge c V)]) (λ_=>iN V.l.length):=aa.pkZ Tryz.func42 λL hL=>by
 obtain⟨gm,gk,v,rfl⟩:=hL
 refine⟨[1,2,3,4],λ_=>[pk (gI ge c V.D),eX V.aa7 gm,lU V.aa9 gk,lT v V.l],?_,rfl,λE=>⟨rfl,rfl,⟨_,_,_,rfl⟩⟩⟩
 refine fG Tryz.func42 λw cs=>?_
 exact r0 [] [(2,i6 0)] [] (r0 [(3,.l 0),(4,fC tz v V.l 4)] [(2,iN V.l.length)] [2] (lf ab.zero [1,2,3,4] [(0,0)] []))
theorem UU(g ge:Nat)(c:Cf)(hcf:dd c)(V:Dv)(hV:nX c V)(f:Fa):aa dZ 90 #[pt g 0,.agg #[i6 f.x0,i6 f.x1,i6 f.x2,i6 f.x3,i6 f.x4,i6 f.x5,i6 f.x6,i6 f.x7]] [pk (bl g ge c V)] [0] (λ_=>[pk (bl g ge c (nZ c V f))]) (λ_=>i6 (iw c V.D f)):=aa.pkZ Tryz.func90 λL hL=>by
 obtain⟨gm,gk,v,rfl⟩:=hL
 refine⟨[1,2,3,4],λ_=>[pk (gI ge c (kY c V.D f)),eX V.aa7 gm,lU V.aa9 gk,lT v V.l],?_,rfl,λE=>⟨rfl,rfl,⟨_,_,_,rfl⟩⟩⟩
 refine fG Tryz.func90 λw cs=>?_
 exact ra (λq1=>[(3,pt (B0 q1) 0),(4,i6 0)]) (λq1=>[ob (B0 q1) #[i6 f.x0,i6 f.x1,i6 f.x2,i6 f.x3,i6 f.x4,i6 f.x5,i6 f.x6,i6 f.x7] 48]) λq1=>rr (λ_=>[(3,.l 0),(4,.l 5),(5,.c [1] [1] (UQ ge c hcf V.D hV.D f))]) (λ_=>[(4,i6 (iw c V.D f))]) [4] (λ_ L=>L.set 1 ((pk (gI ge c (kY c V.D f))))) λq2=>lf ab.zero [1,2,3,4] [(0,0)] []
theorem GK(g ge:Nat)(c:Cf)(hcf:dd c)(V:Dv)(hV:nX c V)(i:Int)(hi5:gF c.R c.S c.B c.M c.C i=true)(r:List UInt8)(hr:r.length=72)(mk:Int):aa dZ 162 #[pt g 0,i6 i,.agg (rB 72 r).toArray,i6 mk] [pk (bl g ge c V)] [0] (λ_=>[pk (bl g ge c (iZ V i r mk))]) (λ_=>i6 0):=aa.pkZ Tryz.func162 λL hL=>by
 obtain⟨gm,gk,v,rfl⟩:=hL
 refine⟨[0,1,2,3,4],λE=>[ob g #[pt ge 0,.map (some gm),.map (some gk),(E.val 0)] 144,pk (gI ge c (oP V.D i r)),eX (cI V.aa7 i r) gm,lU (cI V.aa9 i mk) gk,lT (E.val 0) (V.l++([(⟨true,i,(a8 V.D i),di V.D,0,false⟩:Ac)]))],?_,rfl,λE=>⟨rfl,rfl,⟨_,_,_,rfl⟩⟩⟩
 have hll:=hV.ll
 refine fG Tryz.func162 λw cs=>?_
 refine ra (λq1=>[(6,pt (B0 q1) 0),(8,i6 0)]) (λq1=>[ob (B0 q1) (rB 72 r).toArray 217]) λq1=>rr (λ_=>[(0,.v (pt g 0)),(1,.v (pt g 0)),(2,.v (pt g 0)),(3,.m (ld 0 (pt ge 0))),(4,.v (i6 i)),(5,.m (ls 5 (rB 72 r))),(6,.c [1] [1] (UO ge c hcf V.D hV.D i hi5 r (by(simp only[LL,hr,hr];done)))),(7,.v (.tuple #[.agg #[i6 (a8 V.D i),.bool (di V.D)],i6 0])),(8,.v (.agg #[i6 (a8 V.D i),.bool (di V.D)])),(9,.v (i6 0)),(10,.m (al 6)),(11,.s 6),(12,.v (i6 0))]) (λq2=>[(9,pt ((q2 10).abd 0) 0),(10,i6 0)]) [] (λq2 L=>L.set 1 ((pk (gI ge c (oP V.D i r))))++[ob ((q2 10).abd 0) #[i6 (a8 V.D i),.bool (di V.D)] 88]) λq2=>rF [] 22 (rs [(3,.l 0),(5,.l 5),(6,.m (mu 2 gm i qU lS V.aa7 r))] 2 (eX (cI V.aa7 i r) gm) (rs [(3,.l 0),(6,.m (mu 3 gk i At 0 V.aa9 mk))] 3 (lU (cI V.aa9 i mk) gk) (rr (λq6=>[(0,.v (pt g 0)),(1,.v (pt g 0)),(2,.v (pt g 0)),(3,.v (pt g 3)),(4,.m (ld 0 (v))),(5,.v (i6 i)),(6,.m (ls 6 ([i6 (a8 V.D i),.bool (di V.D)]))),(7,.v (.agg #[.bool true,i6 i,i6 (a8 V.D i),.bool (di V.D),i6 0,.bool false])),(8,.m (bs 7 1)),(9,fD tz (v) V.l 4 7 ([(⟨true,i,(a8 V.D i),di V.D,0,false⟩:Ac)])),(10,.v (pt g 0)),(11,.v (pt g 3)),(12,.m (fZ 0 4 (lT ((q6 9).val 0) (V.l++([(⟨true,i,(a8 V.D i),di V.D,0,false⟩:Ac)]))) ((q6 9).val 0) λbs h=>ap.one ((λ_ h=>h) bs h)))]) N0 [] (λq6 L=>(L.set 0 (ob g #[pt ge 0,.map (some gm),.map (some gk),(q6 9).val 0] 144)).set 4 (lT ((q6 9).val 0) (V.l++([(⟨true,i,(a8 V.D i),di V.D,0,false⟩:Ac)])))++[ob ((q6 8).abd 0) #[.bool true,i6 i,i6 (a8 V.D i),.bool (di V.D),i6 0,.bool false] 90]) λq6=>?_)))
 exact r0 [] [(8,i6 0)] [8] (lf (.l [] [] [(q6 9).val 0]) [0,1,2,3,4] [] [])
theorem UV(g ge:Nat)(c:Cf)(hcf:dd c)(V:Dv)(hV:nX c V)(i:Int)(hi5:gF c.R c.S c.B c.M c.C i=true)(r:List UInt8)(hr:r.length=72):aa dZ 127 #[pt g 0,i6 i,.agg (rB 72 r).toArray] [pk (bl g ge c V)] [0] (λ_=>[pk (bl g ge c (iZ V i r 0))]) (λ_=>i6 0):=by
 refine fG Tryz.func127 λw cs=>?_
 exact ra (λq1=>[(5,pt (B0 q1) 0),(6,i6 0)]) (λq1=>[ob (B0 q1) (rB 72 r).toArray 217]) λq1=>rr (λ_=>[(2,.l 1),(3,.c [0] [0] (GK g ge c hcf V hV i hi5 r (by(simp only[LL,hr,hr];done)) 0))]) (λ_=>[(6,i6 0)]) [6] (λ_ L=>L.set 0 ((pk (bl g ge c (iZ V i r 0))))) λq2=>lf ab.zero [0] [] []
theorem UW(g ge:Nat)(c:Cf)(hcf:dd c)(V:Dv)(hV:nX c V)(i:Int)(hi5:gF c.R c.S c.B c.M c.C i=true)(r:List UInt8)(hr:r.length=72):aa dZ 126 #[pt g 0,i6 i,.agg (rB 72 r).toArray] [pk (bl g ge c V)] [0] (λ_=>[pk (bl g ge c (iZ V i r 1))]) (λ_=>i6 0):=by
 refine fG Tryz.func126 λw cs=>?_
 exact ra (λq1=>[(5,pt (B0 q1) 0),(6,i6 0)]) (λq1=>[ob (B0 q1) (rB 72 r).toArray 217]) λq1=>rr (λ_=>[(2,.l 1),(3,.c [0] [0] (GK g ge c hcf V hV i hi5 r (by(simp only[LL,hr,hr];done)) 1))]) (λ_=>[(6,i6 0)]) [6] (λ_ L=>L.set 0 ((pk (bl g ge c (iZ V i r 1))))) λq2=>lf ab.zero [0] [] []
theorem UX(g ge:Nat)(c:Cf)(hcf:dd c)(V:Dv)(hV:nX c V)(i:Int)(hi5:gF c.R c.S c.B c.M c.C i=true):aa dZ 123 #[pt g 0,i6 i] [pk (bl g ge c V)] [0] (λ_=>[pk (bl g ge c (qW c V i))]) (λ_=> .tuple #[.agg (rB 72 (cd c V.D i)).toArray,i6 0]):=aa.pkZ Tryz.func123 λL hL=>by
 obtain⟨gm,gk,v,rfl⟩:=hL
 refine⟨[0,1,2,3,4],λE=>[ob g #[pt ge 0,.map (some gm),.map (some gk),(E.val 0)] 144,pk (gI ge c (eA V.D)),eX V.aa7 gm,lU V.aa9 gk,lT (E.val 0) ((qW c V i).l)],?_,rfl,λE=>⟨rfl,rfl,⟨_,_,_,rfl⟩⟩⟩
 have hll:=hV.ll
 have hrl:=m6 hV.D i
 have hgl:=hV.gl (a8 V.D i)
 have hm:=hcf.mode
 refine fG Tryz.func123 λw cs=>?_
 refine ra (λq1=>[(4,pt (B0 q1) 0),(5,i6 0)]) (λq1=>[ob (B0 q1) (rB 72 (List.replicate 72 0)).toArray 217]) λq1=>rr (λ_=>[(0,.v (pt g 0)),(1,.v (pt g 0)),(2,.v (pt g 0)),(3,.m (ld 0 (pt ge 0))),(4,.v (i6 i)),(5,.c [1] [1] (UP ge c hcf V.D hV.D i hi5)),(6,.v (.tuple #[.agg (rB 72 (cd c V.D i)).toArray,.agg #[i6 (a8 V.D i),.bool (di V.D)],i6 0])),(7,.v (.agg (rB 72 (cd c V.D i)).toArray)),(8,.v (.agg #[i6 (a8 V.D i),.bool (di V.D)])),(9,.v (i6 0)),(10,.m (al 6)),(11,.m (al 7)),(12,.s 6),(13,.s 7),(14,.v (i6 0))]) (λq2=>[(6,pt ((q2 10).abd 0) 0),(7,pt ((q2 11).abd 0) 0),(8,i6 0)]) [] (λq2 L=>L.set 1 ((pk (gI ge c (eA V.D))))++[ob ((q2 10).abd 0) (rB 72 (cd c V.D i)).toArray 217,ob ((q2 11).abd 0) #[i6 (a8 V.D i),.bool (di V.D)] 88]) λq2=>rF [] 20 ?_
 cases h4:(di V.D)
 case true=>
  exact rr (λq5=>[(0,.v (pt g 0)),(1,.v (pt g 0)),(2,.v (pt g 0)),(3,.v (pt g 3)),(4,.m (ld 0 (v))),(5,.v (i6 i)),(6,.m (ls 7 ([i6 (a8 V.D i),.bool true]))),(7,.v (pt g 0)),(8,.v (pt g 0)),(9,.v (pt g 0)),(10,.m (ld 0 (pt ge 0))),(11,.c [1] [1] (Ao ge c (eA V.D))),(12,.m (ls 6 (rB 72 (cd c V.D i)))),(13,.v (pt g 0)),(14,.v (pt g 0)),(15,.v (pt g 1)),(16,.m (ld 0 (.map (some gm)))),(17,.v (pt ((q2 11).abd 0) 0)),(18,.m (ld 7 (i6 (a8 V.D i)))),(19,.m (mg 2 (eX V.aa7 gm) gm (a8 V.D i) (λ_ h=>h))),(20,.c [] [] (Gz c.mode Om (cd c V.D i) (V.aa7 (a8 V.D i)) (by(simp only[LL,hrl,hgl];done)) (by(simp only[LL,hrl,hgl];done)))),(21,.v (pt ((q2 11).abd 0) 1)),(22,.m (ld 7 (.bool true))),(23,.v (.bool false)),(24,.v (.bool false)),(25,.d),(26,.d),(27,.d),(28,.d),(30,.v (.agg #[.bool false,i6 i,i6 (a8 V.D i),.bool true,i6 ((dm (c.mode:Int) (cd c V.D i) (V.aa7 (a8 V.D i)):Nat):Int),.bool false])),(31,.m (bs 8 1)),(32,fD tz (v) V.l 4 8 ([(⟨false,i,(a8 V.D i),true,((dm (c.mode:Int) (cd c V.D i) (V.aa7 (a8 V.D i)):Nat):Int),false⟩:Ac)])),(33,.v (pt g 0)),(34,.v (pt g 3)),(35,.m (fZ 0 4 (lT ((q5 32).val 0) (V.l++([(⟨false,i,(a8 V.D i),true,((dm (c.mode:Int) (cd c V.D i) (V.aa7 (a8 V.D i)):Nat):Int),false⟩:Ac)]))) ((q5 32).val 0) λbs h=>ap.one ((λ_ h=>h) bs h)))]) N0 [] (λq5 L=>(L.set 0 (ob g #[pt ge 0,.map (some gm),.map (some gk),(q5 32).val 0] 144)).set 4 (lT ((q5 32).val 0) (V.l++([(⟨false,i,(a8 V.D i),true,((dm (c.mode:Int) (cd c V.D i) (V.aa7 (a8 V.D i)):Nat):Int),false⟩:Ac)])))++[ob ((q5 31).abd 0) #[.bool false,i6 i,i6 (a8 V.D i),.bool true,i6 ((dm (c.mode:Int) (cd c V.D i) (V.aa7 (a8 V.D i)):Nat):Int),.bool false] 90]) λq5=>rr (λ_=>[(0,.l 6),(1,.s 5)]) (λ_=>[(5,i6 0)]) [5] (λ_ L=>L.set 5 (ob (B0 q1) (rB 72 (cd c V.D i)).toArray 217)) λq6=>lf (.l [] [] [(q5 32).val 0]) [0,1,2,3,4] [] [5] (hf:=by unfold qW nY;(repeat (rw[h4]));kernel_rfl)
 exact rr (λq7=>[(0,.v (pt g 0)),(1,.v (pt g 0)),(2,.v (pt g 0)),(3,.v (pt g 3)),(4,.m (ld 0 (v))),(5,.v (i6 i)),(6,.m (ls 7 ([i6 (a8 V.D i),.bool false]))),(7,.v (pt g 0)),(8,.v (pt g 0)),(9,.v (pt g 0)),(10,.m (ld 0 (pt ge 0))),(11,.c [1] [1] (Ao ge c (eA V.D))),(12,.m (ls 6 (rB 72 (cd c V.D i)))),(13,.v (pt g 0)),(14,.v (pt g 0)),(15,.v (pt g 1)),(16,.m (ld 0 (.map (some gm)))),(17,.v (pt ((q2 11).abd 0) 0)),(18,.m (ld 7 (i6 (a8 V.D i)))),(19,.m (mg 2 (eX V.aa7 gm) gm (a8 V.D i) (λ_ h=>h))),(20,.c [] [] (Gz c.mode Om (cd c V.D i) (V.aa7 (a8 V.D i)) (by(simp only[LL,hrl,hgl];done)) (by(simp only[LL,hrl,hgl];done)))),(21,.v (pt ((q2 11).abd 0) 1)),(22,.m (ld 7 (.bool false))),(23,.v (.bool true)),(24,.v (.bool true)),(25,.v (pt g 0)),(26,.v (pt ((q2 11).abd 0) 0)),(27,.m (ld 7 (i6 (a8 V.D i)))),(28,.c [0,3] [3] (US g ge gm gk v V.aa9 (a8 V.D i))),(30,.v (.agg #[.bool false,i6 i,i6 (a8 V.D i),.bool false,i6 ((dm (c.mode:Int) (cd c V.D i) (V.aa7 (a8 V.D i)):Nat):Int),.bool ((V.aa9 (a8 V.D i))==1)])),(31,.m (bs 8 1)),(32,fD tz (v) V.l 4 8 ([(⟨false,i,(a8 V.D i),false,((dm (c.mode:Int) (cd c V.D i) (V.aa7 (a8 V.D i)):Nat):Int),(V.aa9 (a8 V.D i))==1⟩:Ac)])),(33,.v (pt g 0)),(34,.v (pt g 3)),(35,.m (fZ 0 4 (lT ((q7 32).val 0) (V.l++([(⟨false,i,(a8 V.D i),false,((dm (c.mode:Int) (cd c V.D i) (V.aa7 (a8 V.D i)):Nat):Int),(V.aa9 (a8 V.D i))==1⟩:Ac)]))) ((q7 32).val 0) λbs h=>ap.one ((λ_ h=>h) bs h)))]) N0 [] (λq7 L=>(L.set 0 (ob g #[pt ge 0,.map (some gm),.map (some gk),(q7 32).val 0] 144)).set 4 (lT ((q7 32).val 0) (V.l++([(⟨false,i,(a8 V.D i),false,((dm (c.mode:Int) (cd c V.D i) (V.aa7 (a8 V.D i)):Nat):Int),(V.aa9 (a8 V.D i))==1⟩:Ac)])))++[ob ((q7 31).abd 0) #[.bool false,i6 i,i6 (a8 V.D i),.bool false,i6 ((dm (c.mode:Int) (cd c V.D i) (V.aa7 (a8 V.D i)):Nat):Int),.bool ((V.aa9 (a8 V.D i))==1)] 90]) λq7=>rr (λ_=>[(0,.l 6),(1,.s 5)]) (λ_=>[(5,i6 0)]) [5] (λ_ L=>L.set 5 (ob (B0 q1) (rB 72 (cd c V.D i)).toArray 217)) λq8=>lf (.l [] [] [(q7 32).val 0]) [0,1,2,3,4] [] [5] (hf:=by unfold qW nY;(repeat (rw[h4]));kernel_rfl)
end Go.Proofs.YtbcodenfkijdnaaGreat.E
namespace Go.Proofs.YtbcodenfkijdnaaGreat.E
open Go Go.RowKit Go.Shelf
open Go.Proofs.Tryz renaming prog→dZ
open Int renaming toNat_of_nonneg→eF
open List renaming range→ir,map_cons→jg
theorem UY(c:Cf)(hcf:dd c):aa dZ 81 #[.agg #[iN c.R,iN c.S,iN c.B,iN c.M,iN c.C],iN c.mode] [] [] (λE=>[ob (E.abd 0) #[pt ((E.abd 1)) 0,.map (some (E.abd 2)),.map (some (E.abd 3)),.slice none 0 0] 144,pk (gI (E.abd 1) c tt),eX (λ_=>lS) (E.abd 2),lU (λ_=>0) (E.abd 3)]) (λE=> .tuple #[pt ((E.abd 0)) 0,i6 0]):=by
 refine fG Tryz.func81 λw cs=>?_
 exact ra (λq1=>[(2,pt (B0 q1) 0),(4,.pointer none),(5,i6 0)]) (λq1=>[ob (B0 q1) #[iN c.R,iN c.S,iN c.B,iN c.M,iN c.C] 23]) λq1=>rr (λ_=>[(0,.l 0),(2,.c [] [1] (UR c hcf))]) (λq2=>[(6,pt ((B2 q2)) 0),(7,i6 0)]) [] (λq2 L=>L++[pk (gI (B2 q2) c tt)]) λq2=>rF [] 15 (rr (λ_=>[(1,.m (mm 2 qU lS)),(2,.m (mm 3 At 0))]) (λq4=>[(4,pt (B4 q4) 0),(5,i6 0)]) [4,5] (λq4 L=>L++[eX (λ_=>lS) (B1 q4),lU (λ_=>0) (B2 q4),ob (B4 q4) #[pt ((B2 q2)) 0,.map (some (B1 q4)),.map (some (B2 q4)),.slice none 0 0] 144]) λq4=>lf (.l [(q4 4).abd 0,(B2 q2),(q4 1).abd 0,(q4 2).abd 0] [] []) [4,1,2,3] [] [])
theorem UZ(n:Nat):max (n:Int) 0=((n+0:Nat):Int):=by omega
theorem U0(b1 b2 g ge gm gk n:Nat)(v:Value)(l:List Ac)(bs:aw)(hq:aK Ar v l bs)(hl:l.length≤1000000)(hn5:n≤1000000):fy 5 dZ 60 #[pt b1 0,pt b2 0] (λ(x:Nat×Ac)=>#[i6 (x.1:Int),.agg #[.bool (x.2.wr),i6 (x.2.ix),i6 (x.2.wt),.bool (x.2.dr),i6 (x.2.ex),.bool (x.2.mr)]]) ((ir (l.length-n)).map λk=>(n+k,l.getD (n+k) dO)) (List.flatten [[(b1,.cells #[iN n] 3 (0,0))],[(b2,.cells #[pt g 0] 84 (0,0))],[(g,.cells #[pt ge 0,.map (some gm),.map (some gk),v] 144 (0,0))],bs]):=by
 refine gi (KO:=[[(b1,.cells #[iN n] 3 (0,0))],[(b2,.cells #[pt g 0] 84 (0,0))],[(g,.cells #[pt ge 0,.map (some gm),.map (some gk),v] 144 (0,0))],bs]) Tryz.func60 (λlY JY JX WI RI hJ hY hI=>?_)
 refine r0 [(0,.l 0),(1,.t (tv (Builtin.max_ #[3,3] 3 #[iN n,i6 0]) (λ_=>r6 _ _ _ _)))] [(4,i6 (max (n:Int) 0))] [] ?_
 refine kk (λk=>k≤(l.length-n)) (λk=>[(4,i6 ((n+k:Nat):Int))]) (λ_ L=>L) (λk=>(l.length-n)-k) (λk=>k) 0 Om hI (by rw[UZ];kernel_rfl) Kr (λk R4 W5 hk2 hI3=>?_)
 refine r0 [(1,.l 1),(4,.l 2),(5,eR hq.1 3)] [(13,.bool (decide (((n+k:Nat):Int)<(l.length:Int))))] [] ?_
 refine cj ((n+k:Nat):Int) (l.length:Int) (λh7 dh7=>?_) λh7 dh7=>?_
 ·refine iy hJ hY hI3 9 (λ_=>[(2,.l 1),(5,.l 2),(7,fF hq.1 3 (n+k) 6),(8,nC tz hq.1 3 (n+k) 0 6)]) (λ_=>[(16,.func (.yield lY) #[] #[]),(17,i6 ((n+k:Nat):Int)),(24,.agg #[.bool ((l.getD (n+k) dO).wr),i6 ((l.getD (n+k) dO).ix),i6 ((l.getD (n+k) dO).wt),.bool ((l.getD (n+k) dO).dr),i6 ((l.getD (n+k) dO).ex),.bool ((l.getD (n+k) dO).mr)])]) [] (λ_ L=>L) N0 [0,1,2,3] (o4 Om) (λq8 R9 W10 hI11=>?_)
  refine cF _ rfl (r0 [(1,ad (n+k) 1)] [(4,i6 (((n+k)+1:Nat):Int))] [4] ?_)
  exact jc (k+1) Om hI11 Om Kr [0,1,2,3] Kr
 refine km ?_
 exact lH hJ hI3 (by(rw[List.length_map,List.length_range];omega)) [] [0,1,2,3]
theorem U1(g n:Nat):aa dZ 31 #[pt g 0,iN n] [] [] (λE=>[ob (E.abd 0) #[iN n] 3,ob (E.abd 1) #[pt g 0] 84]) (λE=> .func (.func 60) #[] #[pt ((E.abd 0)) 0,pt ((E.abd 1)) 0]):=by
 refine fG Tryz.func31 λw cs=>?_
 exact ra (λq1=>[(2,pt (B0 q1) 0),(3,pt (B1 q1) 0),(4,.nilFunc)]) (λq1=>[ob (B0 q1) #[pt g 0] 84,ob (B1 q1) #[iN n] 3]) λq1=>r0 [] [(4,.func (.func 60) #[] #[pt (B1 q1) 0,pt (B0 q1) 0])] [4] (lf (.l [(q1 1).abd 0,(q1 0).abd 0] [] []) [1,0] [] [])
def lV(a:Ac):Bool:=a.dr||(a.wt != a.ix)
theorem U2(x:Ac):aa dZ 32 #[.agg #[.bool x.wr,i6 x.ix,i6 x.wt,.bool x.dr,i6 x.ex,.bool x.mr]] [] [] N0 (λ_=> .bool (lV x)):=by
 refine fG Tryz.func32 λw cs=>?_
 refine ra (λq1=>[(1,pt (B0 q1) 0),(2,.bool false)]) (λq1=>[ob (B0 q1) #[.bool x.wr,i6 x.ix,i6 x.wt,.bool x.dr,i6 x.ex,.bool x.mr] 90]) λq1=>r0 [(0,.v (pt (B0 q1) 2)),(1,.v (pt (B0 q1) 3)),(2,.m (ld 0 (.bool x.dr))),(3,.v (.bool x.dr)),(4,.v (pt (B0 q1) 2)),(5,.v (pt (B0 q1) 2)),(6,.m (ld 0 (i6 x.wt))),(7,.v (pt (B0 q1) 1)),(8,.m (ld 0 (i6 x.ix))),(9,.v (.bool (x.wt != x.ix))),(11,.v (.bool (x.dr||(x.wt != x.ix))))] [(2,.bool (x.dr||(x.wt != x.ix)))] [2] ?_
 exact am (.bool (x.dr||(x.wt != x.ix))) ab.zero bh [] [] []
theorem Z9{α:Type}(p:α→Bool): ∀xs:List α,decide (0≤iV p xs)=xs.any p:=by
 have h1: ∀xs:List α,(aY p xs≠xs.length↔xs.any p=true):=by
  intro xs
  induction xs with
  | nil=>simp [aY]
  | cons x xs ih=>
   rw[aY,List.any_cons]
   cases hp:p x
   ·rw[ALcf,Bool.false_or,←ih,List.length_cons];omega
   ·simp
 intro xs
 unfold iV
 by_cases e:aY p xs=xs.length
 ·rw[ALifp e]
  have h2: ¬xs.any p=true:=λq=>(h1 xs).2 q e
  rw[Bool.not_eq_true] at h2
  rw[h2];rfl
 ·rw[ALifn e,(h1 xs).1 e]
  exact cC (Int.natCast_nonneg _)
theorem aaa(v:Value)(xs:List Ac)(hx:xs.length≤1000000):aa dZ 109 #[v,.func (.func 32) #[] #[]] [.p (aK Ar v xs)] [] N0 (λ_=>i6 (iV lV xs)):=by
 refine fO Tryz.func109 0 rfl λbq0 hq0=>?_
 refine fG Tryz.func109 λw cs=>?_
 refine r0 [] [(4,i6 0)] [] (r0 [(1,eR hq0.1 0)] [(7,iN xs.length),(8,i6 0)] [] ?_)
 refine lq (λk=>k≤xs.length∧(∀j,j<k→lV (xs.getD j dO)=false)) (λk=>[(8,iN k)]) (λ_ L=>L) (λk=>xs.length-k) 0 ⟨by omega,(λ_ h=>absurd h (Nat.not_lt_zero _))⟩ Kr Kr (λk ⟨hk3,hw⟩=>?_)
 refine r0 [] [(9,.bool (decide ((k:Int)<(xs.length:Int))))] [] ?_
 refine cj (k:Int) (xs.length:Int) (λh5 dh5=>?_) λh5 dh5=>?_
 ·refine r0 [] [(5,iN k)] [] ?_
  refine r0 [(3,fF hq0.1 0 k 6),(4,nC tz hq0.1 0 k 0 6),(5,.c [] [] (U2 (xs.getD k dO)))] [(16,.bool (lV (xs.getD k dO)))] [] ?_
  refine cB (lV (xs.getD k dO)) (λh8=>?_) λh8=>?_
  ·refine r0 [] [(4,iN k)] [] ?_
   exact am (iN k) ab.zero (by(rw[FP Om hw As];done)) [] [(0,0)] []
  refine r0 [(0,ad k 1)] [(8,i6 ((k+1:Nat):Int))] [8] ?_
  exact le (k+1) ⟨by omega,zL hw As⟩ Om Kr [0] Kr
 obtain rfl:xs.length=k:=by omega
 refine lx ?_
 refine r0 [] [(4,i6 (-1))] [] ?_
 exact am (i6 (-1)) ab.zero (by(rw[FO hw];done)) [] [(0,0)] []
theorem aab(v:Value)(xs:List Ac)(hx:xs.length≤1000000):aa dZ 78 #[v,.func (.func 32) #[] #[]] [.p (aK Ar v xs)] [] N0 (λ_=> .bool (xs.any lV)):=by
 refine fO Tryz.func78 0 rfl λbq0 hq0=>?_
 refine fG Tryz.func78 λw cs=>?_
 refine r0 [] [(4,.bool false)] [] (r0 [(2,.c [0] [] (aa.at (rd':=[.c bq0]) (aaa v xs Om) (em hq0 (λ_ h=>h))))] [(4,.bool (decide (0≤(iV lV xs))))] [4] ?_)
 exact am (.bool (decide (0≤(iV lV xs)))) ab.zero (by exact ALca Value.bool (Z9 lV xs)) [] [(0,0)] []
theorem aac(g ge:Nat)(c:Cf)(V:Dv)(hV:nX c V):aa dZ 43 #[pt g 0] [pk (bl g ge c V)] [0] (λ_=>[pk (bl g ge c V)]) (λ_=> .bool (V.l.any lV)):=aa.pkZ Tryz.func43 λL hL=>by
 obtain⟨gm,gk,v,rfl⟩:=hL
 refine⟨[1,2,3,4],λ_=>[pk (gI ge c V.D),eX V.aa7 gm,lU V.aa9 gk,lT v V.l],?_,rfl,λE=>⟨rfl,rfl,⟨_,_,_,rfl⟩⟩⟩
 have hll:=hV.ll
 refine fG Tryz.func43 λw cs=>?_
 exact r0 [] [(2,.bool false)] [] (r0 [(3,.l 0),(4,.c [4] [] (aa.at (rd':=[lT v V.l]) (aab v V.l Om) (bO (λ_ h=>ap.sq h) (λ_ h=>h))))] [(2,.bool (V.l.any lV))] [2] (lf ab.zero [1,2,3,4] [(0,0)] []))
theorem U3(c:Cf)(hcf:dd c):aa dZ 81 #[.agg #[iN c.R,iN c.S,iN c.B,iN c.M,iN c.C],iN c.mode] [] [] (λE=>[pk (bl (E.abd 0) (E.abd 1) c tA)]) (λE=> .tuple #[pt (E.abd 0) 0,i6 0]):=(UY c hcf).outs λE ds hs=>zZ (S:=bl (E.abd 0) (E.abd 1) c tA) ⟨_,_,_,rfl⟩ hs
theorem fy.mono{α:Type}{n:Nat}{P:Program}{gf:Nat}{lb:Array Value}{encs:α→Array Value}{xs:List α}{KO KO':aw}(h:fy n P gf lb encs xs KO)(hs:KO.Sublist KO'):fy n P gf lb encs xs KO':=by
 intro l J Jx W O hSt hJ hJx hO hY h0
 refine h l J Jx W O ⟨λx hx=>hSt.obj x (hs.subset hx),hSt.nd.sublist hs⟩ hJ hJx hO (λi x O1 W1 hx hj hw=>(hY i x O1 W1 hx hj hw).mono λe W' he=>?_) h0
 obtain⟨O',hg,h4⟩:=he
 exact⟨O',⟨hg.size,hg.old,hg.new,λb hb hk=>hg.keep b hb (hk.imp id λ⟨x,hx,e⟩=>⟨x,hs.subset hx,e⟩)⟩,h4⟩
section
variable {P:Program} {f:FuncId} {args:Array Value} {rd:ah} {wt:ab→ah} {v:ab→Value}
theorem aa.sub(h:aa P f args rd [] wt v){L:ah}(js:List Nat)(hm:(dx js,js.map λj=>L[j]?)=(true,rd.map some)):aa P f args L [] wt v:=by
 have hn:=oa (ALca (·.1) hm)
 have hm:=ALca (·.2) hm
 simp only at hm
 refine⟨h.ent,λw cs hs hh=>?_⟩
 have ha:=rK hh.nd
 have hj: ∀(js:List Nat) (rd:ah),js.map (λj=>L[j]?)=rd.map some→bu rd (js.map λj=>cs.getD j []):=by
  intro js
  induction js with
  | nil=>intro rd e;cases rd with
   | nil=>trivial
   | cons x rd=>cases e
  | cons j js ih=>intro rd e;cases rd with
   | nil=>cases e
   | cons x rd=>
    rw[jg,jg,List.cons.injEq] at e
    exact⟨nn hs e.1,ih rd e.2⟩
 have hlt: ∀j∈js,j<cs.length:=by
  intro j hj2
  have:L[j]?∈js.map λj=>L[j]? :=List.mem_map_of_mem hj2
  rw[hm] at this
  obtain⟨x,_,e⟩:=List.mem_map.1 this
  rw[←jS hs]
  exact(List.getElem?_eq_some_iff.1 e.symm).1
 have:=h.out w (js.map λj=>cs.getD j []) (hj js rd hm) ⟨λy hy=>?_,?_⟩
 ·simpa using this
 ·obtain⟨l,hl,hy⟩:=List.mem_flatten.1 hy
  obtain⟨j,hj2,rfl⟩:=List.mem_map.1 hl
  exact hh.obj y (List.mem_flatten.2 ⟨_,oc (hlt j hj2),hy⟩)
 ·refine List.pairwise_flatten.2 ⟨λl hl=>?_,?_⟩
  ·obtain⟨j,_,rfl⟩:=List.mem_map.1 hl
   exact ha.1 j
  ·exact List.Pairwise.map _ (λa b hab=>ha.2 a b hab) hn
end
abbrev dV(g:Nat)(L:ah):Prop:=∃(hb cb f:Nat) (u:Value),L=[ob g #[pt hb 0,pt cb 0] 242,ob hb (rB 74 (a9 10)++rI 256 (bL 10)).toArray 298,ob cb #[pt f 0,u] 309,ob f (rB 255 aP++rN 256 aW).toArray 312,bE u cE]
theorem U4:aa dZ 115 #[] [] [] (λE=>[pk (dV (E.abd 0))]) (λE=>pt (E.abd 0) 0):=Ok.outs λE ds hs=>s5 (S:=dV (E.abd 0)) ⟨_,_,_,_,rfl⟩ hs
def fd(m:Nat)(l:List UInt8)(x:Int)(p:Bool):List UInt8:=if m=1 then bU 9 (fb l x p) 8 else bU 36 (eJ l x p) 2
theorem qX(m:Nat){l:List UInt8}(hl:l.length=64)(x:Int)(p:Bool):(fd m l x p).length=72:=by
 unfold fd
 split
 ·exact oE (oF l x p) Dc
 ·exact oE (pC hl x p) Dc
def m7(m:Nat)(xs:List UInt8)(x:Int):List UInt8:=if m=1 then pA xs x else pB xs x
def n0(m:Nat)(xs:List UInt8)(x:Int):List Int:=if m=1 then(ir 8).map (dK xs x) else(ir 2).map (cK xs x)
def kb(m:Nat)(xs:List UInt8)(x:Int):Nat:=(jK (n0 m xs x)).toNat
def iz(m:Nat)(xs:List UInt8)(x:Int):Nat:=(gN (n0 m xs x)).toNat
theorem U5(xs:List UInt8)(x:Int)(k:Nat):dK xs x k≤3:=by
 unfold dK kw
 generalize dw _ _=z
 cases z==0<;>cases z==1<;>cases z==2<;>cases z==3<;>decide
theorem U6(m:Nat)(xs:List UInt8)(x:Int):kb m xs x≤3:=by
 have h:jK (n0 m xs x)≤3:=EI Dc λy hy=>by
  unfold n0 at hy
  split at hy
  ·obtain⟨k,_,rfl⟩:=List.mem_map.1 hy;exact U5 xs x k
  ·obtain⟨k,_,rfl⟩:=List.mem_map.1 hy;exact P6 xs x k
 unfold kb
 omega
theorem U7(m:Nat)(xs:List UInt8)(x:Int):((kb m xs x:Nat):Int)=jK (n0 m xs x):=eF (EH _)
theorem U8(m:Nat)(xs:List UInt8)(x:Int):((iz m xs x:Nat):Int)=gN (n0 m xs x):=by
 refine eF ?_
 unfold gN
 cases jK (n0 m xs x) != 1
 ·exact(Ea _).1
 ·exact Int.le_refl _
theorem U9(m:Nat)(hm:m=1∨m=2)(g:Nat)(l:List UInt8)(hl:l.length=64)(x:Int)(h0: -9223372036854775808≤x)(h1:x≤9223372036854775807)(p:Bool):aa dZ 125 #[pt g 0,iN m,.agg (rB 64 l).toArray,i6 x,.bool p] [pk (dV g)] [] N0 (λ_=> .agg (rB 72 (fd m l x p)).toArray):=by
 refine aa.pkR (rest:=[]) (enters_of Tryz.func125 Kr rfl) λL hL=>?_
 obtain⟨hb,cb,f,u,rfl⟩:=hL
 unfold fd
 rcases hm with rfl | rfl
 ·exact(OQ g hb cb l hl x p).sub [0,1] rfl
 ·exact(aa.at (rd':=[ob g #[pt hb 0,pt cb 0] 242,ob cb #[pt f 0,u] 309,ob f (rB 255 aP++rN 256 aW).toArray 312,bE u cE]) (OR g hb cb f u l hl x h0 h1 p) (ak (ak (ak (bO (λ_ h=>ap.sq h) λ_ h=>h))))).sub [0,2,3,4] rfl
theorem Va(m:Nat)(hm:m=1∨m=2)(g:Nat)(xs:List UInt8)(hx:xs.length=72)(x:Int)(h0: -9223372036854775808≤x)(h1:x≤9223372036854775807):aa dZ 124 #[pt g 0,iN m,.agg (rB 72 xs).toArray,i6 x] [pk (dV g)] [] N0 (λ_=> .tuple #[.agg (rB 64 (m7 m xs x)).toArray,.agg #[i6 ((kb m xs x:Nat):Int),i6 ((iz m xs x:Nat):Int)]]):=by
 refine aa.pkR (rest:=[]) (enters_of Tryz.func124 Kr rfl) λL hL=>?_
 obtain⟨hb,cb,f,u,rfl⟩:=hL
 rw[U7,U8]
 unfold m7 n0
 rcases hm with rfl | rfl
 ·exact(OO g hb cb xs hx x).sub [0,1] rfl
 ·exact(aa.at (rd':=[ob g #[pt hb 0,pt cb 0] 242,ob cb #[pt f 0,u] 309,ob f (rB 255 aP++rN 256 aW).toArray 312,bE u cE]) (OP g hb cb f u xs hx x h0 h1) (ak (ak (ak (bO (λ_ h=>ap.sq h) λ_ h=>h))))).sub [0,2,3,4] rfl
theorem Vb(gl gr gk gg gm gq gt:Nat)(c:Cf)(s:Le)(K:Nat)(hs:da s K)(hK:K+3≤1000000000)(hv1:c.heavy≤65536)(n:Nt)(hnv:n.v≤3)(hrk:n.r<s.r.m.R)(hh:n.h<s.r.m.R*s.r.m.B*s.r.m.M):aa dZ 163 #[pt gl 0,.agg #[i6 1,iN n.v,iN n.f,iN n.i,iN n.h,iN n.r]] [ob gl (lA c gr gk gg s.time) 122,pk (aq gr gm gq s.r),pk (aC gk gt s.k),pk (ay gg s.g)] [1,2,3] (λ_=>[pk (aq gr gm gq (dE c.heavy s n).r),pk (aC gk gt (dE c.heavy s n).k),pk (ay gg (dE c.heavy s n).g)]) (λ_=> .tuple #[]):=by
 obtain⟨k,v,f,i,h,r⟩:=n
 simp only at hnv hrk hh
 match v,hnv with
 | 0,_=>exact Ua gl gr gk gg gm gq gt c s K hs i h r f
 | 1,_=>exact T8 gl gr gk gg gm gq gt c s K hs hK hv1 i h r f hrk hh
 | 2,_=>exact Ub gl gr gk gg gm gq gt c s K hs hK i h r f
 | 3,_=>exact T9 gl gr gk gg gm gq gt c s K hs hK hv1 i h r f hrk hh
theorem Vc(gl gr gk gg gm gq gt:Nat)(c:Cf)(s:Le)(K:Nat)(hs:da s K)(hK:K+3≤1000000000)(hv1:c.heavy≤65536)(nv nf ni nh nr:Nat)(hnv:nv≤3)(hrk:nr<s.r.m.R)(hh:nh<s.r.m.R*s.r.m.B*s.r.m.M):aa dZ 128 #[pt gl 0,.agg #[i6 1,iN nv,iN nf,iN ni,iN nh,iN nr]] [ob gl (lA c gr gk gg s.time) 122,pk (aq gr gm gq s.r),pk (aC gk gt s.k),pk (ay gg s.g)] [1,2,3] (λ_=>[pk (aq gr gm gq (dE c.heavy s (⟨1,nv,nf,ni,nh,nr⟩:Nt)).r),pk (aC gk gt (dE c.heavy s (⟨1,nv,nf,ni,nh,nr⟩:Nt)).k),pk (ay gg (dE c.heavy s (⟨1,nv,nf,ni,nh,nr⟩:Nt)).g)]) (λ_=> .tuple #[]):=by
 refine fG Tryz.func128 λw cs=>?_
 refine ra (λq1=>[(3,pt (B0 q1) 0)]) (λq1=>[ob (B0 q1) #[i6 1,iN nv,iN nf,iN ni,iN nh,iN nr] 81]) λq1=>r0 [(1,.l 4)] [(8,i6 1)] [] (rT [] 9 (rr (λ_=>[(1,.l 4),(2,.c [0,1,2,3] [1,2,3] (Vb gl gr gk gg gm gq gt c s K hs hK hv1 (⟨1,nv,nf,ni,nh,nr⟩:Nt) hnv hrk hh))]) N0 [] (λ_ L=>((L.set 1 ((pk (aq gr gm gq (dE c.heavy s (⟨1,nv,nf,ni,nh,nr⟩:Nt)).r)))).set 2 ((pk (aC gk gt (dE c.heavy s (⟨1,nv,nf,ni,nh,nr⟩:Nt)).k)))).set 3 ((pk (ay gg (dE c.heavy s (⟨1,nv,nf,ni,nh,nr⟩:Nt)).g)))) λq4=>?_))
 exact eH ab.zero [1,2,3] [(0,0)] []
theorem Ve(gl gr gk gg gm gq gt:Nat)(c:Cf)(s:Le)(K:Nat)(hs:da s K)(ht5:s.time≤1000000000000000):aa dZ 128 #[pt gl 0,.agg #[i6 2,i6 0,i6 0,i6 0,i6 0,i6 0]] [ob gl (lA c gr gk gg s.time) 122,pk (aq gr gm gq s.r),pk (aC gk gt s.k),pk (ay gg s.g)] [0,1,2,3] (λ_=>[ob gl (lA c gr gk gg ((s.time+1:Nat))) 122,pk (aq gr gm gq s.r),pk (aC gk gt (mZ s.k)),pk (ay gg s.g)]) (λ_=> .tuple #[]):=by
 refine fG Tryz.func128 λw cs=>?_
 refine ra (λq1=>[(3,pt (B0 q1) 0)]) (λq1=>[ob (B0 q1) #[i6 2,i6 0,i6 0,i6 0,i6 0,i6 0] 81]) λq1=>r0 [(1,.l 4)] [(8,i6 2)] [] (rF [] 9 (rT [] 14 (rs [(3,.l 0),(4,ad s.time 1),(7,.s 0)] 0 (ob gl (lA c gr gk gg ((s.time+1:Nat))) 122) (rs [(3,.l 0),(4,.c [2] [2] (Tm gk gt s.k hs.k))] 2 ((pk (aC gk gt (mZ s.k)))) ?_))))
 exact eH ab.zero [0,1,2,3] [] []
theorem Vf(gl gr gk gg gm gq gt:Nat)(c:Cf)(s:Le)(K:Nat)(hs:da s K)(hK:K+257≤1000000000)(hb:s.r.j.aa2≠0)(hi:s.r.j.nx<eK s.r.j.aa2 s.r.m.B s.r.m.M s.r.m.C):aa dZ 128 #[pt gl 0,.agg #[i6 3,i6 0,i6 0,i6 0,i6 0,i6 0]] [ob gl (lA c gr gk gg s.time) 122,pk (aq gr gm gq s.r),pk (aC gk gt s.k),pk (ay gg s.g)] [1,2,3] (λ_=>[pk (aq gr gm gq (iX s).r),pk (aC gk gt (iX s).k),pk (ay gg (iX s).g)]) (λ_=> .tuple #[]):=by
 have hsn:=hs.n
 have hsr:=Gf hs.r hb hi
 have hr:=hs.r
 refine fG Tryz.func128 λw cs=>?_
 refine ra (λq1=>[(3,pt (B0 q1) 0)]) (λq1=>[ob (B0 q1) #[i6 3,i6 0,i6 0,i6 0,i6 0,i6 0] 81]) λq1=>r0 [(1,.l 4)] [(8,i6 3)] [] (rF [] 9 (rF [] 14 (rT [] 28 (r0 [(3,.l 0),(4,.c [1] [1] (zT gr gm gq s.r hr))] [(4,iN s.r.j.aa2)] [] ?_))))
 refine rr (λ_=>[(3,.l 0),(4,.c [1] [1,5] (Sw gr gm gq s.r hs.r hb hi))]) (λq7=>[(5,(q7 4).val 0)]) [] (λq7 L=>L.set 1 ((pk (aq gr gm gq (eT s.r).1)))++[bg ((q7 4).val 0) ((eT s.r).2)]) λq7=>rr (λ_=>[(3,.c [0,1,2,3,5] [1,2,3] (aa.at (rd':=[ob gl (lA c gr gk gg s.time) 122,pk (aq gr gm gq (eT s.r).1),pk (aC gk gt s.k),pk (ay gg s.g),bg ((q7 4).val 0) ((eT s.r).2)]) (pU gl gr gk gg gm gq gt c s.time ((eT s.r).1) hsr.1 s.k hs.k s.g hs.g s.r.j.aa2 ((q7 4).val 0) ((eT s.r).2) (by have h9:=hsr.2.1;omega) (by have h9:=hsr.2.1;omega) (λe he=>(hsr.2.2 e he).ly (wc s.r)) (hs.rk.trans (wc s.r).R.symm)) (ak (ak (ak (ak (bO (λ_ h=>ap.sq h) (λ_ h=>h))))))))]) N0 [] (λ_ L=>((L.set 1 ((pk (aq gr gm gq ((eT s.r).1))))).set 2 ((pk (aC gk gt (fw s.r.j.aa2 s.k ((eT s.r).2)))))).set 3 ((pk (ay gg (eV ((eT s.r).1).m s.r.j.aa2 s.time s.g ((eT s.r).2)))))) λq8=>?_
 exact eH ab.zero [1,2,3] [(0,0)] [] (hf:=by kernel_rfl)
theorem Vg(gl gr gk gg gm gq gt:Nat)(c:Cf)(s:Le)(K:Nat)(hs:da s K):aa dZ 128 #[pt gl 0,.agg #[i6 4,i6 0,i6 0,i6 0,i6 0,i6 0]] [ob gl (lA c gr gk gg s.time) 122,pk (aq gr gm gq s.r),pk (aC gk gt s.k),pk (ay gg s.g)] [1,2,3] (λ_=>[pk (aq gr gm gq s.r),pk (aC gk gt s.k),pk (ay gg (nS s.g))]) (λ_=> .tuple #[]):=by
 refine fG Tryz.func128 λw cs=>?_
 refine ra (λq1=>[(3,pt (B0 q1) 0)]) (λq1=>[ob (B0 q1) #[i6 4,i6 0,i6 0,i6 0,i6 0,i6 0] 81]) λq1=>r0 [(1,.l 4)] [(8,i6 4)] [] (rF [] 9 (rF [] 14 (rF [] 28 (rT [] 48 ?_))))
 refine rs [(3,.l 0),(4,.c [3] [3] (SH gg s.g))] 3 ((pk (ay gg (nS s.g)))) ?_
 exact eH ab.zero [1,2,3] [(0,0)] []
end Go.Proofs.YtbcodenfkijdnaaGreat.E
