/- WholeModes, in 7 texts: part 6. For every input; no condition. -/
import Derived.Test.YtbcodenfkijdnaaGreatPm5
set_option linter.unusedVariables false
set_option linter.unusedSimpArgs false
set_option maxRecDepth 100000
namespace Go.Proofs.YtbcodenfkijdnaaGreat
open Go Go.RowKit Go.Shelf
open Go.Proofs.Tryz renaming prog→Zl
open List renaming replicate→Zm,not_mem_nil→Zn,take_append_drop→Zp,length_append→Zt,range→Zz
open Nat renaming add_mul_mod_self_right→Zo,add_comm→Zq,add_mul_div_right→Zr,mul_le_mul_right→Zs,le_succ_of_le→Zu,div_eq_of_lt→Zv,mod_eq_of_lt→Zw,zero_add→Zx,add_mul→Zy,not_lt_zero→ZA,le_trans→ZB
namespace E
structure oG (c:Cf) (x:Mc):Prop where
 ct:eV c x.x x.id
 sv: ∀y∈x.sv,gA y=true
theorem Ii{l:List Sv}{y:Sv}(h: ∀y∈l,gA y=true)(a:gA y=true): ∀z∈l++[y],gA z=true:=λz b=>(List.mem_append.1 b).elim (h z) λe=>by rw[List.mem_singleton.1 e];exact a
theorem Yq{c:Cf}{x:Mc}{K A N:Nat}(h:dF c x K A N){s:St}(hs:StOk s)(o:K+3≤1000000000)(b:oG c x)(a:jd (jc c x s).x.V.l):oG c (jc c x s):=by
 have p:=hs.d;unfold jc at a⊢;by_cases j:bL s.ln ((di c:Nat):Int)=true
 ·rw[ALifp j] at a⊢;have l:s.ln.toNat<di c:=AW j;have k:=h.il ((s.ln.toNat:Nat):Int);by_cases g:s.k=1
  ·rw[ALifp g] at a⊢;have f:=a _ (Ig s.ln.toNat c.W);have d:=ua h.ct b.ct l k f;refine⟨Ie h.ct b.ct l k o c.W f,Ii b.sv ?_⟩;unfold gA;show((cb (bC c x.x (aA x.x s.ln.toNat))==0)&&((s.k != 1)||decide (cx c x.x (aA x.x s.ln.toNat)=x.id ((s.ln.toNat:Nat):Int))))=true;rw[xe d.2,cC d.1,Bool.or_true];rfl
  ·have q:(s.k != 1)=true:=by simpa using g
   have e: ∀m,m≠0→jd (qY c x s.ln.toNat m s).x.V.l→oG c (qY c x s.ln.toNat m s):=λm f a=>by
    have d:=Yn h.ct b.ct l k o p f a;refine⟨d.1,Ii b.sv ?_⟩;unfold gA;show((cc c x.x s.ln.toNat m==0)&&((s.k != 1)||decide (Zm 64 0=x.id ((s.ln.toNat:Nat):Int))))=true;rw[d.2,q,Bool.true_or];rfl
   rw[ALifn g] at a⊢;by_cases n:s.k=2
   ·rw[ALifp n] at a⊢;exact e _ Dc a
   ·rw[ALifn n] at a⊢;by_cases i:s.m=0
    ·rw[ALifp i];exact⟨⟨b.ct.rp,b.ct.gh,b.ct.mz⟩,b.sv⟩
    ·rw[ALifn i] at a⊢;exact e _ i a
 ·rw[ALifn j];exact b
theorem Yr{c:Cf}{x:Mc}{K A N:Nat}(h:dF c x K A N){s:St}(hs:StOk s)(m:K+260≤1000000000)(a:oG c x)(b:jd (dn c x s).x.V.l):oG c (dn c x s):=by
 unfold dn at b⊢;by_cases l:sR s=true
 ·rw[ALifp l] at b⊢;by_cases e:s.k=4
  ·rw[ALifp e] at b⊢;have o:eV c (jH c x.x) x.id:=⟨a.ct.rp,a.ct.gh,a.ct.mz⟩;exact⟨Ie (qU h.ct) o h.ct.U (h.il _) Om true (b _ (Ig (x:=jH c x.x) x.x.U true)),a.sv⟩
  rw[ALifn e] at b⊢;by_cases f:s.k=5
  ·rw[ALifp f] at b⊢;by_cases d:x.x.s.r.j.A=0
   ·rw[ALifp d];exact⟨a.ct,a.sv⟩
   ·rw[ALifn d] at b⊢;exact⟨Yp h.ct a.ct (λn=>h.il _) d m b,a.sv⟩
  rw[ALifn f] at b⊢;by_cases i:s.k=6
  ·rw[ALifp i];exact⟨⟨a.ct.rp,a.ct.gh,a.ct.mz⟩,a.sv⟩
  rw[ALifn i] at b⊢;by_cases j:s.k=7
  ·rw[ALifp j];exact⟨⟨a.ct.rp,a.ct.gh,a.ct.mz⟩,a.sv⟩
  rw[ALifn j] at b⊢;by_cases k:s.k=8
  ·rw[ALifp k];exact⟨⟨a.ct.rp,a.ct.gh,a.ct.mz⟩,a.sv⟩
  rw[ALifn k] at b⊢;have g:dF c {x with st:=x.st+1} K A (N+1):=⟨h.ct,h.il,Zu h.jl,Zu h.sl,Zu h.sc,Nat.succ_le_succ h.st⟩;exact Yq (x:={x with st:=x.st+1}) g hs Om ⟨a.ct,a.sv⟩ b
 ·rw[ALifn l];exact a
theorem Ys{f:Int→List UInt8}{i j:Int}{a b:List UInt8}(h:j=i→a=b)(g:j≠i→f j=b):b3 f i a j=b:=by
 unfold b3
 split
 ·rename_i e;exact h e
 ·rename_i e;exact g e
theorem Yt(c:Cf)(n:Nat):(da c (n+1)).X=b3 (da c n).X ((fz c.B c.M c.C n:Nat):Int) (eu c.E z6 ((fz c.B c.M c.C n:Nat):Int) false):=rfl
theorem Yu{c:Cf}{i:Nat}(n:Nat): ∀k,k<n→i=fz c.B c.M c.C k→(da c n).X ((i:Nat):Int)=eu c.E z6 ((i:Nat):Int) false:=by
 induction n with
 | zero=>exact λk a=>absurd a (ZA k)
 | succ n ih=>
  intro k a e;rw[Yt];refine Ys (λq=>?_) λq=>?_
  ·rw[q]
  ·refine ih k ?_ e;rcases Nat.lt_succ_iff_lt_or_eq.1 a with h | h
   ·exact h
   ·exact absurd (by rw[e,h]) q
theorem Ik(c:Cf): ∀n i,(da c n).Z i=0
 | 0,_=>rfl
 | n+1,i=>by
  show b3 (da c n).Z ((fz c.B c.M c.C n:Nat):Int) 0 i=0;unfold b3
  split
  ·rfl
  ·exact Ik c n i
theorem Yv{c:Cf}(s:b6 c){i:Nat}(h:jG c.R c.S c.B c.M c.C i): ∃k,k<(c.R+c.S)*(c.B*c.M*c.C)∧i=fz c.B c.M c.C k:=by
 obtain⟨l,a,b,e,rfl,d⟩:=h.ex;have g:=s.O.bd;have hC:=g.c1;have r:=g.m1;have hB:=g.b1;have j:(a*c.M+b)*c.C+e<c.B*c.M*c.C:=by
  have q:a*c.M+b<c.B*c.M:=by
   have:(a+1)*c.M≤c.B*c.M:=Zs _ d.h1;rw[Zy] at this;have:=d.h2;omega
  have f:(a*c.M+b+1)*c.C≤c.B*c.M*c.C:=Zs _ q;rw[Zy] at f;have:=d.h3;omega
 refine⟨l*(c.B*c.M*c.C)+((a*c.M+b)*c.C+e),?_,?_⟩
 ·have f:(l+1)*(c.B*c.M*c.C)≤(c.R+c.S)*(c.B*c.M*c.C):=Zs _ d.h0;rw[Zy] at f;omega
 ·unfold fz qZ;have hp:0<c.B*c.M*c.C:=by omega
  rw[Zq,Zr _ _ hp,Zv j,Zx,Zo,Zw j];have m:((a*c.M+b)*c.C+e)/c.C=a*c.M+b:=by rw[Zq,Zr _ _ hC,Zv d.h3,Zx]
  have n:((a*c.M+b)*c.C+e)%c.C=e:=by rw[Zq,Zo,Zw d.h3]
  have o:(a*c.M+b)/c.M=a:=by rw[Zq,Zr _ _ r,Zv d.h2,Zx]
  have p:(a*c.M+b)%c.M=b:=by rw[Zq,Zo,Zw d.h2]
  rw[m,n,o,p]
theorem Yw{c:Cf}(b:b6 c):oG c (Y6 c):=by
 have a:=HD b;refine⟨⟨Yi b.ly.rp,λn d=>?_,λn d=>Ik c _ _⟩,λy h=>absurd h Zn⟩;have f:=(G5 a.ct.s.r.m a.ct.s.r.j (a.ct.ln d)).lay a.ct.ly;obtain⟨k,g,e⟩:=Yv b f;exact Yu _ k g e
section
structure eL (x:Ct):Prop where
 cl: ∀i,x.V.D.cells i=x.V.X i
 la:x.V.D.Y=[]
 co:x.V.D.J=[]
 j:x.s.r.j.A=0
 g:x.s.g.l=[]
section
variable {c:Cf} {x:Ct} {K A:Nat} {id:Int→List UInt8}
theorem eL.dr(h:eL x):cq x.V.D=false:=by unfold cq;rw[h.co];rfl
theorem eL.wt(h:eL x)(i:Int):aT x.V.D i=i:=by unfold aT;rw[h.co];rfl
theorem eL.rd(h:eL x)(i:Int):bZ c x.V.D i=x.V.X i:=by
 unfold bZ;rw[h.dr,h.wt,ALcf];show jZ c.E _ _ _ _ (x.V.D.cells i) x.V.D.Y=_;rw[h.la,h.cl i];rfl
theorem Il{m:Nat}(b:m=1∨m=2){xs:List UInt8}(a:xs.length=72):c7 (m:Int) xs xs=0:=(O9 (by rcases b with rfl | rfl<;>simp) a a).2 rfl
theorem eL.ca(h:eL x)(a:ba c x K A)(i:Int):tZ (nF c x.V i):=by
 refine⟨?_,?_⟩
 ·show(cq x.V.D||(aT x.V.D i != i))=false;rw[h.dr,h.wt];simp
 ·show((c7 (c.E:Int) (bZ c x.V.D i) (x.V.X (aT x.V.D i)):Nat):Int)≤1;rw[h.rd,h.wt,Il a.cf.E (a.gl i)];decide
theorem eL.line(h:eL x)(a:ba c x K A)(g:eV c x id){n:Nat}(i:n<di c)(e:(id (n:Int)).length=64):cx c x (aA x n)=id (n:Int)∧bC c x (aA x n)=0:=by
 have f:=g.gh n i;have b:c7 (c.E:Int) (kq c x (aA x n)) (eu c.E (id (n:Int)) ((aA x n:Nat):Int) false)=0:=by
  unfold kq;rw[h.rd,f,Il a.cf.E (pK _ e _ _)]
 have d:=Ib a.cf.E e (lH a.D ((aA x n:Nat):Int)) (show c7 (c.E:Int) (kq c x (aA x n)) (eu c.E (id (n:Int)) ((aA x n:Nat):Int) false)≤1 by rw[b];decide);exact⟨d.1,d.2.trans b⟩
theorem eL.put(h:eL x)(i:Nat)(l:List UInt8)(p:Bool):eL (mo c x i l p):=by
 refine⟨λk=>?_,h.la,?_,h.j,h.g⟩
 ·show(bif !(cq x.V.D) then b3 x.V.D.cells (aT x.V.D (i:Int)) (eu c.E l (i:Int) p) else x.V.D.cells) k=b3 x.V.X (i:Int) (eu c.E l (i:Int) p) k;rw[h.dr,h.wt];show(if k=(i:Int) then _ else x.V.D.cells k)=(if k=(i:Int) then _ else x.V.X k);rw[h.cl k]
 ·show x.V.D.J.drop 1=[];rw[h.co];rfl
theorem eL.tak(h:eL x){i a r:Nat}(hv:bC c x i=0):eL (bX c x i a r):=by
 have e:dh c.H x.s (kS c x i a r)=x.s:=ALifp hv;refine⟨h.cl,h.la,?_,?_,?_⟩
 ·show x.V.D.J.drop 1=[];rw[h.co];rfl
 ·show(dh c.H x.s (kS c x i a r)).r.j.A=0;rw[e];exact h.j
 ·show(dh c.H x.s (kS c x i a r)).g.l=[];rw[e];exact h.g
theorem eL.fix{y:Ct}(h:eL y):eL (kt x y):=⟨h.cl,h.la,h.co,h.j,h.g⟩
theorem eL.rea(h:eL x)(e:ba c x K A)(d:eV c x id){n:Nat}(g:n<di c)(f:(id (n:Int)).length=64)(b:Bool):eL (cy c x n b):=by
 have a:=(h.line e d g f).2;unfold cy;rw[a,show((((0:Nat):Int)==1)&&b)=false from rfl,ALcf];exact(h.tak a).fix
theorem eL.msk(h:eL x)(d:ba c x K A)(b:eV c x id){n:Nat}(f:n<di c)(e:(id (n:Int)).length=64)(l:List UInt8)(m:Nat):eL (bE c x n l m)∧cc c x n m=(bif (m:Int)==0 then 30 else 0):=by
 have a:=(h.line d b f e).2;unfold bE cc;rw[a,xe (Nat.zero_le 1),show(!((0:Int)==0))=false from rfl,ALcf,ALcf];cases (m:Int)==0
 ·cases decide (pc m=64)
  ·simp only[ALcf];exact⟨((h.tak a).put _ _ _).fix,trivial⟩
  ·simp only[ALcf,ALct];exact⟨(h.put _ _ _).fix,trivial⟩
 ·simp only[ALct];exact⟨h.fix,trivial⟩
end
def qA(L a:Nat)(id:Int→List UInt8)(s:St):An:=
 if sR s=true then
  if s.k=4 then⟨0,(a:Int),gM⟩
  else if s.k=5 then⟨51,0,gM⟩
  else if s.k=6 then⟨0,0,gM⟩
  else if s.k=7 then⟨0,0,gM⟩
  else if bL s.ln ((L:Nat):Int)=true then
   if s.k=1 then⟨0,0,id ((s.ln.toNat:Nat):Int)⟩
   else if s.k=2 then⟨0,0,gM⟩
   else if s.m=0 then⟨30,0,gM⟩
   else⟨0,0,gM⟩
  else⟨30,0,gM⟩
 else⟨60,0,gM⟩
def qC(L a:Nat)(s:St):Nat:=if sR s=true then if s.k=4 then(a+1)%L else a else a
def qI(L:Nat)(id:Int→List UInt8)(s:St):Int→List UInt8:=
 if sR s=true then
  if s.k=4 then id else if s.k=5 then id else if s.k=6 then id else if s.k=7 then id
  else if bL s.ln ((L:Nat):Int)=true then
   if s.k=1 then id
   else if s.k=2 then b3 id ((s.ln.toNat:Nat):Int) (fI (id ((s.ln.toNat:Nat):Int)) s.d 18446744073709551615)
   else if s.m=0 then id
   else b3 id ((s.ln.toNat:Nat):Int) (fI (id ((s.ln.toNat:Nat):Int)) s.d s.m)
  else id
 else id
structure nN (c:Cf) (x:Mc):Prop where
 q:eL x.x
 a:jd x.x.V.l
 i:oG c x
section
variable {c:Cf} {x:Mc} {K A N:Nat}
theorem xf{l:List Ac}{a:Ac}(h:jd l)(d:tZ a):jd (l++[a]):=λb f=>(List.mem_append.1 f).elim (h b) λe=>by rw[List.mem_singleton.1 e];exact d
theorem Im{c:Cf}{y:Ct}(h:eL y)(a:jd y.V.l)(i:Nat)(l:List UInt8)(p:Bool):jd (mo c y i l p).V.l:=by
 refine xf a ⟨?_,by show(0:Int)≤1;decide⟩;show(cq y.V.D||(aT y.V.D (i:Int) != (i:Int)))=false;rw[h.dr,h.wt];simp
theorem Io{c:Cf}{y:Ct}{K A:Nat}{id:Int→List UInt8}(h:eL y)(f:jd y.V.l)(a:ba c y K A)(e:eV c y id){n:Nat}(i:n<di c)(g:(id (n:Int)).length=64)(b:Bool):jd (cy c y n b).V.l:=by
 have d:=(h.line a e i g).2;unfold cy;rw[d,show((((0:Nat):Int)==1)&&b)=false from rfl,ALcf];exact xf f (h.ca a _)
theorem Bg{c:Cf}{y:Ct}{K A:Nat}{id:Int→List UInt8}(h:eL y)(a:jd y.V.l)(d:ba c y K A)(e:eV c y id){n:Nat}(g:n<di c)(f:(id (n:Int)).length=64)(l:List UInt8)(m:Nat):jd (bE c y n l m).V.l:=by
 have b:=(h.line d e g f).2;unfold bE;rw[b,xe (Nat.zero_le 1),show(!((0:Int)==0))=false from rfl,ALcf];cases (m:Int)==0
 ·cases decide (pc m=64)
  ·exact Im (h.tak b) (xf a (h.ca d _)) _ _ _
  ·exact Im h a _ _ _
 ·exact a
theorem ub(h:dF c x K A N){s:St}(hs:StOk s)(y:K+260≤1000000000)(a:nN c x)(v:s.k≠8):nN c (dn c x s)∧dT c x s=qA (di c) x.x.U x.id s∧(dn c x s).x.U=qC (di c) x.x.U s∧(dn c x s).id=qI (di c) x.id s:=by
 have r:jd (dn c x s).x.V.l→oG c (dn c x s):=Yr h hs y a.i;have e:=λn:Nat=>h.il (n:Int)
 suffices hm:(eL (dn c x s).x∧jd (dn c x s).x.V.l)∧dT c x s=qA (di c) x.x.U x.id s∧(dn c x s).x.U=qC (di c) x.x.U s∧(dn c x s).id=qI (di c) x.id s from⟨⟨hm.1.1,hm.1.2,r hm.1.2⟩,hm.2⟩
 clear r;unfold dn dT qA qC qI;by_cases d:sR s=true
 ·rw[ALifp d,ALifp d,ALifp d,ALifp d,ALifp d];by_cases b:s.k=4
  ·rw[ALifp b,ALifp b,ALifp b,ALifp b,ALifp b];have u:eV c (jH c x.x) x.id:=⟨a.i.ct.rp,a.i.ct.gh,a.i.ct.mz⟩;have t:eL (jH c x.x):=⟨a.q.cl,a.q.la,a.q.co,a.q.j,a.q.g⟩;have hv:=(t.line (qU h.ct) u h.ct.U (e _)).2;refine⟨⟨t.rea (qU h.ct) u h.ct.U (e _) true,Io t a.a (qU h.ct) u h.ct.U (e _) true⟩,?_,rfl,rfl⟩;rw[hv];rfl
  rw[ALifn b,ALifn b,ALifn b,ALifn b,ALifn b];by_cases k:s.k=5
  ·rw[ALifp k,ALifp k,ALifp k,ALifp k,ALifp a.q.j,ALifp a.q.j];exact⟨⟨a.q,a.a⟩,rfl,rfl,rfl⟩
  rw[ALifn k,ALifn k,ALifn k,ALifn k];by_cases l:s.k=6
  ·rw[ALifp l,ALifp l,ALifp l,ALifp l];exact⟨⟨⟨a.q.cl,a.q.la,a.q.co,a.q.j,a.q.g⟩,a.a⟩,rfl,rfl,rfl⟩
  rw[ALifn l,ALifn l,ALifn l,ALifn l];by_cases o:s.k=7
  ·rw[ALifp o,ALifp o,ALifp o,ALifp o];refine⟨⟨⟨a.q.cl,a.q.la,a.q.co,a.q.j,rfl⟩,a.a⟩,?_,rfl,rfl⟩;rw[a.q.g];rfl
  rw[ALifn o,ALifn o,ALifn o,ALifn o,ALifn v,ALifn v];unfold jc wZ;by_cases f:bL s.ln ((di c:Nat):Int)=true
  ·rw[ALifp f,ALifp f,ALifp f,ALifp f];have p:s.ln.toNat<di c:=AW f;have w:=a.q.line h.ct a.i.ct p (e _);by_cases g:s.k=1
   ·rw[ALifp g,ALifp g,ALifp g,ALifp g,w.1,w.2];exact⟨⟨a.q.rea h.ct a.i.ct p (e _) _,Io a.q a.a h.ct a.i.ct p (e _) _⟩,rfl,rfl,rfl⟩
   rw[ALifn g,ALifn g,ALifn g,ALifn g];have q:=λm=>a.q.msk h.ct a.i.ct p (e _) s.d m;by_cases i:s.k=2
   ·rw[ALifp i,ALifp i,ALifp i,ALifp i,(q _).2];exact⟨⟨(q _).1,Bg a.q a.a h.ct a.i.ct p (e _) _ _⟩,rfl,rfl,rfl⟩
   rw[ALifn i,ALifn i,ALifn i,ALifn i];by_cases j:s.m=0
   ·rw[ALifp j,ALifp j,ALifp j,ALifp j];exact⟨⟨(q 0).1,Bg a.q a.a h.ct a.i.ct p (e _) _ _⟩,rfl,rfl,rfl⟩
   ·rw[ALifn j,ALifn j,ALifn j,ALifn j,(q _).2,show(((s.m:Nat):Int)==0)=false by rw[db];omega];exact⟨⟨(q _).1,Bg a.q a.a h.ct a.i.ct p (e _) _ _⟩,rfl,rfl,rfl⟩
  ·rw[ALifn f,ALifn f,ALifn f,ALifn f];exact⟨⟨a.q,a.a⟩,rfl,rfl,rfl⟩
 ·rw[ALifn d,ALifn d,ALifn d,ALifn d,ALifn d];exact⟨⟨a.q,a.a⟩,rfl,rfl,rfl⟩
end
theorem Ip(c:Cf): ∀n,(∀i,(da c n).D.cells i=(da c n).X i)∧(da c n).D.Y=[]∧(da c n).D.J=[]∧jd (da c n).l
 | 0=>⟨λ_=>rfl,rfl,rfl,λa j=>absurd j Zn⟩
 | n+1=>by
  obtain⟨f,g,b,h⟩:=Ip c n;have d:cq (da c n).D=false:=by unfold cq;rw[b];rfl
  have e: ∀i,aT (da c n).D i=i:=λi=>by unfold aT;rw[b];rfl
  refine⟨λk=>?_,g,?_,xf h ⟨?_,by show(0:Int)≤1;decide⟩⟩
  ·show(bif !(cq (da c n).D) then b3 (da c n).D.cells (aT (da c n).D ((fz c.B c.M c.C n:Nat):Int)) _ else(da c n).D.cells) k=b3 (da c n).X ((fz c.B c.M c.C n:Nat):Int) _ k;rw[d,e];show(if k=((fz c.B c.M c.C n:Nat):Int) then _ else(da c n).D.cells k)=(if k=((fz c.B c.M c.C n:Nat):Int) then _ else(da c n).X k);rw[f k]
  ·show(da c n).D.J.drop 1=[];rw[b];rfl
  ·show(cq (da c n).D||(aT (da c n).D ((fz c.B c.M c.C n:Nat):Int) != ((fz c.B c.M c.C n:Nat):Int)))=false;rw[d,e];simp
theorem xg{c:Cf}(f:b6 c):nN c (Y6 c):=by
 obtain⟨a,b,d,e⟩:=Ip c ((c.R+c.S)*(c.B*c.M*c.C));exact⟨⟨a,b,d,rfl,rfl⟩,e,Yw f⟩
theorem pQ{c:Cf}{x:Mc}(h:GM c x 0)(b:nN c x){l:List St}(hs:Zk l): ∀k,k≤900→nN c (bh c x l k)
 | 0,_=>b
 | k+1,f=>by
  have d:=mq h hs k Om;have a:=pQ h b hs k Om;rw[pN];cases e:(l.getD k ae).k != 8
  ·exact a
  ·exact(ub d.ok (hs.a k) Om a (by simpa using e)).1
theorem Iq{c o:Cf}(j:di c=di o){x y:Mc}(b:GM c x 0)(d:GM o y 0)(m:nN c x)(n:nN o y)(h:x.x.U=y.x.U)(i:x.id=y.id){l:List St}(hs:Zk l): ∀k,k≤900→(bh c x l k).x.U=(bh o y l k).x.U∧(bh c x l k).id=(bh o y l k).id
 | 0,_=>⟨h,i⟩
 | k+1,r=>by
  have p:=mq b hs k Om;have q:=mq d hs k Om;have a:=Iq j b d m n h i hs k Om;rw[pN,pN];cases e:(l.getD k ae).k != 8
  ·exact a
  ·have f:=ub p.ok (hs.a k) Om (pQ b m hs k Om) (by simpa using e);have g:=ub q.ok (hs.a k) Om (pQ d n hs k Om) (by simpa using e);rw[ALct,ALct,f.2.2.1,g.2.2.1,f.2.2.2,g.2.2.2,j,a.1,a.2];exact⟨rfl,rfl⟩
theorem Yx{c o:Cf}(g:di c=di o){x y:Mc}(b:GM c x 0)(d:GM o y 0)(h:nN c x)(i:nN o y)(j:x.x.U=y.x.U)(m:x.id=y.id){l:List St}(hs:Zk l){k:Nat}(a:k≤900)(f:(l.getD k ae).k≠8):dT c (bh c x l k) (l.getD k ae)=dT o (bh o y l k) (l.getD k ae):=by
 have n:=mq b hs k Om;have p:=mq d hs k Om;have e:=Iq g b d h i j m hs k a;rw[(ub n.ok (hs.a k) Om (pQ b h hs k a) f).2.1,(ub p.ok (hs.a k) Om (pQ d i hs k a) f).2.1,g,e.1,e.2]
end
section
structure lP (c o:Cf):Prop where
 R:c.R=o.R
 S:c.S=o.S
 B:c.B=o.B
 M:c.M=o.M
 C:c.C=o.C
 res:c.res=o.res
 E:3-(c.E:Int)=(o.E:Int)
 lr:c.lr=o.lr
 er:c.er=o.er
 lp:c.lp=o.lp
 ep:c.ep=o.ep
 I:c.I=o.I
 H:c.H=o.H
 log:c.log=o.log
section
variable {P:Program} {T:TypeId} {x y:Operand} {w:World}
theorem rn(a b:Int):(av .sub T x y (.int .i64 a) (.int .i64 b)).run P w= .ok (.int .i64 (IntKind.i64.wrap (a-b))) w:=rfl
theorem Bh{c o:Cf}(a:lP c o):(av .sub T x y (.int .i64 3) (.int .i64 (c.E:Int))).run P w= .ok (.int .i64 (o.E:Int)) w:=by
 rw[rn,a.E,IntWalk.i64_in _ (by have:=a.E;omega)]
end
theorem Ir{c o:Cf}(a:lP c o)(b:b6 o)(hs:gz o=true):aa Zl 12 #[.agg #[iN c.R,iN c.S,iN c.B,iN c.M,iN c.C,iN o.G,iN c.res,iN o.E,iN c.lr,iN c.er,iN c.lp,iN c.ep,iN c.I,iN c.H,iN c.log,.bool o.W]] [] [] (λE=>[pk (a7 (E.y 0) (E.y 1) (E.y 2) (E.y 3) (E.y 4) (E.y 5) (E.y 6) (E.y 7) (E.y 8) (E.y 9) (E.y 10) (E.y 11) o (Y6 o))]) (λE=>pt (E.y 0) 0):=by
 rw[a.R,a.S,a.B,a.M,a.C,a.res,a.lr,a.er,a.lp,a.ep,a.I,a.H,a.log];exact ri o b hs
theorem Yy{c o:Cf}(a:lP c o)(b:b6 o)(hs:gz o=false):aa Zl 12 #[.agg #[iN c.R,iN c.S,iN c.B,iN c.M,iN c.C,iN o.G,iN c.res,iN o.E,iN c.lr,iN c.er,iN c.lp,iN c.ep,iN c.I,iN c.H,iN c.log,.bool o.W]] [] [] N0 (λ_=> .pointer none):=by
 rw[a.R,a.S,a.B,a.M,a.C,a.res,a.lr,a.er,a.lp,a.ep,a.I,a.H,a.log];exact w5 o b hs
theorem Yz(r s b m c way f mode n j k i a heavy e:Int)(g:Bool)(h:iY r s b m c way f mode n j k i a heavy e=false)(q:Int)(z:Bool)(h2:iY r s b m c q f (IntKind.i64.wrap (3-mode)) n j k i a heavy e=false)(v:Value)(l:List St):aa Zl 6 #[.agg #[i6 r,i6 s,i6 b,i6 m,i6 c,i6 way,i6 f,i6 mode,i6 n,i6 j,i6 k,i6 i,i6 a,i6 heavy,i6 e,.bool g],v,i6 q,.bool z] [.p (aK eSt v l)] [] N0 (λ_=> .bool true):=by
 exact fO Tryz.func6 0 rfl λA B=>fG Tryz.func6 λw cs=>ra (λu=>[(4,pt (B0 u) 0),(8,.bool false)]) (λu=>[ob (B0 u) #[i6 r,i6 s,i6 b,i6 m,i6 c,i6 way,i6 f,i6 mode,i6 n,i6 j,i6 k,i6 i,i6 a,i6 heavy,i6 e,.bool g] 31]) λu=>rF [(0,.c [] [] (oE))] 15 (rr (λ_=>[(0,.l 1),(2,.s 2)]) (λo=>[(9,pt (B1 o) 0)]) [] (λo L=>L++[ob (B1 o) #[i6 r,i6 s,i6 b,i6 m,i6 c,i6 way,i6 f,i6 mode,i6 n,i6 j,i6 k,i6 i,i6 a,i6 heavy,i6 e,.bool g] 31]) λo=>rs [(1,.l 1),(2,.t (tv (av .sub 3 (.const (i6 3)) (.tmp 18) (i6 3) (i6 mode)) (λ_=>rn _ _))),(4,.s 2)] 2 (ob (B1 o) #[i6 r,i6 s,i6 b,i6 m,i6 c,i6 way,i6 f,i6 (IntKind.i64.wrap (3-mode)),i6 n,i6 j,i6 k,i6 i,i6 a,i6 heavy,i6 e,.bool g] 31) (rs [(3,.s 2)] 2 (ob (B1 o) #[i6 r,i6 s,i6 b,i6 m,i6 c,i6 q,i6 f,i6 (IntKind.i64.wrap (3-mode)),i6 n,i6 j,i6 k,i6 i,i6 a,i6 heavy,i6 e,.bool g] 31) (rs [(2,.s 2)] 2 (ob (B1 o) #[i6 r,i6 s,i6 b,i6 m,i6 c,i6 q,i6 f,i6 (IntKind.i64.wrap (3-mode)),i6 n,i6 j,i6 k,i6 i,i6 a,i6 heavy,i6 e,.bool z] 31) (r0 [(0,.l 1),(1,.c [] [] (Y9 r s b m c way f mode n j k i a heavy e g (by with_reducible exact h))),(2,.l 2),(3,.c [] [] (Y9 r s b m c q f (IntKind.i64.wrap (3-mode)) n j k i a heavy e z (by with_reducible exact h2)))] [(10,.pointer none),(11,.pointer none)] [] (rT [(3,.d),(4,.d),(7,.d),(8,.d),(9,.d)] 40 (r0 [] [(8,.bool true)] [8] (lf ab.zero [] [(0,0)] [])))))))
theorem YA(o:Cf)(i:b6 o)(f a:Int)(e:Bool)(h:iY o.R o.S o.B o.M o.C f o.res a o.lr o.er o.lp o.ep o.I o.H o.log=false)(j:IntKind.i64.wrap (3-a)=(o.E:Int))(k:gz o=false)(v:Value)(l:List St):aa Zl 6 #[.agg #[iN o.R,iN o.S,iN o.B,iN o.M,iN o.C,i6 f,iN o.res,i6 a,iN o.lr,iN o.er,iN o.lp,iN o.ep,iN o.I,iN o.H,iN o.log,.bool e],v,iN o.G,.bool o.W] [.p (aK eSt v l)] [] N0 (λ_=> .bool true):=by
 exact fO Tryz.func6 0 rfl λm n=>fG Tryz.func6 λw cs=>ra (λg=>[(4,pt (B0 g) 0),(8,.bool false)]) (λg=>[ob (B0 g) #[iN o.R,iN o.S,iN o.B,iN o.M,iN o.C,i6 f,iN o.res,i6 a,iN o.lr,iN o.er,iN o.lp,iN o.ep,iN o.I,iN o.H,iN o.log,.bool e] 31]) λg=>rF [(0,.c [] [] (oE))] 15 (rr (λ_=>[(0,.l 1),(2,.s 2)]) (λb=>[(9,pt (B1 b) 0)]) [] (λb L=>L++[ob (B1 b) #[iN o.R,iN o.S,iN o.B,iN o.M,iN o.C,i6 f,iN o.res,i6 a,iN o.lr,iN o.er,iN o.lp,iN o.ep,iN o.I,iN o.H,iN o.log,.bool e] 31]) λb=>rs [(1,.l 1),(2,.t (tv (av .sub 3 (.const (i6 3)) (.tmp 18) (i6 3) (i6 a)) (λ_=>(by rw[rn,j])))),(4,.s 2)] 2 (ob (B1 b) #[iN o.R,iN o.S,iN o.B,iN o.M,iN o.C,i6 f,iN o.res,iN o.E,iN o.lr,iN o.er,iN o.lp,iN o.ep,iN o.I,iN o.H,iN o.log,.bool e] 31) (rs [(3,.s 2)] 2 (ob (B1 b) #[iN o.R,iN o.S,iN o.B,iN o.M,iN o.C,iN o.G,iN o.res,iN o.E,iN o.lr,iN o.er,iN o.lp,iN o.ep,iN o.I,iN o.H,iN o.log,.bool e] 31) (rs [(2,.s 2)] 2 (ob (B1 b) (cA o) 31) (r0 [(0,.l 1),(1,.c [] [] (Y9 (o.R:Int) (o.S:Int) (o.B:Int) (o.M:Int) (o.C:Int) f (o.res:Int) a (o.lr:Int) (o.er:Int) (o.lp:Int) (o.ep:Int) (o.I:Int) (o.H:Int) (o.log:Int) e h)),(2,.l 2),(3,.c [] [] (w5 o i k))] [(10,.pointer none),(11,.pointer none)] [] (rT [(3,.d),(4,.d),(7,.d),(8,.d),(9,.d)] 40 (r0 [] [(8,.bool true)] [8] (lf ab.zero [] [(0,0)] [])))))))
theorem YB(o:Cf)(j:b6 o)(g b:Int)(f:Bool)(h:iY o.R o.S o.B o.M o.C g o.res b o.lr o.er o.lp o.ep o.I o.H o.log=false)(k:IntKind.i64.wrap (3-b)=(o.E:Int))(m:gz o=true)(v:Value)(l:List St):aa Zl 6 #[.agg #[iN o.R,iN o.S,iN o.B,iN o.M,iN o.C,i6 g,iN o.res,i6 b,iN o.lr,iN o.er,iN o.lp,iN o.ep,iN o.I,iN o.H,iN o.log,.bool f],v,iN o.G,.bool o.W] [.p (aK eSt v l)] [] N0 (λ_=> .bool true):=by
 exact fO Tryz.func6 0 rfl λn q=>fG Tryz.func6 λw cs=>ra (λi=>[(4,pt (B0 i) 0),(8,.bool false)]) (λi=>[ob (B0 i) #[iN o.R,iN o.S,iN o.B,iN o.M,iN o.C,i6 g,iN o.res,i6 b,iN o.lr,iN o.er,iN o.lp,iN o.ep,iN o.I,iN o.H,iN o.log,.bool f] 31]) λi=>rF [(0,.c [] [] (oE))] 15 (rr (λ_=>[(0,.l 1),(2,.s 2)]) (λe=>[(9,pt (B1 e) 0)]) [] (λe L=>L++[ob (B1 e) #[iN o.R,iN o.S,iN o.B,iN o.M,iN o.C,i6 g,iN o.res,i6 b,iN o.lr,iN o.er,iN o.lp,iN o.ep,iN o.I,iN o.H,iN o.log,.bool f] 31]) λe=>rs [(1,.l 1),(2,.t (tv (av .sub 3 (.const (i6 3)) (.tmp 18) (i6 3) (i6 b)) (λ_=>(by rw[rn,k])))),(4,.s 2)] 2 (ob (B1 e) #[iN o.R,iN o.S,iN o.B,iN o.M,iN o.C,i6 g,iN o.res,iN o.E,iN o.lr,iN o.er,iN o.lp,iN o.ep,iN o.I,iN o.H,iN o.log,.bool f] 31) (rs [(3,.s 2)] 2 (ob (B1 e) #[iN o.R,iN o.S,iN o.B,iN o.M,iN o.C,iN o.G,iN o.res,iN o.E,iN o.lr,iN o.er,iN o.lp,iN o.ep,iN o.I,iN o.H,iN o.log,.bool f] 31) (rs [(2,.s 2)] 2 (ob (B1 e) (cA o) 31) (rr (λ_=>[(0,.l 1),(1,.c [] [] (Y9 (o.R:Int) (o.S:Int) (o.B:Int) (o.M:Int) (o.C:Int) g (o.res:Int) b (o.lr:Int) (o.er:Int) (o.lp:Int) (o.ep:Int) (o.I:Int) (o.H:Int) (o.log:Int) f h)),(2,.l 2),(3,.c [] [3] (ri o j m))]) (λa=>[(10,.pointer none),(11,pt ((B3 a)) 0)]) [] (λa L=>L++[pk (a7 (B3 a) (((a 3).y 1)) (((a 3).y 2)) (((a 3).y 3)) (((a 3).y 4)) (((a 3).y 5)) (((a 3).y 6)) (((a 3).y 7)) (((a 3).y 8)) (((a 3).y 9)) (((a 3).y 10)) (((a 3).y 11)) o (Y6 o))]) λa=>rT [(3,.d),(4,.d),(7,.d),(8,.d),(9,.d)] 40 (r0 [] [(8,.bool true)] [8] (lf ab.zero [] [(0,0)] []))))))
theorem YC(c:Cf)(g:b6 c)(b:Int)(f:Bool)(h:iY c.R c.S c.B c.M c.C b c.res (IntKind.i64.wrap (3-(c.E:Int))) c.lr c.er c.lp c.ep c.I c.H c.log=false)(hs:gz c=false)(v:Value)(l:List St):aa Zl 6 #[.agg (cA c),v,i6 b,.bool f] [.p (aK eSt v l)] [] N0 (λ_=> .bool true):=by
 exact fO Tryz.func6 0 rfl λi j=>fG Tryz.func6 λw cs=>ra (λe=>[(4,pt (B0 e) 0),(8,.bool false)]) (λe=>[ob (B0 e) (cA c) 31]) λe=>rF [(0,.c [] [] (oE))] 15 (rr (λ_=>[(0,.l 1),(2,.s 2)]) (λa=>[(9,pt (B1 a) 0)]) [] (λa L=>L++[ob (B1 a) (cA c) 31]) λa=>rs [(1,.l 1),(2,.t (tv (av .sub 3 (.const (i6 3)) (.tmp 18) (i6 3) (iN c.E)) (λ_=>rn _ _))),(4,.s 2)] 2 (ob (B1 a) #[iN c.R,iN c.S,iN c.B,iN c.M,iN c.C,iN c.G,iN c.res,i6 (IntKind.i64.wrap (3-(c.E:Int))),iN c.lr,iN c.er,iN c.lp,iN c.ep,iN c.I,iN c.H,iN c.log,.bool c.W] 31) (rs [(3,.s 2)] 2 (ob (B1 a) #[iN c.R,iN c.S,iN c.B,iN c.M,iN c.C,i6 b,iN c.res,i6 (IntKind.i64.wrap (3-(c.E:Int))),iN c.lr,iN c.er,iN c.lp,iN c.ep,iN c.I,iN c.H,iN c.log,.bool c.W] 31) (rs [(2,.s 2)] 2 (ob (B1 a) #[iN c.R,iN c.S,iN c.B,iN c.M,iN c.C,i6 b,iN c.res,i6 (IntKind.i64.wrap (3-(c.E:Int))),iN c.lr,iN c.er,iN c.lp,iN c.ep,iN c.I,iN c.H,iN c.log,.bool f] 31) (r0 [(0,.l 1),(1,.c [] [] (w5 c g hs)),(2,.l 2),(3,.c [] [] (Y9 (c.R:Int) (c.S:Int) (c.B:Int) (c.M:Int) (c.C:Int) b (c.res:Int) (IntKind.i64.wrap (3-(c.E:Int))) (c.lr:Int) (c.er:Int) (c.lp:Int) (c.ep:Int) (c.I:Int) (c.H:Int) (c.log:Int) f h))] [(10,.pointer none),(11,.pointer none)] [] (rT [(3,.d),(4,.d),(7,.d),(8,.d),(9,.d)] 40 (r0 [] [(8,.bool true)] [8] (lf ab.zero [] [(0,0)] [])))))))
theorem YD(c:Cf)(i:b6 c)(e:Int)(g:Bool)(h:iY c.R c.S c.B c.M c.C e c.res (IntKind.i64.wrap (3-(c.E:Int))) c.lr c.er c.lp c.ep c.I c.H c.log=false)(hs:gz c=true)(v:Value)(l:List St):aa Zl 6 #[.agg (cA c),v,i6 e,.bool g] [.p (aK eSt v l)] [] N0 (λ_=> .bool true):=by
 exact fO Tryz.func6 0 rfl λj k=>fG Tryz.func6 λw cs=>ra (λf=>[(4,pt (B0 f) 0),(8,.bool false)]) (λf=>[ob (B0 f) (cA c) 31]) λf=>rF [(0,.c [] [] (oE))] 15 (rr (λ_=>[(0,.l 1),(2,.s 2)]) (λb=>[(9,pt (B1 b) 0)]) [] (λb L=>L++[ob (B1 b) (cA c) 31]) λb=>rs [(1,.l 1),(2,.t (tv (av .sub 3 (.const (i6 3)) (.tmp 18) (i6 3) (iN c.E)) (λ_=>rn _ _))),(4,.s 2)] 2 (ob (B1 b) #[iN c.R,iN c.S,iN c.B,iN c.M,iN c.C,iN c.G,iN c.res,i6 (IntKind.i64.wrap (3-(c.E:Int))),iN c.lr,iN c.er,iN c.lp,iN c.ep,iN c.I,iN c.H,iN c.log,.bool c.W] 31) (rs [(3,.s 2)] 2 (ob (B1 b) #[iN c.R,iN c.S,iN c.B,iN c.M,iN c.C,i6 e,iN c.res,i6 (IntKind.i64.wrap (3-(c.E:Int))),iN c.lr,iN c.er,iN c.lp,iN c.ep,iN c.I,iN c.H,iN c.log,.bool c.W] 31) (rs [(2,.s 2)] 2 (ob (B1 b) #[iN c.R,iN c.S,iN c.B,iN c.M,iN c.C,i6 e,iN c.res,i6 (IntKind.i64.wrap (3-(c.E:Int))),iN c.lr,iN c.er,iN c.lp,iN c.ep,iN c.I,iN c.H,iN c.log,.bool g] 31) (rr (λ_=>[(0,.l 1),(1,.c [] [3] (ri c i hs)),(2,.l 2),(3,.c [] [] (Y9 (c.R:Int) (c.S:Int) (c.B:Int) (c.M:Int) (c.C:Int) e (c.res:Int) (IntKind.i64.wrap (3-(c.E:Int))) (c.lr:Int) (c.er:Int) (c.lp:Int) (c.ep:Int) (c.I:Int) (c.H:Int) (c.log:Int) g h))]) (λa=>[(10,pt ((B1 a)) 0),(11,.pointer none)]) [] (λa L=>L++[pk (a7 (B1 a) (((a 1).y 1)) (((a 1).y 2)) (((a 1).y 3)) (((a 1).y 4)) (((a 1).y 5)) (((a 1).y 6)) (((a 1).y 7)) (((a 1).y 8)) (((a 1).y 9)) (((a 1).y 10)) (((a 1).y 11)) c (Y6 c))]) λa=>rT [(7,.d),(8,.d),(9,.d)] 40 (r0 [] [(8,.bool true)] [8] (lf ab.zero [] [(0,0)] []))))))
theorem YE(c o:Cf)(e:b6 c)(f:b6 o)(h:lP c o)(hs:gz c=false)(g:gz o=false)(v:Value)(l:List St):aa Zl 6 #[.agg (cA c),v,iN o.G,.bool o.W] [.p (aK eSt v l)] [] N0 (λ_=> .bool true):=by
 exact fO Tryz.func6 0 rfl λi j=>fG Tryz.func6 λw cs=>ra (λb=>[(4,pt (B0 b) 0),(8,.bool false)]) (λb=>[ob (B0 b) (cA c) 31]) λb=>rF [(0,.c [] [] (oE))] 15 (rr (λ_=>[(0,.l 1),(2,.s 2)]) (λa=>[(9,pt (B1 a) 0)]) [] (λa L=>L++[ob (B1 a) (cA c) 31]) λa=>rs [(1,.l 1),(2,.t (tv (av .sub 3 (.const (i6 3)) (.tmp 18) (i6 3) (iN c.E)) (λ_=>Bh h))),(4,.s 2)] 2 (ob (B1 a) #[iN c.R,iN c.S,iN c.B,iN c.M,iN c.C,iN c.G,iN c.res,iN o.E,iN c.lr,iN c.er,iN c.lp,iN c.ep,iN c.I,iN c.H,iN c.log,.bool c.W] 31) (rs [(3,.s 2)] 2 (ob (B1 a) #[iN c.R,iN c.S,iN c.B,iN c.M,iN c.C,iN o.G,iN c.res,iN o.E,iN c.lr,iN c.er,iN c.lp,iN c.ep,iN c.I,iN c.H,iN c.log,.bool c.W] 31) (rs [(2,.s 2)] 2 (ob (B1 a) #[iN c.R,iN c.S,iN c.B,iN c.M,iN c.C,iN o.G,iN c.res,iN o.E,iN c.lr,iN c.er,iN c.lp,iN c.ep,iN c.I,iN c.H,iN c.log,.bool o.W] 31) (r0 [(0,.l 1),(1,.c [] [] (w5 c e hs)),(2,.l 2),(3,.c [] [] (Yy h f g))] [(10,.pointer none),(11,.pointer none)] [] (rT [(3,.d),(4,.d),(7,.d),(8,.d),(9,.d)] 40 (r0 [] [(8,.bool true)] [8] (lf ab.zero [] [(0,0)] [])))))))
theorem YF(c o:Cf)(e:b6 c)(f:b6 o)(i:lP c o)(hs:gz c=true)(h:gz o=true)(v:Value)(l:List St)(m:60<l.length):aa Zl 6 #[.agg (cA c),v,iN o.G,.bool o.W] [.p (aK eSt v l)] [] N0 (λ_=> .bool true):=by
 refine fO Tryz.func6 0 rfl λj g=>fG Tryz.func6 λw cs=>ra (λd=>[(4,pt (B0 d) 0),(8,.bool false)]) (λd=>[ob (B0 d) (cA c) 31]) λd=>rF [(0,.c [] [] (oE))] 15 (rr (λ_=>[(0,.l 1),(2,.s 2)]) (λb=>[(9,pt (B1 b) 0)]) [] (λb L=>L++[ob (B1 b) (cA c) 31]) λb=>rs [(1,.l 1),(2,.t (tv (av .sub 3 (.const (i6 3)) (.tmp 18) (i6 3) (iN c.E)) (λ_=>Bh i))),(4,.s 2)] 2 (ob (B1 b) #[iN c.R,iN c.S,iN c.B,iN c.M,iN c.C,iN c.G,iN c.res,iN o.E,iN c.lr,iN c.er,iN c.lp,iN c.ep,iN c.I,iN c.H,iN c.log,.bool c.W] 31) (rs [(3,.s 2)] 2 (ob (B1 b) #[iN c.R,iN c.S,iN c.B,iN c.M,iN c.C,iN o.G,iN c.res,iN o.E,iN c.lr,iN c.er,iN c.lp,iN c.ep,iN c.I,iN c.H,iN c.log,.bool c.W] 31) (rs [(2,.s 2)] 2 (ob (B1 b) #[iN c.R,iN c.S,iN c.B,iN c.M,iN c.C,iN o.G,iN c.res,iN o.E,iN c.lr,iN c.er,iN c.lp,iN c.ep,iN c.I,iN c.H,iN c.log,.bool o.W] 31) (rr (λ_=>[(0,.l 1),(1,.c [] [3] (ri c e hs)),(2,.l 2),(3,.c [] [4] (Ir i f h))]) (λa=>[(10,pt ((B1 a)) 0),(11,pt ((B3 a)) 0)]) [] (λa L=>L++[pk (a7 (B1 a) (((a 1).y 1)) (((a 1).y 2)) (((a 1).y 3)) (((a 1).y 4)) (((a 1).y 5)) (((a 1).y 6)) (((a 1).y 7)) (((a 1).y 8)) (((a 1).y 9)) (((a 1).y 10)) (((a 1).y 11)) c (Y6 c)),pk (a7 (B3 a) ((a 3).y 1) ((a 3).y 2) ((a 3).y 3) ((a 3).y 4) ((a 3).y 5) ((a 3).y 6) ((a 3).y 7) ((a 3).y 8) ((a 3).y 9) ((a 3).y 10) ((a 3).y 11) o (Y6 o))]) λa=>r0 [(8,eP g.1 0)] [(40,.bool (decide (60<(l.length:Int))))] [] ?_))));have k:(decide (60<(l.length:Int)))=true:=by exact cC Om
 exact cT (decide (60<(l.length:Int))) k (r0 [] [(8,.bool true)] [8] (lf ab.zero [] [(0,0)] []))
def nO(c o:Cf)(l:List St)(j:Nat):Bool:=bif (l.getD j ae).k != 8 then((dT c (bh c (Y6 c) l j) (l.getD j ae)).e==(dT o (bh o (Y6 o) l j) (l.getD j ae)).e&&((dT c (bh c (Y6 c) l j) (l.getD j ae)).n==(dT o (bh o (Y6 o) l j) (l.getD j ae)).n&&true))&&decide ((dT c (bh c (Y6 c) l j) (l.getD j ae)).l=(dT o (bh o (Y6 o) l j) (l.getD j ae)).l) else true
theorem YG{c o:Cf}{l:List St}{j:Nat}(h:((l.getD j ae).k != 8)=false):nO c o l j=true:=by unfold nO;rw[h,ALcf]
theorem Iu{c o:Cf}{l:List St}{j:Nat}{b:Bool}(h:((l.getD j ae).k != 8)=true)(h2:(!(((dT c (bh c (Y6 c) l j) (l.getD j ae)).e==(dT o (bh o (Y6 o) l j) (l.getD j ae)).e&&((dT c (bh c (Y6 c) l j) (l.getD j ae)).n==(dT o (bh o (Y6 o) l j) (l.getD j ae)).n&&true))&&decide ((dT c (bh c (Y6 c) l j) (l.getD j ae)).l=(dT o (bh o (Y6 o) l j) (l.getD j ae)).l)))=b):nO c o l j= !b:=by unfold nO;rw[h,ALct,←h2,Bool.not_not]
theorem xh(c:Cf)(x:Mc)(l:List St)(k:Nat){b:Bool}(h:((l.getD k ae).k != 8)=b):bh c x l (k+1)=bif b then dn c (bh c x l k) (l.getD k ae) else bh c x l k:=by rw[pN,h]
attribute [local irreducible] bh dn dT Y6
theorem YH(c o:Cf)(hcf:b6 c)(hof:b6 o)(hO:lP c o)(hs:gz c=true)(hso:gz o=true)(v:Value)(l:List St)(hl:l.length≤60)(u:Zk l)(hy:w4 (bh c (Y6 c) l l.length).sv)(hy2:w4 (bh o (Y6 o) l l.length).sv):aa Zl 6 #[.agg (cA c),v,iN o.G,.bool o.W] [.p (aK eSt v l)] [] N0 (λ_=> .bool (bif (Zz l.length).all (nO c o l) then(bh c (Y6 c) l l.length).sv.all gA&&(bh o (Y6 o) l l.length).sv.all gA else false)):=by
 obtain⟨sF,Q⟩: ∃f:Mc→St→Mc,∀x s,dn c x s=f x s:=⟨dn c,λ_ _=>rfl⟩;obtain⟨q,K⟩: ∃f:Mc→St→An,∀x s,dT c x s=f x s:=⟨dT c,λ_ _=>rfl⟩;obtain⟨sG,R⟩: ∃f:Mc→St→Mc,∀x s,dn o x s=f x s:=⟨dn o,λ_ _=>rfl⟩;obtain⟨r,M⟩: ∃f:Mc→St→An,∀x s,dT o x s=f x s:=⟨dT o,λ_ _=>rfl⟩;have hDo: ∀(g z D H gm G C I B gd A F:Nat) (x:Mc) (n:Nat) (h:GM c x n) (hn:n≤900) (s:St) (hs:StOk s),aa Zl 16 #[pt g 0,.agg (eSt s).toArray] [pk (a7 g z D H gm G C I B gd A F c x)] [0] (λ_=>[pk (a7 g z D H gm G C I B gd A F c (sF x s))]) (λ_=> .agg (wX (q x s)).toArray):=λg z D H gm G C I B gd A F x n h hn s hs=>by rw[←Q,←K];exact tT g z D H gm G C I B gd A F c x n h hn s hs
 have hDq: ∀(g z D H gm G C I B gd A F:Nat) (x:Mc) (n:Nat) (h:GM o x n) (hn:n≤900) (s:St) (hs:StOk s),aa Zl 16 #[pt g 0,.agg (eSt s).toArray] [pk (a7 g z D H gm G C I B gd A F o x)] [0] (λ_=>[pk (a7 g z D H gm G C I B gd A F o (sG x s))]) (λ_=> .agg (wX (r x s)).toArray):=λg z D H gm G C I B gd A F x n h hn s hs=>by rw[←R,←M];exact tT g z D H gm G C I B gd A F o x n h hn s hs
 have g0:=GM.start hcf;have g1:=GM.start hof;have q1g:=mq g0 u l.length Om;have q2g:=mq g1 u l.length Om;have X:(bh c (Y6 c) l l.length).sv.length≤900000:=ZB q1g.ok.sl Om;have gs2:(bh o (Y6 o) l l.length).sv.length≤900000:=ZB q2g.ok.sl Om;refine fO Tryz.func6 0 rfl λbq0 N=>fG Tryz.func6 λw cs=>ra (λq1=>[(4,pt (B0 q1) 0),(8,.bool false)]) (λq1=>[ob (B0 q1) (cA c) 31]) λq1=>rF [(0,.c [] [] (oE))] 15 (rr (λ_=>[(0,.l 1),(2,.s 2)]) (λU=>[(9,pt (B1 U) 0)]) [] (λU L=>L++[ob (B1 U) (cA c) 31]) λU=>rs [(1,.l 1),(2,.t (tv (av .sub 3 (.const (i6 3)) (.tmp 18) (i6 3) (iN c.E)) (λ_=>Bh hO))),(4,.s 2)] 2 (ob (B1 U) #[iN c.R,iN c.S,iN c.B,iN c.M,iN c.C,iN c.G,iN c.res,iN o.E,iN c.lr,iN c.er,iN c.lp,iN c.ep,iN c.I,iN c.H,iN c.log,.bool c.W] 31) (rs [(3,.s 2)] 2 (ob (B1 U) #[iN c.R,iN c.S,iN c.B,iN c.M,iN c.C,iN o.G,iN c.res,iN o.E,iN c.lr,iN c.er,iN c.lp,iN c.ep,iN c.I,iN c.H,iN c.log,.bool c.W] 31) (rs [(2,.s 2)] 2 (ob (B1 U) #[iN c.R,iN c.S,iN c.B,iN c.M,iN c.C,iN o.G,iN c.res,iN o.E,iN c.lr,iN c.er,iN c.lp,iN c.ep,iN c.I,iN c.H,iN c.log,.bool o.W] 31) (rr (λ_=>[(0,.l 1),(1,.c [] [3] (ri c hcf hs)),(2,.l 2),(3,.c [] [4] (Ir hO hof hso))]) (λa=>[(10,pt ((B1 a)) 0),(11,pt ((B3 a)) 0)]) [] (λa L=>L++[pk (a7 (B1 a) (((a 1).y 1)) (((a 1).y 2)) (((a 1).y 3)) (((a 1).y 4)) (((a 1).y 5)) (((a 1).y 6)) (((a 1).y 7)) (((a 1).y 8)) (((a 1).y 9)) (((a 1).y 10)) (((a 1).y 11)) c (Y6 c)),pk (a7 (B3 a) ((a 3).y 1) ((a 3).y 2) ((a 3).y 3) ((a 3).y 4) ((a 3).y 5) ((a 3).y 6) ((a 3).y 7) ((a 3).y 8) ((a 3).y 9) ((a 3).y 10) ((a 3).y 11) o (Y6 o))]) λa=>r0 [(8,eP N.1 0)] [(40,.bool (decide (60<(l.length:Int))))] [] ?_))));have h9:(decide (60<(l.length:Int)))=false:=by exact bl Om
 refine cF (decide (60<(l.length:Int))) h9 (r0 [(1,eP N.1 0)] [(41,v),(42,iN l.length),(43,i6 0)] [] ?_);refine lq (λj=>j≤l.length∧(∀i,i<j→nO c o l i=true)) (λj=>[(43,iN j)]) (λj L=>(L.set 3 ((pk (a7 (B1 a) ((a 1).y 1) ((a 1).y 2) ((a 1).y 3) ((a 1).y 4) ((a 1).y 5) ((a 1).y 6) ((a 1).y 7) ((a 1).y 8) ((a 1).y 9) ((a 1).y 10) ((a 1).y 11) c (bh c (Y6 c) l j))))).set 4 ((pk (a7 (B3 a) ((a 3).y 1) ((a 3).y 2) ((a 3).y 3) ((a 3).y 4) ((a 3).y 5) ((a 3).y 6) ((a 3).y 7) ((a 3).y 8) ((a 3).y 9) ((a 3).y 10) ((a 3).y 11) o (bh o (Y6 o) l j))))) (λj=>l.length-j) 0 ⟨by omega,(λ_ h=>absurd h (ZA _))⟩ Kr (by rw[HV,HV];kernel_rfl) (λj ⟨hk11,hw⟩=>?_);have hkk:=hk11;have hga:=mq g0 u j Om;have hgb:=mq g1 u j Om;have hna:0+j≤900:=by omega
 have S:=u.a j;have hsd:=S.d;have Z:(q (bh c (Y6 c) l j) (⟨((l.getD j ae).k),((l.getD j ae).ln),((l.getD j ae).d),((l.getD j ae).m),((l.getD j ae).f0),((l.getD j ae).f1),((l.getD j ae).f2),((l.getD j ae).f3),((l.getD j ae).f4),((l.getD j ae).f5),((l.getD j ae).f6),((l.getD j ae).f7)⟩:St)).l.length=64:=by rw[←K];exact HW hga.ok _
 have hbl:(r (bh o (Y6 o) l j) (⟨((l.getD j ae).k),((l.getD j ae).ln),((l.getD j ae).d),((l.getD j ae).m),((l.getD j ae).f0),((l.getD j ae).f1),((l.getD j ae).f2),((l.getD j ae).f3),((l.getD j ae).f4),((l.getD j ae).f5),((l.getD j ae).f6),((l.getD j ae).f7)⟩:St)).l.length=64:=by rw[←M];exact HW hgb.ok _
 refine r0 [] [(44,.bool (decide ((j:Int)<(l.length:Int))))] [] ?_;refine cj (j:Int) (l.length:Int) (λh13 V=>?_) λh13 V=>?_
 ·refine rr (λ_=>[(0,fv N.1 0 j 75),(1,nb VF N.1 0 j 0 75),(3,.s 5)]) (λO=>[(13,pt (B2 O) 0)]) [] (λO L=>L++[ob (B2 O) (sV ((l.getD j ae).k) ((l.getD j ae).ln) ((l.getD j ae).d) ((l.getD j ae).m:Nat) ((l.getD j ae).f0) ((l.getD j ae).f1) ((l.getD j ae).f2) ((l.getD j ae).f3) ((l.getD j ae).f4) ((l.getD j ae).f5) ((l.getD j ae).f6) ((l.getD j ae).f7)) 50]) λO=>?_;cases J:(((l.getD j ae).k) != 8)
  case true=>
   have W:=bne_iff_ne.1 J;refine rr (λ_=>[(1,.m (ld 5 (i6 ((l.getD j ae).k)))),(2,.t (tk (show Value.bool (((l.getD j ae).k) != 8)= .bool true from ALca Value.bool J))),(5,.m (ls 5 (sL ((l.getD j ae).k) ((l.getD j ae).ln) ((l.getD j ae).d) ((l.getD j ae).m:Nat) ((l.getD j ae).f0) ((l.getD j ae).f1) ((l.getD j ae).f2) ((l.getD j ae).f3) ((l.getD j ae).f4) ((l.getD j ae).f5) ((l.getD j ae).f6) ((l.getD j ae).f7)))),(6,.c [3] [3] (hDo (B1 a) ((a 1).y 1) ((a 1).y 2) ((a 1).y 3) ((a 1).y 4) ((a 1).y 5) ((a 1).y 6) ((a 1).y 7) ((a 1).y 8) ((a 1).y 9) ((a 1).y 10) ((a 1).y 11) (bh c (Y6 c) l j) _ hga hna (⟨((l.getD j ae).k),((l.getD j ae).ln),((l.getD j ae).d),((l.getD j ae).m),((l.getD j ae).f0),((l.getD j ae).f1),((l.getD j ae).f2),((l.getD j ae).f3),((l.getD j ae).f4),((l.getD j ae).f5),((l.getD j ae).f6),((l.getD j ae).f7)⟩:St) S)),(8,.m (ls 5 (sL ((l.getD j ae).k) ((l.getD j ae).ln) ((l.getD j ae).d) ((l.getD j ae).m:Nat) ((l.getD j ae).f0) ((l.getD j ae).f1) ((l.getD j ae).f2) ((l.getD j ae).f3) ((l.getD j ae).f4) ((l.getD j ae).f5) ((l.getD j ae).f6) ((l.getD j ae).f7)))),(9,.c [4] [4] (hDq (B3 a) ((a 3).y 1) ((a 3).y 2) ((a 3).y 3) ((a 3).y 4) ((a 3).y 5) ((a 3).y 6) ((a 3).y 7) ((a 3).y 8) ((a 3).y 9) ((a 3).y 10) ((a 3).y 11) (bh o (Y6 o) l j) _ hgb hna (⟨((l.getD j ae).k),((l.getD j ae).ln),((l.getD j ae).d),((l.getD j ae).m),((l.getD j ae).f0),((l.getD j ae).f1),((l.getD j ae).f2),((l.getD j ae).f3),((l.getD j ae).f4),((l.getD j ae).f5),((l.getD j ae).f6),((l.getD j ae).f7)⟩:St) S)),(10,.t (ig 53 λ_ _ _=>jg (xs:=([i6 ((q (bh c (Y6 c) l j) (⟨((l.getD j ae).k),((l.getD j ae).ln),((l.getD j ae).d),((l.getD j ae).m),((l.getD j ae).f0),((l.getD j ae).f1),((l.getD j ae).f2),((l.getD j ae).f3),((l.getD j ae).f4),((l.getD j ae).f5),((l.getD j ae).f6),((l.getD j ae).f7)⟩:St)).e),i6 ((q (bh c (Y6 c) l j) (⟨((l.getD j ae).k),((l.getD j ae).ln),((l.getD j ae).d),((l.getD j ae).m),((l.getD j ae).f0),((l.getD j ae).f1),((l.getD j ae).f2),((l.getD j ae).f3),((l.getD j ae).f4),((l.getD j ae).f5),((l.getD j ae).f6),((l.getD j ae).f7)⟩:St)).n)]:List Value)++rB 64 ((q (bh c (Y6 c) l j) (⟨((l.getD j ae).k),((l.getD j ae).ln),((l.getD j ae).d),((l.getD j ae).m),((l.getD j ae).f0),((l.getD j ae).f1),((l.getD j ae).f2),((l.getD j ae).f3),((l.getD j ae).f4),((l.getD j ae).f5),((l.getD j ae).f6),((l.getD j ae).f7)⟩:St)).l)) (ys:=([i6 ((r (bh o (Y6 o) l j) (⟨((l.getD j ae).k),((l.getD j ae).ln),((l.getD j ae).d),((l.getD j ae).m),((l.getD j ae).f0),((l.getD j ae).f1),((l.getD j ae).f2),((l.getD j ae).f3),((l.getD j ae).f4),((l.getD j ae).f5),((l.getD j ae).f6),((l.getD j ae).f7)⟩:St)).e),i6 ((r (bh o (Y6 o) l j) (⟨((l.getD j ae).k),((l.getD j ae).ln),((l.getD j ae).d),((l.getD j ae).m),((l.getD j ae).f0),((l.getD j ae).f1),((l.getD j ae).f2),((l.getD j ae).f3),((l.getD j ae).f4),((l.getD j ae).f5),((l.getD j ae).f6),((l.getD j ae).f7)⟩:St)).n)]:List Value)++rB 64 ((r (bh o (Y6 o) l j) (⟨((l.getD j ae).k),((l.getD j ae).ln),((l.getD j ae).d),((l.getD j ae).m),((l.getD j ae).f0),((l.getD j ae).f1),((l.getD j ae).f2),((l.getD j ae).f3),((l.getD j ae).f4),((l.getD j ae).f5),((l.getD j ae).f6),((l.getD j ae).f7)⟩:St)).l)) Kr (fh Kr Kr bc (iP (show((q (bh c (Y6 c) l j) (⟨((l.getD j ae).k),((l.getD j ae).ln),((l.getD j ae).d),((l.getD j ae).m),((l.getD j ae).f0),((l.getD j ae).f1),((l.getD j ae).f2),((l.getD j ae).f3),((l.getD j ae).f4),((l.getD j ae).f5),((l.getD j ae).f6),((l.getD j ae).f7)⟩:St)).l).length=64 by(simp only[LL,hsd,Z,hbl];done)) (show((r (bh o (Y6 o) l j) (⟨((l.getD j ae).k),((l.getD j ae).ln),((l.getD j ae).d),((l.getD j ae).m),((l.getD j ae).f0),((l.getD j ae).f1),((l.getD j ae).f2),((l.getD j ae).f3),((l.getD j ae).f4),((l.getD j ae).f5),((l.getD j ae).f6),((l.getD j ae).f7)⟩:St)).l).length=64 by(simp only[LL,hsd,Z,hbl];done))))))]) (λ_=>[(58,.bool (!((((q (bh c (Y6 c) l j) (⟨((l.getD j ae).k),((l.getD j ae).ln),((l.getD j ae).d),((l.getD j ae).m),((l.getD j ae).f0),((l.getD j ae).f1),((l.getD j ae).f2),((l.getD j ae).f3),((l.getD j ae).f4),((l.getD j ae).f5),((l.getD j ae).f6),((l.getD j ae).f7)⟩:St)).e)==((r (bh o (Y6 o) l j) (⟨((l.getD j ae).k),((l.getD j ae).ln),((l.getD j ae).d),((l.getD j ae).m),((l.getD j ae).f0),((l.getD j ae).f1),((l.getD j ae).f2),((l.getD j ae).f3),((l.getD j ae).f4),((l.getD j ae).f5),((l.getD j ae).f6),((l.getD j ae).f7)⟩:St)).e)&&(((q (bh c (Y6 c) l j) (⟨((l.getD j ae).k),((l.getD j ae).ln),((l.getD j ae).d),((l.getD j ae).m),((l.getD j ae).f0),((l.getD j ae).f1),((l.getD j ae).f2),((l.getD j ae).f3),((l.getD j ae).f4),((l.getD j ae).f5),((l.getD j ae).f6),((l.getD j ae).f7)⟩:St)).n)==((r (bh o (Y6 o) l j) (⟨((l.getD j ae).k),((l.getD j ae).ln),((l.getD j ae).d),((l.getD j ae).m),((l.getD j ae).f0),((l.getD j ae).f1),((l.getD j ae).f2),((l.getD j ae).f3),((l.getD j ae).f4),((l.getD j ae).f5),((l.getD j ae).f6),((l.getD j ae).f7)⟩:St)).n)&&true))&&decide ((q (bh c (Y6 c) l j) (⟨((l.getD j ae).k),((l.getD j ae).ln),((l.getD j ae).d),((l.getD j ae).m),((l.getD j ae).f0),((l.getD j ae).f1),((l.getD j ae).f2),((l.getD j ae).f3),((l.getD j ae).f4),((l.getD j ae).f5),((l.getD j ae).f6),((l.getD j ae).f7)⟩:St)).l=(r (bh o (Y6 o) l j) (⟨((l.getD j ae).k),((l.getD j ae).ln),((l.getD j ae).d),((l.getD j ae).m),((l.getD j ae).f0),((l.getD j ae).f1),((l.getD j ae).f2),((l.getD j ae).f3),((l.getD j ae).f4),((l.getD j ae).f5),((l.getD j ae).f6),((l.getD j ae).f7)⟩:St)).l))))]) [] (λ_ L=>(L.set 3 ((pk (a7 (B1 a) ((a 1).y 1) ((a 1).y 2) ((a 1).y 3) ((a 1).y 4) ((a 1).y 5) ((a 1).y 6) ((a 1).y 7) ((a 1).y 8) ((a 1).y 9) ((a 1).y 10) ((a 1).y 11) c (sF (bh c (Y6 c) l j) (⟨((l.getD j ae).k),((l.getD j ae).ln),((l.getD j ae).d),((l.getD j ae).m),((l.getD j ae).f0),((l.getD j ae).f1),((l.getD j ae).f2),((l.getD j ae).f3),((l.getD j ae).f4),((l.getD j ae).f5),((l.getD j ae).f6),((l.getD j ae).f7)⟩:St)))))).set 4 ((pk (a7 (B3 a) ((a 3).y 1) ((a 3).y 2) ((a 3).y 3) ((a 3).y 4) ((a 3).y 5) ((a 3).y 6) ((a 3).y 7) ((a 3).y 8) ((a 3).y 9) ((a 3).y 10) ((a 3).y 11) o (sG (bh o (Y6 o) l j) (⟨((l.getD j ae).k),((l.getD j ae).ln),((l.getD j ae).d),((l.getD j ae).m),((l.getD j ae).f0),((l.getD j ae).f1),((l.getD j ae).f2),((l.getD j ae).f3),((l.getD j ae).f4),((l.getD j ae).f5),((l.getD j ae).f6),((l.getD j ae).f7)⟩:St)))))) λq16=>?_;refine cB (!((((q (bh c (Y6 c) l j) (⟨((l.getD j ae).k),((l.getD j ae).ln),((l.getD j ae).d),((l.getD j ae).m),((l.getD j ae).f0),((l.getD j ae).f1),((l.getD j ae).f2),((l.getD j ae).f3),((l.getD j ae).f4),((l.getD j ae).f5),((l.getD j ae).f6),((l.getD j ae).f7)⟩:St)).e)==((r (bh o (Y6 o) l j) (⟨((l.getD j ae).k),((l.getD j ae).ln),((l.getD j ae).d),((l.getD j ae).m),((l.getD j ae).f0),((l.getD j ae).f1),((l.getD j ae).f2),((l.getD j ae).f3),((l.getD j ae).f4),((l.getD j ae).f5),((l.getD j ae).f6),((l.getD j ae).f7)⟩:St)).e)&&(((q (bh c (Y6 c) l j) (⟨((l.getD j ae).k),((l.getD j ae).ln),((l.getD j ae).d),((l.getD j ae).m),((l.getD j ae).f0),((l.getD j ae).f1),((l.getD j ae).f2),((l.getD j ae).f3),((l.getD j ae).f4),((l.getD j ae).f5),((l.getD j ae).f6),((l.getD j ae).f7)⟩:St)).n)==((r (bh o (Y6 o) l j) (⟨((l.getD j ae).k),((l.getD j ae).ln),((l.getD j ae).d),((l.getD j ae).m),((l.getD j ae).f0),((l.getD j ae).f1),((l.getD j ae).f2),((l.getD j ae).f3),((l.getD j ae).f4),((l.getD j ae).f5),((l.getD j ae).f6),((l.getD j ae).f7)⟩:St)).n)&&true))&&decide ((q (bh c (Y6 c) l j) (⟨((l.getD j ae).k),((l.getD j ae).ln),((l.getD j ae).d),((l.getD j ae).m),((l.getD j ae).f0),((l.getD j ae).f1),((l.getD j ae).f2),((l.getD j ae).f3),((l.getD j ae).f4),((l.getD j ae).f5),((l.getD j ae).f6),((l.getD j ae).f7)⟩:St)).l=(r (bh o (Y6 o) l j) (⟨((l.getD j ae).k),((l.getD j ae).ln),((l.getD j ae).d),((l.getD j ae).m),((l.getD j ae).f0),((l.getD j ae).f1),((l.getD j ae).f2),((l.getD j ae).f3),((l.getD j ae).f4),((l.getD j ae).f5),((l.getD j ae).f6),((l.getD j ae).f7)⟩:St)).l))) (λh17=>?_) λh17=>?_
   ·exact r0 [] [(8,.bool false)] [] (ao (.bool false) ab.zero (by(rw[X4 (j:=j) Om (Iu (b:=true) As (by simp only[K,M];assumption))];rfl)) [] [(0,0)] [])
   exact r0 [(0,ad j 1)] [(43,i6 ((j+1:Nat):Int))] [43] (le (j+1) ⟨by omega,A1 hw (by exact Iu (b:=false) As (by simp only[K,M];assumption))⟩ Om Kr [0,1,2,3,4] (by rw[xh c (Y6 c) l j As,xh o (Y6 o) l j As];(try rw[Q,R]);kernel_rfl))
  have W:=xT J;exact rF [(1,.m (ld 5 (i6 ((l.getD j ae).k)))),(2,.t (tk (show Value.bool (((l.getD j ae).k) != 8)= .bool false from ALca Value.bool J))),(4,.d),(5,.d),(6,.d),(7,.d),(8,.d),(9,.d),(10,.d)] 58 (r0 [(0,ad j 1)] [(43,i6 ((j+1:Nat):Int))] [43] (le (j+1) ⟨by omega,A1 hw (by exact YG As)⟩ Om Kr [0,1,2,3,4] (by rw[xh c (Y6 c) l j As,xh o (Y6 o) l j As];(try rw[Q,R]);kernel_rfl)))
 obtain rfl:j=l.length:=by omega
 refine lx ?_;cases Y:((bh c (Y6 c) l l.length).sv.all gA)
 case true=>
  exact r0 [(1,.c [3] [3] (aa.v ((A3 (B1 a) ((a 1).y 1) ((a 1).y 2) ((a 1).y 3) ((a 1).y 4) ((a 1).y 5) ((a 1).y 6) ((a 1).y 7) ((a 1).y 8) ((a 1).y 9) ((a 1).y 10) ((a 1).y 11) c (bh c (Y6 c) l l.length) (by with_reducible exact X) (by with_reducible exact hy))) λ_=>ALca Value.bool (show((bh c (Y6 c) l l.length).sv.all gA)=true from Y))),(4,.c [4] [4] (A3 (B3 a) ((a 3).y 1) ((a 3).y 2) ((a 3).y 3) ((a 3).y 4) ((a 3).y 5) ((a 3).y 6) ((a 3).y 7) ((a 3).y 8) ((a 3).y 9) ((a 3).y 10) ((a 3).y 11) o (bh o (Y6 o) l l.length) (by with_reducible exact gs2) (by with_reducible exact hy2)))] [(8,.bool ((bh o (Y6 o) l l.length).sv.all gA))] [] (ao (.bool ((bh o (Y6 o) l l.length).sv.all gA)) ab.zero (by(rw[A8 hw];(repeat (rw[ALct]));rfl)) [] [(0,0)] [])
 exact r0 [(1,.c [3] [3] (aa.v ((A3 (B1 a) ((a 1).y 1) ((a 1).y 2) ((a 1).y 3) ((a 1).y 4) ((a 1).y 5) ((a 1).y 6) ((a 1).y 7) ((a 1).y 8) ((a 1).y 9) ((a 1).y 10) ((a 1).y 11) c (bh c (Y6 c) l l.length) (by with_reducible exact X) (by with_reducible exact hy))) λ_=>ALca Value.bool (show((bh c (Y6 c) l l.length).sv.all gA)=false from Y))),(3,.d),(4,.d)] [(8,.bool false)] [] (ao (.bool false) ab.zero (by(rw[A8 hw];(repeat (rw[ALct]));rfl)) [] [(0,0)] [])
end
section
open Go.ChangeShapes Go.WideShapes
theorem eh.split{l m:List iz}{cs:List Value}(h:eh (l++m) cs):eh l (cs.take l.length)∧eh m (cs.drop l.length):=by
 obtain⟨f,d⟩:=h;rw[Zt] at f;refine⟨⟨by rw[List.length_take];omega,λi lf a=>?_⟩,⟨by rw[List.length_drop];omega,λi lf a=>?_⟩⟩
 ·have e:i<l.length:=(List.getElem?_eq_some_iff.1 a).1;obtain⟨v,b,c⟩:=d i lf (by rw[List.getElem?_append_left e];exact a);exact⟨v,by rw[List.getElem?_take_of_lt e];exact b,c⟩
 ·obtain⟨v,b,c⟩:=d (l.length+i) lf (by rw[List.getElem?_append_right (Nat.le_add_right _ _),Nat.add_sub_cancel_left];exact a);exact⟨v,by rw[List.getElem?_drop];exact b,c⟩
theorem eh.one{f:iz}{ls:List iz}{cs:List Value}(h:eh (f::ls) cs): ∃v vs,cs=v::vs∧EY f v∧eh ls vs:=by
 obtain⟨a,b⟩:=h;cases cs with
 | nil=>simp at a
 | cons v vs=>
  obtain⟨u,c,d⟩:=b 0 f rfl;obtain rfl:v=u:=by simpa using c
  exact⟨v,vs,rfl,d,by simpa using a,λi lf e=>by simpa using b (i+1) lf (by rw[List.getElem?_cons_succ];exact e)⟩
theorem Iv: ∀(n:Nat) (cs:List Value),eh (Zm n (.int .u8)) cs→∃d:List UInt8,d.length=n∧cs=d.map λb=>Value.int .u8 (b.toNat:Int)
 | 0,cs,h=>⟨[],rfl,by have:=h.1;simp at this;simpa using this⟩
 | n+1,cs,h=>by
  obtain⟨v,vs,rfl,⟨z,rfl,e⟩,a⟩:=eh.one (by rw[List.replicate_succ] at h;exact h);obtain⟨d,c,rfl⟩:=Iv n vs a;have f:=bounds_u8 e;refine⟨UInt8.ofNat z.toNat::d,by rw[List.length_cons,c],?_⟩;rw[List.map_cons,show((UInt8.ofNat z.toNat).toNat:Int)=z by rw[UInt8.toNat_ofNat'];omega]
theorem YI{l:List Int}(h:l.length=8): ∃a b c d e f g i,l=[a,b,c,d,e,f,g,i]:=by
 match l,h with
 | [a,b,c,d,e,f,g,i],_=>exact⟨a,b,c,d,e,f,g,i,rfl⟩
def stLs:List iz:=Zm 2 (.int .i64)++(Zm 64 (.int .u8)++(.int .u64::Zm 8 (.int .i64)))
theorem YJ{cs:List Value}(h:eh stLs cs): ∃s:St,cs=eSt s∧StOk s:=by
 obtain⟨x,y⟩:=eh.split h;obtain⟨z,A⟩:=eh.split y;obtain⟨v,vs,o,⟨m,t,C⟩,B⟩:=eh.one A;obtain⟨G,D,l,_⟩:=vL 2 _ x;obtain⟨d,q,n⟩:=Iv 64 _ z;obtain⟨H,F,r,_⟩:=vL 8 _ B;have I:=bounds_u64 C;obtain⟨a,b,c,i,e,f,g,j,rfl⟩:=YI F
 match G,D with
 | [k,p],_=>
  refine⟨⟨k,p,d,m.toNat,a,b,c,i,e,f,g,j⟩,?_,⟨q,by show m.toNat<_;omega⟩⟩;have u:cs=cs.take 2++cs.drop 2:=(Zp 2 cs).symm;have w:cs.drop 2=(cs.drop 2).take 64++(cs.drop 2).drop 64:=(Zp 64 _).symm;have l:cs.take 2=[i6 k,i6 p]:=l;have n:(cs.drop 2).take 64=d.map λb=>Value.int .u8 (b.toNat:Int):=n;have o:(cs.drop 2).drop 64=v::vs:=o;rw[u,w,l,n,o,t,r];show _=[i6 k,i6 p]++rB 64 d++_;rw[xQ q,show(m:Int)=((m.toNat:Nat):Int) by omega];rfl
theorem rows_st: ∀(a:List (List Value)),(∀r∈a,eh stLs r)→∃L:List St,a=L.map eSt∧∀s∈L,StOk s
 | [],_=>⟨[],rfl,λs g=>absurd g Zn⟩
 | r::a,h=>by
  obtain⟨L,b,c⟩:=rows_st a λx i=>h x (List.mem_cons_of_mem _ i);obtain⟨s,d,f⟩:=YJ (h r List.mem_cons_self);exact⟨s::L,by rw[b,d];rfl,λy j=>(List.mem_cons.1 j).elim (λe=>e▸f) (c y)⟩
theorem sts_ok{l:List St}(h: ∀s∈l,StOk s):Zk l:=⟨λk=>by
 rw[List.getD_eq_getElem?_getD];cases b:l[k]? with
 | none=>exact⟨List.length_replicate,by show(0:Nat)<_;decide⟩
 | some a=>exact h a (List.mem_of_getElem? b)⟩
def cfLs:List iz:=Zm 15 (.int .i64)++[.bool]
theorem cells_cfg{cs:List Value}(h:eh cfLs cs): ∃(r s b m c way e mode n k l j a heavy d:Int) (f:Bool),cs=[i6 r,i6 s,i6 b,i6 m,i6 c,i6 way,i6 e,i6 mode,i6 n,i6 k,i6 l,i6 j,i6 a,i6 heavy,i6 d,.bool f]:=by
 obtain⟨t,u⟩:=eh.split h;obtain⟨v,vs,g,⟨q,o⟩,w⟩:=eh.one u;obtain⟨z,y,i,_⟩:=vL 15 _ t;have x:vs=[]:=List.length_eq_zero_iff.1 w.1
 match z,y with
 | [r,s,b,m,c,way,e,mode,n,k,l,j,a,heavy,d],_=>
  refine⟨r,s,b,m,c,way,e,mode,n,k,l,j,a,heavy,d,q,?_⟩;have p:cs=cs.take 15++cs.drop 15:=(Zp 15 cs).symm;have i:cs.take 15=_:=i;have g:cs.drop 15=_:=g;rw[p,i,g,o,x];rfl
theorem aa.belowQ{P:Program}{f:FuncId}{args:Array Value}{u:Value}{T:ay→Prop}{bs:ay}(h:aa P f args [.p T] [] N0 (λ_=>u))(w:World)(d:ez bs w)(ht:T bs):Calls P f args w λe w'=>e= .returned u∧Below w.heap.size w w':=by
 refine(callsIn_wide (n:=6)).1 ((callsIn_wide.2 (h.out w [bs] ⟨ht,trivial⟩ (by simpa using d))).mono ?_);rintro e w' ⟨E,g,rfl,i,a⟩;exact⟨rfl,a.os,a.tape,a.output,a.size,λb c=>a.far b c (by simp)⟩
theorem st_sq{A:Option Addr}{n k:Nat}{L:List St}{w:World}(b:L.length=n)(f:n≤k)(g:pn 75 w A (L.map eSt)): ∃a,ez a w∧aK eSt (.slice A n k) L a:=by
 obtain⟨a,d,e⟩:=Qn (en:=eSt) (k:=75) (c:=k) (λs=>by unfold eSt;rw[Zt,Zt,JE];rfl) Dc g b;exact⟨a,d,e,A,k-n,by rw[b,Nat.add_sub_cancel' f]⟩
end
section
open Go.ChangeShapes Go.WideShapes
theorem xi{c:Cf}{x:Mc}{n:Nat}(h:GM c x n)(a:nM x.sv){l:List St}(hs:Zk l): ∀k,n+k≤900→nM (bh c x l k).sv
 | 0,_=>a
 | k+1,b=>by
  rw[pN];cases (l.getD k ae).k != 8
  ·exact xi h a hs k Om
  ·exact X6 (mq h hs k Om).ok (xi h a hs k Om) _
theorem lP.ln{c o:Cf}(h:lP c o):di c=di o:=by unfold di;rw[h.R,h.B,h.M,h.C,h.res]
theorem lP.sm{c o:Cf}(h:lP c o):gz c=gz o:=by unfold gz;rw[h.R,h.S,h.B,h.M,h.C]
theorem YK{c o:Cf}(a:b6 c)(b:b6 o)(f:lP c o){l:List St}(hs:Zk l)(h:l.length≤60):(bif (Zz l.length).all (nO c o l) then(bh c (Y6 c) l l.length).sv.all gA&&(bh o (Y6 o) l l.length).sv.all gA else false)=true:=by
 have d:(Zz l.length).all (nO c o l)=true:=A8 λj g=>by
  unfold nO;cases e:(l.getD j ae).k != 8
  ·rfl
  ·rw[ALct,Yx f.ln (GM.start a) (GM.start b) (xg a) (xg b) rfl rfl hs Om (by simpa using e)];simp
 rw[d,ALct,List.all_eq_true.2 (pQ (GM.start a) (xg a) hs l.length Om).i.sv,List.all_eq_true.2 (pQ (GM.start b) (xg b) hs l.length Om).i.sv];rfl
theorem modes_con(r s b m c way j mode D B C A d heavy i:Int)(a:Bool)(v:Value)(l:List St)(g:Zk l)(x:Int)(u:Bool):aa Zl 6 #[.agg #[i6 r,i6 s,i6 b,i6 m,i6 c,i6 way,i6 j,i6 mode,i6 D,i6 B,i6 C,i6 A,i6 d,i6 heavy,i6 i,.bool a],v,i6 x,.bool u] [.p (aK eSt v l)] [] N0 (λ_=> .bool true):=by
 cases h:iY r s b m c way j mode D B C A d heavy i
 ·cases w:iY r s b m c x j (IntKind.i64.wrap (3-mode)) D B C A d heavy i
  ·exact Yz r s b m c way j mode D B C A d heavy i a h x u w v l
  ·obtain⟨o,rfl,rfl,rfl,rfl,rfl,rfl,rfl,z,rfl,rfl,rfl,rfl,rfl,rfl,rfl,rfl,k⟩:=Aj u w;cases f:gz o
   ·exact YA o k way mode a h z f v l
   ·exact YB o k way mode a h z f v l
 ·obtain⟨q,rfl,rfl,rfl,rfl,rfl,rfl,rfl,rfl,rfl,rfl,rfl,rfl,rfl,rfl,rfl,rfl,n⟩:=Aj a h;cases w:iY q.R q.S q.B q.M q.C x q.res (IntKind.i64.wrap (3-(q.E:Int))) q.lr q.er q.lp q.ep q.I q.H q.log
  ·cases f:gz q
   ·exact YC q n x u w f v l
   ·exact YD q n x u w f v l
  ·obtain⟨o,P,Q,R,S,T,rfl,U,M,V,W,H,I,J,K,L,rfl,k⟩:=Aj u w;have O:IntKind.i64.wrap (3-(q.E:Int))=3-(q.E:Int):=IntWalk.i64_in _ (by rcases n.E with e | e<;>omega);have t:lP q o:=⟨by omega,by omega,by omega,by omega,by omega,by omega,by rw[←O];exact M,by omega,by omega,by omega,by omega,by omega,by omega,by omega⟩;cases f:gz q
   ·exact YE q o n k t f (t.sm.symm.trans f) v l
   ·by_cases G:l.length≤60
    ·have N:=YH q o n k t f (t.sm.symm.trans f) v l G g (HX (xi (GM.start n) (λy F=>absurd F Zn) g _ Om)) (HX (xi (GM.start k) (λy F=>absurd F Zn) g _ Om));rwa [YK n k t g G] at N
    ·exact YF q o n k t f (t.sm.symm.trans f) v l Om
end
end E
section
open Go.ChangeShapes Go.WideShapes
theorem WholeModes_any(r s b m c way g mode o j l i d heavy f:Int)(a:Bool)(A:Option Addr)(n k:Nat)(L:List E.St)(v:L.length=n)(u:n≤k)(hs: ∀s∈L,E.StOk s)(p:Int)(h:Bool)(w:World)(x:pn 75 w A (L.map E.eSt)):
  Calls Zl 6 #[.agg #[.int .i64 r,.int .i64 s,.int .i64 b,.int .i64 m,.int .i64 c,.int .i64 way,.int .i64 g,.int .i64 mode,.int .i64 o,.int .i64 j,.int .i64 l,.int .i64 i,.int .i64 d,.int .i64 heavy,.int .i64 f,.bool a],.slice A n k,.int .i64 p,.bool h] w
   λe w'=>e= .returned (.bool true)∧Below w.heap.size w w':=by
 obtain⟨bs,q,t⟩:=E.st_sq v u x;exact(E.modes_con r s b m c way g mode o j l i d heavy f a _ L (E.sts_ok hs) p h).belowQ w q t
end
end Go.Proofs.YtbcodenfkijdnaaGreat
