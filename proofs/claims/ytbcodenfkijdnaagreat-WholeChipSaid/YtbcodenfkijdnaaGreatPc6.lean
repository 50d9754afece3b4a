/- WholeChip, in 7 texts: part 6. For every input; no condition. -/
import Derived.Test.YtbcodenfkijdnaaGreatPc5
set_option linter.unusedVariables false
set_option linter.unusedSimpArgs false
set_option maxRecDepth 100000
namespace Go.Proofs.YtbcodenfkijdnaaGreat
open Go Go.RowKit Go.Shelf
open List renaming getD_eq_getElem?_getD→ZK,replicate→ZM,getElem?_eq_getElem→ZQ,mem_cons_self→ZR,mem_append_left→ZT,mem_append_right→ZW,not_mem_nil→ZX,range→ZZ,take_append_drop→Z1,length_append→Z2,getElem?_replicate→Z6,length_replicate→Z7,mem_cons_of_mem→Z8
open Nat renaming add_mul_mod_self_right→ZL,add_mul_div_right→ZN,add_comm→ZO,div_eq_of_lt→ZP,zero_add→ZS,mod_eq_of_lt→ZU,noConfusion→ZV,mul_le_mul_right→ZY,mod_lt→Z0,le_succ_of_le→Z3,not_lt_zero→Z4,add_mul→Z5,div_add_mod'→aaa,div_add_mod→aab
open Bool renaming and_eq_true→Z9
namespace E
section
structure ew (r:Rp):Prop where
 inj: ∀i k,i<r.m.R*r.m.B*r.m.M-r.m.res→k<r.m.R*r.m.B*r.m.M-r.m.res→r.m.N.getD i 0=r.m.N.getD k 0→i=k
 ld: ∀i,i<r.m.R*r.m.B*r.m.M-r.m.res→r.m.Q.getD (r.m.N.getD i 0) false=false
 lt: ∀i,i<r.m.R*r.m.B*r.m.M-r.m.res→r.m.N.getD i 0<r.m.R*r.m.B*r.m.M-r.m.res+r.m.P
 nt: ∀i,i<r.m.R*r.m.B*r.m.M-r.m.res→r.j.A=1→r.m.N.getD i 0≠r.j.tg
 al: ∀p,p<r.m.R*r.m.B*r.m.M-r.m.res+r.m.P→r.m.Q.getD p false=false→(r.j.A=1∧p=r.j.tg)∨∃i,i<r.m.R*r.m.B*r.m.M-r.m.res∧r.m.N.getD i 0=p
 si: ∀a b,a<r.m.R→b<r.m.R→dF r.m a=true→r.m.I.getD a 0=r.m.I.getD b 0→a=b
 sl: ∀a,a<r.m.R→r.m.I.getD a 0<((r.m.R+r.m.F:Nat):Int)
 st: ∀a,a<r.m.R→r.j.A=2→r.m.I.getD a 0≠(r.j.tg:Int)
theorem pS{m:Mp}{a:Nat}(h:dF m a=true):m.I.getD a 0≠ -1:=by unfold dF at h;simpa using h
theorem xf{R S B M C c p1 p2 p3 d f g h:Nat}(i:hP R S B M C)(hp:gR R S B M C c p1 p2 p3)(j:gR R S B M C d f g h)(e:bF c p1 p2 p3=bF d f g h):c=d∧p1=f∧p2=g∧p3=h:=by
 have a:=zI i hp;have b:=zI i j;rw[e] at a;exact⟨a.1.symm.trans b.1,a.2.1.symm.trans b.2.1,a.2.2.1.symm.trans b.2.2.1,a.2.2.2.symm.trans b.2.2.2⟩
theorem Yz{m:Mp}(h:ba m){p q:Nat}(hp:p<m.R*m.B*m.M)(d:q<m.R*m.B*m.M)(a:aE m.G m.R m.B m.M p=aE m.G m.R m.B m.M q)(b:dU m.G m.R m.B m.M p=dU m.G m.R m.B m.M q)(c:dT m.G m.R m.B m.M p=dT m.G m.R m.B m.M q):p=q:=by
 rw[←zL (way:=m.G) h.O hp,←zL (way:=m.G) h.O d,a,b,c]
theorem YA{m:Mp}(h:ba m)(i: ∀a b,a<m.R→b<m.R→dF m a=true→m.I.getD a 0=m.I.getD b 0→a=b){p q:Nat}(e:gI m p=gI m q):aE m.G m.R m.B m.M p=aE m.G m.R m.B m.M q:=by
 have f:=nE (p:=p) (way:=m.G) h.O;have g:=nE (p:=q) (way:=m.G) h.O;unfold gI at e;cases c:dF m (aE m.G m.R m.B m.M p)
 ·cases d:dF m (aE m.G m.R m.B m.M q)
  ·rw[c,d] at e;exact e
  ·rw[c,d,ALcf,ALct] at e;have:=(h.sp _ g).resolve_left (pS d);omega
 ·cases d:dF m (aE m.G m.R m.B m.M q)
  ·rw[c,d,ALcf,ALct] at e;have:=(h.sp _ f).resolve_left (pS c);omega
  ·rw[c,d,ALct,ALct] at e;have j:=(h.sp _ f).resolve_left (pS c);have k:=(h.sp _ g).resolve_left (pS d);exact i _ _ f g c Om
theorem Bc{C n k:Nat}(h:n/C=k/C)(g:n%C=k%C):n=k:=by rw[←aab n C,←aab k C,h,g]
theorem rn{m:Mp}(h:ba m)(t: ∀a b,a<m.R→b<m.R→dF m a=true→m.I.getD a 0=m.I.getD b 0→a=b){p q i k:Nat}(hp:p<m.R*m.B*m.M)(f:q<m.R*m.B*m.M)(o:i<m.C)(s:k<m.C)(e:bu m p*64+i=bu m q*64+k):p=q∧i=k:=by
 rw[AH,AH] at e;have c:=qy h hp;have d:=qy h f;obtain⟨g,j,l,n⟩:=xf h.O.bd ⟨c.h0,c.h1,c.h2,o⟩ ⟨d.h0,d.h1,d.h2,s⟩ e;exact⟨Yz h hp f (YA h t g) j l,n⟩
def ky(m:Mp)(j:Jb)(n:Nat):Bool:=if j.A=1 then decide (ao m n=j.fr) else decide (aE m.G m.R m.B m.M (ao m n)=j.fr)
def gB(m:Mp)(j:Jb)(n:Nat):Nat:=if j.A=1 then n%m.C else fe m n
theorem Ie{m:Mp}(h:ba m){n:Nat}(g:n<(m.R*m.B*m.M-m.res)*m.C)(t:Nat):iE m t (fe m n)=bF t (dU m.G m.R m.B m.M (ao m n)) (dT m.G m.R m.B m.M (ao m n)) (n%m.C):=by
 have a:=qC h g;have f:=Z0 n h.O.bd.c1;have b:fe m n/m.C=dU m.G m.R m.B m.M (ao m n)*m.M+dT m.G m.R m.B m.M (ao m n):=by unfold fe;rw[ZO,ZN _ _ h.O.bd.c1,ZP f,ZS]
 have c:fe m n%m.C=n%m.C:=by unfold fe;rw[ZO,ZL,Nat.mod_mod]
 have d:(dU m.G m.R m.B m.M (ao m n)*m.M+dT m.G m.R m.B m.M (ao m n))/m.M=dU m.G m.R m.B m.M (ao m n):=by rw[ZO,ZN _ _ h.O.bd.m1,ZP a.h2,ZS]
 have e:(dU m.G m.R m.B m.M (ao m n)*m.M+dT m.G m.R m.B m.M (ao m n))%m.M=dT m.G m.R m.B m.M (ao m n):=by rw[ZO,ZL,ZU a.h2]
 unfold iE;rw[b,c,d,e]
theorem xg{m:Mp}(h:ba m){r t i k:Nat}(j:r<m.R+m.S)(ht:t<m.R+m.S)(f:i<m.B*m.M*m.C)(g:k<m.B*m.M*m.C)(e:iE m r i=iE m t k):r=t∧i=k:=by
 obtain⟨a,b,c,d⟩:=xf h.O.bd (nH h j f) (nH h ht g) e;exact⟨a,Bc (C:=m.C) (Bc (C:=m.M) b c) d⟩
section
variable {r:Rp}
theorem ub(h:aO r){n:Nat}(a:n<(r.m.R*r.m.B*r.m.M-r.m.res)*r.m.C):n/r.m.C<r.m.R*r.m.B*r.m.M-r.m.res:=zO h.m a
theorem YB(a:ew r)(h:aO r){n k:Nat}(c:n<(r.m.R*r.m.B*r.m.M-r.m.res)*r.m.C)(b:k<(r.m.R*r.m.B*r.m.M-r.m.res)*r.m.C)(e:ao r.m n=ao r.m k)(g:n%r.m.C=k%r.m.C):n=k:=Bc (a.inj _ _ (ub h c) (ub h b) e) g
theorem rq(a:ew r)(h:aO r){n k:Nat}(d:n<(r.m.R*r.m.B*r.m.M-r.m.res)*r.m.C)(c:k<(r.m.R*r.m.B*r.m.M-r.m.res)*r.m.C)(e:cR r.m n=cR r.m k):n=k:=by
 have b:=h.m.O.bd.c1;obtain⟨f,g⟩:=rn h.m a.si (nG h.m d) (nG h.m c) (Z0 _ b) (Z0 _ b) e;exact YB a h d c f g
theorem nT(h:aO r)(a:r.j.A≠0)(n:Nat):aH r.m r.j n=if ky r.m r.j n=true then(if gB r.m r.j n<r.j.nx then aU r.m r.j.A r.j.tg (gB r.m r.j n) else cR r.m n) else cR r.m n:=by
 unfold aH ky gB;rcases tq h a with e | e
 ·rw[e];simp only[if_true,decide_eq_true_eq]
 ·rw[e];simp only[show ¬(2:Nat)=1 by decide,if_false,decide_eq_true_eq]
theorem pT(h:aO r)(a:r.j.A≠0){n:Nat}(b:n<(r.m.R*r.m.B*r.m.M-r.m.res)*r.m.C):gB r.m r.j n<eJ r.j.A r.m.B r.m.M r.m.C:=by
 unfold gB;rcases tq h a with e | e
 ·rw[e,ALifp rfl];exact Z0 _ h.m.O.bd.c1
 ·rw[e,ALifn Dc];exact tn h.m b
theorem YC{m:Mp}{p a:Nat}(e:aE m.G m.R m.B m.M p=a)(h:dF m a=false):gI m p=a:=by unfold gI;rw[e,h,ALcf]
theorem uc(h:aO r)(b:r.j.A≠0){n:Nat}(d:n<(r.m.R*r.m.B*r.m.M-r.m.res)*r.m.C)(a:ky r.m r.j n=true):cR r.m n=aU r.m r.j.A r.j.fr (gB r.m r.j n):=by
 unfold ky at a;unfold gB;rcases h.j.k with e | ⟨e,c⟩ | ⟨e,c⟩
 ·rw[e] at b;exact absurd rfl b
 ·rw[e,ALifp rfl] at a;rw[e,ALifp rfl];have a:=of_decide_eq_true a;unfold cR;rw[a];rfl
 ·rw[e,ALifn Dc] at a;rw[e,ALifn Dc];have a:=of_decide_eq_true a;show _=iE r.m r.j.fr (fe r.m n);rw[Ie h.m d,pz,YC a c.hs]
theorem Bd(t:ew r)(h:aO r)(g:r.j.A≠0){n i:Nat}(d:n<(r.m.R*r.m.B*r.m.M-r.m.res)*r.m.C)(b:i<eJ r.j.A r.m.B r.m.M r.m.C)(a:cR r.m n=aU r.m r.j.A r.j.fr i):ky r.m r.j n=true∧gB r.m r.j n=i:=by
 have u:=h.m.O.bd.c1;rcases h.j.k with e | ⟨e,k⟩ | ⟨e,k⟩
 ·rw[e] at g;exact absurd rfl g
 ·unfold ky gB;rw[e] at a b;rw[e,ALifp rfl,ALifp rfl];obtain⟨q,s⟩:=rn h.m t.si (nG h.m d) k.hf (Z0 _ u) b a;exact⟨cd q,s⟩
 ·have f:=uc h g d (r:=r);unfold ky gB at f⊢;rw[e] at a b f;rw[ALifn Dc] at f;rw[e,ALifn Dc,ALifn Dc];have v:=qC h.m d;have x:=k.hf;have w:=nH h.m (r:=r.j.fr) (i:=i) Om b;have j:bF _ _ _ _=bF _ _ _ _:=(pz r.m n).symm.trans a;obtain⟨c,_,_,_⟩:=xf h.m.O.bd v w j;have o:aE r.m.G r.m.R r.m.B r.m.M (ao r.m n)=r.j.fr:=by
   unfold gI at c;cases l:dF r.m (aE r.m.G r.m.R r.m.B r.m.M (ao r.m n))
   ·rw[l] at c;exact c
   ·rw[l,ALct] at c;have:=(h.m.sp _ (nE (p:=ao r.m n) (way:=r.m.G) h.m.O)).resolve_left (pS l);omega
  refine⟨cd o,?_⟩;have m:=f (cd o);rw[ALifn Dc] at m;exact(xg h.m Om Om (tn h.m d) b (m.symm.trans a)).2
theorem ru(f:ew r)(h:aO r)(l:r.j.A≠0){n i:Nat}(j:n<(r.m.R*r.m.B*r.m.M-r.m.res)*r.m.C)(b:i<eJ r.j.A r.m.B r.m.M r.m.C):aU r.m r.j.A r.j.tg i≠cR r.m n:=by
 have q:=h.m.O.bd.c1;intro a;rcases h.j.k with e | ⟨e,c⟩ | ⟨e,c⟩
 ·rw[e] at l;exact absurd rfl l
 ·rw[e] at a b;obtain⟨o,t⟩:=rn h.m f.si c.ht (nG h.m j) b (Z0 _ q) a;exact f.nt _ (ub h j) e o.symm
 ·rw[e] at a b;have v:=c.t1;have w:=h.m.rk;have u:=c.t0;have s:=nH h.m (r:=r.j.tg) (i:=i) Om b;have g:bF _ _ _ _=bF _ _ _ _:=a.trans (pz r.m n);obtain⟨d,_,_,_⟩:=xf h.m.O.bd s (qC h.m j) g;have m:=nE (p:=ao r.m n) (way:=r.m.G) h.m.O;unfold gI at d;cases k:dF r.m (aE r.m.G r.m.R r.m.B r.m.M (ao r.m n))
  ·rw[k,ALcf] at d;omega
  ·rw[k,ALct] at d;have:=(h.m.sp _ m).resolve_left (pS k);exact f.st _ m e Om
theorem Ig(g:ew r)(h:aO r)(f:r.j.A≠0){i k:Nat}(b:i<eJ r.j.A r.m.B r.m.M r.m.C)(d:k<eJ r.j.A r.m.B r.m.M r.m.C)(a:aU r.m r.j.A r.j.tg i=aU r.m r.j.A r.j.tg k):i=k:=by
 rcases h.j.k with e | ⟨e,c⟩ | ⟨e,c⟩
 ·rw[e] at f;exact absurd rfl f
 ·rw[e] at a b d;exact(rn h.m g.si c.ht c.ht b d a).2
 ·rw[e] at a b d;have j:=c.t1;have l:=h.m.rk;exact(xg h.m Om Om b d a).2
theorem YD(b:ew r)(h:aO r){n k:Nat}(d:n<(r.m.R*r.m.B*r.m.M-r.m.res)*r.m.C)(c:k<(r.m.R*r.m.B*r.m.M-r.m.res)*r.m.C)(e:aH r.m r.j n=aH r.m r.j k):n=k:=by
 by_cases a:r.j.A=0
 ·unfold aH at e;rw[a] at e;exact rq b h d c e
 rw[nT h a,nT h a] at e;have g:=pT h a d;have f:=pT h a c
 split at e
 ·rename_i on
  split at e
  ·split at e
   ·rename_i i
    split at e
    ·have:=Ig b h a g f e;refine rq b h d c ?_;rw[uc h a d on,uc h a c i,this]
    ·exact absurd e (ru b h a c g)
   ·exact absurd e (ru b h a c g)
  ·split at e
   ·split at e
    ·exact absurd e.symm (ru b h a d f)
    ·exact rq b h d c e
   ·exact rq b h d c e
 ·split at e
  ·split at e
   ·exact absurd e.symm (ru b h a d f)
   ·exact rq b h d c e
  ·exact rq b h d c e
theorem Ih(b:ew r)(h:aO r)(a:r.j.A≠0)(d:r.j.nx<eJ r.j.A r.m.B r.m.M r.m.C){n:Nat}(c:n<(r.m.R*r.m.B*r.m.M-r.m.res)*r.m.C):aH r.m r.j n≠aU r.m r.j.A r.j.tg r.j.nx:=by
 intro e;have f:=pT h a c;rw[nT h a] at e
 split at e
 ·split at e
  ·have:=Ig b h a f d e;omega
  ·exact ru b h a c d e.symm
 ·exact ru b h a c d e.symm
theorem YE(m:ew r)(h:aO r)(a:r.j.A≠0)(b:r.j.nx<eJ r.j.A r.m.B r.m.M r.m.C){n:Nat}(g:n<(r.m.R*r.m.B*r.m.M-r.m.res)*r.m.C):aH r.m (br r).j n=if aH r.m r.j n=aU r.m r.j.A r.j.fr r.j.nx then aU r.m r.j.A r.j.tg r.j.nx else aH r.m r.j n:=by
 have i:=pT h a g;have p:aH r.m (br r).j n=if ky r.m r.j n=true then(if gB r.m r.j n<r.j.nx+1 then aU r.m r.j.A r.j.tg (gB r.m r.j n) else cR r.m n) else cR r.m n:=nT (r:=br r) (qG h a b) a n
 rw[p,nT h a];by_cases c:ky r.m r.j n=true
 ·rw[ALifp c,ALifp c];have q:=uc h a g c;by_cases o:gB r.m r.j n<r.j.nx
  ·rw[ALifp (show gB r.m r.j n<r.j.nx+1 by omega),ALifp o,ALifn];intro e;obtain⟨v,_,s⟩: ∃k,k<(r.m.R*r.m.B*r.m.M-r.m.res)*r.m.C∧True:=⟨n,g,trivial⟩;rcases h.j.k with d | ⟨d,f⟩ | ⟨d,f⟩
   ·rw[d] at a;exact absurd rfl a
   ·rw[d] at e b i;have:=(rn h.m m.si f.ht f.hf i b e).2;omega
   ·rw[d] at e b i;have t:=f.t1;have l:=h.m.rk;have u:=f.hf;have:=(xg h.m Om Om i b e).2;omega
  ·rw[ALifn o];by_cases l:gB r.m r.j n=r.j.nx
   ·rw[ALifp (show gB r.m r.j n<r.j.nx+1 by omega),ALifp (by rw[q,l]),l]
   ·rw[ALifn (show ¬gB r.m r.j n<r.j.nx+1 by omega),ALifn];intro e;exact l (Bd m h a g b e).2
 ·rw[ALifn c,ALifn c,ALifn];intro e;exact c (Bd m h a g b e).1
end
end
section
section
variable {r:Rp}
structure fK (r r':Rp):Prop where
 i:ew r'
 e: ∀n,n<(r.m.R*r.m.B*r.m.M-r.m.res)*r.m.C→aH r'.m r'.j n=aH r.m r.j n
theorem fK.rfl'(h:ew r):fK r r:=⟨h,λ_ _=>rfl⟩
theorem fK.tr{a b c:Rp}(h:fK a b)(g:fK b c)(l:eM a.m b.m):fK a c:=⟨g.i,λn d=>(g.e n (by rw[l.R,l.B,l.M,l.C,l.res];exact d)).trans (h.e n d)⟩
theorem Ii(b:ew r)(k:r.j.A=0)(a:Ak):fK r (dg r a):=by
 have j: ∀n,aH r.m r.j n=cR r.m n:=λn=>by unfold aH;simp only[k]
 have d: ∀p,p<r.m.R*r.m.B*r.m.M-r.m.res+r.m.P→r.m.Q.getD p false=false→∃i,i<r.m.R*r.m.B*r.m.M-r.m.res∧r.m.N.getD i 0=p:=λp hp f=>(b.al p hp f).resolve_left λq=>by rw[k] at q;exact absurd q.1 Dc
 unfold dg;cases a.k==1
 ·rw[ALcf];cases hp:dY r.m
  ·exact fK.rfl' b
  ·rw[ALct];have c:r.m.F≠r.m.S:=by unfold dY at hp;simpa using hp
   have l:fo r.m=r.m.R+r.m.F:=by unfold fo;rw[ALifn c]
   refine⟨⟨b.inj,b.ld,b.lt,λ_ _ e=>absurd e (show ¬(2:Nat)=1 by decide),λp hp f=> .inr (d p hp f),b.si,λa g=>?_,λa g _=>?_⟩,λn _=>?_⟩
   ·have:=b.sl a g;show r.m.I.getD a 0<((r.m.R+(r.m.F+1):Nat):Int);omega
   ·have:=b.sl a g;show r.m.I.getD a 0≠((fo r.m:Nat):Int);omega
   ·rw[j];show(if aE r.m.G r.m.R r.m.B r.m.M (ao r.m n)=a.w then(if fe r.m n<0 then _ else cR r.m n) else cR r.m n)=_;rw[ALifn (Z4 _),ite_self]
 ·rw[ALct];cases hp:dz r.m
  ·exact fK.rfl' b
  ·rw[ALct];have c:r.m.P≠r.m.res:=by unfold dz at hp;simpa using hp
   have l:dG r.m=r.m.R*r.m.B*r.m.M-r.m.res+r.m.P:=by unfold dG;rw[ALifn c]
   refine⟨⟨b.inj,b.ld,λi h=>Nat.lt_succ_of_lt (b.lt i h),λi h _=>?_,λp hp f=>?_,b.si,b.sl,λ_ _ e=>absurd e (show ¬(1:Nat)=2 by decide)⟩,λn _=>?_⟩
   ·have:=b.lt i h;show r.m.N.getD i 0≠dG r.m;omega
   ·have hp:p<r.m.R*r.m.B*r.m.M-r.m.res+(r.m.P+1):=hp;by_cases e:p=dG r.m
    ·exact .inl ⟨rfl,e⟩
    ·exact .inr (d p Om f)
   ·rw[j];show(if ao r.m n=a.w then(if n%r.m.C<0 then _ else cR r.m n) else cR r.m n)=_;rw[ALifn (Z4 _),ite_self]
theorem Ik(b:ew r)(a:Ak):fK r (bo r a):=by
 unfold bo;cases dc r a
 ·cases c:r.j.A==0
  ·exact⟨⟨b.inj,b.ld,b.lt,b.nt,b.al,b.si,b.sl,b.st⟩,λ_ _=>rfl⟩
  ·exact Ii b (by simpa using c) a
 ·exact fK.rfl' b
theorem Il(a:ew r):ew (aZ r):=⟨a.inj,a.ld,a.lt,a.nt,a.al,a.si,a.sl,a.st⟩
theorem YF{s:Rp×List Ev}(a:ew s.1)(b:s.1.j.A=0):fK s.1 (gJ s).1:=by
 unfold gJ;cases dc (aZ s.1) (s.1.q.headD aJ)
 ·have:=Ii (r:=aZ s.1) (Il a) b (s.1.q.headD aJ);exact⟨this.i,this.e⟩
 ·exact⟨Il a,λ_ _=>rfl⟩
theorem Im: ∀(n:Nat) (s:Rp×List Ev),ew s.1→fK s.1 (e3 n s).1
 | 0,s,h=>fK.rfl' h
 | n+1,s,h=>by
  unfold e3
  split
  ·rename_i b;have a:=YF h b;exact a.tr (Im n (gJ s) a.i) (Ap s)
  ·exact fK.rfl' h
theorem YG{l:List Nat}{h t i:Nat}(a:i<l.length):(dB l h t l.length).getD i 0=if l.getD i 0=h then t else l.getD i 0:=by
 rw[Q5,ZK,List.getElem?_map,ZQ a,ZK,ZQ a];rfl
theorem Be{α:Type}{l:List α}{i:Nat}{x d:α}(h:i<l.length):(l.set i x).getD i d=x:=by rw[ZK,List.getElem?_set,ALifp rfl,ALifp h];rfl
theorem YH(d:ew r)(h:aO r)(v:r.j.A≠0)(I:r.j.nx=eJ r.j.A r.m.B r.m.M r.m.C):fK r (gS r):=by
 rcases h.j.k with e | ⟨e,f⟩ | ⟨e,f⟩
 ·rw[e] at v;exact absurd rfl v
 ·have F:gS r={r with m:=kr r.m r.j.fr r.j.tg,j:=kt}:=by unfold gS;rw[e];rfl
  rw[F];have H:r.m.N.length=r.m.R*r.m.B*r.m.M-r.m.res:=h.m.ll;have u: ∀i,i<r.m.R*r.m.B*r.m.M-r.m.res→(kr r.m r.j.fr r.j.tg).N.getD i 0=if r.m.N.getD i 0=r.j.fr then r.j.tg else r.m.N.getD i 0:=λi c=>YG Om
  refine⟨⟨λi k c w g=>?_,λi c=>?_,λi c=>?_,λ_ _ q=>ZV (show(0:Nat)=_ from q),λp hp s=> .inr ?_,d.si,d.sl,λ_ _ q=>ZV (show(0:Nat)=_ from q)⟩,λn A=>?_⟩
  ·have g:(kr r.m r.j.fr r.j.tg).N.getD i 0=(kr r.m r.j.fr r.j.tg).N.getD k 0:=g;have c:i<r.m.R*r.m.B*r.m.M-r.m.res:=c;have w:k<r.m.R*r.m.B*r.m.M-r.m.res:=w;rw[u i c,u k w] at g
   split at g
   ·rename_i t
    split at g
    ·rename_i D;exact d.inj i k c w (t.trans D.symm)
    ·exact absurd g.symm (d.nt k w e)
   ·split at g
    ·exact absurd g (d.nt i c e)
    ·exact d.inj i k c w g
  ·have c:i<r.m.R*r.m.B*r.m.M-r.m.res:=c;show(r.m.Q.set r.j.fr true).getD ((kr r.m r.j.fr r.j.tg).N.getD i 0) false=false;rw[u i c]
   split
   ·rw[getD_set_ne f.ne];exact f.dt
   ·rename_i t;rw[getD_set_ne (λq=>t q.symm)];exact d.ld i c
  ·have c:i<r.m.R*r.m.B*r.m.M-r.m.res:=c;show(kr r.m r.j.fr r.j.tg).N.getD i 0<_;rw[u i c]
   split
   ·exact f.t1
   ·exact d.lt i c
  ·have hp:p<r.m.R*r.m.B*r.m.M-r.m.res+r.m.P:=hp;have s:(r.m.Q.set r.j.fr true).getD p false=false:=s;have B:p≠r.j.fr:=by
    intro q;rw[q,Be (by rw[h.m.ld];exact f.hf)] at s;cases s
   rw[getD_set_ne (λq=>B q.symm)] at s;show ∃i,i<r.m.R*r.m.B*r.m.M-r.m.res∧(kr r.m r.j.fr r.j.tg).N.getD i 0=p;rcases d.al p hp s with⟨_,q⟩ | ⟨i,c,q⟩
   ·rcases d.al r.j.fr f.f1 f.df with⟨_,G⟩ | ⟨i,c,G⟩
    ·exact absurd G f.ne
    ·exact⟨i,c,by rw[u i c,ALifp G,q]⟩
   ·exact⟨i,c,by rw[u i c,ALifn (by rw[q];exact B),q]⟩
  ·have x:=pT h v A;rw[nT h v];show cR (kr r.m r.j.fr r.j.tg) n=_;have K:ao (kr r.m r.j.fr r.j.tg) n=if ao r.m n=r.j.fr then r.j.tg else ao r.m n:=u _ (ub h A)
   unfold ky gB at*;rw[e,ALifp rfl] at x;rw[e,ALifp rfl,ALifp rfl,I,e,ALifp x];unfold cR;rw[K];by_cases q:ao r.m n=r.j.fr
   ·rw[ALifp q,ALifp (cd q)];rfl
   ·rw[ALifn q,ALifn (by simpa using q)];rfl
 ·have F:gS r={r with m:=ju r.m r.j.fr r.j.tg,j:=kt}:=by unfold gS;rw[e];rfl
  rw[F];have H:r.m.I.length=r.m.R:=h.m.ls;have y: ∀a,(ju r.m r.j.fr r.j.tg).I.getD a 0=if a=r.j.fr then(r.j.tg:Int) else r.m.I.getD a 0:=λa=>by
   show(r.m.I.set r.j.fr (r.j.tg:Int)).getD a 0=_;by_cases q:a=r.j.fr
   ·rw[ALifp q,q,Be (by rw[H];exact f.hf)]
   ·rw[ALifn q,getD_set_ne (λz=>q z.symm)]
  have L:=f.t0;have M:=f.t1;refine⟨⟨d.inj,d.ld,d.lt,λ_ _ q=>ZV (show(0:Nat)=_ from q),λp hp s=> .inr ((d.al p hp s).resolve_left λq=>by rw[e] at q;exact absurd q.1 Dc),λa b o l C g=>?_,λa o=>?_,λ_ _ q=>ZV (show(0:Nat)=_ from q)⟩,λn A=>?_⟩
  ·have o:a<r.m.R:=o;have l:b<r.m.R:=l;have g:(ju r.m r.j.fr r.j.tg).I.getD a 0=(ju r.m r.j.fr r.j.tg).I.getD b 0:=g;rw[y a,y b] at g
   split at g
   ·rename_i t
    split at g
    ·rename_i D;rw[t,D]
    ·exact absurd g.symm (d.st b l e)
   ·rename_i t
    split at g
    ·exact absurd g (d.st a o e)
    ·refine d.si a b o l ?_ g;have C:(!((ju r.m r.j.fr r.j.tg).I.getD a 0== -1))=true:=C;rw[y a,ALifn t] at C;exact C
  ·have o:a<r.m.R:=o;show(ju r.m r.j.fr r.j.tg).I.getD a 0<((r.m.R+r.m.F:Nat):Int);rw[y a]
   split
   ·omega
   ·exact d.sl a o
  ·have x:=pT h v A;rw[nT h v];show cR (ju r.m r.j.fr r.j.tg) n=_;have J:gI (ju r.m r.j.fr r.j.tg) (ao r.m n)=if aE r.m.G r.m.R r.m.B r.m.M (ao r.m n)=r.j.fr then r.j.tg else gI r.m (ao r.m n):=by
    show(bif (!((ju r.m r.j.fr r.j.tg).I.getD (aE r.m.G r.m.R r.m.B r.m.M (ao r.m n)) 0== -1)) then((ju r.m r.j.fr r.j.tg).I.getD (aE r.m.G r.m.R r.m.B r.m.M (ao r.m n)) 0).toNat else aE r.m.G r.m.R r.m.B r.m.M (ao r.m n))=_;rw[y]
    split
    ·rw[show(((r.j.tg:Nat):Int)== -1)=false by rw[dj];omega];rfl
    ·rfl
   unfold ky gB at*;rw[e,ALifn (show ¬(2:Nat)=1 by decide)] at x;rw[e,ALifn (show ¬(2:Nat)=1 by decide),ALifn (show ¬(2:Nat)=1 by decide),I,e,ALifp x];rw[pz];show bF (gI (ju r.m r.j.fr r.j.tg) (ao r.m n)) (dU r.m.G r.m.R r.m.B r.m.M (ao r.m n)) (dT r.m.G r.m.R r.m.B r.m.M (ao r.m n)) (n%r.m.C)=_;rw[J];by_cases q:aE r.m.G r.m.R r.m.B r.m.M (ao r.m n)=r.j.fr
   ·rw[ALifp q,ALifp (cd q)];exact(Ie h.m A _).symm
   ·rw[ALifn q,ALifn (by simpa using q),pz]
theorem Io(a:ew r):ew (br r):=⟨a.inj,a.ld,a.lt,a.nt,a.al,a.si,a.sl,a.st⟩
theorem Ip(c:ew r)(h:aO r)(d:r.j.A≠0)(f:r.j.nx<eJ r.j.A r.m.B r.m.M r.m.C):fK (br r) (eR r).1:=by
 have e:=qG h d f;unfold eR;cases a:kQ r.m (br r).j
 ·exact fK.rfl' (Io c)
 ·unfold kQ at a;rw[Z9] at a;have b:=YH (Io c) e d (of_decide_eq_true a.2);exact b.tr (Im _ (ae (br r)) b.i) (Ao (br r))
theorem YI(a:ew r)(h:aO r)(b:r.j.A≠0)(d:r.j.nx<eJ r.j.A r.m.B r.m.M r.m.C){n:Nat}(c:n<(r.m.R*r.m.B*r.m.M-r.m.res)*r.m.C):aH (eR r).1.m (eR r).1.j n=if aH r.m r.j n=aU r.m r.j.A r.j.fr r.j.nx then aU r.m r.j.A r.j.tg r.j.nx else aH r.m r.j n:=
 ((Ip a h b d).e n c).trans (YE a h b d c)
end
theorem YJ{s:Le}(c:ew s.r)(b a w:Nat)(x:Re):fK s.r (gu s b a w x).r:=by
 unfold gu;cases cY s.k.lp (dh s.k.t a).l w
 ·exact fK.rfl' c
 ·exact Ik (r:=s.r) c _
theorem Iq{s:Le}(d:ew s.r)(a b w:Nat)(x:Re):fK s.r (fh s a b w x).r:=by
 have c:=YJ d a b w x;unfold fh;cases cY s.k.lr (s.k.F.getD a bg).l w
 ·exact c
 ·exact c.tr (Ik (r:=(gu s a b w x).r) c.i _) (tz s a b w x)
theorem Ir{s:Le}(a:ew s.r)(heavy:Nat)(n:Nt):fK s.r (dA heavy s n).r:=by
 unfold dA
 split
 ·exact fK.rfl' a
 split
 ·exact Iq a _ _ _ _
 split
 ·exact fK.rfl' a
 ·exact Iq a _ _ _ _
theorem YK{R S B M C way c:Nat}(h:c<R*B*M):ew ⟨lF R S B M C way c,kt,[]⟩:=by
 have g: ∀i,i<R*B*M-c→(ZZ (R*B*M-c)).getD i 0=i:=λi d=>by rw[ZK,List.getElem?_range d];rfl
 have l: ∀a,a<R→(ZM R (-1:Int)).getD a 0= -1:=λa f=>by rw[ZK,Z6,ALifp f];rfl
 refine⟨λi k d m e=>?_,λi d=>?_,λi d=>?_,λ_ _ q=>ZV (show(0:Nat)=_ from q),λp hp o=> .inr ⟨p,hp,g p hp⟩,λa b f n j _=>?_,λa f=>?_,λ_ _ q=>ZV (show(0:Nat)=_ from q)⟩
 ·have e:(ZZ (R*B*M-c)).getD i 0=(ZZ (R*B*M-c)).getD k 0:=e;rwa [g i d,g k m] at e
 ·show(ZM (R*B*M) false).getD _ false=false;rw[ZK,Z6]
  split<;>rfl
 ·show(ZZ (R*B*M-c)).getD i 0<R*B*M-c+0;rw[g i d];exact d
 ·exact absurd (l a f) (pS j)
 ·show(ZM R (-1:Int)).getD a 0<((R+0:Nat):Int);rw[l a f];omega
end
section
theorem Iu(o:List UInt8)(j:Nat): ∀(is:List Nat) (l:List UInt8),j<l.length→(jy l o is).getD j 0=if j∈is then o.getD j 0 else l.getD j 0
 | [],_,_=>by rw[ALifn ZX];rfl
 | i::is,l,h=>by
  show(jy (l.set i (o.getD i 0)) o is).getD j 0=_;rw[Iu o j is _ (by rw[List.length_set];exact h)];by_cases a:j∈is
  ·rw[ALifp a,ALifp (Z8 _ a)]
  ·rw[ALifn a];by_cases b:i=j
   ·rw[b,Be h,ALifp ZR]
   ·rw[getD_set_ne b,ALifn λq=>(List.mem_cons.1 q).elim (λz=>b z.symm) a]
theorem YL{m:Nat}(h:pc m=64){i:Nat}(e:i<64):i∈bj m:=by
 have g:(bj m).length=64:=(IN 64 0 m).trans h;have f:(bj m).Nodup:=(IP 64 0 m).imp λh=>Nat.ne_of_lt h;refine Classical.byContradiction λd=>?_;have b:(bj m).length≤((ZZ 64).erase i).length:=PZ f λx a=>(List.mem_erase_of_ne (λq=>d (by rw[←q];exact a))).2 (List.mem_range.2 (by have:=(xm 64 0 m x a).2.1;omega));rw[List.length_erase_of_mem (List.mem_range.2 e),List.length_range] at b;omega
theorem YM{l o:List UInt8}{m:Nat}(h:pc m=64)(f:l.length=64)(g:o.length=64):gn l o m=o:=by
 have e:(gn l o m).length=64:=(wJ ..).trans f;refine List.ext_getElem (e.trans g.symm) λj a b=>?_;have:=Iu o j (bj m) l Om;rw[ALifp (YL h Om)] at this;have d:(gn l o m).getD j 0=o.getD j 0:=this;rwa [ZK,ZK,ZQ a,ZQ b] at d
structure Bf (a:Ac):Prop where
 s:mA a=false
 e:a.ex≤1
def rv(l:List Ac):Prop:=∀a∈l,Bf a
theorem YN{c:Cf}(d:c.E=1∨c.E=2){l r:List UInt8}(a:l.length=64)(b:r.length=72){i:Int}(h:cI (c.E:Int) r (eO c.E l i false)≤1):m5 c.E r i=l∧j6 c.E r i=cI (c.E:Int) r (eO c.E l i false):=by
 rw[Pg b (qS _ a _ _)] at h⊢;unfold m5 j6 nQ;rcases d with e | e
 ·rw[e] at h⊢;have:=PY a b h;refine⟨this.1,?_⟩;show(jK ((ZZ 8).map (dK r i))).toNat=cI 1 (bS 9 (eZ l i false) 8) r;rw[this.2.1];rfl
 ·rw[e] at h⊢;have:=Qn a b h;refine⟨this.1,?_⟩;show(jK ((ZZ 2).map (cK r i))).toNat=cI 2 (bS 36 (eH l i false) 2) r;rw[this.2.1];rfl
theorem Bg{k:Nat}(h:k≤1):bY k=0:=by
 unfold bY;rw[show(((k:Nat):Int)==3)=false by rw[dj];omega,show(((k:Nat):Int)==2)=false by rw[dj];omega];rfl
structure e6 (c:Cf) (x:Ct) (id:Int→List UInt8):Prop where
 rp:ew x.s.r
 gh: ∀n,n<b0 c→x.V.W ((au x n:Nat):Int)=eO c.E (id (n:Int)) ((au x n:Nat):Int) false
 mz: ∀n,n<b0 c→x.V.Z ((au x n:Nat):Int)=0
section
variable {c:Cf} {x:Ct} {K A:Nat} {id:Int→List UInt8}
theorem bf.ln(h:bf c x K A){n:Nat}(a:n<b0 c):n<(x.s.r.m.R*x.s.r.m.B*x.s.r.m.M-x.s.r.m.res)*x.s.r.m.C:=by rw[h.ly.R,h.ly.B,h.ly.M,h.ly.C,h.ly.res];exact a
theorem YO{a:Ac}(h:mA a=false):a.dr=false∧a.wt=a.ix:=by
 unfold mA at h;rw[Bool.or_eq_false_iff] at h;exact⟨h.1,by simpa using h.2⟩
theorem ry(h:bf c x K A)(g:e6 c x id){n:Nat}(j:n<b0 c)(i:(id (n:Int)).length=64)(b:Bf (m4 c x.V ((au x n:Nat):Int))):cu c x (au x n)=id (n:Int)∧bl c x (au x n)≤1:=by
 have d:=YO b.s;have e:aQ x.V.D ((au x n:Nat):Int)=((au x n:Nat):Int):=d.2;have f:((cI (c.E:Int) (bW c x.V.D ((au x n:Nat):Int)) (x.V.W (aQ x.V.D ((au x n:Nat):Int))):Nat):Int)≤1:=b.e;rw[e,g.gh n j] at f;have a:=YN h.cf.E i (mx h.D _) (show cI (c.E:Int) (bW c x.V.D ((au x n:Nat):Int)) (eO c.E (id (n:Int)) ((au x n:Nat):Int) false)≤1 by omega);exact⟨a.1,Nat.le_trans (Nat.le_of_eq a.2) Om⟩
theorem Bh(h:bf c x K A)(a:e6 c x id){n:Nat}(d:n<b0 c)(l:List UInt8):e6 c (mB c x (au x n) l false) (cq id (n:Int) l):=by
 refine⟨a.rp,λk b=>?_,λk b=>?_⟩;rotate_left
 ·show cq x.V.Z ((au x n:Nat):Int) 0 ((au x k:Nat):Int)=0;unfold cq
  split
  ·rfl
  ·exact a.mz k b
 show cq x.V.W ((au x n:Nat):Int) (eO c.E l ((au x n:Nat):Int) false) ((au x k:Nat):Int)=eO c.E (cq id (n:Int) l (k:Int)) ((au x k:Nat):Int) false;unfold cq;by_cases e:k=n
 ·rw[e,ALifp rfl,ALifp rfl]
 ·rw[ALifn (λq=>e (YD a.rp h.s.r (h.ln b) (h.ln d) (by unfold au at q;omega))),ALifn Om];exact a.gh k b
theorem e6.cg{a:Int→List UInt8}(b:e6 c x id)(h: ∀n:Nat,n<b0 c→id (n:Int)=a (n:Int)):e6 c x a:=⟨b.rp,λn d=>by rw[←h n d];exact b.gh n d,b.mz⟩
theorem e6.same(b:e6 c x id){y:Ct}(f:ew y.s.r)(h: ∀n,n<b0 c→au y n=au x n)(d:y.V.W=x.V.W)(e:y.V.Z=x.V.Z):e6 c y id:=⟨f,λn a=>by rw[h n a,d];exact b.gh n a,λn a=>by rw[h n a,e];exact b.mz n a⟩
theorem Bi(h:bf c x K A)(d:e6 c x id)(i a r:Nat):e6 c (bU c x i a r) id:=by
 have b:=Ir (s:=x.s) d.rp c.J (m6 c x i a r);exact d.same (y:=bU c x i a r) b.i (λn e=>b.e n (h.ln e)) rfl rfl
theorem Iv(h:bf c x K A)(b:e6 c x id)(i a r:Nat){n:Nat}(d:n<b0 c):au (bU c x i a r) n=au x n:=(Ir (s:=x.s) b.rp c.J (m6 c x i a r)).e n (h.ln d)
theorem YP{n:Nat}{l:List UInt8}(h:l=id (n:Int))(k:Nat):cq id (n:Int) l (k:Int)=id (k:Int):=by
 unfold cq
 split
 ·rename_i e;rw[h,e]
 ·rfl
theorem Bj{y:Ct}(a:e6 c y id):e6 c (kT x y) id:=⟨a.rp,a.gh,a.mz⟩
theorem Iw(h:bf c x K A)(d:e6 c x id){n:Nat}(a:n<b0 c)(j:(id (n:Int)).length=64)(g:K+3≤1000000000)(b:Bool)(i:Bf (m4 c x.V ((au x n:Nat):Int))):e6 c (cy c x n b) id:=by
 have f:=qU h a g;have e:=Bi h d (au x n) (jI x n) (jJ x n);have l:=ry h d a j i;unfold cy;refine Bj ?_;cases (((bl c x (au x n):Nat):Int)==1)&&b
 ·exact e
 ·rw[ALct,l.1,←Iv h d (au x n) (jI x n) (jJ x n) a];exact(Bh f e a (id (n:Int))).cg λk m=>YP rfl k
theorem Iy(n:Nat)(b:Bool):m4 c x.V ((au x n:Nat):Int)∈(cy c x n b).V.l:=by
 have a:m4 c x.V ((au x n:Nat):Int)∈(ie c x n).V.l:=ZW _ ZR;unfold cy;cases (((bl c x (au x n):Nat):Int)==1)&&b
 ·exact a
 ·exact ZT _ a
theorem YQ(h:bf c x K A)(d:e6 c x id){n:Nat}(b:n<b0 c)(i:(id (n:Int)).length=64)(p:K+3≤1000000000){l:List UInt8}(e:l.length=64){m:Nat}(q:m≠0)(a:rv (bA c x n l m).V.l):e6 c (bA c x n l m) (cq id (n:Int) (gn (id (n:Int)) l m))∧cC c x n m=0:=by
 have f:((m:Int)==0)=false:=by rw[dj];omega
 unfold bA at a⊢;unfold cC;rw[f,ALcf] at a⊢;rw[ALcf];cases hp:decide (pc m=64)
 ·rw[hp,ALcf] at a;rw[ALcf,ALcf];have j:cu c x (au x n)=id (n:Int)∧bl c x (au x n)≤1:=by
   refine ry h d b i ?_;have g:m4 c x.V ((au x n:Nat):Int)∈(ie c x n).V.l:=ZW _ ZR;cases hv: !(bY (bl c x (au x n))==0)
   ·rw[hv] at a;exact a _ (ZT _ g)
   ·rw[hv] at a;exact a _ (ZT _ g)
  have k:=qU h b p;have o:=Bi h d (au x n) (jI x n) (jJ x n);rw[Bg j.2,j.1];refine⟨Bj ?_,rfl⟩;show e6 c (mB c (ie c x n) (au x n) (gn (id (n:Int)) l m) false) _;rw[←Iv h d (au x n) (jI x n) (jJ x n) b];exact Bh k o b _
 ·rw[YM (of_decide_eq_true hp) i e];exact⟨Bj (Bh h d b l),rfl⟩
theorem YR{r:Rp}(m:ew r)(h:aO r)(d:r.j.A≠0)(i:r.j.nx<eJ r.j.A r.m.B r.m.M r.m.C){n:Nat}(l:n<(r.m.R*r.m.B*r.m.M-r.m.res)*r.m.C)(a:aH r.m r.j n=aU r.m r.j.A r.j.fr r.j.nx):cb r=ao r.m n:=by
 have j:=pT h d l;have u:cR r.m n=aU r.m r.j.A r.j.fr r.j.nx:=by
  rw[nT h d] at a
  split at a
  ·split at a
   ·rename_i t;rcases h.j.k with f | ⟨f,g⟩ | ⟨f,g⟩
    ·rw[f] at d;exact absurd rfl d
    ·rw[f] at a i j;have:=(rn h.m m.si g.ht g.hf j i a).2;omega
    ·rw[f] at a i j;have v:=g.t1;have k:=h.m.rk;have w:=g.hf;have:=(xg h.m Om Om j i a).2;omega
   ·exact a
  ·exact a
 obtain⟨b,k⟩:=Bd m h d l i u;unfold cb;unfold ky at b;unfold gB at k;rcases tq h d with e | e
 ·rw[ALifp e] at b⊢;exact(of_decide_eq_true b).symm
 ·have p: ¬r.j.A=1:=by omega
  rw[ALifn p] at b k⊢;have b:=of_decide_eq_true b;have o:=qC h.m l;have s:=Z0 n h.m.O.bd.c1;have q:fe r.m n/r.m.C=dU r.m.G r.m.R r.m.B r.m.M (ao r.m n)*r.m.M+dT r.m.G r.m.R r.m.B r.m.M (ao r.m n):=by unfold fe;rw[ZO,ZN _ _ h.m.O.bd.c1,ZP s,ZS]
  rw[←k,q,ZO,ZN _ _ h.m.O.bd.m1,ZP o.h2,ZS,ZL,ZU o.h2,←b];exact zL h.m.O (nG h.m l)
theorem Iz(h:bf c x K A)(a:ew x.s.r)(d:x.s.r.j.A≠0){n:Nat}(e:n<b0 c)(i:au x n=j7 x):kU x=true:=by
 have f:=YR a h.s.r d (h.run d) (h.ln e) i;have b:=ub h.s.r (h.ln e);unfold kU;have g:ao x.s.r.m n<x.s.r.m.R*x.s.r.m.B*x.s.r.m.M-x.s.r.m.res+x.s.r.m.P:=a.lt _ b;rw[f,cd g];show(true&& !x.s.r.m.Q.getD (x.s.r.m.N.getD _ 0) false)=true;rw[a.ld _ b];rfl
theorem YS(h:bf c x K A)(f:e6 c x id)(j: ∀n:Nat,(id (n:Int)).length=64)(g:x.s.r.j.A≠0)(w:K+260≤1000000000)(q:rv (gM c x).V.l):e6 c (gM c x) id:=by
 have b:=Hp h g Om;have t:=h.run g;have u:ew (ft c x).s.r:=by
  unfold ft;cases kU x
  ·exact f.rp
  ·exact(Bi h f (j7 x) (cb x.s.r) (dx x.s.r)).rp
 have p: ∀n,n<b0 c→au (gM c x) n=if au x n=j7 x then oG x else au x n:=λn a=>by
  have l:=YI u b.1.s.r (by rw[b.2.1];exact g) (b.1.run (by rw[b.2.1];exact g)) (b.1.ln a);rw[b.2.1,b.2.2] at l;exact l
 have o:ew (gM c x).s.r:=(Ip u b.1.s.r (by rw[b.2.1];exact g) (b.1.run (by rw[b.2.1];exact g))).i;refine⟨o,λn a=>?_,λn a=>?_⟩
 all_goals rw[p n a]
 rotate_left
 ·show(ft c x).V.Z _=_;have l: ∀i:Int,i≠((oG x:Nat):Int)→(ft c x).V.Z i=x.V.Z i:=λi r=>by
   unfold ft;cases kU x
   ·exact ALifn r
   ·exact ALifn r
  by_cases e:au x n=j7 x
  ·rw[ALifp e];have k:=Iz h f.rp g a e;have m:cu c x (au x n)=id (n:Int)∧bl c x (au x n)≤1:=by
    refine ry h f a (j n) (q _ ?_);show _∈(ft c x).V.l;unfold ft;rw[k,e];exact ZT _ (ZW _ ZR)
   unfold ft;rw[k,ALct];rw[e] at m;rw[a8 (show ¬(2:Int)≤((bl c x (j7 x):Nat):Int) by omega)];exact ALifp rfl
  ·rw[ALifn e];have d:=Ih f.rp h.s.r g t (h.ln a);have d:au x n≠oG x:=d;rw[l _ Om];exact f.mz n a
 show(ft c x).V.W _=_;have d:=Ih f.rp h.s.r g t (h.ln a);have d:au x n≠oG x:=d;by_cases e:au x n=j7 x
 ·rw[ALifp e];have k:=Iz h f.rp g a e;have m:cu c x (au x n)=id (n:Int)∧bl c x (au x n)≤1:=by
   refine ry h f a (j n) (q _ ?_);show _∈(ft c x).V.l;unfold ft;rw[k,e];exact ZT _ (ZW _ ZR)
  unfold ft;rw[k,ALct];rw[e] at m;rw[m.1,a8 (show ¬(2:Int)≤((bl c x (j7 x):Nat):Int) by omega)];exact ALifp rfl
 ·rw[ALifn e];have v:(ft c x).V.W ((au x n:Nat):Int)=x.V.W ((au x n:Nat):Int):=by
   unfold ft;cases kU x
   ·exact ALifn Om
   ·exact ALifn Om
  rw[v];exact f.gh n a
end
end
structure pU (c:Cf) (x:Mc):Prop where
 ct:e6 c x.x x.id
 sv: ∀y∈x.sv,jL y=true
theorem IA{l:List Sv}{y:Sv}(h: ∀y∈l,jL y=true)(a:jL y=true): ∀z∈l++[y],jL z=true:=λz b=>(List.mem_append.1 b).elim (h z) λe=>by rw[List.mem_singleton.1 e];exact a
theorem YT{c:Cf}{x:Mc}{K A N:Nat}(h:dC c x K A N){s:St}(hs:StOk s)(o:K+3≤1000000000)(b:pU c x)(a:rv (gU c x s).x.V.l):pU c (gU c x s):=by
 have p:=hs.d;unfold gU at a⊢;by_cases j:bG s.ln ((b0 c:Nat):Int)=true
 ·rw[ALifp j] at a⊢;have l:s.ln.toNat<b0 c:=AT j;have k:=h.il ((s.ln.toNat:Nat):Int);by_cases g:s.k=1
  ·rw[ALifp g] at a⊢;have f:=a _ (Iy s.ln.toNat c.Y);have d:=ry h.ct b.ct l k f;refine⟨Iw h.ct b.ct l k o c.Y f,IA b.sv ?_⟩;unfold jL;show((bY (bl c x.x (au x.x s.ln.toNat))==0)&&((s.k != 1)||decide (cu c x.x (au x.x s.ln.toNat)=x.id ((s.ln.toNat:Nat):Int))))=true;rw[Bg d.2,cd d.1,Bool.or_true];rfl
  ·have q:(s.k != 1)=true:=by simpa using g
   have e: ∀m,m≠0→rv (qY c x s.ln.toNat m s).x.V.l→pU c (qY c x s.ln.toNat m s):=λm f a=>by
    have d:=YQ h.ct b.ct l k o p f a;refine⟨d.1,IA b.sv ?_⟩;unfold jL;show((cC c x.x s.ln.toNat m==0)&&((s.k != 1)||decide (ZM 64 0=x.id ((s.ln.toNat:Nat):Int))))=true;rw[d.2,q,Bool.true_or];rfl
   rw[ALifn g] at a⊢;by_cases n:s.k=2
   ·rw[ALifp n] at a⊢;exact e _ Dc a
   ·rw[ALifn n] at a⊢;by_cases i:s.m=0
    ·rw[ALifp i];exact⟨⟨b.ct.rp,b.ct.gh,b.ct.mz⟩,b.sv⟩
    ·rw[ALifn i] at a⊢;exact e _ i a
 ·rw[ALifn j];exact b
theorem YU{c:Cf}{x:Mc}{K A N:Nat}(h:dC c x K A N){s:St}(hs:StOk s)(m:K+260≤1000000000)(a:pU c x)(b:rv (aX c x s).x.V.l):pU c (aX c x s):=by
 unfold aX at b⊢;by_cases l:sR s=true
 ·rw[ALifp l] at b⊢;by_cases e:s.k=4
  ·rw[ALifp e] at b⊢;have o:e6 c (jf c x.x) x.id:=⟨a.ct.rp,a.ct.gh,a.ct.mz⟩;exact⟨Iw (wK h.ct) o h.ct.U (h.il _) Om true (b _ (Iy (x:=jf c x.x) x.x.U true)),a.sv⟩
  rw[ALifn e] at b⊢;by_cases f:s.k=5
  ·rw[ALifp f] at b⊢;by_cases d:x.x.s.r.j.A=0
   ·rw[ALifp d];exact⟨a.ct,a.sv⟩
   ·rw[ALifn d] at b⊢;exact⟨YS h.ct a.ct (λn=>h.il _) d m b,a.sv⟩
  rw[ALifn f] at b⊢;by_cases i:s.k=6
  ·rw[ALifp i];exact⟨⟨a.ct.rp,a.ct.gh,a.ct.mz⟩,a.sv⟩
  rw[ALifn i] at b⊢;by_cases j:s.k=7
  ·rw[ALifp j];exact⟨⟨a.ct.rp,a.ct.gh,a.ct.mz⟩,a.sv⟩
  rw[ALifn j] at b⊢;by_cases k:s.k=8
  ·rw[ALifp k];exact⟨⟨a.ct.rp,a.ct.gh,a.ct.mz⟩,a.sv⟩
  rw[ALifn k] at b⊢;have g:dC c {x with st:=x.st+1} K A (N+1):=⟨h.ct,h.il,Z3 h.jl,Z3 h.sl,Z3 h.sc,Nat.succ_le_succ h.st⟩;exact YT (x:={x with st:=x.st+1}) g hs Om ⟨a.ct,a.sv⟩ b
 ·rw[ALifn l];exact a
theorem YV{f:Int→List UInt8}{i j:Int}{a b:List UInt8}(h:j=i→a=b)(g:j≠i→f j=b):cq f i a j=b:=by
 unfold cq
 split
 ·rename_i e;exact h e
 ·rename_i e;exact g e
theorem YW(c:Cf)(n:Nat):(db c (n+1)).W=cq (db c n).W ((fB c.B c.M c.C n:Nat):Int) (eO c.E z6 ((fB c.B c.M c.C n:Nat):Int) false):=rfl
theorem YX{c:Cf}{i:Nat}(n:Nat): ∀k,k<n→i=fB c.B c.M c.C k→(db c n).W ((i:Nat):Int)=eO c.E z6 ((i:Nat):Int) false:=by
 induction n with
 | zero=>exact λk a=>absurd a (Z4 k)
 | succ n ih=>
  intro k a e;rw[YW];refine YV (λq=>?_) λq=>?_
  ·rw[q]
  ·refine ih k ?_ e;rcases Nat.lt_succ_iff_lt_or_eq.1 a with h | h
   ·exact h
   ·exact absurd (by rw[e,h]) q
theorem IB(c:Cf): ∀n i,(db c n).Z i=0
 | 0,_=>rfl
 | n+1,i=>by
  show cq (db c n).Z ((fB c.B c.M c.C n:Nat):Int) 0 i=0;unfold cq
  split
  ·rfl
  ·exact IB c n i
theorem YY{c:Cf}(s:c8 c){i:Nat}(h:jH c.R c.S c.B c.M c.C i): ∃k,k<(c.R+c.S)*(c.B*c.M*c.C)∧i=fB c.B c.M c.C k:=by
 obtain⟨l,a,b,e,rfl,d⟩:=h.ex;have g:=s.O.bd;have hC:=g.c1;have r:=g.m1;have hB:=g.b1;have j:(a*c.M+b)*c.C+e<c.B*c.M*c.C:=by
  have q:a*c.M+b<c.B*c.M:=by
   have:(a+1)*c.M≤c.B*c.M:=ZY _ d.h1;rw[Z5] at this;have:=d.h2;omega
  have f:(a*c.M+b+1)*c.C≤c.B*c.M*c.C:=ZY _ q;rw[Z5] at f;have:=d.h3;omega
 refine⟨l*(c.B*c.M*c.C)+((a*c.M+b)*c.C+e),?_,?_⟩
 ·have f:(l+1)*(c.B*c.M*c.C)≤(c.R+c.S)*(c.B*c.M*c.C):=ZY _ d.h0;rw[Z5] at f;omega
 ·unfold fB qZ;have hp:0<c.B*c.M*c.C:=by omega
  rw[ZO,ZN _ _ hp,ZP j,ZS,ZL,ZU j];have m:((a*c.M+b)*c.C+e)/c.C=a*c.M+b:=by rw[ZO,ZN _ _ hC,ZP d.h3,ZS]
  have n:((a*c.M+b)*c.C+e)%c.C=e:=by rw[ZO,ZL,ZU d.h3]
  have o:(a*c.M+b)/c.M=a:=by rw[ZO,ZN _ _ r,ZP d.h2,ZS]
  have p:(a*c.M+b)%c.M=b:=by rw[ZO,ZL,ZU d.h2]
  rw[m,n,o,p]
theorem YZ{c:Cf}(b:c8 c):pU c (bI c):=by
 have a:=HO b;refine⟨⟨YK b.ly.rp,λn d=>?_,λn d=>IB c _ _⟩,λy h=>absurd h ZX⟩;have f:=(He a.ct.s.r.m a.ct.s.r.j (a.ct.ln d)).lay a.ct.ly;obtain⟨k,g,e⟩:=YY b f;exact YX _ k g e
section
structure xh (a:Ac):Prop where
 s:mA a=false
 e:a.ex≤1
 m:a.mr=false
def ig(l:List Ac):Prop:=∀a∈l,xh a
theorem ig.ca{l:List Ac}(h:ig l):rv l:=λa b=>⟨(h a b).s,(h a b).e⟩
theorem ig.app{l:List Ac}{a:Ac}(h:ig l)(d:xh a):ig (l++[a]):=λb f=>(List.mem_append.1 f).elim (h b) λe=>by rw[List.mem_singleton.1 e];exact d
theorem Y0{mode:Nat}{l:List Ac}(h:ig l):lS mode l=true:=by
 have b: ∀k,k≤l.length→(di mode l k).ast=false∧(di mode l k).ex≤1:=by
  intro k
  induction k with
  | zero=>exact λ_=>⟨rfl,by show(0:Int)≤1;decide⟩
  | succ k ih=>
   intro g;obtain⟨d,f⟩:=ih Om;have a:=h _ (List.getElem_mem (show k<l.length by omega));have e:l.getD (0+k) e4=l[k]'Om:=by rw[ZS,ZK,ZQ Om];rfl
   rw[HU,e];show pR _ _=false∧pQ _ _≤1;unfold pR pQ;rw[a.s,a.m];refine⟨d,?_⟩;show max _ _≤(1:Int);have:=a.e;rw[ALcf];omega
 have:=b l.length (Nat.le_refl _);unfold lS;rw[Nat.sub_zero,this.1,cd this.2];rfl
structure eV (F:List Fa) (x:Ct):Prop where
 cl: ∀i,x.V.D.cells i=x.V.W i
 la:x.V.D.X=F
 co:x.V.D.H=[]
def lU(c:Cf)(F:List Fa):Prop:=∀(a u1 b d:Int) (xs:List UInt8),xs.length=72→cI (c.E:Int) (jd c.E a u1 b d xs F) xs≤1
section
variable {c:Cf} {F:List Fa} {x:Ct} {K A:Nat} {id:Int→List UInt8}
theorem eV.dr(h:eV F x):b8 x.V.D=false:=by unfold b8;rw[h.co];rfl
theorem eV.wt(h:eV F x)(i:Int):aQ x.V.D i=i:=by unfold aQ;rw[h.co];rfl
theorem eV.wr(h:eV F x)(i:Int):xh ⟨true,i,aQ x.V.D i,b8 x.V.D,0,false⟩:=by
 refine⟨?_,by show(0:Int)≤1;decide,rfl⟩;show(b8 x.V.D||(aQ x.V.D i != i))=false;rw[h.dr,h.wt];simp
theorem eV.rd(h:eV F x)(b:lU c F)(e:bf c x K A)(d:e6 c x id){n:Nat}(f:n<b0 c):xh (m4 c x.V ((au x n:Nat):Int)):=by
 refine⟨?_,?_,?_⟩
 ·show(b8 x.V.D||(aQ x.V.D ((au x n:Nat):Int) != ((au x n:Nat):Int)))=false;rw[h.dr,h.wt];simp
 ·show((cI (c.E:Int) (bW c x.V.D ((au x n:Nat):Int)) (x.V.W (aQ x.V.D ((au x n:Nat):Int))):Nat):Int)≤1;have a:bW c x.V.D ((au x n:Nat):Int)=jd c.E (((au x n:Nat):Int)/1048576) (((au x n:Nat):Int)/65536%16) (((au x n:Nat):Int)/64%1024) (((au x n:Nat):Int)%64) (x.V.W ((au x n:Nat):Int)) F:=by
   unfold bW;rw[h.dr,h.wt,ALcf];show jd c.E _ _ _ _ (x.V.D.cells _) x.V.D.X=_;rw[h.la,h.cl]
  rw[a,h.wt];have:=b (((au x n:Nat):Int)/1048576) (((au x n:Nat):Int)/65536%16) (((au x n:Nat):Int)/64%1024) (((au x n:Nat):Int)%64) _ (e.gl ((au x n:Nat):Int));omega
 ·show(bif !(b8 x.V.D) then x.V.Z (aQ x.V.D ((au x n:Nat):Int))==1 else false)=false;rw[h.dr,h.wt,d.mz n f];rfl
theorem eV.put(h:eV F x)(i:Nat)(l:List UInt8)(p:Bool):eV F (mB c x i l p):=by
 refine⟨λk=>?_,h.la,?_⟩
 ·show(bif !(b8 x.V.D) then cq x.V.D.cells (aQ x.V.D (i:Int)) (eO c.E l (i:Int) p) else x.V.D.cells) k=cq x.V.W (i:Int) (eO c.E l (i:Int) p) k;rw[h.dr,h.wt];show(if k=(i:Int) then _ else x.V.D.cells k)=(if k=(i:Int) then _ else x.V.W k);rw[h.cl k]
 ·show x.V.D.H.drop 1=[];rw[h.co];rfl
theorem eV.tak(h:eV F x)(i a r:Nat):eV F (bU c x i a r):=⟨h.cl,h.la,by show x.V.D.H.drop 1=[];rw[h.co];rfl⟩
theorem eV.rea(h:eV F x)(f:lU c F)(i:ig x.V.l)(j:bf c x K A)(g:e6 c x id){n:Nat}(k:n<b0 c)(b:Bool):eV F (cy c x n b)∧ig (cy c x n b).V.l:=by
 have a:=h.tak (c:=c) (au x n) (jI x n) (jJ x n);have e:ig (ie c x n).V.l:=i.app (h.rd f j g k);unfold cy;cases (((bl c x (au x n):Nat):Int)==1)&&b
 ·exact⟨⟨a.cl,a.la,a.co⟩,e⟩
 ·have d:=a.put (c:=c) (au x n) (cu c x (au x n)) false;exact⟨⟨d.cl,d.la,d.co⟩,e.app (a.wr _)⟩
theorem eV.msk(h:eV F x)(f:lU c F)(d:ig x.V.l)(i:bf c x K A)(g:e6 c x id){n:Nat}(j:n<b0 c)(l:List UInt8)(m:Nat):eV F (bA c x n l m)∧ig (bA c x n l m).V.l:=by
 have b:=h.tak (c:=c) (au x n) (jI x n) (jJ x n);have e:ig (ie c x n).V.l:=d.app (h.rd f i g j);unfold bA;cases (m:Int)==0
 ·cases decide (pc m=64)
  ·cases !(bY (bl c x (au x n))==0)
   ·have a:=b.put (c:=c) (au x n) (gn (cu c x (au x n)) l m) false;exact⟨⟨a.cl,a.la,a.co⟩,e.app (b.wr _)⟩
   ·have a:=b.put (c:=c) (au x n) z6 true;exact⟨⟨a.cl,a.la,a.co⟩,e.app (b.wr _)⟩
  ·have a:=h.put (c:=c) (au x n) l false;exact⟨⟨a.cl,a.la,a.co⟩,d.app (h.wr _)⟩
 ·exact⟨⟨h.cl,h.la,h.co⟩,d⟩
theorem Y1(h:bf c x K A)(y:ew x.s.r)(b:x.s.r.j.A≠0)(o:kU x=true): ∃n,n<b0 c∧au x n=j7 x:=by
 have d:=h.s.r;have k:=h.run b;have hC:=d.m.O.bd.c1;unfold kU at o;rw[Z9] at o;have u:=of_decide_eq_true o.1;have v:x.s.r.m.Q.getD (cb x.s.r) false=false:=by simpa using o.2
 obtain⟨i,z,B⟩: ∃i,i<x.s.r.m.R*x.s.r.m.B*x.s.r.m.M-x.s.r.m.res∧x.s.r.m.N.getD i 0=cb x.s.r:=by
  rcases y.al _ u v with⟨C,e⟩ | w
  ·exfalso;unfold cb at e;rw[ALifp C] at e;rcases d.j.k with f | ⟨_,j⟩ | ⟨f,j⟩
   ·rw[f] at b;exact absurd rfl b
   ·exact j.ne e
   ·omega
  ·exact w
 have l:x.s.r.j.nx%x.s.r.m.C<x.s.r.m.C:=Z0 _ hC;have p:i*x.s.r.m.C+x.s.r.j.nx%x.s.r.m.C<(x.s.r.m.R*x.s.r.m.B*x.s.r.m.M-x.s.r.m.res)*x.s.r.m.C:=by
  have:(i+1)*x.s.r.m.C≤(x.s.r.m.R*x.s.r.m.B*x.s.r.m.M-x.s.r.m.res)*x.s.r.m.C:=ZY _ z;rw[Z5] at this;omega
 have q:(i*x.s.r.m.C+x.s.r.j.nx%x.s.r.m.C)/x.s.r.m.C=i:=by rw[ZO,ZN _ _ hC,ZP l,ZS]
 have f:(i*x.s.r.m.C+x.s.r.j.nx%x.s.r.m.C)%x.s.r.m.C=x.s.r.j.nx%x.s.r.m.C:=by rw[ZO,ZL,Nat.mod_mod]
 have g:ao x.s.r.m (i*x.s.r.m.C+x.s.r.j.nx%x.s.r.m.C)=cb x.s.r:=by unfold ao;rw[q];exact B
 refine⟨i*x.s.r.m.C+x.s.r.j.nx%x.s.r.m.C,?_,?_⟩
 ·have:=p;rw[h.ly.R,h.ly.B,h.ly.M,h.ly.C,h.ly.res] at this;rw[h.ly.C];exact this
 generalize D:i*x.s.r.m.C+x.s.r.j.nx%x.s.r.m.C=n at p q f g;have m:ky x.s.r.m x.s.r.j n=true∧gB x.s.r.m x.s.r.j n=x.s.r.j.nx:=by
  unfold ky gB;unfold cb at g;rcases d.j.k with a | ⟨a,j⟩ | ⟨a,j⟩
  ·rw[a] at b;exact absurd rfl b
  ·rw[ALifp a] at g⊢;rw[a] at k;have k:x.s.r.j.nx<x.s.r.m.C:=k;rw[ALifp a,f,ZU k];exact⟨cd g,rfl⟩
  ·have s: ¬x.s.r.j.A=1:=by omega
   rw[ALifn s] at g⊢;rw[ALifn s];rw[a] at k;have t:=nH d.m (r:=x.s.r.j.fr) (i:=x.s.r.j.nx) (by have:=j.hf;omega) k;have hp:=Vx (way:=x.s.r.m.G) d.m.O j.hf t.h1 t.h2;unfold fe;rw[g,hp.1,hp.2.1,hp.2.2,f];refine⟨cd rfl,?_⟩;rw[aaa (x.s.r.j.nx/x.s.r.m.C) x.s.r.m.M,aaa x.s.r.j.nx x.s.r.m.C]
 show aH x.s.r.m x.s.r.j n=_;rw[nT d b,ALifp m.1,m.2,ALifn (Nat.lt_irrefl _),uc d b p m.1,m.2];rfl
theorem eV.cpy(h:eV F x)(j:lU c F)(f:ig x.V.l)(g:bf c x K A)(d:e6 c x id)(k:x.s.r.j.A≠0):eV F (gM c x)∧ig (gM c x).V.l:=by
 have a:eV F (ft c x)∧ig (ft c x).V.l:=by
  unfold ft;cases m:kU x
  ·exact⟨h.put _ _ _,f.app (h.wr _)⟩
  ·obtain⟨n,l,e⟩:=Y1 g d.rp k m;have b:=h.tak (c:=c) (j7 x) (cb x.s.r) (dx x.s.r);have i:ig (pO c x).V.l:=f.app (by rw[←e];exact h.rd j g d l);exact⟨eV.put (x:=pO c x) b _ _ _,i.app (eV.wr (x:=pO c x) b _)⟩
 exact⟨⟨a.1.cl,a.1.la,a.1.co⟩,a.2⟩
end
structure lV (c:Cf) (F:List Fa) (x:Mc):Prop where
 d:eV F x.x
 a:ig x.x.V.l
 i:pU c x
theorem IC{c:Cf}{F:List Fa}(d:lU c F){x:Mc}{K A N:Nat}(h:dC c x K A N){s:St}(hs:StOk s)(m:K+260≤1000000000)(a:lV c F x)(l:s.k≠8):lV c F (aX c x s):=by
 suffices hm:eV F (aX c x s).x∧ig (aX c x s).x.V.l from⟨hm.1,hm.2,YU h hs m a.i hm.2.ca⟩
 unfold aX;by_cases k:sR s=true
 ·rw[ALifp k];by_cases f:s.k=4
  ·rw[ALifp f];have o:e6 c (jf c x.x) x.id:=⟨a.i.ct.rp,a.i.ct.gh,a.i.ct.mz⟩;have n:eV F (jf c x.x):=⟨a.d.cl,a.d.la,a.d.co⟩;exact n.rea d a.a (wK h.ct) o h.ct.U true
  rw[ALifn f];by_cases g:s.k=5
  ·rw[ALifp g];by_cases b:x.x.s.r.j.A=0
   ·rw[ALifp b];exact⟨a.d,a.a⟩
   ·rw[ALifn b];exact a.d.cpy d a.a h.ct a.i.ct b
  rw[ALifn g];by_cases i:s.k=6
  ·rw[ALifp i];exact⟨⟨a.d.cl,a.d.la,a.d.co⟩,a.a⟩
  rw[ALifn i];by_cases j:s.k=7
  ·rw[ALifp j];exact⟨⟨a.d.cl,a.d.la,a.d.co⟩,a.a⟩
  rw[ALifn j,ALifn l];unfold gU;by_cases b:bG s.ln ((b0 c:Nat):Int)=true
  ·rw[ALifp b];have e:s.ln.toNat<b0 c:=AT b
   split
   ·exact a.d.rea d a.a h.ct a.i.ct e _
   ·split
    ·exact a.d.msk d a.a h.ct a.i.ct e _ _
    ·split<;>exact a.d.msk d a.a h.ct a.i.ct e _ _
  ·rw[ALifn b];exact⟨a.d,a.a⟩
 ·rw[ALifn k];exact⟨a.d,a.a⟩
theorem ID(c:Cf): ∀n,(∀i,(db c n).D.cells i=(db c n).W i)∧(db c n).D.X=[]∧(db c n).D.H=[]∧ig (db c n).l
 | 0=>⟨λ_=>rfl,rfl,rfl,λa j=>absurd j ZX⟩
 | n+1=>by
  obtain⟨f,g,b,h⟩:=ID c n;have d:b8 (db c n).D=false:=by unfold b8;rw[b];rfl
  have e: ∀i,aQ (db c n).D i=i:=λi=>by unfold aQ;rw[b];rfl
  refine⟨λk=>?_,g,?_,h.app ⟨?_,by show(0:Int)≤1;decide,rfl⟩⟩
  ·show(bif !(b8 (db c n).D) then cq (db c n).D.cells (aQ (db c n).D ((fB c.B c.M c.C n:Nat):Int)) _ else(db c n).D.cells) k=cq (db c n).W ((fB c.B c.M c.C n:Nat):Int) _ k;rw[d,e];show(if k=((fB c.B c.M c.C n:Nat):Int) then _ else(db c n).D.cells k)=(if k=((fB c.B c.M c.C n:Nat):Int) then _ else(db c n).W k);rw[f k]
  ·show(db c n).D.H.drop 1=[];rw[b];rfl
  ·show(b8 (db c n).D||(aQ (db c n).D ((fB c.B c.M c.C n:Nat):Int) != ((fB c.B c.M c.C n:Nat):Int)))=false;rw[d,e];simp
theorem Y2{c:Cf}(f:c8 c):lV c [] (bI c):=by
 obtain⟨a,b,d,e⟩:=ID c ((c.R+c.S)*(c.B*c.M*c.C));exact⟨⟨a,b,d⟩,e,YZ f⟩
theorem IE{c:Cf}{F:List Fa}(b:lU c F){x:Mc}{n:Nat}(h:GM c x n)(d:lV c F x){l:List St}(hs:ZJ l): ∀k,n+k≤900→lV c F (b3 c x l k)
 | 0,_=>d
 | k+1,g=>by
  have f:=ri h hs k Om;have a:=IE b h d hs k Om;rw[xd];cases e:(l.getD k cE).k != 8
  ·exact a
  ·exact IC b f.ok (hs.a k) Om a (by simpa using e)
theorem Bl{c:Cf}{F:List Fa}(a:lU c F){x:Mc}{n:Nat}(h:GM c x n)(b:lV c F x): ∀k,n+k≤900→lV c F (cc c x k)
 | 0,_=>b
 | k+1,d=>IC a (rj h k Om).ok (A4 _) Om (Bl a h b k Om) (by show ¬(1:Int)=8;decide)
theorem Y3{c:Cf}{F:List Fa}(d:lU c F){x:Mc}{K A N:Nat}(h:dC c x K A N)(a:lV c F x){k:Nat}(b:k<b0 c):ed c x (jM k)=⟨0,0,x.id (k:Int)⟩∧(aX c x (jM k)).id=x.id:=by
 have f:sR (jM k)=true:=Wg (k:Int);have g:bG (k:Int) ((b0 c:Nat):Int)=true:=by unfold bG;simp;omega
 have i:=ry h.ct a.i.ct b (h.il _) ⟨(a.d.rd d h.ct a.i.ct b).s,(a.d.rd d h.ct a.i.ct b).e⟩
 constructor
 ·unfold ed;rw[ALifp f,ALifn (show ¬(1:Int)=4 by decide),ALifn (show ¬(1:Int)=5 by decide),ALifn (show ¬(1:Int)=6 by decide),ALifn (show ¬(1:Int)=7 by decide),ALifn (show ¬(1:Int)=8 by decide)];unfold w4;rw[ALifp (show bG (jM k).ln _=true from g),ALifp (show(jM k).k=1 from rfl)];show(⟨bY (bl c x.x (au x.x k)),0,cu c x.x (au x.x k)⟩:An)=_;rw[i.1,Bg i.2]
 ·unfold aX;rw[ALifp f,ALifn (show ¬(1:Int)=4 by decide),ALifn (show ¬(1:Int)=5 by decide),ALifn (show ¬(1:Int)=6 by decide),ALifn (show ¬(1:Int)=7 by decide),ALifn (show ¬(1:Int)=8 by decide)];unfold gU;rw[ALifp (show bG (jM k).ln _=true from g),ALifp (show(jM k).k=1 from rfl)];rfl
theorem Y4{c:Cf}{F:List Fa}(a:lU c F){x:Mc}{n:Nat}(h:GM c x n)(f:lV c F x)(m:n+b0 c≤900):rl c x=true:=by
 have g:(ZZ (b0 c)).all (A5 c x)=true:=A6 λk j=>by
  have i:=rj h k Om;have d:=Y3 a i.ok (Bl a h f k Om) j;show(((ed c (cc c x k) (jM k)).e==0&&((ed c (cc c x k) (jM k)).n==0&&true))&&decide ((ed c (cc c x k) (jM k)).l=(aX c (cc c x k) (jM k)).id (k:Int)))=true;rw[d.1,d.2,cd rfl];rfl
 have b:=Bl a h f (b0 c) m;unfold rl;rw[g,ALct,Y0 b.a,Bool.true_and];exact List.all_eq_true.2 b.i.sv
theorem Y5{c:Cf}(e:c.E=2){f:Fa}(m:f.x0=5)(n:f.x5.toNat<36):lU c [f]:=λg u1 h k xs a=>by
 have l:cI (c.E:Int) xs xs≤1:=by
  rw[(ED (mode:=(c.E:Int)) (.inr (by rw[e];rfl)) a a).2 rfl];decide
 show cI (c.E:Int) (lJ c.E g u1 h k xs f) xs≤1;unfold lJ;cases (!(iM f))||(!(lI f g u1 h k))
 ·rw[ALcf,m];show cI (c.E:Int) (gv (aN (c.E:Int)) f.x5.toNat (aP f.x7) xs (dy (c.E:Int))) xs≤1;rw[e];refine(pn ((tA _ _ _ _ _).trans a) a).2 λi d=>?_;have d:i<2:=d;have b: ∀j,j<36→j≠f.x5.toNat→cN 2 ((gv 36 f.x5.toNat (aP f.x7) xs 2).getD (36*i+j) 0) (xs.getD (36*i+j) 0)=0:=λj p o=>by
   rw[Ey];show(((xs.set (36*0+f.x5.toNat) _).set (36*1+f.x5.toNat) _)).getD (36*i+j) 0=_;rw[getD_set_ne Om,getD_set_ne Om]
  show bZ (λj=>cN 2 ((gv 36 f.x5.toNat (aP f.x7) xs 2).getD (36*i+j) 0) (xs.getD (36*i+j) 0)) 36≤1;rw[EB (c:=f.x5.toNat) 36 b];rw[ALifp n];exact EA 2 _ _
 ·exact l
end
section
open Go.ChangeShapes Go.WideShapes
theorem ek.split{l m:List iC}{cs:List Value}(h:ek (l++m) cs):ek l (cs.take l.length)∧ek m (cs.drop l.length):=by
 obtain⟨f,d⟩:=h;rw[Z2] at f;refine⟨⟨by rw[List.length_take];omega,λi lf a=>?_⟩,⟨by rw[List.length_drop];omega,λi lf a=>?_⟩⟩
 ·have e:i<l.length:=(List.getElem?_eq_some_iff.1 a).1;obtain⟨v,b,c⟩:=d i lf (by rw[List.getElem?_append_left e];exact a);exact⟨v,by rw[List.getElem?_take_of_lt e];exact b,c⟩
 ·obtain⟨v,b,c⟩:=d (l.length+i) lf (by rw[List.getElem?_append_right (Nat.le_add_right _ _),Nat.add_sub_cancel_left];exact a);exact⟨v,by rw[List.getElem?_drop];exact b,c⟩
theorem ek.one{f:iC}{ls:List iC}{cs:List Value}(h:ek (f::ls) cs): ∃v vs,cs=v::vs∧E8 f v∧ek ls vs:=by
 obtain⟨a,b⟩:=h;cases cs with
 | nil=>simp at a
 | cons v vs=>
  obtain⟨u,c,d⟩:=b 0 f rfl;obtain rfl:v=u:=by simpa using c
  exact⟨v,vs,rfl,d,by simpa using a,λi lf e=>by simpa using b (i+1) lf (by rw[List.getElem?_cons_succ];exact e)⟩
theorem IF: ∀(n:Nat) (cs:List Value),ek (ZM n (.int .u8)) cs→∃d:List UInt8,d.length=n∧cs=d.map λb=>Value.int .u8 (b.toNat:Int)
 | 0,cs,h=>⟨[],rfl,by have:=h.1;simp at this;simpa using this⟩
 | n+1,cs,h=>by
  obtain⟨v,vs,rfl,⟨z,rfl,e⟩,a⟩:=ek.one (by rw[List.replicate_succ] at h;exact h);obtain⟨d,c,rfl⟩:=IF n vs a;have f:=bounds_u8 e;refine⟨UInt8.ofNat z.toNat::d,by rw[List.length_cons,c],?_⟩;rw[List.map_cons,show((UInt8.ofNat z.toNat).toNat:Int)=z by rw[UInt8.toNat_ofNat'];omega]
theorem Y6{l:List Int}(h:l.length=8): ∃a b c d e f g i,l=[a,b,c,d,e,f,g,i]:=by
 match l,h with
 | [a,b,c,d,e,f,g,i],_=>exact⟨a,b,c,d,e,f,g,i,rfl⟩
def stLs:List iC:=ZM 2 (.int .i64)++(ZM 64 (.int .u8)++(.int .u64::ZM 8 (.int .i64)))
theorem Y7{cs:List Value}(h:ek stLs cs): ∃s:St,cs=eSt s∧StOk s:=by
 obtain⟨x,y⟩:=ek.split h;obtain⟨z,A⟩:=ek.split y;obtain⟨v,vs,o,⟨m,t,C⟩,B⟩:=ek.one A;obtain⟨G,D,l,_⟩:=vN 2 _ x;obtain⟨d,q,n⟩:=IF 64 _ z;obtain⟨H,F,r,_⟩:=vN 8 _ B;have I:=bounds_u64 C;obtain⟨a,b,c,i,e,f,g,j,rfl⟩:=Y6 F
 match G,D with
 | [k,p],_=>
  refine⟨⟨k,p,d,m.toNat,a,b,c,i,e,f,g,j⟩,?_,⟨q,by show m.toNat<_;omega⟩⟩;have u:cs=cs.take 2++cs.drop 2:=(Z1 2 cs).symm;have w:cs.drop 2=(cs.drop 2).take 64++(cs.drop 2).drop 64:=(Z1 64 _).symm;have l:cs.take 2=[i6 k,i6 p]:=l;have n:(cs.drop 2).take 64=d.map λb=>Value.int .u8 (b.toNat:Int):=n;have o:(cs.drop 2).drop 64=v::vs:=o;rw[u,w,l,n,o,t,r];show _=[i6 k,i6 p]++rB 64 d++_;rw[xP q,show(m:Int)=((m.toNat:Nat):Int) by omega];rfl
theorem rows_st: ∀(a:List (List Value)),(∀r∈a,ek stLs r)→∃L:List St,a=L.map eSt∧∀s∈L,StOk s
 | [],_=>⟨[],rfl,λs g=>absurd g ZX⟩
 | r::a,h=>by
  obtain⟨L,b,c⟩:=rows_st a λx i=>h x (Z8 _ i);obtain⟨s,d,f⟩:=Y7 (h r ZR);exact⟨s::L,by rw[b,d];rfl,λy j=>(List.mem_cons.1 j).elim (λe=>e▸f) (c y)⟩
theorem sts_ok{l:List St}(h: ∀s∈l,StOk s):ZJ l:=⟨λk=>by
 rw[ZK];cases b:l[k]? with
 | none=>exact⟨Z7,by show(0:Nat)<_;decide⟩
 | some a=>exact h a (List.mem_of_getElem? b)⟩
def cfLs:List iC:=ZM 15 (.int .i64)++[.bool]
theorem cells_cfg{cs:List Value}(h:ek cfLs cs): ∃(r s b m c way e mode n k l j a heavy d:Int) (f:Bool),cs=[i6 r,i6 s,i6 b,i6 m,i6 c,i6 way,i6 e,i6 mode,i6 n,i6 k,i6 l,i6 j,i6 a,i6 heavy,i6 d,.bool f]:=by
 obtain⟨t,u⟩:=ek.split h;obtain⟨v,vs,g,⟨q,o⟩,w⟩:=ek.one u;obtain⟨z,y,i,_⟩:=vN 15 _ t;have x:vs=[]:=List.length_eq_zero_iff.1 w.1
 match z,y with
 | [r,s,b,m,c,way,e,mode,n,k,l,j,a,heavy,d],_=>
  refine⟨r,s,b,m,c,way,e,mode,n,k,l,j,a,heavy,d,q,?_⟩;have p:cs=cs.take 15++cs.drop 15:=(Z1 15 cs).symm;have i:cs.take 15=_:=i;have g:cs.drop 15=_:=g;rw[p,i,g,o,x];rfl
theorem aa.belowQ{P:Program}{f:FuncId}{args:Array Value}{u:Value}{T:ay→Prop}{bs:ay}(h:aa P f args [.p T] [] N0 (λ_=>u))(w:World)(d:ez bs w)(ht:T bs):Calls P f args w λe w'=>e= .returned u∧Below w.heap.size w w':=by
 refine(callsIn_wide (n:=6)).1 ((callsIn_wide.2 (h.out w [bs] ⟨ht,trivial⟩ (by simpa using d))).mono ?_);rintro e w' ⟨E,g,rfl,i,a⟩;exact⟨rfl,a.os,a.tape,a.output,a.size,λb c=>a.far b c (by simp)⟩
theorem st_sq{A:Option Addr}{n k:Nat}{L:List St}{w:World}(b:L.length=n)(f:n≤k)(g:pr 75 w A (L.map eSt)): ∃a,ez a w∧aK eSt (.slice A n k) L a:=by
 obtain⟨a,d,e⟩:=Qu (en:=eSt) (k:=75) (c:=k) (λs=>by unfold eSt;rw[Z2,Z2,JO];rfl) Dc g b;exact⟨a,d,e,A,k-n,by rw[b,Nat.add_sub_cancel' f]⟩
end
section
open Go.ChangeShapes Go.WideShapes
theorem Bm{c:Cf}{p:Ac→Prop}(hp:mD c p){x:Mc}(h: ∀a∈x.x.V.l,p a)(l:List St): ∀k,∀a∈(b3 c x l k).x.V.l,p a
 | 0=>h
 | k+1=>by
  rw[xd];cases (l.getD k cE).k != 8
  ·exact Bm hp h l k
  ·exact A9 hp (Bm hp h l k) _
theorem IG{c:Cf}{p:Ac→Prop}(hp:mD c p){x:Mc}(h: ∀a∈x.x.V.l,p a): ∀k,∀a∈(cc c x k).x.V.l,p a
 | 0=>h
 | k+1=>A9 hp (IG hp h k) _
theorem Bn{c:Cf}{x:Mc}{n:Nat}(h:GM c x n)(a:lT x.sv){l:List St}(hs:ZJ l): ∀k,n+k≤900→lT (b3 c x l k).sv
 | 0,_=>a
 | k+1,b=>by
  rw[xd];cases (l.getD k cE).k != 8
  ·exact Bn h a hs k Om
  ·exact Bb (ri h hs k Om).ok (Bn h a hs k Om) _
theorem IH{c:Cf}{x:Mc}{n:Nat}(h:GM c x n)(a:lT x.sv): ∀k,n+k≤900→lT (cc c x k).sv
 | 0,_=>a
 | k+1,b=>Bb (rj h k Om).ok (IH h a k Om) _
theorem Y8(c:Cf)(b:c.E=1∨c.E=2):lU c []:=λd u1 f g xs a=>by
 show cI (c.E:Int) xs xs≤1;rw[(ED (mode:=(c.E:Int)) (by rcases b with e | e<;>rw[e]<;>simp) a a).2 rfl];decide
theorem Y9{c:Cf}(e:c.E=2){x:Mc}(a:lV c [] x){f:Fa}(hf:gT c f=true)(d:f.x0=5): ∃F,lU c F∧lV c F (aX c x ⟨8,0,ZM 64 0,0,f.x0,f.x1,f.x2,f.x3,f.x4,f.x5,f.x6,f.x7⟩):=by
 by_cases j:sR ⟨8,0,ZM 64 0,0,f.x0,f.x1,f.x2,f.x3,f.x4,f.x5,f.x6,f.x7⟩=true
 ·have h:=(mw.mk (c:=c) (f:=f) hf).all.2.2;have k:f.x5.toNat<36:=by
   rw[e] at h;have:f.x5<36:=h.2;omega
  refine⟨[f],Y5 e d k,?_⟩;unfold aX;rw[ALifp j,ALifn (show ¬(8:Int)=4 by decide),ALifn (show ¬(8:Int)=5 by decide),ALifn (show ¬(8:Int)=6 by decide),ALifn (show ¬(8:Int)=7 by decide),ALifp rfl];have b:(f.x0==1)=false:=by rw[d];rfl
  have g:iM f=true:=by unfold iM;rw[d];rfl
  refine⟨⟨λi=>?_,?_,?_⟩,a.a,⟨⟨a.i.ct.rp,a.i.ct.gh,a.i.ct.mz⟩,a.i.sv⟩⟩
  ·show(bif !(gT c f) then x.x.V.D.cells else bif f.x0==1 then _ else x.x.V.D.cells) i=x.x.V.W i;rw[hf,b];exact a.d.cl i
  ·show(bif !(gT c f) then x.x.V.D.X else bif f.x0==1 then x.x.V.D.X else bif iM f then je x.x.V.D.X f else x.x.V.D.X)=[f];rw[hf,b,g,a.d.la];rfl
  ·show(bif !(gT c f) then x.x.V.D.H else bif f.x0==1 then x.x.V.D.H else bif iM f then x.x.V.D.H else _)=[];rw[hf,b,g];exact a.d.co
 ·refine⟨[],Y8 c (.inr e),?_⟩;unfold aX;rw[ALifn j];exact a
theorem chip_con(r s b m c way j mode D t C o e heavy i:Int)(d:Bool)(rk ch vl:Int)(v:Value)(l:List St)(f:ZJ l):aa Tryz.prog 8 #[.agg #[i6 r,i6 s,i6 b,i6 m,i6 c,i6 way,i6 j,i6 mode,i6 D,i6 t,i6 C,i6 o,i6 e,i6 heavy,i6 i,.bool d],i6 rk,i6 ch,i6 vl,v] [.p (aK eSt v l)] [] N0 (λ_=> .bool true):=by
 cases h:m0 r s b m c way j mode D t C o e heavy i
 ·exact Yf r s b m c way j mode D t C o e heavy i d h rk ch vl v l
 ·obtain⟨q,rfl,rfl,rfl,rfl,rfl,rfl,rfl,rfl,rfl,rfl,rfl,rfl,rfl,rfl,rfl,rfl,g⟩:=Ty d h;cases k:lQ q
  ·exact Yg q g k rk ch vl v l
  ·by_cases A:l.length≤60
   ·by_cases n:q.E=2
    ·cases z:gT q (⟨5,rk,0,0,0,ch,0,vl⟩:Fa)
     ·exact Yj q g k rk ch vl v l A n z
     ·have B:StOk (⟨8,0,ZM 64 0,0,5,rk,0,0,0,ch,0,vl⟩:St):=⟨Z7,by show(0:Nat)<_;decide⟩;have u:=(GM.start g).step Om B;have G:=ri u f l.length Om;have K:b0 q≤100:=H8 k;obtain⟨F,H,w⟩:=Y9 n (Y2 g) z rfl;have w:lV q F (aX q (bI q) (⟨8,0,ZM 64 0,0,5,rk,0,0,0,ch,0,vl⟩:St)):=w;have I: ∀a∈(bI q).x.V.l,0≤a.ex∧a.ex≤1000000:=Ic (xe q) _;have M:lT (bI q).sv:=λy L=>absurd L ZX;have J:=Ys q g k rk ch vl v l A n z f (Yw (IG (xe q) (Bm (xe q) (A9 (xe q) I _) l _) _)) (Yy (IH G (Bn u (Bb (GM.start g).ok M _) f _ Om) _ Om));rwa [Y4 H G (IE H u w f _ Om) Om] at J
    ·exact Yi q g k rk ch vl v l A n
   ·exact Yh q g k rk ch vl v l Om
end
end E
section
open Go.ChangeShapes Go.WideShapes
theorem WholeChip_any(r s b m c way g mode l i j h d heavy f:Int)(a:Bool)(rk ch vl:Int)(A:Option Addr)(n k:Nat)(L:List E.St)(t:L.length=n)(q:n≤k)(hs: ∀s∈L,E.StOk s)(w:World)(u:pr 75 w A (L.map E.eSt)):
  Calls Tryz.prog 8 #[.agg #[.int .i64 r,.int .i64 s,.int .i64 b,.int .i64 m,.int .i64 c,.int .i64 way,.int .i64 g,.int .i64 mode,.int .i64 l,.int .i64 i,.int .i64 j,.int .i64 h,.int .i64 d,.int .i64 heavy,.int .i64 f,.bool a],.int .i64 rk,.int .i64 ch,.int .i64 vl,.slice A n k] w
   λe w'=>e= .returned (.bool true)∧Below w.heap.size w w':=by
 obtain⟨bs,o,p⟩:=E.st_sq t q u;exact(E.chip_con r s b m c way g mode l i j h d heavy f a rk ch vl _ L (E.sts_ok hs)).belowQ w o p
end
end Go.Proofs.YtbcodenfkijdnaaGreat
