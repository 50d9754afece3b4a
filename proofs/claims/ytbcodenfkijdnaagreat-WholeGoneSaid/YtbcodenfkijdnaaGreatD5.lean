/- WholeGone, in 7 texts: part 5. For every input; no condition. -/
import Derived.Test.YtbcodenfkijdnaaGreatD4
set_option linter.unusedVariables false
set_option linter.unusedSimpArgs false
set_option maxRecDepth 100000
namespace Go.Proofs.YtbcodenfkijdnaaGreat.E
open Go Go.RowKit Go.Shelf
open List renaming length_append→dZ,length_replicate→ir
open Nat renaming succ_le_succ→eF,le_trans→jg
structure tB (c:Cf) (m:Mp):Prop where
 R:m.R=c.R
 S:m.S=c.S
 B:m.B=c.B
 M:m.M=c.M
 C:m.C=c.C
 way:m.way=c.way
 res:m.res=c.res
theorem tB.tr{c:Cf}{m m':Mp}(h:tB c m)(e:eQ m m'):tB c m':=⟨e.R.trans h.R,e.S.trans h.S,e.B.trans h.B,e.M.trans h.M,e.C.trans h.C,e.way.trans h.way,e.res.trans h.res⟩
def iB(r:Rp):Prop:=r.j.aa2≠0→r.j.nx<eK r.j.aa2 r.m.B r.m.M r.m.C
theorem GL{m:Mp}(h:eC m){k:Nat}(hk:k=1∨k=2):0<eK k m.B m.M m.C:=by
 have hb:=h.abc.bd
 rcases hk with rfl | rfl
 ·exact hb.c1
 ·exact Nat.mul_pos (Nat.mul_pos hb.b1 hb.m1) hb.c1
theorem GN{r:Rp}(hm:eC r.m){a:Ak}(ha:eL r.m a)(h:iB r):iB (dn r a):=by
 have h1:=GL hm (.inl rfl)
 have h2:=GL hm (.inr rfl)
 unfold dn
 rcases ha.k with⟨hk,_⟩ | ⟨hk,_⟩
 ·rw[hk]
  show iB (bif dD r.m then _ else _)
  cases dD r.m
  ·exact h
  ·exact λ_=>h1
 ·rw[hk]
  show iB (bif eh r.m then _ else _)
  cases eh r.m
  ·exact h
  ·exact λ_=>h2
theorem GO{r:Rp}(hr:aN r){a:Ak}(ha:eL r.m a)(h:iB r):iB (bp r a):=by
 unfold bp
 cases dh r a
 ·cases r.j.aa2==0
  ·exact h
  ·exact GN hr.m ha h
 ·exact h
theorem GP{r:Rp}(a:Ak)(h:r.j.aa2≠0):(bp r a).j=r.j∧(bp r a).m=r.m:=by
 unfold bp
 cases dh r a
 ·rw[show(r.j.aa2==0)=false from dp.2 h];exact⟨rfl,rfl⟩
 ·exact⟨rfl,rfl⟩
theorem Vh{s:Rp×List Ev}(hr:aN s.1)(hq:0<s.1.q.length)(h:iB s.1):iB (gP s).1:=by
 have h2:=tj hr hq
 unfold gP
 cases dh (aX s.1) (s.1.q.headD aJ)
 ·exact GN (r:=aX s.1) hr.m ⟨h2.k⟩ h
 ·exact h
theorem GQ: ∀(n:Nat) (s:Rp×List Ev),n=s.1.q.length→aN s.1→iB s.1→iB (fc n s).1
 | 0,s,_,_,h=>h
 | n+1,s,hn,hr,h=>by
  unfold fc
  split
  ·have hq:0<s.1.q.length:=by omega
   exact GQ n (gP s) (by rw[zQ,List.length_tail];omega) (zP hr hq) (Vh hr hq h)
  ·exact h
theorem Vi{r:Rp}(hr:aN r)(hb:r.j.aa2≠0)(h:iB r):iB (eT r).1:=by
 have hi:=h hb
 unfold eT
 cases hd:kU r.m (bv r).j
 ·intro _
  unfold kU at hd
  have h1: ¬(r.j.nx+1=eK r.j.aa2 r.m.B r.m.M r.m.C):=by
   intro e
   rw[Bool.and_eq_false_iff] at hd
   rcases hd with hd | hd
   ·exact absurd (of_decide_eq_false hd) (λq=>q hb)
   ·exact of_decide_eq_false hd e
  show r.j.nx+1<eK r.j.aa2 r.m.B r.m.M r.m.C
  omega
 ·exact GQ _ (ae (bv r)) (by unfold ae hZ;rfl) (vU (qL hr hb hi) hb) (λq=>absurd rfl q)
theorem Vj{s:Le}{K rank home w:Nat}(x:Re)(h:da s K)(hr:rank<s.r.m.R)(hh:home<s.r.m.R*s.r.m.B*s.r.m.M)(hn:iB s.r):iB (gy s rank home w x).r:=by
 unfold gy
 cases dH s.k.lp (dI s.k.t home).l w
 ·exact hn
 ·exact GO h.r ⟨.inl ⟨rfl,hh⟩⟩ hn
theorem GR{s:Le}{K rank home w:Nat}(x:Re)(h:da s K)(hr:rank<s.r.m.R)(hh:home<s.r.m.R*s.r.m.B*s.r.m.M)(hK:K+3≤1000000000)(hn:iB s.r):iB (fm s rank home w x).r:=by
 have h1:=Gi (w:=w) x h hr hh hK
 have h2:=Vj (w:=w) x h hr hh hn
 unfold fm
 cases dH s.k.lr (s.k.abb.getD rank bA).l w
 ·exact h2
 ·exact GO h1.r ⟨.inr ⟨rfl,by rw[(tq s rank home w x).R];exact hr⟩⟩ h2
theorem Vk{heavy K:Nat}{s:Le}{n:Nt}(h:da s K)(hr:n.r<s.r.m.R)(hh:n.h<s.r.m.R*s.r.m.B*s.r.m.M)(hK:K+3≤1000000000)(hn:iB s.r):iB (dE heavy s n).r:=by
 unfold dE
 split
 ·exact hn
 split
 ·exact GR _ h hr hh hK hn
 split
 ·exact hn
 ·exact GR _ h hr hh hK hn
theorem Vl(s:Le)(rank home w:Nat)(x:Re)(h:s.r.j.aa2≠0):(gy s rank home w x).r.j=s.r.j∧(gy s rank home w x).r.m=s.r.m:=by
 unfold gy
 cases dH s.k.lp (dI s.k.t home).l w
 ·exact⟨rfl,rfl⟩
 ·exact GP (r:=s.r) _ h
theorem GS(s:Le)(rank home w:Nat)(x:Re)(h:s.r.j.aa2≠0):(fm s rank home w x).r.j=s.r.j∧(fm s rank home w x).r.m=s.r.m:=by
 have h1:=Vl s rank home w x h
 unfold fm
 cases dH s.k.lr (s.k.abb.getD rank bA).l w
 ·exact h1
 ·have h2:=GP (r:=(gy s rank home w x).r) ⟨2,rank⟩ (by rw[h1.1];exact h)
  exact⟨h2.1.trans h1.1,h2.2.trans h1.2⟩
theorem GT(heavy:Nat)(s:Le)(n:Nt)(h:s.r.j.aa2≠0):(dE heavy s n).r.j=s.r.j∧(dE heavy s n).r.m=s.r.m:=by
 unfold dE
 split
 ·exact⟨rfl,rfl⟩
 split
 ·exact GS _ _ _ _ _ h
 split
 ·exact⟨rfl,rfl⟩
 ·exact GS _ _ _ _ _ h
theorem Vm{R S B M C p0 p1 p2 p3:Nat}(hG:f9 R S B M C)(h:gZ R S B M C p0 p1 p2 p3):gF R S B M C ((bJ p0 p1 p2 p3:Nat):Int)=true:=by
 rw[←vK]
 refine Ap hG (vF.2 ?_)
 have:=h.h0;have:=h.h1;have:=h.h2;have:=h.h3
 omega
structure jO (R S B M C i:Nat):Prop where
 ex: ∃p0 p1 p2 p3,i=bJ p0 p1 p2 p3∧gZ R S B M C p0 p1 p2 p3
theorem jO.has{R S B M C i:Nat}(h:jO R S B M C i)(hG:f9 R S B M C):gF R S B M C (i:Int)=true:=by
 obtain⟨p0,p1,p2,p3,rfl,hi⟩:=h.ex
 exact Vm hG hi
theorem jO.bd{R S B M C i:Nat}(h:jO R S B M C i)(hG:f9 R S B M C):i<8388608:=by
 obtain⟨p0,p1,p2,p3,rfl,hi⟩:=h.ex
 exact zu hG.bd hi
theorem Av(m:Mp)(p i:Nat):bD m p*64+i=bJ (gO m p) (ed m.way m.R m.B m.M p) (ec m.way m.R m.B m.M p) i:=by unfold bD bJ;omega
theorem Aw{m:Mp}(h:eC m){p i:Nat}(hp:p<m.R*m.B*m.M)(hi:i<m.C):jO m.R m.S m.B m.M m.C (aQ m 1 p i):=by
 have hl:=qD h hp
 exact⟨_,_,_,_,Av m p i,hl.h0,hl.h1,hl.h2,hi⟩
theorem Ax{m:Mp}(h:eC m){r i:Nat}(hr:r<m.R+m.S)(hi:i<m.B*m.M*m.C):jO m.R m.S m.B m.M m.C (aQ m 2 r i):=⟨_,_,_,_,rfl,oJ h hr hi⟩
theorem GU{m:Mp}{j:Jb}(h:eC m)(hj:ta m j){n:Nat}(hn:n<(m.R*m.B*m.M-m.res)*m.C):jO m.R m.S m.B m.M m.C (aH m j n):=by
 have h0:jO m.R m.S m.B m.M m.C (cQ m n):=⟨_,_,_,_,pI m n,qH h hn⟩
 rcases hj.k with e | ⟨e,hj⟩ | ⟨e,hj⟩
 ·rw[e];exact h0
 ·unfold aH
  rw[e]
  show jO _ _ _ _ _ (if ao m n=j.fr then _ else _)
  split
  ·split
   ·exact Aw h hj.ht (Nat.mod_lt _ h.abc.bd.c1)
   ·exact h0
  ·exact h0
 ·unfold aH
  rw[e]
  show jO _ _ _ _ _ (if aF m.way m.R m.B m.M (ao m n)=j.fr then _ else _)
  split
  ·split
   ·have:=hj.t1;have:=h.rk
    exact Ax h Om (td h hn)
   ·exact h0
  ·exact h0
structure Ct where
 s:Le
 cur:Nat
 ns:List Nt
 V:Dv
structure bC (c:Cf) (x:Ct) (K A:Nat):Prop where
 cf:dd c
 s:da x.s K
 D:iY c x.V.D
 gl: ∀k,(x.V.aa7 k).length=72
 vl:x.V.l.length≤A
 nl:x.ns.length≤A
 ly:tB c x.s.r.m
 run:iB x.s.r
 cur:x.cur<(c.R*c.B*c.M-c.res)*c.C
 time:x.s.time≤1099511627776
theorem bC.mono{c:Cf}{x:Ct}{K A K' A':Nat}(h:bC c x K A)(hK:K≤K')(hA:A≤A'):bC c x K' A':=⟨h.cf,h.s.mono hK,h.D,h.gl,jg h.vl hA,jg h.nl hA,h.ly,h.run,h.cur,h.time⟩
theorem bC.dv{c:Cf}{x:Ct}{K A:Nat}(h:bC c x K A)(hA:A≤900000):nX c x.V:=⟨h.D,h.gl,jg h.vl hA⟩
theorem dd.abc{c:Cf}(h:dd c):f9 c.R c.S c.B c.M c.C:=h.ly.abc
theorem jO.lay{c:Cf}{m:Mp}(e:tB c m){i:Nat}(h:jO m.R m.S m.B m.M m.C i):jO c.R c.S c.B c.M c.C i:=by rw[e.R,e.S,e.B,e.M,e.C] at h;exact h
def m8(c:Cf)(x:Ct)(i:Nat)(l:List UInt8)(p:Bool):Ct:={x with V:=iZ x.V (i:Int) (fd c.mode l (i:Int) p) (bif p then 1 else 0)}
def mB(c:Cf)(x:Ct)(i:Nat):List UInt8:=cd c x.V.D (i:Int)
def bq(c:Cf)(x:Ct)(i:Nat):Nat:=kb c.mode (mB c x i) (i:Int)
def cH(c:Cf)(x:Ct)(i:Nat):List UInt8:=m7 c.mode (mB c x i) (i:Int)
def m9(c:Cf)(x:Ct)(i h r:Nat):Nt:=⟨1,bq c x i,iz c.mode (mB c x i) (i:Int),i,h,r⟩
def bY(c:Cf)(x:Ct)(i h r:Nat):Ct:=⟨⟨(dE c.heavy x.s (m9 c x i h r)).r,(dE c.heavy x.s (m9 c x i h r)).k,(dE c.heavy x.s (m9 c x i h r)).g,x.s.time⟩,x.cur,x.ns++[m9 c x i h r],qW c x.V (i:Int)⟩
def aA(x:Ct)(n:Nat):Nat:=aH x.s.r.m x.s.r.j n
def kD(x:Ct)(n:Nat):Nat:=ao x.s.r.m n
def kE(x:Ct)(n:Nat):Nat:=aF x.s.r.m.way x.s.r.m.R x.s.r.m.B x.s.r.m.M (ao x.s.r.m n)
def iC(c:Cf)(x:Ct)(n:Nat):Ct:=bY c x (aA x n) (kD x n) (kE x n)
def kZ(x y:Ct):Ct:=⟨⟨y.s.r,y.s.k,y.s.g,x.s.time⟩,x.cur,y.ns,y.V⟩
def cy(c:Cf)(x:Ct)(n:Nat)(back:Bool):Ct:=kZ x<| bif (((bq c x (aA x n):Nat):Int)==1)&&back then m8 c (iC c x n) (aA x n) (cH c x (aA x n)) false else iC c x n
def b6(k:Nat):Int:=bif (k:Int)==3 then 40 else bif (k:Int)==2 then 41 else 0
section
variable {c:Cf} {x:Ct} {K A:Nat}
theorem oQ(m:Nat){xs:List UInt8}(hx:xs.length=72)(x:Int):(m7 m xs x).length=64:=by
 unfold m7 pA pB
 split
 ·cases decide (2≤jK ((List.range 8).map (dK xs x)))
  ·exact lL _ _ _
  ·exact ir
 ·cases decide (2≤jK ((List.range 2).map (cK xs x)))
  ·exact vw (sJ hx x) (Nat.le_refl 2)
  ·exact ir
theorem qY(h:bC c x K A){i:Nat}{l:List UInt8}(hl:l.length=64)(p:Bool):bC c (m8 c x i l p) K (A+1):=by
 refine⟨h.cf,h.s,GF h.D _ (qX _ hl _ _),tx h.gl _ (qX _ hl _ _),?_,Nat.le_succ_of_le h.nl,h.ly,h.run,h.cur,h.time⟩
 show(x.V.l++[_]).length≤A+1
 rw[dZ]
 exact eF h.vl
theorem Ay(h:bC c x K A){i hm r:Nat}(hr:r<x.s.r.m.R)(hh:hm<x.s.r.m.R*x.s.r.m.B*x.s.r.m.M)(hK:K+3≤1000000000):bC c (bY c x i hm r) (K+3) (A+1):=by
 have h1:=T1 (heavy:=c.heavy) (n:=m9 c x i hm r) h.s hr hh hK
 refine⟨h.cf,⟨h1.r,h1.k,h1.g,h1.n,h1.rk⟩,tu h.D,h.gl,?_,?_,h.ly.tr (T0 c.heavy x.s (m9 c x i hm r)),Vk (heavy:=c.heavy) (n:=m9 c x i hm r) h.s hr hh hK h.run,h.cur,h.time⟩
 ·show(x.V.l++[_]).length≤A+1
  rw[dZ]
  exact eF h.vl
 ·show(x.ns++[_]).length≤A+1
  rw[dZ]
  exact eF h.nl
theorem wl(h:bC c x K A){n:Nat}(hn:n<(c.R*c.B*c.M-c.res)*c.C):aA x n<8388608∧gF c.R c.S c.B c.M c.C ((aA x n:Nat):Int)=true∧kD x n<x.s.r.m.R*x.s.r.m.B*x.s.r.m.M∧kE x n<x.s.r.m.R∧n<(x.s.r.m.R*x.s.r.m.B*x.s.r.m.M-x.s.r.m.res)*x.s.r.m.C:=by
 have hn2:n<(x.s.r.m.R*x.s.r.m.B*x.s.r.m.M-x.s.r.m.res)*x.s.r.m.C:=by rw[h.ly.R,h.ly.B,h.ly.M,h.ly.C,h.ly.res];exact hn
 have hi:=(GU h.s.r.m h.s.r.j hn2).lay h.ly
 exact⟨hi.bd h.cf.abc,hi.has h.cf.abc,nR h.s.r.m hn2,nP h.s.r.m.abc,hn2⟩
theorem qZ(h:bC c x K A){n:Nat}(hn:n<(c.R*c.B*c.M-c.res)*c.C)(hK:K+3≤1000000000):bC c (iC c x n) (K+3) (A+1):=Ay h (wl h hn).2.2.2.1 (wl h hn).2.2.1 hK
theorem bC.fix{y:Ct}{K' A':Nat}(h:bC c x K A)(g:bC c y K' A'):bC c (kZ x y) K' A':=⟨g.cf,⟨g.s.r,g.s.k,g.s.g,g.s.n,g.s.rk⟩,g.D,g.gl,g.vl,g.nl,g.ly,g.run,h.cur,h.time⟩
theorem GV(h:bC c x K A){n:Nat}(hn:n<(c.R*c.B*c.M-c.res)*c.C)(back:Bool)(hK:K+3≤1000000000):bC c (cy c x n back) (K+3) (A+2):=by
 have h1:=qZ h hn hK
 unfold cy
 refine h.fix ?_
 cases (((bq c x (aA x n):Nat):Int)==1)&&back
 ·exact h1.mono (Nat.le_refl _) (Nat.le_succ _)
 ·exact qY h1 (oQ _ (m6 h.D _) _) false
end
end Go.Proofs.YtbcodenfkijdnaaGreat.E
namespace Go.Proofs.YtbcodenfkijdnaaGreat.E
open Go Go.RowKit Go.Shelf
open Go.Proofs.Tryz renaming prog→dZ
open Nat renaming mul_assoc→eF,mul_comm→jg,le_trans→jh
open List renaming length_replicate→ir
def Vn:Nt:=⟨0,0,0,0,0,0⟩
def GW(x:Nt):List Value:=[iN x.k,iN x.v,iN x.f,iN x.i,iN x.h,iN x.r]
def wm:Kd dZ Nt:=⟨GW,[i6 0,i6 0,i6 0,i6 0,i6 0,i6 0],117,81,Vn,6,λ_=>rfl,rfl,λ_=>rfl,d9.mk' Kr Kr rfl⟩
abbrev ce(v:Value)(xs:List Nt):az:= .p (ap GW ([i6 0,i6 0,i6 0,i6 0,i6 0,i6 0]) 81 v xs)
abbrev aR(gc gl gr gm gq gk gt gg gd ge go:Nat)(c:Cf)(x:Ct)(L:ah):Prop:=∃v:Value,L=[ob gc #[pt gl 0,pt gd 0,pt go 0,iN x.cur,v] 119,ob gl (lA c gr gk gg x.s.time) 122,pk (aq gr gm gq x.s.r),pk (aC gk gt x.s.k),pk (ay gg x.s.g),pk (dV go),pk (bl gd ge c x.V),ce v x.ns]
theorem pW(gc gl gr gk gg gd ge go:Nat)(c:Cf)(hcf:dd c)(cur time:Nat)(v:Value)(V:Dv)(hdv:nX c V)(i:Nat)(hib:i<8388608)(hi5:gF c.R c.S c.B c.M c.C ((i:Nat):Int)=true)(l:List UInt8)(hl:l.length=64)(p:Bool):aa dZ 88 #[pt gc 0,iN i,.agg (rB 64 l).toArray,.bool p] [ob gc #[pt gl 0,pt gd 0,pt go 0,iN cur,v] 119,ob gl (lA c gr gk gg time) 122,pk (dV go),pk (bl gd ge c V)] [2,3] (λ_=>[pk (dV go),pk (bl gd ge c (iZ V (i:Int) (fd c.mode l (i:Int) p) (bif p then 1 else 0)))]) (λ_=> .tuple #[]):=by
 have HM:=hcf.mode
 have hen:=qX c.mode hl (i:Int) p
 refine fG Tryz.func88 λw cs=>?_
 refine ra (λq1=>[(6,pt (B0 q1) 0)]) (λq1=>[ob (B0 q1) (rB 64 l).toArray 43]) λq1=>rr (λ_=>[(3,.m (ld 0 (pt go 0))),(7,.m (ld 0 (pt gl 0))),(11,.m (ld 1 (iN c.mode))),(12,.m (ls 4 (rB 64 l))),(15,.c [2] [] (U9 c.mode HM go l (by(simp only[LL,hl,hen,hl];done)) (i:Int) Om Om p)),(16,.m (al 5)),(17,.s 5)]) (λq2=>[(8,pt ((q2 16).abd 0) 0)]) [] (λq2 L=>L++[ob ((q2 16).abd 0) (rB 72 (fd c.mode l (i:Int) p)).toArray 217]) λq2=>r0 [] [(25,.bool p)] [] ?_
 refine cB (p) (λh4=>?_) λh4=>?_
 ·refine rr (λ_=>[(3,.l 0),(5,.l 5),(6,.c [3] [3] (UW gd ge c hcf V hdv (i:Int) hi5 (fd c.mode l (i:Int) p) (by(simp only[LL,hl,hen,hl];done))))]) N0 [] (λ_ L=>L.set 3 ((pk (bl gd ge c (iZ V (i:Int) (fd c.mode l (i:Int) p) 1))))) λq5=>?_
  exact eH ab.zero [2,3] [(0,0),(1,1)] [] (hf:=by(repeat (first | rw[h4] | rw[ALct]));kernel_rfl)
 refine rs [(3,.l 0),(5,.l 5),(6,.c [3] [3] (UV gd ge c hcf V hdv (i:Int) hi5 (fd c.mode l (i:Int) p) (by(simp only[LL,hl,hen,hl];done))))] 3 ((pk (bl gd ge c (iZ V (i:Int) (fd c.mode l (i:Int) p) 0)))) ?_
 exact eH ab.zero [2,3] [(0,0),(1,1)] [] (hf:=by(repeat (first | rw[h4] | rw[ALcf]));kernel_rfl)
theorem Vo(gc gl gr gm gq gk gt gg gd go:Nat)(c:Cf)(s:Le)(K:Nat)(hs:da s K)(cur:Nat)(v:Value)(ns:List Nt)(hnl:ns.length≤800000)(hK:K+3≤1000000000)(hv1:c.heavy≤65536)(nv nf ni nh nr:Nat)(hnv:nv≤3)(hrk:nr<s.r.m.R)(hh:nh<s.r.m.R*s.r.m.B*s.r.m.M):aa dZ 89 #[pt gc 0,.agg #[i6 1,iN nv,iN nf,iN ni,iN nh,iN nr]] [ob gc #[pt gl 0,pt gd 0,pt go 0,iN cur,v] 119,ob gl (lA c gr gk gg s.time) 122,pk (aq gr gm gq s.r),pk (aC gk gt s.k),pk (ay gg s.g),ce v ns] [0,2,3,4,5] (λE=>[ob gc #[pt gl 0,pt gd 0,pt go 0,iN cur,(E.val 0)] 119,pk (aq gr gm gq (dE c.heavy s (⟨1,nv,nf,ni,nh,nr⟩:Nt)).r),pk (aC gk gt (dE c.heavy s (⟨1,nv,nf,ni,nh,nr⟩:Nt)).k),pk (ay gg (dE c.heavy s (⟨1,nv,nf,ni,nh,nr⟩:Nt)).g),ce (E.val 0) (ns++([(⟨1,nv,nf,ni,nh,nr⟩:Nt)]))]) (λ_=> .tuple #[]):=by
 refine fG Tryz.func89 λw cs=>?_
 refine ra (λq1=>[(3,pt (B0 q1) 0)]) (λq1=>[ob (B0 q1) #[i6 1,iN nv,iN nf,iN ni,iN nh,iN nr] 81]) λq1=>rr (λq2=>[(4,.l 0),(5,.l 6),(6,.m (bs 7 1)),(7,fD wm (v) ns 5 7 ([(⟨1,nv,nf,ni,nh,nr⟩:Nt)])),(10,.m (fZ 0 5 (ce ((q2 7).val 0) (ns++([(⟨1,nv,nf,ni,nh,nr⟩:Nt)]))) ((q2 7).val 0) λbs h=>ap.one ((λ_ h=>h) bs h)))]) N0 [] (λq2 L=>(L.set 0 (ob gc #[pt gl 0,pt gd 0,pt go 0,iN cur,(q2 7).val 0] 119)).set 5 (ce ((q2 7).val 0) (ns++([(⟨1,nv,nf,ni,nh,nr⟩:Nt)])))++[ob (B6 q2) #[i6 1,iN nv,iN nf,iN ni,iN nh,iN nr] 81]) λq2=>rr (λ_=>[(3,.l 0),(4,.l 6),(5,.c [1,2,3,4] [2,3,4] (Vc gl gr gk gg gm gq gt c s _ hs hK hv1 nv nf ni nh nr hnv hrk hh))]) N0 [] (λ_ L=>((L.set 2 ((pk (aq gr gm gq (dE c.heavy s (⟨1,nv,nf,ni,nh,nr⟩:Nt)).r)))).set 3 ((pk (aC gk gt (dE c.heavy s (⟨1,nv,nf,ni,nh,nr⟩:Nt)).k)))).set 4 ((pk (ay gg (dE c.heavy s (⟨1,nv,nf,ni,nh,nr⟩:Nt)).g)))) λq3=>?_
 exact eH (.l [] [] [(q2 7).val 0]) [0,2,3,4,5] [(1,1)] []
theorem Vp(gc gl gr gm gq gk gt gg gd go:Nat)(c:Cf)(s:Le)(K:Nat)(hs:da s K)(cur:Nat)(v:Value)(ns:List Nt)(hnl:ns.length≤800000)(ht5:s.time≤1000000000000000):aa dZ 89 #[pt gc 0,.agg #[i6 2,i6 0,i6 0,i6 0,i6 0,i6 0]] [ob gc #[pt gl 0,pt gd 0,pt go 0,iN cur,v] 119,ob gl (lA c gr gk gg s.time) 122,pk (aq gr gm gq s.r),pk (aC gk gt s.k),pk (ay gg s.g),ce v ns] [0,1,2,3,4,5] (λE=>[ob gc #[pt gl 0,pt gd 0,pt go 0,iN cur,(E.val 0)] 119,ob gl (lA c gr gk gg ((s.time+1:Nat))) 122,pk (aq gr gm gq s.r),pk (aC gk gt (mZ s.k)),pk (ay gg s.g),ce (E.val 0) (ns++([(⟨2,0,0,0,0,0⟩:Nt)]))]) (λ_=> .tuple #[]):=by
 refine fG Tryz.func89 λw cs=>?_
 refine ra (λq1=>[(3,pt (B0 q1) 0)]) (λq1=>[ob (B0 q1) #[i6 2,i6 0,i6 0,i6 0,i6 0,i6 0] 81]) λq1=>rr (λq2=>[(4,.l 0),(5,.l 6),(6,.m (bs 7 1)),(7,fD wm (v) ns 5 7 ([(⟨2,0,0,0,0,0⟩:Nt)])),(10,.m (fZ 0 5 (ce ((q2 7).val 0) (ns++([(⟨2,0,0,0,0,0⟩:Nt)]))) ((q2 7).val 0) λbs h=>ap.one ((λ_ h=>h) bs h)))]) N0 [] (λq2 L=>(L.set 0 (ob gc #[pt gl 0,pt gd 0,pt go 0,iN cur,(q2 7).val 0] 119)).set 5 (ce ((q2 7).val 0) (ns++([(⟨2,0,0,0,0,0⟩:Nt)])))++[ob (B6 q2) #[i6 2,i6 0,i6 0,i6 0,i6 0,i6 0] 81]) λq2=>rr (λ_=>[(3,.l 0),(4,.l 6),(5,.c [1,2,3,4] [1,2,3,4] (Ve gl gr gk gg gm gq gt c s _ hs ht5))]) N0 [] (λ_ L=>(L.set 1 (ob gl (lA c gr gk gg ((s.time+1:Nat))) 122)).set 3 ((pk (aC gk gt (mZ s.k))))) λq3=>?_
 exact eH (.l [] [] [(q2 7).val 0]) [0,1,2,3,4,5] [] []
theorem GX(gc gl gr gm gq gk gt gg gd go:Nat)(c:Cf)(s:Le)(K:Nat)(hs:da s K)(cur:Nat)(v:Value)(ns:List Nt)(hnl:ns.length≤800000)(hK:K+257≤1000000000)(hb:s.r.j.aa2≠0)(hi:s.r.j.nx<eK s.r.j.aa2 s.r.m.B s.r.m.M s.r.m.C):aa dZ 89 #[pt gc 0,.agg #[i6 3,i6 0,i6 0,i6 0,i6 0,i6 0]] [ob gc #[pt gl 0,pt gd 0,pt go 0,iN cur,v] 119,ob gl (lA c gr gk gg s.time) 122,pk (aq gr gm gq s.r),pk (aC gk gt s.k),pk (ay gg s.g),ce v ns] [0,2,3,4,5] (λE=>[ob gc #[pt gl 0,pt gd 0,pt go 0,iN cur,(E.val 0)] 119,pk (aq gr gm gq (iX s).r),pk (aC gk gt (iX s).k),pk (ay gg (iX s).g),ce (E.val 0) (ns++([(⟨3,0,0,0,0,0⟩:Nt)]))]) (λ_=> .tuple #[]):=by
 refine fG Tryz.func89 λw cs=>?_
 refine ra (λq1=>[(3,pt (B0 q1) 0)]) (λq1=>[ob (B0 q1) #[i6 3,i6 0,i6 0,i6 0,i6 0,i6 0] 81]) λq1=>rr (λq2=>[(4,.l 0),(5,.l 6),(6,.m (bs 7 1)),(7,fD wm (v) ns 5 7 ([(⟨3,0,0,0,0,0⟩:Nt)])),(10,.m (fZ 0 5 (ce ((q2 7).val 0) (ns++([(⟨3,0,0,0,0,0⟩:Nt)]))) ((q2 7).val 0) λbs h=>ap.one ((λ_ h=>h) bs h)))]) N0 [] (λq2 L=>(L.set 0 (ob gc #[pt gl 0,pt gd 0,pt go 0,iN cur,(q2 7).val 0] 119)).set 5 (ce ((q2 7).val 0) (ns++([(⟨3,0,0,0,0,0⟩:Nt)])))++[ob (B6 q2) #[i6 3,i6 0,i6 0,i6 0,i6 0,i6 0] 81]) λq2=>rr (λ_=>[(3,.l 0),(4,.l 6),(5,.c [1,2,3,4] [2,3,4] (Vf gl gr gk gg gm gq gt c s _ hs hK hb hi))]) N0 [] (λ_ L=>((L.set 2 ((pk (aq gr gm gq (iX s).r)))).set 3 ((pk (aC gk gt (iX s).k)))).set 4 ((pk (ay gg (iX s).g)))) λq3=>?_
 exact eH (.l [] [] [(q2 7).val 0]) [0,2,3,4,5] [(1,1)] []
theorem Vq(gc gl gr gm gq gk gt gg gd go:Nat)(c:Cf)(s:Le)(K:Nat)(hs:da s K)(cur:Nat)(v:Value)(ns:List Nt)(hnl:ns.length≤800000):aa dZ 89 #[pt gc 0,.agg #[i6 4,i6 0,i6 0,i6 0,i6 0,i6 0]] [ob gc #[pt gl 0,pt gd 0,pt go 0,iN cur,v] 119,ob gl (lA c gr gk gg s.time) 122,pk (aq gr gm gq s.r),pk (aC gk gt s.k),pk (ay gg s.g),ce v ns] [0,2,3,4,5] (λE=>[ob gc #[pt gl 0,pt gd 0,pt go 0,iN cur,(E.val 0)] 119,pk (aq gr gm gq s.r),pk (aC gk gt s.k),pk (ay gg (nS s.g)),ce (E.val 0) (ns++([(⟨4,0,0,0,0,0⟩:Nt)]))]) (λ_=> .tuple #[]):=by
 refine fG Tryz.func89 λw cs=>?_
 refine ra (λq1=>[(3,pt (B0 q1) 0)]) (λq1=>[ob (B0 q1) #[i6 4,i6 0,i6 0,i6 0,i6 0,i6 0] 81]) λq1=>rr (λq2=>[(4,.l 0),(5,.l 6),(6,.m (bs 7 1)),(7,fD wm (v) ns 5 7 ([(⟨4,0,0,0,0,0⟩:Nt)])),(10,.m (fZ 0 5 (ce ((q2 7).val 0) (ns++([(⟨4,0,0,0,0,0⟩:Nt)]))) ((q2 7).val 0) λbs h=>ap.one ((λ_ h=>h) bs h)))]) N0 [] (λq2 L=>(L.set 0 (ob gc #[pt gl 0,pt gd 0,pt go 0,iN cur,(q2 7).val 0] 119)).set 5 (ce ((q2 7).val 0) (ns++([(⟨4,0,0,0,0,0⟩:Nt)])))++[ob (B6 q2) #[i6 4,i6 0,i6 0,i6 0,i6 0,i6 0] 81]) λq2=>rs [(3,.l 0),(4,.l 6),(5,.c [1,2,3,4] [2,3,4] (Vg gl gr gk gg gm gq gt c s _ hs))] 4 ((pk (ay gg (nS s.g)))) ?_
 exact eH (.l [] [] [(q2 7).val 0]) [0,2,3,4,5] [(1,1)] []
theorem Az(gc gl gr gm gq gk gt gg gd ge go:Nat)(c:Cf)(s:Le)(cur:Nat)(ns:List Nt)(V:Dv)(K A:Nat)(h:bC c ⟨s,cur,ns,V⟩ K A)(v:Value)(hA:A≤700000)(hK:K+3≤1000000000)(i ho rk:Nat)(hib:i<8388608)(hi5:gF c.R c.S c.B c.M c.C ((i:Nat):Int)=true)(hho:ho<s.r.m.R*s.r.m.B*s.r.m.M)(hrk:rk<s.r.m.R):aa dZ 87 #[pt gc 0,.agg #[iN i,iN ho,iN rk]] [ob gc #[pt gl 0,pt gd 0,pt go 0,iN cur,v] 119,ob gl (lA c gr gk gg s.time) 122,pk (aq gr gm gq s.r),pk (aC gk gt s.k),pk (ay gg s.g),pk (dV go),pk (bl gd ge c V),ce v ns] [0,2,3,4,5,6,7] (λE=>[ob gc #[pt gl 0,pt gd 0,pt go 0,iN cur,(E.val 0)] 119,pk (aq gr gm gq (bY c (⟨s,cur,ns,V⟩:Ct) i ho rk).s.r),pk (aC gk gt (bY c (⟨s,cur,ns,V⟩:Ct) i ho rk).s.k),pk (ay gg (bY c (⟨s,cur,ns,V⟩:Ct) i ho rk).s.g),pk (dV go),pk (bl gd ge c (bY c (⟨s,cur,ns,V⟩:Ct) i ho rk).V),ce (E.val 0) ((bY c (⟨s,cur,ns,V⟩:Ct) i ho rk).ns)]) (λ_=> .tuple #[.agg (rB 64 (cH c (⟨s,cur,ns,V⟩:Ct) i)).toArray,.agg #[i6 ((bq c (⟨s,cur,ns,V⟩:Ct) i:Nat):Int),i6 ((iz c.mode (mB c (⟨s,cur,ns,V⟩:Ct) i) (i:Int):Nat):Int)]]):=by
 have hcf:=h.cf
 have hm:=hcf.mode
 have HM:=hcf.mode
 have hdv:=h.dv Om
 have hnl:=h.nl
 have hrl:=m6 h.D (i:Int)
 have hln:=oQ c.mode hrl (i:Int)
 have hnl8:ns.length≤800000:=jh h.nl Om
 refine fG Tryz.func87 λw cs=>?_
 refine ra (λq1=>[(3,pt (B0 q1) 0),(4,pt (B1 q1) 0),(5,pt (B2 q1) 0)]) (λq1=>[ob (B0 q1) #[iN i,iN ho,iN rk] 180,ob (B1 q1) (rB 64 z6).toArray 43,ob (B2 q1) #[i6 0,i6 0] 79]) λq1=>rr (λ_=>[(3,.m (ld 0 (pt gd 0))),(5,.m (ld 8 (iN i))),(6,.c [6] [6] (UX gd ge c hcf V hdv (i:Int) hi5)),(10,.m (al 11)),(11,.s 11)]) (λq2=>[(6,pt ((q2 10).abd 0) 0)]) [] (λq2 L=>L.set 6 ((pk (bl gd ge c (qW c V (i:Int)))))++[ob ((q2 10).abd 0) (rB 72 (cd c V.D (i:Int))).toArray 217]) λq2=>rr (λ_=>[(3,.m (ld 0 (pt go 0))),(7,.m (ld 0 (pt gl 0))),(11,.m (ld 1 (iN c.mode))),(12,.m (ls 11 (rB 72 (cd c V.D (i:Int))))),(14,.m (ld 8 (iN i))),(15,.c [5] [] (Va c.mode HM go (cd c V.D (i:Int)) (by(simp only[LL,hrl,hln];done)) (i:Int) Om Om)),(19,.m (al 12)),(20,.m (al 13)),(21,.s 12),(22,.s 13)]) (λq3=>[(8,pt ((q3 19).abd 0) 0),(9,pt ((q3 20).abd 0) 0)]) [] (λq3 L=>L++[ob ((q3 19).abd 0) (rB 64 (m7 c.mode (cd c V.D (i:Int)) (i:Int))).toArray 43,ob ((q3 20).abd 0) #[i6 ((kb c.mode (cd c V.D (i:Int)) (i:Int):Nat):Int),i6 ((iz c.mode (cd c V.D (i:Int)) (i:Int):Nat):Int)] 79]) λq3=>rr (λ_=>[(1,.l 13),(3,.l 8),(5,.l 8),(7,.l 8),(9,.c [0,1,2,3,4,7] [0,2,3,4,7] (Vo gc gl gr gm gq gk gt gg gd go c s _ h.s cur v ns hnl8 hK hcf.h2 (kb c.mode (cd c V.D (i:Int)) (i:Int)) (iz c.mode (cd c V.D (i:Int)) (i:Int)) i ho rk (U6 _ _ _) hrk hho))]) N0 [] (λq4 L=>((((L.set 0 (ob gc #[pt gl 0,pt gd 0,pt go 0,iN cur,((q4 9).val 0)] 119)).set 2 ((pk (aq gr gm gq (dE c.heavy s (⟨1,(kb c.mode (cd c V.D (i:Int)) (i:Int)),(iz c.mode (cd c V.D (i:Int)) (i:Int)),i,ho,rk⟩:Nt)).r)))).set 3 ((pk (aC gk gt (dE c.heavy s (⟨1,(kb c.mode (cd c V.D (i:Int)) (i:Int)),(iz c.mode (cd c V.D (i:Int)) (i:Int)),i,ho,rk⟩:Nt)).k)))).set 4 ((pk (ay gg (dE c.heavy s (⟨1,(kb c.mode (cd c V.D (i:Int)) (i:Int)),(iz c.mode (cd c V.D (i:Int)) (i:Int)),i,ho,rk⟩:Nt)).g)))).set 7 (ce ((q4 9).val 0) (ns++([(⟨1,(kb c.mode (cd c V.D (i:Int)) (i:Int)),(iz c.mode (cd c V.D (i:Int)) (i:Int)),i,ho,rk⟩:Nt)])))) λq4=>rr (λ_=>[(0,.l 12),(1,.l 13),(2,.s 9),(3,.s 10)]) N0 [] (λ_ L=>(L.set 9 (ob (B1 q1) (rB 64 (m7 c.mode (cd c V.D (i:Int)) (i:Int))).toArray 43)).set 10 (ob (B2 q1) #[i6 ((kb c.mode (cd c V.D (i:Int)) (i:Int):Nat):Int),i6 ((iz c.mode (cd c V.D (i:Int)) (i:Int):Nat):Int)] 79)) λq5=>?_
 exact am (.tuple #[.agg (rB 64 (m7 c.mode (cd c V.D (i:Int)) (i:Int))).toArray,.agg #[i6 ((kb c.mode (cd c V.D (i:Int)) (i:Int):Nat):Int),i6 ((iz c.mode (cd c V.D (i:Int)) (i:Int):Nat):Int)]]) (.l [] [] [((q4 9).val 0)]) bh [0,2,3,4,5,6,7] [(1,1)] [9,10] (hf:=by kernel_rfl)
theorem AA(v f:Nat):aa dZ 117 #[.agg #[iN v,iN f]] [] [] N0 (λ_=>i6 (b6 v)):=by
 refine fG Tryz.func117 λw cs=>?_
 refine ra (λq1=>[(1,pt (B0 q1) 0),(2,i6 0)]) (λq1=>[ob (B0 q1) #[iN v,iN f] 79]) λq1=>r0 [(1,.l 0)] [(4,iN v)] [] (r0 [] [(5,.bool ((v:Int)==3))] [] ?_)
 refine cZ (v:Int) 3 (λh4 dh4=>?_) λh4 dh4=>?_
 ·refine r0 [] [(2,i6 40)] [2] ?_
  exact am (i6 40) ab.zero (by unfold b6;(repeat (first | rw[h4] | rw[ALct]))) [] [] []
 refine r0 [] [(7,.bool ((v:Int)==2))] [] ?_
 refine cZ (v:Int) 2 (λh7 dh7=>?_) λh7 dh7=>?_
 ·refine r0 [] [(2,i6 41)] [2] ?_
  exact am (i6 41) ab.zero (by unfold b6;(repeat (first | rw[h4] | rw[h7] | rw[ALct] | rw[ALcf]))) [] [] []
 refine r0 [] [(2,i6 0)] [2] ?_
 exact am (i6 0) ab.zero (by unfold b6;(repeat (first | rw[h4] | rw[h7] | rw[ALcf]))) [] [] []
theorem GY(gc gl gr gm gq gk gg gd go:Nat)(c:Cf)(r:Rp)(hr:aN r)(cur time:Nat)(v:Value)(n:Nat)(hn:n<(r.m.R*r.m.B*r.m.M-r.m.res)*r.m.C):aa dZ 116 #[pt gc 0,iN n] [ob gc #[pt gl 0,pt gd 0,pt go 0,iN cur,v] 119,ob gl (lA c gr gk gg time) 122,pk (aq gr gm gq r)] [2] (λ_=>[pk (aq gr gm gq r)]) (λ_=> .tuple #[.agg #[i6 ((aH r.m r.j n:Nat):Int),i6 ((ao r.m n:Nat):Int),i6 ((aF r.m.way r.m.R r.m.B r.m.M (ao r.m n):Nat):Int)],i6 0]):=by
 refine fG Tryz.func116 λw cs=>?_
 refine ra (λq1=>[(4,pt (B0 q1) 0),(5,i6 0)]) (λq1=>[ob (B0 q1) #[i6 0,i6 0,i6 0] 180]) λq1=>r0 [(3,.m (ld 0 (pt gl 0))),(6,.m (ld 1 (pt gr 0))),(8,.c [2] [2] (RY gr gm gq r hr n hn)),] [(6,i6 ((aH r.m r.j n:Nat):Int)),(7,i6 ((ao r.m n:Nat):Int)),(8,i6 ((aF r.m.way r.m.R r.m.B r.m.M (ao r.m n):Nat):Int)),(9,i6 0)] [] (rF [] 25 (rr (λ_=>[(4,.s 3)]) (λ_=>[(5,i6 0)]) [5] (λ_ L=>L.set 3 (ob (B0 q1) #[i6 ((aH r.m r.j n:Nat):Int),i6 ((ao r.m n:Nat):Int),i6 ((aF r.m.way r.m.R r.m.B r.m.M (ao r.m n):Nat):Int)] 180)) λq4=>?_))
 exact am (.tuple #[.agg #[i6 ((aH r.m r.j n:Nat):Int),i6 ((ao r.m n:Nat):Int),i6 ((aF r.m.way r.m.R r.m.B r.m.M (ao r.m n):Nat):Int)],i6 0]) ab.zero bh [2] [(0,0),(1,1)] [3]
theorem GZ(gc gl gr gm gq gk gg gd go:Nat)(c:Cf)(r:Rp)(hr:aN r)(cur time:Nat)(v:Value)(n:Int)(hn:bQ n (((r.m.R*r.m.B*r.m.M-r.m.res)*r.m.C:Nat):Int)=false):aa dZ 116 #[pt gc 0,i6 n] [ob gc #[pt gl 0,pt gd 0,pt go 0,iN cur,v] 119,ob gl (lA c gr gk gg time) 122,pk (aq gr gm gq r)] [2] (λ_=>[pk (aq gr gm gq r)]) (λ_=> .tuple #[.agg #[i6 0,i6 0,i6 0],i6 30]):=by
 refine fG Tryz.func116 λw cs=>?_
 exact ra (λq1=>[(4,pt (B0 q1) 0),(5,i6 0)]) (λq1=>[ob (B0 q1) #[i6 0,i6 0,i6 0] 180]) λq1=>r0 [(3,.m (ld 0 (pt gl 0))),(6,.m (ld 1 (pt gr 0))),(8,.c [2] [2] (RZ gr gm gq r hr n hn)),] [(6,i6 0),(7,i6 0),(8,i6 0),(9,i6 12)] [] (rT [] 25 (r0 [(1,.s 3)] [(5,i6 30)] [5] (lf ab.zero [2] [(0,0),(1,1)] [3])))
theorem G0(gc gl gr gm gq gk gt gg gd ge go:Nat)(c:Cf)(s:Le)(cur:Nat)(ns:List Nt)(V:Dv)(K A:Nat)(h:bC c ⟨s,cur,ns,V⟩ K A)(v:Value)(hA:A≤700000)(hK:K+3≤1000000000)(n:Nat)(hn:n<(c.R*c.B*c.M-c.res)*c.C)(back:Bool):aa dZ 83 #[pt gc 0,iN n,.bool back] [ob gc #[pt gl 0,pt gd 0,pt go 0,iN cur,v] 119,ob gl (lA c gr gk gg s.time) 122,pk (aq gr gm gq s.r),pk (aC gk gt s.k),pk (ay gg s.g),pk (dV go),pk (bl gd ge c V),ce v ns] [0,2,3,4,5,6,7] (λE=>[ob gc #[pt gl 0,pt gd 0,pt go 0,iN cur,(E.val 0)] 119,pk (aq gr gm gq (cy c (⟨s,cur,ns,V⟩:Ct) n back).s.r),pk (aC gk gt (cy c (⟨s,cur,ns,V⟩:Ct) n back).s.k),pk (ay gg (cy c (⟨s,cur,ns,V⟩:Ct) n back).s.g),pk (dV go),pk (bl gd ge c (cy c (⟨s,cur,ns,V⟩:Ct) n back).V),ce (E.val 0) ((cy c (⟨s,cur,ns,V⟩:Ct) n back).ns)]) (λ_=> .tuple #[.agg (rB 64 (cH c (⟨s,cur,ns,V⟩:Ct) (aA (⟨s,cur,ns,V⟩:Ct) n))).toArray,i6 (b6 (bq c (⟨s,cur,ns,V⟩:Ct) (aA (⟨s,cur,ns,V⟩:Ct) n)))]):=by
 have hcf:=h.cf
 have hm:=hcf.mode
 have HM:=hcf.mode
 have hdv:=h.dv Om
 have hnl:=h.nl
 have hrk:=wl h hn
 have hr:=h.s.r
 have ht:=qZ h hn hK
 have hdt:=ht.dv Om
 have hib:=hrk.1
 have hi5:=hrk.2.1
 have hho:=hrk.2.2.1
 have hrr:=hrk.2.2.2.1
 have hn2:=hrk.2.2.2.2
 have hln:(cH c (⟨s,cur,ns,V⟩:Ct) (aH s.r.m s.r.j n)).length=64:=oQ c.mode (m6 h.D _) _
 refine fG Tryz.func83 λw cs=>?_
 refine ra (λq1=>[(6,pt (B0 q1) 0),(7,i6 0)]) (λq1=>[ob (B0 q1) (rB 64 z6).toArray 43]) λq1=>rr (λ_=>[(2,.c [0,1,2] [2] (GY gc gl gr gm gq gk gg gd go c s.r hr cur s.time v n hn2)),(7,.s 9)]) (λq2=>[(8,pt (B6 q2) 0),(9,i6 0)]) [] (λq2 L=>L++[ob (B6 q2) #[i6 ((aH s.r.m s.r.j n:Nat):Int),i6 ((ao s.r.m n:Nat):Int),i6 ((aF s.r.m.way s.r.m.R s.r.m.B s.r.m.M (ao s.r.m n):Nat):Int)] 180]) λq2=>rF [] 19 (rr (λ_=>[(1,.l 9),(2,.c [0,1,2,3,4,5,6,7] [0,2,3,4,5,6,7] (Az gc gl gr gm gq gk gt gg gd ge go c s cur ns V _ _ h v hA hK (aH s.r.m s.r.j n) (ao s.r.m n) (aF s.r.m.way s.r.m.R s.r.m.B s.r.m.M (ao s.r.m n)) hib hi5 hho hrr)),(8,.s 10),(9,.s 11)]) (λq4=>[(10,pt (B6 q4) 0),(11,pt (B7 q4) 0)]) [] (λq4 L=>(((((L.set 0 (ob gc #[pt gl 0,pt gd 0,pt go 0,iN cur,((q4 2).val 0)] 119)).set 2 ((pk (aq gr gm gq (bY c (⟨s,cur,ns,V⟩:Ct) (aH s.r.m s.r.j n) (ao s.r.m n) (aF s.r.m.way s.r.m.R s.r.m.B s.r.m.M (ao s.r.m n))).s.r)))).set 3 ((pk (aC gk gt (bY c (⟨s,cur,ns,V⟩:Ct) (aH s.r.m s.r.j n) (ao s.r.m n) (aF s.r.m.way s.r.m.R s.r.m.B s.r.m.M (ao s.r.m n))).s.k)))).set 4 ((pk (ay gg (bY c (⟨s,cur,ns,V⟩:Ct) (aH s.r.m s.r.j n) (ao s.r.m n) (aF s.r.m.way s.r.m.R s.r.m.B s.r.m.M (ao s.r.m n))).s.g)))).set 6 ((pk (bl gd ge c (bY c (⟨s,cur,ns,V⟩:Ct) (aH s.r.m s.r.j n) (ao s.r.m n) (aF s.r.m.way s.r.m.R s.r.m.B s.r.m.M (ao s.r.m n))).V)))).set 7 (ce ((q4 2).val 0) ((bY c (⟨s,cur,ns,V⟩:Ct) (aH s.r.m s.r.j n) (ao s.r.m n) (aF s.r.m.way s.r.m.R s.r.m.B s.r.m.M (ao s.r.m n))).ns))++[ob (B6 q4) (rB 64 (cH c (⟨s,cur,ns,V⟩:Ct) (aH s.r.m s.r.j n))).toArray 43,ob (B7 q4) #[i6 ((bq c (⟨s,cur,ns,V⟩:Ct) (aH s.r.m s.r.j n):Nat):Int),i6 ((iz c.mode (mB c (⟨s,cur,ns,V⟩:Ct) (aH s.r.m s.r.j n)) ((aH s.r.m s.r.j n):Int):Nat):Int)] 79]) λq4=>r0 [(1,.l 11)] [(33,.bool ((((bq c (⟨s,cur,ns,V⟩:Ct) (aH s.r.m s.r.j n):Nat):Int)==1)&&back))] [] ?_)
 refine cB ((((bq c (⟨s,cur,ns,V⟩:Ct) (aH s.r.m s.r.j n):Nat):Int)==1)&&back) (λh6=>?_) λh6=>?_
 ·refine rr (λ_=>[(2,.l 9),(3,.l 10),(4,.c [0,1,5,6] [5,6] (pW gc gl gr gk gg gd ge go c hcf cur s.time ((q4 2).val 0) ((bY c (⟨s,cur,ns,V⟩:Ct) (aH s.r.m s.r.j n) (ao s.r.m n) (aF s.r.m.way s.r.m.R s.r.m.B s.r.m.M (ao s.r.m n))).V) hdt (aH s.r.m s.r.j n) hib hi5 (cH c (⟨s,cur,ns,V⟩:Ct) (aH s.r.m s.r.j n)) (by(simp only[LL,hln];done)) false))]) N0 [] (λ_ L=>L.set 6 ((pk (bl gd ge c (iZ ((bY c (⟨s,cur,ns,V⟩:Ct) (aH s.r.m s.r.j n) (ao s.r.m n) (aF s.r.m.way s.r.m.R s.r.m.B s.r.m.M (ao s.r.m n))).V) ((aH s.r.m s.r.j n):Int) (fd c.mode (cH c (⟨s,cur,ns,V⟩:Ct) (aH s.r.m s.r.j n)) ((aH s.r.m s.r.j n):Int) false) (bif false then 1 else 0)))))) λq7=>?_
  refine rr (λ_=>[(0,.l 10),(1,.l 11),(2,.c [] [] (AA (bq c (⟨s,cur,ns,V⟩:Ct) (aH s.r.m s.r.j n)) (iz c.mode (mB c (⟨s,cur,ns,V⟩:Ct) (aH s.r.m s.r.j n)) ((aH s.r.m s.r.j n):Int)))),(3,.s 8)]) (λ_=>[(7,i6 (b6 (bq c (⟨s,cur,ns,V⟩:Ct) (aH s.r.m s.r.j n))))]) [7] (λ_ L=>L.set 8 (ob (B0 q1) (rB 64 (cH c (⟨s,cur,ns,V⟩:Ct) (aH s.r.m s.r.j n))).toArray 43)) λq8=>?_
  exact am (.tuple #[.agg (rB 64 (cH c (⟨s,cur,ns,V⟩:Ct) (aH s.r.m s.r.j n))).toArray,i6 (b6 (bq c (⟨s,cur,ns,V⟩:Ct) (aH s.r.m s.r.j n)))]) (.l [] [] [((q4 2).val 0)]) bh [0,2,3,4,5,6,7] [(1,1)] [8] (hf:=by unfold cy kZ iC aA kD kE;dsimp only;(repeat (first | rw[h6] | rw[ALct] | rw[ALcf]));kernel_rfl)
 refine rr (λ_=>[(0,.l 10),(1,.l 11),(2,.c [] [] (AA (bq c (⟨s,cur,ns,V⟩:Ct) (aH s.r.m s.r.j n)) (iz c.mode (mB c (⟨s,cur,ns,V⟩:Ct) (aH s.r.m s.r.j n)) ((aH s.r.m s.r.j n):Int)))),(3,.s 8)]) (λ_=>[(7,i6 (b6 (bq c (⟨s,cur,ns,V⟩:Ct) (aH s.r.m s.r.j n))))]) [7] (λ_ L=>L.set 8 (ob (B0 q1) (rB 64 (cH c (⟨s,cur,ns,V⟩:Ct) (aH s.r.m s.r.j n))).toArray 43)) λq9=>?_
 exact am (.tuple #[.agg (rB 64 (cH c (⟨s,cur,ns,V⟩:Ct) (aH s.r.m s.r.j n))).toArray,i6 (b6 (bq c (⟨s,cur,ns,V⟩:Ct) (aH s.r.m s.r.j n)))]) (.l [] [] [((q4 2).val 0)]) bh [0,2,3,4,5,6,7] [(1,1)] [8] (hf:=by unfold cy kZ iC aA kD kE;dsimp only;(repeat (first | rw[h6] | rw[ALcf]));kernel_rfl)
def bF(c:Cf)(x:Ct)(n:Nat)(l:List UInt8)(m:Nat):Ct:=kZ x<| bif (m:Int)==0 then x else bif decide (pc m=64) then m8 c x (aA x n) l false else bif !(b6 (bq c x (aA x n))==0) then m8 c (iC c x n) (aA x n) z6 true else m8 c (iC c x n) (aA x n) (gH (cH c x (aA x n)) l m) false
def cv(c:Cf)(x:Ct)(n m:Nat):Int:=bif (m:Int)==0 then 30 else bif decide (pc m=64) then 0 else bif !(b6 (bq c x (aA x n))==0) then b6 (bq c x (aA x n)) else 0
theorem wn(l o:List UInt8)(m:Nat):(gH l o m).length=l.length:=wa o _ l
theorem AB{c:Cf}{x:Ct}{K A:Nat}(h:bC c x K A){n:Nat}(hn:n<(c.R*c.B*c.M-c.res)*c.C){l:List UInt8}(hl:l.length=64)(m:Nat)(hK:K+3≤1000000000):bC c (bF c x n l m) (K+3) (A+2):=by
 have h1:=qZ h hn hK
 unfold bF
 refine h.fix ?_
 cases (m:Int)==0
 ·cases decide (pc m=64)
  ·cases !(b6 (bq c x (aA x n))==0)
   ·exact qY h1 ((wn ..).trans (oQ _ (m6 h.D _) _)) false
   ·exact qY h1 ir true
  ·exact(qY h hl false).mono Om Om
 ·exact h.mono Om Om
def jP(c:Cf)(x:Ct):Ct:={x with cur:=(x.cur+1)%((c.R*c.B*c.M-c.res)*c.C)}
def lW(c:Cf)(x:Ct):Ct:=cy c (jP c x) x.cur true
theorem AC{c:Cf}{x:Ct}{K A:Nat}(h:bC c x K A):bC c (jP c x) K A:=⟨h.cf,h.s,h.D,h.gl,h.vl,h.nl,h.ly,h.run,Nat.mod_lt _ (by have:=h.cur;omega),h.time⟩
theorem Vr{c:Cf}{x:Ct}{K A:Nat}(h:bC c x K A)(hK:K+3≤1000000000):bC c (lW c x) (K+3) (A+2):=GV (AC h) h.cur true hK
theorem AD(l y:List UInt8)(m:Nat)(hl:l.length=64)(hy:y.length=64)(hm:m<18446744073709551616):aa dZ 94 #[.agg (rB 64 l).toArray,.agg (rB 64 y).toArray,u6 (m:Int)] [] [] N0 (λ_=> .agg (rB 64 (gH l y m)).toArray):=by
 have h1:=TN l y m hl hy hm
 rwa [List.take_length] at h1
theorem Vs(gc gl gr gm gq gk gt gg gd ge go:Nat)(c:Cf)(x:Ct)(K A:Nat)(h:bC c x K A)(hA:A≤700000)(hK:K+3≤1000000000)(n:Nat)(hn:n<((c.R*c.B*c.M-c.res)*c.C)):aa dZ 91 #[pt gc 0,iN n] [pk (aR gc gl gr gm gq gk gt gg gd ge go c x)] [0] (λ_=>[pk (aR gc gl gr gm gq gk gt gg gd ge go c (cy c x n c.back))]) (λ_=> .tuple #[.agg (rB 64 (cH c x (aA x n))).toArray,i6 (b6 (bq c x (aA x n)))]):=aa.pkZ Tryz.func91 λL hL=>by
 obtain⟨v,rfl⟩:=hL
 refine⟨[0,2,3,4,5,6,7],λE=>[ob gc #[pt gl 0,pt gd 0,pt go 0,iN x.cur,(E.val 0)] 119,pk (aq gr gm gq (cy c x n c.back).s.r),pk (aC gk gt (cy c x n c.back).s.k),pk (ay gg (cy c x n c.back).s.g),pk (dV go),pk (bl gd ge c (cy c x n c.back).V),ce (E.val 0) ((cy c x n c.back).ns)],?_,rfl,λE=>⟨rfl,rfl,⟨_,rfl⟩⟩⟩
 have hcf:=h.cf
 have hm:=hcf.mode
 have HM:=hcf.mode
 have hdv:=h.dv Om
 have hnl:=h.nl
 refine fG Tryz.func91 λw cs=>?_
 refine ra (λq1=>[(4,pt (B0 q1) 0),(5,i6 0)]) (λq1=>[ob (B0 q1) (rB 64 z6).toArray 43]) λq1=>rr (λ_=>[(5,.m (ld 0 (pt gl 0))),(9,.m (ld 1 (.bool c.back))),(10,.c [0,1,2,3,4,5,6,7] [0,2,3,4,5,6,7] (G0 gc gl gr gm gq gk gt gg gd ge go c x.s x.cur x.ns x.V _ _ h v hA hK n hn c.back)),(13,.s 8)]) (λ_=>[(5,i6 (b6 (bq c x (aA x n))))]) [5] (λq2 L=>((((((L.set 0 (ob gc #[pt gl 0,pt gd 0,pt go 0,iN x.cur,((q2 10).val 0)] 119)).set 2 ((pk (aq gr gm gq (cy c x n c.back).s.r)))).set 3 ((pk (aC gk gt (cy c x n c.back).s.k)))).set 4 ((pk (ay gg (cy c x n c.back).s.g)))).set 6 ((pk (bl gd ge c (cy c x n c.back).V)))).set 7 (ce ((q2 10).val 0) ((cy c x n c.back).ns))).set 8 (ob (B0 q1) (rB 64 (cH c x (aA x n))).toArray 43)) λq2=>?_
 exact am (.tuple #[.agg (rB 64 (cH c x (aA x n))).toArray,i6 (b6 (bq c x (aA x n)))]) (.l [] [] [((q2 10).val 0)]) bh [0,2,3,4,5,6,7] [(1,1)] [8] (hf:=by kernel_rfl)
theorem Vt(gc gl gr gm gq gk gt gg gd ge go:Nat)(c:Cf)(s:Le)(cur:Nat)(ns:List Nt)(V:Dv)(K A:Nat)(h:bC c ⟨s,cur,ns,V⟩ K A)(v:Value)(n:Int)(hn:bQ n ((((c.R*c.B*c.M-c.res)*c.C):Nat):Int)=false)(back:Bool):aa dZ 83 #[pt gc 0,i6 n,.bool back] [ob gc #[pt gl 0,pt gd 0,pt go 0,iN cur,v] 119,ob gl (lA c gr gk gg s.time) 122,pk (aq gr gm gq s.r),pk (aC gk gt s.k),pk (ay gg s.g),pk (dV go),pk (bl gd ge c V),ce v ns] [2,3,4,5,6,7] (λ_=>[pk (aq gr gm gq s.r),pk (aC gk gt s.k),pk (ay gg s.g),pk (dV go),pk (bl gd ge c V),ce v ns]) (λ_=> .tuple #[.agg (rB 64 z6).toArray,i6 30]):=by
 have hr:=h.s.r
 have hnb:bQ n (((s.r.m.R*s.r.m.B*s.r.m.M-s.r.m.res)*s.r.m.C:Nat):Int)=false:=by rw[h.ly.R,h.ly.B,h.ly.M,h.ly.C,h.ly.res];exact hn
 refine fG Tryz.func83 λw cs=>?_
 exact ra (λq1=>[(6,pt (B0 q1) 0),(7,i6 0)]) (λq1=>[ob (B0 q1) (rB 64 z6).toArray 43]) λq1=>rr (λ_=>[(2,.c [0,1,2] [2] (GZ gc gl gr gm gq gk gg gd go c s.r hr cur s.time v n hnb)),(7,.s 9)]) (λq2=>[(8,pt (B6 q2) 0),(9,i6 30)]) [] (λq2 L=>L++[ob (B6 q2) #[i6 0,i6 0,i6 0] 180]) λq2=>rT [] 19 (r0 [(2,.s 8)] [(7,i6 30)] [7] (lf ab.zero [2,3,4,5,6,7] [(0,0),(1,1)] [8]))
theorem Vu(gc gl gr gm gq gk gt gg gd ge go:Nat)(c:Cf)(x:Ct)(K A:Nat)(h:bC c x K A)(n:Int)(hn:bQ n ((((c.R*c.B*c.M-c.res)*c.C):Nat):Int)=false):aa dZ 91 #[pt gc 0,i6 n] [pk (aR gc gl gr gm gq gk gt gg gd ge go c x)] [0] (λ_=>[pk (aR gc gl gr gm gq gk gt gg gd ge go c x)]) (λ_=> .tuple #[.agg (rB 64 z6).toArray,i6 30]):=aa.pkZ Tryz.func91 λL hL=>by
 obtain⟨v,rfl⟩:=hL
 refine⟨[2,3,4,5,6,7],λ_=>[pk (aq gr gm gq x.s.r),pk (aC gk gt x.s.k),pk (ay gg x.s.g),pk (dV go),pk (bl gd ge c x.V),ce v x.ns],?_,rfl,λE=>⟨rfl,rfl,⟨_,rfl⟩⟩⟩
 refine fG Tryz.func91 λw cs=>?_
 exact ra (λq1=>[(4,pt (B0 q1) 0),(5,i6 0)]) (λq1=>[ob (B0 q1) (rB 64 z6).toArray 43]) λq1=>rr (λ_=>[(5,.m (ld 0 (pt gl 0))),(9,.m (ld 1 (.bool c.back))),(10,.c [0,1,2,3,4,5,6,7] [2,3,4,5,6,7] (Vt gc gl gr gm gq gk gt gg gd ge go c x.s x.cur x.ns x.V _ _ h v n hn c.back)),(13,.s 8)]) (λ_=>[(5,i6 30)]) [5] (λ_ L=>L.set 8 (ob (B0 q1) (rB 64 z6).toArray 43)) λq2=>lf ab.zero [2,3,4,5,6,7] [(0,0),(1,1)] [8]
theorem G1(gc gl gr gm gq gk gt gg gd ge go:Nat)(c:Cf)(x:Ct)(K A:Nat)(h:bC c x K A)(hA:A≤700000)(hK:K+3≤1000000000)(n:Nat)(hn:n<((c.R*c.B*c.M-c.res)*c.C))(u:Value)(l:List UInt8)(hl:l.length=64)(m:Nat)(hm5:m<18446744073709551616)(v:Value):aa dZ 93 #[pt gc 0,iN n,u,u6 (m:Int)] [ob gc #[pt gl 0,pt gd 0,pt go 0,iN x.cur,v] 119,ob gl (lA c gr gk gg x.s.time) 122,pk (aq gr gm gq x.s.r),pk (aC gk gt x.s.k),pk (ay gg x.s.g),pk (dV go),pk (bl gd ge c x.V),ce v x.ns,.p (aK eB u l)] [0,2,3,4,5,6,7] (λE=>[ob gc #[pt gl 0,pt gd 0,pt go 0,iN x.cur,(E.val 0)] 119,pk (aq gr gm gq (bF c x n l m).s.r),pk (aC gk gt (bF c x n l m).s.k),pk (ay gg (bF c x n l m).s.g),pk (dV go),pk (bl gd ge c (bF c x n l m).V),ce (E.val 0) ((bF c x n l m).ns)]) (λ_=>i6 (cv c x n m)):=by
 have hcf:=h.cf
 have hm:=hcf.mode
 have HM:=hcf.mode
 have hdv:=h.dv Om
 have hnl:=h.nl
 have hrk:=wl h hn
 have hr:=h.s.r
 have ht:=qZ h hn hK
 have hdt:=ht.dv Om
 have hib:=hrk.1
 have hi5:=hrk.2.1
 have hho:=hrk.2.2.1
 have hrr:=hrk.2.2.2.1
 have hn2:=hrk.2.2.2.2
 have hln:(cH c x (aH x.s.r.m x.s.r.j n)).length=64:=oQ c.mode (m6 h.D _) _
 have hmg:=(wn (cH c x (aH x.s.r.m x.s.r.j n)) l m).trans hln
 have hz6:z6.length=64:=ir
 refine fO Tryz.func93 8 rfl λbq8 hq8=>?_
 refine fG Tryz.func93 λw cs=>?_
 refine r0 [] [(8,i6 0)] [] (rr (λ_=>[(2,.c [0,1,2] [2] (GY gc gl gr gm gq gk gg gd go c x.s.r hr x.cur x.s.time v n hn2)),(7,.s 9)]) (λq2=>[(9,pt (B6 q2) 0),(10,i6 0)]) [] (λq2 L=>L++[ob (B6 q2) #[i6 ((aH x.s.r.m x.s.r.j n:Nat):Int),i6 ((ao x.s.r.m n:Nat):Int),i6 ((aF x.s.r.m.way x.s.r.m.R x.s.r.m.B x.s.r.m.M (ao x.s.r.m n):Nat):Int)] 180]) λq2=>rr (λ_=>[(1,.c [8] [] (aa.at (rd':=[.c bq8]) (F8 u l (by with_reducible assumption)) (em hq8 (λ_ h=>h)))),(6,.s 10)]) (λq3=>[(11,pt (B5 q3) 0),(12,i6 0)]) [] (λq3 L=>L++[ob (B5 q3) (rB 64 l).toArray 43]) λq3=>r0 [] [(27,.bool ((m:Int)==0))] [] ?_)
 refine cZ (m:Int) 0 (λh5 dh5=>?_) λh5 dh5=>?_
 ·refine r0 [] [(8,i6 30)] [8] ?_
  exact am (i6 30) (.l [] [] [v]) (by unfold cv aA;(repeat (first | rw[h5] | rw[ALct]))) [0,2,3,4,5,6,7] [(1,1),(8,8)] [] (hf:=by unfold bF kZ iC aA kD kE;dsimp only;(repeat (first | rw[h5] | rw[ALct]));kernel_rfl)
 refine r0 [(1,.c [] [] (TI m hm5))] [(38,.bool (decide (pc m=64)))] [] ?_
 refine cB (decide (pc m=64)) (λh8=>?_) λh8=>?_
 ·refine rr (λ_=>[(2,.l 9),(3,.l 10),(4,.c [0,1,5,6] [5,6] (pW gc gl gr gk gg gd ge go c hcf x.cur x.s.time v x.V (by with_reducible exact hdv) (aH x.s.r.m x.s.r.j n) hib hi5 l (by with_reducible assumption) false))]) N0 [] (λ_ L=>L.set 6 ((pk (bl gd ge c (iZ x.V ((aH x.s.r.m x.s.r.j n):Int) (fd c.mode l ((aH x.s.r.m x.s.r.j n):Int) false) (bif false then 1 else 0)))))) λq9=>?_
  refine r0 [] [(8,i6 0)] [8] ?_
  exact am (i6 0) (.l [] [] [v]) (by unfold cv aA;(repeat (first | rw[h5] | rw[h8] | rw[ALct] | rw[ALcf]))) [0,2,3,4,5,6,7] [(1,1),(8,8)] [] (hf:=by unfold bF kZ iC aA kD kE;dsimp only;(repeat (first | rw[h5] | rw[h8] | rw[ALct] | rw[ALcf]));kernel_rfl)
 refine rr (λ_=>[(1,.l 9),(2,.c [0,1,2,3,4,5,6,7] [0,2,3,4,5,6,7] (Az gc gl gr gm gq gk gt gg gd ge go c x.s x.cur x.ns x.V _ _ h v hA hK (aH x.s.r.m x.s.r.j n) (ao x.s.r.m n) (aF x.s.r.m.way x.s.r.m.R x.s.r.m.B x.s.r.m.M (ao x.s.r.m n)) hib hi5 hho hrr)),(8,.s 11),(9,.s 12)]) (λq11=>[(13,pt (B6 q11) 0),(14,pt (B7 q11) 0)]) [] (λq11 L=>(((((L.set 0 (ob gc #[pt gl 0,pt gd 0,pt go 0,iN x.cur,((q11 2).val 0)] 119)).set 2 ((pk (aq gr gm gq (bY c x (aH x.s.r.m x.s.r.j n) (ao x.s.r.m n) (aF x.s.r.m.way x.s.r.m.R x.s.r.m.B x.s.r.m.M (ao x.s.r.m n))).s.r)))).set 3 ((pk (aC gk gt (bY c x (aH x.s.r.m x.s.r.j n) (ao x.s.r.m n) (aF x.s.r.m.way x.s.r.m.R x.s.r.m.B x.s.r.m.M (ao x.s.r.m n))).s.k)))).set 4 ((pk (ay gg (bY c x (aH x.s.r.m x.s.r.j n) (ao x.s.r.m n) (aF x.s.r.m.way x.s.r.m.R x.s.r.m.B x.s.r.m.M (ao x.s.r.m n))).s.g)))).set 6 ((pk (bl gd ge c (bY c x (aH x.s.r.m x.s.r.j n) (ao x.s.r.m n) (aF x.s.r.m.way x.s.r.m.R x.s.r.m.B x.s.r.m.M (ao x.s.r.m n))).V)))).set 7 (ce ((q11 2).val 0) ((bY c x (aH x.s.r.m x.s.r.j n) (ao x.s.r.m n) (aF x.s.r.m.way x.s.r.m.R x.s.r.m.B x.s.r.m.M (ao x.s.r.m n))).ns))++[ob (B6 q11) (rB 64 (cH c x (aH x.s.r.m x.s.r.j n))).toArray 43,ob (B7 q11) #[i6 ((bq c x (aH x.s.r.m x.s.r.j n):Nat):Int),i6 ((iz c.mode (mB c x (aH x.s.r.m x.s.r.j n)) ((aH x.s.r.m x.s.r.j n):Int):Nat):Int)] 79]) λq11=>r0 [(0,.l 12),(1,.c [] [] (AA (bq c x (aH x.s.r.m x.s.r.j n)) (iz c.mode (mB c x (aH x.s.r.m x.s.r.j n)) ((aH x.s.r.m x.s.r.j n):Int))))] [(15,i6 (b6 (bq c x (aH x.s.r.m x.s.r.j n))))] [] (r0 [] [(55,.bool ((b6 (bq c x (aH x.s.r.m x.s.r.j n))) != 0))] [] ?_)
 refine nA (b6 (bq c x (aH x.s.r.m x.s.r.j n))) 0 (λh14 dh14=>?_) λh14 dh14=>?_
 ·refine rr (λ_=>[(2,.l 9),(4,.c [0,1,5,6] [5,6] (pW gc gl gr gk gg gd ge go c hcf x.cur x.s.time ((q11 2).val 0) ((bY c x (aH x.s.r.m x.s.r.j n) (ao x.s.r.m n) (aF x.s.r.m.way x.s.r.m.R x.s.r.m.B x.s.r.m.M (ao x.s.r.m n))).V) (by exact hdt) (aH x.s.r.m x.s.r.j n) hib hi5 z6 (by with_reducible assumption) true))]) N0 [] (λ_ L=>L.set 6 ((pk (bl gd ge c (iZ ((bY c x (aH x.s.r.m x.s.r.j n) (ao x.s.r.m n) (aF x.s.r.m.way x.s.r.m.R x.s.r.m.B x.s.r.m.M (ao x.s.r.m n))).V) ((aH x.s.r.m x.s.r.j n):Int) (fd c.mode z6 ((aH x.s.r.m x.s.r.j n):Int) true) (bif true then 1 else 0)))))) λq15=>?_
  refine r0 [] [(8,i6 (b6 (bq c x (aH x.s.r.m x.s.r.j n))))] [8] ?_
  exact am (i6 (b6 (bq c x (aH x.s.r.m x.s.r.j n)))) (.l [] [] [((q11 2).val 0)]) (by unfold cv aA;(repeat (first | rw[h5] | rw[h8] | rw[h14] | rw[ALct] | rw[ALcf]))) [0,2,3,4,5,6,7] [(1,1),(8,8)] [] (hf:=by unfold bF kZ iC aA kD kE;dsimp only;(repeat (first | rw[h5] | rw[h8] | rw[h14] | rw[ALct] | rw[ALcf]));kernel_rfl)
 refine rs [(2,.l 9),(3,.l 11),(4,.l 10),(6,.c [] [] (AD (cH c x (aH x.s.r.m x.s.r.j n)) l m (by with_reducible assumption) (by with_reducible assumption) hm5)),(7,.c [0,1,5,6] [5,6] (pW gc gl gr gk gg gd ge go c hcf x.cur x.s.time ((q11 2).val 0) ((bY c x (aH x.s.r.m x.s.r.j n) (ao x.s.r.m n) (aF x.s.r.m.way x.s.r.m.R x.s.r.m.B x.s.r.m.M (ao x.s.r.m n))).V) (by exact hdt) (aH x.s.r.m x.s.r.j n) hib hi5 (gH (cH c x (aH x.s.r.m x.s.r.j n)) l m) (by with_reducible assumption) false))] 6 ((pk (bl gd ge c (iZ ((bY c x (aH x.s.r.m x.s.r.j n) (ao x.s.r.m n) (aF x.s.r.m.way x.s.r.m.R x.s.r.m.B x.s.r.m.M (ao x.s.r.m n))).V) ((aH x.s.r.m x.s.r.j n):Int) (fd c.mode (gH (cH c x (aH x.s.r.m x.s.r.j n)) l m) ((aH x.s.r.m x.s.r.j n):Int) false) (bif false then 1 else 0))))) (r0 [] [(8,i6 0)] [8] ?_)
 exact am (i6 0) (.l [] [] [((q11 2).val 0)]) (by unfold cv aA;(repeat (first | rw[h5] | rw[h8] | rw[h14] | rw[ALcf]))) [0,2,3,4,5,6,7] [(1,1),(8,8)] [] (hf:=by unfold bF kZ iC aA kD kE;dsimp only;(repeat (first | rw[h5] | rw[h8] | rw[h14] | rw[ALcf]));kernel_rfl)
theorem G2(gc gl gr gm gq gk gt gg gd ge go:Nat)(c:Cf)(x:Ct)(K A:Nat)(h:bC c x K A)(hA:A≤700000)(hK:K+3≤1000000000)(n:Nat)(hn:n<((c.R*c.B*c.M-c.res)*c.C))(u:Value)(l:List UInt8)(hl:l.length=64)(m:Nat)(hm5:m<18446744073709551616):aa dZ 93 #[pt gc 0,iN n,u,u6 (m:Int)] [pk (aR gc gl gr gm gq gk gt gg gd ge go c x),.p (aK eB u l)] [0] (λ_=>[pk (aR gc gl gr gm gq gk gt gg gd ge go c (bF c x n l m))]) (λ_=>i6 (cv c x n m)):=aa.pkZ Tryz.func93 λL hL=>by
 obtain⟨v,rfl⟩:=hL
 exact⟨[0,2,3,4,5,6,7],λE=>[ob gc #[pt gl 0,pt gd 0,pt go 0,iN x.cur,(E.val 0)] 119,pk (aq gr gm gq (bF c x n l m).s.r),pk (aC gk gt (bF c x n l m).s.k),pk (ay gg (bF c x n l m).s.g),pk (dV go),pk (bl gd ge c (bF c x n l m).V),ce (E.val 0) ((bF c x n l m).ns)],G1 gc gl gr gm gq gk gt gg gd ge go c x K A h hA hK n hn u l hl m hm5 v,rfl,λE=>⟨rfl,rfl,⟨_,rfl⟩⟩⟩
section
variable {R S B M C way r b w:Nat}
theorem Vv(hG:f9 R S B M C)(hr:r<R)(hb:b<B)(hw:w<M):mt way R B M r b w<R*B*M:=by
 have e1:R*B*M=M*B*R:=by rw[jg (R*B),jg R,←eF]
 have e2:R*B*M=R*M*B:=by rw[eF,jg B,eF]
 match way with
 | 0=>exact s9 hw hb hr
 | 1=>rw[e2];exact s9 hb hw hr
 | 2=>rw[e1];exact s9 hr hb hw
 | k+3=>rw[e1];exact s9 hr (qC hG.pow hb) hw
theorem aad(hG:f9 R S B M C)(hr:r<R)(hb:b<B)(hw:w<M):aF way R B M (mt way R B M r b w)=r∧ed way R B M (mt way R B M r b w)=b∧ec way R B M (mt way R B M r b w)=w:=by
 match way with
 | 0=>
  have h:=ZC hw hb hr
  exact⟨ALca (·.getD 2 0) h,ALca (·.getD 1 0) h,ALca (·.getD 0 0) h⟩
 | 1=>
  have h:=ZC hb hw hr
  exact⟨ALca (·.getD 2 0) h,ALca (·.getD 0 0) h,ALca (·.getD 1 0) h⟩
 | 2=>
  have h:=ZC hr hb hw
  exact⟨ALca (·.getD 0 0) h,ALca (·.getD 1 0) h,ALca (·.getD 2 0) h⟩
 | k+3=>
  have h:=ZC hr (qC hG.pow hb (r:=w)) hw
  refine⟨ALca (·.getD 0 0) h,?_,ALca (·.getD 2 0) h⟩
  show fP B ((aE (eu [r,fP B w b,w] [R,B,M] 3) [R,B,M] 3).getD 2 0) ((aE (eu [r,fP B w b,w] [R,B,M] 3) [R,B,M] 3).getD 1 0)=b
  rw[show aE (eu [r,fP B w b,w] [R,B,M] 3) [R,B,M] 3=[r,fP B w b,w] from h]
  exact QA B w b
end
def cN(r:Rp):Nat:=if r.j.aa2=1 then r.j.fr else mt r.m.way r.m.R r.m.B r.m.M r.j.fr (r.j.nx/r.m.C/r.m.M) (r.j.nx/r.m.C%r.m.M)
def dF(r:Rp):Nat:=if r.j.aa2=1 then aF r.m.way r.m.R r.m.B r.m.M r.j.fr else r.j.fr
theorem G3{r:Rp}(h:aN r)(hb:r.j.aa2≠0)(hi:r.j.nx<eK r.j.aa2 r.m.B r.m.M r.m.C):cN r<r.m.R*r.m.B*r.m.M∧dF r<r.m.R∧jO r.m.R r.m.S r.m.B r.m.M r.m.C (aQ r.m r.j.aa2 r.j.fr r.j.nx)∧jO r.m.R r.m.S r.m.B r.m.M r.m.C (aQ r.m r.j.aa2 r.j.tg r.j.nx):=by
 unfold cN dF
 rcases h.j.k with e | ⟨e,hj⟩ | ⟨e,hj⟩
 ·rw[e] at hb;exact absurd rfl hb
 ·rw[e] at hi⊢
  exact⟨hj.hf,nP h.m.abc,Aw h.m hj.hf hi,Aw h.m hj.ht hi⟩
 ·rw[e] at hi⊢
  have hn:=oJ h.m (r:=r.j.fr) (i:=r.j.nx) (by have:=hj.hf;omega) hi
  have:=hj.t1;have:=h.m.rk
  exact⟨Vv h.m.abc hj.hf hn.h1 hn.h2,hj.hf,Ax h.m (by have:=hj.hf;omega) hi,Ax h.m Om hi⟩
theorem Vw(gc gl gr gm gq gk gt gg gd ge go:Nat)(c:Cf)(x:Ct)(K A:Nat)(h:bC c x K A)(hA:A≤700000)(hK:K+3≤1000000000)(n:Nat)(hn:n<((c.R*c.B*c.M-c.res)*c.C))(u:Value)(l:List UInt8)(hl:l.length=64):aa dZ 92 #[pt gc 0,iN n,u] [pk (aR gc gl gr gm gq gk gt gg gd ge go c x),.p (aK eB u l)] [0] (λ_=>[pk (aR gc gl gr gm gq gk gt gg gd ge go c (bF c x n l 18446744073709551615))]) (λ_=>i6 (cv c x n 18446744073709551615)):=aa.pkZ Tryz.func92 λL hL=>by
 obtain⟨v,rfl⟩:=hL
 refine⟨[0,2,3,4,5,6,7],λE=>[ob gc #[pt gl 0,pt gd 0,pt go 0,iN x.cur,(E.val 0)] 119,pk (aq gr gm gq (bF c x n l 18446744073709551615).s.r),pk (aC gk gt (bF c x n l 18446744073709551615).s.k),pk (ay gg (bF c x n l 18446744073709551615).s.g),pk (dV go),pk (bl gd ge c (bF c x n l 18446744073709551615).V),ce (E.val 0) ((bF c x n l 18446744073709551615).ns)],?_,rfl,λE=>⟨rfl,rfl,⟨_,rfl⟩⟩⟩
 have hcf:=h.cf
 have hm:=hcf.mode
 have HM:=hcf.mode
 have hdv:=h.dv Om
 have hnl:=h.nl
 refine fO Tryz.func92 8 rfl λbq8 hq8=>?_
 refine fG Tryz.func92 λw cs=>?_
 exact r0 [] [(6,i6 0)] [] (rr (λ_=>[(3,.c [0,1,2,3,4,5,6,7,8] [0,2,3,4,5,6,7] (aa.at (rd':=[ob gc #[pt gl 0,pt gd 0,pt go 0,iN x.cur,v] 119,ob gl (lA c gr gk gg x.s.time) 122,pk (aq gr gm gq x.s.r),pk (aC gk gt x.s.k),pk (ay gg x.s.g),pk (dV go),pk (bl gd ge c x.V),ce v x.ns,.c bq8]) (G1 gc gl gr gm gq gk gt gg gd ge go c x _ _ h hA hK n hn u l (by with_reducible assumption) 18446744073709551615 Om v) (ak (ak (ak (ak (ak (ak (ak (ak (em hq8 (λ_ h=>h))))))))))))]) (λ_=>[(6,i6 (cv c x n 18446744073709551615))]) [6] (λq2 L=>(((((L.set 0 (ob gc #[pt gl 0,pt gd 0,pt go 0,iN x.cur,((q2 3).val 0)] 119)).set 2 ((pk (aq gr gm gq (bF c x n l 18446744073709551615).s.r)))).set 3 ((pk (aC gk gt (bF c x n l 18446744073709551615).s.k)))).set 4 ((pk (ay gg (bF c x n l 18446744073709551615).s.g)))).set 6 ((pk (bl gd ge c (bF c x n l 18446744073709551615).V)))).set 7 (ce ((q2 3).val 0) ((bF c x n l 18446744073709551615).ns))) λq2=>lf (.l [] [] [((q2 3).val 0)]) [0,2,3,4,5,6,7] [(1,1),(8,8)] [])
theorem G4(gc gl gr gm gq gk gt gg gd ge go:Nat)(c:Cf)(x:Ct)(K A:Nat)(h:bC c x K A)(n:Int)(hn:bQ n ((((c.R*c.B*c.M-c.res)*c.C):Nat):Int)=false)(u:Value)(l:List UInt8)(hl:l.length=64)(m:Nat)(v:Value):aa dZ 93 #[pt gc 0,i6 n,u,u6 (m:Int)] [ob gc #[pt gl 0,pt gd 0,pt go 0,iN x.cur,v] 119,ob gl (lA c gr gk gg x.s.time) 122,pk (aq gr gm gq x.s.r),pk (aC gk gt x.s.k),pk (ay gg x.s.g),pk (dV go),pk (bl gd ge c x.V),ce v x.ns,.p (aK eB u l)] [2,3,4,5,6,7] (λ_=>[pk (aq gr gm gq x.s.r),pk (aC gk gt x.s.k),pk (ay gg x.s.g),pk (dV go),pk (bl gd ge c x.V),ce v x.ns]) (λ_=>i6 30):=by
 have hr:=h.s.r
 have hnb:bQ n (((x.s.r.m.R*x.s.r.m.B*x.s.r.m.M-x.s.r.m.res)*x.s.r.m.C:Nat):Int)=false:=by rw[h.ly.R,h.ly.B,h.ly.M,h.ly.C,h.ly.res];exact hn
 refine fO Tryz.func93 8 rfl λbq8 hq8=>?_
 refine fG Tryz.func93 λw cs=>?_
 exact r0 [] [(8,i6 0)] [] (rr (λ_=>[(2,.c [0,1,2] [2] (GZ gc gl gr gm gq gk gg gd go c x.s.r hr x.cur x.s.time v n hnb)),(7,.s 9)]) (λq2=>[(9,pt (B6 q2) 0),(10,i6 30)]) [] (λq2 L=>L++[ob (B6 q2) #[i6 0,i6 0,i6 0] 180]) λq2=>rr (λ_=>[(1,.c [8] [] (aa.at (rd':=[.c bq8]) (F8 u l (by with_reducible assumption)) (em hq8 (λ_ h=>h)))),(6,.s 10)]) (λq3=>[(11,pt (B5 q3) 0),(12,i6 0)]) [] (λq3 L=>L++[ob (B5 q3) (rB 64 l).toArray 43]) λq3=>rT [(3,.d),(4,.d),(7,.d),(8,.d)] 27 (r0 [] [(8,i6 30)] [8] (lf ab.zero [2,3,4,5,6,7] [(0,0),(1,1),(8,8)] [])))
theorem Vx(gc gl gr gm gq gk gt gg gd ge go:Nat)(c:Cf)(x:Ct)(K A:Nat)(h:bC c x K A)(n:Int)(hn:bQ n ((((c.R*c.B*c.M-c.res)*c.C):Nat):Int)=false)(u:Value)(l:List UInt8)(hl:l.length=64)(m:Nat):aa dZ 93 #[pt gc 0,i6 n,u,u6 (m:Int)] [pk (aR gc gl gr gm gq gk gt gg gd ge go c x),.p (aK eB u l)] [0] (λ_=>[pk (aR gc gl gr gm gq gk gt gg gd ge go c x)]) (λ_=>i6 30):=aa.pkZ Tryz.func93 λL hL=>by
 obtain⟨v,rfl⟩:=hL
 exact⟨[2,3,4,5,6,7],λ_=>[pk (aq gr gm gq x.s.r),pk (aC gk gt x.s.k),pk (ay gg x.s.g),pk (dV go),pk (bl gd ge c x.V),ce v x.ns],G4 gc gl gr gm gq gk gt gg gd ge go c x K A h n hn u l hl m v,rfl,λE=>⟨rfl,rfl,⟨_,rfl⟩⟩⟩
theorem Vy(gc gl gr gm gq gk gt gg gd ge go:Nat)(c:Cf)(x:Ct)(K A:Nat)(h:bC c x K A)(n:Int)(hn:bQ n ((((c.R*c.B*c.M-c.res)*c.C):Nat):Int)=false)(u:Value)(l:List UInt8)(hl:l.length=64):aa dZ 92 #[pt gc 0,i6 n,u] [pk (aR gc gl gr gm gq gk gt gg gd ge go c x),.p (aK eB u l)] [0] (λ_=>[pk (aR gc gl gr gm gq gk gt gg gd ge go c x)]) (λ_=>i6 30):=aa.pkZ Tryz.func92 λL hL=>by
 obtain⟨v,rfl⟩:=hL
 refine⟨[2,3,4,5,6,7],λ_=>[pk (aq gr gm gq x.s.r),pk (aC gk gt x.s.k),pk (ay gg x.s.g),pk (dV go),pk (bl gd ge c x.V),ce v x.ns],?_,rfl,λE=>⟨rfl,rfl,⟨_,rfl⟩⟩⟩
 refine fO Tryz.func92 8 rfl λbq8 hq8=>?_
 refine fG Tryz.func92 λw cs=>?_
 exact r0 [] [(6,i6 0)] [] (r0 [(3,.c [0,1,2,3,4,5,6,7,8] [2,3,4,5,6,7] (aa.at (rd':=[ob gc #[pt gl 0,pt gd 0,pt go 0,iN x.cur,v] 119,ob gl (lA c gr gk gg x.s.time) 122,pk (aq gr gm gq x.s.r),pk (aC gk gt x.s.k),pk (ay gg x.s.g),pk (dV go),pk (bl gd ge c x.V),ce v x.ns,.c bq8]) (G4 gc gl gr gm gq gk gt gg gd ge go c x _ _ h n hn u l (by with_reducible assumption) 18446744073709551615 v) (ak (ak (ak (ak (ak (ak (ak (ak (em hq8 (λ_ h=>h))))))))))))] [(6,i6 30)] [6] (lf ab.zero [2,3,4,5,6,7] [(0,0),(1,1),(8,8)] []))
theorem Vz(gc gl gr gm gq gk gt gg gd ge go:Nat)(c:Cf)(x:Ct)(K A:Nat)(h:bC c x K A)(hA:A≤700000)(hK:K+3≤1000000000):aa dZ 49 #[pt gc 0] [pk (aR gc gl gr gm gq gk gt gg gd ge go c x)] [0] (λ_=>[pk (aR gc gl gr gm gq gk gt gg gd ge go c (lW c x))]) (λ_=> .tuple #[iN x.cur,i6 (b6 (bq c (jP c x) (aA (jP c x) x.cur)))]):=aa.pkZ Tryz.func49 λL hL=>by
 obtain⟨v,rfl⟩:=hL
 refine⟨[0,2,3,4,5,6,7],λE=>[ob gc #[pt gl 0,pt gd 0,pt go 0,i6 (((lW c x).cur:Nat):Int),E.val 0] 119,pk (aq gr gm gq (lW c x).s.r),pk (aC gk gt (lW c x).s.k),pk (ay gg (lW c x).s.g),pk (dV go),pk (bl gd ge c (lW c x).V),ce (E.val 0) ((lW c x).ns)],?_,rfl,λE=>⟨rfl,rfl,⟨_,rfl⟩⟩⟩
 have hcf:=h.cf
 have hm:=hcf.mode
 have HM:=hcf.mode
 have hdv:=h.dv Om
 have hnl:=h.nl
 have hly:=hcf.ly
 have hcu:=h.cur
 have hlm:=jh (Nat.mul_le_mul_right c.C (Nat.sub_le (c.R*c.B*c.M) c.res)) hcf.abc.bd.rbmc
 have hc2:=AC h
 refine fG Tryz.func49 λw cs=>?_
 refine r0 [] [(2,i6 0),(3,i6 0)] [] (r0 [(3,.l 0)] [(4,iN x.cur)] [] (rs [(2,ad x.cur 1),(6,.m (ld 0 (pt gl 0))),(10,.m (ls 1 ([iN c.R,iN c.S,iN c.B,iN c.M,iN c.C,iN c.way,iN c.res]))),(11,.c [] [] (zC c.R c.S c.B c.M c.C c.way c.res hly)),(12,.t (tb (a:=i6 ((x.cur+1:Nat):Int)) (b:=i6 (((((c.R*c.B)*c.M)-c.res)*c.C:Nat):Int)) λ_ _ _ _=>om (a:=x.cur+1) (d:=(((c.R*c.B)*c.M)-c.res)*c.C) Om)),(15,.s 0)] 0 (ob gc #[pt gl 0,pt gd 0,pt go 0,i6 (((x.cur+1)%((((c.R*c.B)*c.M)-c.res)*c.C):Nat):Int),v] 119) ?_))
 have h:=hc2
 refine rr (λ_=>[(2,.c [0,1,2,3,4,5,6,7] [0,2,3,4,5,6,7] (G0 gc gl gr gm gq gk gt gg gd ge go c x.s ((x.cur+1)%((((c.R*c.B)*c.M)-c.res)*c.C)) x.ns x.V _ _ h v hA hK x.cur hcu true)),(7,.s 8)]) (λ_=>[(6,i6 (b6 (bq c (⟨x.s,((x.cur+1)%((((c.R*c.B)*c.M)-c.res)*c.C)),x.ns,x.V⟩:Ct) (aA (⟨x.s,((x.cur+1)%((((c.R*c.B)*c.M)-c.res)*c.C)),x.ns,x.V⟩:Ct) x.cur))))]) [] (λq4 L=>(((((L.set 0 (ob gc #[pt gl 0,pt gd 0,pt go 0,i6 (((x.cur+1)%((((c.R*c.B)*c.M)-c.res)*c.C):Nat):Int),((q4 2).val 0)] 119)).set 2 ((pk (aq gr gm gq (cy c (⟨x.s,((x.cur+1)%((((c.R*c.B)*c.M)-c.res)*c.C)),x.ns,x.V⟩:Ct) x.cur true).s.r)))).set 3 ((pk (aC gk gt (cy c (⟨x.s,((x.cur+1)%((((c.R*c.B)*c.M)-c.res)*c.C)),x.ns,x.V⟩:Ct) x.cur true).s.k)))).set 4 ((pk (ay gg (cy c (⟨x.s,((x.cur+1)%((((c.R*c.B)*c.M)-c.res)*c.C)),x.ns,x.V⟩:Ct) x.cur true).s.g)))).set 6 ((pk (bl gd ge c (cy c (⟨x.s,((x.cur+1)%((((c.R*c.B)*c.M)-c.res)*c.C)),x.ns,x.V⟩:Ct) x.cur true).V)))).set 7 (ce ((q4 2).val 0) ((cy c (⟨x.s,((x.cur+1)%((((c.R*c.B)*c.M)-c.res)*c.C)),x.ns,x.V⟩:Ct) x.cur true).ns))++[ob (B6 q4) (rB 64 (cH c (⟨x.s,((x.cur+1)%((((c.R*c.B)*c.M)-c.res)*c.C)),x.ns,x.V⟩:Ct) (aA (⟨x.s,((x.cur+1)%((((c.R*c.B)*c.M)-c.res)*c.C)),x.ns,x.V⟩:Ct) x.cur))).toArray 43]) λq4=>r0 [] [(2,iN x.cur),(3,i6 (b6 (bq c (⟨x.s,((x.cur+1)%((((c.R*c.B)*c.M)-c.res)*c.C)),x.ns,x.V⟩:Ct) (aA (⟨x.s,((x.cur+1)%((((c.R*c.B)*c.M)-c.res)*c.C)),x.ns,x.V⟩:Ct) x.cur))))] [2,3] ?_
 exact am (.tuple #[iN x.cur,i6 (b6 (bq c (⟨x.s,((x.cur+1)%((((c.R*c.B)*c.M)-c.res)*c.C)),x.ns,x.V⟩:Ct) (aA (⟨x.s,((x.cur+1)%((((c.R*c.B)*c.M)-c.res)*c.C)),x.ns,x.V⟩:Ct) x.cur)))]) (.l [] [] [((q4 2).val 0)]) bh [0,2,3,4,5,6,7] [(1,1)] [] (hf:=by kernel_rfl)
end Go.Proofs.YtbcodenfkijdnaaGreat.E
namespace Go.Proofs.YtbcodenfkijdnaaGreat.E
open Go Go.RowKit Go.Shelf
open Go.Proofs.Tryz renaming prog→dZ
open List renaming length_append→eF
open Nat renaming le_succ_of_le→ir,le_trans→jg,succ_le_succ→jh
open Classical renaming choose→jm
theorem VA(gc gl gr gm gq gk gg gd go:Nat)(c:Cf)(r:Rp)(hr:aN r)(cur time:Nat)(v:Value)(i:Nat)(hk:r.j.aa2=1)(hf5:r.j.fr<r.m.R*r.m.B*r.m.M):aa dZ 85 #[pt gc 0,iN i] [ob gc #[pt gl 0,pt gd 0,pt go 0,iN cur,v] 119,ob gl (lA c gr gk gg time) 122,pk (aq gr gm gq r)] [2] (λ_=>[pk (aq gr gm gq r)]) (λ_=> .agg #[iN i,iN r.j.fr,i6 ((aF r.m.way r.m.R r.m.B r.m.M r.j.fr:Nat):Int)]):=by
 have hG:=hr.m.abc
 have hwy:=hr.m.ly.way
 have hpx:=Ff hr.m hf5
 refine fG Tryz.func85 λw cs=>?_
 exact ra (λq1=>[(4,pt (B0 q1) 0)]) (λq1=>[ob (B0 q1) #[i6 0,i6 0,i6 0] 180]) λq1=>rr (λ_=>[(3,.m (ld 0 (pt gl 0))),(6,.m (ld 1 (pt gr 0))),(7,.c [2] [2] (zT gr gm gq r hr)),(11,.m (ld 0 (pt gl 0))),(14,.m (ld 1 (pt gr 0))),(15,.c [2] [2] (v4 gr gm gq r hr)),(16,.c [2] [2] (F7 gr gm gq r hr)),(17,.m (al 4)),(18,.m (al 5)),(19,.s 4),(20,.s 5)]) (λq2=>[(5,pt ((q2 17).abd 0) 0),(6,pt ((q2 18).abd 0) 0)]) [] (λq2 L=>L++[ob ((q2 17).abd 0) #[iN r.j.aa2,iN r.j.fr,iN r.j.tg,iN r.j.nx] 70,ob ((q2 18).abd 0) #[iN r.m.R,iN r.m.S,iN r.m.B,iN r.m.M,iN r.m.C,iN r.m.way,iN r.m.res] 25]) λq2=>rF [(1,.l 4),(2,.t (tk (show Value.bool ((r.j.aa2:Int)==2)= .bool false from ALca Value.bool (by rw[hk];rfl))))] 30 (r0 [(1,.m (ls 5 ([iN r.m.R,iN r.m.S,iN r.m.B,iN r.m.M,iN r.m.C]))),(3,.m (ld 5 (iN r.m.way))),(5,.m (ld 4 (iN r.j.fr))),(6,.c [] [] (Fd r.m.R r.m.S r.m.B r.m.M r.m.C hG r.m.way Om r.j.fr Om)),] [(9,i6 ((iu r.m.way r.m.R r.m.B r.m.M r.j.fr:Nat):Int))] [] (rs [(2,.l 4),(4,.t (tv (ar .shr 3 (.tmp 59) (.const (u6 14)) (i6 ((iu r.m.way r.m.R r.m.B r.m.M r.j.fr:Nat):Int)) (u6 14)) (λ_=>dU (b:=((aF r.m.way r.m.R r.m.B r.m.M r.j.fr:Nat):Int)) (i8 14 Dc) Om))),(6,.s 3)] 3 (ob (B0 q1) #[iN i,iN r.j.fr,i6 ((aF r.m.way r.m.R r.m.B r.m.M r.j.fr:Nat):Int)] 180) (lf ab.zero [2] [(0,0),(1,1)] [3])))
theorem VB(gc gl gr gm gq gk gg gd go:Nat)(c:Cf)(r:Rp)(hr:aN r)(cur time:Nat)(v:Value)(i:Nat)(hk:r.j.aa2=2)(he:i=iQ r.m r.j.fr r.j.nx)(hf5:r.j.fr<r.m.R)(hn5:r.j.nx<r.m.B*r.m.M*r.m.C):aa dZ 85 #[pt gc 0,iN i] [ob gc #[pt gl 0,pt gd 0,pt go 0,iN cur,v] 119,ob gl (lA c gr gk gg time) 122,pk (aq gr gm gq r)] [2] (λ_=>[pk (aq gr gm gq r)]) (λ_=> .agg #[iN i,i6 ((mt r.m.way r.m.R r.m.B r.m.M r.j.fr (r.j.nx/r.m.C/r.m.M) (r.j.nx/r.m.C%r.m.M):Nat):Int),iN r.j.fr]):=by
 have hG:=hr.m.abc
 have hwy:=hr.m.ly.way
 have hni:=oJ hr.m (r:=r.j.fr) Om hn5
 have hb1:=hni.h1
 have hb2:=hni.h2
 have hb3:=hni.h3
 have hc64:=hG.bd.c64
 refine fG Tryz.func85 λw cs=>?_
 exact ra (λq1=>[(4,pt (B0 q1) 0)]) (λq1=>[ob (B0 q1) #[i6 0,i6 0,i6 0] 180]) λq1=>rr (λ_=>[(3,.m (ld 0 (pt gl 0))),(6,.m (ld 1 (pt gr 0))),(7,.c [2] [2] (zT gr gm gq r hr)),(11,.m (ld 0 (pt gl 0))),(14,.m (ld 1 (pt gr 0))),(15,.c [2] [2] (v4 gr gm gq r hr)),(16,.c [2] [2] (F7 gr gm gq r hr)),(17,.m (al 4)),(18,.m (al 5)),(19,.s 4),(20,.s 5)]) (λq2=>[(5,pt ((q2 17).abd 0) 0),(6,pt ((q2 18).abd 0) 0)]) [] (λq2 L=>L++[ob ((q2 17).abd 0) #[iN r.j.aa2,iN r.j.fr,iN r.j.tg,iN r.j.nx] 70,ob ((q2 18).abd 0) #[iN r.m.R,iN r.m.S,iN r.m.B,iN r.m.M,iN r.m.C,iN r.m.way,iN r.m.res] 25]) λq2=>rT [(1,.l 4),(2,.t (tk (show Value.bool ((r.j.aa2:Int)==2)= .bool true from ALca Value.bool (by rw[hk];rfl))))] 30 (r0 [(1,.m (ls 5 ([iN r.m.R,iN r.m.S,iN r.m.B,iN r.m.M,iN r.m.C]))),(3,.m (ld 5 (iN r.m.way))),(5,.t (tv (ar .shr 3 (.tmp 36) (.const (u6 6)) (iN i) (u6 6)) (λ_=>dU (b:=((r.j.fr*16384+r.j.nx/r.m.C/r.m.M*1024+r.j.nx/r.m.C%r.m.M:Nat):Int)) (i8 6 Dc) (by rw[he];unfold iQ bJ;omega)))),(6,.c [] [] (QL r.m.R r.m.S r.m.B r.m.M r.m.C hG r.m.way hwy r.j.fr (r.j.nx/r.m.C/r.m.M) (r.j.nx/r.m.C%r.m.M) hf5 hb1 hb2)),] [(7,i6 ((mt r.m.way r.m.R r.m.B r.m.M r.j.fr (r.j.nx/r.m.C/r.m.M) (r.j.nx/r.m.C%r.m.M):Nat):Int))] [] (rs [(3,.l 4),(5,.s 3)] 3 (ob (B0 q1) #[iN i,i6 ((mt r.m.way r.m.R r.m.B r.m.M r.j.fr (r.j.nx/r.m.C/r.m.M) (r.j.nx/r.m.C%r.m.M):Nat):Int),iN r.j.fr] 180) (lf ab.zero [2] [(0,0),(1,1)] [3])))
theorem VC(gc gl gr gm gq gk gg gd go:Nat)(c:Cf)(r:Rp)(hr:aN r)(cur time:Nat)(v:Value)(i:Nat)(hb:r.j.aa2≠0)(hi:r.j.nx<eK r.j.aa2 r.m.B r.m.M r.m.C)(he:i=aQ r.m r.j.aa2 r.j.fr r.j.nx):aa dZ 85 #[pt gc 0,iN i] [ob gc #[pt gl 0,pt gd 0,pt go 0,iN cur,v] 119,ob gl (lA c gr gk gg time) 122,pk (aq gr gm gq r)] [2] (λ_=>[pk (aq gr gm gq r)]) (λ_=> .agg #[iN i,i6 ((cN r:Nat):Int),i6 ((dF r:Nat):Int)]):=by
 unfold cN dF
 rcases hr.j.k with e | ⟨e,hj⟩ | ⟨e,hj⟩
 ·rw[e] at hb;exact absurd rfl hb
 ·rw[ALifp e,ALifp e]
  exact VA gc gl gr gm gq gk gg gd go c r hr cur time v i e hj.hf
 ·rw[e] at hi he
  rw[ALifn Om,ALifn Om]
  exact VB gc gl gr gm gq gk gg gd go c r hr cur time v i e he hj.hf hi
def wo(y:Ct):Ct:={y with s:=iX y.s,ns:=y.ns++[(⟨3,0,0,0,0,0⟩:Nt)]}
def k9(x:Ct):Nat:=aQ x.s.r.m x.s.r.j.aa2 x.s.r.j.fr x.s.r.j.nx
def oR(x:Ct):Nat:=aQ x.s.r.m x.s.r.j.aa2 x.s.r.j.tg x.s.r.j.nx
def mC(x:Ct):Bool:=decide (cN x.s.r<x.s.r.m.R*x.s.r.m.B*x.s.r.m.M-x.s.r.m.res+x.s.r.m.aba)&& !x.s.r.m.aa4.getD (cN x.s.r) false
def wq(c:Cf)(x:Ct):Ct:=bY c x (k9 x) (cN x.s.r) (dF x.s.r)
def fK(c:Cf)(x:Ct):Ct:=bif mC x then m8 c (wq c x) (oR x) (cH c x (k9 x)) (decide (2≤((bq c x (k9 x):Nat):Int))) else m8 c x (oR x) z6 false
def ic(c:Cf)(x:Ct):Ct:=kZ x (wo (fK c x))
theorem G5{c:Cf}{x:Ct}{K A:Nat}(h:bC c x K A)(hb:x.s.r.j.aa2≠0)(hK:K+3≤1000000000):bC c (fK c x) (K+3) (A+2)∧(fK c x).s.r.j=x.s.r.j∧(fK c x).s.r.m=x.s.r.m:=by
 have hs:=G3 h.s.r hb (h.run hb)
 unfold fK
 cases mC x
 ·exact⟨(qY h List.length_replicate false).mono Om Om,rfl,rfl⟩
 ·have h1:=Ay (i:=k9 x) h hs.2.1 hs.1 hK
  exact⟨qY h1 (oQ _ (m6 h.D _) _) _,GT c.heavy x.s _ hb⟩
theorem VD{c:Cf}{x:Ct}{K A:Nat}(h:bC c x K A)(hb:x.s.r.j.aa2≠0)(hK:K+257≤1000000000):bC c (wo x) (K+257) (A+1):=by
 refine⟨h.cf,T3 h.s hb (h.run hb) hK,h.D,h.gl,ir h.vl,?_,h.ly.tr (T4 x.s),Vi h.s.r hb h.run,h.cur,h.time⟩
 show(x.ns++[_]).length≤A+1
 rw[eF]
 exact jh h.nl
theorem VE{c:Cf}{x:Ct}{K A:Nat}(h:bC c x K A)(hb:x.s.r.j.aa2≠0)(hK:K+260≤1000000000):bC c (ic c x) (K+260) (A+3):=by
 obtain⟨h1,h2,h3⟩:=G5 h hb Om
 exact h.fix (VD h1 (by rw[h2];exact hb) Om)
def Zq(x:Ct):Ct:={x with s:=Gl x.s,ns:=x.ns++[(⟨2,0,0,0,0,0⟩:Nt)]}
def rc(x:Ct):Ct:={x with s:=Gm x.s,ns:=x.ns++[(⟨4,0,0,0,0,0⟩:Nt)]}
theorem VF{c:Cf}{x:Ct}{K A:Nat}(h:bC c x K A)(ht:x.s.time<1099511627776):bC c (Zq x) K (A+1):=by
 refine⟨h.cf,T5 h.s,h.D,h.gl,ir h.vl,?_,h.ly,h.run,h.cur,ht⟩
 show(x.ns++[_]).length≤A+1
 rw[eF]
 exact jh h.nl
theorem VG{c:Cf}{x:Ct}{K A:Nat}(h:bC c x K A):bC c (rc x) K (A+1):=by
 refine⟨h.cf,T6 h.s,h.D,h.gl,ir h.vl,?_,h.ly,h.run,h.cur,h.time⟩
 show(x.ns++[_]).length≤A+1
 rw[eF]
 exact jh h.nl
theorem VH(gc gl gr gm gq gk gt gg gd ge go:Nat)(c:Cf)(x:Ct)(K A:Nat)(h:bC c x K A)(hA:A≤700000)(ht:x.s.time<1099511627776):aa dZ 51 #[pt gc 0] [pk (aR gc gl gr gm gq gk gt gg gd ge go c x)] [0] (λ_=>[pk (aR gc gl gr gm gq gk gt gg gd ge go c (Zq x))]) (λ_=>i6 0):=aa.pkZ Tryz.func51 λL hL=>by
 obtain⟨v,rfl⟩:=hL
 refine⟨[0,1,2,3,4,5,6,7],λE=>[ob gc #[pt gl 0,pt gd 0,pt go 0,iN x.cur,(E.val 0)] 119,ob gl (lA c gr gk gg ((x.s.time+1:Nat))) 122,pk (aq gr gm gq x.s.r),pk (aC gk gt (mZ x.s.k)),pk (ay gg x.s.g),pk (dV go),pk (bl gd ge c x.V),ce (E.val 0) (x.ns++([(⟨2,0,0,0,0,0⟩:Nt)]))],?_,rfl,λE=>⟨rfl,rfl,⟨_,rfl⟩⟩⟩
 have hs:=h.s
 have hnl8:x.ns.length≤800000:=jg h.nl Om
 have ht5:x.s.time≤1000000000000000:=by omega
 refine fG Tryz.func51 λw cs=>?_
 exact r0 [] [(2,i6 0)] [] (rF [(3,.l 0),(6,.l 1),(7,.t (tk (show Value.bool (decide (1099511627776≤(x.s.time:Int)))= .bool false from ALca Value.bool (by exact bj Om))))] 10 (rr (λ_=>[(2,.c [0,1,2,3,4,7] [0,1,2,3,4,7] (Vp gc gl gr gm gq gk gt gg gd go c x.s _ hs x.cur v x.ns hnl8 ht5))]) N0 [] (λq3 L=>(((L.set 0 (ob gc #[pt gl 0,pt gd 0,pt go 0,iN x.cur,((q3 2).val 0)] 119)).set 1 (ob gl (lA c gr gk gg ((x.s.time+1:Nat))) 122)).set 3 ((pk (aC gk gt (mZ x.s.k))))).set 7 (ce ((q3 2).val 0) (x.ns++([(⟨2,0,0,0,0,0⟩:Nt)])))) λq3=>r0 [] [(2,i6 0)] [2] (lf (.l [] [] [((q3 2).val 0)]) [0,1,2,3,4,5,6,7] [] [])))
theorem VI(gc gl gr gm gq gk gt gg gd ge go:Nat)(c:Cf)(x:Ct)(K A:Nat)(h:bC c x K A)(hA:A≤700000):aa dZ 52 #[pt gc 0] [pk (aR gc gl gr gm gq gk gt gg gd ge go c x)] [0] (λ_=>[pk (aR gc gl gr gm gq gk gt gg gd ge go c (rc x))]) (λ_=>iN x.s.g.l.length):=aa.pkZ Tryz.func52 λL hL=>by
 obtain⟨v,rfl⟩:=hL
 refine⟨[0,2,3,4,5,6,7],λE=>[ob gc #[pt gl 0,pt gd 0,pt go 0,iN x.cur,(E.val 0)] 119,pk (aq gr gm gq x.s.r),pk (aC gk gt x.s.k),pk (ay gg (nS x.s.g)),pk (dV go),pk (bl gd ge c x.V),ce (E.val 0) (x.ns++([(⟨4,0,0,0,0,0⟩:Nt)]))],?_,rfl,λE=>⟨rfl,rfl,⟨_,rfl⟩⟩⟩
 have hs:=h.s
 have hnl8:x.ns.length≤800000:=jg h.nl Om
 refine fG Tryz.func52 λw cs=>?_
 exact r0 [] [(2,i6 0)] [] (r0 [(3,.l 0),(6,.l 1),(7,.c [4] [4] (FR gg x.s.g))] [(3,iN x.s.g.l.length)] [] (rr (λ_=>[(2,.c [0,1,2,3,4,7] [0,2,3,4,7] (Vq gc gl gr gm gq gk gt gg gd go c x.s _ hs x.cur v x.ns hnl8))]) N0 [] (λq3 L=>((L.set 0 (ob gc #[pt gl 0,pt gd 0,pt go 0,iN x.cur,((q3 2).val 0)] 119)).set 4 ((pk (ay gg (nS x.s.g))))).set 7 (ce ((q3 2).val 0) (x.ns++([(⟨4,0,0,0,0,0⟩:Nt)])))) λq3=>r0 [] [(2,iN x.s.g.l.length)] [2] (lf (.l [] [] [((q3 2).val 0)]) [0,2,3,4,5,6,7] [(1,1)] [])))
theorem VJ(gc gl gr gm gq gk gt gg gd ge go:Nat)(c:Cf)(x:Ct)(K A:Nat)(h:bC c x K A)(hb:x.s.r.j.aa2=0):aa dZ 50 #[pt gc 0] [pk (aR gc gl gr gm gq gk gt gg gd ge go c x)] [0] (λ_=>[pk (aR gc gl gr gm gq gk gt gg gd ge go c x)]) (λ_=>i6 51):=aa.pkZ Tryz.func50 λL hL=>by
 obtain⟨v,rfl⟩:=hL
 refine⟨[2,3,4,5,6,7],λ_=>[pk (aq gr gm gq x.s.r),pk (aC gk gt x.s.k),pk (ay gg x.s.g),pk (dV go),pk (bl gd ge c x.V),ce v x.ns],?_,rfl,λE=>⟨rfl,rfl,⟨_,rfl⟩⟩⟩
 have hr:=h.s.r
 refine fG Tryz.func50 λw cs=>?_
 exact r0 [] [(2,i6 0)] [] (r0 [(3,.m (ld 0 (pt gl 0))),(6,.m (ld 1 (pt gr 0))),(7,.c [2] [2] (Sn gr gm gq x.s.r hr hb)),] [(3,i6 0),(4,i6 0),(5,i6 51)] [] (rT [] 22 (r0 [] [(2,i6 51)] [2] (lf ab.zero [2,3,4,5,6,7] [(0,0),(1,1)] []))))
theorem VK(gc gl gr gm gq gk gt gg gd ge go:Nat)(c:Cf)(x:Ct)(K A:Nat)(h:bC c x K A)(hA:A≤700000)(hK:K+260≤1000000000)(hb:x.s.r.j.aa2≠0):aa dZ 50 #[pt gc 0] [pk (aR gc gl gr gm gq gk gt gg gd ge go c x)] [0] (λ_=>[pk (aR gc gl gr gm gq gk gt gg gd ge go c (ic c x))]) (λ_=>i6 0):=aa.pkZ Tryz.func50 λL hL=>by
 obtain⟨v,rfl⟩:=hL
 refine⟨[0,1,2,3,4,5,6,7],λE=>[ob gc #[pt gl 0,pt gd 0,pt go 0,iN x.cur,(E.val 0)] 119,ob gl #[iN c.R,iN c.S,iN c.B,iN c.M,iN c.C,iN c.way,iN c.res,iN c.mode,iN c.lr,iN c.er,iN c.lp,iN c.ep,iN c.room,iN c.heavy,iN c.log,.bool c.back,pt gr 0,pt gk 0,pt gg 0,i6 (((ic c x).s.time:Nat):Int)] 122,pk (aq gr gm gq (ic c x).s.r),pk (aC gk gt (ic c x).s.k),pk (ay gg (ic c x).s.g),pk (dV go),pk (bl gd ge c (ic c x).V),ce (E.val 0) ((ic c x).ns)],?_,rfl,λE=>⟨rfl,rfl,⟨_,rfl⟩⟩⟩
 have hcf:=h.cf
 have hm:=hcf.mode
 have HM:=hcf.mode
 have hdv:=h.dv Om
 have hnl:=h.nl
 have hr:=h.s.r
 have hi:=h.run hb
 have hs:=G3 hr hb hi
 have hsh:=hs.1
 have hsr:=hs.2.1
 have hf1:=(hs.2.2.1.lay h.ly).bd hcf.abc
 have hf2:=(hs.2.2.1.lay h.ly).has hcf.abc
 have ht1:=(hs.2.2.2.lay h.ly).bd hcf.abc
 have ht2:=(hs.2.2.2.lay h.ly).has hcf.abc
 have hK3:K+3≤1000000000:=by omega
 have ht:bC c (bY c x (aQ x.s.r.m x.s.r.j.aa2 x.s.r.j.fr x.s.r.j.nx) (cN x.s.r) (dF x.s.r)) (K+3) (A+1):=Ay h hs.2.1 hs.1 hK3
 have hts:=ht.s
 have hs0:=h.s
 have hj:=GT c.heavy x.s (m9 c x (aQ x.s.r.m x.s.r.j.aa2 x.s.r.j.fr x.s.r.j.nx) (cN x.s.r) (dF x.s.r)) hb
 have hdt:=ht.dv Om
 have hl1:(bY c x (aQ x.s.r.m x.s.r.j.aa2 x.s.r.j.fr x.s.r.j.nx) (cN x.s.r) (dF x.s.r)).ns.length≤800000:=jg ht.nl Om
 have hl0:x.ns.length≤800000:=jg h.nl Om
 have hb1:(bY c x (aQ x.s.r.m x.s.r.j.aa2 x.s.r.j.fr x.s.r.j.nx) (cN x.s.r) (dF x.s.r)).s.r.j.aa2≠0:=by show(dE _ _ _).r.j.aa2≠0;rw[hj.1];exact hb
 have hi1:(bY c x (aQ x.s.r.m x.s.r.j.aa2 x.s.r.j.fr x.s.r.j.nx) (cN x.s.r) (dF x.s.r)).s.r.j.nx<eK (bY c x (aQ x.s.r.m x.s.r.j.aa2 x.s.r.j.fr x.s.r.j.nx) (cN x.s.r) (dF x.s.r)).s.r.j.aa2 (bY c x (aQ x.s.r.m x.s.r.j.aa2 x.s.r.j.fr x.s.r.j.nx) (cN x.s.r) (dF x.s.r)).s.r.m.B (bY c x (aQ x.s.r.m x.s.r.j.aa2 x.s.r.j.fr x.s.r.j.nx) (cN x.s.r) (dF x.s.r)).s.r.m.M (bY c x (aQ x.s.r.m x.s.r.j.aa2 x.s.r.j.fr x.s.r.j.nx) (cN x.s.r) (dF x.s.r)).s.r.m.C:=by show(dE _ _ _).r.j.nx<eK (dE _ _ _).r.j.aa2 (dE _ _ _).r.m.B (dE _ _ _).r.m.M (dE _ _ _).r.m.C;rw[hj.1,hj.2];exact hi
 have hKa:K+257≤1000000000:=by omega
 have hKb:K+3+257≤1000000000:=by omega
 have hln:(cH c x (aQ x.s.r.m x.s.r.j.aa2 x.s.r.j.fr x.s.r.j.nx)).length=64:=oQ c.mode (m6 h.D _) _
 refine fG Tryz.func50 λw cs=>?_
 refine r0 [] [(2,i6 0)] [] (r0 [(3,.m (ld 0 (pt gl 0))),(6,.m (ld 1 (pt gr 0))),(7,.c [2] [2] (Sm gr gm gq x.s.r hr hb hi)),] [(3,i6 ((aQ x.s.r.m x.s.r.j.aa2 x.s.r.j.fr x.s.r.j.nx:Nat):Int)),(4,i6 ((aQ x.s.r.m x.s.r.j.aa2 x.s.r.j.tg x.s.r.j.nx:Nat):Int)),(5,i6 0)] [] (rF [] 22 (rr (λ_=>[(2,.c [0,1,2] [2] (VC gc gl gr gm gq gk gg gd go c x.s.r hr x.cur x.s.time v (aQ x.s.r.m x.s.r.j.aa2 x.s.r.j.fr x.s.r.j.nx) hb hi rfl)),(4,.s 8)]) (λq4=>[(6,pt (B3 q4) 0)]) [] (λq4 L=>L++[ob (B3 q4) #[i6 ((aQ x.s.r.m x.s.r.j.aa2 x.s.r.j.fr x.s.r.j.nx:Nat):Int),i6 ((cN x.s.r:Nat):Int),i6 ((dF x.s.r:Nat):Int)] 180]) λq4=>r0 [(3,.l 0),(6,.l 1),(7,.c [2] [2] (v4 gr gm gq x.s.r hr)),(9,.l 8),(10,.c [2] [2] (Tz gr gm gq x.s.r hr (cN x.s.r) hsh))] [(37,.bool (decide ((cN x.s.r)<x.s.r.m.R*x.s.r.m.B*x.s.r.m.M-x.s.r.m.res+x.s.r.m.aba)&& !x.s.r.m.aa4.getD (cN x.s.r) false))] [] ?_)))
 refine cB (decide ((cN x.s.r)<x.s.r.m.R*x.s.r.m.B*x.s.r.m.M-x.s.r.m.res+x.s.r.m.aba)&& !x.s.r.m.aa4.getD (cN x.s.r) false) (λh6=>?_) λh6=>?_
 ·refine rr (λ_=>[(1,.l 8),(2,.c [0,1,2,3,4,5,6,7] [0,2,3,4,5,6,7] (Az gc gl gr gm gq gk gt gg gd ge go c x.s x.cur x.ns x.V _ _ h v hA hK3 (aQ x.s.r.m x.s.r.j.aa2 x.s.r.j.fr x.s.r.j.nx) (cN x.s.r) (dF x.s.r) hf1 hf2 hsh hsr)),(8,.s 9),(9,.s 10)]) (λq7=>[(7,pt (B6 q7) 0),(8,pt (B7 q7) 0)]) [] (λq7 L=>(((((L.set 0 (ob gc #[pt gl 0,pt gd 0,pt go 0,iN x.cur,((q7 2).val 0)] 119)).set 2 ((pk (aq gr gm gq (bY c x (aQ x.s.r.m x.s.r.j.aa2 x.s.r.j.fr x.s.r.j.nx) (cN x.s.r) (dF x.s.r)).s.r)))).set 3 ((pk (aC gk gt (bY c x (aQ x.s.r.m x.s.r.j.aa2 x.s.r.j.fr x.s.r.j.nx) (cN x.s.r) (dF x.s.r)).s.k)))).set 4 ((pk (ay gg (bY c x (aQ x.s.r.m x.s.r.j.aa2 x.s.r.j.fr x.s.r.j.nx) (cN x.s.r) (dF x.s.r)).s.g)))).set 6 ((pk (bl gd ge c (bY c x (aQ x.s.r.m x.s.r.j.aa2 x.s.r.j.fr x.s.r.j.nx) (cN x.s.r) (dF x.s.r)).V)))).set 7 (ce ((q7 2).val 0) ((bY c x (aQ x.s.r.m x.s.r.j.aa2 x.s.r.j.fr x.s.r.j.nx) (cN x.s.r) (dF x.s.r)).ns))++[ob (B6 q7) (rB 64 (cH c x (aQ x.s.r.m x.s.r.j.aa2 x.s.r.j.fr x.s.r.j.nx))).toArray 43,ob (B7 q7) #[i6 ((bq c x (aQ x.s.r.m x.s.r.j.aa2 x.s.r.j.fr x.s.r.j.nx):Nat):Int),i6 ((iz c.mode (mB c x (aQ x.s.r.m x.s.r.j.aa2 x.s.r.j.fr x.s.r.j.nx)) ((aQ x.s.r.m x.s.r.j.aa2 x.s.r.j.fr x.s.r.j.nx):Int):Nat):Int)] 79]) λq7=>?_
  refine cl [ob gc #[pt gl 0,pt gd 0,pt go 0,iN x.cur,((q7 2).val 0)] 119,ob gl #[iN c.R,iN c.S,iN c.B,iN c.M,iN c.C,iN c.way,iN c.res,iN c.mode,iN c.lr,iN c.er,iN c.lp,iN c.ep,iN c.room,iN c.heavy,iN c.log,.bool c.back,pt gr 0,pt gk 0,pt gg 0,i6 (((bY c x (aQ x.s.r.m x.s.r.j.aa2 x.s.r.j.fr x.s.r.j.nx) (cN x.s.r) (dF x.s.r)).s.time:Nat):Int)] 122,pk (aq gr gm gq (bY c x (aQ x.s.r.m x.s.r.j.aa2 x.s.r.j.fr x.s.r.j.nx) (cN x.s.r) (dF x.s.r)).s.r),pk (aC gk gt (bY c x (aQ x.s.r.m x.s.r.j.aa2 x.s.r.j.fr x.s.r.j.nx) (cN x.s.r) (dF x.s.r)).s.k),pk (ay gg (bY c x (aQ x.s.r.m x.s.r.j.aa2 x.s.r.j.fr x.s.r.j.nx) (cN x.s.r) (dF x.s.r)).s.g),pk (dV go),pk (bl gd ge c (bY c x (aQ x.s.r.m x.s.r.j.aa2 x.s.r.j.fr x.s.r.j.nx) (cN x.s.r) (dF x.s.r)).V),ce ((q7 2).val 0) ((bY c x (aQ x.s.r.m x.s.r.j.aa2 x.s.r.j.fr x.s.r.j.nx) (cN x.s.r) (dF x.s.r)).ns),ob (B3 q4) #[i6 ((aQ x.s.r.m x.s.r.j.aa2 x.s.r.j.fr x.s.r.j.nx:Nat):Int),i6 ((cN x.s.r:Nat):Int),i6 ((dF x.s.r:Nat):Int)] 180,ob (B6 q7) (rB 64 (cH c x (aQ x.s.r.m x.s.r.j.aa2 x.s.r.j.fr x.s.r.j.nx))).toArray 43,ob (B7 q7) #[i6 ((bq c x (aQ x.s.r.m x.s.r.j.aa2 x.s.r.j.fr x.s.r.j.nx):Nat):Int),i6 ((iz c.mode (mB c x (aQ x.s.r.m x.s.r.j.aa2 x.s.r.j.fr x.s.r.j.nx)) ((aQ x.s.r.m x.s.r.j.aa2 x.s.r.j.fr x.s.r.j.nx):Int):Nat):Int)] 79] (by skip;kernel_rfl) ?_
  exact rs [(2,.l 9),(4,.l 10),(6,.c [0,1,5,6] [5,6] (pW gc gl gr gk gg gd ge go c hcf x.cur ((bY c x (aQ x.s.r.m x.s.r.j.aa2 x.s.r.j.fr x.s.r.j.nx) (cN x.s.r) (dF x.s.r)).s.time) ((q7 2).val 0) ((bY c x (aQ x.s.r.m x.s.r.j.aa2 x.s.r.j.fr x.s.r.j.nx) (cN x.s.r) (dF x.s.r)).V) (by with_reducible exact hdt) (aQ x.s.r.m x.s.r.j.aa2 x.s.r.j.tg x.s.r.j.nx) ht1 ht2 (cH c x (aQ x.s.r.m x.s.r.j.aa2 x.s.r.j.fr x.s.r.j.nx)) (by with_reducible assumption) (decide (2≤((bq c x (aQ x.s.r.m x.s.r.j.aa2 x.s.r.j.fr x.s.r.j.nx):Nat):Int)))))] 6 ((pk (bl gd ge c (iZ ((bY c x (aQ x.s.r.m x.s.r.j.aa2 x.s.r.j.fr x.s.r.j.nx) (cN x.s.r) (dF x.s.r)).V) ((aQ x.s.r.m x.s.r.j.aa2 x.s.r.j.tg x.s.r.j.nx):Int) (fd c.mode (cH c x (aQ x.s.r.m x.s.r.j.aa2 x.s.r.j.fr x.s.r.j.nx)) ((aQ x.s.r.m x.s.r.j.aa2 x.s.r.j.tg x.s.r.j.nx):Int) (decide (2≤((bq c x (aQ x.s.r.m x.s.r.j.aa2 x.s.r.j.fr x.s.r.j.nx):Nat):Int)))) (bif (decide (2≤((bq c x (aQ x.s.r.m x.s.r.j.aa2 x.s.r.j.fr x.s.r.j.nx):Nat):Int))) then 1 else 0))))) (rr (λ_=>[(2,.c [0,1,2,3,4,7] [0,2,3,4,7] (GX gc gl gr gm gq gk gt gg gd go c ((bY c x (aQ x.s.r.m x.s.r.j.aa2 x.s.r.j.fr x.s.r.j.nx) (cN x.s.r) (dF x.s.r)).s) _ (by with_reducible exact hts) x.cur ((q7 2).val 0) ((bY c x (aQ x.s.r.m x.s.r.j.aa2 x.s.r.j.fr x.s.r.j.nx) (cN x.s.r) (dF x.s.r)).ns) (by with_reducible exact hl1) (by with_reducible exact hKb) (by with_reducible exact hb1) (by with_reducible exact hi1)))]) N0 [] (λq9 L=>((((L.set 0 (ob gc #[pt gl 0,pt gd 0,pt go 0,iN x.cur,((q9 2).val 0)] 119)).set 2 ((pk (aq gr gm gq (iX ((bY c x (aQ x.s.r.m x.s.r.j.aa2 x.s.r.j.fr x.s.r.j.nx) (cN x.s.r) (dF x.s.r)).s)).r)))).set 3 ((pk (aC gk gt (iX ((bY c x (aQ x.s.r.m x.s.r.j.aa2 x.s.r.j.fr x.s.r.j.nx) (cN x.s.r) (dF x.s.r)).s)).k)))).set 4 ((pk (ay gg (iX ((bY c x (aQ x.s.r.m x.s.r.j.aa2 x.s.r.j.fr x.s.r.j.nx) (cN x.s.r) (dF x.s.r)).s)).g)))).set 7 (ce ((q9 2).val 0) (((bY c x (aQ x.s.r.m x.s.r.j.aa2 x.s.r.j.fr x.s.r.j.nx) (cN x.s.r) (dF x.s.r)).ns)++([(⟨3,0,0,0,0,0⟩:Nt)])))) λq9=>r0 [] [(2,i6 0)] [2] (lf (.l [] [] [((q9 2).val 0)]) [0,1,2,3,4,5,6,7] [] [] (hf:=by unfold ic kZ wo fK mC wq k9 oR;dsimp only;(repeat (first | rw[h6] | rw[ALct]));kernel_rfl)))
 exact rs [(3,.c [0,1,5,6] [5,6] (pW gc gl gr gk gg gd ge go c hcf x.cur x.s.time v x.V (by with_reducible exact hdv) (aQ x.s.r.m x.s.r.j.aa2 x.s.r.j.tg x.s.r.j.nx) ht1 ht2 z6 bh false))] 6 ((pk (bl gd ge c (iZ x.V ((aQ x.s.r.m x.s.r.j.aa2 x.s.r.j.tg x.s.r.j.nx):Int) (fd c.mode z6 ((aQ x.s.r.m x.s.r.j.aa2 x.s.r.j.tg x.s.r.j.nx):Int) false) (bif false then 1 else 0))))) (rr (λ_=>[(2,.c [0,1,2,3,4,7] [0,2,3,4,7] (GX gc gl gr gm gq gk gt gg gd go c x.s _ (by with_reducible exact hs0) x.cur v x.ns (by with_reducible exact hl0) (by with_reducible exact hKa) (by with_reducible exact hb) (by with_reducible exact hi)))]) N0 [] (λq12 L=>((((L.set 0 (ob gc #[pt gl 0,pt gd 0,pt go 0,iN x.cur,((q12 2).val 0)] 119)).set 2 ((pk (aq gr gm gq (iX x.s).r)))).set 3 ((pk (aC gk gt (iX x.s).k)))).set 4 ((pk (ay gg (iX x.s).g)))).set 7 (ce ((q12 2).val 0) (x.ns++([(⟨3,0,0,0,0,0⟩:Nt)])))) λq12=>r0 [] [(2,i6 0)] [2] (lf (.l [] [] [((q12 2).val 0)]) [0,1,2,3,4,5,6,7] [] [] (hf:=by unfold ic kZ wo fK mC wq k9 oR;dsimp only;(repeat (first | rw[h6] | rw[ALcf]));kernel_rfl)))
section
variable {F:Fence} {n:Nat} {P:Program} {R:List Nat} {base:World} {Q:Exit→Act→World→Prop} {S:List It} {a:Sl} {sz:Nat} {es:Fe} {L:ah} {Ds:List Nat}
def AE(F:Fence)(n:Nat)(P:Program)(c:Code)(T:Exit→Act→World→Prop):Nat→Act→World→Prop
 | 0,_,_=>False
 | k+1,b,W=>c.wpIn F n P (Exit.then (AE F n P c T k) T) b W
def tC(F:Fence)(n:Nat)(P:Program)(Q:Exit→Act→World→Prop)(S:List It)(k:Nat):Exit→Act→World→Prop:=Exit.then (AE F n P (gM S) (dg F n P Q (bT S)) k) (dg F n P Q (bT S))
theorem lu(N:Nat)(hk:Go F n P R base (tC F n P Q S N) [.c (gM S)] ⟨sz,es⟩ L Ds)(hS:oq S=true:=by kernel_rfl):Go F n P R base Q S ⟨sz,es⟩ L Ds:=by
 classical
 refine⟨λb W hb hO=>dR 1000 S ?_⟩
 rw[show dz 1000 S=_ from uG hS]
 show(Code.loop (gM S)).wpIn F n P (dg F n P Q (bT S)) b W
 let J:Nat→Act→World→Prop:=AE F n P (gM S) (dg F n P Q (bT S))
 let μ:Act→World→Nat:=λb W=>if h: ∃j,J j b W then jm (lD h) else 0
 have hμ: ∀b W,(∃j,J j b W)→J (μ b W) b W∧∀i,i<μ b W→¬J i b W:=by
  intro b W h
  have e:μ b W=jm (lD h):=dif_pos h
  rw[e]
  exact Classical.choose_spec (lD h)
 refine wpIn_loop (λb W=>∃j,J j b W) μ ⟨N+1,hk.out b W hb hO⟩ λb W hI=>?_
 have h1:=(hμ b W hI).1
 obtain⟨m,hm⟩: ∃m,m=μ b W:=⟨_,rfl⟩
 rw[←hm] at h1
 cases m with
 | zero=>exact h1.elim
 | succ m=>
  refine wpIn_mono (show(gM S).wpIn F n P _ b W from h1) λe b' W' he=>?_
  cases e with
  | normal=>
   have hJ:J m b' W':=he
   have h2:μ b' W'≤m:=Nat.le_of_not_lt λhl=>(hμ b' W' ⟨_,hJ⟩).2 _ hl hJ
   exact⟨⟨_,hJ⟩,by omega⟩
  | _=>exact he
theorem fe{k:Nat}{S0:List It}(hk:Go F n P R base (tC F n P Q S0 k) [.c (gM S0)] a L Ds)(hS:(nf S).isEmpty=true:=by kernel_rfl):Go F n P R base (tC F n P Q S0 (k+1)) S a L Ds:=by
 refine⟨λb W hb hO=>dR 1000 S ?_⟩
 rw[show dz 1000 S=[] from List.isEmpty_iff.1 hS]
 exact hk.out b W hb hO
theorem oS{k:Nat}{S0:List It}(hk:Go F n P R base Q ((kj S (bT S0)).getD []) a L Ds)(hS:(kj S (bT S0)).isSome=true:=by kernel_rfl):Go F n P R base (tC F n P Q S0 k) S a L Ds:=by
 obtain⟨S1,h1⟩:=Option.isSome_iff_exists.1 hS
 rw[h1] at hk
 exact⟨λb W hb hO=>uH h1 (hk.out b W hb hO) λ_=>rfl⟩
instance {F:Fence} {n:Nat} {P:Program} {Q Q0:Exit→Act→World→Prop} {S0:List It} {k:Nat} [h:Rt Q Q0]:Rt (tC F n P Q S0 k) Q0:=⟨λb W hq=>io (S:=bT S0) (h.out b W hq)⟩
end
end Go.Proofs.YtbcodenfkijdnaaGreat.E
namespace Go.Proofs.YtbcodenfkijdnaaGreat.E
open Go Go.RowKit Go.Shelf
open List renaming replicate→dZ,length_append→jm,range→na,length_range→pD,length_map→qx,flatten→rj
open Go.Proofs.Tryz renaming prog→eF
open Nat renaming le_trans→ir,succ_le_succ→jg,le_succ→jh,le_succ_of_le→jw,mul_comm→ka,succ_mul→kP,zero_mul→nN,add_zero→n7,mul_le_mul_right→po,div_eq_of_lt→p4,mod_eq_of_lt→p6,mul_add_div→qz,mul_add_mod→qA,mul_assoc→qB
open Go.Result renaming andThen_ok→oG
structure St where
 k:Int
 ln:Int
 d:List UInt8
 m:Nat
 f0:Int
 f1:Int
 f2:Int
 f3:Int
 f4:Int
 f5:Int
 f6:Int
 f7:Int
abbrev sL(k ln:Int)(d:List UInt8)(m f0 f1 f2 f3 f4 f5 f6 f7:Int):List Value:=([i6 k,i6 ln]:List Value)++rB 64 d++([u6 m,i6 f0,i6 f1,i6 f2,i6 f3,i6 f4,i6 f5,i6 f6,i6 f7]:List Value)
abbrev sV(k ln:Int)(d:List UInt8)(m f0 f1 f2 f3 f4 f5 f6 f7:Int):Array Value:=(sL k ln d m f0 f1 f2 f3 f4 f5 f6 f7).toArray
def av:St:=⟨0,0,dZ 64 0,0,0,0,0,0,0,0,0,0⟩
def eSt(x:St):List Value:=[i6 x.k,i6 x.ln]++rB 64 x.d++[u6 (x.m:Int),i6 x.f0,i6 x.f1,i6 x.f2,i6 x.f3,i6 x.f4,i6 x.f5,i6 x.f6,i6 x.f7]
def VL:Kd eF St:=⟨eSt,[i6 0,i6 0]++dZ 64 (u1 0)++[u6 0,i6 0,i6 0,i6 0,i6 0,i6 0,i6 0,i6 0,i6 0],32,50,av,75,λ_=>rfl,rfl,λ_=>rfl,d9.mk' Kr Kr rfl⟩
theorem G6(b:Nat)(k ln:Int)(d:List UInt8)(m:Nat)(f1 f2 f3 f4 f5 f6 f7:Int):aa eF 95 #[pt b 67] [ob b (sV k ln d m 1 f1 f2 f3 f4 f5 f6 f7) 50] [] (λE=>[ob (E.abd 0) #[pt b 68,pt b 69,pt b 70,pt b 71,pt b 73] 197]) (λE=> .slice (some ⟨(E.abd 0),0,none⟩) 5 5):=by
 refine fG Tryz.func95 λw cs=>?_
 exact r0 [] [(2,.slice none 0 0)] [] (r0 [] [(3,pt b 68)] [] (r0 [(3,.l 0)] [(10,i6 1)] [] (rT [] 11 (rr (λq5=>[(0,.v (pt b 68)),(1,.v (pt b 68)),(2,.v (pt b 68)),(3,.v (pt b 68)),(4,.v (pt b 68)),(5,.v (pt b 69)),(6,.v (pt b 68)),(7,.v (pt b 68)),(8,.v (pt b 70)),(9,.v (pt b 68)),(10,.v (pt b 68)),(11,.v (pt b 71)),(12,.v (pt b 67)),(13,.v (pt b 67)),(14,.v (pt b 73)),(15,.m (bs 1 5)),(16,.v (.slice (some ⟨(q5 15).abd 0,0,none⟩) 5 5))]) (λq5=>[(2,.slice (some ⟨(q5 15).abd 0,0,none⟩) 5 5)]) [2] (λq5 L=>L++[ob ((q5 15).abd 0) #[pt b 68,pt b 69,pt b 70,pt b 71,pt b 73] 197]) λq5=>lf (.l [(q5 15).abd 0] [] []) [1] [(0,0)] []))))
theorem G7(b:Nat)(k ln:Int)(d:List UInt8)(m:Nat)(f1 f2 f3 f4 f5 f6 f7:Int):aa eF 95 #[pt b 67] [ob b (sV k ln d m 2 f1 f2 f3 f4 f5 f6 f7) 50] [] (λE=>[ob (E.abd 0) #[pt b 68,pt b 69,pt b 70,pt b 71,pt b 73,pt b 74] 197]) (λE=> .slice (some ⟨(E.abd 0),0,none⟩) 6 6):=by
 refine fG Tryz.func95 λw cs=>?_
 refine r0 [] [(2,.slice none 0 0)] [] (r0 [] [(3,pt b 68)] [] (r0 [(3,.l 0)] [(10,i6 2)] [] (rF [] 11 (rT [] 29 (rr (λq6=>[(0,.v (pt b 68)),(1,.v (pt b 68)),(2,.v (pt b 68)),(3,.v (pt b 68)),(4,.v (pt b 68)),(5,.v (pt b 69)),(6,.v (pt b 68)),(7,.v (pt b 68)),(8,.v (pt b 70)),(9,.v (pt b 68)),(10,.v (pt b 68)),(11,.v (pt b 71)),(12,.v (pt b 67)),(13,.v (pt b 67)),(14,.v (pt b 73)),(15,.v (pt b 67)),(16,.v (pt b 67)),(17,.v (pt b 74)),(18,.m (bs 1 6)),(19,.v (.slice (some ⟨(q6 18).abd 0,0,none⟩) 6 6))]) (λq6=>[(2,.slice (some ⟨(q6 18).abd 0,0,none⟩) 6 6)]) [2] (λq6 L=>L++[ob ((q6 18).abd 0) #[pt b 68,pt b 69,pt b 70,pt b 71,pt b 73,pt b 74] 197]) λq6=>?_)))))
 exact lf (.l [(q6 18).abd 0] [] []) [1] [(0,0)] []
theorem G8(b:Nat)(k ln:Int)(d:List UInt8)(m:Nat)(f1 f2 f3 f4 f5 f6 f7:Int):aa eF 95 #[pt b 67] [ob b (sV k ln d m 3 f1 f2 f3 f4 f5 f6 f7) 50] [] (λE=>[ob (E.abd 0) #[pt b 68,pt b 69,pt b 70,pt b 72,pt b 74] 197]) (λE=> .slice (some ⟨(E.abd 0),0,none⟩) 5 5):=by
 refine fG Tryz.func95 λw cs=>?_
 refine r0 [] [(2,.slice none 0 0)] [] (r0 [] [(3,pt b 68)] [] (r0 [(3,.l 0)] [(10,i6 3)] [] (rF [] 11 (rF [] 29 (rT [] 50 ?_)))))
 exact rr (λq7=>[(0,.v (pt b 68)),(1,.v (pt b 68)),(2,.v (pt b 68)),(3,.v (pt b 68)),(4,.v (pt b 68)),(5,.v (pt b 69)),(6,.v (pt b 68)),(7,.v (pt b 68)),(8,.v (pt b 70)),(9,.v (pt b 67)),(10,.v (pt b 67)),(11,.v (pt b 72)),(12,.v (pt b 67)),(13,.v (pt b 67)),(14,.v (pt b 74)),(15,.m (bs 1 5)),(16,.v (.slice (some ⟨(q7 15).abd 0,0,none⟩) 5 5))]) (λq7=>[(2,.slice (some ⟨(q7 15).abd 0,0,none⟩) 5 5)]) [2] (λq7 L=>L++[ob ((q7 15).abd 0) #[pt b 68,pt b 69,pt b 70,pt b 72,pt b 74] 197]) λq7=>lf (.l [(q7 15).abd 0] [] []) [1] [(0,0)] []
theorem G9(b:Nat)(k ln:Int)(d:List UInt8)(m:Nat)(f1 f2 f3 f4 f5 f6 f7:Int):aa eF 95 #[pt b 67] [ob b (sV k ln d m 4 f1 f2 f3 f4 f5 f6 f7) 50] [] (λE=>[ob (E.abd 0) #[pt b 68,pt b 69,pt b 71,pt b 72,pt b 74] 197]) (λE=> .slice (some ⟨(E.abd 0),0,none⟩) 5 5):=by
 refine fG Tryz.func95 λw cs=>?_
 refine r0 [] [(2,.slice none 0 0)] [] (r0 [] [(3,pt b 68)] [] (r0 [(3,.l 0)] [(10,i6 4)] [] (rF [] 11 (rF [] 29 (rF [] 50 ?_)))))
 exact rT [] 68 (rr (λq8=>[(0,.v (pt b 68)),(1,.v (pt b 68)),(2,.v (pt b 68)),(3,.v (pt b 68)),(4,.v (pt b 68)),(5,.v (pt b 69)),(6,.v (pt b 68)),(7,.v (pt b 68)),(8,.v (pt b 71)),(9,.v (pt b 67)),(10,.v (pt b 67)),(11,.v (pt b 72)),(12,.v (pt b 67)),(13,.v (pt b 67)),(14,.v (pt b 74)),(15,.m (bs 1 5)),(16,.v (.slice (some ⟨(q8 15).abd 0,0,none⟩) 5 5))]) (λq8=>[(2,.slice (some ⟨(q8 15).abd 0,0,none⟩) 5 5)]) [2] (λq8 L=>L++[ob ((q8 15).abd 0) #[pt b 68,pt b 69,pt b 71,pt b 72,pt b 74] 197]) λq8=>lf (.l [(q8 15).abd 0] [] []) [1] [(0,0)] [])
theorem Ha(b:Nat)(k ln:Int)(d:List UInt8)(m:Nat)(f1 f2 f3 f4 f5 f6 f7:Int):aa eF 95 #[pt b 67] [ob b (sV k ln d m 5 f1 f2 f3 f4 f5 f6 f7) 50] [] (λE=>[ob (E.abd 0) #[pt b 68,pt b 72,pt b 74] 197]) (λE=> .slice (some ⟨(E.abd 0),0,none⟩) 3 3):=by
 refine fG Tryz.func95 λw cs=>?_
 refine r0 [] [(2,.slice none 0 0)] [] (r0 [] [(3,pt b 68)] [] (r0 [(3,.l 0)] [(10,i6 5)] [] (rF [] 11 (rF [] 29 (rF [] 50 ?_)))))
 exact rF [] 68 (rT [] 86 (rr (λ_=>[(9,.m (bs 1 3))]) (λq9=>[(2,.slice (some ⟨(q9 9).abd 0,0,none⟩) 3 3)]) [2] (λq9 L=>L++[ob ((q9 9).abd 0) #[pt b 68,pt b 72,pt b 74] 197]) λq9=>lf (.l [(q9 9).abd 0] [] []) [1] [(0,0)] []))
theorem Hb(b:Nat)(k ln:Int)(d:List UInt8)(m:Nat)(f1 f2 f3 f4 f5 f6 f7:Int):aa eF 95 #[pt b 67] [ob b (sV k ln d m 6 f1 f2 f3 f4 f5 f6 f7) 50] [] (λE=>[ob (E.abd 0) #[pt b 68,pt b 69,pt b 70,pt b 71] 197]) (λE=> .slice (some ⟨(E.abd 0),0,none⟩) 4 4):=by
 refine fG Tryz.func95 λw cs=>?_
 refine r0 [] [(2,.slice none 0 0)] [] (r0 [] [(3,pt b 68)] [] (r0 [(3,.l 0)] [(10,i6 6)] [] (rF [] 11 (rF [] 29 (rF [] 50 ?_)))))
 exact rF [] 68 (rF [] 86 (rT [] 98 (rr (λq10=>[(0,.v (pt b 68)),(1,.v (pt b 68)),(2,.v (pt b 68)),(3,.v (pt b 68)),(4,.v (pt b 68)),(5,.v (pt b 69)),(6,.v (pt b 68)),(7,.v (pt b 68)),(8,.v (pt b 70)),(9,.v (pt b 68)),(10,.v (pt b 68)),(11,.v (pt b 71)),(12,.m (bs 1 4)),(13,.v (.slice (some ⟨(q10 12).abd 0,0,none⟩) 4 4))]) (λq10=>[(2,.slice (some ⟨(q10 12).abd 0,0,none⟩) 4 4)]) [2] (λq10 L=>L++[ob ((q10 12).abd 0) #[pt b 68,pt b 69,pt b 70,pt b 71] 197]) λq10=>lf (.l [(q10 12).abd 0] [] []) [1] [(0,0)] [])))
theorem Hc(b:Nat)(k ln:Int)(d:List UInt8)(m:Nat)(f1 f2 f3 f4 f5 f6 f7:Int):aa eF 95 #[pt b 67] [ob b (sV k ln d m 7 f1 f2 f3 f4 f5 f6 f7) 50] [] N0 (λ_=> .slice none 0 0):=by
 refine fG Tryz.func95 λw cs=>?_
 refine r0 [] [(2,.slice none 0 0)] [] (r0 [] [(3,pt b 68)] [] (r0 [(3,.l 0)] [(10,i6 7)] [] (rF [] 11 (rF [] 29 (rF [] 50 ?_)))))
 exact rF [] 68 (rF [] 86 (rF [] 98 (r0 [] [(2,.slice none 0 0)] [2] (lf ab.zero [] [(0,0)] []))))
theorem Hd(b:Nat)(k ln:Int)(d:List UInt8)(m:Nat)(f0 f1 f2 f3 f4 f5 f6 f7:Int)(hk1:f0<1∨6<f0):aa eF 95 #[pt b 67] [ob b (sV k ln d m f0 f1 f2 f3 f4 f5 f6 f7) 50] [] N0 (λ_=> .slice none 0 0):=by
 refine fG Tryz.func95 λw cs=>?_
 refine r0 [] [(2,.slice none 0 0)] [] (r0 [] [(3,pt b 68)] [] (r0 [(3,.l 0)] [(10,i6 f0)] [] (r0 [] [(11,.bool (f0==1))] [] ?_)))
 have h5:(f0==1)=false:=by rw[dp];omega
 refine cF (f0==1) h5 (r0 [] [(29,.bool (f0==2))] [] ?_)
 have h7:(f0==2)=false:=by rw[dp];omega
 refine cF (f0==2) h7 (r0 [] [(50,.bool (f0==3))] [] ?_)
 have h9:(f0==3)=false:=by rw[dp];omega
 refine cF (f0==3) h9 (r0 [] [(68,.bool (f0==4))] [] ?_)
 have h11:(f0==4)=false:=by rw[dp];omega
 refine cF (f0==4) h11 (r0 [] [(86,.bool (f0==5))] [] ?_)
 have h13:(f0==5)=false:=by rw[dp];omega
 refine cF (f0==5) h13 (r0 [] [(98,.bool (f0==6))] [] ?_)
 have h15:(f0==6)=false:=by rw[dp];omega
 exact cF (f0==6) h15 (r0 [] [(2,.slice none 0 0)] [2] (lf ab.zero [] [(0,0)] []))
theorem VM(ln:Int)(d:List UInt8)(m:Nat)(f0 f1 f2 f3 f4 f5 f6 f7:Int)(hd:d.length=64):aa eF 55 #[.agg (sV 1 ln d m f0 f1 f2 f3 f4 f5 f6 f7)] [] [] N0 (λ_=> .agg (sV 1 ln z6 0 0 0 0 0 0 0 0 0)):=by
 refine fG Tryz.func55 λw cs=>?_
 refine ra (λq1=>[(1,pt (B0 q1) 0),(2,pt (B1 q1) 0)]) (λq1=>[ob (B0 q1) (sV 1 ln d m f0 f1 f2 f3 f4 f5 f6 f7) 50,ob (B1 q1) (sV 0 0 z6 0 0 0 0 0 0 0 0 0) 50]) λq1=>rr (λ_=>[(1,.l 0),(4,.s 2)]) (λq2=>[(3,pt (B3 q2) 0)]) [] (λq2 L=>L++[ob (B3 q2) (sV 1 0 z6 0 0 0 0 0 0 0 0 0) 50]) λq2=>r0 [(1,.l 0)] [(11,i6 1)] [] (rT [] 12 (rs [(1,.l 0),(3,.s 2)] 2 (ob (B3 q2) (sV 1 ln z6 0 0 0 0 0 0 0 0 0) 50) (rs [(0,.l 2),(1,.s 1)] 1 (ob (B1 q1) (sV 1 ln z6 0 0 0 0 0 0 0 0 0) 50) ?_)))
 exact lf ab.zero [] [] [1]
theorem VN(ln:Int)(d:List UInt8)(m:Nat)(f0 f1 f2 f3 f4 f5 f6 f7:Int)(hd:d.length=64):aa eF 55 #[.agg (sV 2 ln d m f0 f1 f2 f3 f4 f5 f6 f7)] [] [] N0 (λ_=> .agg (sV 2 ln d 0 0 0 0 0 0 0 0 0)):=by
 refine fG Tryz.func55 λw cs=>?_
 refine ra (λq1=>[(1,pt (B0 q1) 0),(2,pt (B1 q1) 0)]) (λq1=>[ob (B0 q1) (sV 2 ln d m f0 f1 f2 f3 f4 f5 f6 f7) 50,ob (B1 q1) (sV 0 0 z6 0 0 0 0 0 0 0 0 0) 50]) λq1=>rr (λ_=>[(1,.l 0),(4,.s 2)]) (λq2=>[(3,pt (B3 q2) 0)]) [] (λq2 L=>L++[ob (B3 q2) (sV 2 0 z6 0 0 0 0 0 0 0 0 0) 50]) λq2=>r0 [(1,.l 0)] [(11,i6 2)] [] (rF [] 12 (rT [] 17 (rs [(1,.l 0),(3,.l 0),(5,.s 2),(7,.s 2)] 2 (ob (B3 q2) (sV 2 ln d 0 0 0 0 0 0 0 0 0) 50) ?_)))
 exact rs [(0,.l 2),(1,.s 1)] 1 (ob (B1 q1) (sV 2 ln d 0 0 0 0 0 0 0 0 0) 50) (lf ab.zero [] [] [1])
theorem VO(ln:Int)(d:List UInt8)(m:Nat)(f0 f1 f2 f3 f4 f5 f6 f7:Int)(hd:d.length=64):aa eF 55 #[.agg (sV 3 ln d m f0 f1 f2 f3 f4 f5 f6 f7)] [] [] N0 (λ_=> .agg (sV 3 ln d m 0 0 0 0 0 0 0 0)):=by
 refine fG Tryz.func55 λw cs=>?_
 refine ra (λq1=>[(1,pt (B0 q1) 0),(2,pt (B1 q1) 0)]) (λq1=>[ob (B0 q1) (sV 3 ln d m f0 f1 f2 f3 f4 f5 f6 f7) 50,ob (B1 q1) (sV 0 0 z6 0 0 0 0 0 0 0 0 0) 50]) λq1=>rr (λ_=>[(1,.l 0),(4,.s 2)]) (λq2=>[(3,pt (B3 q2) 0)]) [] (λq2 L=>L++[ob (B3 q2) (sV 3 0 z6 0 0 0 0 0 0 0 0 0) 50]) λq2=>r0 [(1,.l 0)] [(11,i6 3)] [] (rF [] 12 (rF [] 17 (rT [] 25 ?_)))
 exact rs [(0,.v (pt (B0 q1) 1)),(1,.m (ld 0 (i6 ln))),(2,.v (pt (B0 q1) 2)),(3,.m (ls 0 (rB 64 d))),(4,.v (pt (B0 q1) 66)),(5,.m (ld 0 (u6 (m:Int)))),(6,.v (pt (B3 q2) 1)),(7,.s 2),(8,.v (pt (B3 q2) 2)),(9,.s 2),(10,.v (pt (B3 q2) 66)),(11,.s 2)] 2 (ob (B3 q2) (sV 3 ln d m 0 0 0 0 0 0 0 0) 50) (rs [(0,.l 2),(1,.s 1)] 1 (ob (B1 q1) (sV 3 ln d m 0 0 0 0 0 0 0 0) 50) (lf ab.zero [] [] [1]))
theorem VP(k ln:Int)(d:List UInt8)(m:Nat)(f0 f1 f2 f3 f4 f5 f6 f7:Int)(hd:d.length=64)(hk1:4≤k)(hk2:k≤7):aa eF 55 #[.agg (sV k ln d m f0 f1 f2 f3 f4 f5 f6 f7)] [] [] N0 (λ_=> .agg (sV k 0 z6 0 0 0 0 0 0 0 0 0)):=by
 refine fG Tryz.func55 λw cs=>?_
 refine ra (λq1=>[(1,pt (B0 q1) 0),(2,pt (B1 q1) 0)]) (λq1=>[ob (B0 q1) (sV k ln d m f0 f1 f2 f3 f4 f5 f6 f7) 50,ob (B1 q1) (sV 0 0 z6 0 0 0 0 0 0 0 0 0) 50]) λq1=>rr (λ_=>[(1,.l 0),(4,.s 2)]) (λq2=>[(3,pt (B3 q2) 0)]) [] (λq2 L=>L++[ob (B3 q2) (sV k 0 z6 0 0 0 0 0 0 0 0 0) 50]) λq2=>r0 [(1,.l 0)] [(11,i6 k)] [] (r0 [] [(12,.bool (k==1))] [] ?_)
 have h5:(k==1)=false:=by rw[dp];omega
 refine cF (k==1) h5 (r0 [] [(17,.bool (k==2))] [] ?_)
 have h7:(k==2)=false:=by rw[dp];omega
 refine cF (k==2) h7 (r0 [] [(25,.bool (k==3))] [] ?_)
 have h9:(k==3)=false:=by rw[dp];omega
 refine cF (k==3) h9 (r0 [] [(36,.bool (k==8))] [] ?_)
 have h11:(k==8)=false:=by rw[dp];omega
 exact cF (k==8) h11 (rs [(0,.l 2),(1,.s 1)] 1 (ob (B1 q1) (sV k 0 z6 0 0 0 0 0 0 0 0 0) 50) (lf ab.zero [] [] [1]))
theorem VQ(ln:Int)(d:List UInt8)(m:Nat)(f1 f2 f3 f4 f5 f6 f7:Int)(hd:d.length=64):aa eF 55 #[.agg (sV 8 ln d m 1 f1 f2 f3 f4 f5 f6 f7)] [] [] N0 (λ_=> .agg (sV 8 0 z6 0 1 f1 f2 f3 f4 0 f6 0)):=by
 refine fG Tryz.func55 λw cs=>?_
 refine ra (λq1=>[(1,pt (B0 q1) 0),(2,pt (B1 q1) 0)]) (λq1=>[ob (B0 q1) (sV 8 ln d m 1 f1 f2 f3 f4 f5 f6 f7) 50,ob (B1 q1) (sV 0 0 z6 0 0 0 0 0 0 0 0 0) 50]) λq1=>rr (λ_=>[(1,.l 0),(4,.s 2)]) (λq2=>[(3,pt (B3 q2) 0)]) [] (λq2 L=>L++[ob (B3 q2) (sV 8 0 z6 0 0 0 0 0 0 0 0 0) 50]) λq2=>r0 [(1,.l 0)] [(11,i6 8)] [] (rF [] 12 (rF [] 17 (rF [] 25 ?_)))
 refine rT [] 36 (rs [(2,.l 0),(5,.s 2)] 2 (ob (B3 q2) (sV 8 0 z6 0 1 0 0 0 0 0 0 0) 50) (rr (λ_=>[(1,.c [2] [3] (G6 (B3 q2) 8 0 z6 0 0 0 0 0 0 0 0))]) (λq9=>[(4,.slice (some ⟨(B1 q9),0,none⟩) 5 5)]) [] (λq9 L=>L++[ob (B1 q9) #[pt (B3 q2) 68,pt (B3 q2) 69,pt (B3 q2) 70,pt (B3 q2) 71,pt (B3 q2) 73] 197]) λq9=>rr (λ_=>[(1,.c [0] [4] (G6 (B0 q1) 8 ln d m f1 f2 f3 f4 f5 f6 f7))]) (λq10=>[(46,.slice (some ⟨(B1 q10),0,none⟩) 5 5),(47,i6 5),(48,i6 0)]) [] (λq10 L=>L++[ob (B1 q10) #[pt (B0 q1) 68,pt (B0 q1) 69,pt (B0 q1) 70,pt (B0 q1) 71,pt (B0 q1) 73] 197]) λq10=>?_))
 refine lu 8 ?_
 refine rT [] 49 (r0 [(1,.t (tv (Instr.indexAt 194 (.slice (some ⟨(B1 q10),0,none⟩) 5 5) (i6 0)) (λ_=>bR (k:=0) (s:=1) Kr Om))),(2,.l 4)] [(5,i6 0),(6,pt (B0 q1) 68)] [] (rs [(2,.t (tv (Instr.indexAt 194 (.slice (some ⟨(B1 q9),0,none⟩) 5 5) (i6 0)) (λ_=>bR (k:=0) (s:=1) Kr Om))),(3,.l 3),(6,.l 0),(8,.s 2)] 2 (ob (B3 q2) (sV 8 0 z6 0 1 f1 0 0 0 0 0 0) 50) (r0 [] [(48,i6 1)] [48] ?_)))
 refine fe ?_
 refine r0 [] [(49,.bool true)] [49] (cT _ rfl (r0 [(1,.t (tv (Instr.indexAt 194 (.slice (some ⟨(B1 q10),0,none⟩) 5 5) (i6 1)) (λ_=>bR (k:=1) (s:=1) Kr Om))),(2,.l 4)] [(5,i6 1),(6,pt (B0 q1) 69)] [5,6] (rs [(2,.t (tv (Instr.indexAt 194 (.slice (some ⟨(B1 q9),0,none⟩) 5 5) (i6 1)) (λ_=>bR (k:=1) (s:=1) Kr Om))),(3,.l 3),(6,.l 0),(8,.s 2)] 2 (ob (B3 q2) (sV 8 0 z6 0 1 f1 f2 0 0 0 0 0) 50) (r0 [] [(48,i6 2)] [48] ?_))))
 refine fe ?_
 refine r0 [] [(49,.bool true)] [49] (cT _ rfl (r0 [(1,.t (tv (Instr.indexAt 194 (.slice (some ⟨(B1 q10),0,none⟩) 5 5) (i6 2)) (λ_=>bR (k:=2) (s:=1) Kr Om))),(2,.l 4)] [(5,i6 2),(6,pt (B0 q1) 70)] [5,6] (rs [(2,.t (tv (Instr.indexAt 194 (.slice (some ⟨(B1 q9),0,none⟩) 5 5) (i6 2)) (λ_=>bR (k:=2) (s:=1) Kr Om))),(3,.l 3),(6,.l 0),(8,.s 2)] 2 (ob (B3 q2) (sV 8 0 z6 0 1 f1 f2 f3 0 0 0 0) 50) (r0 [] [(48,i6 3)] [48] ?_))))
 refine fe ?_
 refine r0 [] [(49,.bool true)] [49] (cT _ rfl (r0 [(1,.t (tv (Instr.indexAt 194 (.slice (some ⟨(B1 q10),0,none⟩) 5 5) (i6 3)) (λ_=>bR (k:=3) (s:=1) Kr Om))),(2,.l 4)] [(5,i6 3),(6,pt (B0 q1) 71)] [5,6] (rs [(2,.t (tv (Instr.indexAt 194 (.slice (some ⟨(B1 q9),0,none⟩) 5 5) (i6 3)) (λ_=>bR (k:=3) (s:=1) Kr Om))),(3,.l 3),(6,.l 0),(8,.s 2)] 2 (ob (B3 q2) (sV 8 0 z6 0 1 f1 f2 f3 f4 0 0 0) 50) (r0 [] [(48,i6 4)] [48] ?_))))
 refine fe ?_
 refine r0 [] [(49,.bool true)] [49] (cT _ rfl (r0 [(1,.t (tv (Instr.indexAt 194 (.slice (some ⟨(B1 q10),0,none⟩) 5 5) (i6 4)) (λ_=>bR (k:=4) (s:=1) Kr Om))),(2,.l 4)] [(5,i6 4),(6,pt (B0 q1) 73)] [5,6] (rs [(2,.t (tv (Instr.indexAt 194 (.slice (some ⟨(B1 q9),0,none⟩) 5 5) (i6 4)) (λ_=>bR (k:=4) (s:=1) Kr Om))),(3,.l 3),(6,.l 0),(8,.s 2)] 2 (ob (B3 q2) (sV 8 0 z6 0 1 f1 f2 f3 f4 0 f6 0) 50) (r0 [] [(48,i6 5)] [48] ?_))))
 refine fe ?_
 refine r0 [] [(49,.bool false)] [49] (cF _ rfl ?_)
 refine oS ?_
 exact rs [(0,.l 2),(1,.s 1)] 1 (ob (B1 q1) (sV 8 0 z6 0 1 f1 f2 f3 f4 0 f6 0) 50) (lf ab.zero [] [] [1])
theorem VR(ln:Int)(d:List UInt8)(m:Nat)(f1 f2 f3 f4 f5 f6 f7:Int)(hd:d.length=64):aa eF 55 #[.agg (sV 8 ln d m 2 f1 f2 f3 f4 f5 f6 f7)] [] [] N0 (λ_=> .agg (sV 8 0 z6 0 2 f1 f2 f3 f4 0 f6 f7)):=by
 refine fG Tryz.func55 λw cs=>?_
 refine ra (λq1=>[(1,pt (B0 q1) 0),(2,pt (B1 q1) 0)]) (λq1=>[ob (B0 q1) (sV 8 ln d m 2 f1 f2 f3 f4 f5 f6 f7) 50,ob (B1 q1) (sV 0 0 z6 0 0 0 0 0 0 0 0 0) 50]) λq1=>rr (λ_=>[(1,.l 0),(4,.s 2)]) (λq2=>[(3,pt (B3 q2) 0)]) [] (λq2 L=>L++[ob (B3 q2) (sV 8 0 z6 0 0 0 0 0 0 0 0 0) 50]) λq2=>r0 [(1,.l 0)] [(11,i6 8)] [] (rF [] 12 (rF [] 17 (rF [] 25 ?_)))
 refine rT [] 36 (rs [(2,.l 0),(5,.s 2)] 2 (ob (B3 q2) (sV 8 0 z6 0 2 0 0 0 0 0 0 0) 50) (rr (λ_=>[(1,.c [2] [3] (G7 (B3 q2) 8 0 z6 0 0 0 0 0 0 0 0))]) (λq9=>[(4,.slice (some ⟨(B1 q9),0,none⟩) 6 6)]) [] (λq9 L=>L++[ob (B1 q9) #[pt (B3 q2) 68,pt (B3 q2) 69,pt (B3 q2) 70,pt (B3 q2) 71,pt (B3 q2) 73,pt (B3 q2) 74] 197]) λq9=>rr (λ_=>[(1,.c [0] [4] (G7 (B0 q1) 8 ln d m f1 f2 f3 f4 f5 f6 f7))]) (λq10=>[(46,.slice (some ⟨(B1 q10),0,none⟩) 6 6),(47,i6 6),(48,i6 0)]) [] (λq10 L=>L++[ob (B1 q10) #[pt (B0 q1) 68,pt (B0 q1) 69,pt (B0 q1) 70,pt (B0 q1) 71,pt (B0 q1) 73,pt (B0 q1) 74] 197]) λq10=>?_))
 refine lu 8 ?_
 refine rT [] 49 (r0 [(1,.t (tv (Instr.indexAt 194 (.slice (some ⟨(B1 q10),0,none⟩) 6 6) (i6 0)) (λ_=>bR (k:=0) (s:=1) Kr Om))),(2,.l 4)] [(5,i6 0),(6,pt (B0 q1) 68)] [] (rs [(2,.t (tv (Instr.indexAt 194 (.slice (some ⟨(B1 q9),0,none⟩) 6 6) (i6 0)) (λ_=>bR (k:=0) (s:=1) Kr Om))),(3,.l 3),(6,.l 0),(8,.s 2)] 2 (ob (B3 q2) (sV 8 0 z6 0 2 f1 0 0 0 0 0 0) 50) (r0 [] [(48,i6 1)] [48] ?_)))
 refine fe ?_
 refine r0 [] [(49,.bool true)] [49] (cT _ rfl (r0 [(1,.t (tv (Instr.indexAt 194 (.slice (some ⟨(B1 q10),0,none⟩) 6 6) (i6 1)) (λ_=>bR (k:=1) (s:=1) Kr Om))),(2,.l 4)] [(5,i6 1),(6,pt (B0 q1) 69)] [5,6] (rs [(2,.t (tv (Instr.indexAt 194 (.slice (some ⟨(B1 q9),0,none⟩) 6 6) (i6 1)) (λ_=>bR (k:=1) (s:=1) Kr Om))),(3,.l 3),(6,.l 0),(8,.s 2)] 2 (ob (B3 q2) (sV 8 0 z6 0 2 f1 f2 0 0 0 0 0) 50) (r0 [] [(48,i6 2)] [48] ?_))))
 refine fe ?_
 refine r0 [] [(49,.bool true)] [49] (cT _ rfl (r0 [(1,.t (tv (Instr.indexAt 194 (.slice (some ⟨(B1 q10),0,none⟩) 6 6) (i6 2)) (λ_=>bR (k:=2) (s:=1) Kr Om))),(2,.l 4)] [(5,i6 2),(6,pt (B0 q1) 70)] [5,6] (rs [(2,.t (tv (Instr.indexAt 194 (.slice (some ⟨(B1 q9),0,none⟩) 6 6) (i6 2)) (λ_=>bR (k:=2) (s:=1) Kr Om))),(3,.l 3),(6,.l 0),(8,.s 2)] 2 (ob (B3 q2) (sV 8 0 z6 0 2 f1 f2 f3 0 0 0 0) 50) (r0 [] [(48,i6 3)] [48] ?_))))
 refine fe ?_
 refine r0 [] [(49,.bool true)] [49] (cT _ rfl (r0 [(1,.t (tv (Instr.indexAt 194 (.slice (some ⟨(B1 q10),0,none⟩) 6 6) (i6 3)) (λ_=>bR (k:=3) (s:=1) Kr Om))),(2,.l 4)] [(5,i6 3),(6,pt (B0 q1) 71)] [5,6] (rs [(2,.t (tv (Instr.indexAt 194 (.slice (some ⟨(B1 q9),0,none⟩) 6 6) (i6 3)) (λ_=>bR (k:=3) (s:=1) Kr Om))),(3,.l 3),(6,.l 0),(8,.s 2)] 2 (ob (B3 q2) (sV 8 0 z6 0 2 f1 f2 f3 f4 0 0 0) 50) (r0 [] [(48,i6 4)] [48] ?_))))
 refine fe ?_
 refine r0 [] [(49,.bool true)] [49] (cT _ rfl (r0 [(1,.t (tv (Instr.indexAt 194 (.slice (some ⟨(B1 q10),0,none⟩) 6 6) (i6 4)) (λ_=>bR (k:=4) (s:=1) Kr Om))),(2,.l 4)] [(5,i6 4),(6,pt (B0 q1) 73)] [5,6] (rs [(2,.t (tv (Instr.indexAt 194 (.slice (some ⟨(B1 q9),0,none⟩) 6 6) (i6 4)) (λ_=>bR (k:=4) (s:=1) Kr Om))),(3,.l 3),(6,.l 0),(8,.s 2)] 2 (ob (B3 q2) (sV 8 0 z6 0 2 f1 f2 f3 f4 0 f6 0) 50) (r0 [] [(48,i6 5)] [48] ?_))))
 refine fe ?_
 refine r0 [] [(49,.bool true)] [49] (cT _ rfl (r0 [(1,.t (tv (Instr.indexAt 194 (.slice (some ⟨(B1 q10),0,none⟩) 6 6) (i6 5)) (λ_=>bR (k:=5) (s:=1) Kr Om))),(2,.l 4)] [(5,i6 5),(6,pt (B0 q1) 74)] [5,6] (rs [(2,.t (tv (Instr.indexAt 194 (.slice (some ⟨(B1 q9),0,none⟩) 6 6) (i6 5)) (λ_=>bR (k:=5) (s:=1) Kr Om))),(3,.l 3),(6,.l 0),(8,.s 2)] 2 (ob (B3 q2) (sV 8 0 z6 0 2 f1 f2 f3 f4 0 f6 f7) 50) (r0 [] [(48,i6 6)] [48] ?_))))
 refine fe ?_
 refine r0 [] [(49,.bool false)] [49] (cF _ rfl ?_)
 refine oS ?_
 exact rs [(0,.l 2),(1,.s 1)] 1 (ob (B1 q1) (sV 8 0 z6 0 2 f1 f2 f3 f4 0 f6 f7) 50) (lf ab.zero [] [] [1])
theorem VS(ln:Int)(d:List UInt8)(m:Nat)(f1 f2 f3 f4 f5 f6 f7:Int)(hd:d.length=64):aa eF 55 #[.agg (sV 8 ln d m 3 f1 f2 f3 f4 f5 f6 f7)] [] [] N0 (λ_=> .agg (sV 8 0 z6 0 3 f1 f2 f3 0 f5 0 f7)):=by
 refine fG Tryz.func55 λw cs=>?_
 refine ra (λq1=>[(1,pt (B0 q1) 0),(2,pt (B1 q1) 0)]) (λq1=>[ob (B0 q1) (sV 8 ln d m 3 f1 f2 f3 f4 f5 f6 f7) 50,ob (B1 q1) (sV 0 0 z6 0 0 0 0 0 0 0 0 0) 50]) λq1=>rr (λ_=>[(1,.l 0),(4,.s 2)]) (λq2=>[(3,pt (B3 q2) 0)]) [] (λq2 L=>L++[ob (B3 q2) (sV 8 0 z6 0 0 0 0 0 0 0 0 0) 50]) λq2=>r0 [(1,.l 0)] [(11,i6 8)] [] (rF [] 12 (rF [] 17 (rF [] 25 ?_)))
 refine rT [] 36 (rs [(2,.l 0),(5,.s 2)] 2 (ob (B3 q2) (sV 8 0 z6 0 3 0 0 0 0 0 0 0) 50) (rr (λ_=>[(1,.c [2] [3] (G8 (B3 q2) 8 0 z6 0 0 0 0 0 0 0 0))]) (λq9=>[(4,.slice (some ⟨(B1 q9),0,none⟩) 5 5)]) [] (λq9 L=>L++[ob (B1 q9) #[pt (B3 q2) 68,pt (B3 q2) 69,pt (B3 q2) 70,pt (B3 q2) 72,pt (B3 q2) 74] 197]) λq9=>rr (λ_=>[(1,.c [0] [4] (G8 (B0 q1) 8 ln d m f1 f2 f3 f4 f5 f6 f7))]) (λq10=>[(46,.slice (some ⟨(B1 q10),0,none⟩) 5 5),(47,i6 5),(48,i6 0)]) [] (λq10 L=>L++[ob (B1 q10) #[pt (B0 q1) 68,pt (B0 q1) 69,pt (B0 q1) 70,pt (B0 q1) 72,pt (B0 q1) 74] 197]) λq10=>?_))
 refine lu 8 ?_
 refine rT [] 49 (r0 [(1,.t (tv (Instr.indexAt 194 (.slice (some ⟨(B1 q10),0,none⟩) 5 5) (i6 0)) (λ_=>bR (k:=0) (s:=1) Kr Om))),(2,.l 4)] [(5,i6 0),(6,pt (B0 q1) 68)] [] (rs [(2,.t (tv (Instr.indexAt 194 (.slice (some ⟨(B1 q9),0,none⟩) 5 5) (i6 0)) (λ_=>bR (k:=0) (s:=1) Kr Om))),(3,.l 3),(6,.l 0),(8,.s 2)] 2 (ob (B3 q2) (sV 8 0 z6 0 3 f1 0 0 0 0 0 0) 50) (r0 [] [(48,i6 1)] [48] ?_)))
 refine fe ?_
 refine r0 [] [(49,.bool true)] [49] (cT _ rfl (r0 [(1,.t (tv (Instr.indexAt 194 (.slice (some ⟨(B1 q10),0,none⟩) 5 5) (i6 1)) (λ_=>bR (k:=1) (s:=1) Kr Om))),(2,.l 4)] [(5,i6 1),(6,pt (B0 q1) 69)] [5,6] (rs [(2,.t (tv (Instr.indexAt 194 (.slice (some ⟨(B1 q9),0,none⟩) 5 5) (i6 1)) (λ_=>bR (k:=1) (s:=1) Kr Om))),(3,.l 3),(6,.l 0),(8,.s 2)] 2 (ob (B3 q2) (sV 8 0 z6 0 3 f1 f2 0 0 0 0 0) 50) (r0 [] [(48,i6 2)] [48] ?_))))
 refine fe ?_
 refine r0 [] [(49,.bool true)] [49] (cT _ rfl (r0 [(1,.t (tv (Instr.indexAt 194 (.slice (some ⟨(B1 q10),0,none⟩) 5 5) (i6 2)) (λ_=>bR (k:=2) (s:=1) Kr Om))),(2,.l 4)] [(5,i6 2),(6,pt (B0 q1) 70)] [5,6] (rs [(2,.t (tv (Instr.indexAt 194 (.slice (some ⟨(B1 q9),0,none⟩) 5 5) (i6 2)) (λ_=>bR (k:=2) (s:=1) Kr Om))),(3,.l 3),(6,.l 0),(8,.s 2)] 2 (ob (B3 q2) (sV 8 0 z6 0 3 f1 f2 f3 0 0 0 0) 50) (r0 [] [(48,i6 3)] [48] ?_))))
 refine fe ?_
 refine r0 [] [(49,.bool true)] [49] (cT _ rfl (r0 [(1,.t (tv (Instr.indexAt 194 (.slice (some ⟨(B1 q10),0,none⟩) 5 5) (i6 3)) (λ_=>bR (k:=3) (s:=1) Kr Om))),(2,.l 4)] [(5,i6 3),(6,pt (B0 q1) 72)] [5,6] (rs [(2,.t (tv (Instr.indexAt 194 (.slice (some ⟨(B1 q9),0,none⟩) 5 5) (i6 3)) (λ_=>bR (k:=3) (s:=1) Kr Om))),(3,.l 3),(6,.l 0),(8,.s 2)] 2 (ob (B3 q2) (sV 8 0 z6 0 3 f1 f2 f3 0 f5 0 0) 50) (r0 [] [(48,i6 4)] [48] ?_))))
 refine fe ?_
 refine r0 [] [(49,.bool true)] [49] (cT _ rfl (r0 [(1,.t (tv (Instr.indexAt 194 (.slice (some ⟨(B1 q10),0,none⟩) 5 5) (i6 4)) (λ_=>bR (k:=4) (s:=1) Kr Om))),(2,.l 4)] [(5,i6 4),(6,pt (B0 q1) 74)] [5,6] (rs [(2,.t (tv (Instr.indexAt 194 (.slice (some ⟨(B1 q9),0,none⟩) 5 5) (i6 4)) (λ_=>bR (k:=4) (s:=1) Kr Om))),(3,.l 3),(6,.l 0),(8,.s 2)] 2 (ob (B3 q2) (sV 8 0 z6 0 3 f1 f2 f3 0 f5 0 f7) 50) (r0 [] [(48,i6 5)] [48] ?_))))
 refine fe ?_
 refine r0 [] [(49,.bool false)] [49] (cF _ rfl ?_)
 refine oS ?_
 exact rs [(0,.l 2),(1,.s 1)] 1 (ob (B1 q1) (sV 8 0 z6 0 3 f1 f2 f3 0 f5 0 f7) 50) (lf ab.zero [] [] [1])
theorem VT(ln:Int)(d:List UInt8)(m:Nat)(f1 f2 f3 f4 f5 f6 f7:Int)(hd:d.length=64):aa eF 55 #[.agg (sV 8 ln d m 4 f1 f2 f3 f4 f5 f6 f7)] [] [] N0 (λ_=> .agg (sV 8 0 z6 0 4 f1 f2 0 f4 f5 0 f7)):=by
 refine fG Tryz.func55 λw cs=>?_
 refine ra (λq1=>[(1,pt (B0 q1) 0),(2,pt (B1 q1) 0)]) (λq1=>[ob (B0 q1) (sV 8 ln d m 4 f1 f2 f3 f4 f5 f6 f7) 50,ob (B1 q1) (sV 0 0 z6 0 0 0 0 0 0 0 0 0) 50]) λq1=>rr (λ_=>[(1,.l 0),(4,.s 2)]) (λq2=>[(3,pt (B3 q2) 0)]) [] (λq2 L=>L++[ob (B3 q2) (sV 8 0 z6 0 0 0 0 0 0 0 0 0) 50]) λq2=>r0 [(1,.l 0)] [(11,i6 8)] [] (rF [] 12 (rF [] 17 (rF [] 25 ?_)))
 refine rT [] 36 (rs [(2,.l 0),(5,.s 2)] 2 (ob (B3 q2) (sV 8 0 z6 0 4 0 0 0 0 0 0 0) 50) (rr (λ_=>[(1,.c [2] [3] (G9 (B3 q2) 8 0 z6 0 0 0 0 0 0 0 0))]) (λq9=>[(4,.slice (some ⟨(B1 q9),0,none⟩) 5 5)]) [] (λq9 L=>L++[ob (B1 q9) #[pt (B3 q2) 68,pt (B3 q2) 69,pt (B3 q2) 71,pt (B3 q2) 72,pt (B3 q2) 74] 197]) λq9=>rr (λ_=>[(1,.c [0] [4] (G9 (B0 q1) 8 ln d m f1 f2 f3 f4 f5 f6 f7))]) (λq10=>[(46,.slice (some ⟨(B1 q10),0,none⟩) 5 5),(47,i6 5),(48,i6 0)]) [] (λq10 L=>L++[ob (B1 q10) #[pt (B0 q1) 68,pt (B0 q1) 69,pt (B0 q1) 71,pt (B0 q1) 72,pt (B0 q1) 74] 197]) λq10=>?_))
 refine lu 8 ?_
 refine rT [] 49 (r0 [(1,.t (tv (Instr.indexAt 194 (.slice (some ⟨(B1 q10),0,none⟩) 5 5) (i6 0)) (λ_=>bR (k:=0) (s:=1) Kr Om))),(2,.l 4)] [(5,i6 0),(6,pt (B0 q1) 68)] [] (rs [(2,.t (tv (Instr.indexAt 194 (.slice (some ⟨(B1 q9),0,none⟩) 5 5) (i6 0)) (λ_=>bR (k:=0) (s:=1) Kr Om))),(3,.l 3),(6,.l 0),(8,.s 2)] 2 (ob (B3 q2) (sV 8 0 z6 0 4 f1 0 0 0 0 0 0) 50) (r0 [] [(48,i6 1)] [48] ?_)))
 refine fe ?_
 refine r0 [] [(49,.bool true)] [49] (cT _ rfl (r0 [(1,.t (tv (Instr.indexAt 194 (.slice (some ⟨(B1 q10),0,none⟩) 5 5) (i6 1)) (λ_=>bR (k:=1) (s:=1) Kr Om))),(2,.l 4)] [(5,i6 1),(6,pt (B0 q1) 69)] [5,6] (rs [(2,.t (tv (Instr.indexAt 194 (.slice (some ⟨(B1 q9),0,none⟩) 5 5) (i6 1)) (λ_=>bR (k:=1) (s:=1) Kr Om))),(3,.l 3),(6,.l 0),(8,.s 2)] 2 (ob (B3 q2) (sV 8 0 z6 0 4 f1 f2 0 0 0 0 0) 50) (r0 [] [(48,i6 2)] [48] ?_))))
 refine fe ?_
 refine r0 [] [(49,.bool true)] [49] (cT _ rfl (r0 [(1,.t (tv (Instr.indexAt 194 (.slice (some ⟨(B1 q10),0,none⟩) 5 5) (i6 2)) (λ_=>bR (k:=2) (s:=1) Kr Om))),(2,.l 4)] [(5,i6 2),(6,pt (B0 q1) 71)] [5,6] (rs [(2,.t (tv (Instr.indexAt 194 (.slice (some ⟨(B1 q9),0,none⟩) 5 5) (i6 2)) (λ_=>bR (k:=2) (s:=1) Kr Om))),(3,.l 3),(6,.l 0),(8,.s 2)] 2 (ob (B3 q2) (sV 8 0 z6 0 4 f1 f2 0 f4 0 0 0) 50) (r0 [] [(48,i6 3)] [48] ?_))))
 refine fe ?_
 refine r0 [] [(49,.bool true)] [49] (cT _ rfl (r0 [(1,.t (tv (Instr.indexAt 194 (.slice (some ⟨(B1 q10),0,none⟩) 5 5) (i6 3)) (λ_=>bR (k:=3) (s:=1) Kr Om))),(2,.l 4)] [(5,i6 3),(6,pt (B0 q1) 72)] [5,6] (rs [(2,.t (tv (Instr.indexAt 194 (.slice (some ⟨(B1 q9),0,none⟩) 5 5) (i6 3)) (λ_=>bR (k:=3) (s:=1) Kr Om))),(3,.l 3),(6,.l 0),(8,.s 2)] 2 (ob (B3 q2) (sV 8 0 z6 0 4 f1 f2 0 f4 f5 0 0) 50) (r0 [] [(48,i6 4)] [48] ?_))))
 refine fe ?_
 refine r0 [] [(49,.bool true)] [49] (cT _ rfl (r0 [(1,.t (tv (Instr.indexAt 194 (.slice (some ⟨(B1 q10),0,none⟩) 5 5) (i6 4)) (λ_=>bR (k:=4) (s:=1) Kr Om))),(2,.l 4)] [(5,i6 4),(6,pt (B0 q1) 74)] [5,6] (rs [(2,.t (tv (Instr.indexAt 194 (.slice (some ⟨(B1 q9),0,none⟩) 5 5) (i6 4)) (λ_=>bR (k:=4) (s:=1) Kr Om))),(3,.l 3),(6,.l 0),(8,.s 2)] 2 (ob (B3 q2) (sV 8 0 z6 0 4 f1 f2 0 f4 f5 0 f7) 50) (r0 [] [(48,i6 5)] [48] ?_))))
 refine fe ?_
 refine r0 [] [(49,.bool false)] [49] (cF _ rfl ?_)
 refine oS ?_
 exact rs [(0,.l 2),(1,.s 1)] 1 (ob (B1 q1) (sV 8 0 z6 0 4 f1 f2 0 f4 f5 0 f7) 50) (lf ab.zero [] [] [1])
theorem VU(ln:Int)(d:List UInt8)(m:Nat)(f1 f2 f3 f4 f5 f6 f7:Int)(hd:d.length=64):aa eF 55 #[.agg (sV 8 ln d m 5 f1 f2 f3 f4 f5 f6 f7)] [] [] N0 (λ_=> .agg (sV 8 0 z6 0 5 f1 0 0 0 f5 0 f7)):=by
 refine fG Tryz.func55 λw cs=>?_
 refine ra (λq1=>[(1,pt (B0 q1) 0),(2,pt (B1 q1) 0)]) (λq1=>[ob (B0 q1) (sV 8 ln d m 5 f1 f2 f3 f4 f5 f6 f7) 50,ob (B1 q1) (sV 0 0 z6 0 0 0 0 0 0 0 0 0) 50]) λq1=>rr (λ_=>[(1,.l 0),(4,.s 2)]) (λq2=>[(3,pt (B3 q2) 0)]) [] (λq2 L=>L++[ob (B3 q2) (sV 8 0 z6 0 0 0 0 0 0 0 0 0) 50]) λq2=>r0 [(1,.l 0)] [(11,i6 8)] [] (rF [] 12 (rF [] 17 (rF [] 25 ?_)))
 refine rT [] 36 (rs [(2,.l 0),(5,.s 2)] 2 (ob (B3 q2) (sV 8 0 z6 0 5 0 0 0 0 0 0 0) 50) (rr (λ_=>[(1,.c [2] [3] (Ha (B3 q2) 8 0 z6 0 0 0 0 0 0 0 0))]) (λq9=>[(4,.slice (some ⟨(B1 q9),0,none⟩) 3 3)]) [] (λq9 L=>L++[ob (B1 q9) #[pt (B3 q2) 68,pt (B3 q2) 72,pt (B3 q2) 74] 197]) λq9=>rr (λ_=>[(1,.c [0] [4] (Ha (B0 q1) 8 ln d m f1 f2 f3 f4 f5 f6 f7))]) (λq10=>[(46,.slice (some ⟨(B1 q10),0,none⟩) 3 3),(47,i6 3),(48,i6 0)]) [] (λq10 L=>L++[ob (B1 q10) #[pt (B0 q1) 68,pt (B0 q1) 72,pt (B0 q1) 74] 197]) λq10=>?_))
 refine lu 8 ?_
 refine rT [] 49 (r0 [(1,.t (tv (Instr.indexAt 194 (.slice (some ⟨(B1 q10),0,none⟩) 3 3) (i6 0)) (λ_=>bR (k:=0) (s:=1) Kr Om))),(2,.l 4)] [(5,i6 0),(6,pt (B0 q1) 68)] [] (rs [(2,.t (tv (Instr.indexAt 194 (.slice (some ⟨(B1 q9),0,none⟩) 3 3) (i6 0)) (λ_=>bR (k:=0) (s:=1) Kr Om))),(3,.l 3),(6,.l 0),(8,.s 2)] 2 (ob (B3 q2) (sV 8 0 z6 0 5 f1 0 0 0 0 0 0) 50) (r0 [] [(48,i6 1)] [48] ?_)))
 refine fe ?_
 refine r0 [] [(49,.bool true)] [49] (cT _ rfl (r0 [(1,.t (tv (Instr.indexAt 194 (.slice (some ⟨(B1 q10),0,none⟩) 3 3) (i6 1)) (λ_=>bR (k:=1) (s:=1) Kr Om))),(2,.l 4)] [(5,i6 1),(6,pt (B0 q1) 72)] [5,6] (rs [(2,.t (tv (Instr.indexAt 194 (.slice (some ⟨(B1 q9),0,none⟩) 3 3) (i6 1)) (λ_=>bR (k:=1) (s:=1) Kr Om))),(3,.l 3),(6,.l 0),(8,.s 2)] 2 (ob (B3 q2) (sV 8 0 z6 0 5 f1 0 0 0 f5 0 0) 50) (r0 [] [(48,i6 2)] [48] ?_))))
 refine fe ?_
 refine r0 [] [(49,.bool true)] [49] (cT _ rfl (r0 [(1,.t (tv (Instr.indexAt 194 (.slice (some ⟨(B1 q10),0,none⟩) 3 3) (i6 2)) (λ_=>bR (k:=2) (s:=1) Kr Om))),(2,.l 4)] [(5,i6 2),(6,pt (B0 q1) 74)] [5,6] (rs [(2,.t (tv (Instr.indexAt 194 (.slice (some ⟨(B1 q9),0,none⟩) 3 3) (i6 2)) (λ_=>bR (k:=2) (s:=1) Kr Om))),(3,.l 3),(6,.l 0),(8,.s 2)] 2 (ob (B3 q2) (sV 8 0 z6 0 5 f1 0 0 0 f5 0 f7) 50) (r0 [] [(48,i6 3)] [48] ?_))))
 refine fe ?_
 refine r0 [] [(49,.bool false)] [49] (cF _ rfl ?_)
 refine oS ?_
 exact rs [(0,.l 2),(1,.s 1)] 1 (ob (B1 q1) (sV 8 0 z6 0 5 f1 0 0 0 f5 0 f7) 50) (lf ab.zero [] [] [1])
theorem VV(ln:Int)(d:List UInt8)(m:Nat)(f1 f2 f3 f4 f5 f6 f7:Int)(hd:d.length=64):aa eF 55 #[.agg (sV 8 ln d m 6 f1 f2 f3 f4 f5 f6 f7)] [] [] N0 (λ_=> .agg (sV 8 0 z6 0 6 f1 f2 f3 f4 0 0 0)):=by
 refine fG Tryz.func55 λw cs=>?_
 refine ra (λq1=>[(1,pt (B0 q1) 0),(2,pt (B1 q1) 0)]) (λq1=>[ob (B0 q1) (sV 8 ln d m 6 f1 f2 f3 f4 f5 f6 f7) 50,ob (B1 q1) (sV 0 0 z6 0 0 0 0 0 0 0 0 0) 50]) λq1=>rr (λ_=>[(1,.l 0),(4,.s 2)]) (λq2=>[(3,pt (B3 q2) 0)]) [] (λq2 L=>L++[ob (B3 q2) (sV 8 0 z6 0 0 0 0 0 0 0 0 0) 50]) λq2=>r0 [(1,.l 0)] [(11,i6 8)] [] (rF [] 12 (rF [] 17 (rF [] 25 ?_)))
 refine rT [] 36 (rs [(2,.l 0),(5,.s 2)] 2 (ob (B3 q2) (sV 8 0 z6 0 6 0 0 0 0 0 0 0) 50) (rr (λ_=>[(1,.c [2] [3] (Hb (B3 q2) 8 0 z6 0 0 0 0 0 0 0 0))]) (λq9=>[(4,.slice (some ⟨(B1 q9),0,none⟩) 4 4)]) [] (λq9 L=>L++[ob (B1 q9) #[pt (B3 q2) 68,pt (B3 q2) 69,pt (B3 q2) 70,pt (B3 q2) 71] 197]) λq9=>rr (λ_=>[(1,.c [0] [4] (Hb (B0 q1) 8 ln d m f1 f2 f3 f4 f5 f6 f7))]) (λq10=>[(46,.slice (some ⟨(B1 q10),0,none⟩) 4 4),(47,i6 4),(48,i6 0)]) [] (λq10 L=>L++[ob (B1 q10) #[pt (B0 q1) 68,pt (B0 q1) 69,pt (B0 q1) 70,pt (B0 q1) 71] 197]) λq10=>?_))
 refine lu 8 ?_
 refine rT [] 49 (r0 [(1,.t (tv (Instr.indexAt 194 (.slice (some ⟨(B1 q10),0,none⟩) 4 4) (i6 0)) (λ_=>bR (k:=0) (s:=1) Kr Om))),(2,.l 4)] [(5,i6 0),(6,pt (B0 q1) 68)] [] (rs [(2,.t (tv (Instr.indexAt 194 (.slice (some ⟨(B1 q9),0,none⟩) 4 4) (i6 0)) (λ_=>bR (k:=0) (s:=1) Kr Om))),(3,.l 3),(6,.l 0),(8,.s 2)] 2 (ob (B3 q2) (sV 8 0 z6 0 6 f1 0 0 0 0 0 0) 50) (r0 [] [(48,i6 1)] [48] ?_)))
 refine fe ?_
 refine r0 [] [(49,.bool true)] [49] (cT _ rfl (r0 [(1,.t (tv (Instr.indexAt 194 (.slice (some ⟨(B1 q10),0,none⟩) 4 4) (i6 1)) (λ_=>bR (k:=1) (s:=1) Kr Om))),(2,.l 4)] [(5,i6 1),(6,pt (B0 q1) 69)] [5,6] (rs [(2,.t (tv (Instr.indexAt 194 (.slice (some ⟨(B1 q9),0,none⟩) 4 4) (i6 1)) (λ_=>bR (k:=1) (s:=1) Kr Om))),(3,.l 3),(6,.l 0),(8,.s 2)] 2 (ob (B3 q2) (sV 8 0 z6 0 6 f1 f2 0 0 0 0 0) 50) (r0 [] [(48,i6 2)] [48] ?_))))
 refine fe ?_
 refine r0 [] [(49,.bool true)] [49] (cT _ rfl (r0 [(1,.t (tv (Instr.indexAt 194 (.slice (some ⟨(B1 q10),0,none⟩) 4 4) (i6 2)) (λ_=>bR (k:=2) (s:=1) Kr Om))),(2,.l 4)] [(5,i6 2),(6,pt (B0 q1) 70)] [5,6] (rs [(2,.t (tv (Instr.indexAt 194 (.slice (some ⟨(B1 q9),0,none⟩) 4 4) (i6 2)) (λ_=>bR (k:=2) (s:=1) Kr Om))),(3,.l 3),(6,.l 0),(8,.s 2)] 2 (ob (B3 q2) (sV 8 0 z6 0 6 f1 f2 f3 0 0 0 0) 50) (r0 [] [(48,i6 3)] [48] ?_))))
 refine fe ?_
 refine r0 [] [(49,.bool true)] [49] (cT _ rfl (r0 [(1,.t (tv (Instr.indexAt 194 (.slice (some ⟨(B1 q10),0,none⟩) 4 4) (i6 3)) (λ_=>bR (k:=3) (s:=1) Kr Om))),(2,.l 4)] [(5,i6 3),(6,pt (B0 q1) 71)] [5,6] (rs [(2,.t (tv (Instr.indexAt 194 (.slice (some ⟨(B1 q9),0,none⟩) 4 4) (i6 3)) (λ_=>bR (k:=3) (s:=1) Kr Om))),(3,.l 3),(6,.l 0),(8,.s 2)] 2 (ob (B3 q2) (sV 8 0 z6 0 6 f1 f2 f3 f4 0 0 0) 50) (r0 [] [(48,i6 4)] [48] ?_))))
 refine fe ?_
 refine r0 [] [(49,.bool false)] [49] (cF _ rfl ?_)
 refine oS ?_
 exact rs [(0,.l 2),(1,.s 1)] 1 (ob (B1 q1) (sV 8 0 z6 0 6 f1 f2 f3 f4 0 0 0) 50) (lf ab.zero [] [] [1])
theorem VW(ln:Int)(d:List UInt8)(m:Nat)(f1 f2 f3 f4 f5 f6 f7:Int)(hd:d.length=64):aa eF 55 #[.agg (sV 8 ln d m 7 f1 f2 f3 f4 f5 f6 f7)] [] [] N0 (λ_=> .agg (sV 8 0 z6 0 7 0 0 0 0 0 0 0)):=by
 refine fG Tryz.func55 λw cs=>?_
 refine ra (λq1=>[(1,pt (B0 q1) 0),(2,pt (B1 q1) 0)]) (λq1=>[ob (B0 q1) (sV 8 ln d m 7 f1 f2 f3 f4 f5 f6 f7) 50,ob (B1 q1) (sV 0 0 z6 0 0 0 0 0 0 0 0 0) 50]) λq1=>rr (λ_=>[(1,.l 0),(4,.s 2)]) (λq2=>[(3,pt (B3 q2) 0)]) [] (λq2 L=>L++[ob (B3 q2) (sV 8 0 z6 0 0 0 0 0 0 0 0 0) 50]) λq2=>r0 [(1,.l 0)] [(11,i6 8)] [] (rF [] 12 (rF [] 17 (rF [] 25 ?_)))
 refine rT [] 36 (rs [(2,.l 0),(5,.s 2)] 2 (ob (B3 q2) (sV 8 0 z6 0 7 0 0 0 0 0 0 0) 50) (r0 [(1,.c [2] [] (Hc (B3 q2) 8 0 z6 0 0 0 0 0 0 0 0))] [(4,.slice none 0 0)] [] (r0 [(1,.c [0] [] (Hc (B0 q1) 8 ln d m f1 f2 f3 f4 f5 f6 f7))] [(46,.slice none 0 0),(47,i6 0),(48,i6 0)] [] ?_)))
 refine lu 8 ?_
 refine rF [] 49 ?_
 refine oS ?_
 exact rs [(0,.l 2),(1,.s 1)] 1 (ob (B1 q1) (sV 8 0 z6 0 7 0 0 0 0 0 0 0) 50) (lf ab.zero [] [] [1])
theorem VX(ln:Int)(d:List UInt8)(m:Nat)(f0 f1 f2 f3 f4 f5 f6 f7:Int)(hd:d.length=64)(hk1:f0<1∨7<f0):aa eF 55 #[.agg (sV 8 ln d m f0 f1 f2 f3 f4 f5 f6 f7)] [] [] N0 (λ_=> .agg (sV 8 0 z6 0 f0 0 0 0 0 0 0 0)):=by
 refine fG Tryz.func55 λw cs=>?_
 refine ra (λq1=>[(1,pt (B0 q1) 0),(2,pt (B1 q1) 0)]) (λq1=>[ob (B0 q1) (sV 8 ln d m f0 f1 f2 f3 f4 f5 f6 f7) 50,ob (B1 q1) (sV 0 0 z6 0 0 0 0 0 0 0 0 0) 50]) λq1=>rr (λ_=>[(1,.l 0),(4,.s 2)]) (λq2=>[(3,pt (B3 q2) 0)]) [] (λq2 L=>L++[ob (B3 q2) (sV 8 0 z6 0 0 0 0 0 0 0 0 0) 50]) λq2=>r0 [(1,.l 0)] [(11,i6 8)] [] (rF [] 12 (rF [] 17 (rF [] 25 ?_)))
 refine rT [] 36 (rs [(2,.l 0),(5,.s 2)] 2 (ob (B3 q2) (sV 8 0 z6 0 f0 0 0 0 0 0 0 0) 50) (r0 [(1,.c [2] [] (Hd (B3 q2) 8 0 z6 0 f0 0 0 0 0 0 0 0 Om))] [(4,.slice none 0 0)] [] (r0 [(1,.c [0] [] (Hd (B0 q1) 8 ln d m f0 f1 f2 f3 f4 f5 f6 f7 Om))] [(46,.slice none 0 0),(47,i6 0),(48,i6 0)] [] ?_)))
 refine lu 8 ?_
 refine rF [] 49 ?_
 refine oS ?_
 exact rs [(0,.l 2),(1,.s 1)] 1 (ob (B1 q1) (sV 8 0 z6 0 f0 0 0 0 0 0 0 0) 50) (lf ab.zero [] [] [1])
theorem VY(k ln:Int)(d:List UInt8)(m:Nat)(f0 f1 f2 f3 f4 f5 f6 f7:Int)(hd:d.length=64)(hk1:k<1):aa eF 17 #[.agg (sV k ln d m f0 f1 f2 f3 f4 f5 f6 f7)] [] [] N0 (λ_=> .bool false):=by
 refine fG Tryz.func17 λw cs=>?_
 exact ra (λq1=>[(1,pt (B0 q1) 0),(2,.bool false)]) (λq1=>[ob (B0 q1) (sV k ln d m f0 f1 f2 f3 f4 f5 f6 f7) 50]) λq1=>rT [(1,.m (ld 0 (i6 k))),(2,.t (tk (show Value.bool (decide (k<1))= .bool true from ALca Value.bool (by simp;omega)))),(4,.d),(5,.d),(6,.d),(9,.d),(10,.d),(11,.d),(12,.d)] 16 (r0 [] [(2,.bool false)] [2] (lf ab.zero [] [] []))
theorem VZ(k ln:Int)(d:List UInt8)(m:Nat)(f0 f1 f2 f3 f4 f5 f6 f7:Int)(hd:d.length=64)(hk1:8<k):aa eF 17 #[.agg (sV k ln d m f0 f1 f2 f3 f4 f5 f6 f7)] [] [] N0 (λ_=> .bool false):=by
 refine fG Tryz.func17 λw cs=>?_
 exact ra (λq1=>[(1,pt (B0 q1) 0),(2,.bool false)]) (λq1=>[ob (B0 q1) (sV k ln d m f0 f1 f2 f3 f4 f5 f6 f7) 50]) λq1=>rT [(1,.m (ld 0 (i6 k))),(2,.t (tk (show Value.bool (decide (k<1))= .bool false from ALca Value.bool (by simp;omega)))),(5,.m (ld 0 (i6 k))),(6,.t (tk (show Value.bool (decide (8<k))= .bool true from ALca Value.bool (by simp;omega)))),(9,.d),(10,.d),(11,.d),(12,.d)] 16 (r0 [] [(2,.bool false)] [2] (lf ab.zero [] [] []))
def wu(ln:Int)(d:List UInt8)(m:Nat)(f0 f1 f2 f3 f4 f5 f6 f7:Int):Bool:=(bif !(((1==1&&(ln==ln&&true))&&decide (d=dZ 64 0))&&((m:Int)==0&&(f0==0&&(f1==0&&(f2==0&&(f3==0&&(f4==0&&(f5==0&&(f6==0&&(f7==0&&true)))))))))) then false else true)
theorem V0(ln:Int)(d:List UInt8)(m:Nat)(f0 f1 f2 f3 f4 f5 f6 f7:Int)(hd:d.length=64):aa eF 17 #[.agg (sV 1 ln d m f0 f1 f2 f3 f4 f5 f6 f7)] [] [] N0 (λ_=> .bool (wu ln d m f0 f1 f2 f3 f4 f5 f6 f7)):=by
 refine fG Tryz.func17 λw cs=>?_
 refine ra (λq1=>[(1,pt (B0 q1) 0),(2,.bool false)]) (λq1=>[ob (B0 q1) (sV 1 ln d m f0 f1 f2 f3 f4 f5 f6 f7) 50]) λq1=>r0 [(1,.m (ld 0 (i6 1))),(5,.m (ld 0 (i6 1))),(9,.m (ls 0 (sL 1 ln d m f0 f1 f2 f3 f4 f5 f6 f7))),(10,.m (ls 0 (sL 1 ln d m f0 f1 f2 f3 f4 f5 f6 f7))),(11,.c [] [] (VM ln d m f0 f1 f2 f3 f4 f5 f6 f7 (by(simp only[LL,hd,hd];done)))),(12,.t (i9 50 λ_ _ _=>jW (xs:=([i6 1,i6 ln]:List Value)++rB 64 d++([u6 (m:Int),i6 f0,i6 f1,i6 f2,i6 f3,i6 f4,i6 f5,i6 f6,i6 f7]:List Value)) (ys:=([i6 1,i6 ln]:List Value)++rB 64 z6++([u6 0,i6 0,i6 0,i6 0,i6 0,i6 0,i6 0,i6 0,i6 0]:List Value)) Kr (fz Kr Kr (fz Kr Kr bh (jp hd (show z6.length=64 by rfl))) bh)))] [(16,.bool (!(((1==1&&(ln==ln&&true))&&decide (d=dZ 64 0))&&((m:Int)==0&&(f0==0&&(f1==0&&(f2==0&&(f3==0&&(f4==0&&(f5==0&&(f6==0&&(f7==0&&true))))))))))))] [] ?_
 refine cB (!(((1==1&&(ln==ln&&true))&&decide (d=dZ 64 0))&&((m:Int)==0&&(f0==0&&(f1==0&&(f2==0&&(f3==0&&(f4==0&&(f5==0&&(f6==0&&(f7==0&&true))))))))))) (λh3=>?_) λh3=>?_
 ·refine r0 [] [(2,.bool false)] [2] ?_
  exact am (.bool false) ab.zero (by((try simp only[wu]);(repeat (first | rw[h3] | rw[ALct])))<;>rfl) [] [] []
 refine r0 [(1,.m (ld 0 (i6 1))),(4,.d),(5,.d),(6,.d),(7,.d),(8,.d),(9,.d),(10,.d),(11,.d),(12,.d),(13,.d)] [(2,.bool true)] [2] ?_
 exact am (.bool true) ab.zero (by((try simp only[wu]);(repeat (first | rw[h3] | rw[ALcf])))<;>rfl) [] [] []
def wv(ln:Int)(m:Nat)(f0 f1 f2 f3 f4 f5 f6 f7:Int):Bool:=(bif !(((2==2&&(ln==ln&&true))&&true)&&((m:Int)==0&&(f0==0&&(f1==0&&(f2==0&&(f3==0&&(f4==0&&(f5==0&&(f6==0&&(f7==0&&true)))))))))) then false else true)
theorem V1(ln:Int)(d:List UInt8)(m:Nat)(f0 f1 f2 f3 f4 f5 f6 f7:Int)(hd:d.length=64):aa eF 17 #[.agg (sV 2 ln d m f0 f1 f2 f3 f4 f5 f6 f7)] [] [] N0 (λ_=> .bool (wv ln m f0 f1 f2 f3 f4 f5 f6 f7)):=by
 refine fG Tryz.func17 λw cs=>?_
 refine ra (λq1=>[(1,pt (B0 q1) 0),(2,.bool false)]) (λq1=>[ob (B0 q1) (sV 2 ln d m f0 f1 f2 f3 f4 f5 f6 f7) 50]) λq1=>r0 [(1,.m (ld 0 (i6 2))),(5,.m (ld 0 (i6 2))),(9,.m (ls 0 (sL 2 ln d m f0 f1 f2 f3 f4 f5 f6 f7))),(10,.m (ls 0 (sL 2 ln d m f0 f1 f2 f3 f4 f5 f6 f7))),(11,.c [] [] (VN ln d m f0 f1 f2 f3 f4 f5 f6 f7 (by(simp only[LL,hd,hd];done)))),(12,.t (i9 50 λ_ _ _=>jW (xs:=([i6 2,i6 ln]:List Value)++rB 64 d++([u6 (m:Int),i6 f0,i6 f1,i6 f2,i6 f3,i6 f4,i6 f5,i6 f6,i6 f7]:List Value)) (ys:=([i6 2,i6 ln]:List Value)++rB 64 d++([u6 0,i6 0,i6 0,i6 0,i6 0,i6 0,i6 0,i6 0,i6 0]:List Value)) Kr (fz Kr Kr (fz Kr Kr bh ((jp hd hd).trans (cC rfl))) bh)))] [(16,.bool (!(((2==2&&(ln==ln&&true))&&true)&&((m:Int)==0&&(f0==0&&(f1==0&&(f2==0&&(f3==0&&(f4==0&&(f5==0&&(f6==0&&(f7==0&&true))))))))))))] [] ?_
 refine cB (!(((2==2&&(ln==ln&&true))&&true)&&((m:Int)==0&&(f0==0&&(f1==0&&(f2==0&&(f3==0&&(f4==0&&(f5==0&&(f6==0&&(f7==0&&true))))))))))) (λh3=>?_) λh3=>?_
 ·refine r0 [] [(2,.bool false)] [2] ?_
  exact am (.bool false) ab.zero (by((try simp only[wv]);(repeat (first | rw[h3] | rw[ALct])))<;>rfl) [] [] []
 refine r0 [(1,.m (ld 0 (i6 2))),(4,.d),(5,.d),(6,.d),(7,.d),(8,.d),(9,.d),(10,.d),(11,.d),(12,.d),(13,.d)] [(2,.bool true)] [2] ?_
 exact am (.bool true) ab.zero (by((try simp only[wv]);(repeat (first | rw[h3] | rw[ALcf])))<;>rfl) [] [] []
def ww(ln:Int)(m:Nat)(f0 f1 f2 f3 f4 f5 f6 f7:Int):Bool:=(bif !(((3==3&&(ln==ln&&true))&&true)&&((m:Int)==(m:Int)&&(f0==0&&(f1==0&&(f2==0&&(f3==0&&(f4==0&&(f5==0&&(f6==0&&(f7==0&&true)))))))))) then false else true)
theorem V2(ln:Int)(d:List UInt8)(m:Nat)(f0 f1 f2 f3 f4 f5 f6 f7:Int)(hd:d.length=64):aa eF 17 #[.agg (sV 3 ln d m f0 f1 f2 f3 f4 f5 f6 f7)] [] [] N0 (λ_=> .bool (ww ln m f0 f1 f2 f3 f4 f5 f6 f7)):=by
 refine fG Tryz.func17 λw cs=>?_
 refine ra (λq1=>[(1,pt (B0 q1) 0),(2,.bool false)]) (λq1=>[ob (B0 q1) (sV 3 ln d m f0 f1 f2 f3 f4 f5 f6 f7) 50]) λq1=>r0 [(1,.m (ld 0 (i6 3))),(5,.m (ld 0 (i6 3))),(9,.m (ls 0 (sL 3 ln d m f0 f1 f2 f3 f4 f5 f6 f7))),(10,.m (ls 0 (sL 3 ln d m f0 f1 f2 f3 f4 f5 f6 f7))),(11,.c [] [] (VO ln d m f0 f1 f2 f3 f4 f5 f6 f7 (by(simp only[LL,hd,hd];done)))),(12,.t (i9 50 λ_ _ _=>jW (xs:=([i6 3,i6 ln]:List Value)++rB 64 d++([u6 (m:Int),i6 f0,i6 f1,i6 f2,i6 f3,i6 f4,i6 f5,i6 f6,i6 f7]:List Value)) (ys:=([i6 3,i6 ln]:List Value)++rB 64 d++([u6 (m:Int),i6 0,i6 0,i6 0,i6 0,i6 0,i6 0,i6 0,i6 0]:List Value)) Kr (fz Kr Kr (fz Kr Kr bh ((jp hd hd).trans (cC rfl))) bh)))] [(16,.bool (!(((3==3&&(ln==ln&&true))&&true)&&((m:Int)==(m:Int)&&(f0==0&&(f1==0&&(f2==0&&(f3==0&&(f4==0&&(f5==0&&(f6==0&&(f7==0&&true))))))))))))] [] ?_
 refine cB (!(((3==3&&(ln==ln&&true))&&true)&&((m:Int)==(m:Int)&&(f0==0&&(f1==0&&(f2==0&&(f3==0&&(f4==0&&(f5==0&&(f6==0&&(f7==0&&true))))))))))) (λh3=>?_) λh3=>?_
 ·refine r0 [] [(2,.bool false)] [2] ?_
  exact am (.bool false) ab.zero (by((try simp only[ww]);(repeat (first | rw[h3] | rw[ALct])))<;>rfl) [] [] []
 refine r0 [(1,.m (ld 0 (i6 3))),(4,.d),(5,.d),(6,.d),(7,.d),(8,.d),(9,.d),(10,.d),(11,.d),(12,.d),(13,.d)] [(2,.bool true)] [2] ?_
 exact am (.bool true) ab.zero (by((try simp only[ww]);(repeat (first | rw[h3] | rw[ALcf])))<;>rfl) [] [] []
def wx(k ln:Int)(d:List UInt8)(m:Nat)(f0 f1 f2 f3 f4 f5 f6 f7:Int):Bool:=(bif !(((k==k&&(ln==0&&true))&&decide (d=dZ 64 0))&&((m:Int)==0&&(f0==0&&(f1==0&&(f2==0&&(f3==0&&(f4==0&&(f5==0&&(f6==0&&(f7==0&&true)))))))))) then false else true)
theorem V3(k ln:Int)(d:List UInt8)(m:Nat)(f0 f1 f2 f3 f4 f5 f6 f7:Int)(hd:d.length=64)(hk1:4≤k)(hk2:k≤7):aa eF 17 #[.agg (sV k ln d m f0 f1 f2 f3 f4 f5 f6 f7)] [] [] N0 (λ_=> .bool (wx k ln d m f0 f1 f2 f3 f4 f5 f6 f7)):=by
 refine fG Tryz.func17 λw cs=>?_
 refine ra (λq1=>[(1,pt (B0 q1) 0),(2,.bool false)]) (λq1=>[ob (B0 q1) (sV k ln d m f0 f1 f2 f3 f4 f5 f6 f7) 50]) λq1=>r0 [(1,.m (ld 0 (i6 k))),(2,.t (tk (show Value.bool (decide (k<1))= .bool false from ALca Value.bool (by simp;omega)))),(5,.m (ld 0 (i6 k))),(6,.t (tk (show Value.bool (decide (8<k))= .bool false from ALca Value.bool (by simp;omega)))),(9,.m (ls 0 (sL k ln d m f0 f1 f2 f3 f4 f5 f6 f7))),(10,.m (ls 0 (sL k ln d m f0 f1 f2 f3 f4 f5 f6 f7))),(11,.c [] [] (VP k ln d m f0 f1 f2 f3 f4 f5 f6 f7 (by(simp only[LL,hd,hd];done)) Om Om)),(12,.t (i9 50 λ_ _ _=>jW (xs:=([i6 k,i6 ln]:List Value)++rB 64 d++([u6 (m:Int),i6 f0,i6 f1,i6 f2,i6 f3,i6 f4,i6 f5,i6 f6,i6 f7]:List Value)) (ys:=([i6 k,i6 0]:List Value)++rB 64 z6++([u6 0,i6 0,i6 0,i6 0,i6 0,i6 0,i6 0,i6 0,i6 0]:List Value)) Kr (fz Kr Kr (fz Kr Kr bh (jp hd (show z6.length=64 by rfl))) bh)))] [(16,.bool (!(((k==k&&(ln==0&&true))&&decide (d=dZ 64 0))&&((m:Int)==0&&(f0==0&&(f1==0&&(f2==0&&(f3==0&&(f4==0&&(f5==0&&(f6==0&&(f7==0&&true))))))))))))] [] ?_
 refine cB (!(((k==k&&(ln==0&&true))&&decide (d=dZ 64 0))&&((m:Int)==0&&(f0==0&&(f1==0&&(f2==0&&(f3==0&&(f4==0&&(f5==0&&(f6==0&&(f7==0&&true))))))))))) (λh3=>?_) λh3=>?_
 ·refine r0 [] [(2,.bool false)] [2] ?_
  exact am (.bool false) ab.zero (by((try simp only[wx]);(repeat (first | rw[h3] | rw[ALct])))<;>rfl) [] [] []
 refine r0 [(1,.m (ld 0 (i6 k))),(2,.t (tk (show Value.bool (k != 8)= .bool true from ALca Value.bool (by rw[bne_iff_ne];omega)))),(4,.d),(5,.d),(6,.d),(7,.d),(8,.d),(9,.d),(10,.d),(11,.d),(12,.d),(13,.d)] [(2,.bool true)] [2] ?_
 exact am (.bool true) ab.zero (by((try simp only[wx]);(repeat (first | rw[h3] | rw[ALcf])))<;>rfl) [] [] []
def wy(ln:Int)(d:List UInt8)(m:Nat)(f1 f2 f3 f4 f5 f6 f7:Int):Bool:=(bif !(((8==8&&(ln==0&&true))&&decide (d=dZ 64 0))&&((m:Int)==0&&(1==1&&(f1==f1&&(f2==f2&&(f3==f3&&(f4==f4&&(f5==0&&(f6==f6&&(f7==0&&true)))))))))) then false else true)
theorem V4(ln:Int)(d:List UInt8)(m:Nat)(f1 f2 f3 f4 f5 f6 f7:Int)(hd:d.length=64):aa eF 17 #[.agg (sV 8 ln d m 1 f1 f2 f3 f4 f5 f6 f7)] [] [] N0 (λ_=> .bool (wy ln d m f1 f2 f3 f4 f5 f6 f7)):=by
 refine fG Tryz.func17 λw cs=>?_
 refine ra (λq1=>[(1,pt (B0 q1) 0),(2,.bool false)]) (λq1=>[ob (B0 q1) (sV 8 ln d m 1 f1 f2 f3 f4 f5 f6 f7) 50]) λq1=>r0 [(1,.m (ld 0 (i6 8))),(5,.m (ld 0 (i6 8))),(9,.m (ls 0 (sL 8 ln d m 1 f1 f2 f3 f4 f5 f6 f7))),(10,.m (ls 0 (sL 8 ln d m 1 f1 f2 f3 f4 f5 f6 f7))),(11,.c [] [] (VQ ln d m f1 f2 f3 f4 f5 f6 f7 (by(simp only[LL,hd,hd];done)))),(12,.t (i9 50 λ_ _ _=>jW (xs:=([i6 8,i6 ln]:List Value)++rB 64 d++([u6 (m:Int),i6 1,i6 f1,i6 f2,i6 f3,i6 f4,i6 f5,i6 f6,i6 f7]:List Value)) (ys:=([i6 8,i6 0]:List Value)++rB 64 z6++([u6 0,i6 1,i6 f1,i6 f2,i6 f3,i6 f4,i6 0,i6 f6,i6 0]:List Value)) Kr (fz Kr Kr (fz Kr Kr bh (jp hd (show z6.length=64 by rfl))) bh)))] [(16,.bool (!(((8==8&&(ln==0&&true))&&decide (d=dZ 64 0))&&((m:Int)==0&&(1==1&&(f1==f1&&(f2==f2&&(f3==f3&&(f4==f4&&(f5==0&&(f6==f6&&(f7==0&&true))))))))))))] [] ?_
 refine cB (!(((8==8&&(ln==0&&true))&&decide (d=dZ 64 0))&&((m:Int)==0&&(1==1&&(f1==f1&&(f2==f2&&(f3==f3&&(f4==f4&&(f5==0&&(f6==f6&&(f7==0&&true))))))))))) (λh3=>?_) λh3=>?_
 ·refine r0 [] [(2,.bool false)] [2] ?_
  exact am (.bool false) ab.zero (by((try simp only[wy]);(repeat (first | rw[h3] | rw[ALct])))<;>rfl) [] [] []
 refine r0 [(1,.m (ld 0 (i6 8))),(6,.m (ld 0 (i6 1))),(11,.m (ld 0 (i6 1))),] [(2,.bool true)] [2] ?_
 exact am (.bool true) ab.zero (by((try simp only[wy]);(repeat (first | rw[h3] | rw[ALcf])))<;>rfl) [] [] []
def wz(ln:Int)(d:List UInt8)(m:Nat)(f1 f2 f3 f4 f5 f6 f7:Int):Bool:=(bif !(((8==8&&(ln==0&&true))&&decide (d=dZ 64 0))&&((m:Int)==0&&(2==2&&(f1==f1&&(f2==f2&&(f3==f3&&(f4==f4&&(f5==0&&(f6==f6&&(f7==f7&&true)))))))))) then false else true)
theorem V5(ln:Int)(d:List UInt8)(m:Nat)(f1 f2 f3 f4 f5 f6 f7:Int)(hd:d.length=64):aa eF 17 #[.agg (sV 8 ln d m 2 f1 f2 f3 f4 f5 f6 f7)] [] [] N0 (λ_=> .bool (wz ln d m f1 f2 f3 f4 f5 f6 f7)):=by
 refine fG Tryz.func17 λw cs=>?_
 refine ra (λq1=>[(1,pt (B0 q1) 0),(2,.bool false)]) (λq1=>[ob (B0 q1) (sV 8 ln d m 2 f1 f2 f3 f4 f5 f6 f7) 50]) λq1=>r0 [(1,.m (ld 0 (i6 8))),(5,.m (ld 0 (i6 8))),(9,.m (ls 0 (sL 8 ln d m 2 f1 f2 f3 f4 f5 f6 f7))),(10,.m (ls 0 (sL 8 ln d m 2 f1 f2 f3 f4 f5 f6 f7))),(11,.c [] [] (VR ln d m f1 f2 f3 f4 f5 f6 f7 (by(simp only[LL,hd,hd];done)))),(12,.t (i9 50 λ_ _ _=>jW (xs:=([i6 8,i6 ln]:List Value)++rB 64 d++([u6 (m:Int),i6 2,i6 f1,i6 f2,i6 f3,i6 f4,i6 f5,i6 f6,i6 f7]:List Value)) (ys:=([i6 8,i6 0]:List Value)++rB 64 z6++([u6 0,i6 2,i6 f1,i6 f2,i6 f3,i6 f4,i6 0,i6 f6,i6 f7]:List Value)) Kr (fz Kr Kr (fz Kr Kr bh (jp hd (show z6.length=64 by rfl))) bh)))] [(16,.bool (!(((8==8&&(ln==0&&true))&&decide (d=dZ 64 0))&&((m:Int)==0&&(2==2&&(f1==f1&&(f2==f2&&(f3==f3&&(f4==f4&&(f5==0&&(f6==f6&&(f7==f7&&true))))))))))))] [] ?_
 refine cB (!(((8==8&&(ln==0&&true))&&decide (d=dZ 64 0))&&((m:Int)==0&&(2==2&&(f1==f1&&(f2==f2&&(f3==f3&&(f4==f4&&(f5==0&&(f6==f6&&(f7==f7&&true))))))))))) (λh3=>?_) λh3=>?_
 ·refine r0 [] [(2,.bool false)] [2] ?_
  exact am (.bool false) ab.zero (by((try simp only[wz]);(repeat (first | rw[h3] | rw[ALct])))<;>rfl) [] [] []
 refine r0 [(1,.m (ld 0 (i6 8))),(6,.m (ld 0 (i6 2))),(11,.m (ld 0 (i6 2))),] [(2,.bool true)] [2] ?_
 exact am (.bool true) ab.zero (by((try simp only[wz]);(repeat (first | rw[h3] | rw[ALcf])))<;>rfl) [] [] []
def wA(ln:Int)(d:List UInt8)(m:Nat)(f1 f2 f3 f4 f5 f6 f7:Int):Bool:=(bif !(((8==8&&(ln==0&&true))&&decide (d=dZ 64 0))&&((m:Int)==0&&(3==3&&(f1==f1&&(f2==f2&&(f3==f3&&(f4==0&&(f5==f5&&(f6==0&&(f7==f7&&true)))))))))) then false else true)
theorem V6(ln:Int)(d:List UInt8)(m:Nat)(f1 f2 f3 f4 f5 f6 f7:Int)(hd:d.length=64):aa eF 17 #[.agg (sV 8 ln d m 3 f1 f2 f3 f4 f5 f6 f7)] [] [] N0 (λ_=> .bool (wA ln d m f1 f2 f3 f4 f5 f6 f7)):=by
 refine fG Tryz.func17 λw cs=>?_
 refine ra (λq1=>[(1,pt (B0 q1) 0),(2,.bool false)]) (λq1=>[ob (B0 q1) (sV 8 ln d m 3 f1 f2 f3 f4 f5 f6 f7) 50]) λq1=>r0 [(1,.m (ld 0 (i6 8))),(5,.m (ld 0 (i6 8))),(9,.m (ls 0 (sL 8 ln d m 3 f1 f2 f3 f4 f5 f6 f7))),(10,.m (ls 0 (sL 8 ln d m 3 f1 f2 f3 f4 f5 f6 f7))),(11,.c [] [] (VS ln d m f1 f2 f3 f4 f5 f6 f7 (by(simp only[LL,hd,hd];done)))),(12,.t (i9 50 λ_ _ _=>jW (xs:=([i6 8,i6 ln]:List Value)++rB 64 d++([u6 (m:Int),i6 3,i6 f1,i6 f2,i6 f3,i6 f4,i6 f5,i6 f6,i6 f7]:List Value)) (ys:=([i6 8,i6 0]:List Value)++rB 64 z6++([u6 0,i6 3,i6 f1,i6 f2,i6 f3,i6 0,i6 f5,i6 0,i6 f7]:List Value)) Kr (fz Kr Kr (fz Kr Kr bh (jp hd (show z6.length=64 by rfl))) bh)))] [(16,.bool (!(((8==8&&(ln==0&&true))&&decide (d=dZ 64 0))&&((m:Int)==0&&(3==3&&(f1==f1&&(f2==f2&&(f3==f3&&(f4==0&&(f5==f5&&(f6==0&&(f7==f7&&true))))))))))))] [] ?_
 refine cB (!(((8==8&&(ln==0&&true))&&decide (d=dZ 64 0))&&((m:Int)==0&&(3==3&&(f1==f1&&(f2==f2&&(f3==f3&&(f4==0&&(f5==f5&&(f6==0&&(f7==f7&&true))))))))))) (λh3=>?_) λh3=>?_
 ·refine r0 [] [(2,.bool false)] [2] ?_
  exact am (.bool false) ab.zero (by((try simp only[wA]);(repeat (first | rw[h3] | rw[ALct])))<;>rfl) [] [] []
 refine r0 [(1,.m (ld 0 (i6 8))),(6,.m (ld 0 (i6 3))),(11,.m (ld 0 (i6 3))),] [(2,.bool true)] [2] ?_
 exact am (.bool true) ab.zero (by((try simp only[wA]);(repeat (first | rw[h3] | rw[ALcf])))<;>rfl) [] [] []
def wB(ln:Int)(d:List UInt8)(m:Nat)(f1 f2 f3 f4 f5 f6 f7:Int):Bool:=(bif !(((8==8&&(ln==0&&true))&&decide (d=dZ 64 0))&&((m:Int)==0&&(4==4&&(f1==f1&&(f2==f2&&(f3==0&&(f4==f4&&(f5==f5&&(f6==0&&(f7==f7&&true)))))))))) then false else true)
theorem V7(ln:Int)(d:List UInt8)(m:Nat)(f1 f2 f3 f4 f5 f6 f7:Int)(hd:d.length=64):aa eF 17 #[.agg (sV 8 ln d m 4 f1 f2 f3 f4 f5 f6 f7)] [] [] N0 (λ_=> .bool (wB ln d m f1 f2 f3 f4 f5 f6 f7)):=by
 refine fG Tryz.func17 λw cs=>?_
 refine ra (λq1=>[(1,pt (B0 q1) 0),(2,.bool false)]) (λq1=>[ob (B0 q1) (sV 8 ln d m 4 f1 f2 f3 f4 f5 f6 f7) 50]) λq1=>r0 [(1,.m (ld 0 (i6 8))),(5,.m (ld 0 (i6 8))),(9,.m (ls 0 (sL 8 ln d m 4 f1 f2 f3 f4 f5 f6 f7))),(10,.m (ls 0 (sL 8 ln d m 4 f1 f2 f3 f4 f5 f6 f7))),(11,.c [] [] (VT ln d m f1 f2 f3 f4 f5 f6 f7 (by(simp only[LL,hd,hd];done)))),(12,.t (i9 50 λ_ _ _=>jW (xs:=([i6 8,i6 ln]:List Value)++rB 64 d++([u6 (m:Int),i6 4,i6 f1,i6 f2,i6 f3,i6 f4,i6 f5,i6 f6,i6 f7]:List Value)) (ys:=([i6 8,i6 0]:List Value)++rB 64 z6++([u6 0,i6 4,i6 f1,i6 f2,i6 0,i6 f4,i6 f5,i6 0,i6 f7]:List Value)) Kr (fz Kr Kr (fz Kr Kr bh (jp hd (show z6.length=64 by rfl))) bh)))] [(16,.bool (!(((8==8&&(ln==0&&true))&&decide (d=dZ 64 0))&&((m:Int)==0&&(4==4&&(f1==f1&&(f2==f2&&(f3==0&&(f4==f4&&(f5==f5&&(f6==0&&(f7==f7&&true))))))))))))] [] ?_
 refine cB (!(((8==8&&(ln==0&&true))&&decide (d=dZ 64 0))&&((m:Int)==0&&(4==4&&(f1==f1&&(f2==f2&&(f3==0&&(f4==f4&&(f5==f5&&(f6==0&&(f7==f7&&true))))))))))) (λh3=>?_) λh3=>?_
 ·refine r0 [] [(2,.bool false)] [2] ?_
  exact am (.bool false) ab.zero (by((try simp only[wB]);(repeat (first | rw[h3] | rw[ALct])))<;>rfl) [] [] []
 refine r0 [(1,.m (ld 0 (i6 8))),(6,.m (ld 0 (i6 4))),(11,.m (ld 0 (i6 4))),] [(2,.bool true)] [2] ?_
 exact am (.bool true) ab.zero (by((try simp only[wB]);(repeat (first | rw[h3] | rw[ALcf])))<;>rfl) [] [] []
def wE(ln:Int)(d:List UInt8)(m:Nat)(f1 f2 f3 f4 f5 f6 f7:Int):Bool:=(bif !(((8==8&&(ln==0&&true))&&decide (d=dZ 64 0))&&((m:Int)==0&&(5==5&&(f1==f1&&(f2==0&&(f3==0&&(f4==0&&(f5==f5&&(f6==0&&(f7==f7&&true)))))))))) then false else true)
theorem V8(ln:Int)(d:List UInt8)(m:Nat)(f1 f2 f3 f4 f5 f6 f7:Int)(hd:d.length=64):aa eF 17 #[.agg (sV 8 ln d m 5 f1 f2 f3 f4 f5 f6 f7)] [] [] N0 (λ_=> .bool (wE ln d m f1 f2 f3 f4 f5 f6 f7)):=by
 refine fG Tryz.func17 λw cs=>?_
 refine ra (λq1=>[(1,pt (B0 q1) 0),(2,.bool false)]) (λq1=>[ob (B0 q1) (sV 8 ln d m 5 f1 f2 f3 f4 f5 f6 f7) 50]) λq1=>r0 [(1,.m (ld 0 (i6 8))),(5,.m (ld 0 (i6 8))),(9,.m (ls 0 (sL 8 ln d m 5 f1 f2 f3 f4 f5 f6 f7))),(10,.m (ls 0 (sL 8 ln d m 5 f1 f2 f3 f4 f5 f6 f7))),(11,.c [] [] (VU ln d m f1 f2 f3 f4 f5 f6 f7 (by(simp only[LL,hd,hd];done)))),(12,.t (i9 50 λ_ _ _=>jW (xs:=([i6 8,i6 ln]:List Value)++rB 64 d++([u6 (m:Int),i6 5,i6 f1,i6 f2,i6 f3,i6 f4,i6 f5,i6 f6,i6 f7]:List Value)) (ys:=([i6 8,i6 0]:List Value)++rB 64 z6++([u6 0,i6 5,i6 f1,i6 0,i6 0,i6 0,i6 f5,i6 0,i6 f7]:List Value)) Kr (fz Kr Kr (fz Kr Kr bh (jp hd (show z6.length=64 by rfl))) bh)))] [(16,.bool (!(((8==8&&(ln==0&&true))&&decide (d=dZ 64 0))&&((m:Int)==0&&(5==5&&(f1==f1&&(f2==0&&(f3==0&&(f4==0&&(f5==f5&&(f6==0&&(f7==f7&&true))))))))))))] [] ?_
 refine cB (!(((8==8&&(ln==0&&true))&&decide (d=dZ 64 0))&&((m:Int)==0&&(5==5&&(f1==f1&&(f2==0&&(f3==0&&(f4==0&&(f5==f5&&(f6==0&&(f7==f7&&true))))))))))) (λh3=>?_) λh3=>?_
 ·refine r0 [] [(2,.bool false)] [2] ?_
  exact am (.bool false) ab.zero (by((try simp only[wE]);(repeat (first | rw[h3] | rw[ALct])))<;>rfl) [] [] []
 refine r0 [(1,.m (ld 0 (i6 8))),(6,.m (ld 0 (i6 5))),(11,.m (ld 0 (i6 5))),] [(2,.bool true)] [2] ?_
 exact am (.bool true) ab.zero (by((try simp only[wE]);(repeat (first | rw[h3] | rw[ALcf])))<;>rfl) [] [] []
def wF(ln:Int)(d:List UInt8)(m:Nat)(f1 f2 f3 f4 f5 f6 f7:Int):Bool:=(bif !(((8==8&&(ln==0&&true))&&decide (d=dZ 64 0))&&((m:Int)==0&&(6==6&&(f1==f1&&(f2==f2&&(f3==f3&&(f4==f4&&(f5==0&&(f6==0&&(f7==0&&true)))))))))) then false else true)
theorem V9(ln:Int)(d:List UInt8)(m:Nat)(f1 f2 f3 f4 f5 f6 f7:Int)(hd:d.length=64):aa eF 17 #[.agg (sV 8 ln d m 6 f1 f2 f3 f4 f5 f6 f7)] [] [] N0 (λ_=> .bool (wF ln d m f1 f2 f3 f4 f5 f6 f7)):=by
 refine fG Tryz.func17 λw cs=>?_
 refine ra (λq1=>[(1,pt (B0 q1) 0),(2,.bool false)]) (λq1=>[ob (B0 q1) (sV 8 ln d m 6 f1 f2 f3 f4 f5 f6 f7) 50]) λq1=>r0 [(1,.m (ld 0 (i6 8))),(5,.m (ld 0 (i6 8))),(9,.m (ls 0 (sL 8 ln d m 6 f1 f2 f3 f4 f5 f6 f7))),(10,.m (ls 0 (sL 8 ln d m 6 f1 f2 f3 f4 f5 f6 f7))),(11,.c [] [] (VV ln d m f1 f2 f3 f4 f5 f6 f7 (by(simp only[LL,hd,hd];done)))),(12,.t (i9 50 λ_ _ _=>jW (xs:=([i6 8,i6 ln]:List Value)++rB 64 d++([u6 (m:Int),i6 6,i6 f1,i6 f2,i6 f3,i6 f4,i6 f5,i6 f6,i6 f7]:List Value)) (ys:=([i6 8,i6 0]:List Value)++rB 64 z6++([u6 0,i6 6,i6 f1,i6 f2,i6 f3,i6 f4,i6 0,i6 0,i6 0]:List Value)) Kr (fz Kr Kr (fz Kr Kr bh (jp hd (show z6.length=64 by rfl))) bh)))] [(16,.bool (!(((8==8&&(ln==0&&true))&&decide (d=dZ 64 0))&&((m:Int)==0&&(6==6&&(f1==f1&&(f2==f2&&(f3==f3&&(f4==f4&&(f5==0&&(f6==0&&(f7==0&&true))))))))))))] [] ?_
 refine cB (!(((8==8&&(ln==0&&true))&&decide (d=dZ 64 0))&&((m:Int)==0&&(6==6&&(f1==f1&&(f2==f2&&(f3==f3&&(f4==f4&&(f5==0&&(f6==0&&(f7==0&&true))))))))))) (λh3=>?_) λh3=>?_
 ·refine r0 [] [(2,.bool false)] [2] ?_
  exact am (.bool false) ab.zero (by((try simp only[wF]);(repeat (first | rw[h3] | rw[ALct])))<;>rfl) [] [] []
 refine r0 [(1,.m (ld 0 (i6 8))),(6,.m (ld 0 (i6 6))),(11,.m (ld 0 (i6 6))),] [(2,.bool true)] [2] ?_
 exact am (.bool true) ab.zero (by((try simp only[wF]);(repeat (first | rw[h3] | rw[ALcf])))<;>rfl) [] [] []
def wG(ln:Int)(d:List UInt8)(m:Nat)(f1 f2 f3 f4 f5 f6 f7:Int):Bool:=(bif !(((8==8&&(ln==0&&true))&&decide (d=dZ 64 0))&&((m:Int)==0&&(7==7&&(f1==0&&(f2==0&&(f3==0&&(f4==0&&(f5==0&&(f6==0&&(f7==0&&true)))))))))) then false else true)
theorem Wb(ln:Int)(d:List UInt8)(m:Nat)(f1 f2 f3 f4 f5 f6 f7:Int)(hd:d.length=64):aa eF 17 #[.agg (sV 8 ln d m 7 f1 f2 f3 f4 f5 f6 f7)] [] [] N0 (λ_=> .bool (wG ln d m f1 f2 f3 f4 f5 f6 f7)):=by
 refine fG Tryz.func17 λw cs=>?_
 refine ra (λq1=>[(1,pt (B0 q1) 0),(2,.bool false)]) (λq1=>[ob (B0 q1) (sV 8 ln d m 7 f1 f2 f3 f4 f5 f6 f7) 50]) λq1=>r0 [(1,.m (ld 0 (i6 8))),(5,.m (ld 0 (i6 8))),(9,.m (ls 0 (sL 8 ln d m 7 f1 f2 f3 f4 f5 f6 f7))),(10,.m (ls 0 (sL 8 ln d m 7 f1 f2 f3 f4 f5 f6 f7))),(11,.c [] [] (VW ln d m f1 f2 f3 f4 f5 f6 f7 (by(simp only[LL,hd,hd];done)))),(12,.t (i9 50 λ_ _ _=>jW (xs:=([i6 8,i6 ln]:List Value)++rB 64 d++([u6 (m:Int),i6 7,i6 f1,i6 f2,i6 f3,i6 f4,i6 f5,i6 f6,i6 f7]:List Value)) (ys:=([i6 8,i6 0]:List Value)++rB 64 z6++([u6 0,i6 7,i6 0,i6 0,i6 0,i6 0,i6 0,i6 0,i6 0]:List Value)) Kr (fz Kr Kr (fz Kr Kr bh (jp hd (show z6.length=64 by rfl))) bh)))] [(16,.bool (!(((8==8&&(ln==0&&true))&&decide (d=dZ 64 0))&&((m:Int)==0&&(7==7&&(f1==0&&(f2==0&&(f3==0&&(f4==0&&(f5==0&&(f6==0&&(f7==0&&true))))))))))))] [] ?_
 refine cB (!(((8==8&&(ln==0&&true))&&decide (d=dZ 64 0))&&((m:Int)==0&&(7==7&&(f1==0&&(f2==0&&(f3==0&&(f4==0&&(f5==0&&(f6==0&&(f7==0&&true))))))))))) (λh3=>?_) λh3=>?_
 ·refine r0 [] [(2,.bool false)] [2] ?_
  exact am (.bool false) ab.zero (by((try simp only[wG]);(repeat (first | rw[h3] | rw[ALct])))<;>rfl) [] [] []
 refine r0 [(1,.m (ld 0 (i6 8))),(6,.m (ld 0 (i6 7))),(11,.m (ld 0 (i6 7))),] [(2,.bool true)] [2] ?_
 exact am (.bool true) ab.zero (by((try simp only[wG]);(repeat (first | rw[h3] | rw[ALcf])))<;>rfl) [] [] []
def wH(ln:Int)(d:List UInt8)(m:Nat)(f0 f1 f2 f3 f4 f5 f6 f7:Int):Bool:=(bif !(((8==8&&(ln==0&&true))&&decide (d=dZ 64 0))&&((m:Int)==0&&(f0==f0&&(f1==0&&(f2==0&&(f3==0&&(f4==0&&(f5==0&&(f6==0&&(f7==0&&true)))))))))) then false else(decide (1≤f0))&&(decide (f0≤7)))
theorem Wc(ln:Int)(d:List UInt8)(m:Nat)(f0 f1 f2 f3 f4 f5 f6 f7:Int)(hd:d.length=64)(hk1:f0<1∨7<f0):aa eF 17 #[.agg (sV 8 ln d m f0 f1 f2 f3 f4 f5 f6 f7)] [] [] N0 (λ_=> .bool (wH ln d m f0 f1 f2 f3 f4 f5 f6 f7)):=by
 refine fG Tryz.func17 λw cs=>?_
 refine ra (λq1=>[(1,pt (B0 q1) 0),(2,.bool false)]) (λq1=>[ob (B0 q1) (sV 8 ln d m f0 f1 f2 f3 f4 f5 f6 f7) 50]) λq1=>r0 [(1,.m (ld 0 (i6 8))),(5,.m (ld 0 (i6 8))),(9,.m (ls 0 (sL 8 ln d m f0 f1 f2 f3 f4 f5 f6 f7))),(10,.m (ls 0 (sL 8 ln d m f0 f1 f2 f3 f4 f5 f6 f7))),(11,.c [] [] (VX ln d m f0 f1 f2 f3 f4 f5 f6 f7 (by(simp only[LL,hd,hd];done)) Om)),(12,.t (i9 50 λ_ _ _=>jW (xs:=([i6 8,i6 ln]:List Value)++rB 64 d++([u6 (m:Int),i6 f0,i6 f1,i6 f2,i6 f3,i6 f4,i6 f5,i6 f6,i6 f7]:List Value)) (ys:=([i6 8,i6 0]:List Value)++rB 64 z6++([u6 0,i6 f0,i6 0,i6 0,i6 0,i6 0,i6 0,i6 0,i6 0]:List Value)) Kr (fz Kr Kr (fz Kr Kr bh (jp hd (show z6.length=64 by rfl))) bh)))] [(16,.bool (!(((8==8&&(ln==0&&true))&&decide (d=dZ 64 0))&&((m:Int)==0&&(f0==f0&&(f1==0&&(f2==0&&(f3==0&&(f4==0&&(f5==0&&(f6==0&&(f7==0&&true))))))))))))] [] ?_
 refine cB (!(((8==8&&(ln==0&&true))&&decide (d=dZ 64 0))&&((m:Int)==0&&(f0==f0&&(f1==0&&(f2==0&&(f3==0&&(f4==0&&(f5==0&&(f6==0&&(f7==0&&true))))))))))) (λh3=>?_) λh3=>?_
 ·refine r0 [] [(2,.bool false)] [2] ?_
  exact am (.bool false) ab.zero (by((try simp only[wH]);(repeat (first | rw[h3] | rw[ALct])))<;>rfl) [] [] []
 refine r0 [(1,.m (ld 0 (i6 8))),(6,.m (ld 0 (i6 f0))),(11,.m (ld 0 (i6 f0))),] [(2,.bool ((decide (1≤f0))&&(decide (f0≤7))))] [2] ?_
 exact am (.bool ((decide (1≤f0))&&(decide (f0≤7)))) ab.zero (by((try simp only[wH]);(repeat (first | rw[h3] | rw[ALcf])))<;>rfl) [] [] []
def eD(k ln:Int)(d:List UInt8)(m:Nat)(f0 f1 f2 f3 f4 f5 f6 f7:Int):Bool:=
 if k<1 then false else if 8<k then false else if k=1 then wu ln d m f0 f1 f2 f3 f4 f5 f6 f7 else if k=2 then wv ln m f0 f1 f2 f3 f4 f5 f6 f7 else if k=3 then ww ln m f0 f1 f2 f3 f4 f5 f6 f7 else if k≤7 then wx k ln d m f0 f1 f2 f3 f4 f5 f6 f7 else if f0=1 then wy ln d m f1 f2 f3 f4 f5 f6 f7 else if f0=2 then wz ln d m f1 f2 f3 f4 f5 f6 f7 else if f0=3 then wA ln d m f1 f2 f3 f4 f5 f6 f7 else if f0=4 then wB ln d m f1 f2 f3 f4 f5 f6 f7 else if f0=5 then wE ln d m f1 f2 f3 f4 f5 f6 f7 else if f0=6 then wF ln d m f1 f2 f3 f4 f5 f6 f7 else if f0=7 then wG ln d m f1 f2 f3 f4 f5 f6 f7 else wH ln d m f0 f1 f2 f3 f4 f5 f6 f7
def sR(s:St):Bool:=eD s.k s.ln s.d s.m s.f0 s.f1 s.f2 s.f3 s.f4 s.f5 s.f6 s.f7
theorem Wd{s:St}(h:sR s=true):1≤s.k∧s.k≤8:=by
 unfold sR eD at h
 by_cases h1:s.k<1
 ·rw[ALifp h1] at h;cases h
 ·rw[ALifn h1] at h
  by_cases h2:8<s.k
  ·rw[ALifp h2] at h;cases h
  ·omega
theorem kF(k ln:Int)(d:List UInt8)(m:Nat)(f0 f1 f2 f3 f4 f5 f6 f7:Int)(hd:d.length=64):aa eF 17 #[.agg ([i6 k,i6 ln]++rB 64 d++[u6 (m:Int),i6 f0,i6 f1,i6 f2,i6 f3,i6 f4,i6 f5,i6 f6,i6 f7]).toArray] [] [] N0 (λ_=> .bool (eD k ln d m f0 f1 f2 f3 f4 f5 f6 f7)):=by
 unfold eD
 by_cases h1:k<1
 ·rw[ALifp h1];exact VY k ln d m f0 f1 f2 f3 f4 f5 f6 f7 hd h1
 rw[ALifn h1]
 by_cases h2:8<k
 ·rw[ALifp h2];exact VZ k ln d m f0 f1 f2 f3 f4 f5 f6 f7 hd h2
 rw[ALifn h2]
 by_cases h3:k=1
 ·subst h3;rw[ALifp rfl];exact V0 ln d m f0 f1 f2 f3 f4 f5 f6 f7 hd
 rw[ALifn h3]
 by_cases h4:k=2
 ·subst h4;rw[ALifp rfl];exact V1 ln d m f0 f1 f2 f3 f4 f5 f6 f7 hd
 rw[ALifn h4]
 by_cases h5:k=3
 ·subst h5;rw[ALifp rfl];exact V2 ln d m f0 f1 f2 f3 f4 f5 f6 f7 hd
 rw[ALifn h5]
 by_cases h6:k≤7
 ·rw[ALifp h6];exact V3 k ln d m f0 f1 f2 f3 f4 f5 f6 f7 hd Om h6
 rw[ALifn h6]
 obtain rfl:k=8:=by omega
 by_cases g1:f0=1
 ·subst g1;rw[ALifp rfl];exact V4 ln d m f1 f2 f3 f4 f5 f6 f7 hd
 rw[ALifn g1]
 by_cases g2:f0=2
 ·subst g2;rw[ALifp rfl];exact V5 ln d m f1 f2 f3 f4 f5 f6 f7 hd
 rw[ALifn g2]
 by_cases g3:f0=3
 ·subst g3;rw[ALifp rfl];exact V6 ln d m f1 f2 f3 f4 f5 f6 f7 hd
 rw[ALifn g3]
 by_cases g4:f0=4
 ·subst g4;rw[ALifp rfl];exact V7 ln d m f1 f2 f3 f4 f5 f6 f7 hd
 rw[ALifn g4]
 by_cases g5:f0=5
 ·subst g5;rw[ALifp rfl];exact V8 ln d m f1 f2 f3 f4 f5 f6 f7 hd
 rw[ALifn g5]
 by_cases g6:f0=6
 ·subst g6;rw[ALifp rfl];exact V9 ln d m f1 f2 f3 f4 f5 f6 f7 hd
 rw[ALifn g6]
 by_cases g7:f0=7
 ·subst g7;rw[ALifp rfl];exact Wb ln d m f1 f2 f3 f4 f5 f6 f7 hd
 rw[ALifn g7]
 exact Wc ln d m f0 f1 f2 f3 f4 f5 f6 f7 hd Om
theorem tE{α:Type}{en:α→List Value}{d:α}{A C:List Value}{a off m:Nat}{ys:List α}{t:TypeId}(h1: ∀x,(en x).length=1)(hA:A.length=off)(h:ys.length=m):aK en (.slice (some ⟨a,off,none⟩) m m) ys [(a,.cells ((A++cR en d m ys++C).toArray) t (0,0))]:=by
 have e:((A++cR en d m ys++C).drop off).take (aj en ys).length=aj en ys:=by rw[lw h,List.append_assoc,←hA,List.drop_left,List.take_left]
 exact⟨.inr ⟨a,off,_,t,(0,0),m,by rw[h],List.mem_singleton.2 rfl,e⟩,some ⟨a,off,none⟩,0,by rw[h];rfl⟩
theorem tF{P:Program}{T:TypeId}{w:World}{g off s N:Nat}(hT:(P.underlying T,P.arrayLen T,jo P (P.elem T))=(some (.array N (P.elem T)),N,some s))(h3:0<N):(Instr.sliceAt T (.pointer (some ⟨g,off,none⟩)) none none none).run P w= .ok (.slice (some ⟨g,off,none⟩) N N) w:=by
 have e1:P.arrayLen T=N:=ALca (·.2.1) hT
 rw[run_sliceAt_array_all w T ⟨g,off,none⟩ (by rw[e1];exact ALca (·.1) hT),oi (ALca (·.2.2) hT),oG]
 unfold slicedAt
 rw[e1,add_lit,nN,ALifn Om]
 rfl
structure Ij where
 x0:Int
 x1:Int
 x2:Int
 x3:Int
 x4:Int
 x5:Int
 x6:Int
 x7:Int
 sc:Nat
 ac:Nat
def We:Ij:=⟨0,0,0,0,0,0,0,0,0,0⟩
def He(x:Ij):List Value:=[i6 x.x0,i6 x.x1,i6 x.x2,i6 x.x3,i6 x.x4,i6 x.x5,i6 x.x6,i6 x.x7,iN x.sc,iN x.ac]
def Wf:Kd eF Ij:=⟨He,[i6 0,i6 0,i6 0,i6 0,i6 0,i6 0,i6 0,i6 0,i6 0,i6 0],111,187,We,10,λ_=>rfl,rfl,λ_=>rfl,d9.mk' Kr Kr rfl⟩
abbrev gz(v:Value)(xs:List Ij):az:= .p (ap He ([i6 0,i6 0,i6 0,i6 0,i6 0,i6 0,i6 0,i6 0,i6 0,i6 0]) 187 v xs)
structure Sv where
 k:Int
 ln:Int
 d:List UInt8
 m:Nat
 f0:Int
 f1:Int
 f2:Int
 f3:Int
 f4:Int
 f5:Int
 f6:Int
 f7:Int
 e:Int
 n:Int
 l:List UInt8
 w:List UInt8
 fi:Nat
 la:Nat
def aV:Sv:=⟨0,0,dZ 64 0,0,0,0,0,0,0,0,0,0,0,0,dZ 64 0,dZ 64 0,0,0⟩
def rg(x:Sv):List Value:=[i6 x.k,i6 x.ln]++rB 64 x.d++[u6 (x.m:Int),i6 x.f0,i6 x.f1,i6 x.f2,i6 x.f3,i6 x.f4,i6 x.f5,i6 x.f6,i6 x.f7,i6 x.e,i6 x.n]++rB 64 x.l++rB 64 x.w++[iN x.fi,iN x.la]
def wI:Kd eF Sv:=⟨rg,[i6 0,i6 0]++dZ 64 (u1 0)++[u6 0,i6 0,i6 0,i6 0,i6 0,i6 0,i6 0,i6 0,i6 0,i6 0,i6 0]++dZ 64 (u1 0)++dZ 64 (u1 0)++[i6 0,i6 0],112,149,aV,207,λ_=>rfl,rfl,λ_=>rfl,d9.mk' Kr Kr rfl⟩
abbrev db(v:Value)(xs:List Sv):az:= .p (ap rg ([i6 0,i6 0]++dZ 64 (u1 0)++[u6 0,i6 0,i6 0,i6 0,i6 0,i6 0,i6 0,i6 0,i6 0,i6 0,i6 0]++dZ 64 (u1 0)++dZ 64 (u1 0)++[i6 0,i6 0]) 149 v xs)
structure Mc where
 x:Ct
 id:Int→List UInt8
 inj:List Ij
 sv:List Sv
 sc:Nat
 st:Nat
def pX:List UInt8:=dZ 64 0
def wJ(r:List UInt8):Value:= .agg (rB 64 r).toArray
abbrev cY(f:Int→List UInt8)(g:Nat):az:= .p (mi wJ pX f g)
abbrev br(g gc gl gr gm gq gk gt gg gd ge go:Nat)(c:Cf)(x:Mc)(L:ah):Prop:=∃(gi:Nat) (vj vs:Value),L=[ob g #[pt gd 0,pt gc 0,.map (some gi),vj,vs,iN x.sc,iN x.st] 114,pk (aR gc gl gr gm gq gk gt gg gd ge go c x.x),cY x.id gi,gz vj x.inj,db vs x.sv]
structure d8 (c:Cf) (x:Mc) (K A N:Nat):Prop where
 ct:bC c x.x K A
 il: ∀k,(x.id k).length=64
 jl:x.inj.length≤N
 sl:x.sv.length≤N
 sc:x.sc≤N
 st:x.st≤N
theorem lX(gc gl gr gm gq gk gt gg gd ge go:Nat)(c:Cf)(x:Ct):aa eF 42 #[pt gd 0] [pk (aR gc gl gr gm gq gk gt gg gd ge go c x)] [0] (λ_=>[pk (aR gc gl gr gm gq gk gt gg gd ge go c x)]) (λ_=>iN x.V.l.length):=
 aa.inW (UT gd ge c x.V) λL ⟨v,e⟩=>⟨6,by rw[e];rfl,v,by rw[e];rfl⟩
theorem Wg(gc gl gr gm gq gk gt gg gd ge go:Nat)(c:Cf)(x:Ct)(hcf:dd c)(hV:nX c x.V)(f:Fa):aa eF 90 #[pt gd 0,.agg #[i6 f.x0,i6 f.x1,i6 f.x2,i6 f.x3,i6 f.x4,i6 f.x5,i6 f.x6,i6 f.x7]] [pk (aR gc gl gr gm gq gk gt gg gd ge go c x)] [0] (λ_=>[pk (aR gc gl gr gm gq gk gt gg gd ge go c {x with V:=nZ c x.V f})]) (λ_=>i6 (iw c x.V.D f)):=
 aa.inW (UU gd ge c hcf x.V hV f) λL ⟨v,e⟩=>⟨6,by rw[e];rfl,v,by rw[e];rfl⟩
theorem Hf(v:Nat):b6 v≠30:=by unfold b6;cases (v:Int)==3<;>cases (v:Int)==2<;>decide
theorem Hg(c:Cf)(x:Ct)(n m:Nat)(hm:m≠0):cv c x n m≠30:=by
 unfold cv
 rw[show((m:Int)==0)=false from dp.2 Om]
 cases decide (pc m=64)
 ·cases hv: !(b6 (bq c x (aA x n))==0)
  ·show(0:Int)≠30;decide
  ·exact Hf _
 ·show(0:Int)≠30;decide
def Hh(s:St)(e:Int)(l w:List UInt8)(fi la:Nat):Sv:=⟨s.k,s.ln,s.d,s.m,s.f0,s.f1,s.f2,s.f3,s.f4,s.f5,s.f6,s.f7,e,0,l,w,fi,la⟩
def Hi(c:Cf)(x:Mc)(n:Nat)(s:St):Mc:={x with x:=cy c x.x n c.back,sv:=x.sv++[Hh s (b6 (bq c x.x (aA x.x n))) (cH c x.x (aA x.x n)) (x.id (n:Int)) x.x.V.l.length (cy c x.x n c.back).V.l.length]}
def rh(c:Cf)(x:Mc)(n m:Nat)(s:St):Mc:={x with x:=bF c x.x n s.d m,id:=cI x.id (n:Int) (gH (x.id (n:Int)) s.d m),sv:=x.sv++[Hh s (cv c x.x n m) z6 (x.id (n:Int)) x.x.V.l.length (bF c x.x n s.d m).V.l.length]}
theorem Wh(g gc gl gr gm gq gk gt gg gd ge go:Nat)(c:Cf)(y:Ct)(K A:Nat)(h:bC c y K A)(hA:A≤700000)(hK:K+3≤1000000000)(n:Nat)(hn:n<((c.R*c.B*c.M-c.res)*c.C))(d:List UInt8)(hd:d.length=64)(m:Nat)(f0 f1 f2 f3 f4 f5 f6 f7:Int)(id:Int→List UInt8)(hil: ∀k,(id k).length=64)(sv:List Sv)(hsl:sv.length≤1000)(sc st gi:Nat)(vj vs:Value):aa eF 54 #[pt g 0,.agg (sV 1 (n:Int) d m f0 f1 f2 f3 f4 f5 f6 f7)] [ob g #[pt gd 0,pt gc 0,.map (some gi),vj,vs,iN sc,iN st] 114,pk (aR gc gl gr gm gq gk gt gg gd ge go c y),cY id gi,db vs sv] [0,1,2,3] (λE=>[ob g #[pt gd 0,pt gc 0,.map (some gi),vj,(E.val 0),iN sc,iN st] 114,pk (aR gc gl gr gm gq gk gt gg gd ge go c (cy c y n c.back)),cY id gi,db (E.val 0) (sv++([(⟨1,(n:Int),d,m,f0,f1,f2,f3,f4,f5,f6,f7,(b6 (bq c y (aA y n))),0,cH c y (aA y n),(id (n:Int)),y.V.l.length,(cy c y n c.back).V.l.length⟩:Sv)]))]) (λ_=> .agg (([i6 (b6 (bq c y (aA y n))),i6 0]:List Value)++rB 64 (cH c y (aA y n))).toArray):=by
 have hcf:=h.cf
 refine fG Tryz.func54 λw cs=>?_
 refine ra (λq1=>[(3,pt (B0 q1) 0),(4,pt (B1 q1) 0)]) (λq1=>[ob (B0 q1) (sV 1 (n:Int) d m f0 f1 f2 f3 f4 f5 f6 f7) 50,ob (B1 q1) (([i6 0,i6 0]:List Value)++rB 64 z6).toArray 53]) λq1=>rr (λ_=>[(0,.m (ls 4 (sL 1 (n:Int) d m f0 f1 f2 f3 f4 f5 f6 f7))),(4,.m (ld 0 (.map (some gi)))),(6,.m (ld 4 (iN n))),(7,.m (mg 2 (cY id gi) gi (n:Int) (λ_ h=>h))),(11,.m (ld 0 (pt gd 0))),(12,.c [1] [1] (lX gc gl gr gm gq gk gt gg gd ge go c y)),(14,.m (al 6)),(15,.s 6)]) (λq2=>[(5,pt ((q2 14).abd 0) 0)]) [] (λq2 L=>L++[ob ((q2 14).abd 0) (([i6 1,iN n]:List Value)++rB 64 d++([u6 (m:Int),i6 f0,i6 f1,i6 f2,i6 f3,i6 f4,i6 f5,i6 f6,i6 f7,i6 0,i6 0]:List Value)++rB 64 z6++rB 64 (id (n:Int))++([iN y.V.l.length,i6 0]:List Value)).toArray 149]) λq2=>r0 [(1,.l 4)] [(21,i6 1)] [] (rT [] 35 (rr (λ_=>[(3,.m (ld 0 (pt gc 0))),(5,.m (ld 4 (iN n))),(6,.c [1] [1] (Vs gc gl gr gm gq gk gt gg gd ge go c y _ _ h hA hK n hn)),(12,.s 6),(15,.s 6)]) N0 [] (λ_ L=>(L.set 1 ((pk (aR gc gl gr gm gq gk gt gg gd ge go c (cy c y n c.back))))).set 6 (ob ((q2 14).abd 0) (([i6 1,iN n]:List Value)++rB 64 d++([u6 (m:Int),i6 f0,i6 f1,i6 f2,i6 f3,i6 f4,i6 f5,i6 f6,i6 f7,i6 (b6 (bq c y (aA y n))),i6 0]:List Value)++rB 64 (cH c y (aA y n))++rB 64 (id (n:Int))++([iN y.V.l.length,i6 0]:List Value)).toArray 149)) λq5=>rF [(2,.l 6),(3,.t (tk (show Value.bool ((b6 (bq c y (aA y n)))==30)= .bool false from ALca Value.bool (by exact dp.2 (Hf _)))))] 68 ?_))
 exact rF [(1,.l 4)] 73 (rs [(3,.l 0),(4,.c [1] [1] (lX gc gl gr gm gq gk gt gg gd ge go c (cy c y n c.back))),(6,.s 6)] 6 (ob ((q2 14).abd 0) (([i6 1,iN n]:List Value)++rB 64 d++([u6 (m:Int),i6 f0,i6 f1,i6 f2,i6 f3,i6 f4,i6 f5,i6 f6,i6 f7,i6 (b6 (bq c y (aA y n))),i6 0]:List Value)++rB 64 (cH c y (aA y n))++rB 64 (id (n:Int))++([iN y.V.l.length,i6 (((cy c y n c.back).V.l.length:Nat):Int)]:List Value)).toArray 149) (rr (λq9=>[(4,.l 0),(5,.l 6),(6,.m (bs 7 1)),(7,fD wI (vs) sv 3 7 ([(⟨1,(n:Int),d,m,f0,f1,f2,f3,f4,f5,f6,f7,(b6 (bq c y (aA y n))),0,cH c y (aA y n),(id (n:Int)),y.V.l.length,(cy c y n c.back).V.l.length⟩:Sv)])),(10,.m (fZ 0 3 (db ((q9 7).val 0) (sv++([(⟨1,(n:Int),d,m,f0,f1,f2,f3,f4,f5,f6,f7,(b6 (bq c y (aA y n))),0,cH c y (aA y n),(id (n:Int)),y.V.l.length,(cy c y n c.back).V.l.length⟩:Sv)]))) ((q9 7).val 0) λbs h=>ap.one ((λ_ h=>h) bs h)))]) N0 [] (λq9 L=>(L.set 0 (ob g #[pt gd 0,pt gc 0,.map (some gi),vj,(q9 7).val 0,iN sc,iN st] 114)).set 3 (db ((q9 7).val 0) (sv++([(⟨1,(n:Int),d,m,f0,f1,f2,f3,f4,f5,f6,f7,(b6 (bq c y (aA y n))),0,cH c y (aA y n),(id (n:Int)),y.V.l.length,(cy c y n c.back).V.l.length⟩:Sv)])))++[ob (B6 q9) (([i6 1,iN n]:List Value)++rB 64 d++([u6 (m:Int),i6 f0,i6 f1,i6 f2,i6 f3,i6 f4,i6 f5,i6 f6,i6 f7,i6 (b6 (bq c y (aA y n))),i6 0]:List Value)++rB 64 (cH c y (aA y n))++rB 64 (id (n:Int))++([iN y.V.l.length,i6 (((cy c y n c.back).V.l.length:Nat):Int)]:List Value)).toArray 149]) λq9=>rs [(1,.l 6),(2,.s 5)] 5 (ob (B1 q1) (([i6 (b6 (bq c y (aA y n))),i6 0]:List Value)++rB 64 (cH c y (aA y n))).toArray 53) (lf (.l [] [] [(q9 7).val 0]) [0,1,2,3] [] [5])))
theorem Wi(g gc gl gr gm gq gk gt gg gd ge go:Nat)(c:Cf)(y:Ct)(K A:Nat)(h:bC c y K A)(hA:A≤700000)(hK:K+3≤1000000000)(n:Int)(hn:bQ n ((((c.R*c.B*c.M-c.res)*c.C):Nat):Int)=false)(d:List UInt8)(hd:d.length=64)(m:Nat)(f0 f1 f2 f3 f4 f5 f6 f7:Int)(id:Int→List UInt8)(hil: ∀k,(id k).length=64)(sv:List Sv)(hsl:sv.length≤1000)(sc st gi:Nat)(vj vs:Value):aa eF 54 #[pt g 0,.agg (sV 1 n d m f0 f1 f2 f3 f4 f5 f6 f7)] [ob g #[pt gd 0,pt gc 0,.map (some gi),vj,vs,iN sc,iN st] 114,pk (aR gc gl gr gm gq gk gt gg gd ge go c y),cY id gi,db vs sv] [0,1,2,3] (λ_=>[ob g #[pt gd 0,pt gc 0,.map (some gi),vj,vs,iN sc,iN st] 114,pk (aR gc gl gr gm gq gk gt gg gd ge go c y),cY id gi,db vs sv]) (λ_=> .agg (([i6 30,i6 0]:List Value)++rB 64 z6).toArray):=by
 have hcf:=h.cf
 refine fG Tryz.func54 λw cs=>?_
 refine ra (λq1=>[(3,pt (B0 q1) 0),(4,pt (B1 q1) 0)]) (λq1=>[ob (B0 q1) (sV 1 n d m f0 f1 f2 f3 f4 f5 f6 f7) 50,ob (B1 q1) (([i6 0,i6 0]:List Value)++rB 64 z6).toArray 53]) λq1=>rr (λ_=>[(0,.m (ls 4 (sL 1 n d m f0 f1 f2 f3 f4 f5 f6 f7))),(4,.m (ld 0 (.map (some gi)))),(6,.m (ld 4 (i6 n))),(7,.m (mg 2 (cY id gi) gi n (λ_ h=>h))),(11,.m (ld 0 (pt gd 0))),(12,.c [1] [1] (lX gc gl gr gm gq gk gt gg gd ge go c y)),(14,.m (al 6)),(15,.s 6)]) (λq2=>[(5,pt ((q2 14).abd 0) 0)]) [] (λq2 L=>L++[ob ((q2 14).abd 0) (([i6 1,i6 n]:List Value)++rB 64 d++([u6 (m:Int),i6 f0,i6 f1,i6 f2,i6 f3,i6 f4,i6 f5,i6 f6,i6 f7,i6 0,i6 0]:List Value)++rB 64 z6++rB 64 (id n)++([iN y.V.l.length,i6 0]:List Value)).toArray 149]) λq2=>r0 [(1,.l 4)] [(21,i6 1)] [] (rT [] 35 (rs [(3,.m (ld 0 (pt gc 0))),(5,.m (ld 4 (i6 n))),(6,.c [1] [1] (Vu gc gl gr gm gq gk gt gg gd ge go c y _ _ h n hn)),(12,.s 6),(15,.s 6)] 6 (ob ((q2 14).abd 0) (([i6 1,i6 n]:List Value)++rB 64 d++([u6 (m:Int),i6 f0,i6 f1,i6 f2,i6 f3,i6 f4,i6 f5,i6 f6,i6 f7,i6 30,i6 0]:List Value)++rB 64 z6++rB 64 (id n)++([iN y.V.l.length,i6 0]:List Value)).toArray 149) (rT [(2,.l 6)] 68 ?_)))
 exact rs [(1,.l 6),(2,.s 5)] 5 (ob (B1 q1) (([i6 30,i6 0]:List Value)++rB 64 z6).toArray 53) (lf ab.zero [0,1,2,3] [] [5])
theorem Wj(g gc gl gr gm gq gk gt gg gd ge go:Nat)(c:Cf)(y:Ct)(K A:Nat)(h:bC c y K A)(hA:A≤700000)(hK:K+3≤1000000000)(n:Int)(hn:bQ n ((((c.R*c.B*c.M-c.res)*c.C):Nat):Int)=false)(d:List UInt8)(hd:d.length=64)(m:Nat)(f0 f1 f2 f3 f4 f5 f6 f7:Int)(id:Int→List UInt8)(hil: ∀k,(id k).length=64)(sv:List Sv)(hsl:sv.length≤1000)(sc st gi:Nat)(vj vs:Value):aa eF 54 #[pt g 0,.agg (sV 2 n d m f0 f1 f2 f3 f4 f5 f6 f7)] [ob g #[pt gd 0,pt gc 0,.map (some gi),vj,vs,iN sc,iN st] 114,pk (aR gc gl gr gm gq gk gt gg gd ge go c y),cY id gi,db vs sv] [0,1,2,3] (λ_=>[ob g #[pt gd 0,pt gc 0,.map (some gi),vj,vs,iN sc,iN st] 114,pk (aR gc gl gr gm gq gk gt gg gd ge go c y),cY id gi,db vs sv]) (λ_=> .agg (([i6 30,i6 0]:List Value)++rB 64 z6).toArray):=by
 have hcf:=h.cf
 refine fG Tryz.func54 λw cs=>?_
 refine ra (λq1=>[(3,pt (B0 q1) 0),(4,pt (B1 q1) 0)]) (λq1=>[ob (B0 q1) (sV 2 n d m f0 f1 f2 f3 f4 f5 f6 f7) 50,ob (B1 q1) (([i6 0,i6 0]:List Value)++rB 64 z6).toArray 53]) λq1=>rr (λ_=>[(0,.m (ls 4 (sL 2 n d m f0 f1 f2 f3 f4 f5 f6 f7))),(4,.m (ld 0 (.map (some gi)))),(6,.m (ld 4 (i6 n))),(7,.m (mg 2 (cY id gi) gi n (λ_ h=>h))),(11,.m (ld 0 (pt gd 0))),(12,.c [1] [1] (lX gc gl gr gm gq gk gt gg gd ge go c y)),(14,.m (al 6)),(15,.s 6)]) (λq2=>[(5,pt ((q2 14).abd 0) 0)]) [] (λq2 L=>L++[ob ((q2 14).abd 0) (([i6 2,i6 n]:List Value)++rB 64 d++([u6 (m:Int),i6 f0,i6 f1,i6 f2,i6 f3,i6 f4,i6 f5,i6 f6,i6 f7,i6 0,i6 0]:List Value)++rB 64 z6++rB 64 (id n)++([iN y.V.l.length,i6 0]:List Value)).toArray 149]) λq2=>r0 [(1,.l 4)] [(21,i6 2)] [] (rF [] 35 (rT [] 51 (rs [(1,.s 4)] 4 (ob (B0 q1) (sV 2 n d 18446744073709551615 f0 f1 f2 f3 f4 f5 f6 f7) 50) ?_)))
 exact rs [(3,.m (ld 0 (pt gc 0))),(5,.m (ld 4 (i6 n))),(7,.t (tv (Instr.sliceAt 43 (pt (B0 q1) 2) none none none) (λ_=>tF (s:=1) (N:=64) Kr Dc))),(8,.c [1,4] [1] (aa.at (rd':=[pk (aR gc gl gr gm gq gk gt gg gd ge go c y),ob (B0 q1) (sV 2 n d 18446744073709551615 f0 f1 f2 f3 f4 f5 f6 f7) 50]) (Vy gc gl gr gm gq gk gt gg gd ge go c y _ _ h n hn (.slice (some ⟨(q1 0).abd 0,2,none⟩) 64 64) d (by(simp only[LL,hd,hd];done))) (ak (em (tE (d:=0) (A:=([i6 2,i6 n]:List Value)) (C:=([u6 18446744073709551615,i6 f0,i6 f1,i6 f2,i6 f3,i6 f4,i6 f5,i6 f6,i6 f7]:List Value)) (λ_=>rfl) rfl hd) (λ_ h=>h))))),(11,.s 6)] 6 (ob ((q2 14).abd 0) (([i6 2,i6 n]:List Value)++rB 64 d++([u6 (m:Int),i6 f0,i6 f1,i6 f2,i6 f3,i6 f4,i6 f5,i6 f6,i6 f7,i6 30,i6 0]:List Value)++rB 64 z6++rB 64 (id n)++([iN y.V.l.length,i6 0]:List Value)).toArray 149) (rT [(2,.l 6)] 68 (rs [(1,.l 6),(2,.s 5)] 5 (ob (B1 q1) (([i6 30,i6 0]:List Value)++rB 64 z6).toArray 53) (lf ab.zero [0,1,2,3] [] [5])))
theorem Wk(g gc gl gr gm gq gk gt gg gd ge go:Nat)(c:Cf)(y:Ct)(K A:Nat)(h:bC c y K A)(hA:A≤700000)(hK:K+3≤1000000000)(n:Int)(hn:bQ n ((((c.R*c.B*c.M-c.res)*c.C):Nat):Int)=false)(d:List UInt8)(hd:d.length=64)(m:Nat)(f0 f1 f2 f3 f4 f5 f6 f7:Int)(id:Int→List UInt8)(hil: ∀k,(id k).length=64)(sv:List Sv)(hsl:sv.length≤1000)(sc st gi:Nat)(vj vs:Value):aa eF 54 #[pt g 0,.agg (sV 3 n d m f0 f1 f2 f3 f4 f5 f6 f7)] [ob g #[pt gd 0,pt gc 0,.map (some gi),vj,vs,iN sc,iN st] 114,pk (aR gc gl gr gm gq gk gt gg gd ge go c y),cY id gi,db vs sv] [0,1,2,3] (λ_=>[ob g #[pt gd 0,pt gc 0,.map (some gi),vj,vs,iN sc,iN st] 114,pk (aR gc gl gr gm gq gk gt gg gd ge go c y),cY id gi,db vs sv]) (λ_=> .agg (([i6 30,i6 0]:List Value)++rB 64 z6).toArray):=by
 have hcf:=h.cf
 refine fG Tryz.func54 λw cs=>?_
 refine ra (λq1=>[(3,pt (B0 q1) 0),(4,pt (B1 q1) 0)]) (λq1=>[ob (B0 q1) (sV 3 n d m f0 f1 f2 f3 f4 f5 f6 f7) 50,ob (B1 q1) (([i6 0,i6 0]:List Value)++rB 64 z6).toArray 53]) λq1=>rr (λ_=>[(0,.m (ls 4 (sL 3 n d m f0 f1 f2 f3 f4 f5 f6 f7))),(4,.m (ld 0 (.map (some gi)))),(6,.m (ld 4 (i6 n))),(7,.m (mg 2 (cY id gi) gi n (λ_ h=>h))),(11,.m (ld 0 (pt gd 0))),(12,.c [1] [1] (lX gc gl gr gm gq gk gt gg gd ge go c y)),(14,.m (al 6)),(15,.s 6)]) (λq2=>[(5,pt ((q2 14).abd 0) 0)]) [] (λq2 L=>L++[ob ((q2 14).abd 0) (([i6 3,i6 n]:List Value)++rB 64 d++([u6 (m:Int),i6 f0,i6 f1,i6 f2,i6 f3,i6 f4,i6 f5,i6 f6,i6 f7,i6 0,i6 0]:List Value)++rB 64 z6++rB 64 (id n)++([iN y.V.l.length,i6 0]:List Value)).toArray 149]) λq2=>r0 [(1,.l 4)] [(21,i6 3)] [] (rF [] 35 (rF [] 51 (rs [(3,.m (ld 0 (pt gc 0))),(5,.m (ld 4 (i6 n))),(7,.t (tv (Instr.sliceAt 43 (pt (B0 q1) 2) none none none) (λ_=>tF (s:=1) (N:=64) Kr Dc))),(9,.m (ld 4 (u6 (m:Int)))),(10,.c [1,4] [1] (aa.at (rd':=[pk (aR gc gl gr gm gq gk gt gg gd ge go c y),ob (B0 q1) (sV 3 n d m f0 f1 f2 f3 f4 f5 f6 f7) 50]) (Vx gc gl gr gm gq gk gt gg gd ge go c y _ _ h n hn (.slice (some ⟨(q1 0).abd 0,2,none⟩) 64 64) d (by(simp only[LL,hd,hd];done)) m) (ak (em (tE (d:=0) (A:=([i6 3,i6 n]:List Value)) (C:=([u6 (m:Int),i6 f0,i6 f1,i6 f2,i6 f3,i6 f4,i6 f5,i6 f6,i6 f7]:List Value)) (λ_=>rfl) rfl hd) (λ_ h=>h))))),(13,.s 6)] 6 (ob ((q2 14).abd 0) (([i6 3,i6 n]:List Value)++rB 64 d++([u6 (m:Int),i6 f0,i6 f1,i6 f2,i6 f3,i6 f4,i6 f5,i6 f6,i6 f7,i6 30,i6 0]:List Value)++rB 64 z6++rB 64 (id n)++([iN y.V.l.length,i6 0]:List Value)).toArray 149) ?_)))
 exact rT [(2,.l 6)] 68 (rs [(1,.l 6),(2,.s 5)] 5 (ob (B1 q1) (([i6 30,i6 0]:List Value)++rB 64 z6).toArray 53) (lf ab.zero [0,1,2,3] [] [5]))
theorem Wl(g gc gl gr gm gq gk gt gg gd ge go:Nat)(c:Cf)(y:Ct)(K A:Nat)(h:bC c y K A)(hA:A≤700000)(hK:K+3≤1000000000)(n:Nat)(hn:n<((c.R*c.B*c.M-c.res)*c.C))(d:List UInt8)(hd:d.length=64)(m:Nat)(f0 f1 f2 f3 f4 f5 f6 f7:Int)(id:Int→List UInt8)(hil: ∀k,(id k).length=64)(sv:List Sv)(hsl:sv.length≤1000)(sc st gi:Nat)(vj vs:Value):aa eF 54 #[pt g 0,.agg (sV 2 (n:Int) d m f0 f1 f2 f3 f4 f5 f6 f7)] [ob g #[pt gd 0,pt gc 0,.map (some gi),vj,vs,iN sc,iN st] 114,pk (aR gc gl gr gm gq gk gt gg gd ge go c y),cY id gi,db vs sv] [0,1,2,3] (λE=>[ob g #[pt gd 0,pt gc 0,.map (some gi),vj,(E.val 0),iN sc,iN st] 114,pk (aR gc gl gr gm gq gk gt gg gd ge go c (bF c y n d 18446744073709551615)),cY (cI id (n:Int) (gH (id (n:Int)) d 18446744073709551615)) gi,db (E.val 0) (sv++([(⟨2,(n:Int),d,m,f0,f1,f2,f3,f4,f5,f6,f7,(cv c y n 18446744073709551615),0,dZ 64 0,(id (n:Int)),y.V.l.length,(bF c y n d 18446744073709551615).V.l.length⟩:Sv)]))]) (λ_=> .agg (([i6 (cv c y n 18446744073709551615),i6 0]:List Value)++rB 64 z6).toArray):=by
 have hcf:=h.cf
 have hg5:=hil (n:Int)
 refine fG Tryz.func54 λw cs=>?_
 refine ra (λq1=>[(3,pt (B0 q1) 0),(4,pt (B1 q1) 0)]) (λq1=>[ob (B0 q1) (sV 2 (n:Int) d m f0 f1 f2 f3 f4 f5 f6 f7) 50,ob (B1 q1) (([i6 0,i6 0]:List Value)++rB 64 z6).toArray 53]) λq1=>rr (λ_=>[(0,.m (ls 4 (sL 2 (n:Int) d m f0 f1 f2 f3 f4 f5 f6 f7))),(4,.m (ld 0 (.map (some gi)))),(6,.m (ld 4 (iN n))),(7,.m (mg 2 (cY id gi) gi (n:Int) (λ_ h=>h))),(11,.m (ld 0 (pt gd 0))),(12,.c [1] [1] (lX gc gl gr gm gq gk gt gg gd ge go c y)),(14,.m (al 6)),(15,.s 6)]) (λq2=>[(5,pt ((q2 14).abd 0) 0)]) [] (λq2 L=>L++[ob ((q2 14).abd 0) (([i6 2,iN n]:List Value)++rB 64 d++([u6 (m:Int),i6 f0,i6 f1,i6 f2,i6 f3,i6 f4,i6 f5,i6 f6,i6 f7,i6 0,i6 0]:List Value)++rB 64 z6++rB 64 (id (n:Int))++([iN y.V.l.length,i6 0]:List Value)).toArray 149]) λq2=>r0 [(1,.l 4)] [(21,i6 2)] [] (rF [] 35 (rT [] 51 (rs [(1,.s 4)] 4 (ob (B0 q1) (sV 2 (n:Int) d 18446744073709551615 f0 f1 f2 f3 f4 f5 f6 f7) 50) ?_)))
 refine rr (λ_=>[(3,.m (ld 0 (pt gc 0))),(5,.m (ld 4 (iN n))),(7,.t (tv (Instr.sliceAt 43 (pt (B0 q1) 2) none none none) (λ_=>tF (s:=1) (N:=64) Kr Dc))),(8,.c [1,4] [1] (aa.at (rd':=[pk (aR gc gl gr gm gq gk gt gg gd ge go c y),ob (B0 q1) (sV 2 (n:Int) d 18446744073709551615 f0 f1 f2 f3 f4 f5 f6 f7) 50]) (Vw gc gl gr gm gq gk gt gg gd ge go c y _ _ h hA hK n hn (.slice (some ⟨(q1 0).abd 0,2,none⟩) 64 64) d (by(simp only[LL,hd,hg5,hd];done))) (ak (em (tE (d:=0) (A:=([i6 2,iN n]:List Value)) (C:=([u6 18446744073709551615,i6 f0,i6 f1,i6 f2,i6 f3,i6 f4,i6 f5,i6 f6,i6 f7]:List Value)) (λ_=>rfl) rfl hd) (λ_ h=>h))))),(11,.s 6)]) N0 [] (λ_ L=>(L.set 1 ((pk (aR gc gl gr gm gq gk gt gg gd ge go c (bF c y n d 18446744073709551615))))).set 6 (ob ((q2 14).abd 0) (([i6 2,iN n]:List Value)++rB 64 d++([u6 (m:Int),i6 f0,i6 f1,i6 f2,i6 f3,i6 f4,i6 f5,i6 f6,i6 f7,i6 (cv c y n 18446744073709551615),i6 0]:List Value)++rB 64 z6++rB 64 (id (n:Int))++([iN y.V.l.length,i6 0]:List Value)).toArray 149)) λq7=>rF [(2,.l 6),(3,.t (tk (show Value.bool ((cv c y n 18446744073709551615)==30)= .bool false from ALca Value.bool (by exact dp.2 (Hg _ _ _ _ Dc)))))] 68 (rT [(1,.l 4)] 73 (rs [(3,.m (ld 0 (.map (some gi)))),(5,.m (ld 4 (iN n))),(7,.m (ls 6 (rB 64 (id (n:Int))))),(9,.m (ls 4 (rB 64 d))),(11,.m (ld 4 (u6 18446744073709551615))),(12,.c [] [] (AD (id (n:Int)) d 18446744073709551615 (by(simp only[LL,hd,hg5,hd];done)) (by(simp only[LL,hd,hg5,hd];done)) Om)),(13,.m (mu 2 gi (n:Int) wJ pX id (gH (id (n:Int)) d 18446744073709551615)))] 2 (cY (cI id (n:Int) (gH (id (n:Int)) d 18446744073709551615)) gi) (rs [(3,.l 0),(4,.c [1] [1] (lX gc gl gr gm gq gk gt gg gd ge go c (bF c y n d 18446744073709551615))),(6,.s 6)] 6 (ob ((q2 14).abd 0) (([i6 2,iN n]:List Value)++rB 64 d++([u6 (m:Int),i6 f0,i6 f1,i6 f2,i6 f3,i6 f4,i6 f5,i6 f6,i6 f7,i6 (cv c y n 18446744073709551615),i6 0]:List Value)++rB 64 z6++rB 64 (id (n:Int))++([iN y.V.l.length,i6 (((bF c y n d 18446744073709551615).V.l.length:Nat):Int)]:List Value)).toArray 149) (rr (λq12=>[(4,.l 0),(5,.l 6),(6,.m (bs 7 1)),(7,fD wI (vs) sv 3 7 ([(⟨2,(n:Int),d,m,f0,f1,f2,f3,f4,f5,f6,f7,(cv c y n 18446744073709551615),0,dZ 64 0,(id (n:Int)),y.V.l.length,(bF c y n d 18446744073709551615).V.l.length⟩:Sv)])),(10,.m (fZ 0 3 (db ((q12 7).val 0) (sv++([(⟨2,(n:Int),d,m,f0,f1,f2,f3,f4,f5,f6,f7,(cv c y n 18446744073709551615),0,dZ 64 0,(id (n:Int)),y.V.l.length,(bF c y n d 18446744073709551615).V.l.length⟩:Sv)]))) ((q12 7).val 0) λbs h=>ap.one ((λ_ h=>h) bs h)))]) N0 [] (λq12 L=>(L.set 0 (ob g #[pt gd 0,pt gc 0,.map (some gi),vj,(q12 7).val 0,iN sc,iN st] 114)).set 3 (db ((q12 7).val 0) (sv++([(⟨2,(n:Int),d,m,f0,f1,f2,f3,f4,f5,f6,f7,(cv c y n 18446744073709551615),0,dZ 64 0,(id (n:Int)),y.V.l.length,(bF c y n d 18446744073709551615).V.l.length⟩:Sv)])))++[ob (B6 q12) (([i6 2,iN n]:List Value)++rB 64 d++([u6 (m:Int),i6 f0,i6 f1,i6 f2,i6 f3,i6 f4,i6 f5,i6 f6,i6 f7,i6 (cv c y n 18446744073709551615),i6 0]:List Value)++rB 64 z6++rB 64 (id (n:Int))++([iN y.V.l.length,i6 (((bF c y n d 18446744073709551615).V.l.length:Nat):Int)]:List Value)).toArray 149]) λq12=>?_))))
 exact rs [(1,.l 6),(2,.s 5)] 5 (ob (B1 q1) (([i6 (cv c y n 18446744073709551615),i6 0]:List Value)++rB 64 z6).toArray 53) (lf (.l [] [] [(q12 7).val 0]) [0,1,2,3] [] [5])
theorem Wm(g gc gl gr gm gq gk gt gg gd ge go:Nat)(c:Cf)(y:Ct)(K A:Nat)(h:bC c y K A)(hA:A≤700000)(hK:K+3≤1000000000)(n:Nat)(hn:n<((c.R*c.B*c.M-c.res)*c.C))(d:List UInt8)(hd:d.length=64)(m:Nat)(f0 f1 f2 f3 f4 f5 f6 f7:Int)(hm5:m<18446744073709551616)(hm0:m≠0)(id:Int→List UInt8)(hil: ∀k,(id k).length=64)(sv:List Sv)(hsl:sv.length≤1000)(sc st gi:Nat)(vj vs:Value):aa eF 54 #[pt g 0,.agg (sV 3 (n:Int) d m f0 f1 f2 f3 f4 f5 f6 f7)] [ob g #[pt gd 0,pt gc 0,.map (some gi),vj,vs,iN sc,iN st] 114,pk (aR gc gl gr gm gq gk gt gg gd ge go c y),cY id gi,db vs sv] [0,1,2,3] (λE=>[ob g #[pt gd 0,pt gc 0,.map (some gi),vj,(E.val 0),iN sc,iN st] 114,pk (aR gc gl gr gm gq gk gt gg gd ge go c (bF c y n d m)),cY (cI id (n:Int) (gH (id (n:Int)) d m)) gi,db (E.val 0) (sv++([(⟨3,(n:Int),d,m,f0,f1,f2,f3,f4,f5,f6,f7,(cv c y n m),0,dZ 64 0,(id (n:Int)),y.V.l.length,(bF c y n d m).V.l.length⟩:Sv)]))]) (λ_=> .agg (([i6 (cv c y n m),i6 0]:List Value)++rB 64 z6).toArray):=by
 have hcf:=h.cf
 have hg5:=hil (n:Int)
 refine fG Tryz.func54 λw cs=>?_
 refine ra (λq1=>[(3,pt (B0 q1) 0),(4,pt (B1 q1) 0)]) (λq1=>[ob (B0 q1) (sV 3 (n:Int) d m f0 f1 f2 f3 f4 f5 f6 f7) 50,ob (B1 q1) (([i6 0,i6 0]:List Value)++rB 64 z6).toArray 53]) λq1=>rr (λ_=>[(0,.m (ls 4 (sL 3 (n:Int) d m f0 f1 f2 f3 f4 f5 f6 f7))),(4,.m (ld 0 (.map (some gi)))),(6,.m (ld 4 (iN n))),(7,.m (mg 2 (cY id gi) gi (n:Int) (λ_ h=>h))),(11,.m (ld 0 (pt gd 0))),(12,.c [1] [1] (lX gc gl gr gm gq gk gt gg gd ge go c y)),(14,.m (al 6)),(15,.s 6)]) (λq2=>[(5,pt ((q2 14).abd 0) 0)]) [] (λq2 L=>L++[ob ((q2 14).abd 0) (([i6 3,iN n]:List Value)++rB 64 d++([u6 (m:Int),i6 f0,i6 f1,i6 f2,i6 f3,i6 f4,i6 f5,i6 f6,i6 f7,i6 0,i6 0]:List Value)++rB 64 z6++rB 64 (id (n:Int))++([iN y.V.l.length,i6 0]:List Value)).toArray 149]) λq2=>r0 [(1,.l 4)] [(21,i6 3)] [] (rF [] 35 (rF [] 51 (rr (λ_=>[(3,.m (ld 0 (pt gc 0))),(5,.m (ld 4 (iN n))),(7,.t (tv (Instr.sliceAt 43 (pt (B0 q1) 2) none none none) (λ_=>tF (s:=1) (N:=64) Kr Dc))),(9,.m (ld 4 (u6 (m:Int)))),(10,.c [1,4] [1] (aa.at (rd':=[pk (aR gc gl gr gm gq gk gt gg gd ge go c y),ob (B0 q1) (sV 3 (n:Int) d m f0 f1 f2 f3 f4 f5 f6 f7) 50]) (G2 gc gl gr gm gq gk gt gg gd ge go c y _ _ h hA hK n hn (.slice (some ⟨(q1 0).abd 0,2,none⟩) 64 64) d (by(simp only[LL,hd,hg5,hd];done)) m hm5) (ak (em (tE (d:=0) (A:=([i6 3,iN n]:List Value)) (C:=([u6 (m:Int),i6 f0,i6 f1,i6 f2,i6 f3,i6 f4,i6 f5,i6 f6,i6 f7]:List Value)) (λ_=>rfl) rfl hd) (λ_ h=>h))))),(13,.s 6)]) N0 [] (λ_ L=>(L.set 1 ((pk (aR gc gl gr gm gq gk gt gg gd ge go c (bF c y n d m))))).set 6 (ob ((q2 14).abd 0) (([i6 3,iN n]:List Value)++rB 64 d++([u6 (m:Int),i6 f0,i6 f1,i6 f2,i6 f3,i6 f4,i6 f5,i6 f6,i6 f7,i6 (cv c y n m),i6 0]:List Value)++rB 64 z6++rB 64 (id (n:Int))++([iN y.V.l.length,i6 0]:List Value)).toArray 149)) λq6=>?_)))
 refine rF [(2,.l 6),(3,.t (tk (show Value.bool ((cv c y n m)==30)= .bool false from ALca Value.bool (by exact dp.2 (Hg _ _ _ _ hm0)))))] 68 (rT [(1,.l 4)] 73 (rs [(3,.m (ld 0 (.map (some gi)))),(5,.m (ld 4 (iN n))),(7,.m (ls 6 (rB 64 (id (n:Int))))),(9,.m (ls 4 (rB 64 d))),(11,.m (ld 4 (u6 (m:Int)))),(12,.c [] [] (AD (id (n:Int)) d m (by(simp only[LL,hd,hg5,hd];done)) (by(simp only[LL,hd,hg5,hd];done)) hm5)),(13,.m (mu 2 gi (n:Int) wJ pX id (gH (id (n:Int)) d m)))] 2 (cY (cI id (n:Int) (gH (id (n:Int)) d m)) gi) (rs [(3,.l 0),(4,.c [1] [1] (lX gc gl gr gm gq gk gt gg gd ge go c (bF c y n d m))),(6,.s 6)] 6 (ob ((q2 14).abd 0) (([i6 3,iN n]:List Value)++rB 64 d++([u6 (m:Int),i6 f0,i6 f1,i6 f2,i6 f3,i6 f4,i6 f5,i6 f6,i6 f7,i6 (cv c y n m),i6 0]:List Value)++rB 64 z6++rB 64 (id (n:Int))++([iN y.V.l.length,i6 (((bF c y n d m).V.l.length:Nat):Int)]:List Value)).toArray 149) (rr (λq11=>[(4,.l 0),(5,.l 6),(6,.m (bs 7 1)),(7,fD wI (vs) sv 3 7 ([(⟨3,(n:Int),d,m,f0,f1,f2,f3,f4,f5,f6,f7,(cv c y n m),0,dZ 64 0,(id (n:Int)),y.V.l.length,(bF c y n d m).V.l.length⟩:Sv)])),(10,.m (fZ 0 3 (db ((q11 7).val 0) (sv++([(⟨3,(n:Int),d,m,f0,f1,f2,f3,f4,f5,f6,f7,(cv c y n m),0,dZ 64 0,(id (n:Int)),y.V.l.length,(bF c y n d m).V.l.length⟩:Sv)]))) ((q11 7).val 0) λbs h=>ap.one ((λ_ h=>h) bs h)))]) N0 [] (λq11 L=>(L.set 0 (ob g #[pt gd 0,pt gc 0,.map (some gi),vj,(q11 7).val 0,iN sc,iN st] 114)).set 3 (db ((q11 7).val 0) (sv++([(⟨3,(n:Int),d,m,f0,f1,f2,f3,f4,f5,f6,f7,(cv c y n m),0,dZ 64 0,(id (n:Int)),y.V.l.length,(bF c y n d m).V.l.length⟩:Sv)])))++[ob (B6 q11) (([i6 3,iN n]:List Value)++rB 64 d++([u6 (m:Int),i6 f0,i6 f1,i6 f2,i6 f3,i6 f4,i6 f5,i6 f6,i6 f7,i6 (cv c y n m),i6 0]:List Value)++rB 64 z6++rB 64 (id (n:Int))++([iN y.V.l.length,i6 (((bF c y n d m).V.l.length:Nat):Int)]:List Value)).toArray 149]) λq11=>rs [(1,.l 6),(2,.s 5)] 5 (ob (B1 q1) (([i6 (cv c y n m),i6 0]:List Value)++rB 64 z6).toArray 53) ?_))))
 exact lf (.l [] [] [(q11 7).val 0]) [0,1,2,3] [] [5]
def Hj(c:Cf)(x:Mc)(n:Nat)(d:List UInt8):Mc:={x with x:=bF c x.x n d 0}
theorem Wn(g gc gl gr gm gq gk gt gg gd ge go:Nat)(c:Cf)(y:Ct)(K A:Nat)(h:bC c y K A)(hA:A≤700000)(hK:K+3≤1000000000)(n:Nat)(hn:n<((c.R*c.B*c.M-c.res)*c.C))(d:List UInt8)(hd:d.length=64)(f0 f1 f2 f3 f4 f5 f6 f7:Int)(id:Int→List UInt8)(hil: ∀k,(id k).length=64)(sv:List Sv)(hsl:sv.length≤1000)(sc st gi:Nat)(vj vs:Value):aa eF 54 #[pt g 0,.agg (sV 3 (n:Int) d 0 f0 f1 f2 f3 f4 f5 f6 f7)] [ob g #[pt gd 0,pt gc 0,.map (some gi),vj,vs,iN sc,iN st] 114,pk (aR gc gl gr gm gq gk gt gg gd ge go c y),cY id gi,db vs sv] [0,1,2,3] (λ_=>[ob g #[pt gd 0,pt gc 0,.map (some gi),vj,vs,iN sc,iN st] 114,pk (aR gc gl gr gm gq gk gt gg gd ge go c (bF c y n d 0)),cY id gi,db vs sv]) (λ_=> .agg (([i6 (cv c y n 0),i6 0]:List Value)++rB 64 z6).toArray):=by
 have hcf:=h.cf
 refine fG Tryz.func54 λw cs=>?_
 refine ra (λq1=>[(3,pt (B0 q1) 0),(4,pt (B1 q1) 0)]) (λq1=>[ob (B0 q1) (sV 3 (n:Int) d 0 f0 f1 f2 f3 f4 f5 f6 f7) 50,ob (B1 q1) (([i6 0,i6 0]:List Value)++rB 64 z6).toArray 53]) λq1=>rr (λ_=>[(0,.m (ls 4 (sL 3 (n:Int) d 0 f0 f1 f2 f3 f4 f5 f6 f7))),(4,.m (ld 0 (.map (some gi)))),(6,.m (ld 4 (iN n))),(7,.m (mg 2 (cY id gi) gi (n:Int) (λ_ h=>h))),(11,.m (ld 0 (pt gd 0))),(12,.c [1] [1] (lX gc gl gr gm gq gk gt gg gd ge go c y)),(14,.m (al 6)),(15,.s 6)]) (λq2=>[(5,pt ((q2 14).abd 0) 0)]) [] (λq2 L=>L++[ob ((q2 14).abd 0) (([i6 3,iN n]:List Value)++rB 64 d++([u6 0,i6 f0,i6 f1,i6 f2,i6 f3,i6 f4,i6 f5,i6 f6,i6 f7,i6 0,i6 0]:List Value)++rB 64 z6++rB 64 (id (n:Int))++([iN y.V.l.length,i6 0]:List Value)).toArray 149]) λq2=>r0 [(1,.l 4)] [(21,i6 3)] [] (rF [] 35 (rF [] 51 (rr (λ_=>[(3,.m (ld 0 (pt gc 0))),(5,.m (ld 4 (iN n))),(7,.t (tv (Instr.sliceAt 43 (pt (B0 q1) 2) none none none) (λ_=>tF (s:=1) (N:=64) Kr Dc))),(9,.m (ld 4 (u6 0))),(10,.c [1,4] [1] (aa.at (rd':=[pk (aR gc gl gr gm gq gk gt gg gd ge go c y),ob (B0 q1) (sV 3 (n:Int) d 0 f0 f1 f2 f3 f4 f5 f6 f7) 50]) (G2 gc gl gr gm gq gk gt gg gd ge go c y _ _ h hA hK n hn (.slice (some ⟨(q1 0).abd 0,2,none⟩) 64 64) d (by(simp only[LL,hd,hd];done)) 0 Om) (ak (em (tE (d:=0) (A:=([i6 3,iN n]:List Value)) (C:=([u6 0,i6 f0,i6 f1,i6 f2,i6 f3,i6 f4,i6 f5,i6 f6,i6 f7]:List Value)) (λ_=>rfl) rfl hd) (λ_ h=>h))))),(13,.s 6)]) N0 [] (λ_ L=>(L.set 1 ((pk (aR gc gl gr gm gq gk gt gg gd ge go c (bF c y n d 0))))).set 6 (ob ((q2 14).abd 0) (([i6 3,iN n]:List Value)++rB 64 d++([u6 0,i6 f0,i6 f1,i6 f2,i6 f3,i6 f4,i6 f5,i6 f6,i6 f7,i6 (cv c y n 0),i6 0]:List Value)++rB 64 z6++rB 64 (id (n:Int))++([iN y.V.l.length,i6 0]:List Value)).toArray 149)) λq6=>?_)))
 exact rT [(2,.l 6),(3,.t (tk (show Value.bool ((cv c y n 0)==30)= .bool true from ALca Value.bool (by exact beq_iff_eq.2 rfl))))] 68 (rs [(1,.l 6),(2,.s 5)] 5 (ob (B1 q1) (([i6 (cv c y n 0),i6 0]:List Value)++rB 64 z6).toArray 53) (lf ab.zero [0,1,2,3] [] [5]))
def n1(c:Cf)(y:Ct)(f:Fa)(inj:List Ij)(sc:Nat):List Ij:=bif iw c y.V.D f==0 then inj++[⟨f.x0,f.x1,f.x2,f.x3,f.x4,f.x5,f.x6,f.x7,sc,y.V.l.length⟩] else inj
theorem Wo(g gc gl gr gm gq gk gt gg gd ge go:Nat)(c:Cf)(y:Ct)(K A:Nat)(h:bC c y K A)(hA:A≤700000)(x0 x1 x2 x3 x4 x5 x6 x7:Int)(inj:List Ij)(hjl:inj.length≤1000)(sc st gi:Nat)(vj vs:Value):aa eF 53 #[pt g 0,.agg #[i6 x0,i6 x1,i6 x2,i6 x3,i6 x4,i6 x5,i6 x6,i6 x7]] [ob g #[pt gd 0,pt gc 0,.map (some gi),vj,vs,iN sc,iN st] 114,pk (aR gc gl gr gm gq gk gt gg gd ge go c y),gz vj inj] [0,1,2] (λE=>[ob g #[pt gd 0,pt gc 0,.map (some gi),(E.val 0),vs,iN sc,iN st] 114,pk (aR gc gl gr gm gq gk gt gg gd ge go c ({y with V:=nZ c y.V ⟨x0,x1,x2,x3,x4,x5,x6,x7⟩}:Ct)),gz (E.val 0) (n1 c y (⟨x0,x1,x2,x3,x4,x5,x6,x7⟩:Fa) inj sc)]) (λ_=> .agg (([i6 (iw c y.V.D ⟨x0,x1,x2,x3,x4,x5,x6,x7⟩),i6 0]:List Value)++rB 64 z6).toArray):=by
 have hcf:=h.cf
 have hV:=h.dv Om
 refine fG Tryz.func53 λw cs=>?_
 refine ra (λq1=>[(3,pt (B0 q1) 0),(4,pt (B1 q1) 0)]) (λq1=>[ob (B0 q1) #[i6 x0,i6 x1,i6 x2,i6 x3,i6 x4,i6 x5,i6 x6,i6 x7] 48,ob (B1 q1) (([i6 0,i6 0]:List Value)++rB 64 z6).toArray 53]) λq1=>rr (λ_=>[(0,.m (ls 3 ([i6 x0,i6 x1,i6 x2,i6 x3,i6 x4,i6 x5,i6 x6,i6 x7]))),(1,.v (pt g 0)),(2,.v (pt g 0)),(3,.v (pt g 5)),(4,.m (ld 0 (iN sc))),(5,.v (pt g 0)),(6,.v (pt g 0)),(7,.v (pt g 0)),(8,.m (ld 0 (pt gd 0))),(9,.c [1] [1] (lX gc gl gr gm gq gk gt gg gd ge go c y)),(10,.v (.agg #[i6 x0,i6 x1,i6 x2,i6 x3,i6 x4,i6 x5,i6 x6,i6 x7,iN sc,iN y.V.l.length])),(11,.m (al 5)),(12,.s 5)]) (λq2=>[(5,pt ((q2 11).abd 0) 0)]) [] (λq2 L=>L++[ob ((q2 11).abd 0) #[i6 x0,i6 x1,i6 x2,i6 x3,i6 x4,i6 x5,i6 x6,i6 x7,iN sc,iN y.V.l.length] 187]) λq2=>rr (λ_=>[(3,.l 0),(4,.l 3),(5,.c [1] [1] (Wg gc gl gr gm gq gk gt gg gd ge go c y hcf hV ⟨x0,x1,x2,x3,x4,x5,x6,x7⟩))]) (λ_=>[(6,i6 (iw c y.V.D ⟨x0,x1,x2,x3,x4,x5,x6,x7⟩))]) [] (λ_ L=>L.set 1 ((pk (aR gc gl gr gm gq gk gt gg gd ge go c ({y with V:=nZ c y.V ⟨x0,x1,x2,x3,x4,x5,x6,x7⟩}:Ct))))) λq3=>r0 [] [(25,.bool ((iw c y.V.D ⟨x0,x1,x2,x3,x4,x5,x6,x7⟩)==0))] [] ?_
 refine cZ (iw c y.V.D ⟨x0,x1,x2,x3,x4,x5,x6,x7⟩) 0 (λh5 dh5=>?_) λh5 dh5=>?_
 ·refine rr (λq6=>[(4,.l 0),(5,.l 5),(6,.m (bs 6 1)),(7,fD Wf (vj) inj 2 6 ([(⟨x0,x1,x2,x3,x4,x5,x6,x7,sc,y.V.l.length⟩:Ij)])),(10,.m (fZ 0 2 (gz ((q6 7).val 0) (inj++([(⟨x0,x1,x2,x3,x4,x5,x6,x7,sc,y.V.l.length⟩:Ij)]))) ((q6 7).val 0) λbs h=>ap.one ((λ_ h=>h) bs h)))]) N0 [] (λq6 L=>(L.set 0 (ob g #[pt gd 0,pt gc 0,.map (some gi),(q6 7).val 0,vs,iN sc,iN st] 114)).set 2 (gz ((q6 7).val 0) (inj++([(⟨x0,x1,x2,x3,x4,x5,x6,x7,sc,y.V.l.length⟩:Ij)])))++[ob (B6 q6) #[i6 x0,i6 x1,i6 x2,i6 x3,i6 x4,i6 x5,i6 x6,i6 x7,iN sc,iN y.V.l.length] 187]) λq6=>?_
  exact rs [(2,.s 4)] 4 (ob (B1 q1) (([i6 (iw c y.V.D ⟨x0,x1,x2,x3,x4,x5,x6,x7⟩),i6 0]:List Value)++rB 64 z6).toArray 53) (lf (.l [] [] [(q6 7).val 0]) [0,1,2] [] [4] (hf:=by unfold n1;dsimp only;(repeat (first | rw[h5] | rw[ALct]));kernel_rfl))
 exact rs [(2,.s 4)] 4 (ob (B1 q1) (([i6 (iw c y.V.D ⟨x0,x1,x2,x3,x4,x5,x6,x7⟩),i6 0]:List Value)++rB 64 z6).toArray 53) (lf (.l [] [] [vj]) [0,1,2] [] [4] (hf:=by unfold n1;dsimp only;(repeat (first | rw[h5] | rw[ALcf]));kernel_rfl))
structure An where
 e:Int
 n:Int
 l:List UInt8
def Wp:An:=⟨0,0,dZ 64 0⟩
def wK(x:An):List Value:=[i6 x.e,i6 x.n]++rB 64 x.l
def Hk:Kd eF An:=⟨wK,[i6 0,i6 0]++dZ 64 (u1 0),72,53,Wp,66,λ_=>rfl,rfl,λ_=>rfl,d9.mk' Kr Kr rfl⟩
abbrev wL(v:Value)(xs:List An):az:= .p (ap wK ([i6 0,i6 0]++dZ 64 (u1 0)) 53 v xs)
theorem Wq(g gc gl gr gm gq gk gt gg gd ge go:Nat)(c:Cf)(x:Mc)(K A N:Nat)(hM:d8 c x K A N)(hA:A≤700000)(hN:N≤1000)(k ln:Int)(d:List UInt8)(hd:d.length=64)(m:Nat)(f0 f1 f2 f3 f4 f5 f6 f7:Int)(hR:eD k ln d m f0 f1 f2 f3 f4 f5 f6 f7=false):aa eF 16 #[pt g 0,.agg (sV k ln d m f0 f1 f2 f3 f4 f5 f6 f7)] [pk (br g gc gl gr gm gq gk gt gg gd ge go c x)] [0] (λ_=>[pk (br g gc gl gr gm gq gk gt gg gd ge go c x)]) (λ_=> .agg (([i6 60,i6 0]:List Value)++rB 64 z6).toArray):=aa.pkZ Tryz.func16 λL hL=>by
 obtain⟨gi,vj,vs,rfl⟩:=hL
 refine⟨[1,2,3,4],λ_=>[pk (aR gc gl gr gm gq gk gt gg gd ge go c x.x),cY x.id gi,gz vj x.inj,db vs x.sv],?_,rfl,λE=>⟨rfl,rfl,⟨_,_,_,rfl⟩⟩⟩
 have h:=hM.ct
 have hcf:=h.cf
 have hil:=hM.il
 have hsl:x.sv.length≤1000:=ir hM.sl hN
 have hjl:x.inj.length≤1000:=ir hM.jl hN
 have hsc:=hM.sc
 have hst:=hM.st
 refine fG Tryz.func16 λw cs=>?_
 exact ra (λq1=>[(3,pt (B0 q1) 0),(4,pt (B1 q1) 0)]) (λq1=>[ob (B0 q1) (sV k ln d m f0 f1 f2 f3 f4 f5 f6 f7) 50,ob (B1 q1) (([i6 0,i6 0]:List Value)++rB 64 z6).toArray 53]) λq1=>rT [(0,.l 5),(1,.c [] [] (aa.v ((kF k ln d m f0 f1 f2 f3 f4 f5 f6 f7 (by(simp only[LL,hd,hd];done)))) λ_=>ALca Value.bool (show(eD k ln d m f0 f1 f2 f3 f4 f5 f6 f7)=false from(by exact hR))))] 9 (rs [(1,.s 6)] 6 (ob (B1 q1) (([i6 60,i6 0]:List Value)++rB 64 z6).toArray 53) (lf ab.zero [1,2,3,4] [(0,0)] [6]))
theorem Ws(g gc gl gr gm gq gk gt gg gd ge go:Nat)(c:Cf)(x:Mc)(K A N:Nat)(hM:d8 c x K A N)(hA:A≤700000)(hN:N≤1000)(hK:K+3≤1000000000)(ln:Int)(d:List UInt8)(hd:d.length=64)(m:Nat)(f0 f1 f2 f3 f4 f5 f6 f7:Int)(hR:eD 4 ln d m f0 f1 f2 f3 f4 f5 f6 f7=true):aa eF 16 #[pt g 0,.agg (sV 4 ln d m f0 f1 f2 f3 f4 f5 f6 f7)] [pk (br g gc gl gr gm gq gk gt gg gd ge go c x)] [0] (λ_=>[pk (br g gc gl gr gm gq gk gt gg gd ge go c ({x with x:=lW c x.x,sc:=x.sc+1,st:=x.st+1}:Mc))]) (λ_=> .agg (([i6 (b6 (bq c (jP c x.x) (aA (jP c x.x) x.x.cur))),iN x.x.cur]:List Value)++rB 64 z6).toArray):=aa.pkZ Tryz.func16 λL hL=>by
 obtain⟨gi,vj,vs,rfl⟩:=hL
 refine⟨[0,1,2,3,4],λ_=>[ob g #[pt gd 0,pt gc 0,.map (some gi),vj,vs,i6 ((x.sc+1:Nat):Int),i6 ((x.st+1:Nat):Int)] 114,pk (aR gc gl gr gm gq gk gt gg gd ge go c (lW c x.x)),cY x.id gi,gz vj x.inj,db vs x.sv],?_,rfl,λE=>⟨rfl,rfl,⟨_,_,_,rfl⟩⟩⟩
 have h:=hM.ct
 have hcf:=h.cf
 have hil:=hM.il
 have hsl:x.sv.length≤1000:=ir hM.sl hN
 have hjl:x.inj.length≤1000:=ir hM.jl hN
 have hsc:=hM.sc
 have hst:=hM.st
 refine fG Tryz.func16 λw cs=>?_
 refine ra (λq1=>[(3,pt (B0 q1) 0),(4,pt (B1 q1) 0)]) (λq1=>[ob (B0 q1) (sV 4 ln d m f0 f1 f2 f3 f4 f5 f6 f7) 50,ob (B1 q1) (([i6 0,i6 0]:List Value)++rB 64 z6).toArray 53]) λq1=>rF [(0,.l 5),(1,.c [] [] (aa.v ((kF 4 ln d m f0 f1 f2 f3 f4 f5 f6 f7 (by(simp only[LL,hd,hd];done)))) λ_=>ALca Value.bool (show(eD 4 ln d m f0 f1 f2 f3 f4 f5 f6 f7)=true from(by exact hR))))] 9 (rs [(3,.l 0),(4,ad x.st 1),(7,.s 0)] 0 (ob g #[pt gd 0,pt gc 0,.map (some gi),vj,vs,iN x.sc,i6 ((x.st+1:Nat):Int)] 114) (r0 [(1,.l 5)] [(19,i6 4)] [] (rT [] 20 (rs [(3,.l 0),(4,ad x.sc 1),(7,.s 0)] 0 (ob g #[pt gd 0,pt gc 0,.map (some gi),vj,vs,i6 ((x.sc+1:Nat):Int),i6 ((x.st+1:Nat):Int)] 114) ?_))))
 exact rr (λ_=>[(3,.l 0),(4,.c [1] [1] (Vz gc gl gr gm gq gk gt gg gd ge go c x.x _ _ h hA hK))]) (λ_=>[(5,iN x.x.cur),(6,i6 (b6 (bq c (jP c x.x) (aA (jP c x.x) x.x.cur))))]) [] (λ_ L=>L.set 1 ((pk (aR gc gl gr gm gq gk gt gg gd ge go c (lW c x.x))))) λq7=>rs [(3,.s 6)] 6 (ob (B1 q1) (([i6 (b6 (bq c (jP c x.x) (aA (jP c x.x) x.x.cur))),iN x.x.cur]:List Value)++rB 64 z6).toArray 53) (lf ab.zero [0,1,2,3,4] [] [6])
theorem Wt(g gc gl gr gm gq gk gt gg gd ge go:Nat)(c:Cf)(x:Mc)(K A N:Nat)(hM:d8 c x K A N)(hA:A≤700000)(hN:N≤1000)(hK:K+260≤1000000000)(hb:x.x.s.r.j.aa2≠0)(ln:Int)(d:List UInt8)(hd:d.length=64)(m:Nat)(f0 f1 f2 f3 f4 f5 f6 f7:Int)(hR:eD 5 ln d m f0 f1 f2 f3 f4 f5 f6 f7=true):aa eF 16 #[pt g 0,.agg (sV 5 ln d m f0 f1 f2 f3 f4 f5 f6 f7)] [pk (br g gc gl gr gm gq gk gt gg gd ge go c x)] [0] (λ_=>[pk (br g gc gl gr gm gq gk gt gg gd ge go c ({x with x:=ic c x.x,st:=x.st+1}:Mc))]) (λ_=> .agg (([i6 0,i6 0]:List Value)++rB 64 z6).toArray):=aa.pkZ Tryz.func16 λL hL=>by
 obtain⟨gi,vj,vs,rfl⟩:=hL
 refine⟨[0,1,2,3,4],λ_=>[ob g #[pt gd 0,pt gc 0,.map (some gi),vj,vs,iN x.sc,i6 ((x.st+1:Nat):Int)] 114,pk (aR gc gl gr gm gq gk gt gg gd ge go c (ic c x.x)),cY x.id gi,gz vj x.inj,db vs x.sv],?_,rfl,λE=>⟨rfl,rfl,⟨_,_,_,rfl⟩⟩⟩
 have h:=hM.ct
 have hcf:=h.cf
 have hil:=hM.il
 have hsl:x.sv.length≤1000:=ir hM.sl hN
 have hjl:x.inj.length≤1000:=ir hM.jl hN
 have hsc:=hM.sc
 have hst:=hM.st
 refine fG Tryz.func16 λw cs=>?_
 refine ra (λq1=>[(3,pt (B0 q1) 0),(4,pt (B1 q1) 0)]) (λq1=>[ob (B0 q1) (sV 5 ln d m f0 f1 f2 f3 f4 f5 f6 f7) 50,ob (B1 q1) (([i6 0,i6 0]:List Value)++rB 64 z6).toArray 53]) λq1=>rF [(0,.l 5),(1,.c [] [] (aa.v ((kF 5 ln d m f0 f1 f2 f3 f4 f5 f6 f7 (by(simp only[LL,hd,hd];done)))) λ_=>ALca Value.bool (show(eD 5 ln d m f0 f1 f2 f3 f4 f5 f6 f7)=true from(by exact hR))))] 9 (rs [(3,.l 0),(4,ad x.st 1),(7,.s 0)] 0 (ob g #[pt gd 0,pt gc 0,.map (some gi),vj,vs,iN x.sc,i6 ((x.st+1:Nat):Int)] 114) (r0 [(1,.l 5)] [(19,i6 5)] [] (rF [] 20 (rT [] 40 ?_))))
 exact rs [(3,.l 0),(4,.c [1] [1] (VK gc gl gr gm gq gk gt gg gd ge go c x.x _ _ h hA hK hb)),(6,.s 6)] 1 ((pk (aR gc gl gr gm gq gk gt gg gd ge go c (ic c x.x)))) (lf ab.zero [0,1,2,3,4] [] [6])
theorem Wu(g gc gl gr gm gq gk gt gg gd ge go:Nat)(c:Cf)(x:Mc)(K A N:Nat)(hM:d8 c x K A N)(hA:A≤700000)(hN:N≤1000)(hb:x.x.s.r.j.aa2=0)(ln:Int)(d:List UInt8)(hd:d.length=64)(m:Nat)(f0 f1 f2 f3 f4 f5 f6 f7:Int)(hR:eD 5 ln d m f0 f1 f2 f3 f4 f5 f6 f7=true):aa eF 16 #[pt g 0,.agg (sV 5 ln d m f0 f1 f2 f3 f4 f5 f6 f7)] [pk (br g gc gl gr gm gq gk gt gg gd ge go c x)] [0] (λ_=>[pk (br g gc gl gr gm gq gk gt gg gd ge go c ({x with st:=x.st+1}:Mc))]) (λ_=> .agg (([i6 51,i6 0]:List Value)++rB 64 z6).toArray):=aa.pkZ Tryz.func16 λL hL=>by
 obtain⟨gi,vj,vs,rfl⟩:=hL
 refine⟨[0,1,2,3,4],λ_=>[ob g #[pt gd 0,pt gc 0,.map (some gi),vj,vs,iN x.sc,i6 ((x.st+1:Nat):Int)] 114,pk (aR gc gl gr gm gq gk gt gg gd ge go c x.x),cY x.id gi,gz vj x.inj,db vs x.sv],?_,rfl,λE=>⟨rfl,rfl,⟨_,_,_,rfl⟩⟩⟩
 have h:=hM.ct
 have hcf:=h.cf
 have hil:=hM.il
 have hsl:x.sv.length≤1000:=ir hM.sl hN
 have hjl:x.inj.length≤1000:=ir hM.jl hN
 have hsc:=hM.sc
 have hst:=hM.st
 refine fG Tryz.func16 λw cs=>?_
 refine ra (λq1=>[(3,pt (B0 q1) 0),(4,pt (B1 q1) 0)]) (λq1=>[ob (B0 q1) (sV 5 ln d m f0 f1 f2 f3 f4 f5 f6 f7) 50,ob (B1 q1) (([i6 0,i6 0]:List Value)++rB 64 z6).toArray 53]) λq1=>rF [(0,.l 5),(1,.c [] [] (aa.v ((kF 5 ln d m f0 f1 f2 f3 f4 f5 f6 f7 (by(simp only[LL,hd,hd];done)))) λ_=>ALca Value.bool (show(eD 5 ln d m f0 f1 f2 f3 f4 f5 f6 f7)=true from(by exact hR))))] 9 (rs [(3,.l 0),(4,ad x.st 1),(7,.s 0)] 0 (ob g #[pt gd 0,pt gc 0,.map (some gi),vj,vs,iN x.sc,i6 ((x.st+1:Nat):Int)] 114) (r0 [(1,.l 5)] [(19,i6 5)] [] (rF [] 20 (rT [] 40 ?_))))
 exact rs [(3,.l 0),(4,.c [1] [1] (VJ gc gl gr gm gq gk gt gg gd ge go c x.x _ _ h hb)),(6,.s 6)] 6 (ob (B1 q1) (([i6 51,i6 0]:List Value)++rB 64 z6).toArray 53) (lf ab.zero [0,1,2,3,4] [] [6])
theorem Wv(g gc gl gr gm gq gk gt gg gd ge go:Nat)(c:Cf)(x:Mc)(K A N:Nat)(hM:d8 c x K A N)(hA:A≤700000)(hN:N≤1000)(ht:x.x.s.time<1099511627776)(ln:Int)(d:List UInt8)(hd:d.length=64)(m:Nat)(f0 f1 f2 f3 f4 f5 f6 f7:Int)(hR:eD 6 ln d m f0 f1 f2 f3 f4 f5 f6 f7=true):aa eF 16 #[pt g 0,.agg (sV 6 ln d m f0 f1 f2 f3 f4 f5 f6 f7)] [pk (br g gc gl gr gm gq gk gt gg gd ge go c x)] [0] (λ_=>[pk (br g gc gl gr gm gq gk gt gg gd ge go c ({x with x:=Zq x.x,st:=x.st+1}:Mc))]) (λ_=> .agg (([i6 0,i6 0]:List Value)++rB 64 z6).toArray):=aa.pkZ Tryz.func16 λL hL=>by
 obtain⟨gi,vj,vs,rfl⟩:=hL
 refine⟨[0,1,2,3,4],λ_=>[ob g #[pt gd 0,pt gc 0,.map (some gi),vj,vs,iN x.sc,i6 ((x.st+1:Nat):Int)] 114,pk (aR gc gl gr gm gq gk gt gg gd ge go c (Zq x.x)),cY x.id gi,gz vj x.inj,db vs x.sv],?_,rfl,λE=>⟨rfl,rfl,⟨_,_,_,rfl⟩⟩⟩
 have h:=hM.ct
 have hcf:=h.cf
 have hil:=hM.il
 have hsl:x.sv.length≤1000:=ir hM.sl hN
 have hjl:x.inj.length≤1000:=ir hM.jl hN
 have hsc:=hM.sc
 have hst:=hM.st
 refine fG Tryz.func16 λw cs=>?_
 refine ra (λq1=>[(3,pt (B0 q1) 0),(4,pt (B1 q1) 0)]) (λq1=>[ob (B0 q1) (sV 6 ln d m f0 f1 f2 f3 f4 f5 f6 f7) 50,ob (B1 q1) (([i6 0,i6 0]:List Value)++rB 64 z6).toArray 53]) λq1=>rF [(0,.l 5),(1,.c [] [] (aa.v ((kF 6 ln d m f0 f1 f2 f3 f4 f5 f6 f7 (by(simp only[LL,hd,hd];done)))) λ_=>ALca Value.bool (show(eD 6 ln d m f0 f1 f2 f3 f4 f5 f6 f7)=true from(by exact hR))))] 9 (rs [(3,.l 0),(4,ad x.st 1),(7,.s 0)] 0 (ob g #[pt gd 0,pt gc 0,.map (some gi),vj,vs,iN x.sc,i6 ((x.st+1:Nat):Int)] 114) (r0 [(1,.l 5)] [(19,i6 6)] [] (rF [] 20 (rF [] 40 ?_))))
 exact rT [] 48 (rs [(3,.l 0),(4,.c [1] [1] (VH gc gl gr gm gq gk gt gg gd ge go c x.x _ _ h hA ht)),(6,.s 6)] 1 ((pk (aR gc gl gr gm gq gk gt gg gd ge go c (Zq x.x)))) (lf ab.zero [0,1,2,3,4] [] [6]))
theorem Ww(g gc gl gr gm gq gk gt gg gd ge go:Nat)(c:Cf)(x:Mc)(K A N:Nat)(hM:d8 c x K A N)(hA:A≤700000)(hN:N≤1000)(ln:Int)(d:List UInt8)(hd:d.length=64)(m:Nat)(f0 f1 f2 f3 f4 f5 f6 f7:Int)(hR:eD 7 ln d m f0 f1 f2 f3 f4 f5 f6 f7=true):aa eF 16 #[pt g 0,.agg (sV 7 ln d m f0 f1 f2 f3 f4 f5 f6 f7)] [pk (br g gc gl gr gm gq gk gt gg gd ge go c x)] [0] (λ_=>[pk (br g gc gl gr gm gq gk gt gg gd ge go c ({x with x:=rc x.x,st:=x.st+1}:Mc))]) (λ_=> .agg (([i6 0,iN x.x.s.g.l.length]:List Value)++rB 64 z6).toArray):=aa.pkZ Tryz.func16 λL hL=>by
 obtain⟨gi,vj,vs,rfl⟩:=hL
 refine⟨[0,1,2,3,4],λ_=>[ob g #[pt gd 0,pt gc 0,.map (some gi),vj,vs,iN x.sc,i6 ((x.st+1:Nat):Int)] 114,pk (aR gc gl gr gm gq gk gt gg gd ge go c (rc x.x)),cY x.id gi,gz vj x.inj,db vs x.sv],?_,rfl,λE=>⟨rfl,rfl,⟨_,_,_,rfl⟩⟩⟩
 have h:=hM.ct
 have hcf:=h.cf
 have hil:=hM.il
 have hsl:x.sv.length≤1000:=ir hM.sl hN
 have hjl:x.inj.length≤1000:=ir hM.jl hN
 have hsc:=hM.sc
 have hst:=hM.st
 refine fG Tryz.func16 λw cs=>?_
 refine ra (λq1=>[(3,pt (B0 q1) 0),(4,pt (B1 q1) 0)]) (λq1=>[ob (B0 q1) (sV 7 ln d m f0 f1 f2 f3 f4 f5 f6 f7) 50,ob (B1 q1) (([i6 0,i6 0]:List Value)++rB 64 z6).toArray 53]) λq1=>rF [(0,.l 5),(1,.c [] [] (aa.v ((kF 7 ln d m f0 f1 f2 f3 f4 f5 f6 f7 (by(simp only[LL,hd,hd];done)))) λ_=>ALca Value.bool (show(eD 7 ln d m f0 f1 f2 f3 f4 f5 f6 f7)=true from(by exact hR))))] 9 (rs [(3,.l 0),(4,ad x.st 1),(7,.s 0)] 0 (ob g #[pt gd 0,pt gc 0,.map (some gi),vj,vs,iN x.sc,i6 ((x.st+1:Nat):Int)] 114) (r0 [(1,.l 5)] [(19,i6 7)] [] (rF [] 20 (rF [] 40 ?_))))
 exact rF [] 48 (rT [] 56 (rr (λ_=>[(3,.l 0),(4,.c [1] [1] (VI gc gl gr gm gq gk gt gg gd ge go c x.x _ _ h hA)),(6,.s 6)]) N0 [] (λ_ L=>(L.set 1 ((pk (aR gc gl gr gm gq gk gt gg gd ge go c (rc x.x))))).set 6 (ob (B1 q1) (([i6 0,iN x.x.s.g.l.length]:List Value)++rB 64 z6).toArray 53)) λq9=>lf ab.zero [0,1,2,3,4] [] [6]))
theorem Wx(g gc gl gr gm gq gk gt gg gd ge go:Nat)(c:Cf)(x:Mc)(K A N:Nat)(hM:d8 c x K A N)(hA:A≤700000)(hN:N≤1000)(ln:Int)(d:List UInt8)(hd:d.length=64)(m:Nat)(f0 f1 f2 f3 f4 f5 f6 f7:Int)(hR:eD 8 ln d m f0 f1 f2 f3 f4 f5 f6 f7=true):aa eF 16 #[pt g 0,.agg (sV 8 ln d m f0 f1 f2 f3 f4 f5 f6 f7)] [pk (br g gc gl gr gm gq gk gt gg gd ge go c x)] [0] (λ_=>[pk (br g gc gl gr gm gq gk gt gg gd ge go c ({x with x:={x.x with V:=nZ c x.x.V (⟨f0,f1,f2,f3,f4,f5,f6,f7⟩:Fa)},inj:=n1 c x.x (⟨f0,f1,f2,f3,f4,f5,f6,f7⟩:Fa) x.inj x.sc,st:=x.st+1}:Mc))]) (λ_=> .agg (([i6 (iw c x.x.V.D ⟨f0,f1,f2,f3,f4,f5,f6,f7⟩),i6 0]:List Value)++rB 64 z6).toArray):=aa.pkZ Tryz.func16 λL hL=>by
 obtain⟨gi,vj,vs,rfl⟩:=hL
 refine⟨[0,1,2,3,4],λE=>[ob g #[pt gd 0,pt gc 0,.map (some gi),(E.val 0),vs,iN x.sc,i6 ((x.st+1:Nat):Int)] 114,pk (aR gc gl gr gm gq gk gt gg gd ge go c ({x.x with V:=nZ c x.x.V ⟨f0,f1,f2,f3,f4,f5,f6,f7⟩}:Ct)),cY x.id gi,gz (E.val 0) (n1 c x.x (⟨f0,f1,f2,f3,f4,f5,f6,f7⟩:Fa) x.inj x.sc),db vs x.sv],?_,rfl,λE=>⟨rfl,rfl,⟨_,_,_,rfl⟩⟩⟩
 have h:=hM.ct
 have hcf:=h.cf
 have hil:=hM.il
 have hsl:x.sv.length≤1000:=ir hM.sl hN
 have hjl:x.inj.length≤1000:=ir hM.jl hN
 have hsc:=hM.sc
 have hst:=hM.st
 refine fG Tryz.func16 λw cs=>?_
 refine ra (λq1=>[(3,pt (B0 q1) 0),(4,pt (B1 q1) 0)]) (λq1=>[ob (B0 q1) (sV 8 ln d m f0 f1 f2 f3 f4 f5 f6 f7) 50,ob (B1 q1) (([i6 0,i6 0]:List Value)++rB 64 z6).toArray 53]) λq1=>rF [(0,.l 5),(1,.c [] [] (aa.v ((kF 8 ln d m f0 f1 f2 f3 f4 f5 f6 f7 (by(simp only[LL,hd,hd];done)))) λ_=>ALca Value.bool (show(eD 8 ln d m f0 f1 f2 f3 f4 f5 f6 f7)=true from(by exact hR))))] 9 (rs [(3,.l 0),(4,ad x.st 1),(7,.s 0)] 0 (ob g #[pt gd 0,pt gc 0,.map (some gi),vj,vs,iN x.sc,i6 ((x.st+1:Nat):Int)] 114) (r0 [(1,.l 5)] [(19,i6 8)] [] (rF [] 20 (rF [] 40 ?_))))
 exact rF [] 48 (rF [] 56 (rT [] 64 (rr (λ_=>[(2,.l 5),(3,.c [0,1,3] [0,1,3] (Wo g gc gl gr gm gq gk gt gg gd ge go c x.x _ _ h hA f0 f1 f2 f3 f4 f5 f6 f7 x.inj hjl x.sc (x.st+1) gi vj vs)),(4,.s 6)]) N0 [] (λq10 L=>(((L.set 0 (ob g #[pt gd 0,pt gc 0,.map (some gi),((q10 3).val 0),vs,iN x.sc,i6 ((x.st+1:Nat):Int)] 114)).set 1 ((pk (aR gc gl gr gm gq gk gt gg gd ge go c ({x.x with V:=nZ c x.x.V ⟨f0,f1,f2,f3,f4,f5,f6,f7⟩}:Ct))))).set 3 (gz ((q10 3).val 0) (n1 c x.x (⟨f0,f1,f2,f3,f4,f5,f6,f7⟩:Fa) x.inj x.sc))).set 6 (ob (B1 q1) (([i6 (iw c x.x.V.D ⟨f0,f1,f2,f3,f4,f5,f6,f7⟩),i6 0]:List Value)++rB 64 z6).toArray 53)) λq10=>lf (.l [] [] [((q10 3).val 0)]) [0,1,2,3,4] [] [6])))
theorem Wy(g gc gl gr gm gq gk gt gg gd ge go:Nat)(c:Cf)(x:Mc)(K A N:Nat)(hM:d8 c x K A N)(hA:A≤700000)(hN:N≤1000)(hK:K+3≤1000000000)(n:Nat)(hn:n<((c.R*c.B*c.M-c.res)*c.C))(d:List UInt8)(hd:d.length=64)(m:Nat)(f0 f1 f2 f3 f4 f5 f6 f7:Int)(hR:eD 1 (n:Int) d m f0 f1 f2 f3 f4 f5 f6 f7=true):aa eF 16 #[pt g 0,.agg (sV 1 (n:Int) d m f0 f1 f2 f3 f4 f5 f6 f7)] [pk (br g gc gl gr gm gq gk gt gg gd ge go c x)] [0] (λ_=>[pk (br g gc gl gr gm gq gk gt gg gd ge go c (Hi c ({x with st:=x.st+1}:Mc) n (⟨1,(n:Int),d,m,f0,f1,f2,f3,f4,f5,f6,f7⟩:St):Mc))]) (λ_=> .agg (([i6 (b6 (bq c x.x (aA x.x n))),i6 0]:List Value)++rB 64 (cH c x.x (aA x.x n))).toArray):=aa.pkZ Tryz.func16 λL hL=>by
 obtain⟨gi,vj,vs,rfl⟩:=hL
 refine⟨[0,1,2,3,4],λE=>[ob g #[pt gd 0,pt gc 0,.map (some gi),vj,(E.val 0),iN x.sc,i6 ((x.st+1:Nat):Int)] 114,pk (aR gc gl gr gm gq gk gt gg gd ge go c (cy c x.x n c.back)),cY x.id gi,gz vj x.inj,db (E.val 0) (x.sv++([(⟨1,(n:Int),d,m,f0,f1,f2,f3,f4,f5,f6,f7,(b6 (bq c x.x (aA x.x n))),0,cH c x.x (aA x.x n),(x.id (n:Int)),x.x.V.l.length,(cy c x.x n c.back).V.l.length⟩:Sv)]))],?_,rfl,λE=>⟨rfl,rfl,⟨_,_,_,rfl⟩⟩⟩
 have h:=hM.ct
 have hcf:=h.cf
 have hil:=hM.il
 have hsl:x.sv.length≤1000:=ir hM.sl hN
 have hjl:x.inj.length≤1000:=ir hM.jl hN
 have hsc:=hM.sc
 have hst:=hM.st
 refine fG Tryz.func16 λw cs=>?_
 refine ra (λq1=>[(3,pt (B0 q1) 0),(4,pt (B1 q1) 0)]) (λq1=>[ob (B0 q1) (sV 1 (n:Int) d m f0 f1 f2 f3 f4 f5 f6 f7) 50,ob (B1 q1) (([i6 0,i6 0]:List Value)++rB 64 z6).toArray 53]) λq1=>rF [(0,.l 5),(1,.c [] [] (aa.v ((kF 1 (n:Int) d m f0 f1 f2 f3 f4 f5 f6 f7 (by(simp only[LL,hd,hd];done)))) λ_=>ALca Value.bool (show(eD 1 (n:Int) d m f0 f1 f2 f3 f4 f5 f6 f7)=true from(by exact hR))))] 9 (rs [(3,.l 0),(4,ad x.st 1),(7,.s 0)] 0 (ob g #[pt gd 0,pt gc 0,.map (some gi),vj,vs,iN x.sc,i6 ((x.st+1:Nat):Int)] 114) (r0 [(1,.l 5)] [(19,i6 1)] [] (rF [] 20 (rF [] 40 ?_))))
 exact rF [] 48 (rF [] 56 (rF [] 64 (rr (λ_=>[(1,.l 5),(2,.c [0,1,2,4] [0,1,2,4] (Wh g gc gl gr gm gq gk gt gg gd ge go c x.x _ _ h hA hK n hn d (by(simp only[LL,hd,hd];done)) m f0 f1 f2 f3 f4 f5 f6 f7 x.id hil x.sv hsl x.sc (x.st+1) gi vj vs)),(3,.s 6)]) N0 [] (λq10 L=>(((L.set 0 (ob g #[pt gd 0,pt gc 0,.map (some gi),vj,((q10 2).val 0),iN x.sc,i6 ((x.st+1:Nat):Int)] 114)).set 1 ((pk (aR gc gl gr gm gq gk gt gg gd ge go c (cy c x.x n c.back))))).set 4 (db ((q10 2).val 0) (x.sv++([(⟨1,(n:Int),d,m,f0,f1,f2,f3,f4,f5,f6,f7,(b6 (bq c x.x (aA x.x n))),0,cH c x.x (aA x.x n),(x.id (n:Int)),x.x.V.l.length,(cy c x.x n c.back).V.l.length⟩:Sv)])))).set 6 (ob (B1 q1) (([i6 (b6 (bq c x.x (aA x.x n))),i6 0]:List Value)++rB 64 (cH c x.x (aA x.x n))).toArray 53)) λq10=>lf (.l [] [] [((q10 2).val 0)]) [0,1,2,3,4] [] [6])))
theorem Wz(g gc gl gr gm gq gk gt gg gd ge go:Nat)(c:Cf)(x:Mc)(K A N:Nat)(hM:d8 c x K A N)(hA:A≤700000)(hN:N≤1000)(hK:K+3≤1000000000)(n:Nat)(hn:n<((c.R*c.B*c.M-c.res)*c.C))(d:List UInt8)(hd:d.length=64)(m:Nat)(f0 f1 f2 f3 f4 f5 f6 f7:Int)(hR:eD 2 (n:Int) d m f0 f1 f2 f3 f4 f5 f6 f7=true):aa eF 16 #[pt g 0,.agg (sV 2 (n:Int) d m f0 f1 f2 f3 f4 f5 f6 f7)] [pk (br g gc gl gr gm gq gk gt gg gd ge go c x)] [0] (λ_=>[pk (br g gc gl gr gm gq gk gt gg gd ge go c (rh c ({x with st:=x.st+1}:Mc) n 18446744073709551615 (⟨2,(n:Int),d,m,f0,f1,f2,f3,f4,f5,f6,f7⟩:St):Mc))]) (λ_=> .agg (([i6 (cv c x.x n 18446744073709551615),i6 0]:List Value)++rB 64 z6).toArray):=aa.pkZ Tryz.func16 λL hL=>by
 obtain⟨gi,vj,vs,rfl⟩:=hL
 refine⟨[0,1,2,3,4],λE=>[ob g #[pt gd 0,pt gc 0,.map (some gi),vj,(E.val 0),iN x.sc,i6 ((x.st+1:Nat):Int)] 114,pk (aR gc gl gr gm gq gk gt gg gd ge go c (bF c x.x n d 18446744073709551615)),cY (cI x.id (n:Int) (gH (x.id (n:Int)) d 18446744073709551615)) gi,gz vj x.inj,db (E.val 0) (x.sv++([(⟨2,(n:Int),d,m,f0,f1,f2,f3,f4,f5,f6,f7,(cv c x.x n 18446744073709551615),0,dZ 64 0,(x.id (n:Int)),x.x.V.l.length,(bF c x.x n d 18446744073709551615).V.l.length⟩:Sv)]))],?_,rfl,λE=>⟨rfl,rfl,⟨_,_,_,rfl⟩⟩⟩
 have h:=hM.ct
 have hcf:=h.cf
 have hil:=hM.il
 have hsl:x.sv.length≤1000:=ir hM.sl hN
 have hjl:x.inj.length≤1000:=ir hM.jl hN
 have hsc:=hM.sc
 have hst:=hM.st
 refine fG Tryz.func16 λw cs=>?_
 refine ra (λq1=>[(3,pt (B0 q1) 0),(4,pt (B1 q1) 0)]) (λq1=>[ob (B0 q1) (sV 2 (n:Int) d m f0 f1 f2 f3 f4 f5 f6 f7) 50,ob (B1 q1) (([i6 0,i6 0]:List Value)++rB 64 z6).toArray 53]) λq1=>rF [(0,.l 5),(1,.c [] [] (aa.v ((kF 2 (n:Int) d m f0 f1 f2 f3 f4 f5 f6 f7 (by(simp only[LL,hd,hd];done)))) λ_=>ALca Value.bool (show(eD 2 (n:Int) d m f0 f1 f2 f3 f4 f5 f6 f7)=true from(by exact hR))))] 9 (rs [(3,.l 0),(4,ad x.st 1),(7,.s 0)] 0 (ob g #[pt gd 0,pt gc 0,.map (some gi),vj,vs,iN x.sc,i6 ((x.st+1:Nat):Int)] 114) (r0 [(1,.l 5)] [(19,i6 2)] [] (rF [] 20 (rF [] 40 ?_))))
 exact rF [] 48 (rF [] 56 (rF [] 64 (rr (λ_=>[(1,.l 5),(2,.c [0,1,2,4] [0,1,2,4] (Wl g gc gl gr gm gq gk gt gg gd ge go c x.x _ _ h hA hK n hn d (by(simp only[LL,hd,hd];done)) m f0 f1 f2 f3 f4 f5 f6 f7 x.id hil x.sv hsl x.sc (x.st+1) gi vj vs)),(3,.s 6)]) N0 [] (λq10 L=>((((L.set 0 (ob g #[pt gd 0,pt gc 0,.map (some gi),vj,((q10 2).val 0),iN x.sc,i6 ((x.st+1:Nat):Int)] 114)).set 1 ((pk (aR gc gl gr gm gq gk gt gg gd ge go c (bF c x.x n d 18446744073709551615))))).set 2 (cY (cI x.id (n:Int) (gH (x.id (n:Int)) d 18446744073709551615)) gi)).set 4 (db ((q10 2).val 0) (x.sv++([(⟨2,(n:Int),d,m,f0,f1,f2,f3,f4,f5,f6,f7,(cv c x.x n 18446744073709551615),0,dZ 64 0,(x.id (n:Int)),x.x.V.l.length,(bF c x.x n d 18446744073709551615).V.l.length⟩:Sv)])))).set 6 (ob (B1 q1) (([i6 (cv c x.x n 18446744073709551615),i6 0]:List Value)++rB 64 z6).toArray 53)) λq10=>lf (.l [] [] [((q10 2).val 0)]) [0,1,2,3,4] [] [6])))
theorem WA(g gc gl gr gm gq gk gt gg gd ge go:Nat)(c:Cf)(x:Mc)(K A N:Nat)(hM:d8 c x K A N)(hA:A≤700000)(hN:N≤1000)(hK:K+3≤1000000000)(n:Nat)(hn:n<((c.R*c.B*c.M-c.res)*c.C))(d:List UInt8)(hd:d.length=64)(m:Nat)(f0 f1 f2 f3 f4 f5 f6 f7:Int)(hR:eD 3 (n:Int) d m f0 f1 f2 f3 f4 f5 f6 f7=true)(hm5:m<18446744073709551616)(hm0:m≠0):aa eF 16 #[pt g 0,.agg (sV 3 (n:Int) d m f0 f1 f2 f3 f4 f5 f6 f7)] [pk (br g gc gl gr gm gq gk gt gg gd ge go c x)] [0] (λ_=>[pk (br g gc gl gr gm gq gk gt gg gd ge go c (rh c ({x with st:=x.st+1}:Mc) n m (⟨3,(n:Int),d,m,f0,f1,f2,f3,f4,f5,f6,f7⟩:St):Mc))]) (λ_=> .agg (([i6 (cv c x.x n m),i6 0]:List Value)++rB 64 z6).toArray):=aa.pkZ Tryz.func16 λL hL=>by
 obtain⟨gi,vj,vs,rfl⟩:=hL
 refine⟨[0,1,2,3,4],λE=>[ob g #[pt gd 0,pt gc 0,.map (some gi),vj,(E.val 0),iN x.sc,i6 ((x.st+1:Nat):Int)] 114,pk (aR gc gl gr gm gq gk gt gg gd ge go c (bF c x.x n d m)),cY (cI x.id (n:Int) (gH (x.id (n:Int)) d m)) gi,gz vj x.inj,db (E.val 0) (x.sv++([(⟨3,(n:Int),d,m,f0,f1,f2,f3,f4,f5,f6,f7,(cv c x.x n m),0,dZ 64 0,(x.id (n:Int)),x.x.V.l.length,(bF c x.x n d m).V.l.length⟩:Sv)]))],?_,rfl,λE=>⟨rfl,rfl,⟨_,_,_,rfl⟩⟩⟩
 have h:=hM.ct
 have hcf:=h.cf
 have hil:=hM.il
 have hsl:x.sv.length≤1000:=ir hM.sl hN
 have hjl:x.inj.length≤1000:=ir hM.jl hN
 have hsc:=hM.sc
 have hst:=hM.st
 refine fG Tryz.func16 λw cs=>?_
 refine ra (λq1=>[(3,pt (B0 q1) 0),(4,pt (B1 q1) 0)]) (λq1=>[ob (B0 q1) (sV 3 (n:Int) d m f0 f1 f2 f3 f4 f5 f6 f7) 50,ob (B1 q1) (([i6 0,i6 0]:List Value)++rB 64 z6).toArray 53]) λq1=>rF [(0,.l 5),(1,.c [] [] (aa.v ((kF 3 (n:Int) d m f0 f1 f2 f3 f4 f5 f6 f7 (by(simp only[LL,hd,hd];done)))) λ_=>ALca Value.bool (show(eD 3 (n:Int) d m f0 f1 f2 f3 f4 f5 f6 f7)=true from(by exact hR))))] 9 (rs [(3,.l 0),(4,ad x.st 1),(7,.s 0)] 0 (ob g #[pt gd 0,pt gc 0,.map (some gi),vj,vs,iN x.sc,i6 ((x.st+1:Nat):Int)] 114) (r0 [(1,.l 5)] [(19,i6 3)] [] (rF [] 20 (rF [] 40 ?_))))
 exact rF [] 48 (rF [] 56 (rF [] 64 (rr (λ_=>[(1,.l 5),(2,.c [0,1,2,4] [0,1,2,4] (Wm g gc gl gr gm gq gk gt gg gd ge go c x.x _ _ h hA hK n hn d (by(simp only[LL,hd,hd];done)) m f0 f1 f2 f3 f4 f5 f6 f7 hm5 hm0 x.id hil x.sv hsl x.sc (x.st+1) gi vj vs)),(3,.s 6)]) N0 [] (λq10 L=>((((L.set 0 (ob g #[pt gd 0,pt gc 0,.map (some gi),vj,((q10 2).val 0),iN x.sc,i6 ((x.st+1:Nat):Int)] 114)).set 1 ((pk (aR gc gl gr gm gq gk gt gg gd ge go c (bF c x.x n d m))))).set 2 (cY (cI x.id (n:Int) (gH (x.id (n:Int)) d m)) gi)).set 4 (db ((q10 2).val 0) (x.sv++([(⟨3,(n:Int),d,m,f0,f1,f2,f3,f4,f5,f6,f7,(cv c x.x n m),0,dZ 64 0,(x.id (n:Int)),x.x.V.l.length,(bF c x.x n d m).V.l.length⟩:Sv)])))).set 6 (ob (B1 q1) (([i6 (cv c x.x n m),i6 0]:List Value)++rB 64 z6).toArray 53)) λq10=>lf (.l [] [] [((q10 2).val 0)]) [0,1,2,3,4] [] [6])))
theorem WB(g gc gl gr gm gq gk gt gg gd ge go:Nat)(c:Cf)(x:Mc)(K A N:Nat)(hM:d8 c x K A N)(hA:A≤700000)(hN:N≤1000)(hK:K+3≤1000000000)(n:Nat)(hn:n<((c.R*c.B*c.M-c.res)*c.C))(d:List UInt8)(hd:d.length=64)(f0 f1 f2 f3 f4 f5 f6 f7:Int)(hR:eD 3 (n:Int) d 0 f0 f1 f2 f3 f4 f5 f6 f7=true):aa eF 16 #[pt g 0,.agg (sV 3 (n:Int) d 0 f0 f1 f2 f3 f4 f5 f6 f7)] [pk (br g gc gl gr gm gq gk gt gg gd ge go c x)] [0] (λ_=>[pk (br g gc gl gr gm gq gk gt gg gd ge go c (Hj c ({x with st:=x.st+1}:Mc) n d:Mc))]) (λ_=> .agg (([i6 (cv c x.x n 0),i6 0]:List Value)++rB 64 z6).toArray):=aa.pkZ Tryz.func16 λL hL=>by
 obtain⟨gi,vj,vs,rfl⟩:=hL
 refine⟨[0,1,2,3,4],λ_=>[ob g #[pt gd 0,pt gc 0,.map (some gi),vj,vs,iN x.sc,i6 ((x.st+1:Nat):Int)] 114,pk (aR gc gl gr gm gq gk gt gg gd ge go c (bF c x.x n d 0)),cY x.id gi,gz vj x.inj,db vs x.sv],?_,rfl,λE=>⟨rfl,rfl,⟨_,_,_,rfl⟩⟩⟩
 have h:=hM.ct
 have hcf:=h.cf
 have hil:=hM.il
 have hsl:x.sv.length≤1000:=ir hM.sl hN
 have hjl:x.inj.length≤1000:=ir hM.jl hN
 have hsc:=hM.sc
 have hst:=hM.st
 refine fG Tryz.func16 λw cs=>?_
 refine ra (λq1=>[(3,pt (B0 q1) 0),(4,pt (B1 q1) 0)]) (λq1=>[ob (B0 q1) (sV 3 (n:Int) d 0 f0 f1 f2 f3 f4 f5 f6 f7) 50,ob (B1 q1) (([i6 0,i6 0]:List Value)++rB 64 z6).toArray 53]) λq1=>rF [(0,.l 5),(1,.c [] [] (aa.v ((kF 3 (n:Int) d 0 f0 f1 f2 f3 f4 f5 f6 f7 (by(simp only[LL,hd,hd];done)))) λ_=>ALca Value.bool (show(eD 3 (n:Int) d 0 f0 f1 f2 f3 f4 f5 f6 f7)=true from(by exact hR))))] 9 (rs [(3,.l 0),(4,ad x.st 1),(7,.s 0)] 0 (ob g #[pt gd 0,pt gc 0,.map (some gi),vj,vs,iN x.sc,i6 ((x.st+1:Nat):Int)] 114) (r0 [(1,.l 5)] [(19,i6 3)] [] (rF [] 20 (rF [] 40 ?_))))
 exact rF [] 48 (rF [] 56 (rF [] 64 (rr (λ_=>[(1,.l 5),(2,.c [0,1,2,4] [0,1,2,4] (Wn g gc gl gr gm gq gk gt gg gd ge go c x.x _ _ h hA hK n hn d (by(simp only[LL,hd,hd];done)) f0 f1 f2 f3 f4 f5 f6 f7 x.id hil x.sv hsl x.sc (x.st+1) gi vj vs)),(3,.s 6)]) N0 [] (λ_ L=>(L.set 1 ((pk (aR gc gl gr gm gq gk gt gg gd ge go c (bF c x.x n d 0))))).set 6 (ob (B1 q1) (([i6 (cv c x.x n 0),i6 0]:List Value)++rB 64 z6).toArray 53)) λq10=>lf ab.zero [0,1,2,3,4] [] [6])))
theorem WC(g gc gl gr gm gq gk gt gg gd ge go:Nat)(c:Cf)(x:Mc)(K A N:Nat)(hM:d8 c x K A N)(hA:A≤700000)(hN:N≤1000)(hK:K+3≤1000000000)(ln:Int)(hn:bQ ln ((((c.R*c.B*c.M-c.res)*c.C):Nat):Int)=false)(d:List UInt8)(hd:d.length=64)(m:Nat)(f0 f1 f2 f3 f4 f5 f6 f7:Int)(hR:eD 1 ln d m f0 f1 f2 f3 f4 f5 f6 f7=true):aa eF 16 #[pt g 0,.agg (sV 1 ln d m f0 f1 f2 f3 f4 f5 f6 f7)] [pk (br g gc gl gr gm gq gk gt gg gd ge go c x)] [0] (λ_=>[pk (br g gc gl gr gm gq gk gt gg gd ge go c ({x with st:=x.st+1}:Mc))]) (λ_=> .agg (([i6 30,i6 0]:List Value)++rB 64 z6).toArray):=aa.pkZ Tryz.func16 λL hL=>by
 obtain⟨gi,vj,vs,rfl⟩:=hL
 refine⟨[0,1,2,3,4],λ_=>[ob g #[pt gd 0,pt gc 0,.map (some gi),vj,vs,iN x.sc,i6 ((x.st+1:Nat):Int)] 114,pk (aR gc gl gr gm gq gk gt gg gd ge go c x.x),cY x.id gi,gz vj x.inj,db vs x.sv],?_,rfl,λE=>⟨rfl,rfl,⟨_,_,_,rfl⟩⟩⟩
 have h:=hM.ct
 have hcf:=h.cf
 have hil:=hM.il
 have hsl:x.sv.length≤1000:=ir hM.sl hN
 have hjl:x.inj.length≤1000:=ir hM.jl hN
 have hsc:=hM.sc
 have hst:=hM.st
 refine fG Tryz.func16 λw cs=>?_
 refine ra (λq1=>[(3,pt (B0 q1) 0),(4,pt (B1 q1) 0)]) (λq1=>[ob (B0 q1) (sV 1 ln d m f0 f1 f2 f3 f4 f5 f6 f7) 50,ob (B1 q1) (([i6 0,i6 0]:List Value)++rB 64 z6).toArray 53]) λq1=>rF [(0,.l 5),(1,.c [] [] (aa.v ((kF 1 ln d m f0 f1 f2 f3 f4 f5 f6 f7 (by(simp only[LL,hd,hd];done)))) λ_=>ALca Value.bool (show(eD 1 ln d m f0 f1 f2 f3 f4 f5 f6 f7)=true from(by exact hR))))] 9 (rs [(3,.l 0),(4,ad x.st 1),(7,.s 0)] 0 (ob g #[pt gd 0,pt gc 0,.map (some gi),vj,vs,iN x.sc,i6 ((x.st+1:Nat):Int)] 114) (r0 [(1,.l 5)] [(19,i6 1)] [] (rF [] 20 (rF [] 40 ?_))))
 exact rF [] 48 (rF [] 56 (rF [] 64 (rs [(1,.l 5),(2,.c [0,1,2,4] [0,1,2,4] (Wi g gc gl gr gm gq gk gt gg gd ge go c x.x _ _ h hA hK ln hn d (by(simp only[LL,hd,hd];done)) m f0 f1 f2 f3 f4 f5 f6 f7 x.id hil x.sv hsl x.sc (x.st+1) gi vj vs)),(3,.s 6)] 6 (ob (B1 q1) (([i6 30,i6 0]:List Value)++rB 64 z6).toArray 53) (lf ab.zero [0,1,2,3,4] [] [6]))))
theorem WD(g gc gl gr gm gq gk gt gg gd ge go:Nat)(c:Cf)(x:Mc)(K A N:Nat)(hM:d8 c x K A N)(hA:A≤700000)(hN:N≤1000)(hK:K+3≤1000000000)(ln:Int)(hn:bQ ln ((((c.R*c.B*c.M-c.res)*c.C):Nat):Int)=false)(d:List UInt8)(hd:d.length=64)(m:Nat)(f0 f1 f2 f3 f4 f5 f6 f7:Int)(hR:eD 2 ln d m f0 f1 f2 f3 f4 f5 f6 f7=true):aa eF 16 #[pt g 0,.agg (sV 2 ln d m f0 f1 f2 f3 f4 f5 f6 f7)] [pk (br g gc gl gr gm gq gk gt gg gd ge go c x)] [0] (λ_=>[pk (br g gc gl gr gm gq gk gt gg gd ge go c ({x with st:=x.st+1}:Mc))]) (λ_=> .agg (([i6 30,i6 0]:List Value)++rB 64 z6).toArray):=aa.pkZ Tryz.func16 λL hL=>by
 obtain⟨gi,vj,vs,rfl⟩:=hL
 refine⟨[0,1,2,3,4],λ_=>[ob g #[pt gd 0,pt gc 0,.map (some gi),vj,vs,iN x.sc,i6 ((x.st+1:Nat):Int)] 114,pk (aR gc gl gr gm gq gk gt gg gd ge go c x.x),cY x.id gi,gz vj x.inj,db vs x.sv],?_,rfl,λE=>⟨rfl,rfl,⟨_,_,_,rfl⟩⟩⟩
 have h:=hM.ct
 have hcf:=h.cf
 have hil:=hM.il
 have hsl:x.sv.length≤1000:=ir hM.sl hN
 have hjl:x.inj.length≤1000:=ir hM.jl hN
 have hsc:=hM.sc
 have hst:=hM.st
 refine fG Tryz.func16 λw cs=>?_
 refine ra (λq1=>[(3,pt (B0 q1) 0),(4,pt (B1 q1) 0)]) (λq1=>[ob (B0 q1) (sV 2 ln d m f0 f1 f2 f3 f4 f5 f6 f7) 50,ob (B1 q1) (([i6 0,i6 0]:List Value)++rB 64 z6).toArray 53]) λq1=>rF [(0,.l 5),(1,.c [] [] (aa.v ((kF 2 ln d m f0 f1 f2 f3 f4 f5 f6 f7 (by(simp only[LL,hd,hd];done)))) λ_=>ALca Value.bool (show(eD 2 ln d m f0 f1 f2 f3 f4 f5 f6 f7)=true from(by exact hR))))] 9 (rs [(3,.l 0),(4,ad x.st 1),(7,.s 0)] 0 (ob g #[pt gd 0,pt gc 0,.map (some gi),vj,vs,iN x.sc,i6 ((x.st+1:Nat):Int)] 114) (r0 [(1,.l 5)] [(19,i6 2)] [] (rF [] 20 (rF [] 40 ?_))))
 exact rF [] 48 (rF [] 56 (rF [] 64 (rs [(1,.l 5),(2,.c [0,1,2,4] [0,1,2,4] (Wj g gc gl gr gm gq gk gt gg gd ge go c x.x _ _ h hA hK ln hn d (by(simp only[LL,hd,hd];done)) m f0 f1 f2 f3 f4 f5 f6 f7 x.id hil x.sv hsl x.sc (x.st+1) gi vj vs)),(3,.s 6)] 6 (ob (B1 q1) (([i6 30,i6 0]:List Value)++rB 64 z6).toArray 53) (lf ab.zero [0,1,2,3,4] [] [6]))))
theorem WE(g gc gl gr gm gq gk gt gg gd ge go:Nat)(c:Cf)(x:Mc)(K A N:Nat)(hM:d8 c x K A N)(hA:A≤700000)(hN:N≤1000)(hK:K+3≤1000000000)(ln:Int)(hn:bQ ln ((((c.R*c.B*c.M-c.res)*c.C):Nat):Int)=false)(d:List UInt8)(hd:d.length=64)(m:Nat)(f0 f1 f2 f3 f4 f5 f6 f7:Int)(hR:eD 3 ln d m f0 f1 f2 f3 f4 f5 f6 f7=true):aa eF 16 #[pt g 0,.agg (sV 3 ln d m f0 f1 f2 f3 f4 f5 f6 f7)] [pk (br g gc gl gr gm gq gk gt gg gd ge go c x)] [0] (λ_=>[pk (br g gc gl gr gm gq gk gt gg gd ge go c ({x with st:=x.st+1}:Mc))]) (λ_=> .agg (([i6 30,i6 0]:List Value)++rB 64 z6).toArray):=aa.pkZ Tryz.func16 λL hL=>by
 obtain⟨gi,vj,vs,rfl⟩:=hL
 refine⟨[0,1,2,3,4],λ_=>[ob g #[pt gd 0,pt gc 0,.map (some gi),vj,vs,iN x.sc,i6 ((x.st+1:Nat):Int)] 114,pk (aR gc gl gr gm gq gk gt gg gd ge go c x.x),cY x.id gi,gz vj x.inj,db vs x.sv],?_,rfl,λE=>⟨rfl,rfl,⟨_,_,_,rfl⟩⟩⟩
 have h:=hM.ct
 have hcf:=h.cf
 have hil:=hM.il
 have hsl:x.sv.length≤1000:=ir hM.sl hN
 have hjl:x.inj.length≤1000:=ir hM.jl hN
 have hsc:=hM.sc
 have hst:=hM.st
 refine fG Tryz.func16 λw cs=>?_
 refine ra (λq1=>[(3,pt (B0 q1) 0),(4,pt (B1 q1) 0)]) (λq1=>[ob (B0 q1) (sV 3 ln d m f0 f1 f2 f3 f4 f5 f6 f7) 50,ob (B1 q1) (([i6 0,i6 0]:List Value)++rB 64 z6).toArray 53]) λq1=>rF [(0,.l 5),(1,.c [] [] (aa.v ((kF 3 ln d m f0 f1 f2 f3 f4 f5 f6 f7 (by(simp only[LL,hd,hd];done)))) λ_=>ALca Value.bool (show(eD 3 ln d m f0 f1 f2 f3 f4 f5 f6 f7)=true from(by exact hR))))] 9 (rs [(3,.l 0),(4,ad x.st 1),(7,.s 0)] 0 (ob g #[pt gd 0,pt gc 0,.map (some gi),vj,vs,iN x.sc,i6 ((x.st+1:Nat):Int)] 114) (r0 [(1,.l 5)] [(19,i6 3)] [] (rF [] 20 (rF [] 40 ?_))))
 exact rF [] 48 (rF [] 56 (rF [] 64 (rs [(1,.l 5),(2,.c [0,1,2,4] [0,1,2,4] (Wk g gc gl gr gm gq gk gt gg gd ge go c x.x _ _ h hA hK ln hn d (by(simp only[LL,hd,hd];done)) m f0 f1 f2 f3 f4 f5 f6 f7 x.id hil x.sv hsl x.sc (x.st+1) gi vj vs)),(3,.s 6)] 6 (ob (B1 q1) (([i6 30,i6 0]:List Value)++rB 64 z6).toArray 53) (lf ab.zero [0,1,2,3,4] [] [6]))))
def gR(c:Cf):Nat:=(c.R*c.B*c.M-c.res)*c.C
abbrev wN(s:St):Fa:=⟨s.f0,s.f1,s.f2,s.f3,s.f4,s.f5,s.f6,s.f7⟩
abbrev mD:List UInt8:=dZ 64 0
def ie(c:Cf)(x:Mc)(s:St):Mc:=
 if bQ s.ln ((gR c:Nat):Int)=true then
  if s.k=1 then Hi c x s.ln.toNat s
  else if s.k=2 then rh c x s.ln.toNat 18446744073709551615 s
  else if s.m=0 then Hj c x s.ln.toNat s.d
  else rh c x s.ln.toNat s.m s
 else x
def Hl(c:Cf)(x:Mc)(s:St):An:=
 if bQ s.ln ((gR c:Nat):Int)=true then
  if s.k=1 then⟨b6 (bq c x.x (aA x.x s.ln.toNat)),0,cH c x.x (aA x.x s.ln.toNat)⟩
  else if s.k=2 then⟨cv c x.x s.ln.toNat 18446744073709551615,0,mD⟩
  else if s.m=0 then⟨30,0,mD⟩
  else⟨cv c x.x s.ln.toNat s.m,0,mD⟩
 else⟨30,0,mD⟩
def eY(c:Cf)(x:Mc)(s:St):Mc:=
 if sR s=true then
  if s.k=4 then{x with x:=lW c x.x,sc:=x.sc+1,st:=x.st+1}
  else if s.k=5 then if x.x.s.r.j.aa2=0 then{x with st:=x.st+1} else{x with x:=ic c x.x,st:=x.st+1}
  else if s.k=6 then{x with x:=Zq x.x,st:=x.st+1}
  else if s.k=7 then{x with x:=rc x.x,st:=x.st+1}
  else if s.k=8 then{x with x:={x.x with V:=nZ c x.x.V (wN s)},inj:=n1 c x.x (wN s) x.inj x.sc,st:=x.st+1}
  else ie c {x with st:=x.st+1} s
 else x
def gS(c:Cf)(x:Mc)(s:St):An:=
 if sR s=true then
  if s.k=4 then⟨b6 (bq c (jP c x.x) (aA (jP c x.x) x.x.cur)),(x.x.cur:Int),mD⟩
  else if s.k=5 then if x.x.s.r.j.aa2=0 then⟨51,0,mD⟩ else⟨0,0,mD⟩
  else if s.k=6 then⟨0,0,mD⟩
  else if s.k=7 then⟨0,(x.x.s.g.l.length:Int),mD⟩
  else if s.k=8 then⟨iw c x.x.V.D (wN s),0,mD⟩
  else Hl c x s
 else⟨60,0,mD⟩
structure StOk (s:St):Prop where
 d:s.d.length=64
 m:s.m<18446744073709551616
theorem WF(g gc gl gr gm gq gk gt gg gd ge go:Nat)(c:Cf)(x:Mc)(K A N:Nat)(hM:d8 c x K A N)(hA:A≤700000)(hN:N≤1000)(hK:K+260≤1000000000)(ht:x.x.s.time<1099511627776)(s:St)(hs:StOk s):aa eF 16 #[pt g 0,.agg (eSt s).toArray] [pk (br g gc gl gr gm gq gk gt gg gd ge go c x)] [0] (λ_=>[pk (br g gc gl gr gm gq gk gt gg gd ge go c (eY c x s))]) (λ_=> .agg (wK (gS c x s)).toArray):=by
 obtain⟨hd,hm⟩:=hs
 by_cases hR:sR s=true
 ·have hk:=Wd hR
  unfold eY gS
  rw[ALifp hR,ALifp hR]
  obtain⟨k,ln,d,m,f0,f1,f2,f3,f4,f5,f6,f7⟩:=s
  have hK3:K+3≤1000000000:=by omega
  by_cases k4:k=4
  ·subst k4;exact Ws g gc gl gr gm gq gk gt gg gd ge go c x K A N hM hA hN hK3 ln d hd m f0 f1 f2 f3 f4 f5 f6 f7 hR
  by_cases k5:k=5
  ·subst k5
   by_cases hb:x.x.s.r.j.aa2=0
   ·rw[ALifn (show ¬(5:Int)=4 by decide),ALifp rfl,ALifp hb,ALifn (show ¬(5:Int)=4 by decide),ALifp rfl,ALifp hb]
    exact Wu g gc gl gr gm gq gk gt gg gd ge go c x K A N hM hA hN hb ln d hd m f0 f1 f2 f3 f4 f5 f6 f7 hR
   ·rw[ALifn (show ¬(5:Int)=4 by decide),ALifp rfl,ALifn hb,ALifn (show ¬(5:Int)=4 by decide),ALifp rfl,ALifn hb]
    exact Wt g gc gl gr gm gq gk gt gg gd ge go c x K A N hM hA hN hK hb ln d hd m f0 f1 f2 f3 f4 f5 f6 f7 hR
  by_cases k6:k=6
  ·subst k6;exact Wv g gc gl gr gm gq gk gt gg gd ge go c x K A N hM hA hN ht ln d hd m f0 f1 f2 f3 f4 f5 f6 f7 hR
  by_cases k7:k=7
  ·subst k7;exact Ww g gc gl gr gm gq gk gt gg gd ge go c x K A N hM hA hN ln d hd m f0 f1 f2 f3 f4 f5 f6 f7 hR
  by_cases k8:k=8
  ·subst k8;exact Wx g gc gl gr gm gq gk gt gg gd ge go c x K A N hM hA hN ln d hd m f0 f1 f2 f3 f4 f5 f6 f7 hR
  rw[ALifn k4,ALifn k5,ALifn k6,ALifn k7,ALifn k8,ALifn k4,ALifn k5,ALifn k6,ALifn k7,ALifn k8]
  unfold ie Hl
  have hk2:1≤k∧k≤8:=hk
  by_cases hb:bQ ln ((gR c:Nat):Int)=true
  ·obtain⟨b1,b2⟩:=mq.1 hb
   obtain⟨n,rfl⟩: ∃n:Nat,ln=(n:Int):=⟨ln.toNat,(Int.toNat_of_nonneg b1).symm⟩
   have hn:n<gR c:=by omega
   rw[ALifp hb,ALifp hb]
   by_cases k1:k=1
   ·subst k1;exact Wy g gc gl gr gm gq gk gt gg gd ge go c x K A N hM hA hN hK3 n hn d hd m f0 f1 f2 f3 f4 f5 f6 f7 hR
   by_cases k2:k=2
   ·subst k2;exact Wz g gc gl gr gm gq gk gt gg gd ge go c x K A N hM hA hN hK3 n hn d hd m f0 f1 f2 f3 f4 f5 f6 f7 hR
   obtain rfl:k=3:=by omega
   by_cases hm0:m=0
   ·subst hm0
    exact WB g gc gl gr gm gq gk gt gg gd ge go c x K A N hM hA hN hK3 n hn d hd f0 f1 f2 f3 f4 f5 f6 f7 hR
   ·rw[ALifn (show ¬(3:Int)=1 by decide),ALifn (show ¬(3:Int)=2 by decide),ALifn hm0,ALifn (show ¬(3:Int)=1 by decide),ALifn (show ¬(3:Int)=2 by decide),ALifn hm0]
    exact WA g gc gl gr gm gq gk gt gg gd ge go c x K A N hM hA hN hK3 n hn d hd m f0 f1 f2 f3 f4 f5 f6 f7 hR hm hm0
  ·rw[ALifn hb,ALifn hb]
   have hb2:bQ ln ((gR c:Nat):Int)=false:=by simpa using hb
   by_cases k1:k=1
   ·subst k1;exact WC g gc gl gr gm gq gk gt gg gd ge go c x K A N hM hA hN hK3 ln hb2 d hd m f0 f1 f2 f3 f4 f5 f6 f7 hR
   by_cases k2:k=2
   ·subst k2;exact WD g gc gl gr gm gq gk gt gg gd ge go c x K A N hM hA hN hK3 ln hb2 d hd m f0 f1 f2 f3 f4 f5 f6 f7 hR
   obtain rfl:k=3:=by omega
   exact WE g gc gl gr gm gq gk gt gg gd ge go c x K A N hM hA hN hK3 ln hb2 d hd m f0 f1 f2 f3 f4 f5 f6 f7 hR
 ·unfold eY gS
  rw[ALifn hR,ALifn hR]
  exact Wq g gc gl gr gm gq gk gt gg gd ge go c x K A N hM hA hN s.k s.ln s.d hd s.m s.f0 s.f1 s.f2 s.f3 s.f4 s.f5 s.f6 s.f7 (by simpa [sR] using hR)
theorem d8.mono{c:Cf}{x:Mc}{K A N K' A' N':Nat}(h:d8 c x K A N)(hK:K≤K')(hA:A≤A')(hN:N≤N'):d8 c x K' A' N':=⟨h.ct.mono hK hA,h.il,ir h.jl hN,ir h.sl hN,ir h.sc hN,ir h.st hN⟩
theorem Hm{c:Cf}{i:Int}(h:bQ i ((gR c:Nat):Int)=true):i.toNat<(c.R*c.B*c.M-c.res)*c.C:=by
 have:=mq.1 h
 unfold gR at this
 omega
theorem WG(c:Cf)(y:Ct)(f:Fa)(l:List Ij)(sc:Nat):(n1 c y f l sc).length≤l.length+1:=by
 unfold n1
 cases iw c y.V.D f==0
 ·exact jh _
 ·exact Nat.le_of_eq jm
theorem WH{c:Cf}{x:Mc}{K A N:Nat}(h:d8 c x K A N){s:St}(hs:StOk s)(hK:K+3≤1000000000):d8 c (ie c x s) (K+3) (A+2) (N+1):=by
 have h0:d8 c x (K+3) (A+2) (N+1):=h.mono Om Om Om
 unfold ie
 split
 ·rename_i hb
  have hn:=Hm hb
  have up: ∀(l:List UInt8),l.length=64→∀k,(cI x.id ((s.ln.toNat:Nat):Int) l k).length=64:=λl hl k=>tx h.il _ hl k
  have mg: ∀m,(gH (x.id ((s.ln.toNat:Nat):Int)) s.d m).length=64:=λm=>(wn ..).trans (h.il _)
  have ls: ∀y:Sv,(x.sv++[y]).length≤N+1:=λy=>by rw[jm];exact jg h.sl
  split
  ·exact⟨GV h.ct hn _ hK,h.il,h0.jl,ls _,h0.sc,h0.st⟩
  ·split
   ·exact⟨AB h.ct hn hs.d _ hK,up _ (mg _),h0.jl,ls _,h0.sc,h0.st⟩
   ·split
    ·exact⟨AB h.ct hn hs.d _ hK,h.il,h0.jl,h0.sl,h0.sc,h0.st⟩
    ·exact⟨AB h.ct hn hs.d _ hK,up _ (mg _),h0.jl,ls _,h0.sc,h0.st⟩
 ·exact h0
theorem WJ{c:Cf}{x:Mc}{K A N:Nat}(h:d8 c x K A N){s:St}(hs:StOk s)(hK:K+260≤1000000000)(ht:x.x.s.time<1099511627776):d8 c (eY c x s) (K+260) (A+3) (N+1):=by
 have h0:d8 c x (K+260) (A+3) (N+1):=h.mono Om Om Om
 have h1: ∀{y:Ct},bC c y (K+260) (A+3)→d8 c {x with x:=y,st:=x.st+1} (K+260) (A+3) (N+1):=λg=>⟨g,h0.il,h0.jl,h0.sl,h0.sc,jg h.st⟩
 unfold eY
 split
 ·split
  ·exact⟨(Vr h.ct Om).mono Om Om,h0.il,h0.jl,h0.sl,jg h.sc,jg h.st⟩
  ·split
   ·split
    ·exact h1 h0.ct
    ·rename_i hb;exact h1 (VE h.ct hb hK)
   ·split
    ·exact h1 ((VF h.ct ht).mono Om Om)
    ·split
     ·exact h1 ((VG h.ct).mono Om Om)
     ·split
      ·have g:bC c {x.x with V:=nZ c x.x.V (wN s)} K A:=⟨h.ct.cf,h.ct.s,UM h.ct.D _,h.ct.gl,h.ct.vl,h.ct.nl,h.ct.ly,h.ct.run,h.ct.cur,h.ct.time⟩
       exact⟨g.mono Om Om,h0.il,ir (WG ..) (jg h.jl),h0.sl,h0.sc,jg h.st⟩
      ·have g:d8 c {x with st:=x.st+1} K A (N+1):=⟨h.ct,h.il,jw h.jl,jw h.sl,jw h.sc,jg h.st⟩
       have g2:=WH (x:={x with st:=x.st+1}) (N:=N+1) g hs Om
       have g3:(ie c {x with st:=x.st+1} s).sv.length≤N+1∧(ie c {x with st:=x.st+1} s).inj=x.inj∧(ie c {x with st:=x.st+1} s).sc=x.sc∧(ie c {x with st:=x.st+1} s).st=x.st+1:=by
        have ls: ∀y:Sv,(x.sv++[y]).length≤N+1:=λy=>by rw[jm];exact jg h.sl
        unfold ie
        split
        ·split
         ·exact⟨ls _,rfl,rfl,rfl⟩
         ·split
          ·exact⟨ls _,rfl,rfl,rfl⟩
          ·split
           ·exact⟨h0.sl,rfl,rfl,rfl⟩
           ·exact⟨ls _,rfl,rfl,rfl⟩
        ·exact⟨h0.sl,rfl,rfl,rfl⟩
       exact⟨g2.ct.mono Om Om,g2.il,by rw[g3.2.1];exact h0.jl,g3.1,by rw[g3.2.2.1];exact h0.sc,by rw[g3.2.2.2];exact jg h.st⟩
 ·exact h0
theorem WK(c:Cf)(x:Mc)(s:St):(ie c x s).x.s.time=x.x.s.time:=by
 unfold ie
 split
 ·split
  ·rfl
  ·split
   ·rfl
   ·split<;>rfl
 ·rfl
theorem WL(c:Cf)(x:Mc)(s:St):(eY c x s).x.s.time≤x.x.s.time+1:=by
 unfold eY
 split
 ·split
  ·exact jh _
  ·split
   ·split
    ·exact jh _
    ·exact jh _
   ·split
    ·exact Nat.le_refl _
    ·split
     ·exact jh _
     ·split
      ·exact jh _
      ·rw[WK];exact jh _
 ·exact jh _
def ri(M C r j:Nat):Nat:=bJ r (j/C/M) (j/C%M) (j%C)
theorem WM{B M C b w c:Nat}(hb:b<B)(hw:w<M)(hc:c<C):b*(M*C)+w*C+c<B*M*C∧(b*(M*C)+w*C+c)/C/M=b∧(b*(M*C)+w*C+c)/C%M=w∧(b*(M*C)+w*C+c)%C=c:=by
 have e:b*(M*C)+w*C+c=(b*M+w)*C+c:=by rw[Nat.add_mul,qB]
 have e1:(b*(M*C)+w*C+c)/C=b*M+w:=by
  rw[e,ka,qz Om,p4 hc,n7]
 have e2:(b*M+w)/M=b:=by rw[ka,qz Om,p4 hw,n7]
 have e3:(b*M+w)%M=w:=by rw[ka,qA,p6 hw]
 refine⟨?_,by rw[e1,e2],by rw[e1,e3],by rw[e,ka,qA,p6 hc]⟩
 rw[e]
 have h1:b*M+w+1≤B*M:=by
  have:(b+1)*M≤B*M:=po M hb
  rw[kP] at this
  omega
 have h2:(b*M+w+1)*C≤B*M*C:=po C h1
 rw[kP] at h2
 omega
theorem WN{B M C r b w c:Nat}(hb:b<B)(hw:w<M)(hc:c<C):((na (B*M*C)).map (ri M C r))[b*(M*C)+w*C+c]? =some (bJ r b w c):=by
 obtain⟨h1,h2,h3,h4⟩:=WM hb hw hc
 rw[List.getElem?_map,List.getElem?_range h1,Option.map_some]
 unfold ri
 rw[h2,h3,h4]
theorem WO(p0 p1 p2 p3:Nat)(h0:p0<8)(h1:p1<16)(h2:p2<1024)(h3:p3<64):aa eF 102 #[.agg #[iN p0,iN p1,iN p2,iN p3]] [] [] N0 (λ_=>i6 ((bJ p0 p1 p2 p3:Nat):Int)):=by
 have:=E1 (p0:Int) p1 p2 p3 Om Om Om Om Om Om Om Om
 rwa [vK] at this
theorem WP(b1 b2 R S B M C r:Nat)(hG:f9 R S B M C)(hr:r<R+S):fy 5 eF 101 #[pt b1 0,pt b2 0] (λ(i:Nat)=>#[iN i]) ((na (B*M*C)).map (ri M C r)) (rj [[(b1,.cells #[iN R,iN S,iN B,iN M,iN C] 23 (0,0))],[(b2,.cells #[iN r] 3 (0,0))]]):=by
 have hb5:=hG.bd
 have h8:=hb5.r8
 have h16:=hb5.b16
 have h10:=hb5.m10
 have h64:=hb5.c64
 refine gi (KO:=[[(b1,.cells #[iN R,iN S,iN B,iN M,iN C] 23 (0,0))],[(b2,.cells #[iN r] 3 (0,0))]]) Tryz.func101 (λlY JY JX WI RI hJ hY hI=>?_)
 refine rF [(0,.l 0),(1,.l 1),(3,.c [] [] (aa.v ((sP R S B M C hG (r:Int) 0 0 0)) λ_=>ALca Value.bool (show(hold R S B M C (r:Int) 0 0 0)=true from(by exact(gZ.hold (p1:=0) (p2:=0) (p3:=0) ⟨hr,hb5.b1,hb5.m1,hb5.c1⟩)))))] 11 (r0 [(1,.l 0)] [(13,iN B),(14,i6 0)] [] ?_)
 refine kk (λb=>b≤B) (λb=>[(14,iN b)]) (λ_ L=>L) (λb=>B-b) (λb=>b*(M*C)) 0 Om (by(rw[nN]);exact hI) Kr Kr (λb R5 W6 hk3 hI4=>?_)
 refine r0 [] [(15,.bool (decide ((b:Int)<(B:Int))))] [] ?_
 refine cj (b:Int) (B:Int) (λh8 dh8=>?_) λh8 dh8=>?_
 ·refine r0 [] [(4,iN b)] [] ?_
  refine r0 [(1,.l 0)] [(18,iN M),(19,i6 0)] [] ?_
  refine kk (λw=>w≤M) (λw=>[(19,iN w)]) (λ_ L=>L) (λw=>M-w) (λw=>b*(M*C)+w*C) 0 Om (by(rw[nN,n7]);exact hI4) Kr Kr (λw R13 W14 hk11 hI12=>?_)
  refine r0 [] [(20,.bool (decide ((w:Int)<(M:Int))))] [] ?_
  refine cj (w:Int) (M:Int) (λh16 dh16=>?_) λh16 dh16=>?_
  ·refine r0 [] [(5,iN w)] [] ?_
   refine r0 [(1,.l 0)] [(23,iN C),(24,i6 0)] [] ?_
   refine kk (λc=>c≤C) (λc=>[(24,iN c)]) (λ_ L=>L) (λc=>C-c) (λc=>b*(M*C)+w*C+c) 0 Om hI12 Kr Kr (λc R21 W22 hk19 hI20=>?_)
   refine r0 [] [(25,.bool (decide ((c:Int)<(C:Int))))] [] ?_
   refine cj (c:Int) (C:Int) (λh24 dh24=>?_) λh24 dh24=>?_
   ·refine r0 [] [(6,iN c)] [] ?_
    refine iy hJ hY hI20 7 (λ_=>[(1,.l 1),(6,.c [] [] (WO r b w c Om Om Om Om))]) (λ_=>[(27,.func (.yield lY) #[] #[]),(33,i6 ((bJ r b w c:Nat):Int))]) [] (λ_ L=>L) N0 [0,1] (WN Om Om Om) (λq26 R27 W28 hI29=>?_)
    refine cF _ rfl (r0 [(0,ad c 1)] [(24,i6 ((c+1:Nat):Int))] [24] ?_)
    exact jc (c+1) Om hI29 Om Kr [0,1] Kr
   obtain rfl:C=c:=by omega
   refine km ?_
   refine r0 [(0,ad w 1)] [(19,i6 ((w+1:Nat):Int))] [19] ?_
   exact jc (w+1) Om (by(rw[kP,←Nat.add_assoc]);exact hI20) Om Kr [0,1] Kr
  obtain rfl:M=w:=by omega
  refine km ?_
  refine r0 [(0,ad b 1)] [(14,i6 ((b+1:Nat):Int))] [14] ?_
  exact jc (b+1) Om (by(rw[kP]);exact hI12) Om Kr [0,1] Kr
 obtain rfl:B=b:=by omega
 refine km ?_
 exact lH hJ hI4 (by rw[qx,pD,qB]) [] [0,1]
theorem aae{q0 q1 q2 c p:Nat}(hp:p*64=bJ q0 q1 q2 0):(p:Int)*2^6+(c:Int)=((bJ q0 q1 q2 c:Nat):Int):=by unfold bJ at hp⊢;omega
theorem ZQ{P:Program}{T:TypeId}{x y:Operand}{w:World}{q0 q1 q2 c p:Nat}(hp:p*64=bJ q0 q1 q2 0)(hc:c<64)(hb:p*64<8388608):(ar .or T x y (.int .i64 ((p:Int)*2^6)) (.int .i64 (c:Int))).run P w= .ok (.int .i64 ((bJ q0 q1 q2 c:Nat):Int)) w:=by
 have h1:=aae (c:=c) hp
 rw[←h1]
 exact sr 6 64 rfl Om Om Om Om Om
theorem aaf(b1 b2 R S B M C p q0 q1 q2:Nat)(hG:f9 R S B M C)(hp:p*64=bJ q0 q1 q2 0)(hq:gZ R S B M C q0 q1 q2 0):fy 5 eF 100 #[pt b1 0,pt b2 0] (λ(i:Nat)=>#[iN i]) ((na C).map (bJ q0 q1 q2)) (rj [[(b1,.cells #[iN p] 3 (0,0))],[(b2,.cells #[iN R,iN S,iN B,iN M,iN C] 23 (0,0))]]):=by
 have hb5:=hG.bd
 have h64:=hb5.c64
 have hpl:p*64<8388608:=by rw[hp];exact zu hb5 hq
 refine gi (KO:=[[(b1,.cells #[iN p] 3 (0,0))],[(b2,.cells #[iN R,iN S,iN B,iN M,iN C] 23 (0,0))]]) Tryz.func100 (λlY JY JX WI RI hJ hY hI=>?_)
 refine rF [(0,.l 0),(1,.t (tk (show Value.bool (decide ((p:Int)<0))= .bool false from ALca Value.bool (by exact bj Om)))),(3,.l 0),(4,.t (tk (show Value.bool (decide (131072≤(p:Int)))= .bool false from ALca Value.bool (by exact bj Om))))] 12 (r0 [(1,.l 1)] [(14,iN C),(15,i6 0)] [] ?_)
 refine kk (λk=>k≤C) (λk=>[(15,iN k)]) (λ_ L=>L) (λk=>C-k) (λk=>k) 0 Om hI Kr Kr (λk R5 W6 hk3 hI4=>?_)
 refine r0 [] [(16,.bool (decide ((k:Int)<(C:Int))))] [] ?_
 refine cj (k:Int) (C:Int) (λh8 dh8=>?_) λh8 dh8=>?_
 ·refine r0 [] [(4,iN k)] [] ?_
  refine rr (λ_=>[(0,.m (ls 1 ([iN R,iN S,iN B,iN M,iN C]))),(1,.m (ld 0 (iN p))),(2,.t (tv (ar .shl 3 (.tmp 20) (.const (u6 6)) (iN p) (u6 6)) (λ_=>gb 6 Dc Om Om))),(4,.t (tv (ar .or 3 (.tmp 21) (.tmp 22) (i6 ((p:Int)*2^6)) (iN k)) (λ_=>ZQ hp Om hpl))),(5,.c [] [] (s8 hG (⟨hq.h0,hq.h1,hq.h2,Om⟩:gZ R S B M C q0 q1 q2 k))),(9,.m (al 2)),(10,.s 2)]) (λ_=>[(6,i6 0)]) [] (λq10 L=>L++[ob ((q10 9).abd 0) #[iN q0,iN q1,iN q2,iN k] 46]) λq10=>?_
  refine iy hJ hY hI4 8 (λ_=>[(4,.l 0),(5,.t (tv (ar .shl 3 (.tmp 31) (.const (u6 6)) (iN p) (u6 6)) (λ_=>gb 6 Dc Om Om))),(7,.t (tv (ar .or 3 (.tmp 32) (.tmp 33) (i6 ((p:Int)*2^6)) (iN k)) (λ_=>ZQ hp Om hpl)))]) (λ_=>[(29,.bool false),(30,.func (.yield lY) #[] #[]),(34,i6 ((bJ q0 q1 q2 k:Nat):Int))]) [] (λ_ L=>L) (λ_=>[ob ((q10 9).abd 0) #[iN q0,iN q1,iN q2,iN k] 46]) [0,1,2] (o4 Om) (λq11 R12 W13 hI14=>?_)
  refine cF _ rfl (r0 [(0,ad k 1)] [(15,i6 ((k+1:Nat):Int))] [15] ?_)
  exact jc (k+1) Om hI14 Om Kr [0,1] Kr
 obtain rfl:C=k:=by omega
 refine km ?_
 exact lH hJ hI4 (by rw[qx,pD]) [] [0,1]
theorem aag(R S B M C p:Nat):aa eF 65 #[.agg #[iN R,iN S,iN B,iN M,iN C],iN p] [] [] (λE=>[ob (E.abd 0) #[iN p] 3,ob (E.abd 1) #[iN R,iN S,iN B,iN M,iN C] 23]) (λE=> .func (.func 100) #[] #[pt ((E.abd 0)) 0,pt ((E.abd 1)) 0]):=by
 refine fG Tryz.func65 λw cs=>?_
 exact ra (λq1=>[(2,pt (B0 q1) 0),(3,pt (B1 q1) 0),(4,.nilFunc)]) (λq1=>[ob (B0 q1) #[iN R,iN S,iN B,iN M,iN C] 23,ob (B1 q1) #[iN p] 3]) λq1=>r0 [] [(4,.func (.func 100) #[] #[pt (B1 q1) 0,pt (B0 q1) 0])] [4] (lf (.l [(q1 1).abd 0,(q1 0).abd 0] [] []) [1,0] [] [])
theorem WQ(R S B M C r:Nat):aa eF 66 #[.agg #[iN R,iN S,iN B,iN M,iN C],iN r] [] [] (λE=>[ob (E.abd 0) #[iN R,iN S,iN B,iN M,iN C] 23,ob (E.abd 1) #[iN r] 3]) (λE=> .func (.func 101) #[] #[pt ((E.abd 0)) 0,pt ((E.abd 1)) 0]):=by
 refine fG Tryz.func66 λw cs=>?_
 exact ra (λq1=>[(2,pt (B0 q1) 0),(3,pt (B1 q1) 0),(4,.nilFunc)]) (λq1=>[ob (B0 q1) #[iN R,iN S,iN B,iN M,iN C] 23,ob (B1 q1) #[iN r] 3]) λq1=>r0 [] [(4,.func (.func 101) #[] #[pt (B0 q1) 0,pt (B1 q1) 0])] [4] (lf (.l [(q1 0).abd 0,(q1 1).abd 0] [] []) [0,1] [] [])
section
variable {P:Program} {m m' l lr:Nat} {w:World} {Rp:Ending→World→Prop}
theorem WS{f:FuncId}{t:Array Value}{a b:Code}(h:RoundIn Fence.wide m P l f t a b w Rp):RoundIn Fence.wide m' P l f t a b w Rp:=⟨h.1,λc cs _=>h.2 c cs (room_wide _)⟩
theorem WT{f:FuncId}{t:Array Value}{a b:Code}(h:RoundIn Fence.wide m P l f t a b w Rp):RoundIn (Fence.wide.inRound lr) m' P l f t a b w Rp:=⟨h.1,λc cs _=>h.2 c cs (room_wide _)⟩
theorem WU{args:Array Value}(h:YieldAt Fence.wide m P l args w Rp):YieldAt Fence.wide m' P l args w Rp:=
 let ⟨fn,t,a,b,h1,h2⟩:=h
 ⟨fn,t,a,b,h1,WS h2⟩
end
theorem o1.lv{α:Type}{n n':Nat}{P:Program}{g:Nat}{lb:Array Value}{encs:α→Array Value}{xs:List α}{K:Nat→Prop}{St:(Nat→Prop)→World→Prop}(h:o1 Fence.wide n P g lb encs xs K St):o1 Fence.wide n' P g lb encs xs K St:=
 λl J Jx W O h1 h2 h3 h4 hy h0=>callsIn_wide.2 (callsIn_wide.1 (h l J Jx W O h1 h2 h3 h4 (λi x O1 W1 a b c=>WU (hy i x O1 W1 a b c)) h0))
def Hn{α:Type}(P:Program)(l:Nat)(J Jx:Nat→(Nat→Prop)→World→Prop)(KO:aw)(W0:World)(encs:α→Array Value)(xs:List α):Prop:=
 ∀i x O1 W1,xs[i]? =some x→J i O1 W1→W0.heap.size≤W1.heap.size→YieldAt Fence.wide 4 P l (encs x) W1 λe W'=>∃O',ik (λb=>∃x∈KO,x.1=b) O1 O' W1 W'∧((e= .returned (.bool true)∧J (i+1) O' W')∨(e= .returned (.bool false)∧Jx (i+1) O' W'))
def tH(P:Program)(fn:Func)(J Jx:Nat→(Nat→Prop)→World→Prop)(N:Nat):Exit→Act→World→Prop:=
 bodyPostM Fence.wide 5 P fn λe W'=>(∃v,e= .returned v)∧((∃O',J N O' W')∨∃i,i<N∧∃O',Jx (i+1) O' W')
section
variable {α:Type} {P:Program} {gf:Nat} {fn:Func} {lb:Array Value} {encs:α→Array Value} {xs:List α} {KO:List aw} {J Jx:Nat→(Nat→Prop)→World→Prop} {W0:World} {l j:Nat}
theorem WV(hf:P.funcs[gf]? =some fn)(h: ∀l J Jx W0 R,gU J→gU Jx→Hn P l J Jx KO.flatten W0 encs xs→Hid (fA J KO W0 0 R W0)→Go Fence.wide 5 P R W0 (tH P fn J Jx xs.length) [.c (kK fn)] ⟨fn.ntmps,ot 0 (.func (.yield l) #[] #[]::lb.toList)⟩ (KO.map .c) [])
  (hc:(fn.body.isSome,Nat.ble (lb.size+1) fn.ntmps)=(true,true):=by kernel_rfl):fy 5 P gf lb encs xs KO.flatten:=by
 intro l J Jx W O hSt hJ hJx hO hY h0
 have hIS:fX J KO.flatten W [] 0 W:=⟨⟨O,h0,λ_ h=>by simp at h,hO⟩,Nat.le_refl _,by simpa using hSt⟩
 obtain⟨R,hI,hO2⟩:=jq.start (jq.zero hIS)
 obtain⟨c,hb⟩:=Option.isSome_iff_exists.1 (ALca (·.1) hc)
 have hn:lb.size+1≤fn.ntmps:=Nat.le_of_ble_eq_true (ALca (·.2) hc)
 refine callsIn_of_wp_marks hf hb trivial ?_ rfl
 have hz:(#[Value.func (.yield l) #[] #[]]++lb).size=lb.size+1:=by simp;omega
 have h1:=(h l J Jx W R hJ hJx hY hI).out {tmps:=(#[Value.func (.yield l) #[] #[]]++lb)++Array.replicate (fn.ntmps-(#[Value.func (.yield l) #[] #[]]++lb).size) undef,defers:=[]} W ⟨by rw[Array.size_append,hz,Array.size_replicate];show _=fn.ntmps;omega,λi v hv=>?_,rfl⟩ (by simpa using hO2.out)
 ·rw[show kK fn=c by unfold kK;rw[hb];rfl] at h1
  exact h1
 ·obtain⟨_,h2⟩:=se hv
  rw[Nat.sub_zero] at h2
  have h3:i<lb.size+1:=by have:=(List.getElem?_eq_some_iff.1 h2).1;simpa using this
  have h4:(#[Value.func (.yield l) #[] #[]]++lb)[i]? =some v:=by rw[←Array.getElem?_toList];simpa using h2
  rw[Array.getD_eq_getD_getElem?,Array.getElem?_append_left (by rw[hz];exact h3),h4]
  rfl
theorem wO{α β:Type}(f:α→β): ∀l:List α,(l.map λx=>[f x]).flatten=l.map f
 | []=>rfl
 | x::l=>by rw[List.map_cons,List.flatten_cons,wO f l];rfl
theorem AF{R:List Nat}{base W:World}(h:aD R base [] W):cD R base [] W:=by
 obtain⟨cs,hs,hO⟩:=h.conc
 obtain rfl:=o0 hs
 exact hO
theorem Ho{N:Nat}{b:Act}{W:World}{Ds:List Nat}(hres:fn.results.toList=[])(hd:b.defers=Ds.map ke)(hm:Has (Ds.map dX) W)(h: ∀W',cD ((Ds.map dX).map (·.1)) W [] W'→(∃O',J N O' W')∨∃i,i<N∧∃O',Jx (i+1) O' W'):tH P fn J Jx N .ret b W:=by
 show LeavesInM Fence.wide 5 P fn b.tmps _ b.defers .returning W
 rw[hd]
 have hO:aD ((Ds.map dX).map (·.1)) W ([]++Ds.map mk) W:=by
  have h1:=aD.start (w:=W) (rO Ds) (by rw[wO];exact hm)
  rw[wO] at h1
  exact h1
 obtain⟨R1,OC,OW⟩:=aD.seg (L:=[]) hO
 exact BD OC OW [] (by rw[hres];rfl) λW' hW=>⟨⟨_,rfl⟩,h W' (AF hW)⟩
structure AI (J:Nat→(Nat→Prop)→World→Prop) (K Lo:aw) (W0:World) (j:Nat) (O1:Nat→Prop) (V:World):Prop where
 ex: ∃O,J j O V∧(∀x∈Lo,¬O x.1)∧∀b,O b→O1 b
 own: ∀x∈K++Lo,O1 x.1
 lt: ∀b,O1 b→b<V.heap.size
 sz:W0.heap.size≤V.heap.size
 has:Has (K++Lo) V
theorem AI.turn{K Lo:aw}{O1:Nat→Prop}{V V':World}(hJ:gU J)(h:AI J K Lo W0 j O1 V)(t:ff (λb=>¬O1 b) V V'):AI J K Lo W0 j O1 V':=
 let ⟨O,h1,h2,h3⟩:=h.ex
 ⟨⟨O,hJ _ O V V' h1 (t.mono λb hb ho=>hb (h3 b ho)),h2,h3⟩,h.own,λb hb=>Nat.lt_of_lt_of_le (h.lt b hb) t.size,ir h.sz t.size,⟨λx hx=>t.heap (λe=>e (h.own x hx)) (h.has.obj x hx),h.has.nd⟩⟩
theorem cD.turnA{R:List Nat}{base W:World}{L:aw}{S:Nat→Prop}(h:cD R base L W)(hR: ∀b,b<base.heap.size→b∈R→¬S b→W.heap[b]? =base.heap[b]?):ff S base W:=
 ⟨h.os,h.tape,h.output,h.size,λb hb hn=>if hx:b∈R then hR b hb hx hn else h.far b hb hx⟩
theorem WW{R:List Nat}{base:World}{Q:Exit→Act→World→Prop}{S:List It}{sz:Nat}{es:Fe}{L:ah}{A:World→Prop}{vs:Array Value}{lr:Nat}(N:Nat)(hs:bI→List (Nat×cS P))(nw:bI→Fe)(dr:List Nat)(Le:bI→ah→ah)
  (hyld: ∀η W,aD R base (Le η L) W→YieldAt Fence.wide 4 P l vs W λe W'=>(e= .returned (.bool true)∧A W')∨(e= .returned (.bool false)∧∀b,Q .ret b W'))
  (hk: ∀η W',A W'→Go (Fence.wide.inRound lr) 3 P [] W' Q (bT S) ⟨sz,(ja P (ax S) sz ((ax S).drop (N+1)) ((jt S N,.bool true)::(nw η++eP dr es))).1⟩ [] [])
  (he: ∀η,((mM S,true),(fV ((ax S).take N) ⟨sz,es⟩ (tP N S ⟨sz,es⟩ L (mR Le L) hs) η 0 ((ax S).take N) (ou N S ⟨sz,es⟩ L hs η)).map bi.lhs,uQ (fB S) (ax S) N (λk=>(kf (fB S) ((ax S).take N)).getD k []),(na (mR Le L)).map (λp=>(tP N S ⟨sz,es⟩ L (mR Le L) hs).at η p ((ax S).take N).length),(nw η).map (λx=>mj ((ax S).take N) ⟨sz,es⟩ (tP N S ⟨sz,es⟩ L (mR Le L) hs) η x.1),nz ((ax S).take N) es (nw η) dr)=
   ((true,true),(fV ((ax S).take N) ⟨sz,es⟩ (tP N S ⟨sz,es⟩ L (mR Le L) hs) η 0 ((ax S).take N) (ou N S ⟨sz,es⟩ L hs η)).map bi.rhs,true,(Le η L).map some,(nw η).map (λx=>some x.2),true):=by intro _;kernel_rfl)
  (hy: ∀η,(uS S N l sz (nw η++eP dr es) vs.toList,(ja P (ax S) sz ((ax S).drop (N+1)) ((jt S N,.bool true)::(nw η++eP dr es))).2.map bi.lhs,(ja P (ax S) sz ((ax S).drop (N+1)) ((jt S N,.bool false)::(nw η++eP dr es))).2.map bi.lhs,sn 10 (bT S) (ja P (ax S) sz ((ax S).drop (N+1)) ((jt S N,.bool false)::(nw η++eP dr es))).1)=
   ((true,some vs.toList,some (.func (.yield l) #[] #[])),(ja P (ax S) sz ((ax S).drop (N+1)) ((jt S N,.bool true)::(nw η++eP dr es))).2.map bi.rhs,(ja P (ax S) sz ((ax S).drop (N+1)) ((jt S N,.bool false)::(nw η++eP dr es))).2.map bi.rhs,true):=by intro _;kernel_rfl)
  (hm:P.follows .mixedOrders=true:=by kernel_rfl):Go (Fence.wide.inRound lr) 3 P R base Q S ⟨sz,es⟩ L []:=by
 refine CE hm N hs nw dr Le (λη b W hb hO=>?_) he
 have hy1:=ALca (λx=>x.1) (hy η)
 have hy2:=ALca (λx=>x.2.1) (hy η)
 have hy3:=ALca (λx=>x.2.2.1) (hy η)
 have hy4:=ALca (λx=>x.2.2.2) (hy η)
 simp only at hy1 hy2 hy3 hy4
 obtain⟨fn',tmps',asg,bod,hrun,hround⟩:=hyld η W (by simpa using hO)
 unfold uS at hy1
 split at hy1
 ·rename_i o ho
  split at hy1
  ·rename_i xo ags ats hop
   simp only[Prod.mk.injEq,Bool.and_eq_true,Option.some.injEq] at hy1
   obtain⟨⟨⟨⟨⟨g1,g2⟩,g3⟩,g4⟩,g5⟩,g6,g7⟩:=hy1
   obtain⟨d,hd⟩:=Option.isSome_iff_exists.1 g4
   have hyd:jt S N=d:=by unfold jt;rw[ho];simp [hd]
   have hdr:(ax S).drop N=o::(ax S).drop (N+1):=by
    obtain⟨hlt,e⟩:=List.getElem?_eq_some_iff.1 (show(ax S)[N]? =some o from ho)
    rw[List.drop_eq_getElem_cons hlt,e]
   rw[hdr]
   have hw:Region.wanted o (yielded (ax S).toArray b.tmps)=true:=x8 hb g1
   unfold wpListIn
   rw[ALifp hw]
   have hxo:b.eval xo= .func (.yield l) #[] #[]:=(nE hb g2).trans g7
   have hag:ags.map b.eval=vs:=by
    apply Array.toList_inj.1
    rw[Array.toList_map,←g6]
    exact List.map_congr_left λq hq=>nE hb (List.all_eq_true.1 g3 q hq)
   have hrun2:(execOp b.eval o).run P W= .ok (.round l fn' tmps' asg bod) W:=by
    unfold execOp
    simp only[hop,resolve,hxo,Deferred.ofValue,Sem.run_bind,Sem.run_pure,oG,invoke]
    rw[hag]
    simpa using hrun
   unfold Oper.wpIn
   refine⟨λ_ _=>trivial,?_⟩
   rw[Oper.semAt_plain (Fence.wide.inRound lr) _ o (λc hc=>by rw[hop] at hc;cases hc),hrun2,Oper.uponIn_round]
   refine⟨λ_=>by omega,(WT hround).mono ?_⟩
   rintro e W' (⟨rfl,h3⟩ | ⟨rfl,h3⟩)
   ·rw[hyd] at hy2
    have h4:=hk η W' h3
    rw[hyd] at h4
    show wpListIn (Fence.wide.inRound lr) 3 P (ax S).toArray _ ((ax S).drop (N+1)) (b.put o.dst (.bool true)) W'
    rw[hd]
    have h5:d<sz:=by rw[hd] at g5;exact Nat.blt_eq▸g5
    exact sm (hb.put h5 _) (bi.all hy2) λb' hb'=>h4.out b' W' hb' (yb W')
   ·rw[hyd] at hy3 hy4
    show wpListIn (Fence.wide.inRound lr) 3 P (ax S).toArray _ ((ax S).drop (N+1)) (b.put o.dst (.bool false)) W'
    rw[hd]
    have h5:d<sz:=by rw[hd] at g5;exact Nat.blt_eq▸g5
    exact sm (hb.put h5 _) (bi.all hy3) λb' hb'=>x9 10 hy4 hb' (h3 b')
  ·simp at hy1
 ·simp at hy1
theorem Hp{F:Fence}{n:Nat}{R:List Nat}{base:World}{Q:Exit→Act→World→Prop}{S:List It}{a:Sl}{L:ah}{Ds:List Nat}(h: ∀b W,Fr a Ds b→aD R base (L++Ds.map mk) W→Q .normal b W)(hS:(nf S).isEmpty=true:=by kernel_rfl):Go F n P R base Q S a L Ds:=by
 refine⟨λb W hb hO=>dR 1000 S ?_⟩
 rw[show dz 1000 S=[] from List.isEmpty_iff.1 hS]
 exact h b W hb hO
end
end Go.Proofs.YtbcodenfkijdnaaGreat.E
namespace Go.Proofs.YtbcodenfkijdnaaGreat.E
open Go Go.RowKit Go.Shelf
open List renaming mem_append_right→dZ,append_assoc→ir,flatten_append→jg,mem_append_left→jm,map_append→ka
open Nat renaming lt_of_lt_of_le→eF,le_trans→jw
open Classical renaming choose→jh
section
variable {α:Type} {P:Program} {fn:Func} {encs:α→Array Value} {xs ys:List α} {KO LO KI:List aw} {J Jx:Nat→(Nat→Prop)→World→Prop} {W0:World} {l j:Nat} {R:List Nat} {base:World} {Q:Exit→Act→World→Prop} {S:List It} {sz:Nat} {es:Fe} {L:ah} {Ds:List Nat}
theorem WX{K A M:aw}{d:Nat×Obj}(h:(K++(A++M)).Pairwise λx y=>x.1≠y.1)(hd: ∀x∈K++(A++M),x.1≠d.1):(K++(A++d::M)).Pairwise λx y=>x.1≠y.1:=by
 have hp:List.Perm (K++(A++d::M)) (d::(K++(A++M))):=by
  rw[←ir,←ir]
  exact List.perm_middle
 refine(List.Perm.pairwise_iff (λ{x y} h=>Ne.symm h) hp).2 (List.pairwise_cons.2 ⟨λx hx=>Ne.symm (hd x hx),h⟩)
theorem WY{g2:Nat}{lb2:Array Value}(ea:α→Fe)(hJ:gU J)(hJx:gU Jx)(hY:Hn P l J Jx KO.flatten W0 encs xs)(hI:Hid (fA J KO W0 j R base))(hit:fy 5 P g2 lb2 encs ys KI.flatten)(eg:Enters P g2)
  (hys: ∀i y,ys[i]? =some y→xs[j+i]? =some y) (hQ: ∀b W,tH P fn J Jx xs.length .ret b W→Q .ret b W) (hres:fn.results.toList=[])
  (ps:List Nat) (hKI: ∀x∈KI.flatten,x∈LO.flatten) (hKn:KI.flatten.Sublist LO.flatten)
  (hasg: ∀(lr:Nat) (y:α) (R1:List Nat) (W1:World) (Q1:Exit→Act→World→Prop),(∀b W,Fr ⟨sz,ea y++eP [] (gV (cr S) (encs y).toList++es)⟩ [] b→aD R1 W1 [] W→Q1 .normal b W)→Go (Fence.wide.inRound lr) 3 P R1 W1 Q1 [.c (jZ S)] ⟨sz,gV (cr S) (encs y).toList++es⟩ [] [])
  (hbod: ∀(lr:Nat) (y:α) (R1:List Nat) (W1:World) (Q1:Exit→Act→World→Prop),(∀W,aD R1 W1 ((KO++LO).map .c) W→YieldAt Fence.wide 4 P l (encs y) W λe W'=>(e= .returned (.bool true)∧∀b W'',aD [] W' [] W''→Q1 .normal b W'')∨(e= .returned (.bool false)∧∀b,Q1 .ret b W'))→Go (Fence.wide.inRound lr) 3 P R1 W1 Q1 [.c (lG S)] ⟨sz,ea y++eP [] (gV (cr S) (encs y).toList++es)⟩ ((KO++LO).map .c) [])
  (hk: ∀(D:Nat) (R':List Nat) (W':World),Hid (fA J KO W0 (j+ys.length) R' W')→Go Fence.wide 5 P R' W' Q (bT S) ⟨sz,es⟩ ((KO++LO).map .c) (D::Ds))
  (hps: ∀x,(encs x).size=(cr S).length)
  (hc:(nD S,(⟨sz,es⟩:Sl).ev (gB S),(cr S).all (Nat.blt · sz),dx (ps.map λp=>[p]).flatten,(ps.map λp=>[p]).map λg=>g.map λp=>L[p]?)=(true,.func (.func g2) #[] lb2,true,true,(((KO++LO).map az.c).map λx=>[x]).map λN=>N.map some):=by kernel_rfl)
  (hkn:(match gB S with | .tmp i=>(lk es i).isSome | _=>true)=true:=by kernel_rfl):Go Fence.wide 5 P R base Q S ⟨sz,es⟩ L Ds:=by
 have c1:=ALca (λx=>x.1) hc
 have c2:=ALca (λx=>x.2.1) hc
 have c3:=ALca (λx=>x.2.2.1) hc
 have c4:=ALca (λx=>x.2.2.2) hc
 simp only at c1 c2 c3 c4
 refine⟨λb W hb hO=>dR 1000 S ?_⟩
 rw[show dz 1000 S=_ from xX c1]
 show(Code.rangeFunc (gB S) (cr S).toArray (jZ S) (lG S)).wpIn Fence.wide 5 P (dg Fence.wide 5 P Q (bT S)) b W
 have hg:b.eval (gB S)= .func (.func g2) #[] lb2:=by
  rw[hb.ev λi hi=>by rw[hi] at hkn;exact hkn]
  exact c2
 have hO1:aD R base (KO.map .c++(LO.map .c++Ds.map mk)) W:=by
  have h:=hO.under (L':=(KO++LO).map .c) λh=>h.pick ps _ c4
  rwa [ka,ir] at h
 obtain⟨ds,hds,hIS⟩:=fA.step hI hJ hO1
 have e9:ds.flatten=LO.flatten++Ds.map dX:=by
  obtain⟨d1,d2,rfl,h1,h2⟩:=og hds
  rw[jg,r9 h1,qc h2]
 rw[e9] at hIS
 obtain⟨Lo,hLo⟩: ∃Lo,LO.flatten++Ds.map dX=Lo:=⟨_,rfl⟩
 rw[hLo] at hIS
 obtain⟨O,hO0,hO2,hO3⟩:=hIS.ex
 have hHas:=hIS.has
 have LoL: ∀x∈LO.flatten,x∈Lo:=λx hx=>by rw[←hLo];exact jm _ hx
 have kiL: ∀x∈KI.flatten,x∈Lo:=λx hx=>LoL x (hKI x hx)
 have hltW: ∀x∈KO.flatten++Lo,x.1<W.heap.size:=λx hx=>(Array.getElem?_eq_some_iff.1 (hHas.obj x hx)).1
 have ndKI:KI.flatten.Pairwise λx y=>x.1≠y.1:=by
  have h1:=(List.pairwise_append.1 hHas.nd).2.1
  rw[←hLo] at h1
  exact(List.pairwise_append.1 h1).1.sublist hKn
 have hA0:AI J KO.flatten Lo W0 (j+0) (λb=>b<W.heap.size) W:=⟨⟨O,hO0,hO2,hO3⟩,hltW,λ_ h=>h,hIS.sz,hHas⟩
 refine BF (F:=Fence.wide) (n:=5) rfl Om hg trivial eg (o1.lv (n':=4) hit) (λb=>b<W.heap.size) ?_ (λ_ h=>h) ?_ (λx=>by rw[hps x];simp) (λi O1 V=>AI J KO.flatten Lo W0 (j+i) O1 V) (λc i O1 V=>c= .ret∧AI Jx KO.flatten Lo W0 (j+i) O1 V) (λi O1 V V' h t=>h.turn hJ t) (λc i O1 V V' h t=>⟨h.1,h.2.turn hJx t⟩) hA0 ?_ ?_ ?_
 ·intro V hV O1 _
  exact⟨λx hx=>(hV x.1 (hltW x (dZ _ (kiL x hx)))).trans (hHas.obj x (dZ _ (kiL x hx))),ndKI⟩
 ·rintro b ⟨x,hx,rfl⟩
  exact hltW x (dZ _ (kiL x hx))
 ·intro lr i y O1 V hy hsz hA
  have hsz2:(encs y).toList.length=(cr S).length:=by rw[Array.length_toList];exact hps y
  have hlt: ∀p∈cr S,p<b.tmps.size:=λp hp=>by rw[hb.size];exact Nat.blt_eq▸List.all_eq_true.1 c3 p hp
  have hfr:Fr ⟨sz,gV (cr S) (encs y).toList++es⟩ [] {tmps:=iE b.tmps (cr S).toArray (encs y),defers:=[]}:=by
   have ee:encs y=(encs y).toList.toArray:=by simp
   refine⟨?_,λi v hv=>?_,rfl⟩
   ·show(iE b.tmps (cr S).toArray (encs y)).size=sz
    rw[ee,uP];exact hb.size
   ·show(iE b.tmps (cr S).toArray (encs y)).getD i undef=v
    rw[ee,uO _ _ _ i hsz2.symm hlt]
    simp only[ql] at hv
    cases h1:lk (gV (cr S) (encs y).toList) i with
    | some u=>rw[h1] at hv;cases hv;rfl
    | none=>rw[h1] at hv;exact hb.get i v hv
  have h1:=(hasg lr y [] V (λe b' Wa=>e= .normal∧Fr ⟨sz,ea y++eP [] (gV (cr S) (encs y).toList++es)⟩ [] b'∧aD [] V [] Wa) λb' Wa h1 h2=>⟨rfl,h1,h2⟩).out _ V hfr (yb V)
  refine wpIn_mono (show(jZ S).wpIn (Fence.wide.inRound lr) 3 P _ _ V from h1) λe a' Wa hq=>?_
  obtain⟨rfl,hf',hO'⟩:=hq
  have sO:=AF hO'
  refine⟨O1,⟨sO.size,λ_ _ h=>h,λb h=>eF (hA.lt b h) sO.size,λb hb _=>sO.far b hb (by simp)⟩,λU hU hUs=>?_⟩
  have hA2:AI J KO.flatten Lo W0 (j+i) O1 U:=(hA.turn hJ (sO.turnA λb _ hx _=>by simp at hx)).turn hJ hU
  have hHU:Has (KO++LO).flatten U:=by
   rw[jg]
   have hs:(KO.flatten++LO.flatten).Sublist (KO.flatten++Lo):=by rw[←hLo,←ir];exact List.sublist_append_left _ _
   exact⟨λx hx=>hA2.has.obj x (hs.subset hx),hA2.has.nd.sublist hs⟩
  have oU:aD (bN (KO++LO).flatten) U ((KO++LO).map .c) U:=aD.start (uC _) hHU
  refine(hbod lr y (bN (KO++LO).flatten) U (BE (λb=>∃x∈KI.flatten,x.1=b) (λi O1 V=>AI J KO.flatten Lo W0 (j+i) O1 V) (λc i O1 V=>c= .ret∧AI Jx KO.flatten Lo W0 (j+i) O1 V) (i+1) O1 U) λW2 h2=>?_).out a' U hf' (by rw[List.map_nil,List.append_nil];exact oU)
  obtain⟨cs2,hs2,s2⟩:=h2.conc
  rw[r9 hs2] at s2
  have same: ∀b,b<U.heap.size→W2.heap[b]? =U.heap[b]? :=λb hb=>by
   by_cases hx:b∈bN (KO++LO).flatten
   ·obtain⟨x,hx',rfl⟩:=List.mem_map.1 hx
    exact(s2.obj x hx').trans (hHU.obj x hx').symm
   ·exact s2.far b hb hx
  have tU: ∀T:Nat→Prop,ff T U W2:=λT=>⟨s2.os,s2.tape,s2.output,s2.size,λb hb _=>same b hb⟩
  have hA3:AI J KO.flatten Lo W0 (j+i) O1 W2:=hA2.turn hJ (tU _)
  obtain⟨O,q1,q2,q3⟩:=hA3.ex
  obtain⟨fn',t',ag',bd',r1,r2⟩:=hY (j+i) y O W2 (hys i y hy) q1 hA3.sz
  refine⟨fn',t',ag',bd',r1,r2.mono ?_⟩
  rintro e W' ⟨O',hg,h4⟩
  have lt2: ∀x∈KO.flatten++Lo,x.1<W2.heap.size:=λx hx=>(Array.getElem?_eq_some_iff.1 (hA3.has.obj x hx)).1
  have gr:ik (λb=>∃x∈KI.flatten,x.1=b) O1 (λb=>O1 b∨O' b) U W':=by
   refine⟨jw s2.size hg.size,λb hb h=>?_,λb h=>?_,λb hb hk=>?_⟩
   ·exact h.elim id λh=>q3 b (hg.old b (eF hb s2.size) h)
   ·exact h.elim (λh=>eF (hA2.lt b h) (jw s2.size hg.size)) (hg.new b)
   ·refine(hg.keep b (eF hb s2.size) (.inl ?_)).trans (same b hb)
    rcases hk with hk | ⟨x,hx,rfl⟩
    ·exact λho=>hk (q3 b ho)
    ·exact q2 x (kiL x hx)
  have ai: ∀{J':Nat→(Nat→Prop)→World→Prop},J' (j+i+1) O' W'→AI J' KO.flatten Lo W0 (j+(i+1)) (λb=>O1 b∨O' b) W':=λh=>
   ⟨⟨O',h,λx hx ho=>q2 x hx (hg.old _ (lt2 x (dZ _ hx)) ho),λb h=> .inr h⟩,λx hx=> .inl (hA2.own x hx),λb h=>gr.new b h,jw hA3.sz hg.size,
    ⟨λx hx=>(hg.keep x.1 (lt2 x hx) ((List.mem_append.1 hx).elim (λh=> .inr ⟨x,h,rfl⟩) λh=> .inl (q2 x h))).trans (hA3.has.obj x hx),hA3.has.nd⟩⟩
  rcases h4 with⟨rfl,h5⟩ | ⟨rfl,h5⟩
  ·refine .inl ⟨rfl,λb' W'' h=>?_⟩
   have s3:=AF h
   exact⟨_,gr.trans ⟨s3.size,λ_ _ h=>h,λb h=>eF (gr.new b h) s3.size,λb hb _=>s3.far b hb (by simp)⟩,(ai h5).turn hJ (s3.turnA λb _ hx _=>by simp at hx)⟩
  ·exact .inr ⟨rfl,λb'=>⟨_,gr,rfl,ai h5⟩⟩
 ·intro D O1 V hD hnD hA hd
  have hI2:jq J KO W0 (LO.map .c++(D::Ds).map mk) (j+ys.length) V:=by
   refine⟨LO++(D::Ds).map (λD=>[dX D]),kG (uC LO) (rO _),?_⟩
   have ef:(LO++(D::Ds).map (λD=>[dX D])).flatten=LO.flatten++dX D::Ds.map dX:=by
    rw[jg,wO];rfl
   rw[ef]
   obtain⟨O,q1,q2,q3⟩:=hA.ex
   have hne: ∀x∈KO.flatten++Lo,x.1≠D:=λx hx e=>hnD (e▸hA.own x hx)
   refine⟨⟨O,q1,λx hx=>?_,λb h=>hA.lt b (q3 b h)⟩,hA.sz,⟨λx hx=>?_,?_⟩⟩
   ·rcases List.mem_append.1 hx with hx | hx
    ·exact q2 x (LoL x hx)
    ·rcases List.mem_cons.1 hx with rfl | hx
     ·exact λho=>hnD (q3 _ ho)
     ·exact q2 x (by rw[←hLo];exact dZ _ hx)
   ·rcases List.mem_append.1 hx with hx | hx
    ·exact hA.has.obj x (jm _ hx)
    ·rcases List.mem_append.1 hx with hx | hx
     ·exact hA.has.obj x (dZ _ (LoL x hx))
     ·rcases List.mem_cons.1 hx with rfl | hx
      ·exact hd
      ·exact hA.has.obj x (dZ _ (by rw[←hLo];exact dZ _ hx))
   ·rw[←hLo] at hne
    exact WX (by rw[hLo];exact hA.has.nd) hne
  obtain⟨R',hC,hO5⟩:=jq.start hI2
  refine(hk D R' V hC).out _ V ⟨hb.size,hb.get,by show ke D::b.defers=_;rw[hb.defers];rfl⟩ ?_
  rw[ka,ir]
  exact hO5.out
 ·rintro D c i O1 V hD hnD hi ⟨rfl,hA⟩ hd
  obtain⟨O,q1,q2,q3⟩:=hA.ex
  have hne: ∀x∈KO.flatten++Lo,x.1≠D:=λx hx e=>hnD (e▸hA.own x hx)
  have hM:Has ((D::Ds).map dX) V:=by
   refine⟨λx hx=>?_,?_⟩
   ·rcases List.mem_cons.1 hx with rfl | hx
    ·exact hd
    ·exact hA.has.obj x (dZ _ (by rw[←hLo];exact dZ _ hx))
   ·have h1:=(List.pairwise_append.1 hA.has.nd).2.1
    rw[←hLo] at h1
    exact List.pairwise_cons.2 ⟨λx hx=>Ne.symm (hne x (dZ _ (by rw[←hLo];exact dZ _ hx))),(List.pairwise_append.1 h1).2.1⟩
  refine wpIn_ret (io (hQ _ V (Ho (Ds:=D::Ds) hres (by show ke D::b.defers=_;rw[hb.defers];rfl) hM λW' hW=> .inr ⟨j+i,?_,O,?_⟩)))
  ·obtain⟨y,hy⟩:=List.getElem?_eq_some_iff.2 ⟨hi,rfl⟩ |>λh=>(⟨_,h⟩: ∃y,ys[i]? =some y)
   exact(List.getElem?_eq_some_iff.1 (hys i y hy)).1
  ·refine hJx _ O V W' q1 (hW.turnA λb _ hx hn=>?_)
   obtain⟨x,hx',rfl⟩:=List.mem_map.1 hx
   refine absurd (λho=>?_) hn
   rcases List.mem_cons.1 hx' with rfl | hx'
   ·exact hnD (q3 _ ho)
   ·exact q2 x (by rw[←hLo];exact dZ _ hx') ho
def Hq(J:Nat→(Nat→Prop)→World→Prop)(KO:List aw)(W0:World)(I:Nat→Prop)(e:Nat→Fe)(LI:Nat→ah)(m c:Nat→Nat)(sz:Nat)(st:Fe)(i:Nat)(b:Act)(W:World):Prop:=∃(k:Nat) (E:List Nat) (R:List Nat) (base:World),I k∧Hid (fA J KO W0 (c k) R base)∧m k<i∧Fr ⟨sz,e k++st⟩ E b∧aD R base (LI k++E.map mk) W
def AG(P:Program)(J:Nat→(Nat→Prop)→World→Prop)(KO:List aw)(W0:World)(Q:Exit→Act→World→Prop)(S:List It)(I:Nat→Prop)(e:Nat→Fe)(LI:Nat→ah)(m c:Nat→Nat)(sz:Nat)(st:Fe)(i:Nat):Exit→Act→World→Prop
 | .normal,b,W=>Hq J KO W0 I e LI m c sz st i b W
 | x,b,W=>dg Fence.wide 5 P Q S x b W
theorem WZ(I:Nat→Prop)(e:Nat→Fe)(LI:Nat→ah→ah)(m c:Nat→Nat)(k0:Nat)(h0:I k0)(hI:Hid (fA J KO W0 (c k0) R base))(he:((e k0).map λx=>lk es x.1)=(e k0).map λx=>some x.2)(hL:L=LI k0 L)
  (hr: ∀(k:Nat) (E:List Nat) (R':List Nat) (base':World),I k→Hid (fA J KO W0 (c k) R' base')→Go Fence.wide 5 P R' base' (AG P J KO W0 Q (bT S) I e (λk=>LI k L) m c sz (jX S es) (m k)) [.c (gM S)] ⟨sz,e k++jX S es⟩ (LI k L) E) (hS:oq S=true:=by kernel_rfl):Go Fence.wide 5 P R base Q S ⟨sz,es⟩ L Ds:=by
 classical
 refine⟨λb W hb hO=>dR 1000 S ?_⟩
 rw[show dz 1000 S=_ from uG hS]
 show(Code.loop (gM S)).wpIn Fence.wide 5 P (dg Fence.wide 5 P Q (bT S)) b W
 let J0:Nat→Act→World→Prop:=Hq J KO W0 I e (λk=>LI k L) m c sz (jX S es)
 let μ:Act→World→Nat:=λb W=>if h: ∃j,J0 j b W then jh (lD h) else 0
 have hμ: ∀b W,(∃j,J0 j b W)→J0 (μ b W) b W∧∀i,i<μ b W→¬J0 i b W:=by
  intro b W h
  have e:μ b W=jh (lD h):=dif_pos h
  rw[e]
  exact Classical.choose_spec (lD h)
 refine wpIn_loop (λb W=>∃j,J0 j b W) μ ⟨m k0+1,k0,Ds,R,base,h0,hI,Nat.lt_succ_self _,Fr.stay (a:=⟨sz,es⟩) hb he,by have h:=hO;rw[hL] at h;exact h⟩ λb W hJ=>?_
 obtain⟨k,E,R',base',hk,hC,hm,hf,hO⟩:=(hμ b W hJ).1
 refine wpIn_mono (show(gM S).wpIn Fence.wide 5 P _ b W from(hr k E R' base' hk hC).out b W hf hO) λe b' W' he=>?_
 cases e with
 | normal=>
  have hJ:J0 (m k) b' W':=he
  exact⟨⟨_,hJ⟩,Nat.lt_of_le_of_lt (Nat.le_of_not_lt λhl=>(hμ b' W' ⟨_,hJ⟩).2 _ hl hJ) hm⟩
 | _=>exact he
theorem W4{I:Nat→Prop}{e:Nat→Fe}{LI:Nat→ah}{m c:Nat→Nat}{S0:List It}{sz0:Nat}{st:Fe}{i:Nat}(k:Nat)(hI:I k)(hC:Hid (fA J KO W0 (c k) R base))(hm:m k<i)(he:((e k++st).map λx=>lk es x.1)=(e k++st).map λx=>some x.2)(ps:List Nat)(hL:(dx (ps.map λp=>[p]).flatten,(ps.map λp=>[p]).map λg=>g.map λp=>L[p]?)=(true,((LI k).map λx=>[x]).map λN=>N.map some))(hS:(nf S).isEmpty=true:=by kernel_rfl)(hz:sz=sz0:=by rfl):
  Go Fence.wide 5 P R base (AG P J KO W0 Q S0 I e LI m c sz0 st i) S ⟨sz,es⟩ L Ds:=by
 subst hz
 refine⟨λb W hb hO=>dR 1000 S ?_⟩
 rw[show dz 1000 S=[] from List.isEmpty_iff.1 hS]
 exact⟨k,Ds,R,base,hI,hC,hm,Fr.told (a:=⟨sz,es⟩) hb he,hO.under λh=>h.pick ps _ hL⟩
theorem W7{I:Nat→Prop}{e:Nat→Fe}{LI:Nat→ah}{m c:Nat→Nat}{S0:List It}{sz0:Nat}{st:Fe}{i:Nat}(hk:Go Fence.wide 5 P R base Q ((kj S S0).getD []) ⟨sz,es⟩ L Ds)(hS:(kj S S0).isSome=true:=by kernel_rfl):Go Fence.wide 5 P R base (AG P J KO W0 Q S0 I e LI m c sz0 st i) S ⟨sz,es⟩ L Ds:=by
 obtain⟨S1,h1⟩:=Option.isSome_iff_exists.1 hS
 rw[h1] at hk
 exact⟨λb W hb hO=>uH h1 (hk.out b W hb hO) λ_=>rfl⟩
theorem W9(hJ:gU J)(hI:Hid (fA J KO W0 j R base))(hj:j=xs.length)(ps:List Nat)
  (hp:(dx (ps.map λp=>[p]).flatten,(ps.map λp=>[p]).map λg=>g.map λp=>L[p]?)=(true,((KO.map az.c).map λx=>[x]).map λN=>N.map some):=by kernel_rfl) (hres:fn.results.toList=[]:=by kernel_rfl) (hS:(nf S).isEmpty=true:=by kernel_rfl):Go Fence.wide 5 P R base (tH P fn J Jx xs.length) S ⟨sz,es⟩ L Ds:=by
 refine⟨λb W hb hO=>dR 1000 S ?_⟩
 rw[show dz 1000 S=[] from List.isEmpty_iff.1 hS]
 have hO1:aD R base (KO.map .c++Ds.map mk) W:=hO.under λh=>h.pick ps _ hp
 obtain⟨ds,hds,hIS⟩:=fA.step hI hJ hO1
 have e9:=qc hds
 rw[e9] at hIS
 obtain⟨O,q1,q2,q3⟩:=hIS.ex
 have hM:Has (Ds.map dX) W:=⟨λx hx=>hIS.has.obj x (dZ _ hx),(List.pairwise_append.1 hIS.has.nd).2.1⟩
 have h1:tH P fn J Jx xs.length .ret b W:=Ho (Ds:=Ds) hres hb.defers hM λW' hW=> .inl ⟨O,by
  rw[←hj]
  refine hJ _ O W W' q1 (hW.turnA λb _ hx hn=>?_)
  obtain⟨x,hx',rfl⟩:=List.mem_map.1 hx
  exact absurd (q2 x hx') hn⟩
 exact h1
end
end Go.Proofs.YtbcodenfkijdnaaGreat.E
namespace Go.Proofs.YtbcodenfkijdnaaGreat.E
open Go Go.RowKit Go.Shelf
open List renaming length_replicate→dZ,length_range→eF,length_map→ir,getElem?_range→jw,range→kP,getElem?_map→na
open Nat renaming mul_assoc→jg,mul_comm→jh,div_lt_of_lt_mul→ka,mod_lt→n7,succ_mul→oG
open Go.Proofs.Tryz renaming prog→jm
open Option renaming map_some→nN
def iD(B M C i:Nat):Nat:=ri M C (i/(B*M*C)) (i%(B*M*C))
def wP(R S B M C:Nat):List Nat:=(kP ((R+S)*(B*M*C))).map (iD B M C)
theorem Xa{R S B M C k i y:Nat}(hk:k<R+S)(h:((kP (B*M*C)).map (ri M C k))[i]? =some y):(wP R S B M C)[k*(B*M*C)+i]? =some y:=by
 have hi:i<B*M*C:=by have:=(List.getElem?_eq_some_iff.1 h).1;simpa using this
 rw[na,jw hi,nN] at h
 have h1:k*(B*M*C)+i<(R+S)*(B*M*C):=by
  have:(k+1)*(B*M*C)≤(R+S)*(B*M*C):=Nat.mul_le_mul_right _ hk
  rw[oG] at this
  omega
 unfold wP
 rw[na,jw h1,nN]
 unfold iD
 rw[jh k,Nat.mul_add_div Om,Nat.div_eq_of_lt hi,Nat.mul_add_mod,Nat.mod_eq_of_lt hi,Nat.add_zero]
 exact h
theorem Xb{R S B M C:Nat}(hG:f9 R S B M C)(k:Nat):hold R S B M C (k:Int) 0 0 0=decide ((k:Int)<((R+S:Nat):Int)):=by
 have hb:=hG.bd
 have h1:=hb.b1;have h2:=hb.m1;have h3:=hb.c1
 unfold hold bQ
 rw[cC (show(0:Int)≤(k:Int) by omega),cC (show(0:Int)<(B:Int) by omega),cC (show(0:Int)<(M:Int) by omega),cC (show(0:Int)<(C:Int) by omega)]
 simp
theorem Xc(b1 R S B M C:Nat)(hG:f9 R S B M C):fy 5 jm 103 #[pt b1 0] (λ(i:Nat)=>#[iN i]) (wP R S B M C) (List.flatten [[(b1,.cells #[iN R,iN S,iN B,iN M,iN C] 23 (0,0))]]):=by
 refine WV (KO:=[[(b1,.cells #[iN R,iN S,iN B,iN M,iN C] 23 (0,0))]]) Tryz.func103 (λlY JY JX WI RI hJ hJx hY hI=>?_)
 refine ra (λq1=>[(2,pt (B0 q1) 0)]) (λq1=>[ob (B0 q1) #[.func (.yield lY) #[] #[]] 65]) λq1=>r0 [] [(3,i6 0)] [] ?_
 refine WZ (KO:=[[(b1,.cells #[iN R,iN S,iN B,iN M,iN C] 23 (0,0))]]) (λk=>k≤R+S) (λk=>[(3,iN k)]) (λ_ L=>L) (λk=>R+S-k) (λk=>k*(B*M*C)) 0 Om (by rw[Nat.zero_mul];exact hI) Kr Kr (λk E R5 W6 hk3 hI4=>?_)
 refine r0 [(0,.l 0),(3,.c [] [] (aa.v (sP R S B M C hG (k:Int) 0 0 0) λ_=>ALca Value.bool (Xb hG k)))] [(8,.bool (decide ((k:Int)<((R+S:Nat):Int))))] [] ?_
 refine cj (k:Int) ((R+S:Nat):Int) (λh8 dh8=>?_) λh8 dh8=>?_
 ·refine rr (λ_=>[(0,.l 0),(2,.c [] [2,3] (WQ R S B M C k))]) (λq9=>[(13,.func (.func 101) #[] #[pt (B2 q9) 0,pt ((q9 2).abd 1) 0])]) [] (λq9 L=>L++[ob (B2 q9) #[iN R,iN S,iN B,iN M,iN C] 23,ob ((q9 2).abd 1) #[iN k] 3]) λq9=>?_
  have hk8:k<R+S:=by omega
  have h88:=hG.bd.r8
  refine WY (encs:=λ(i:Nat)=>#[iN i]) (λy=>[(4,iN y)]) (LO:=[[((q1 0).abd 0,.cells #[.func (.yield lY) #[] #[]] 65 (0,0))],[((q9 2).abd 0,.cells #[iN R,iN S,iN B,iN M,iN C] 23 (0,0))],[((q9 2).abd 1,.cells #[iN k] 3 (0,0))]]) (KI:=[[((q9 2).abd 0,.cells #[iN R,iN S,iN B,iN M,iN C] 23 (0,0))],[((q9 2).abd 1,.cells #[iN k] 3 (0,0))]]) hJ hJx hY hI4 (WP (B2 q9) ((q9 2).abd 1) R S B M C k hG hk8) (enters_of Tryz.func101 Kr rfl) (λi y h=>Xa hk8 h) (λb W h=>io h) Kr [0,1,2,3] (λx hx=>List.mem_cons_of_mem _ hx) (List.sublist_cons_self _ _) (λlr y R1 W1 Q1 h=>?asg) (λlr y R1 W1 Q1 h=>?bod) (λD R' W' hI'=>?rest) (λ_=>rfl)
  case asg=>
   refine r0 [] [(4,iN y)] [] ?_
   exact Hp λb W hb hO=>h b W hb (by simpa using hO)
  case bod=>
   refine WW 2 (λ_=>[(0,.l 1)]) (λ_=>[(15,.func (.yield lY) #[] #[]),(16,iN y)]) [] (λ_ L=>L) (vs:=#[iN y]) (λη W hW=>h W hW) (λη W' hA=>?_)
   refine cF _ rfl ?_
   exact Hp λb W _ hO=>hA b W (by simpa using hO)
  case rest=>
   refine r0 [(1,ad k 1)] [(3,i6 ((k+1:Nat):Int))] [3] ?_
   exact W4 (k+1) Om (by rw[ir,eF] at hI';rw[oG];exact hI') Om Kr [0,1] Kr
 refine W7 ?_
 exact W9 hJ hI4 (by unfold wP;rw[ir,eF,show k=R+S by omega]) [0]
theorem Xd(R S B M C:Nat):aa jm 67 #[.agg #[iN R,iN S,iN B,iN M,iN C]] [] [] (λE=>[ob (E.abd 0) #[iN R,iN S,iN B,iN M,iN C] 23]) (λE=> .func (.func 103) #[] #[pt ((E.abd 0)) 0]):=by
 refine fG Tryz.func67 λw cs=>?_
 exact ra (λq1=>[(1,pt (B0 q1) 0),(2,.nilFunc)]) (λq1=>[ob (B0 q1) #[iN R,iN S,iN B,iN M,iN C] 23]) λq1=>r0 [] [(2,.func (.func 103) #[] #[pt (B0 q1) 0])] [2] (lf (.l [(q1 0).abd 0] [] []) [0] [] [])
theorem Xe{R S B M C:Nat}(hG:f9 R S B M C){i:Nat}(hi:i<(R+S)*(B*M*C)):iD B M C i<8388608∧gF R S B M C ((iD B M C i:Nat):Int)=true:=by
 have hb:=hG.bd
 have hm:=hb.m1;have hc:=hb.c1
 have h0:0<B*M*C:=Nat.pos_of_ne_zero λe=>by rw[e,Nat.mul_zero] at hi;omega
 have h1:i/(B*M*C)<R+S:=ka (by rw[jh];exact hi)
 have h2:i%(B*M*C)<B*M*C:=n7 _ h0
 have h3:i%(B*M*C)/C/M<B:=by
  rw[Nat.div_div_eq_div_mul]
  have e:C*M*B=B*M*C:=by rw[jh (C*M) B,jh C M,jg]
  exact ka (by rw[e];exact h2)
 have hin:gZ R S B M C (i/(B*M*C)) (i%(B*M*C)/C/M) (i%(B*M*C)/C%M) (i%(B*M*C)%C):=⟨h1,h3,n7 _ hm,n7 _ hc⟩
 refine⟨zu hb hin,?_⟩
 show gF R S B M C ((bJ _ _ _ _:Nat):Int)=true
 rw[←vK]
 exact Ap hG hin.hold
def fx(c:Cf):Nat→Dv
 | 0=>tA
 | k+1=>iZ (fx c k) ((iD c.B c.M c.C k:Nat):Int) (fd c.mode z6 ((iD c.B c.M c.C k:Nat):Int) false) (bif false then 1 else 0)
theorem AH(c:Cf): ∀k,iY c (fx c k).D∧(∀i,((fx c k).aa7 i).length=72)∧(fx c k).l.length≤k
 | 0=>⟨UI c,λ_=>dZ,Nat.le_refl _⟩
 | k+1=>by
  obtain⟨h1,h2,h3⟩:=AH c k
  refine⟨GF h1 _ (qX _ dZ _ _),tx h2 _ (qX _ dZ _ _),?_⟩
  show((fx c k).l++[_]).length≤k+1
  rw[List.length_append]
  exact Nat.succ_le_succ h3
theorem Xf(c:Cf)(k:Nat):fx c (k+1)=iZ (fx c k) ((iD c.B c.M c.C k:Nat):Int) (fd c.mode z6 ((iD c.B c.M c.C k:Nat):Int) false) (bif false then 1 else 0):=rfl
attribute [local irreducible] fx
theorem Xg(gd ge:Nat)(c:Cf)(V:Dv):aa jm 113 #[pt ge 0] [pk (bl gd ge c V)] [0] (λ_=>[pk (bl gd ge c V)]) (λ_=> .agg #[iN c.R,iN c.S,iN c.B,iN c.M,iN c.C]):=
 aa.inW (UK ge c V.D) λL ⟨gm,gk,v,e⟩=>⟨1,by rw[e];rfl,gm,gk,v,by rw[e];rfl⟩
theorem Hr(gd ge:Nat)(c:Cf)(V:Dv):aa jm 107 #[pt ge 0] [pk (bl gd ge c V)] [0] (λ_=>[pk (bl gd ge c V)]) (λ_=>iN c.mode):=
 aa.inW (Ao ge c V.D) λL ⟨gm,gk,v,e⟩=>⟨1,by rw[e];rfl,gm,gk,v,by rw[e];rfl⟩
theorem Xh(gd ge:Nat)(c:Cf)(hcf:dd c):aa jm 82 #[.agg (cA c),pt gd 0] [pk (bl gd ge c (fx c 0))] [0] (λE=>[pk (bl gd ge c (fx c ((c.R+c.S)*(c.B*c.M*c.C)))),ob (E.abd 0) #[pt ((E.abd 1)) 0,pt gd 0,pt ((E.abd 2)) 0,i6 0,.slice none 0 0] 119,ob (E.abd 1) #[iN c.R,iN c.S,iN c.B,iN c.M,iN c.C,iN c.way,iN c.res,iN c.mode,iN c.lr,iN c.er,iN c.lp,iN c.ep,iN c.room,iN c.heavy,iN c.log,.bool c.back,pt ((E.abd 3)) 0,pt ((E.abd 4)) 0,pt ((E.abd 5)) 0,i6 0] 122,pk (dV (E.abd 2)),pk (aq (E.abd 3) (((E.abd 6))) (((E.abd 7))) ⟨lO c.R c.S c.B c.M c.C c.way c.res,kz,[]⟩),pk (aC (E.abd 4) (((E.abd 8))) (pR c.lr c.er c.lp c.ep c.room c.heavy c.R)),pk (ay (E.abd 5) (pM c.log))]) (λE=> .tuple #[pt ((E.abd 0)) 0,i6 0]):=by
 have hG:=hcf.abc
 have hrb:(c.R+c.S)*(c.B*c.M*c.C)≤4096:=by have h9:=hG.bd.all;rwa [jg,jg,←jg c.B] at h9
 have hz6:z6.length=64:=dZ
 refine fG Tryz.func82 λw cs=>?_
 refine ra (λq1=>[(2,pt (B0 q1) 0),(4,.pointer none),(5,i6 0)]) (λq1=>[ob (B0 q1) (cA c) 31]) λq1=>rF [(0,.l 1),(1,.c [] [] (z4 c hcf))] 10 (rF [(1,.c [0] [0] (Au gd ge c (fx c 0))),(2,.c [0] [0] (Xg gd ge c (fx c 0))),(5,.l 1),(6,.t (TH.cast (i9 23 λ_ _ _=>jW (xs:=[iN c.R,iN c.S,iN c.B,iN c.M,iN c.C]) (ys:=[iN c.R,iN c.S,iN c.B,iN c.M,iN c.C]) Kr bh) (show Value.bool (!((c.R:Int)==(c.R:Int)&&((c.S:Int)==(c.S:Int)&&((c.B:Int)==(c.B:Int)&&((c.M:Int)==(c.M:Int)&&((c.C:Int)==(c.C:Int)&&true))))))= .bool false from ALca Value.bool (by simp))))] 14 (rF [(1,.c [0] [0] (Au gd ge c (fx c 0))),(2,.c [0] [0] (Hr gd ge c (fx c 0))),(4,.l 1),(5,.t (tk (show Value.bool ((c.mode:Int) != (c.mode:Int))= .bool false from ALca Value.bool (by simp))))] 22 (rr (λ_=>[(0,.l 1),(1,.c [] [2,3,4,5] (Tx c hcf))]) (λq5=>[(6,pt ((B1 q5)) 0),(7,i6 0)]) [] (λq5 L=>L++[ob (B1 q5) #[iN c.R,iN c.S,iN c.B,iN c.M,iN c.C,iN c.way,iN c.res,iN c.mode,iN c.lr,iN c.er,iN c.lp,iN c.ep,iN c.room,iN c.heavy,iN c.log,.bool c.back,pt (((q5 1).abd 1)) 0,pt (((q5 1).abd 2)) 0,pt (((q5 1).abd 3)) 0,i6 0] 122,pk (aq ((q5 1).abd 1) (((q5 1).abd 4)) (((q5 1).abd 5)) ⟨lO c.R c.S c.B c.M c.C c.way c.res,kz,[]⟩),pk (aC ((q5 1).abd 2) (((q5 1).abd 6)) (pR c.lr c.er c.lp c.ep c.room c.heavy c.R)),pk (ay ((q5 1).abd 3) (pM c.log))]) λq5=>rF [] 35 ?_)))
 refine rr (λ_=>[(2,.c [] [6] (U4)),(6,.s 8)]) (λq7=>[(8,pt (B5 q7) 0)]) [] (λq7 L=>L++[pk (dV (B2 q7)),ob (B4 q7) #[pt ((B1 q5)) 0,pt gd 0,pt ((B2 q7)) 0,i6 0,.slice none 0 0] 119,ob (B5 q7) #[pt (B4 q7) 0] 37]) λq7=>rr (λ_=>[(2,.l 1),(3,.c [] [9] (Xd c.R c.S c.B c.M c.C))]) (λq8=>[(45,.func (.func 103) #[] #[pt ((B3 q8)) 0])]) [] (λq8 L=>L++[ob (B3 q8) #[iN c.R,iN c.S,iN c.B,iN c.M,iN c.C] 23]) λq8=>?_
 refine ph (encs:=λ(i:Nat)=>#[iN i]) (xs:=(kP ((c.R+c.S)*(c.B*c.M*c.C))).map (iD c.B c.M c.C)) (KO:=[[((B3 q8),.cells #[iN c.R,iN c.S,iN c.B,iN c.M,iN c.C] 23 (0,0))]]) (Xc (B3 q8) c.R c.S c.B c.M c.C hG) (enters_of Tryz.func103 Kr rfl) (λk=>k≤(c.R+c.S)*(c.B*c.M*c.C)) (λk L=>L.set 0 ((pk (bl gd ge c (fx c k))))) [9] Om Kr (λlR k xE R1 W1 hxE hk10=>?_) (λD9 hk10=>?_)
 ·obtain⟨hkb11,rfl⟩:=oh hxE
  have hai:=Xe hG hkb11
  have hai1:=hai.1
  have hai2:=hai.2
  have hdk:=AH c k
  have hdv:nX c (fx c k):=⟨hdk.1,hdk.2.1,Nat.le_trans hdk.2.2 Om⟩
  refine r0 [] [(9,i6 ((iD c.B c.M c.C k:Nat):Int))] [] ?_
  refine ag [9] (λR2 W2=>?_)
  refine rs [(0,.l 8),(3,.c [7,2,6,0] [6,0] (pW (B4 q7) (B1 q5) ((q5 1).abd 1) ((q5 1).abd 2) ((q5 1).abd 3) gd ge (B2 q7) c hcf 0 0 (.slice none 0 0) (fx c k) hdv (iD c.B c.M c.C k) hai1 hai2 z6 bh false))] 0 ((pk (bl gd ge c (iZ (fx c k) ((iD c.B c.M c.C k):Int) (fd c.mode z6 ((iD c.B c.M c.C k):Int) false) (bif false then 1 else 0))))) ?_
  exact ne _ ⟨Om,rfl⟩ [0,1,2,3,4,5,6,7,8,9] (by rw[Xf];kernel_rfl)
 refine cl [pk (bl gd ge c (fx c ((c.R+c.S)*(c.B*c.M*c.C)))),ob (B0 q1) (cA c) 31,ob (B1 q5) #[iN c.R,iN c.S,iN c.B,iN c.M,iN c.C,iN c.way,iN c.res,iN c.mode,iN c.lr,iN c.er,iN c.lp,iN c.ep,iN c.room,iN c.heavy,iN c.log,.bool c.back,pt (((q5 1).abd 1)) 0,pt (((q5 1).abd 2)) 0,pt (((q5 1).abd 3)) 0,i6 0] 122,pk (aq ((q5 1).abd 1) (((q5 1).abd 4)) (((q5 1).abd 5)) ⟨lO c.R c.S c.B c.M c.C c.way c.res,kz,[]⟩),pk (aC ((q5 1).abd 2) (((q5 1).abd 6)) (pR c.lr c.er c.lp c.ep c.room c.heavy c.R)),pk (ay ((q5 1).abd 3) (pM c.log)),pk (dV (B2 q7)),ob (B4 q7) #[pt ((B1 q5)) 0,pt gd 0,pt ((B2 q7)) 0,i6 0,.slice none 0 0] 119,ob (B5 q7) #[pt (B4 q7) 0] 37,ob (B3 q8) #[iN c.R,iN c.S,iN c.B,iN c.M,iN c.C] 23] (by rw[ir,eF];kernel_rfl) ?_
 simp only[ir,eF] at hk10
 exact r0 [(0,.l 8)] [(4,pt (B4 q7) 0),(5,i6 0)] [4,5] (lf (.l [(q7 4).abd 0,(B1 q5),(B2 q7),((q5 1).abd 1),((q5 1).abd 2),((q5 1).abd 3),(q5 1).abd 4,(q5 1).abd 5,(q5 1).abd 6] [] []) [0,7,2,6,3,4,5] [] [])
end Go.Proofs.YtbcodenfkijdnaaGreat.E
namespace Go.Proofs.YtbcodenfkijdnaaGreat.E
open Go Go.RowKit Go.Shelf
open Go.Proofs.Tryz renaming prog→dZ
open Nat renaming zero_le→eF,le_mul_of_pos_right→jg,le_trans→jw,mul_assoc→kP
open List renaming length_replicate→ir,replicate→jh,getD_eq_getElem?_getD→jm,getElem?_replicate→ka,not_mem_nil→na,Perm→nN
theorem aa.outsP{P:Program}{f:FuncId}{args:Array Value}{rd:ah}{O:List Nat}{wt wt':ab→ah}{v:ab→Value}(h:aa P f args rd O wt v)(hw: ∀E ds,bu (wt E) ds→∃ds',bu (wt' E) ds'∧nN ds'.flatten ds.flatten):aa P f args rd O wt' v:=
 ⟨h.ent,λw cs hs hh=>(callsIn_wide (n:=6)).1 ((callsIn_wide.2 (h.out w cs hs hh)).mono λe w' he=>by
  obtain⟨E,ds,h1,h2,h3⟩:=he
  obtain⟨ds',h4,h5⟩:=hw E ds h2
  exact⟨E,ds',h1,h4,⟨h3.os,h3.tape,h3.output,h3.size,λx hx=>h3.obj x (h5.mem_iff.1 hx),λx hx=>h3.new x (h5.mem_iff.1 hx),(h5.pairwise_iff (λ{x y} h=>Ne.symm h)).2 h3.nd,h3.far⟩⟩)⟩
theorem Xi{ds:List aw}{is js:List Nat}(h:nN is js):nN (is.map λi=>ds.getD i []).flatten (js.map λi=>ds.getD i []).flatten:=(h.map _).flatten
def tI(c:Cf):Ct:=⟨⟨⟨lO c.R c.S c.B c.M c.C c.way c.res,kz,[]⟩,pR c.lr c.er c.lp c.ep c.room c.heavy c.R,pM c.log,0⟩,0,[],fx c ((c.R+c.S)*(c.B*c.M*c.C))⟩
def dC(c:Cf):Mc:=⟨tI c,λ_=>pX,[],[],0,0⟩
theorem Xj(gd ge:Nat)(c:Cf)(hcf:dd c):aa dZ 82 #[.agg (cA c),pt gd 0] [pk (bl gd ge c tA)] [0] (λE=>[pk (aR (E.abd 0) (E.abd 1) (E.abd 3) (E.abd 6) (E.abd 7) (E.abd 4) (E.abd 8) (E.abd 5) gd ge (E.abd 2) c (tI c))]) (λE=> .tuple #[pt (E.abd 0) 0,i6 0]):=by
 refine(Xh gd ge c hcf).outsP λE ds hs=>?_
 obtain⟨d0,_,rfl,h0,hs⟩:=eG hs
 obtain⟨d1,_,rfl,h1,hs⟩:=eG hs
 obtain⟨d2,_,rfl,h2,hs⟩:=eG hs
 obtain⟨d3,_,rfl,h3,hs⟩:=eG hs
 obtain⟨d4,_,rfl,h4,hs⟩:=eG hs
 obtain⟨d5,_,rfl,h5,hs⟩:=eG hs
 obtain⟨d6,_,rfl,h6,hs⟩:=eG hs
 obtain rfl:=o0 hs
 refine⟨[([d1,d2,d4,d5,d6,d3,d0,[]]:List aw).flatten],⟨⟨_,[d1,d2,d4,d5,d6,d3,d0,[]],⟨.slice none 0 0,rfl⟩,⟨h1,h2,h4,h5,h6,h3,h0,ap.nil none,trivial⟩,rfl⟩,trivial⟩,?_⟩
 have hp:=Xi (ds:=[d0,d1,d2,d3,d4,d5,d6]) (is:=[1,2,4,5,6,3,0]) (js:=[0,1,2,3,4,5,6]) Dc
 simpa using hp
theorem Xk(c:Cf)(hcf:dd c):aa dZ 48 #[.agg (cA c)] [] [] (λE=>[ob (E.abd 0) #[pt ((E.abd 10)) 0,pt ((E.abd 1)) 0,.map (some (E.abd 2)),.slice none 0 0,.slice none 0 0,i6 0,i6 0] 114,pk (aR (E.abd 1) ((E.abd 3)) ((E.abd 4)) ((E.abd 5)) ((E.abd 6)) ((E.abd 7)) ((E.abd 8)) ((E.abd 9)) ((E.abd 10)) ((E.abd 11)) ((E.abd 12)) c (tI c)),cY (λ_=>pX) (E.abd 2)]) (λE=> .tuple #[pt ((E.abd 0)) 0,i6 0]):=by
 refine fG Tryz.func48 λw cs=>?_
 refine ra (λq1=>[(1,pt (B0 q1) 0),(2,.pointer none),(3,i6 0)]) (λq1=>[ob (B0 q1) (cA c) 31]) λq1=>rr (λ_=>[(2,.l 0),(4,.l 0),(5,.c [] [1] (U3 c hcf))]) (λq2=>[(4,pt ((B5 q2)) 0),(5,i6 0)]) [] (λq2 L=>L++[pk (bl (B5 q2) ((q2 5).abd 1) c tA)]) λq2=>rF [] 17 (rr (λ_=>[(0,.l 0),(2,.c [1] [1] (Xj (B5 q2) ((q2 5).abd 1) c hcf))]) (λq4=>[(6,pt ((B2 q4)) 0),(5,i6 0)]) [5] (λq4 L=>L.set 1 ((pk (aR (B2 q4) ((q4 2).abd 1) ((q4 2).abd 3) ((q4 2).abd 6) ((q4 2).abd 7) ((q4 2).abd 4) ((q4 2).abd 8) ((q4 2).abd 5) (B5 q2) ((q2 5).abd 1) ((q4 2).abd 2) c (tI c))))) λq4=>rF [] 26 (rr (λ_=>[(2,.m (mm 2 wJ pX))]) (λq6=>[(2,pt (B4 q6) 0),(3,i6 0)]) [2,3] (λq6 L=>L++[cY (λ_=>pX) (B2 q6),ob (B4 q6) #[pt ((B5 q2)) 0,pt ((B2 q4)) 0,.map (some (B2 q6)),.slice none 0 0,.slice none 0 0,i6 0,i6 0] 114]) λq6=>?_))
 exact lf (.l [(q6 4).abd 0,(B2 q4),(q6 2).abd 0,(q4 2).abd 1,(q4 2).abd 3,(q4 2).abd 6,(q4 2).abd 7,(q4 2).abd 4,(q4 2).abd 8,(q4 2).abd 5,(q2 5).abd 0,(q2 5).abd 1,(q4 2).abd 2] [] []) [3,1,2] [] []
theorem Xl{R S B M C way res:Nat}(h:iP R S B M C way res):eC (lO R S B M C way res):=
 ⟨h,List.length_range,ir,ir,eF _,eF _,λi hi=>by
  show(List.range _).getD i 0<_
  have h2:i<R*B*M-res:=hi
  rw[jm,List.getElem?_range h2]
  show i<R*B*M
  omega,λi hi=> .inl (by
  show(jh R (-1:Int)).getD i 0= -1
  have h2:i<R:=hi
  rw[jm,ka,ALifp h2];rfl)⟩
theorem Ht{α:Type}(n i:Nat)(d:α):(jh n d).getD i d=d:=by
 rw[jm,ka]
 split<;>rfl
theorem Xm{ev:Nat}(h:1≤ev):fk ev bA.l bA.a:=⟨eF _,h⟩
theorem Xn{c:Cf}(h:dd c):da (tI c).s 1:=by
 refine⟨⟨Xl h.ly,⟨.inl rfl⟩,λa ha=>absurd ha na,eF _,⟨λx _=>Ht _ _ _⟩⟩,⟨h.r,h.p,h.h1,h.h2,?_,λi hi=>?_,⟨eF _,h.m1,h.m2,λi hi=>absurd hi (Nat.not_lt_zero _)⟩⟩,⟨eF _,h.l1,h.l2,by show 1≤1000000000;omega⟩,Nat.le_refl _,ir⟩
 ·have h1:=h.abc.bd.r8
  show(jh c.R bA).length≤8
  rw[ir];omega
 ·show fk c.er ((jh c.R bA).getD i bA).l ((jh c.R bA).getD i bA).a
  rw[Ht]
  exact Xm h.r.e1
theorem Hu{c:Cf}(h:dd c):d8 c (dC c) 1 4096 0:=by
 have hb:=h.abc.bd
 have hrb:(c.R+c.S)*(c.B*c.M*c.C)≤4096:=by have h9:=hb.all;rwa [kP,kP,←kP c.B] at h9
 obtain⟨h1,h2,h3⟩:=AH c ((c.R+c.S)*(c.B*c.M*c.C))
 refine⟨⟨h,Xn h,h1,h2,jw h3 hrb,eF _,⟨rfl,rfl,rfl,rfl,rfl,rfl,rfl⟩,λq=>absurd rfl q,?_,eF _⟩,λ_=>ir,eF _,eF _,eF _,eF _⟩
 have:=h.ly.rp
 exact Nat.mul_pos Om hb.c1
theorem Xo(c:Cf)(hcf:dd c):aa dZ 48 #[.agg (cA c)] [] [] (λE=>[pk (br (E.abd 0) (E.abd 1) (E.abd 3) (E.abd 4) (E.abd 5) (E.abd 6) (E.abd 7) (E.abd 8) (E.abd 9) (E.abd 10) (E.abd 11) (E.abd 12) c (dC c))]) (λE=> .tuple #[pt (E.abd 0) 0,i6 0]):=
 (Xk c hcf).outs λE ds hs=>GJ ⟨_,_,_,rfl⟩ hs
theorem Xp{j k:Nat}(hk:k≤j)(h:(((2^j:Nat):Int)==((2^k:Nat):Int))=false):k+1≤j:=by
 rcases Nat.lt_or_ge k j with h1 | h1
 ·exact h1
 ·obtain rfl:k=j:=Nat.le_antisymm hk h1
  simp at h
theorem Hv{j k most:Nat}(hk:k≤j)(h:2^j≤most):((2^k:Nat):Int)≤(most:Int):=by
 have:=Nat.pow_le_pow_right (n:=2) Dc hk
 omega
theorem Xq(j most:Nat)(h:2^j≤most)(hm:most≤1024):aa dZ 111 #[i6 ((2^j:Nat):Int),iN most] [] [] N0 (λ_=> .bool true):=by
 refine fG Tryz.func111 λw cs=>?_
 refine r0 [] [(4,.bool false)] [] (r0 [] [(5,i6 1)] [] ?_)
 refine lq (λk=>k≤j) (λk=>[(5,i6 ((2^k:Nat):Int))]) (λ_ L=>L) (λk=>j-k) 0 Om Kr Kr (λk hk3=>?_)
 have hkj:=hk3
 have hpl:=Hv hkj h
 refine rT [(2,.t (tk (show Value.bool (decide (((2^k:Nat):Int)≤(most:Int)))= .bool true from ALca Value.bool (by exact cC (Hv As h)))))] 8 (r0 [] [(13,.bool (((2^j:Nat):Int)==((2^k:Nat):Int)))] [] ?_)
 refine cZ ((2^j:Nat):Int) ((2^k:Nat):Int) (λh6 dh6=>?_) λh6 dh6=>?_
 ·refine r0 [] [(4,.bool true)] [] ?_
  exact lf ab.zero [] [] []
 refine r0 [(1,ml (2^k) 2)] [(5,i6 (((2^k)*2:Nat):Int))] [5] ?_
 have hst:k+1≤j:=Xp As As
 exact le (k+1) Om Om Kr [] Kr
theorem Xr{n most:Nat}(hm:most≤1024)(h:fJ (n:Int) (most:Int)=true): ∃j,n=2^j∧2^j≤most:=by
 have h1:=EY Om h
 have h2:=mT h
 simp only[List.mem_cons,na,or_false] at h1
 have key: ∀j,n=2^j→∃j,n=2^j∧2^j≤most:=λj e=>⟨j,e,by rw[←e];omega⟩
 rcases h1 with h | h | h | h | h | h | h | h | h | h | h
 ·exact key 0 h
 ·exact key 1 h
 ·exact key 2 h
 ·exact key 3 h
 ·exact key 4 h
 ·exact key 5 h
 ·exact key 6 h
 ·exact key 7 h
 ·exact key 8 h
 ·exact key 9 h
 ·exact key 10 h
theorem wQ(n most:Nat)(hm:most≤1024)(h:fJ (n:Int) (most:Int)=true):aa dZ 111 #[iN n,iN most] [] [] N0 (λ_=> .bool true):=by
 obtain⟨j,rfl,h2⟩:=Xr hm h
 exact Xq j most h2 hm
structure Xs (R S B M C:Nat):Prop where
 r:fJ (R:Int) 8=true
 b:fJ (B:Int) 16=true
 m:fJ (M:Int) 1024=true
 c:fJ (C:Int) 64=true
theorem f9.p{R S B M C:Nat}(h:f9 R S B M C):Xs R S B M C:=by
 have h:=h.ok
 unfold jx at h
 simp only[Bool.and_eq_true,decide_eq_true_eq] at h
 obtain⟨⟨⟨⟨⟨⟨h1,h2⟩,h3⟩,h4⟩,h5⟩,h6⟩,h7⟩:=h
 exact⟨h1,h4,h5,h6⟩
theorem Xu(R S B M C:Nat)(hG:f9 R S B M C):aa dZ 80 #[.agg #[iN R,iN S,iN B,iN M,iN C]] [] [] N0 (λ_=> .bool true):=by
 have hP:=hG.p
 have hb5:=hG.bd
 have h8:=hb5.r8
 have h16:=hb5.b16
 have h10:=hb5.m10
 have h64:=hb5.c64
 have hal:=hb5.all
 have hq2:(R+S)*B*M≤4096:=jw (jg _ hb5.c1) hal
 have hq1:(R+S)*B≤4096:=jw (jg _ hb5.m1) hq2
 refine fG Tryz.func80 λw cs=>?_
 refine ra (λq1=>[(1,pt (B0 q1) 0),(2,.bool false)]) (λq1=>[ob (B0 q1) #[iN R,iN S,iN B,iN M,iN C] 170]) λq1=>rF [(1,.m (ld 0 (iN R))),(2,.c [] [] (wQ R 8 Om (by exact hP.r))),(6,.m (ld 0 (iN B))),(7,.c [] [] (wQ B 16 Om (by exact hP.b))),(12,.m (ld 0 (iN M))),(13,.c [] [] (wQ M 1024 Om (by exact hP.m))),(18,.m (ld 0 (iN C))),(19,.c [] [] (wQ C 64 Om (by exact hP.c))),(24,.m (ld 0 (iN S))),(25,.t (tk (show Value.bool (decide ((S:Int)<0))= .bool false from ALca Value.bool (by exact bj Om)))),(29,.m (ld 0 (iN S))),(31,.m (ld 0 (iN R))),(32,sI 8 ((R:Int)) Om),(33,.t (tk (show Value.bool (decide ((8-(R:Int))<(S:Int)))= .bool false from ALca Value.bool (by exact bj Om))))] 37 (r0 [(1,.m (ld 0 (iN R))),(3,.m (ld 0 (iN S))),(4,ad R S),(6,.m (ld 0 (iN B))),(7,ml (R+S) B),(9,.m (ld 0 (iN M))),(10,ml ((R+S)*B) M),(12,.m (ld 0 (iN C))),(13,ml (((R+S)*B)*M) C),] [(2,.bool (decide ((((((R+S)*B)*M)*C:Nat):Int)≤4096)))] [2] ?_)
 exact am (.bool (decide ((((((R+S)*B)*M)*C:Nat):Int)≤4096))) ab.zero (by exact ALca Value.bool (cC Om)) [] [] []
theorem Xv(r s b m c way res mode lr er lp ep room heavy log:Int)(back:Bool)(h:m0 r s b m c way res mode lr er lp ep room heavy log=false):aa dZ 47 #[.agg #[i6 r,i6 s,i6 b,i6 m,i6 c,i6 way,i6 res,i6 mode,i6 lr,i6 er,i6 lp,i6 ep,i6 room,i6 heavy,i6 log,.bool back]] [] [] N0 (λ_=> .bool false):=by
 refine fG Tryz.func47 λw cs=>?_
 exact ra (λq1=>[(1,pt (B0 q1) 0),(2,.bool false)]) (λq1=>[ob (B0 q1) #[i6 r,i6 s,i6 b,i6 m,i6 c,i6 way,i6 res,i6 mode,i6 lr,i6 er,i6 lp,i6 ep,i6 room,i6 heavy,i6 log,.bool back] 31]) λq1=>rr (λ_=>[(2,.l 0),(4,.s 1)]) (λq2=>[(3,pt (B3 q2) 0)]) [] (λq2 L=>L++[ob (B3 q2) #[i6 r,i6 s,i6 b,i6 m,i6 c] 23]) λq2=>r0 [(0,.m (ls 0 ([i6 r,i6 s,i6 b,i6 m,i6 c,i6 way,i6 res,i6 mode,i6 lr,i6 er,i6 lp,i6 ep,i6 room,i6 heavy,i6 log,.bool back]))),(1,.c [] [] (aa.v ((F6 r s b m c way res mode lr er lp ep room heavy log back)) λ_=>ALca Value.bool (show(m0 r s b m c way res mode lr er lp ep room heavy log)=false from(by exact h)))),(3,.d),(4,.d),(7,.d),(8,.d),(9,.d),(10,.d),(11,.d),(12,.d),(13,.d),(14,.d),(15,.d),(16,.d),(17,.d),(18,.d),(19,.d),(20,.d),(21,.d)] [(2,.bool false)] [2] (lf ab.zero [] [] [])
theorem Hw(c:Cf)(hcf:dd c):aa dZ 47 #[.agg (cA c)] [] [] N0 (λ_=> .bool (decide ((((((c.R+c.S)*c.B)*c.M)*c.C:Nat):Int)≤100))):=by
 have hG:=hcf.abc
 have hb5:=hG.bd
 have h8:=hb5.r8
 have hal:=hb5.all
 have hq2:(c.R+c.S)*c.B*c.M≤4096:=jw (jg _ hb5.c1) hal
 have hq1:(c.R+c.S)*c.B≤4096:=jw (jg _ hb5.m1) hq2
 refine fG Tryz.func47 λw cs=>?_
 exact ra (λq1=>[(1,pt (B0 q1) 0),(2,.bool false)]) (λq1=>[ob (B0 q1) (cA c) 31]) λq1=>rr (λ_=>[(2,.l 0),(4,.s 1)]) (λq2=>[(3,pt (B3 q2) 0)]) [] (λq2 L=>L++[ob (B3 q2) #[iN c.R,iN c.S,iN c.B,iN c.M,iN c.C] 23]) λq2=>r0 [(0,.m (ls 0 ([iN c.R,iN c.S,iN c.B,iN c.M,iN c.C,iN c.way,iN c.res,iN c.mode,iN c.lr,iN c.er,iN c.lp,iN c.ep,iN c.room,iN c.heavy,iN c.log,.bool c.back]))),(1,.c [] [] (z4 c hcf)),(3,.m (ls 1 ([iN c.R,iN c.S,iN c.B,iN c.M,iN c.C]))),(4,.c [] [] (Xu c.R c.S c.B c.M c.C hG)),(8,.m (ld 1 (iN c.R))),(10,.m (ld 1 (iN c.S))),(11,ad c.R c.S),(13,.m (ld 1 (iN c.B))),(14,ml (c.R+c.S) c.B),(16,.m (ld 1 (iN c.M))),(17,ml ((c.R+c.S)*c.B) c.M),(19,.m (ld 1 (iN c.C))),(20,ml (((c.R+c.S)*c.B)*c.M) c.C),] [(2,.bool (decide ((((((c.R+c.S)*c.B)*c.M)*c.C:Nat):Int)≤100)))] [2] (lf ab.zero [] [] [])
def oT(c:Cf):Bool:=decide ((c.R+c.S)*c.B*c.M*c.C≤100)
theorem Xw(r s b m c way res mode lr er lp ep room heavy log:Int)(back:Bool)(h:m0 r s b m c way res mode lr er lp ep room heavy log=false):aa dZ 12 #[.agg #[i6 r,i6 s,i6 b,i6 m,i6 c,i6 way,i6 res,i6 mode,i6 lr,i6 er,i6 lp,i6 ep,i6 room,i6 heavy,i6 log,.bool back]] [] [] N0 (λ_=> .pointer none):=by
 refine fG Tryz.func12 λw cs=>?_
 exact ra (λq1=>[(1,pt (B0 q1) 0),(2,.pointer none)]) (λq1=>[ob (B0 q1) #[i6 r,i6 s,i6 b,i6 m,i6 c,i6 way,i6 res,i6 mode,i6 lr,i6 er,i6 lp,i6 ep,i6 room,i6 heavy,i6 log,.bool back] 31]) λq1=>rT [(0,.l 0),(1,.c [] [] (Xv r s b m c way res mode lr er lp ep room heavy log back h))] 7 (r0 [] [(2,.pointer none)] [2] (lf ab.zero [] [] []))
theorem Hx(x:Int):aa dZ 173 #[i6 x] [] [] N0 (λ_=> .agg (rB 3 ([aO x,aO (x/256),(aO (x/65536))&&& (127:UInt8)])).toArray):=by
 refine fG Tryz.func173 λw cs=>?_
 exact ra (λq1=>[(2,pt (B0 q1) 0)]) (λq1=>[ob (B0 q1) (rB 3 (jh 3 0)).toArray 262]) λq1=>rs [(1,.t (tc (k:= .i64) (l:= .u8) (a:=i6 x) λ_ _ _ hS hT=>oY hS hT)),(3,.t (tv (ar .shr 3 (.tmp 5) (.const (u6 8)) (i6 x) (u6 8)) (λ_=>i8 8 Dc))),(4,.t (tc (k:= .i64) (l:= .u8) (a:=i6 (x/256)) λ_ _ _ hS hT=>oY hS hT)),(6,.t (tv (ar .shr 3 (.tmp 8) (.const (u6 16)) (i6 x) (u6 16)) (λ_=>i8 16 Dc))),(7,.t (tc (k:= .i64) (l:= .u8) (a:=i6 (x/65536)) λ_ _ _ hS hT=>oY hS hT)),(8,.t (tb (a:=u1 ((aO (x/65536)).toNat:Int)) (b:=u1 127) λ_ _ _ _=>xz (aO (x/65536)) ((127:UInt8)))),(10,.s 0)] 0 (ob (B0 q1) (rB 3 ([aO x,aO (x/256),(aO (x/65536))&&& (127:UInt8)])).toArray 262) (lf ab.zero [] [] [0])
def oV(mode:Nat)(a b:Int):Bool:=(bif (mode:Int)==1 then((pc ((a%8388608).toNat)%2:Nat):Int) != ((pc ((b%8388608).toNat)%2:Nat):Int) else !(decide ([aO a,aO (a/256),(aO (a/65536))&&& (127:UInt8)]=[aO b,aO (b/256),(aO (b/65536))&&& (127:UInt8)])))
theorem Xx(mode:Nat)(a b:Int):aa dZ 135 #[iN mode,i6 a,i6 b] [] [] N0 (λ_=> .bool (oV mode a b)):=by
 refine fG Tryz.func135 λw cs=>?_
 refine r0 [] [(6,.bool false)] [] (r0 [] [(8,.bool ((mode:Int)==1))] [] ?_)
 refine cZ (mode:Int) 1 (λh3 dh3=>?_) λh3 dh3=>?_
 ·refine r0 [(1,.c [] [] (vn a)),(3,.c [] [] (vn b))] [(6,.bool (((pc ((a%8388608).toNat)%2:Nat):Int) != ((pc ((b%8388608).toNat)%2:Nat):Int)))] [6] ?_
  exact am (.bool (((pc ((a%8388608).toNat)%2:Nat):Int) != ((pc ((b%8388608).toNat)%2:Nat):Int))) ab.zero (by((try simp only[oV]);(repeat (first | rw[h3] | rw[ALct])))<;>rfl) [] [] []
 refine r0 [(1,.c [] [] (Hx a)),(3,.c [] [] (Hx b)),(4,.t (i9 262 λ_ _ _=>jW (xs:=rB 3 ([aO a,aO (a/256),(aO (a/65536))&&& (127:UInt8)])) (ys:=rB 3 ([aO b,aO (b/256),(aO (b/65536))&&& (127:UInt8)])) Kr (jp (show([aO a,aO (a/256),(aO (a/65536))&&& (127:UInt8)]).length=3 by rfl) (show([aO b,aO (b/256),(aO (b/65536))&&& (127:UInt8)]).length=3 by rfl))))] [(6,.bool (!(decide ([aO a,aO (a/256),(aO (a/65536))&&& (127:UInt8)]=[aO b,aO (b/256),(aO (b/65536))&&& (127:UInt8)]))))] [6] ?_
 exact am (.bool (!(decide ([aO a,aO (a/256),(aO (a/65536))&&& (127:UInt8)]=[aO b,aO (b/256),(aO (b/65536))&&& (127:UInt8)])))) ab.zero (by((try simp only[oV]);(repeat (first | rw[h3] | rw[ALcf])))<;>rfl) [] [] []
def ZA(ex:Int)(x:Ac):Int:=(bif !(lV x) then max ex (bif x.mr then(x.ex+1) else x.ex) else ex)
def n4(ast:Bool)(x:Ac):Bool:=(bif !(lV x) then ast else true)
def tJ(dr:Bool)(x:Ac):Bool:=(bif !(lV x) then dr else(dr||x.dr)||(decide (0<x.ex)))
def tL(tl:Bool)(mode:Nat)(x:Ac):Bool:=(bif !(lV x) then tl else(bif ((!x.wr)&&(!x.dr))&&(!(oV mode x.ix x.wt)) then false else tl))
theorem Xy(ex:Int)(ast dr tl:Bool)(mode:Nat)(x:Ac)(h0:0≤x.ex)(h1:x.ex≤1000000):aa dZ 108 #[.agg #[i6 ex,.bool ast,.bool dr,.bool tl],iN mode,.agg #[.bool x.wr,i6 x.ix,i6 x.wt,.bool x.dr,i6 x.ex,.bool x.mr]] [] [] N0 (λ_=> .agg #[i6 (ZA ex x),.bool (n4 ast x),.bool (tJ dr x),.bool (tL tl mode x)]):=by
 refine fG Tryz.func108 λw cs=>?_
 refine ra (λq1=>[(3,pt (B0 q1) 0),(5,pt (B1 q1) 0),(6,pt (B2 q1) 0)]) (λq1=>[ob (B0 q1) #[i6 ex,.bool ast,.bool dr,.bool tl] 166,ob (B1 q1) #[.bool x.wr,i6 x.ix,i6 x.wt,.bool x.dr,i6 x.ex,.bool x.mr] 90,ob (B2 q1) #[i6 0,.bool false,.bool false,.bool false] 166]) λq1=>r0 [(0,.l 1),(1,.c [] [] (U2 x))] [(10,.bool (!(lV x)))] [] ?_
 refine cB (!(lV x)) (λh3=>?_) λh3=>?_
 ·refine r0 [(1,.l 1)] [(7,i6 x.ex)] [] ?_
  refine r0 [(1,.l 1)] [(14,.bool x.mr)] [] ?_
  refine cJ (x.mr) (λc=>[(7,i6 (bif c then(x.ex+1) else x.ex))]) (λ_=>[ob (B0 q1) #[i6 ex,.bool ast,.bool dr,.bool tl] 166,ob (B1 q1) #[.bool x.wr,i6 x.ix,i6 x.wt,.bool x.dr,i6 x.ex,.bool x.mr] 90,ob (B2 q1) #[i6 0,.bool false,.bool false,.bool false] 166]) (λh6=>?_) (λh6=>?_) ?_
  ·refine r0 [(1,aI x.ex (1) Om)] [(7,i6 (x.ex+1))] [7] ?_
   exact cm Kr [0,1,2] Kr
  ·exact cm Kr [0,1,2] Kr
  refine rs [(1,.l 0),(3,.t (tv (Builtin.max_ #[3,3] 3 #[i6 ex,i6 (bif x.mr then(x.ex+1) else x.ex)]) (λ_=>r6 _ _ _ _))),(5,.s 0)] 0 (ob (B0 q1) #[i6 (max ex (bif x.mr then(x.ex+1) else x.ex)),.bool ast,.bool dr,.bool tl] 166) (rs [(0,.l 0),(1,.s 2)] 2 (ob (B2 q1) #[i6 (max ex (bif x.mr then(x.ex+1) else x.ex)),.bool ast,.bool dr,.bool tl] 166) ?_)
  exact am (.agg #[i6 (max ex (bif x.mr then(x.ex+1) else x.ex)),.bool ast,.bool dr,.bool tl]) ab.zero (by((try simp only[ZA,n4,tJ,tL]);(repeat (first | rw[h3] | rw[ALct])))<;>rfl) [] [] [2]
 refine rs [(1,.s 0)] 0 (ob (B0 q1) #[i6 ex,.bool true,.bool dr,.bool tl] 166) (rs [(1,.m (ld 0 (.bool dr))),(5,.m (ld 1 (.bool x.dr))),(9,.m (ld 1 (i6 x.ex))),(13,.s 0)] 0 (ob (B0 q1) #[i6 ex,.bool true,.bool ((dr||x.dr)||(decide (0<x.ex))),.bool tl] 166) (r0 [(1,.m (ld 1 (.bool x.wr))),(6,.m (ld 1 (.bool x.dr))),(12,.m (ld 1 (i6 x.ix))),(15,.m (ld 1 (i6 x.wt))),(16,.c [] [] (Xx mode x.ix x.wt))] [(55,.bool (((!x.wr)&&(!x.dr))&&(!(oV mode x.ix x.wt))))] [] ?_))
 refine cJ (((!x.wr)&&(!x.dr))&&(!(oV mode x.ix x.wt))) N0 (λc=>[ob (B0 q1) #[i6 ex,.bool true,.bool ((dr||x.dr)||(decide (0<x.ex))),.bool (bif c then false else tl)] 166,ob (B1 q1) #[.bool x.wr,i6 x.ix,i6 x.wt,.bool x.dr,i6 x.ex,.bool x.mr] 90,ob (B2 q1) #[i6 0,.bool false,.bool false,.bool false] 166]) (λh13=>?_) (λh13=>?_) ?_
 ·refine rr (λ_=>[(1,.s 0)]) N0 [] (λ_ L=>L.set 0 (ob (B0 q1) #[i6 ex,.bool true,.bool ((dr||x.dr)||(decide (0<x.ex))),.bool false] 166)) λq14=>?_
  exact cm Kr [0,1,2] Kr
 ·exact cm Kr [0,1,2] Kr
 refine rs [(0,.l 0),(1,.s 2)] 2 (ob (B2 q1) #[i6 ex,.bool true,.bool ((dr||x.dr)||(decide (0<x.ex))),.bool (bif ((!x.wr)&&(!x.dr))&&(!(oV mode x.ix x.wt)) then false else tl)] 166) ?_
 exact am (.agg #[i6 ex,.bool true,.bool ((dr||x.dr)||(decide (0<x.ex))),.bool (bif ((!x.wr)&&(!x.dr))&&(!(oV mode x.ix x.wt)) then false else tl)]) ab.zero (by((try simp only[ZA,n4,tJ,tL]);(repeat (first | rw[h3] | rw[ALcf])))<;>rfl) [] [] [2]
section
variable {f:FuncId} {args:Array Value} {v:ab→Value} {g gc gl gr gm gq gk gt gg gd ge go:Nat} {c:Cf} {x:Mc} {y:Ct}
theorem tM(h:aa dZ f args [pk (aR gc gl gr gm gq gk gt gg gd ge go c x.x)] [0] (λ_=>[pk (aR gc gl gr gm gq gk gt gg gd ge go c x.x)]) v):aa dZ f args [pk (br g gc gl gr gm gq gk gt gg gd ge go c x)] [0] (λ_=>[pk (br g gc gl gr gm gq gk gt gg gd ge go c x)]) v:=
 aa.inW h λL ⟨gi,vj,vs,e⟩=>⟨1,by rw[e];rfl,gi,vj,vs,by rw[e];rfl⟩
theorem Zp(h:aa dZ f args [pk (aq gr gm gq y.s.r)] [0] (λ_=>[pk (aq gr gm gq y.s.r)]) v):aa dZ f args [pk (aR gc gl gr gm gq gk gt gg gd ge go c y)] [0] (λ_=>[pk (aR gc gl gr gm gq gk gt gg gd ge go c y)]) v:=
 aa.inW h λL ⟨u,e⟩=>⟨2,by rw[e];rfl,u,by rw[e];rfl⟩
theorem XA(h:aa dZ f args [pk (ay gg y.s.g)] [0] (λ_=>[pk (ay gg y.s.g)]) v):aa dZ f args [pk (aR gc gl gr gm gq gk gt gg gd ge go c y)] [0] (λ_=>[pk (aR gc gl gr gm gq gk gt gg gd ge go c y)]) v:=
 aa.inW h λL ⟨u,e⟩=>⟨4,by rw[e];rfl,u,by rw[e];rfl⟩
theorem Hy(h:aa dZ f args [pk (bl gd ge c y.V)] [0] (λ_=>[pk (bl gd ge c y.V)]) v):aa dZ f args [pk (aR gc gl gr gm gq gk gt gg gd ge go c y)] [0] (λ_=>[pk (aR gc gl gr gm gq gk gt gg gd ge go c y)]) v:=
 aa.inW h λL ⟨u,e⟩=>⟨6,by rw[e];rfl,u,by rw[e];rfl⟩
end
theorem aah(gc gl gr gm gq gk gt gg gd ge go:Nat)(c:Cf)(x:Ct):aa dZ 22 #[pt gc 0] [pk (aR gc gl gr gm gq gk gt gg gd ge go c x)] [0] (λ_=>[pk (aR gc gl gr gm gq gk gt gg gd ge go c x)]) (λ_=>pt gr 0):=aa.pkZ Tryz.func22 λL hL=>by
 obtain⟨v,rfl⟩:=hL
 refine⟨[2,3,4,5,6,7],λ_=>[pk (aq gr gm gq x.s.r),pk (aC gk gt x.s.k),pk (ay gg x.s.g),pk (dV go),pk (bl gd ge c x.V),ce v x.ns],?_,rfl,λE=>⟨rfl,rfl,⟨_,rfl⟩⟩⟩
 refine fG Tryz.func22 λw cs=>?_
 exact r0 [] [(2,.pointer none)] [] (r0 [(3,.l 0),(6,.l 1)] [(2,pt gr 0)] [2] (lf ab.zero [2,3,4,5,6,7] [(0,0),(1,1)] []))
theorem XB(gc gl gr gm gq gk gt gg gd ge go:Nat)(c:Cf)(x:Ct):aa dZ 14 #[pt gc 0] [pk (aR gc gl gr gm gq gk gt gg gd ge go c x)] [0] (λ_=>[pk (aR gc gl gr gm gq gk gt gg gd ge go c x)]) (λ_=>pt gg 0):=aa.pkZ Tryz.func14 λL hL=>by
 obtain⟨v,rfl⟩:=hL
 refine⟨[2,3,4,5,6,7],λ_=>[pk (aq gr gm gq x.s.r),pk (aC gk gt x.s.k),pk (ay gg x.s.g),pk (dV go),pk (bl gd ge c x.V),ce v x.ns],?_,rfl,λE=>⟨rfl,rfl,⟨_,rfl⟩⟩⟩
 refine fG Tryz.func14 λw cs=>?_
 exact r0 [] [(2,.pointer none)] [] (r0 [(3,.l 0),(6,.l 1)] [(2,pt gg 0)] [2] (lf ab.zero [2,3,4,5,6,7] [(0,0),(1,1)] []))
theorem XC(g gc gl gr gm gq gk gt gg gd ge go:Nat)(c:Cf)(x:Mc):aa dZ 13 #[pt g 0] [pk (br g gc gl gr gm gq gk gt gg gd ge go c x)] [0] (λ_=>[pk (br g gc gl gr gm gq gk gt gg gd ge go c x)]) (λ_=>pt gc 0):=aa.pkZ Tryz.func13 λL hL=>by
 obtain⟨gi,vj,vs,rfl⟩:=hL
 refine⟨[1,2,3,4],λ_=>[pk (aR gc gl gr gm gq gk gt gg gd ge go c x.x),cY x.id gi,gz vj x.inj,db vs x.sv],?_,rfl,λE=>⟨rfl,rfl,⟨_,_,_,rfl⟩⟩⟩
 refine fG Tryz.func13 λw cs=>?_
 exact r0 [] [(2,.pointer none)] [] (r0 [(3,.l 0)] [(2,pt gc 0)] [2] (lf ab.zero [1,2,3,4] [(0,0)] []))
theorem AJ(g gc gl gr gm gq gk gt gg gd ge go:Nat)(c:Cf)(x:Mc):aa dZ 30 #[pt g 0] [pk (br g gc gl gr gm gq gk gt gg gd ge go c x)] [0] (λ_=>[pk (br g gc gl gr gm gq gk gt gg gd ge go c x)]) (λ_=>pt gd 0):=aa.pkZ Tryz.func30 λL hL=>by
 obtain⟨gi,vj,vs,rfl⟩:=hL
 refine⟨[1,2,3,4],λ_=>[pk (aR gc gl gr gm gq gk gt gg gd ge go c x.x),cY x.id gi,gz vj x.inj,db vs x.sv],?_,rfl,λE=>⟨rfl,rfl,⟨_,_,_,rfl⟩⟩⟩
 refine fG Tryz.func30 λw cs=>?_
 exact r0 [] [(2,.pointer none)] [] (r0 [(3,.l 0)] [(2,pt gd 0)] [2] (lf ab.zero [1,2,3,4] [(0,0)] []))
theorem aai(g gc gl gr gm gq gk gt gg gd ge go:Nat)(c:Cf)(x:Mc):aa dZ 22 #[pt gc 0] [pk (br g gc gl gr gm gq gk gt gg gd ge go c x)] [0] (λ_=>[pk (br g gc gl gr gm gq gk gt gg gd ge go c x)]) (λ_=>pt gr 0):=tM (aah gc gl gr gm gq gk gt gg gd ge go c x.x)
theorem XD(g gc gl gr gm gq gk gt gg gd ge go:Nat)(c:Cf)(x:Mc):aa dZ 14 #[pt gc 0] [pk (br g gc gl gr gm gq gk gt gg gd ge go c x)] [0] (λ_=>[pk (br g gc gl gr gm gq gk gt gg gd ge go c x)]) (λ_=>pt gg 0):=tM (XB gc gl gr gm gq gk gt gg gd ge go c x.x)
theorem XE(g gc gl gr gm gq gk gt gg gd ge go:Nat)(c:Cf)(x:Mc):aa dZ 20 #[pt gg 0] [pk (br g gc gl gr gm gq gk gt gg gd ge go c x)] [0] (λ_=>[pk (br g gc gl gr gm gq gk gt gg gd ge go c x)]) (λ_=>iN x.x.s.g.l.length):=tM (XA (FR gg x.x.s.g))
theorem aaj(g gc gl gr gm gq gk gt gg gd ge go:Nat)(c:Cf)(x:Mc)(hr:aN x.x.s.r):aa dZ 23 #[pt gr 0] [pk (br g gc gl gr gm gq gk gt gg gd ge go c x)] [0] (λ_=>[pk (br g gc gl gr gm gq gk gt gg gd ge go c x)]) (λ_=>pt gm 0):=tM (Zp (v4 gr gm gq x.x.s.r hr))
theorem aak(g gc gl gr gm gq gk gt gg gd ge go:Nat)(c:Cf)(x:Mc)(hr:aN x.x.s.r):aa dZ 63 #[pt gm 0] [pk (br g gc gl gr gm gq gk gt gg gd ge go c x)] [0] (λ_=>[pk (br g gc gl gr gm gq gk gt gg gd ge go c x)]) (λ_=> .agg #[iN x.x.s.r.m.R,iN x.x.s.r.m.S,iN x.x.s.r.m.B,iN x.x.s.r.m.M,iN x.x.s.r.m.C,iN x.x.s.r.m.way,iN x.x.s.r.m.res]):=tM (Zp (F7 gr gm gq x.x.s.r hr))
theorem aal(g gc gl gr gm gq gk gt gg gd ge go:Nat)(c:Cf)(x:Mc)(hr:aN x.x.s.r)(p:Nat)(hp:p<x.x.s.r.m.R*x.x.s.r.m.B*x.x.s.r.m.M):aa dZ 25 #[pt gm 0,iN p] [pk (br g gc gl gr gm gq gk gt gg gd ge go c x)] [0] (λ_=>[pk (br g gc gl gr gm gq gk gt gg gd ge go c x)]) (λ_=> .bool (x.x.s.r.m.aa4.getD p false)):=tM (Zp (Z7 gr gm gq x.x.s.r hr p hp))
theorem aam(g gc gl gr gm gq gk gt gg gd ge go:Nat)(c:Cf)(x:Mc)(hr:aN x.x.s.r)(p:Nat)(hp:p<x.x.s.r.m.R):aa dZ 26 #[pt gm 0,iN p] [pk (br g gc gl gr gm gq gk gt gg gd ge go c x)] [0] (λ_=>[pk (br g gc gl gr gm gq gk gt gg gd ge go c x)]) (λ_=> .tuple #[i6 (kT x.x.s.r.m p),.bool (dM x.x.s.r.m p)]):=tM (Zp (Z8 gr gm gq x.x.s.r hr p hp))
theorem aan(g gc gl gr gm gq gk gt gg gd ge go:Nat)(c:Cf)(x:Mc)(hr:aN x.x.s.r)(p:Nat)(hp:p<x.x.s.r.m.R*x.x.s.r.m.B*x.x.s.r.m.M):aa dZ 64 #[pt gm 0,iN p] [pk (br g gc gl gr gm gq gk gt gg gd ge go c x)] [0] (λ_=>[pk (br g gc gl gr gm gq gk gt gg gd ge go c x)]) (λ_=> .tuple #[i6 (bD x.x.s.r.m p:Int),i6 0]):=tM (Zp (Ty gr gm gq x.x.s.r hr p hp))
theorem XF(g gc gl gr gm gq gk gt gg gd ge go:Nat)(c:Cf)(x:Mc):aa dZ 42 #[pt gd 0] [pk (br g gc gl gr gm gq gk gt gg gd ge go c x)] [0] (λ_=>[pk (br g gc gl gr gm gq gk gt gg gd ge go c x)]) (λ_=>iN x.x.V.l.length):=tM (lX gc gl gr gm gq gk gt gg gd ge go c x.x)
theorem XG(g gc gl gr gm gq gk gt gg gd ge go:Nat)(c:Cf)(x:Mc):aa dZ 36 #[pt gd 0] [pk (br g gc gl gr gm gq gk gt gg gd ge go c x)] [0] (λ_=>[pk (br g gc gl gr gm gq gk gt gg gd ge go c x)]) (λ_=>pt ge 0):=tM (Hy (Au gd ge c x.x.V))
theorem aao(g gc gl gr gm gq gk gt gg gd ge go:Nat)(c:Cf)(x:Mc)(hV:nX c x.x.V):aa dZ 43 #[pt gd 0] [pk (br g gc gl gr gm gq gk gt gg gd ge go c x)] [0] (λ_=>[pk (br g gc gl gr gm gq gk gt gg gd ge go c x)]) (λ_=> .bool (x.x.V.l.any lV)):=tM (Hy (aac gd ge c x.x.V hV))
theorem XH(g gc gl gr gm gq gk gt gg gd ge go:Nat)(c:Cf)(x:Mc):aa dZ 107 #[pt ge 0] [pk (br g gc gl gr gm gq gk gt gg gd ge go c x)] [0] (λ_=>[pk (br g gc gl gr gm gq gk gt gg gd ge go c x)]) (λ_=>iN c.mode):=tM (Hy (Hr gd ge c x.x.V))
end Go.Proofs.YtbcodenfkijdnaaGreat.E
namespace Go.Proofs.YtbcodenfkijdnaaGreat.E
open Go Go.RowKit Go.Shelf
open List renaming sublist_append_right→dZ,sublist_append_left→eF,flatten→ir,length_range→jg,length_map→jh
theorem XI{α:Type}{a b f0 f1 f2 f3 f4 e0 e1 e2 e3 e4 e5 e7 d0 d2 d3 d4:List α}:(ir [a,b,f0,f4]).Sublist (ir [a,b,([d0,([e0,e1,e2,e3,e4,e5,([f0,f1,f2,f3,f4]:List (List α)).flatten,e7]:List (List α)).flatten,d2,d3,d4]:List (List α)).flatten]):=by
 simp only[List.flatten_cons,List.flatten_nil,List.append_nil]
 refine List.Sublist.append (List.Sublist.refl _) (List.Sublist.append (List.Sublist.refl _) ?_)
 have h1:(f0++f4).Sublist (f0++(f1++(f2++(f3++f4)))):=List.Sublist.append (List.Sublist.refl _) ((dZ f3 f4).trans ((dZ f2 _).trans (dZ f1 _)))
 have h2:(f0++(f1++(f2++(f3++f4)))).Sublist (f0++(f1++(f2++(f3++f4)))++e7):=eF _ _
 have h3:(f0++(f1++(f2++(f3++f4)))++e7).Sublist (e0++(e1++(e2++(e3++(e4++(e5++(f0++(f1++(f2++(f3++f4)))++e7))))))):=
  (dZ e5 _).trans ((dZ e4 _).trans ((dZ e3 _).trans ((dZ e2 _).trans ((dZ e1 _).trans (dZ e0 _)))))
 exact(h1.trans (h2.trans h3)).trans ((eF _ _).trans (dZ d0 _))
theorem XJ(b1 b2 n g gc gl gr gm gq gk gt gg gd ge go:Nat)(c:Cf)(x:Mc)(hl:x.x.V.l.length≤1000000)(hn5:n≤1000000)(bs:aw)(h:r7 (br g gc gl gr gm gq gk gt gg gd ge go c x) bs):fy 5 Tryz.prog 60 #[pt b1 0,pt b2 0] (λ(x:Nat×Ac)=>#[i6 (x.1:Int),.agg #[.bool (x.2.wr),i6 (x.2.ix),i6 (x.2.wt),.bool (x.2.dr),i6 (x.2.ex),.bool (x.2.mr)]]) ((List.range (x.x.V.l.length-n)).map λk=>(n+k,x.x.V.l.getD (n+k) dO)) (ir [[(b1,.cells #[iN n] 3 (0,0))],[(b2,.cells #[pt gd 0] 84 (0,0))],bs]):=by
 obtain⟨L,ds,⟨gi,vj,vs,rfl⟩,hs,rfl⟩:=h
 obtain⟨d0,_,rfl,h0,hs⟩:=eG hs
 obtain⟨d1,_,rfl,h1,hs⟩:=eG hs
 obtain⟨d2,_,rfl,h2,hs⟩:=eG hs
 obtain⟨d3,_,rfl,h3,hs⟩:=eG hs
 obtain⟨d4,_,rfl,h4,hs⟩:=eG hs
 obtain rfl:=o0 hs
 obtain⟨L1,es,⟨v1,rfl⟩,he,rfl⟩:=h1
 obtain⟨e0,_,rfl,i0,he⟩:=eG he
 obtain⟨e1,_,rfl,i1,he⟩:=eG he
 obtain⟨e2,_,rfl,i2,he⟩:=eG he
 obtain⟨e3,_,rfl,i3,he⟩:=eG he
 obtain⟨e4,_,rfl,i4,he⟩:=eG he
 obtain⟨e5,_,rfl,i5,he⟩:=eG he
 obtain⟨e6,_,rfl,i6',he⟩:=eG he
 obtain⟨e7,_,rfl,i7,he⟩:=eG he
 obtain rfl:=o0 he
 obtain⟨L2,fs,⟨gm',gk',v,rfl⟩,hf,rfl⟩:=i6'
 obtain⟨f0,_,rfl,j0,hf⟩:=eG hf
 obtain⟨f1,_,rfl,j1,hf⟩:=eG hf
 obtain⟨f2,_,rfl,j2,hf⟩:=eG hf
 obtain⟨f3,_,rfl,j3,hf⟩:=eG hf
 obtain⟨f4,_,rfl,j4,hf⟩:=eG hf
 obtain rfl:=o0 hf
 obtain rfl:f0=_:=j0
 exact(U0 b1 b2 gd ge gm' gk' n v x.x.V.l f4 (ap.sq j4) hl hn5).mono XI
structure Lk where
 ex:Int
 ast:Bool
 dr:Bool
 tl:Bool
def XK:Lk:=⟨0,false,false,true⟩
def Hz(mode:Nat)(l:Lk)(x:Ac):Lk:=⟨ZA l.ex x,n4 l.ast x,tJ l.dr x,tL l.tl mode x⟩
def cq(mode:Nat)(l:List Ac):Nat→Lk
 | 0=>XK
 | k+1=>Hz mode (cq mode l k) (l.getD (0+k) dO)
theorem AK(mode:Nat)(l:List Ac)(k:Nat):cq mode l (k+1)=Hz mode (cq mode l k) (l.getD (0+k) dO):=rfl
theorem XL(mode:Nat)(l:List Ac):cq mode l 0=⟨0,false,false,true⟩:=rfl
attribute [local irreducible] cq
theorem XM(g gc gl gr gm gq gk gt gg gd ge go:Nat)(c:Cf)(x:Mc)(hl:x.x.V.l.length≤900000)(hx: ∀k,0≤(x.x.V.l.getD k dO).ex∧(x.x.V.l.getD k dO).ex≤1000000):aa Tryz.prog 77 #[pt g 0,i6 0,iN x.x.V.l.length] [pk (br g gc gl gr gm gq gk gt gg gd ge go c x)] [0] (λ_=>[pk (br g gc gl gr gm gq gk gt gg gd ge go c x)]) (λ_=> .agg #[i6 ((cq c.mode x.x.V.l (x.x.V.l.length-0)).ex),.bool ((cq c.mode x.x.V.l (x.x.V.l.length-0)).ast),.bool ((cq c.mode x.x.V.l (x.x.V.l.length-0)).dr),.bool ((cq c.mode x.x.V.l (x.x.V.l.length-0)).tl)]):=by
 refine fG Tryz.func77 λw cs=>?_
 refine ra (λq1=>[(5,pt (B0 q1) 0),(6,pt (B1 q1) 0)]) (λq1=>[ob (B0 q1) #[iN x.x.V.l.length] 3,ob (B1 q1) #[i6 0,.bool false,.bool false,.bool false] 166]) λq1=>rr (λ_=>[(2,.s 3)]) (λq2=>[(7,pt (B1 q2) 0)]) [] (λq2 L=>L++[ob (B1 q2) #[i6 0,.bool false,.bool false,.bool true] 166]) λq2=>rr (λ_=>[(1,.c [0] [0] (AJ g gc gl gr gm gq gk gt gg gd ge go c x)),(2,.c [0] [0] (XG g gc gl gr gm gq gk gt gg gd ge go c x)),(3,.c [0] [0] (XH g gc gl gr gm gq gk gt gg gd ge go c x)),(5,.s 4)]) (λq3=>[(8,pt (B4 q3) 0)]) [] (λq3 L=>L++[ob (B4 q3) #[iN c.mode] 3]) λq3=>rr (λ_=>[(1,.c [0] [0] (AJ g gc gl gr gm gq gk gt gg gd ge go c x)),(3,.c [] [5,6] (U1 gd 0))]) (λq4=>[(19,.func (.func 60) #[] #[pt ((B3 q4)) 0,pt (((q4 3).abd 1)) 0])]) [] (λq4 L=>L++[ob (B3 q4) #[i6 ((0:Nat):Int)] 3,ob ((q4 3).abd 1) #[pt gd 0] 84]) λq4=>?_
 refine ck 0 (r7 (br g gc gl gr gm gq gk gt gg gd ge go c x)) (λbK5 hK6=>?_)
 refine ph (encs:=λ(x:Nat×Ac)=>#[i6 (x.1:Int),.agg #[.bool (x.2.wr),i6 (x.2.ix),i6 (x.2.wt),.bool (x.2.dr),i6 (x.2.ex),.bool (x.2.mr)]]) (xs:=(List.range (x.x.V.l.length-0)).map (λk=>(0+k,x.x.V.l.getD (0+k) dO))) (KO:=[[((B3 q4),.cells #[i6 ((0:Nat):Int)] 3 (0,0))],[(((q4 3).abd 1),.cells #[pt gd 0] 84 (0,0))],bK5]) (XJ (B3 q4) ((q4 3).abd 1) 0 g gc gl gr gm gq gk gt gg gd ge go c x Om Om bK5 hK6) (enters_of Tryz.func60 Kr rfl) (λk=>k≤x.x.V.l.length-0) (λk L=>L.set 3 (ob (B1 q2) #[i6 ((cq c.mode x.x.V.l k).ex),.bool ((cq c.mode x.x.V.l k).ast),.bool ((cq c.mode x.x.V.l k).dr),.bool ((cq c.mode x.x.V.l k).tl)] 166)) [5,6,0] Om (by rw[XL];kernel_rfl) (λlR k xE R1 W1 hxE hk8=>?_) (λD7 hk8=>?_)
 ·obtain⟨hkb9,rfl⟩:=oh hxE
  have hkb0:=hkb9
  have hxk:=hx (0+k)
  refine r0 [] [(9,i6 ((0+k:Nat):Int))] [] (rr (λ_=>[(1,.s 7)]) (λq11=>[(10,pt (B0 q11) 0)]) [] (λq11 L=>L++[ob (B0 q11) #[.bool ((x.x.V.l.getD (0+k) dO).wr),i6 ((x.x.V.l.getD (0+k) dO).ix),i6 ((x.x.V.l.getD (0+k) dO).wt),.bool ((x.x.V.l.getD (0+k) dO).dr),i6 ((x.x.V.l.getD (0+k) dO).ex),.bool ((x.x.V.l.getD (0+k) dO).mr)] 90]) λq11=>?_)
  refine ag [5,6,0] (λR2 W2=>?_)
  refine rF [(1,.l 1),(2,.t (tk (show Value.bool (decide ((x.x.V.l.length:Int)≤((0+k:Nat):Int)))= .bool false from ALca Value.bool (by exact bj Om))))] 24 (rs [(0,.l 3),(1,.l 4),(2,.l 7),(3,.c [] [] (Xy ((cq c.mode x.x.V.l k).ex) ((cq c.mode x.x.V.l k).ast) ((cq c.mode x.x.V.l k).dr) ((cq c.mode x.x.V.l k).tl) c.mode (x.x.V.l.getD (0+k) dO) Om Om)),(4,.s 3)] 3 (ob (B1 q2) #[i6 (ZA ((cq c.mode x.x.V.l k).ex) (x.x.V.l.getD (0+k) dO)),.bool (n4 ((cq c.mode x.x.V.l k).ast) (x.x.V.l.getD (0+k) dO)),.bool (tJ ((cq c.mode x.x.V.l k).dr) (x.x.V.l.getD (0+k) dO)),.bool (tL ((cq c.mode x.x.V.l k).tl) c.mode (x.x.V.l.getD (0+k) dO))] 166) ?_)
  exact ne _ ⟨Om,rfl⟩ [0,1,2,3,4,5,6] (by rw[AK];kernel_rfl)
 refine cl [.c bK5,ob (B0 q1) #[iN x.x.V.l.length] 3,ob (B1 q1) #[i6 0,.bool false,.bool false,.bool false] 166,ob (B1 q2) #[i6 ((cq c.mode x.x.V.l (x.x.V.l.length-0)).ex),.bool ((cq c.mode x.x.V.l (x.x.V.l.length-0)).ast),.bool ((cq c.mode x.x.V.l (x.x.V.l.length-0)).dr),.bool ((cq c.mode x.x.V.l (x.x.V.l.length-0)).tl)] 166,ob (B4 q3) #[iN c.mode] 3,ob (B3 q4) #[i6 ((0:Nat):Int)] 3,ob ((q4 3).abd 1) #[pt gd 0] 84] (by rw[jh,jg];kernel_rfl) ?_
 simp only[jh,jg] at hk8
 refine cw 0 (.c bK5) ((pk (br g gc gl gr gm gq gk gt gg gd ge go c x))) (cP hK6) ?_
 exact rs [(0,.l 3),(1,.s 2)] 2 (ob (B1 q1) #[i6 ((cq c.mode x.x.V.l (x.x.V.l.length-0)).ex),.bool ((cq c.mode x.x.V.l (x.x.V.l.length-0)).ast),.bool ((cq c.mode x.x.V.l (x.x.V.l.length-0)).dr),.bool ((cq c.mode x.x.V.l (x.x.V.l.length-0)).tl)] 166) (lf ab.zero [0] [] [2])
end Go.Proofs.YtbcodenfkijdnaaGreat.E
