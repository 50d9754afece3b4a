/- WholeLater, in 7 texts: part 6. For every input; no condition. -/
import Derived.Test.YtbcodenfkijdnaaGreatPl5
set_option linter.unusedVariables false
set_option linter.unusedSimpArgs false
set_option maxRecDepth 100000
namespace Go.Proofs.YtbcodenfkijdnaaGreat
open Go Go.RowKit Go.Shelf
open List renaming replicate→WJ,take_append_drop→WK,mem_cons_of_mem→WL,mem_cons_self→WM,length_append→WN,getD_eq_getElem?_getD→WO,not_mem_nil→WR,map_cons→WS
open Nat renaming add_sub_cancel'→WQ
namespace E
section
structure dM (c:Cf) (S:Nat→Prop) (x y:Ct):Prop where
 s:x.s=y.s
 U:x.U=y.U
 cl: ∀i:Nat,¬S i→x.V.D.cells (i:Int)=y.V.D.cells (i:Int)
 co:x.V.D.H=y.V.D.H
 ls: ∃F:List Fa,x.V.D.W=y.V.D.W++F∧∀f∈F,∀i:Nat,fT c.R c.S c.B c.M c.C i→¬S i→∀xs,k4 c.E ((i:Int)/1048576) ((i:Int)/65536%16) ((i:Int)/64%1024) ((i:Int)%64) xs f=xs
section
variable {c:Cf} {S:Nat→Prop} {x y:Ct} {K A:Nat}
theorem GY{α β:Type}{f:β→α→β}: ∀(l:List α) (b:β),(∀a∈l,∀b,f b a=b)→l.foldl f b=b
 | [],_,_=>rfl
 | a::l,b,h=>by rw[List.foldl_cons,h a WM];exact GY l b λz d=>h z (WL _ d)
theorem dM.raw(h:dM c S x y)(a:y.V.D.H=[]){i:Nat}(m:fT c.R c.S c.B c.M c.C i)(hs: ¬S i):kg c x i=kg c y i:=by
 have d:x.V.D.H=[]:=h.co.trans a;have g:b7 x.V.D=false:=by unfold b7;rw[d];rfl
 have j:b7 y.V.D=false:=by unfold b7;rw[a];rfl
 have n:aV x.V.D (i:Int)=(i:Int):=by unfold aV;rw[d];rfl
 have o:aV y.V.D (i:Int)=(i:Int):=by unfold aV;rw[a];rfl
 obtain⟨F,e,k⟩:=h.ls;unfold kg b9;rw[g,j,n,o,ALcf,ALcf];show iR c.E _ _ _ _ (x.V.D.cells (i:Int)) x.V.D.W=iR c.E _ _ _ _ (y.V.D.cells (i:Int)) y.V.D.W;rw[h.cl i hs,e];unfold iR;rw[List.foldl_append];exact GY F _ λf l b=>k f l i m hs b
theorem dM.vd(h:dM c S x y)(d:y.V.D.H=[]){i:Nat}(e:fT c.R c.S c.B c.M c.C i)(hs: ¬S i):bB c x i=bB c y i∧cC c x i=cC c y i∧∀b r,iB c x i b r=iB c y i b r:=by
 have a:=h.raw d e hs;refine⟨?_,?_,λb r=>?_⟩
 ·unfold bB;rw[a]
 ·unfold cC;rw[a]
 ·unfold iB bB;rw[a]
theorem dM.rt(h:dM c S x y)(n:Nat):aU x n=aU y n∧jP x n=jP y n∧jR x n=jR y n:=by unfold aU jP jR;rw[h.s];exact⟨rfl,rfl,rfl⟩
theorem dM.tak(h:dM c S x y)(b:y.V.D.H=[]){i:Nat}(d:fT c.R c.S c.B c.M c.C i)(hs: ¬S i)(a r:Nat):dM c S (bZ c x i a r) (bZ c y i a r):=by
 have e:=(h.vd b d hs).2.2 a r;refine⟨?_,h.U,h.cl,?_,h.ls⟩
 ·show(⟨(cH c.J x.s (iB c x i a r)).r,(cH c.J x.s (iB c x i a r)).k,(cH c.J x.s (iB c x i a r)).g,x.s.time⟩:Le)=⟨(cH c.J y.s (iB c y i a r)).r,(cH c.J y.s (iB c y i a r)).k,(cH c.J y.s (iB c y i a r)).g,y.s.time⟩;rw[e,h.s]
 ·show x.V.D.H.drop 1=y.V.D.H.drop 1;rw[h.co]
theorem dM.put(h:dM c S x y)(i:Nat)(l:List UInt8)(p:Bool):dM c S (nH c x i l p) (nH c y i l p):=by
 have d:b7 x.V.D=b7 y.V.D:=by unfold b7;rw[h.co]
 have w:aV x.V.D (i:Int)=aV y.V.D (i:Int):=by unfold aV;rw[h.co]
 refine⟨h.s,h.U,λk a=>?_,?_,h.ls⟩
 ·show(bif !(b7 x.V.D) then dC x.V.D.cells (aV x.V.D (i:Int)) (fS c.E l (i:Int) p) else x.V.D.cells) (k:Int)=(bif !(b7 y.V.D) then dC y.V.D.cells (aV y.V.D (i:Int)) (fS c.E l (i:Int) p) else y.V.D.cells) (k:Int);rw[d,w];cases b7 y.V.D
  ·show(if(k:Int)=aV y.V.D (i:Int) then _ else x.V.D.cells (k:Int))=(if(k:Int)=aV y.V.D (i:Int) then _ else y.V.D.cells (k:Int));rw[h.cl k a]
  ·exact h.cl k a
 ·show x.V.D.H.drop 1=y.V.D.H.drop 1;rw[h.co]
theorem dM.fix{a b:Ct}(g:dM c S x y)(h:dM c S a b):dM c S (ki x a) (ki y b):=by
 refine⟨?_,g.U,h.cl,h.co,h.ls⟩;show(⟨a.s.r,a.s.k,a.s.g,x.s.time⟩:Le)=⟨b.s.r,b.s.k,b.s.g,y.s.time⟩;rw[h.s,g.s]
theorem zY(a:bp c x K A)(b:eF S x){n:Nat}(d:n<gC c):fT c.R c.S c.B c.M c.C (aU x n)∧¬S (aU x n):=⟨(Fh a.s.r.m a.s.r.j (a.ln d)).lay a.ly,λe=>GQ b.rp a.s.r (a.ln d) (b.gn _ e)⟩
theorem dM.rea(h:dM c S x y)(a:y.V.D.H=[])(k:bp c x K A)(l:eF S x){n:Nat}(m:n<gC c)(b:Bool):dM c S (cu c x n b) (cu c y n b)∧bB c x (aU x n)=bB c y (aU y n)∧cC c x (aU x n)=cC c y (aU y n):=by
 obtain⟨e,f⟩:=zY k l m;obtain⟨d,i,j⟩:=h.rt n;have hv:=h.vd a e f;have g:=h.tak a e f (jP x n) (jR x n);rw[←d];refine⟨?_,hv.1,hv.2.1⟩;unfold cu jS;rw[←d,←i,←j,←hv.1,←hv.2.1];cases (((bB c x (aU x n):Nat):Int)==1)&&b
 ·exact h.fix g
 ·exact h.fix (g.put _ _ _)
theorem dM.msk(h:dM c S x y)(a:y.V.D.H=[])(j:bp c x K A)(k:eF S x){n:Nat}(o:n<gC c)(l:List UInt8)(m:Nat):dM c S (bG c x n l m) (bG c y n l m)∧cd c x n m=cd c y n m:=by
 obtain⟨d,e⟩:=zY j k o;obtain⟨b,g,i⟩:=h.rt n;have hv:=h.vd a d e;have f:=h.tak a d e (jP x n) (jR x n);refine⟨?_,by unfold cd;rw[←b,←hv.1]⟩;unfold bG jS;rw[←b,←g,←i,←hv.1,←hv.2.1];refine h.fix ?_;cases (m:Int)==0
 ·cases decide (pc m=64)
  ·cases !(cc (bB c x (aU x n))==0)
   ·exact f.put _ _ _
   ·exact f.put _ _ _
  ·exact h.put _ _ _
 ·exact h
theorem dM.cpy(h:dM c S x y)(b:y.V.D.H=[])(g:bp c x K A)(i:eF S x)(m:x.s.r.j.A≠0):dM c S (iC c x) (iC c y):=by
 have j:l7 x=l7 y:=by unfold l7;rw[h.s]
 have k:l0 x=l0 y:=by unfold l0;rw[h.s]
 have l:ox x=ox y:=by unfold ox;rw[h.s]
 have a:dM c S (jx c x) (jx c y):=by
  unfold jx sJ;rw[←j,←k,←l,←h.s];cases p:l7 x
  ·exact h.put _ _ _
  ·obtain⟨n,o,e⟩:=GL g i.rp m p;obtain⟨d,f⟩:=zY g i o;rw[e] at d f;have hv:=h.vd b d f;rw[←hv.1,←hv.2.1];exact(h.tak b d f _ _).put _ _ _
 refine h.fix ⟨?_,a.U,a.cl,a.co,a.ls⟩;show gK (jx c x).s=gK (jx c y).s;rw[a.s]
end
theorem VZ{S:Nat→Prop}{c:Cf}{x y:Mc}{K A N:Nat}(h:ez c x K A N)(p:eF S x.x)(a:dM c S x.x y.x)(d:y.x.V.D.H=[]){s:St}(q:s.k≠8):dM c S (dA c x s).x (dA c y s).x∧db c x s=db c y s:=by
 unfold dA db;by_cases o:sR s=true
 ·rw[ALifp o,ALifp o,ALifp o,ALifp o];by_cases k:s.k=4
  ·rw[ALifp k,ALifp k,ALifp k,ALifp k];have t:dM c S (iS c x.x) (iS c y.x):=⟨a.s,by show(x.x.U+1)%_=(y.x.U+1)%_;rw[a.U],a.cl,a.co,a.ls⟩;have f:=t.rea d (vG h.ct) ⟨p.rp,p.gn⟩ h.ct.U true;refine⟨?_,?_⟩
   ·show dM c S (cu c (iS c x.x) x.x.U true) (cu c (iS c y.x) y.x.U true);rw[←a.U];exact f.1
   ·rw[←a.U,f.2.1]
  rw[ALifn k,ALifn k,ALifn k,ALifn k];by_cases l:s.k=5
  ·rw[ALifp l,ALifp l,ALifp l,ALifp l];have e:y.x.s.r.j.A=x.x.s.r.j.A:=by rw[a.s]
   by_cases b:x.x.s.r.j.A=0
   ·rw[ALifp b,ALifp (e.trans b),ALifp b,ALifp (e.trans b)];exact⟨a,rfl⟩
   ·rw[ALifn b,ALifn (e▸b),ALifn b,ALifn (e▸b)];exact⟨a.cpy d h.ct p b,rfl⟩
  rw[ALifn l,ALifn l,ALifn l,ALifn l];by_cases m:s.k=6
  ·rw[ALifp m,ALifp m,ALifp m,ALifp m];refine⟨⟨?_,a.U,a.cl,a.co,a.ls⟩,rfl⟩;show vy x.x.s=vy y.x.s;rw[a.s]
  rw[ALifn m,ALifn m,ALifn m,ALifn m];by_cases n:s.k=7
  ·rw[ALifp n,ALifp n,ALifp n,ALifp n];refine⟨⟨?_,a.U,a.cl,a.co,a.ls⟩,?_⟩
   ·show vz x.x.s=vz y.x.s;rw[a.s]
   ·rw[a.s]
  rw[ALifn n,ALifn n,ALifn n,ALifn n,ALifn q,ALifn q,ALifn q,ALifn q];unfold kG vZ;by_cases b:bK s.ln ((gC c:Nat):Int)=true
  ·rw[ALifp b,ALifp b,ALifp b,ALifp b];have r:s.ln.toNat<gC c:=zI b;by_cases f:s.k=1
   ·rw[ALifp f,ALifp f,ALifp f,ALifp f];have g:=a.rea d h.ct p r c.X;exact⟨g.1,by rw[g.2.1,g.2.2]⟩
   rw[ALifn f,ALifn f,ALifn f,ALifn f];by_cases i:s.k=2
   ·rw[ALifp i,ALifp i,ALifp i,ALifp i];have g:=a.msk d h.ct p r s.d 18446744073709551615;exact⟨g.1,by rw[g.2]⟩
   rw[ALifn i,ALifn i,ALifn i,ALifn i];by_cases j:s.m=0
   ·rw[ALifp j,ALifp j,ALifp j,ALifp j];exact⟨(a.msk d h.ct p r s.d 0).1,rfl⟩
   ·rw[ALifn j,ALifn j,ALifn j,ALifn j];have g:=a.msk d h.ct p r s.d s.m;exact⟨g.1,by rw[g.2]⟩
  ·rw[ALifn b,ALifn b,ALifn b,ALifn b];exact⟨a,rfl⟩
 ·rw[ALifn o,ALifn o,ALifn o,ALifn o];exact⟨a,rfl⟩
end
theorem GZ(l:List Nat)(i:Int): ∀k,k≤l.length→lj l i k=true→∃j∈l,(j:Int)=i
 | 0,_,h=>by rw[Gf] at h;cases h
 | k+1,a,h=>by
  rw[Ge,Bool.or_eq_true] at h;rcases h with h | h
  ·exact GZ l i k Om h
  ·rw[WO,List.getElem?_eq_getElem Om] at h;exact⟨l[k],List.getElem_mem _,by simpa using h⟩
theorem V0{c:Cf}(m:cr c){f:Fa}{d:List Nat}(h:kk c f d=true):ff c f=true∧f.x0<6∧∀i:Nat,fT c.R c.S c.B c.M c.C i→¬i∈d→iw f ((i:Int)/1048576) ((i:Int)/65536%16) ((i:Int)/64%1024) ((i:Int)%64)=false:=by
 unfold kk at h;cases e:(!(ff c f))||decide (6≤f.x0)
 ·rw[e,ALcf] at h;rw[Bool.or_eq_false_iff] at e;refine⟨by simpa using e.1,by have:=of_decide_eq_false e.2;omega,λi o n=>?_⟩;obtain⟨k,q,g⟩:=VR m o;have b:=List.all_eq_true.1 h k (List.mem_range.2 q);have a:wb f d ((c7 c.B c.M c.C k:Nat):Int)=false:=by
   rw[Bool.not_eq_true'] at b;exact b
  rw[←g] at a;have a:(iw f ((i:Int)/1048576) ((i:Int)/65536%16) ((i:Int)/64%1024) ((i:Int)%64)&&(!(lj d (i:Int) d.length)))=false:=a;cases l:iw f ((i:Int)/1048576) ((i:Int)/65536%16) ((i:Int)/64%1024) ((i:Int)%64)
  ·rfl
  ·rw[l,Bool.true_and] at a;obtain⟨j,p,r⟩:=GZ d (i:Int) _ (Nat.le_refl _) (by simpa using a);have:j=i:=by omega
   exact absurd (this▸p) n
 ·rw[e] at h;cases h
theorem V1{c:Cf}(u:cr c){f:Fa}{d:List Nat}(h:kk c f d=true){x y:Ct}(a:dM c (λi=>i∈d) x y):dM c (λi=>i∈d) {x with V:=mU c x.V f} y:=by
 obtain⟨b,G,t⟩:=V0 u h;have C:=(lZ.mk (c:=c) (f:=f) b).all;have D:1≤f.x0:=by
  have:=b;unfold ff mT at this;simp only[Bool.and_eq_true,decide_eq_true_eq] at this;exact this.1.1.1.1.1.1.1
 have H:=rQ.1 C.1;by_cases o:f.x0=1
 ·have e:(f.x0==1)=true:=by rw[o];rfl
  refine⟨a.s,a.U,λi j=>?_,?_,?_⟩
  ·show(bif !(ff c f) then x.V.D.cells else bif f.x0==1 then dC x.V.D.cells (dn f.x1 f.x2 f.x3 f.x4) _ else x.V.D.cells) (i:Int)=_;rw[b,e];show(if(i:Int)=dn f.x1 f.x2 f.x3 f.x4 then _ else x.V.D.cells (i:Int))=_;by_cases q:(i:Int)=dn f.x1 f.x2 f.x3 f.x4
   ·exfalso;have n:=u.O.bd;have:=n.r8;have:=n.b16;have:=n.m10;have:=n.c64;have p:fT c.R c.S c.B c.M c.C i:=⟨f.x1.toNat,f.x2.toNat,f.x3.toNat,f.x4.toNat,by unfold dn at q;unfold bl;omega,by omega,by omega,by omega,by omega⟩;have m:=t i p j;unfold dn at q;have w:(i:Int)/1048576=f.x1:=by omega
    have z:(i:Int)/65536%16=f.x2:=by omega
    have A:(i:Int)/64%1024=f.x3:=by omega
    have B:(i:Int)%64=f.x4:=by omega
    rw[w,z,A,B] at m;unfold iw at m;rw[o] at m;simp at m
   ·rw[ALifn q];exact a.cl i j
  ·show(bif !(ff c f) then x.V.D.H else bif f.x0==1 then x.V.D.H else _)=_;rw[b,e];exact a.co
  ·show ∃F,(bif !(ff c f) then x.V.D.W else bif f.x0==1 then x.V.D.W else _)=y.V.D.W++F∧_;rw[b,e];exact a.ls
 ·have e:(f.x0==1)=false:=by rw[dN];exact o
  have r:iQ f=true:=by
   unfold iQ;rw[cD Om,cD Om];rfl
  refine⟨a.s,a.U,λi j=>?_,?_,?_⟩
  ·show(bif !(ff c f) then x.V.D.cells else bif f.x0==1 then _ else x.V.D.cells) (i:Int)=_;rw[b,e];exact a.cl i j
  ·show(bif !(ff c f) then x.V.D.H else bif f.x0==1 then x.V.D.H else bif iQ f then x.V.D.H else _)=_;rw[b,e,r];exact a.co
  ·show ∃F,(bif !(ff c f) then x.V.D.W else bif f.x0==1 then x.V.D.W else bif iQ f then g9 x.V.D.W f else x.V.D.W)=y.V.D.W++F∧_;rw[b,e,r];obtain⟨F,s,k⟩:=a.ls;show ∃F,g9 x.V.D.W f=y.V.D.W++F∧_;unfold g9;cases decide (256≤(x.V.D.W.length:Int))
   ·refine⟨F++[f],by rw[ALcf,s,List.append_assoc],λg l i j v xs=>?_⟩;rcases List.mem_append.1 l with l | l
    ·exact k g l i j v xs
    ·rw[List.mem_singleton.1 l];unfold k4;rw[t i j v,Bool.not_false,Bool.or_true,ALct]
   ·exact⟨F,s,k⟩
theorem V2(c:Cf)(S:Nat→Prop)(x:Ct):dM c S x x:=⟨rfl,rfl,λ_ _=>rfl,rfl,[],(List.append_nil _).symm,λf a=>absurd a WR⟩
theorem G0{c:Cf}(g:cr c)(X:Mc)(d:List Nat)(a:List Fa): ∀k,dM c (λi=>i∈d) (iT c X d a k).x X.x
 | 0=>V2 c _ _
 | k+1=>by
  have b:=G0 g X d a k;rw[wj];cases e:kk c (a.getD k aZ) d
  ·exact b
  ·rw[ALct];unfold dA;by_cases f:sR (zT (a.getD k aZ))=true
   ·rw[ALifp f,ALifn (show ¬(8:Int)=4 by decide),ALifn (show ¬(8:Int)=5 by decide),ALifn (show ¬(8:Int)=6 by decide),ALifn (show ¬(8:Int)=7 by decide),ALifp rfl];exact V1 g e b
   ·rw[ALifn f];exact b
theorem G1{c:Cf}{S:Nat→Prop}{b d:Mc}{n:Nat}(l:GM c b n)(q:dM c S b.x d.x)(r:eF S b.x){a:List St}(f:lC a): ∀k,n+k≤900→iU c b d a k=some true∨(iU c b d a k=none∧dM c S (bS c b a k).x (bS c d a k).x∧eF S (bS c b a k).x)
 | 0,_=> .inr ⟨rfl,q,r⟩
 | k+1,t=>by
  rcases G1 l q r f k Om with h | ⟨h,o,i⟩
  ·exact .inl (zU h 1)
  ·have m:=wi l f k Om;rw[qq,qq];cases e:(a.getD k ae).k==8
   ·rw[ALcf,ALcf];cases g:decide (0<((bS c d a k).x.V.D.H.length:Int))
    ·have j:(bS c d a k).x.V.D.H=[]:=List.length_eq_zero_iff.1 (by have:=of_decide_eq_false g;omega);have p:=VZ m.ok i o j (s:=a.getD k ae) (by simpa using e);refine .inr ⟨qp h ?_,p.1,(GW m.ok _ Om i).1⟩;unfold l9;rw[e,g,p.2];simp
    ·refine .inl (qp h ?_);unfold l9;rw[e,g];rfl
   ·refine .inr ⟨qp h (Gy e),o,i⟩
theorem V3{c:Cf}(e:cr c){l b:List St}{a:List Fa}(hs:lC l)(f:lC b)(p:l.length≤80)(q:b.length≤40)(hf:a.length≤20):(iU c (iT c (bq c (bc c) l l.length) (dB (bq c (bc c) l l.length).x.s.r.m (bq c (bc c) l l.length).x.s.r.m.R) a a.length) (bq c (bc c) l l.length) b b.length).getD true=true:=by
 have g:=s6 (GM.start e) hs l.length Om;have j:=GX e hs l.length Om;generalize o:bq c (bc c) l l.length=X at g j;have k:=wk g (dB X.x.s.r.m X.x.s.r.m.R) a a.length Om;have d:=G0 e X (dB X.x.s.r.m X.x.s.r.m.R) a a.length;have m:eF (λi=>i∈dB X.x.s.r.m X.x.s.r.m.R) (iT c X (dB X.x.s.r.m X.x.s.r.m.R) a a.length).x:=⟨by rw[d.s];exact j.rp,λi n=>by rw[d.s];exact zX _ _ (Nat.le_refl _) i n⟩;rcases G1 k d m f b.length Om with h | ⟨h,_⟩
 ·rw[h];rfl
 ·rw[h];rfl
section
open Go.ChangeShapes Go.WideShapes
theorem dY.split{l m:List gY}{cs:List Value}(h:dY (l++m) cs):dY l (cs.take l.length)∧dY m (cs.drop l.length):=by
 obtain⟨f,d⟩:=h;rw[WN] at f;refine⟨⟨by rw[List.length_take];omega,λi lf a=>?_⟩,⟨by rw[List.length_drop];omega,λi lf a=>?_⟩⟩
 ·have e:i<l.length:=(List.getElem?_eq_some_iff.1 a).1;obtain⟨v,b,c⟩:=d i lf (by rw[List.getElem?_append_left e];exact a);exact⟨v,by rw[List.getElem?_take_of_lt e];exact b,c⟩
 ·obtain⟨v,b,c⟩:=d (l.length+i) lf (by rw[List.getElem?_append_right (Nat.le_add_right _ _),Nat.add_sub_cancel_left];exact a);exact⟨v,by rw[List.getElem?_drop];exact b,c⟩
theorem dY.one{f:gY}{ls:List gY}{cs:List Value}(h:dY (f::ls) cs): ∃v vs,cs=v::vs∧C6 f v∧dY ls vs:=by
 obtain⟨a,b⟩:=h;cases cs with
 | nil=>simp at a
 | cons v vs=>
  obtain⟨u,c,d⟩:=b 0 f rfl;obtain rfl:v=u:=by simpa using c
  exact⟨v,vs,rfl,d,by simpa using a,λi lf e=>by simpa using b (i+1) lf (by rw[List.getElem?_cons_succ];exact e)⟩
theorem G2: ∀(n:Nat) (cs:List Value),dY (WJ n (.int .u8)) cs→∃d:List UInt8,d.length=n∧cs=d.map λb=>Value.int .u8 (b.toNat:Int)
 | 0,cs,h=>⟨[],rfl,by have:=h.1;simp at this;simpa using this⟩
 | n+1,cs,h=>by
  obtain⟨v,vs,rfl,⟨z,rfl,e⟩,a⟩:=dY.one (by rw[List.replicate_succ] at h;exact h);obtain⟨d,c,rfl⟩:=G2 n vs a;have f:=bounds_u8 e;refine⟨UInt8.ofNat z.toNat::d,by rw[List.length_cons,c],?_⟩;rw[WS,show((UInt8.ofNat z.toNat).toNat:Int)=z by rw[UInt8.toNat_ofNat'];omega]
theorem G3{l:List Int}(h:l.length=8): ∃a b c d e f g i,l=[a,b,c,d,e,f,g,i]:=by
 match l,h with
 | [a,b,c,d,e,f,g,i],_=>exact⟨a,b,c,d,e,f,g,i,rfl⟩
def stLs:List gY:=WJ 2 (.int .i64)++(WJ 64 (.int .u8)++(.int .u64::WJ 8 (.int .i64)))
theorem V4{cs:List Value}(h:dY stLs cs): ∃s:St,cs=eSt s∧StOk s:=by
 obtain⟨x,y⟩:=dY.split h;obtain⟨z,A⟩:=dY.split y;obtain⟨v,vs,o,⟨m,t,C⟩,B⟩:=dY.one A;obtain⟨G,D,l,_⟩:=rP 2 _ x;obtain⟨d,q,n⟩:=G2 64 _ z;obtain⟨H,F,r,_⟩:=rP 8 _ B;have I:=bounds_u64 C;obtain⟨a,b,c,i,e,f,g,j,rfl⟩:=G3 F
 match G,D with
 | [k,p],_=>
  refine⟨⟨k,p,d,m.toNat,a,b,c,i,e,f,g,j⟩,?_,⟨q,by show m.toNat<_;omega⟩⟩;have u:cs=cs.take 2++cs.drop 2:=(WK 2 cs).symm;have w:cs.drop 2=(cs.drop 2).take 64++(cs.drop 2).drop 64:=(WK 64 _).symm;have l:cs.take 2=[i6 k,i6 p]:=l;have n:(cs.drop 2).take 64=d.map λb=>Value.int .u8 (b.toNat:Int):=n;have o:(cs.drop 2).drop 64=v::vs:=o;rw[u,w,l,n,o,t,r];show _=[i6 k,i6 p]++rB 64 d++_;rw[wY q,show(m:Int)=((m.toNat:Nat):Int) by omega];rfl
theorem rows_st: ∀(a:List (List Value)),(∀r∈a,dY stLs r)→∃L:List St,a=L.map eSt∧∀s∈L,StOk s
 | [],_=>⟨[],rfl,λs g=>absurd g WR⟩
 | r::a,h=>by
  obtain⟨L,b,c⟩:=rows_st a λx i=>h x (WL _ i);obtain⟨s,d,f⟩:=V4 (h r WM);exact⟨s::L,by rw[b,d];rfl,λy j=>(List.mem_cons.1 j).elim (λe=>e▸f) (c y)⟩
theorem sts_ok{l:List St}(h: ∀s∈l,StOk s):lC l:=⟨λk=>by
 rw[WO];cases b:l[k]? with
 | none=>exact⟨List.length_replicate,by show(0:Nat)<_;decide⟩
 | some a=>exact h a (List.mem_of_getElem? b)⟩
def cfLs:List gY:=WJ 15 (.int .i64)++[.bool]
theorem cells_cfg{cs:List Value}(h:dY cfLs cs): ∃(r s b m c way e mode n k l j a heavy d:Int) (f:Bool),cs=[i6 r,i6 s,i6 b,i6 m,i6 c,i6 way,i6 e,i6 mode,i6 n,i6 k,i6 l,i6 j,i6 a,i6 heavy,i6 d,.bool f]:=by
 obtain⟨t,u⟩:=dY.split h;obtain⟨v,vs,g,⟨q,o⟩,w⟩:=dY.one u;obtain⟨z,y,i,_⟩:=rP 15 _ t;have x:vs=[]:=List.length_eq_zero_iff.1 w.1
 match z,y with
 | [r,s,b,m,c,way,e,mode,n,k,l,j,a,heavy,d],_=>
  refine⟨r,s,b,m,c,way,e,mode,n,k,l,j,a,heavy,d,q,?_⟩;have p:cs=cs.take 15++cs.drop 15:=(WK 15 cs).symm;have i:cs.take 15=_:=i;have g:cs.drop 15=_:=g;rw[p,i,g,o,x];rfl
theorem st_sq{A:Option Addr}{n k:Nat}{L:List St}{w:World}(b:L.length=n)(f:n≤k)(g:mJ 75 w A (L.map eSt)): ∃a,Has a w∧aG eSt (.slice A n k) L a:=by
 obtain⟨a,d,e⟩:=C9 (en:=eSt) (k:=75) (c:=k) (λs=>by unfold eSt;rw[WN,WN,H9];rfl) Dc g b;exact⟨a,d,e,A,k-n,by rw[b,WQ f]⟩
end
section
open Go.ChangeShapes Go.WideShapes
def faLs:List gY:=WJ 8 (.int .i64)
theorem rows_fa: ∀(j:List (List Value)),(∀r∈j,dY faLs r)→∃L:List Fa,j=L.map eFa∧True
 | [],_=>⟨[],rfl,trivial⟩
 | r::j,h=>by
  obtain⟨L,k,_⟩:=rows_fa j λx n=>h x (WL _ n);obtain⟨o,l,m,_⟩:=rP 8 _ (h r WM);obtain⟨a,b,c,d,e,f,g,i,rfl⟩:=G3 l;exact⟨⟨a,b,c,d,e,f,g,i⟩::L,by rw[k,WS,m];rfl,trivial⟩
theorem fa_sq{A:Option Addr}{n k:Nat}{L:List Fa}{w:World}(b:L.length=n)(f:n≤k)(g:mJ 8 w A (L.map eFa)): ∃a,Has a w∧aG eFa (.slice A n k) L a:=by
 obtain⟨a,d,e⟩:=C9 (en:=eFa) (k:=8) (c:=k) (λs=>rfl) Dc g b;exact⟨a,d,e,A,k-n,by rw[b,WQ f]⟩
theorem aa.belowU{P:Program}{f:FuncId}{args:Array Value}{u:Value}{T:ay→Prop}{a:ay}(h:aa P f args [.p T,.p (λa=>a=[]),.p (λa=>a=[])] [] N0 (λ_=>u))(w:World)(g:Has a w)(ht:T a):Calls P f args w λe w'=>e= .returned u∧Below w.heap.size w w':=by
 refine(callsIn_wide (n:=6)).1 ((callsIn_wide.2 (h.out w [a,[],[]] ⟨ht,rfl,rfl,trivial⟩ (by simpa using g))).mono ?_);rintro e w' ⟨E,i,rfl,j,c⟩;exact⟨rfl,c.os,c.tape,c.output,c.size,λb d=>c.far b d (by simp)⟩
theorem later_con(r s b m c way j mode C z B y d heavy i:Int)(a:Bool)(v u t:Value)(l:List St)(f:List Fa)(e:List St)(n:lC l)(o:lC e):aa Tryz.prog 7 #[.agg #[i6 r,i6 s,i6 b,i6 m,i6 c,i6 way,i6 j,i6 mode,i6 C,i6 z,i6 B,i6 y,i6 d,i6 heavy,i6 i,.bool a],v,u,t] [.p (λg=>aG eSt v l g∧aG eFa u f g∧aG eSt t e g),.p (λg=>g=[]),.p (λg=>g=[])] [] N0 (λ_=> .bool true):=by
 cases h:mQ r s b m c way j mode C z B y d heavy i
 ·exact Vv r s b m c way j mode C z B y d heavy i a h v u t l f e
 ·obtain⟨q,rfl,rfl,rfl,rfl,rfl,rfl,rfl,rfl,rfl,rfl,rfl,rfl,rfl,rfl,rfl,rfl,k⟩:=QC a h;cases w:mV q
  ·exact Vw q k w v u t l f e
  ·by_cases x:l.length≤80
   ·by_cases A:e.length≤40
    ·by_cases D:f.length≤20
     ·have F:=VC q k w v u t l f e x A D n o;rwa [V3 k n o x A D] at F
     ·exact Vz q k w v u t l f e x A Om
    ·exact Vy q k w v u t l f e x Om
   ·exact Vx q k w v u t l f e Om
end
end E
section
open Go.ChangeShapes Go.WideShapes
theorem WholeLater_any(r s b m c way g mode O F N D d heavy f:Int)(a:Bool)(A:Option Addr)(n k:Nat)(L:List E.St)(Y:L.length=n)(X:n≤k)(hs: ∀s∈L,E.StOk s)(C:Option Addr)(z M:Nat)(i:List E.Fa)(p:i.length=z)(l:z≤M)(B:Option Addr)(y K:Nat)(h:List E.St)(o:h.length=y)(j:y≤K)(u: ∀s∈h,E.StOk s)(w:World)(Z:mJ 75 w A (L.map E.eSt))(t:mJ 8 w C (i.map E.eFa))(q:mJ 75 w B (h.map E.eSt)):
  Calls Tryz.prog 7 #[.agg #[.int .i64 r,.int .i64 s,.int .i64 b,.int .i64 m,.int .i64 c,.int .i64 way,.int .i64 g,.int .i64 mode,.int .i64 O,.int .i64 F,.int .i64 N,.int .i64 D,.int .i64 d,.int .i64 heavy,.int .i64 f,.bool a],.slice A n k,.slice C z M,.slice B y K] w
   λe w'=>e= .returned (.bool true)∧Below w.heap.size w w':=by
 obtain⟨bs,S,H⟩:=E.st_sq Y X Z;obtain⟨Q,R,G⟩:=E.fa_sq p l t;obtain⟨P,T,I⟩:=E.st_sq o j q;obtain⟨cs,U,V,W⟩:=E.Has.join S T;obtain⟨ds,j5,j6,J⟩:=E.Has.join R U;exact(E.later_con r s b m c way g mode O F N D d heavy f a _ _ _ L i h (E.sts_ok hs) (E.sts_ok u)).belowU w j5 ⟨⟨E.SrE.mono H.1 λx v=>J x (V x v),H.2⟩,⟨E.SrE.mono G.1 j6,G.2⟩,⟨E.SrE.mono I.1 λx v=>J x (W x v),I.2⟩⟩
end
end Go.Proofs.YtbcodenfkijdnaaGreat
