/- WholeGone, in 7 texts: part 2. For every input; no condition. -/
import Derived.Test.YtbcodenfkijdnaaGreatD1
import Derived.WalkKit
import Derived.Sort.CutIn
import Derived.IntWalk
import Derived.Laws.BitsAllLaws
set_option linter.unusedVariables false
set_option linter.unusedSimpArgs false
set_option maxRecDepth 100000
namespace Go.Proofs.YtbcodenfkijdnaaGreat.E
open Go Go.RowKit Go.Shelf
open List renaming not_mem_nil→dZ,mem_cons→jg
open Nat renaming eq_of_beq_eq_true→eF,beq→ir,beq_refl→jh
open Bool renaming false_eq_true→jm
section
variable (P:Program)
def xT(o:Oper)(ρ:Operand→Value):Value:=match (execOp ρ o).run P default with
 | .ok (.value v) _=>v
 | _=>undef
def Ky(c x y:Operand)(ρ:Operand→Value):Value:=match ρ c,x,y with
 | .bool E,_,.const (.bool false)=>(match ρ x with | .bool X=> .bool (E&&X) | _=>undef)
 | .bool E,_,_=>(match ρ y with | .bool Y=> .bool (E||Y) | _=>undef)
 | _,_,_=>undef
end
def uD(P:Program)(b:Bool)(xs ys:List Value):TD:=λo ρ=>match o.op with
 | .binOp op T x y _=>[sE op (match b with | true=> .neq | false=> .eql),sE (ρ x) (.agg xs.toArray),sE (ρ y) (.agg ys.toArray),sE (dQ P T,P.eqGuardType P.depth T,(jV P 8 T).map λks=>eO ks xs&&eO ks ys) (true,false,some true)]
 | _=>[sB false]
theorem Kz{P:Program}{xs ys:List Value}:TD.ok P (uD P false xs ys) (.bool (fo xs ys)):=by
 intro o ρ he w
 unfold uD at he
 split at he
 ·rename_i op T x y q hop
  simp only[jg,dZ,or_false,forall_eq_or_imp,forall_eq,sE] at he
  obtain⟨rfl,h2,h3,h4⟩:=he
  exact(xM (P:=P) T (λx y w=>uu (x:=x) (y:=y) (w:=w) h4 rfl)) o ρ (by simp only[uA,hop,jg,dZ,or_false,forall_eq_or_imp,forall_eq,sE];exact⟨trivial,trivial,h2,h3⟩) w
 ·exact(bG he).elim
theorem KA{P:Program}{xs ys:List Value}:TD.ok P (uD P true xs ys) (.bool (!fo xs ys)):=by
 intro o ρ he w
 unfold uD at he
 split at he
 ·rename_i op T x y q hop
  simp only[jg,dZ,or_false,forall_eq_or_imp,forall_eq,sE] at he
  obtain⟨rfl,h2,h3,h4⟩:=he
  exact(xM (P:=P) T (λx y w=>jW (x:=x) (y:=y) (w:=w) h4 rfl)) o ρ (by simp only[uA,hop,jg,dZ,or_false,forall_eq_or_imp,forall_eq,sE];exact⟨trivial,trivial,h2,h3⟩) w
 ·exact(bG he).elim
def KB(P:Program)(o:Oper)(ρ:Operand→Value):b7 P:=match o.op with
 | .binOp .eql _ x y _=>(match nm (ρ x),nm (ρ y) with | some xs,some ys=> .t (val:= .bool (fo xs ys)) ⟨_,Kz⟩ | _,_=> .d undef)
 | .binOp .neq _ x y _=>(match nm (ρ x),nm (ρ y) with | some xs,some ys=> .t (val:= .bool (!fo xs ys)) ⟨_,KA⟩ | _,_=> .d undef)
 | _=> .d undef
inductive cS (P:Program):Type 1
 | l (p:Nat)
 | e
 | s (p:Nat)
 | d
 | v (v:Value)
 | t {val:Value} (d:TH P val)
 | u {val:Value} (d:TD) (j:Nat) (E b:Bool) (h:E=b→TD.ok P d val)
 | m {val:ab→Value} (d:MH P val)
 | c {f:FuncId} {args:Array Value} {rd:ah} {O:List Nat} {wt:ab→ah} {v:ab→Value} (ps qs:List Nat) (h:aa P f args rd O wt v)
section
variable {P:Program}
def Cj(P:Program)(T:TypeId):Nat:=((P.info? T).map (·.size)).getD 0
def KC(P:Program)(p:Nat)(T:TypeId)(x:Value)(C:cx):b7 P:=match C p,lm x with
 | some (.c [(_,.cells cs _ _)]),some (_,off)=>(match dQ P T with
  | true=> .m (ls p ((cs.toList.drop off).take (Cj P T)))
  | false=> .m (ld p (cs.getD off undef)))
 | _,_=> .d undef
def KD(P:Program)(p:Nat)(T:TypeId):b7 P:=match dQ P T with
 | true=> .m (ss p)
 | false=> .m (st p)
def cS.hint(o:Oper)(ρ:Operand→Value)(C:cx):cS P→b7 P
 | .l p=>(match o.op with | .load T x=>KC P p T (ρ x) C | _=> .d undef)
 | .s p=>(match o.op with | .store T _ _=>KD P p T | _=> .d undef)
 | .e=>KB P o ρ
 | .d=> .d (.bool false)
 | .v x=> .v x
 | .t x=> .t x
 | .u x j E b h=> .u x j E b h
 | .m x=> .m x
 | .c ps qs h=> .c ps qs h
def Ck(o:Oper)(ρ:Operand→Value)(p:Nat):b7 P:=match o.op with
 | .pick c x y=> .k (Ky c x y ρ)
 | .alloc _=> .m (al p)
 | .box _ _=> .m (bx p)
 | _=> .v (xT P o ρ)
def uE(p:Nat):Wr→Nat
 | []=>p
 | x::r=>uE (match Nat.ble p x.1 with | true=>x.1+1 | false=>p) r
def sb(L:List Oper)(a:Sl)(DL:List (List Nat))(η:bI):List Oper→List (Nat×cS P)→Nat→List Value→cx→Nat→List (b7 P)
 | [],_,_,_,_,_=>[]
 | o::os,[],k,vs,C,p=>
  (λρ=>(λh=>h::sb L a DL η os [] (k+1) (vs++[h.val (η k)]) (l7 C (h.wt o ρ C (η k))) (uE p (h.wt o ρ C (η k)))) (Ck o ρ p)) (rE L a (DL.getD k []) vs)
 | o::os,(j,x)::r,k,vs,C,p=>match ir j k with
  | true=>(λρ=>(λh=>h::sb L a DL η os r (k+1) (vs++[h.val (η k)]) (l7 C (h.wt o ρ C (η k))) (uE p (h.wt o ρ C (η k)))) (x.hint o ρ C)) (rE L a (DL.getD k []) vs)
  | false=>(λρ=>(λh=>h::sb L a DL η os ((j,x)::r) (k+1) (vs++[h.val (η k)]) (l7 C (h.wt o ρ C (η k))) (uE p (h.wt o ρ C (η k)))) (Ck o ρ p)) (rE L a (DL.getD k []) vs)
end
inductive It where
 | c (x:Code)
 | b (id:Nat)
 | x (id:Nat)
section
variable (F:Fence) (n:Nat) (P:Program) (Q:Exit→Act→World→Prop)
def dg:List It→Exit→Act→World→Prop
 | []=>Q
 | .c x::S=>Exit.then (x.wpIn F n P (dg S)) (dg S)
 | .b id::S=>Exit.inBlock id (dg S)
 | .x id::S=>Exit.then (dg S (.exit id)) (dg S)
end
def mL(id:Nat):List It→Option (List It)
 | []=>none
 | .c _::S=>mL id S
 | .x _::S=>mL id S
 | .b j::S=>match ir j id with
  | true=>some S
  | false=>mL id S
def dz:Nat→List It→List It
 | 0,S=>S
 | n+1,S=>match S with
  | .c (.seq x y)::S=>dz n (.c x:: .c y::S)
  | .c (.block id x)::S=>dz n (.c x:: .b id::S)
  | .c .skip::S=>dz n S
  | .c (.label _)::S=>dz n S
  | .b _::S=>dz n S
  | .c (.exit id)::S=>dz n (.x id::S)
  | .x id::S=>(match mL id S with
   | some S'=>dz n S'
   | none=> .x id::S)
  | S=>S
abbrev nf(S:List It):List It:=dz 1000 S
section
variable {F:Fence} {n:Nat} {P:Program} {Q:Exit→Act→World→Prop} {a:Act} {w:World}
theorem uF{id:Nat}: ∀{S S':List It},mL id S=some S'→dg F n P Q S' .normal a w→dg F n P Q S (.exit id) a w
 | .c _::S,S',h,hr=>uF (S:=S) h hr
 | .x _::S,S',h,hr=>uF (S:=S) h hr
 | .b j::S,S',h,hr=>by
  unfold mL at h
  show if id=j then dg F n P Q S .normal a w else dg F n P Q S (.exit id) a w
  split at h
  ·rename_i hb
   cases h
   rw[ALifp (eF hb).symm]
   exact hr
  ·rename_i hb
   rw[ALifn (λe=>by rw[e,jh] at hb;cases hb)]
   exact uF h hr
theorem sd{id:Nat}: ∀{S:List It},mL id S=none→Q (.exit id) a w→dg F n P Q S (.exit id) a w
 | [],_,hr=>hr
 | .c _::S,h,hr=>sd (S:=S) h hr
 | .x _::S,h,hr=>sd (S:=S) h hr
 | .b j::S,h,hr=>by
  unfold mL at h
  show if id=j then dg F n P Q S .normal a w else dg F n P Q S (.exit id) a w
  split at h
  ·cases h
  ·rename_i hb
   rw[ALifn (λe=>by rw[e,jh] at hb;cases hb)]
   exact sd h hr
theorem io: ∀{S:List It},Q .ret a w→dg F n P Q S .ret a w
 | [],h=>h
 | .c _::S,h=>io (S:=S) h
 | .b _::S,h=>io (S:=S) h
 | .x _::S,h=>io (S:=S) h
theorem dR: ∀(m:Nat) (S:List It),dg F n P Q (dz m S) .normal a w→dg F n P Q S .normal a w
 | 0,_,h=>h
 | m+1,S,h=>by
  unfold dz at h
  split at h
  ·exact wpIn_seq (dR m _ h)
  ·exact wpIn_block (dR m _ h)
  ·exact wpIn_skip (dR m _ h)
  ·exact wpIn_label (dR m _ h)
  ·rename_i S'
   exact(dR m S' h:dg F n P Q S' .normal a w)
  ·rename_i id S'
   exact wpIn_exit (dR m (.x id::S') h:dg F n P Q S' (.exit id) a w)
  ·split at h
   ·rename_i hp
    exact uF hp (dR m _ h)
   ·exact h
  ·exact h
end
structure Go (F:Fence) (n:Nat) (P:Program) (R:List Nat) (base:World) (Q:Exit→Act→World→Prop) (S:List It) (a:Sl) (L:ah) (Ds:List Nat):Prop where
 out: ∀b W,Fr a Ds b→aD R base (L++Ds.map mk) W→dg F n P Q S .normal b W
def Zn(S:List It):It:=match nf S with | x::_=>x | []=> .b 0
def bT(S:List It):List It:=match nf S with | _::S=>S | []=>[]
def ax(S:List It):List Oper:=match nf S with | .c (.region _ L _)::_=>L.toList | _=>[]
def fB(S:List It):Bool:=match nf S with | .c (.region _ _ d)::_=>d | _=>false
def mM(S:List It):Bool:=match nf S with | .c (.region _ _ _)::_=>true | _=>false
def lB(a:Sl)(S:List It):Option Bool:=match nf S with
 | .c (.cond c _ _)::_=>(match a.ev c with | .bool E=>some E | _=>none)
 | _=>none
def lC(a:Sl)(S:List It):Bool:=match nf S with
 | .c (.cond (.tmp i) _ _)::_=>a.kn i
 | _=>true
def nu(S:List It):List It:=match nf S with | .c (.cond _ x _)::S=> .c x::S | _=>[]
def ny(S:List It):List It:=match nf S with | .c (.cond _ _ y)::S=> .c y::S | _=>[]
def gM(S:List It):Code:=match nf S with | .c (.loop x)::_=>x | _=> .skip
def oq(S:List It):Bool:=match nf S with | .c (.loop _)::_=>true | _=>false
def eP:List Nat→Fe→Fe
 | [],e=>e
 | d::ds,e=>eP ds (e.filter λx=> !ir x.1 d)
def nz(L:List Oper)(e nw:Fe)(dr:List Nat):Bool:=L.all λo=>match o.dst with
 | none=>true
 | some d=>(lk nw d).isSome||dr.contains d||(lk e d).isNone
def mj(L:List Oper)(a:Sl)(t:dY)(η:bI)(i:Nat):Option Value:=match fT i L 0 with
 | some j=>(match Nat.blt i a.sz&&(t.cds j).all λc=>rG c.2 (t.vs η c.1) with
  | true=>some (t.vs η j)
  | false=>none)
 | none=>none
theorem ql{e e':Fe}{i:Nat}:lk (e++e') i=match lk e i with | some v=>some v | none=>lk e' i:=by
 induction e with
 | nil=>rfl
 | cons x r ih=>
  obtain⟨j,v⟩:=x
  show(match ir j i with | true=>some v | false=>lk (r++e') i)=match (match ir j i with | true=>some v | false=>lk r i) with | some v=>some v | none=>lk e' i
  cases ir j i
  ·exact ih
  ·rfl
theorem xU{p:Nat→Bool}: ∀{e:Fe} {i:Nat},lk (e.filter λx=>p x.1) i=if p i then lk e i else none
 | [],i=>by split<;>rfl
 | (j,v)::r,i=>by
  rw[List.filter_cons]
  have ih:=xU (p:=p) (e:=r) (i:=i)
  by_cases hj:j=i
  ·subst hj
   cases hp:p j with
   | true=>simp [lk]
   | false=>
    rw[hp] at ih
    simp only[jm,if_false] at ih⊢
    exact ih
  ·have hb:ir j i=false:=by
    cases h:ir j i with
    | false=>rfl
    | true=>exact absurd (eF h) hj
   cases hp:p j with
   | true=>simp only[if_true,lk,hb,ih]
   | false=>simp only[jm,if_false,lk,hb,ih]
theorem Cl: ∀{ds:List Nat} {e:Fe} {i:Nat} {v:Value},lk (eP ds e) i=some v→lk e i=some v∧i∉ds
 | [],_,_,_,h=>⟨h,by simp⟩
 | d::ds,e,i,v,h=>by
  obtain⟨h1,h2⟩:=Cl (ds:=ds) h
  rw[xU (p:=λi=> !ir i d)] at h1
  split at h1
  ·rename_i hb
   refine⟨h1,λhm=>?_⟩
   rcases List.mem_cons.1 hm with rfl | hm
   ·simp [jh] at hb
   ·exact h2 hm
  ·cases h1
theorem Cm{e:Fe}{i:Nat}{v:Value}(h:lk e i=some v):(i,v)∈e:=by
 induction e with
 | nil=>cases h
 | cons x r ih=>
  obtain⟨j,u⟩:=x
  unfold lk at h
  split at h
  ·rename_i hb
   cases h
   rw[eF hb]
   exact List.mem_cons_self
  ·exact List.mem_cons_of_mem _ (ih h)
theorem Cn{xs:Nat→Value}: ∀(l:List Oper) (k:Nat) (b:Act),(bt xs l k b).tmps.size=b.tmps.size
 | [],_,_=>rfl
 | o::os,k,b=>by rw[bt,Cn os,xf]
theorem Co(b:Act)(x:Option Tmp)(v:Value):(b.put x v).defers=b.defers:=by cases x<;>rfl
theorem Cp{xs:Nat→Value}: ∀(l:List Oper) (k:Nat) (b:Act),(bt xs l k b).defers=b.defers
 | [],_,_=>rfl
 | o::os,k,b=>by rw[bt,Cp os,Co]
section
variable {F:Fence} {n:Nat} {P:Program} {R:List Nat} {base:World} {Q:Exit→Act→World→Prop} {S:List It} {a:Sl} {sz:Nat} {es:Fe} {L:ah} {Ds:List Nat}
def mn(S:List It)(a:Sl)(L0:ah)(hs:bI→List (Nat×cS P))(η:bI):List (b7 P):=sb (ax S) a (kf (fB S) (ax S)) η (ax S) (hs η) 0 [] (λp=>L0[p]?) L0.length
def tR(S:List It)(a:Sl)(L0:ah)(m:Nat)(hs:bI→List (Nat×cS P)):dY:=t9 (ax S) a (kf (fB S) (ax S)) (rC (ax S) []) L0 m (mn S a L0 hs)
abbrev mR(Le:bI→ah→ah)(L:ah):Nat:=(Le (λ_=>ab.zero) L).length
theorem Cq(h:mM S=true): ∃id d,nf S= .c (.region id (ax S).toArray d)::bT S∧fB S=d:=by
 unfold mM at h
 unfold ax bT fB
 split at h
 ·rename_i id ops d S' e
  rw[e]
  exact⟨id,d,rfl,rfl⟩
 ·cases h
theorem KE{b:Bool}{v:Value}(h:rG b v=true):v= .bool b:=by
 unfold rG at h
 split at h
 ·rw[eq_of_beq h]
 ·cases h
theorem Fr.region{b:Act}(hb:Fr a Ds b){LL:List Oper}{t:dY}{η:bI}{xs:Nat→Value}{e:Fe}{dr:List Nat}(hx: ∀i,i<LL.length→t.Is η i (xs i))(he:e.map (λx=>mj LL a t η x.1)=e.map λx=>some x.2)(hd:nz LL a.e e dr=true):
  Fr ⟨a.sz,e++eP dr a.e⟩ Ds (bt xs LL 0 b):=by
 refine⟨(Cn _ _ _).trans hb.size,λi v h=>?_,(Cp _ _ _).trans hb.defers⟩
 have hev:=t4 (xs:=xs) i LL 0 b
 show(bt xs LL 0 b).eval (.tmp i)=v
 rw[hev]
 simp only[ql] at h
 cases h1:lk e i with
 | some u=>
  rw[h1] at h
  cases h
  have hm:=Cm h1
  have h2:mj LL a t η i=some v:=by
   obtain⟨q,hq,e2⟩:=List.getElem_of_mem hm
   have:=ALca (λz=>z[q]?) he
   simpa [hq,e2] using this
  unfold mj at h2
  cases hw:fT i LL 0 with
  | none=>rw[hw] at h2;cases h2
  | some j=>
   rw[hw] at h2
   simp only at h2⊢
   split at h2
   ·rename_i hc
    rw[Bool.and_eq_true] at hc
    rw[hb.size,ALifp (Nat.blt_eq▸hc.1)]
    cases h2
    rcases hx j (Bt hw) with⟨_,h3⟩ | ⟨h3,_⟩
    ·exact h3
    ·exact absurd (λc hcm=>KE (List.all_eq_true.1 hc.2 c hcm)) h3
   ·cases h2
 | none=>
  rw[h1] at h
  simp only at h
  obtain⟨h3,h4⟩:=Cl h
  cases hw:fT i LL 0 with
  | none=>exact hb.get i v h3
  | some j=>
   exfalso
   have h5:=(ua hw).2
   rw[Nat.sub_zero] at h5
   cases ho:LL[j]? with
   | none=>rw[ho] at h5;cases h5
   | some o=>
    rw[ho] at h5
    have h6:=List.all_eq_true.1 hd o (List.mem_of_getElem? ho)
    rw[show o.dst=some i from h5] at h6
    simp only[h1,h3,Option.isSome_none,Option.isNone_some,Bool.or_false,Bool.false_or] at h6
    exact h4 (by simpa using h6)
theorem rr[hF:lj F](hs:bI→List (Nat×cS P))(nw:bI→Fe)(dr:List Nat)(Le:bI→ah→ah)(hk: ∀η,Go F n P R base Q (bT S) ⟨sz,nw η++eP dr es⟩ (Le η L) Ds)
  (hm:P.follows .mixedOrders=true:=by kernel_rfl)
  (he: ∀η,(mM S,(fV (ax S) ⟨sz,es⟩ (tR S ⟨sz,es⟩ L (mR Le L) hs) η 0 (ax S) (mn S ⟨sz,es⟩ L hs η)).map bi.lhs,ng (fB S) (ax S) (λk=>(kf (fB S) (ax S)).getD k []),(List.range (mR Le L)).map (λp=>(tR S ⟨sz,es⟩ L (mR Le L) hs).at η p (ax S).length),(nw η).map (λx=>mj (ax S) ⟨sz,es⟩ (tR S ⟨sz,es⟩ L (mR Le L) hs) η x.1),nz (ax S) es (nw η) dr)=
   (true,(fV (ax S) ⟨sz,es⟩ (tR S ⟨sz,es⟩ L (mR Le L) hs) η 0 (ax S) (mn S ⟨sz,es⟩ L hs η)).map bi.rhs,true,(Le η L).map some,(nw η).map (λx=>some x.2),true):=by intro _;kernel_rfl):Go F n P R base Q S ⟨sz,es⟩ L Ds:=by
 have h0:=ALca (λx=>x.1) (he λ_=>ab.zero)
 have h1:=λη=>ALca (λx=>x.2.1) (he η)
 have h2:=ALca (λx=>x.2.2.1) (he λ_=>ab.zero)
 have h4:=λη=>ALca (λx=>x.2.2.2.1) (he η)
 have h5:=λη=>ALca (λx=>x.2.2.2.2.1) (he η)
 have h6:=λη=>ALca (λx=>x.2.2.2.2.2) (he η)
 simp only at h0 h1 h2 h4 h5 h6
 obtain⟨id,d,hS,hd⟩:=Cq h0
 subst hd
 refine⟨λb W hb hO=>dR 1000 S ?_⟩
 rw[show dz 1000 S=_ from hS]
 show(Code.region id (ax S).toArray (fB S)).wpIn F n P (dg F n P Q (bT S)) b W
 obtain⟨R1,OC,OW⟩:=hO.seg
 refine IL (t:=tR S ⟨sz,es⟩ L (mR Le L) hs) (R:=R1) (base:=W) hm (Bv hb h1) hF.free h2 OW (λη=>Le η L) h4 ?_
 intro η xs w' hx hO2
 exact(hk η).out _ _ (hb.region hx (h5 η) (h6 η)) (OC.out.whole hO2.out)
end
end Go.Proofs.YtbcodenfkijdnaaGreat.E
namespace Go.Proofs.YtbcodenfkijdnaaGreat.E
open Go Go.RowKit Go.Shelf
open List renaming range→dZ,mem_cons→eF,not_mem_nil→ir,mem_append→jg,mem_append_left→jm,any→jw
open Classical renaming choose→jh
section
variable {F:Fence} {n:Nat} {P:Program} {R:List Nat} {base:World} {Q:Exit→Act→World→Prop} {S:List It} {a:Sl} {sz:Nat} {es:Fe} {L:ah} {Ds:List Nat}
abbrev i6(x:Int):Value:= .int .i64 x
abbrev u6(x:Int):Value:= .int .u64 x
abbrev u1(x:Int):Value:= .int .u8 x
abbrev pt(g o:Nat):Value:= .pointer (some ⟨g,o,none⟩)
abbrev iN(n:Nat):Value:=i6 (n:Int)
abbrev N0.{u,v} {α:Type u} {β:Type v}:α→List β:=λ_=>[]
theorem KF{α:Type}{xs ys:List α}{n:Nat}{b:Bool}(h1:xs.length=n)(h2:ys.length=n):(bif b then xs else ys).length=n:=by cases b;exact h2;exact h1
theorem Cr{E:Bool}(h:lB a S=some E)(hk:lC a S=true): ∃c x y S',nf S= .c (.cond c x y)::S'∧nu S= .c x::S'∧ny S= .c y::S'∧(∀{b:Act},Fr a Ds b→b.eval c= .bool E):=by
 unfold lB at h
 unfold lC at hk
 unfold nu ny
 split at h
 ·rename_i c x y S' e
  rw[e] at hk⊢
  split at h
  ·rename_i E' hE
   cases h
   refine⟨c,x,y,S',rfl,rfl,rfl,λ{b} hb=>?_⟩
   rw[hb.ev λi hi=>by subst hi;exact hk]
   exact hE
  ·cases h
 ·cases h
theorem cB(E:Bool)(ht:E=true→Go F n P R base Q (nu S) ⟨sz,es⟩ L Ds)(hf:E=false→Go F n P R base Q (ny S) ⟨sz,es⟩ L Ds)(hc:(lB ⟨sz,es⟩ S,lC ⟨sz,es⟩ S)=(some E,true):=by kernel_rfl):Go F n P R base Q S ⟨sz,es⟩ L Ds:=by
 obtain⟨c,x,y,S',h1,h2,h3,h4⟩:=Cr (Ds:=Ds) (ALca (·.1) hc) (ALca (·.2) hc)
 refine⟨λb W hb hO=>dR 1000 S ?_⟩
 rw[show dz 1000 S=_ from h1]
 exact wpIn_cond_split (h4 hb) (λe=>by have:=(ht e).out b W hb hO;rw[h2] at this;exact this) (λe=>by have:=(hf e).out b W hb hO;rw[h3] at this;exact this)
theorem cT(E:Bool)(hE:E=true)(ht:Go F n P R base Q (nu S) ⟨sz,es⟩ L Ds)(hc:(lB ⟨sz,es⟩ S,lC ⟨sz,es⟩ S)=(some E,true):=by kernel_rfl):Go F n P R base Q S ⟨sz,es⟩ L Ds:=cB E (λ_=>ht) (λh=>by rw[hE] at h;cases h) hc
theorem cF(E:Bool)(hE:E=false)(hf:Go F n P R base Q (ny S) ⟨sz,es⟩ L Ds)(hc:(lB ⟨sz,es⟩ S,lC ⟨sz,es⟩ S)=(some E,true):=by kernel_rfl):Go F n P R base Q S ⟨sz,es⟩ L Ds:=cB E (λh=>by rw[hE] at h;cases h) (λ_=>hf) hc
theorem cj(x y:Int)(ht:(decide (x<y))=true→x<y→Go F n P R base Q (nu S) ⟨sz,es⟩ L Ds)(hf:(decide (x<y))=false→y≤x→Go F n P R base Q (ny S) ⟨sz,es⟩ L Ds)(hc:(lB ⟨sz,es⟩ S,lC ⟨sz,es⟩ S)=(some (decide (x<y)),true):=by kernel_rfl):Go F n P R base Q S ⟨sz,es⟩ L Ds:=
 cB _ (λh=>ht h (of_decide_eq_true h)) (λh=>hf h (Int.not_lt.1 (of_decide_eq_false h))) hc
theorem pd(x y:Int)(ht:(decide (x≤y))=true→x≤y→Go F n P R base Q (nu S) ⟨sz,es⟩ L Ds)(hf:(decide (x≤y))=false→y<x→Go F n P R base Q (ny S) ⟨sz,es⟩ L Ds)(hc:(lB ⟨sz,es⟩ S,lC ⟨sz,es⟩ S)=(some (decide (x≤y)),true):=by kernel_rfl):Go F n P R base Q S ⟨sz,es⟩ L Ds:=
 cB _ (λh=>ht h (of_decide_eq_true h)) (λh=>hf h (Int.not_le.1 (of_decide_eq_false h))) hc
theorem cZ(x y:Int)(ht:(x==y)=true→x=y→Go F n P R base Q (nu S) ⟨sz,es⟩ L Ds)(hf:(x==y)=false→x≠y→Go F n P R base Q (ny S) ⟨sz,es⟩ L Ds)(hc:(lB ⟨sz,es⟩ S,lC ⟨sz,es⟩ S)=(some (x==y),true):=by kernel_rfl):Go F n P R base Q S ⟨sz,es⟩ L Ds:=
 cB _ (λh=>ht h (eq_of_beq h)) (λh=>hf h (ne_of_beq_false h)) hc
theorem nA(x y:Int)(ht:(!(x==y))=true→x≠y→Go F n P R base Q (nu S) ⟨sz,es⟩ L Ds)(hf:(!(x==y))=false→x=y→Go F n P R base Q (ny S) ⟨sz,es⟩ L Ds)(hc:(lB ⟨sz,es⟩ S,lC ⟨sz,es⟩ S)=(some (!(x==y)),true):=by kernel_rfl):Go F n P R base Q S ⟨sz,es⟩ L Ds:=
 cB _ (λh=>ht h (λe=>by subst e;simp at h)) (λh=>hf h (by simpa using h)) hc
theorem Fr.told{b:Act}(hb:Fr a Ds b){e':Fe}(he:(e'.map λx=>lk a.e x.1)=e'.map λx=>some x.2):Fr ⟨a.sz,e'⟩ Ds b:=by
 refine⟨hb.size,λi v h=>?_,hb.defers⟩
 obtain⟨q,hq,e2⟩:=List.getElem_of_mem (Cm h)
 have:=ALca (λz=>z[q]?) he
 exact hb.get i v (by simpa [hq,e2] using this)
theorem aD.under{L':ah}{W:World}(hO:aD R base (L++Ds.map mk) W)(h: ∀{R1:List Nat},aD R1 W L W→aD R1 W L' W):aD R base (L'++Ds.map mk) W:=by
 obtain⟨R1,OC,OW⟩:=hO.seg
 exact OC.out.whole (h OW.out)
theorem cl(L':ah)(hL:L=L')(hk:Go F n P R base Q S ⟨sz,es⟩ L' Ds):Go F n P R base Q S ⟨sz,es⟩ L Ds:=by subst hL;exact hk
theorem cw(k:Nat)(x y:az)(h: ∀bs,x.sat bs→y.sat bs)(hk:Go F n P R base Q S ⟨sz,es⟩ (L.set k y) Ds)(hx:L[k]? =some x:=by kernel_rfl):Go F n P R base Q S ⟨sz,es⟩ L Ds:=
 ⟨λb W hb hO=>hk.out b W hb (hO.under λho=>ho.weak k hx h)⟩
theorem ck(k:Nat)(T:aw→Prop)(hk: ∀bs,T bs→Go F n P R base Q S ⟨sz,es⟩ (L.set k (.c bs)) Ds)(h:L[k]? =some (.p T):=by kernel_rfl):Go F n P R base Q S ⟨sz,es⟩ L Ds:=by
 refine⟨λb W hb hO=>?_⟩
 obtain⟨R1,OC,OW⟩:=hO.seg
 obtain⟨bs,hT,h2⟩:=OW.out.open k h
 exact(hk bs hT).out b W hb (OC.out.whole h2)
theorem cn{α:Type}(en:α→List Value)(z:List Value)(T:TypeId)(hk:Go F n P R base Q S ⟨sz,es⟩ (L++[.p (ap en z T (.slice none 0 0) ([]:List α))]) Ds):Go F n P R base Q S ⟨sz,es⟩ L Ds:=
 ⟨λb W hb hO=>hk.out b W hb (hO.under λh=>h.nilS en z T)⟩
end
def xV:List Oper→List Nat
 | []=>[]
 | o::os=>match o.dst with
  | some d=>d::xV os
  | none=>xV os
def kJ:Code→List Nat
 | .region _ L _=>xV L.toList
 | .seq x y=>kJ x++kJ y
 | .cond _ x y=>kJ x++kJ y
 | .block _ x=>kJ x
 | .loop x=>kJ x
 | .scope x=>kJ x
 | .rangeFunc _ ps x y=>ps.toList++(kJ x++kJ y)
 | _=>[]
def jX(S:List It)(e:Fe):Fe:=(λds=>e.filter λx=> !jw ds (Nat.beq x.1)) (kJ (gM S))
section
variable (F:Fence) (n:Nat) (P:Program) (R:List Nat) (base:World) {κ:Type}
def Cs(I:κ→Prop)(e:κ→Fe)(L:κ→ah)(D:κ→List Nat)(m:κ→Nat)(sz:Nat)(st:Fe)(j:Nat)(b:Act)(W:World):Prop:=∃k,I k∧m k<j∧Fr ⟨sz,e k++st⟩ (D k) b∧aD R base (L k++(D k).map mk) W
def nB(Q:Exit→Act→World→Prop)(S:List It)(I:κ→Prop)(e:κ→Fe)(L:κ→ah)(D:κ→List Nat)(m:κ→Nat)(sz:Nat)(st:Fe)(j:Nat):Exit→Act→World→Prop
 | .normal,b,W=>Cs R base I e L D m sz st j b W
 | e,b,W=>dg F n P Q S e b W
end
section
variable {F:Fence} {n:Nat} {P:Program} {R:List Nat} {base:World} {Q:Exit→Act→World→Prop} {S:List It} {a:Sl} {sz:Nat} {es:Fe} {L:ah} {Ds:List Nat} {κ:Type}
theorem lD{J:Nat→Prop}(h: ∃j,J j): ∃j,J j∧∀i,i<j→¬J i:=by
 classical
 obtain⟨j,hj⟩:=h
 induction j using Nat.strongRecOn with
 | _ j ih=>
  by_cases hl: ∃i,i<j∧J i
  ·obtain⟨i,h1,h2⟩:=hl
   exact ih i h1 h2
  ·exact⟨j,hj,λi hi hJ=>hl ⟨i,hi,hJ⟩⟩
theorem uG(h:oq S=true):nf S= .c (.loop (gM S))::bT S:=by
 unfold oq at h
 unfold gM bT
 split at h
 ·rename_i x S' e
  rw[e]
 ·cases h
theorem Fr.stay{b:Act}(hb:Fr a Ds b){e':Fe}(he:(e'.map λx=>lk a.e x.1)=e'.map λx=>some x.2):Fr ⟨a.sz,e'++jX S a.e⟩ Ds b:=by
 have h1:=hb.told he
 refine⟨hb.size,λi v h=>?_,hb.defers⟩
 simp only[ql] at h
 cases h2:lk e' i with
 | none=>
  rw[h2] at h
  simp only at h
  unfold jX at h
  rw[xU (p:=λi=> !jw (kJ (gM S)) (Nat.beq i))] at h
  split at h
  ·exact hb.get i v h
  ·cases h
 | some u=>rw[h2] at h;cases h;exact h1.get i v h2
theorem lp(I:κ→Prop)(e:κ→Fe)(LI:κ→ah)(D:κ→List Nat)(m:κ→Nat)(k0:κ)(h0:I k0)(he:((e k0).map λx=>lk es x.1)=(e k0).map λx=>some x.2)(hL:L=LI k0)(hD:Ds=D k0)
  (hr: ∀k,I k→Go F n P R base (nB F n P R base Q (bT S) I e LI D m sz (jX S es) (m k)) [.c (gM S)] ⟨sz,e k++jX S es⟩ (LI k) (D k)) (hS:oq S=true):Go F n P R base Q S ⟨sz,es⟩ L Ds:=by
 classical
 subst hL hD
 refine⟨λb W hb hO=>dR 1000 S ?_⟩
 rw[show dz 1000 S=_ from uG hS]
 show(Code.loop (gM S)).wpIn F n P (dg F n P Q (bT S)) b W
 let J:Nat→Act→World→Prop:=Cs R base I e LI D m sz (jX S es)
 let μ:Act→World→Nat:=λb W=>if h: ∃j,J j b W then jh (lD h) else 0
 have hμ: ∀b W,(∃j,J j b W)→J (μ b W) b W∧∀i,i<μ b W→¬J i b W:=by
  intro b W h
  have e:μ b W=jh (lD h):=dif_pos h
  rw[e]
  exact Classical.choose_spec (lD h)
 refine wpIn_loop (λb W=>∃j,J j b W) μ ⟨m k0+1,k0,h0,Nat.lt_succ_self _,Fr.stay (a:=⟨sz,es⟩) hb he,hO⟩ λb W hI=>?_
 obtain⟨k,hk,hm,hf,hO⟩:=(hμ b W hI).1
 refine wpIn_mono (show(gM S).wpIn F n P _ b W from(hr k hk).out b W hf hO) λe b' W' he=>?_
 cases e with
 | normal=>
  have hJ:J (m k) b' W':=he
  exact⟨⟨_,hJ⟩,Nat.lt_of_le_of_lt (Nat.le_of_not_lt λhl=>(hμ b' W' ⟨_,hJ⟩).2 _ hl hJ) hm⟩
 | _=>exact he
def kj(S S0:List It):Option (List It):=match nf S with
 | .x id::S'=>(match mL id S' with
  | none=>some (.x id::S0)
  | some _=>none)
 | _=>none
theorem uH{Q':Exit→Act→World→Prop}{S0 S1:List It}{b:Act}{W:World}(h1:kj S S0=some S1)(hk:dg F n P Q S1 .normal b W)(hQ: ∀id,Q' (.exit id) b W=dg F n P Q S0 (.exit id) b W):dg F n P Q' S .normal b W:=by
 refine dR 1000 S ?_
 unfold kj at h1
 split at h1
 ·rename_i id S' e
  rw[show dz 1000 S=_ from e]
  split at h1
  ·rename_i hp
   cases h1
   exact sd hp (by rw[hQ];exact hk)
  ·cases h1
 ·cases h1
theorem Cu{I:κ→Prop}{e:κ→Fe}{LI:κ→ah}{D:κ→List Nat}{m:κ→Nat}{S0:List It}{sz0:Nat}{st:Fe}{j:Nat}(hk:Go F n P R base Q ((kj S S0).getD []) ⟨sz,es⟩ L Ds)(hS:(kj S S0).isSome=true:=by kernel_rfl):Go F n P R base (nB F n P R base Q S0 I e LI D m sz0 st j) S ⟨sz,es⟩ L Ds:=by
 obtain⟨S1,h1⟩:=Option.isSome_iff_exists.1 hS
 rw[h1] at hk
 exact⟨λb W hb hO=>uH h1 (hk.out b W hb hO) λ_=>rfl⟩
class Rt (Q:Exit→Act→World→Prop) (Q0:outParam (Exit→Act→World→Prop)):Prop where
 out: ∀b W,Q0 .ret b W→Q .ret b W
instance {Q:Exit→Act→World→Prop}:Rt Q Q:=⟨λ_ _ h=>h⟩
def uI(F:Fence)(n:Nat)(P:Program)(R:List Nat)(base:World)(Q:Exit→Act→World→Prop)(S:List It)(I:Nat→Prop)(e:Nat→Fe)(LI:Nat→ah)(m:Nat→Nat)(Ds0:List Nat)(sz:Nat)(st:Fe)(j:Nat):Exit→Act→World→Prop:=nB (κ:=Nat) F n P R base Q S I e LI (λ_=>Ds0) m sz st j
theorem lq(I:Nat→Prop)(e:Nat→Fe)(LI:Nat→ah→ah)(m:Nat→Nat)(k0:Nat)(h0:I k0)(he:((e k0).map λx=>lk es x.1)=(e k0).map λx=>some x.2)(hL:L=LI k0 L)
  (hr: ∀(k:Nat),I k→Go F n P R base (uI F n P R base Q (bT S) I e (λk=>LI k L) m Ds sz (jX S es) (m k)) [.c (gM S)] ⟨sz,e k++jX S es⟩ (LI k L) Ds) (hS:oq S=true:=by kernel_rfl):Go F n P R base Q S ⟨sz,es⟩ L Ds:=
 lp (κ:=Nat) I e (λx=>LI x L) (λ_=>Ds) m k0 h0 he hL rfl (λx=>hr x) hS
theorem le{I:Nat→Prop}{e:Nat→Fe}{LI:Nat→ah}{m:Nat→Nat}{S0:List It}{sz0:Nat}{st:Fe}{Ds0:List Nat}{j:Nat}(k:Nat)(hI:I k)(hm:m k<j)(he:((e k++st).map λx=>lk es x.1)=(e k++st).map λx=>some x.2)(ps:List Nat)(hL:(dx (ps.map λp=>[p]).flatten,(ps.map λp=>[p]).map λg=>g.map λp=>L[p]?)=(true,((LI k).map λx=>[x]).map λN=>N.map some))(hS:(nf S).isEmpty=true:=by kernel_rfl)(hz:sz=sz0:=by rfl)(hD:Ds=Ds0:=by rfl):
  Go F n P R base (uI F n P R base Q S0 I e LI m Ds0 sz0 st j) S ⟨sz,es⟩ L Ds:=by
 subst hz hD
 refine⟨λb W hb hO=>dR 1000 S ?_⟩
 rw[show dz 1000 S=[] from List.isEmpty_iff.1 hS]
 exact⟨k,hI,hm,Fr.told (a:=⟨sz,es⟩) hb he,hO.under λh=>h.pick ps _ hL⟩
theorem lx{I:Nat→Prop}{e:Nat→Fe}{LI:Nat→ah}{m:Nat→Nat}{S0:List It}{sz0:Nat}{st:Fe}{Ds0:List Nat}{j:Nat}(hk:Go F n P R base Q ((kj S S0).getD []) ⟨sz,es⟩ L Ds)(hS:(kj S S0).isSome=true:=by kernel_rfl):Go F n P R base (uI F n P R base Q S0 I e LI m Ds0 sz0 st j) S ⟨sz,es⟩ L Ds:=Cu hk hS
instance {F:Fence} {n:Nat} {P:Program} {R:List Nat} {base:World} {Q Q0:Exit→Act→World→Prop} {I:Nat→Prop} {e:Nat→Fe} {LI:Nat→ah} {m:Nat→Nat} {S0:List It} {sz0:Nat} {st:Fe} {Ds0:List Nat} {j:Nat} [h:Rt Q Q0]:Rt (uI F n P R base Q S0 I e LI m Ds0 sz0 st j) Q0:=⟨λb W hq=>io (S:=S0) (h.out b W hq)⟩
def uJ(F:Fence)(n:Nat)(P:Program)(R:List Nat)(base:World)(Q:Exit→Act→World→Prop)(S:List It)(I:Nat→Value→Prop)(e:Nat→Value→Fe)(LI:Nat→Value→ah)(m:Nat→Value→Nat)(Ds0:List Nat)(sz:Nat)(st:Fe)(j:Nat):Exit→Act→World→Prop:=nB (κ:=Nat×Value) F n P R base Q S (λx=>I x.1 x.2) (λx=>e x.1 x.2) (λx=>LI x.1 x.2) (λ_=>Ds0) (λx=>m x.1 x.2) sz st j
theorem mN(I:Nat→Value→Prop)(e:Nat→Value→Fe)(LI:Nat→Value→ah→ah)(m:Nat→Value→Nat)(k0:Nat)(u0:Value)(h0:I k0 u0)(he:((e k0 u0).map λx=>lk es x.1)=(e k0 u0).map λx=>some x.2)(hL:L=LI k0 u0 L)
  (hr: ∀(k:Nat) (u:Value),I k u→Go F n P R base (uJ F n P R base Q (bT S) I e (λk u=>LI k u L) m Ds sz (jX S es) (m k u)) [.c (gM S)] ⟨sz,e k u++jX S es⟩ (LI k u L) Ds) (hS:oq S=true:=by kernel_rfl):Go F n P R base Q S ⟨sz,es⟩ L Ds:=
 lp (κ:=Nat×Value) (λx=>I x.1 x.2) (λx=>e x.1 x.2) (λx=>LI x.1 x.2 L) (λ_=>Ds) (λx=>m x.1 x.2) (k0,u0) h0 he hL rfl (λx=>hr x.1 x.2) hS
theorem lE{I:Nat→Value→Prop}{e:Nat→Value→Fe}{LI:Nat→Value→ah}{m:Nat→Value→Nat}{S0:List It}{sz0:Nat}{st:Fe}{Ds0:List Nat}{j:Nat}(k:Nat)(u:Value)(hI:I k u)(hm:m k u<j)(he:((e k u++st).map λx=>lk es x.1)=(e k u++st).map λx=>some x.2)(ps:List Nat)(hL:(dx (ps.map λp=>[p]).flatten,(ps.map λp=>[p]).map λg=>g.map λp=>L[p]?)=(true,((LI k u).map λx=>[x]).map λN=>N.map some))(hS:(nf S).isEmpty=true:=by kernel_rfl)(hz:sz=sz0:=by rfl)(hD:Ds=Ds0:=by rfl):
  Go F n P R base (uJ F n P R base Q S0 I e LI m Ds0 sz0 st j) S ⟨sz,es⟩ L Ds:=by
 subst hz hD
 refine⟨λb W hb hO=>dR 1000 S ?_⟩
 rw[show dz 1000 S=[] from List.isEmpty_iff.1 hS]
 exact⟨(k,u),hI,hm,Fr.told (a:=⟨sz,es⟩) hb he,hO.under λh=>h.pick ps _ hL⟩
theorem lF{I:Nat→Value→Prop}{e:Nat→Value→Fe}{LI:Nat→Value→ah}{m:Nat→Value→Nat}{S0:List It}{sz0:Nat}{st:Fe}{Ds0:List Nat}{j:Nat}(hk:Go F n P R base Q ((kj S S0).getD []) ⟨sz,es⟩ L Ds)(hS:(kj S S0).isSome=true:=by kernel_rfl):Go F n P R base (uJ F n P R base Q S0 I e LI m Ds0 sz0 st j) S ⟨sz,es⟩ L Ds:=Cu hk hS
instance {F:Fence} {n:Nat} {P:Program} {R:List Nat} {base:World} {Q Q0:Exit→Act→World→Prop} {I:Nat→Value→Prop} {e:Nat→Value→Fe} {LI:Nat→Value→ah} {m:Nat→Value→Nat} {S0:List It} {sz0:Nat} {st:Fe} {Ds0:List Nat} {j:Nat} [h:Rt Q Q0]:Rt (uJ F n P R base Q S0 I e LI m Ds0 sz0 st j) Q0:=⟨λb W hq=>io (S:=S0) (h.out b W hq)⟩
def KG(F:Fence)(n:Nat)(P:Program)(R:List Nat)(base:World)(Q:Exit→Act→World→Prop)(S:List It)(I:Nat→Value→Value→Prop)(e:Nat→Value→Value→Fe)(LI:Nat→Value→Value→ah)(m:Nat→Value→Value→Nat)(Ds0:List Nat)(sz:Nat)(st:Fe)(j:Nat):Exit→Act→World→Prop:=nB (κ:=Nat×Value×Value) F n P R base Q S (λx=>I x.1 x.2.1 x.2.2) (λx=>e x.1 x.2.1 x.2.2) (λx=>LI x.1 x.2.1 x.2.2) (λ_=>Ds0) (λx=>m x.1 x.2.1 x.2.2) sz st j
instance {F:Fence} {n:Nat} {P:Program} {R:List Nat} {base:World} {Q Q0:Exit→Act→World→Prop} {I:Nat→Value→Value→Prop} {e:Nat→Value→Value→Fe} {LI:Nat→Value→Value→ah} {m:Nat→Value→Value→Nat} {S0:List It} {sz0:Nat} {st:Fe} {Ds0:List Nat} {j:Nat} [h:Rt Q Q0]:Rt (KG F n P R base Q S0 I e LI m Ds0 sz0 st j) Q0:=⟨λb W hq=>io (S:=S0) (h.out b W hq)⟩
def KH(F:Fence)(n:Nat)(P:Program)(R:List Nat)(base:World)(Q:Exit→Act→World→Prop)(S:List It)(I:Nat→Value→Value→Value→Prop)(e:Nat→Value→Value→Value→Fe)(LI:Nat→Value→Value→Value→ah)(m:Nat→Value→Value→Value→Nat)(Ds0:List Nat)(sz:Nat)(st:Fe)(j:Nat):Exit→Act→World→Prop:=nB (κ:=Nat×Value×Value×Value) F n P R base Q S (λx=>I x.1 x.2.1 x.2.2.1 x.2.2.2) (λx=>e x.1 x.2.1 x.2.2.1 x.2.2.2) (λx=>LI x.1 x.2.1 x.2.2.1 x.2.2.2) (λ_=>Ds0) (λx=>m x.1 x.2.1 x.2.2.1 x.2.2.2) sz st j
instance {F:Fence} {n:Nat} {P:Program} {R:List Nat} {base:World} {Q Q0:Exit→Act→World→Prop} {I:Nat→Value→Value→Value→Prop} {e:Nat→Value→Value→Value→Fe} {LI:Nat→Value→Value→Value→ah} {m:Nat→Value→Value→Value→Nat} {S0:List It} {sz0:Nat} {st:Fe} {Ds0:List Nat} {j:Nat} [h:Rt Q Q0]:Rt (KH F n P R base Q S0 I e LI m Ds0 sz0 st j) Q0:=⟨λb W hq=>io (S:=S0) (h.out b W hq)⟩
def KJ(F:Fence)(n:Nat)(P:Program)(R:List Nat)(base:World)(Q:Exit→Act→World→Prop)(S:List It)(I:Nat→List Nat→Prop)(e:Nat→List Nat→Fe)(LI:Nat→List Nat→ah)(m:Nat→List Nat→Nat)(sz:Nat)(st:Fe)(j:Nat):Exit→Act→World→Prop:=nB (κ:=Nat×List Nat) F n P R base Q S (λx=>I x.1 x.2) (λx=>e x.1 x.2) (λx=>LI x.1 x.2) (λx=>x.2) (λx=>m x.1 x.2) sz st j
instance {F:Fence} {n:Nat} {P:Program} {R:List Nat} {base:World} {Q Q0:Exit→Act→World→Prop} {I:Nat→List Nat→Prop} {e:Nat→List Nat→Fe} {LI:Nat→List Nat→ah} {m:Nat→List Nat→Nat} {S0:List It} {sz0:Nat} {st:Fe} {j:Nat} [h:Rt Q Q0]:Rt (KJ F n P R base Q S0 I e LI m sz0 st j) Q0:=⟨λb W hq=>io (S:=S0) (h.out b W hq)⟩
def KK(F:Fence)(n:Nat)(P:Program)(R:List Nat)(base:World)(Q:Exit→Act→World→Prop)(S:List It)(I:Nat→Value→List Nat→Prop)(e:Nat→Value→List Nat→Fe)(LI:Nat→Value→List Nat→ah)(m:Nat→Value→List Nat→Nat)(sz:Nat)(st:Fe)(j:Nat):Exit→Act→World→Prop:=nB (κ:=Nat×Value×List Nat) F n P R base Q S (λx=>I x.1 x.2.1 x.2.2) (λx=>e x.1 x.2.1 x.2.2) (λx=>LI x.1 x.2.1 x.2.2) (λx=>x.2.2) (λx=>m x.1 x.2.1 x.2.2) sz st j
theorem ZM(I:Nat→Value→List Nat→Prop)(e:Nat→Value→List Nat→Fe)(LI:Nat→Value→List Nat→ah→ah)(m:Nat→Value→List Nat→Nat)(k0:Nat)(u0:Value)(E0:List Nat)(h0:I k0 u0 E0)(he:((e k0 u0 E0).map λx=>lk es x.1)=(e k0 u0 E0).map λx=>some x.2)(hL:L=LI k0 u0 E0 L)(hD:Ds=E0)
  (hr: ∀(k:Nat) (u:Value) (E:List Nat),I k u E→Go F n P R base (KK F n P R base Q (bT S) I e (λk u E=>LI k u E L) m sz (jX S es) (m k u E)) [.c (gM S)] ⟨sz,e k u E++jX S es⟩ (LI k u E L) E) (hS:oq S=true:=by kernel_rfl):Go F n P R base Q S ⟨sz,es⟩ L Ds:=
 lp (κ:=Nat×Value×List Nat) (λx=>I x.1 x.2.1 x.2.2) (λx=>e x.1 x.2.1 x.2.2) (λx=>LI x.1 x.2.1 x.2.2 L) (λx=>x.2.2) (λx=>m x.1 x.2.1 x.2.2) (k0,u0,E0) h0 he hL hD (λx=>hr x.1 x.2.1 x.2.2) hS
theorem ZB{I:Nat→Value→List Nat→Prop}{e:Nat→Value→List Nat→Fe}{LI:Nat→Value→List Nat→ah}{m:Nat→Value→List Nat→Nat}{S0:List It}{sz0:Nat}{st:Fe}{j:Nat}(k:Nat)(u:Value)(E:List Nat)(hI:I k u E)(hm:m k u E<j)(he:((e k u E++st).map λx=>lk es x.1)=(e k u E++st).map λx=>some x.2)(ps:List Nat)(hL:(dx (ps.map λp=>[p]).flatten,(ps.map λp=>[p]).map λg=>g.map λp=>L[p]?)=(true,((LI k u E).map λx=>[x]).map λN=>N.map some))(hS:(nf S).isEmpty=true:=by kernel_rfl)(hz:sz=sz0:=by rfl)(hD:Ds=E:=by rfl):
  Go F n P R base (KK F n P R base Q S0 I e LI m sz0 st j) S ⟨sz,es⟩ L Ds:=by
 subst hz hD
 refine⟨λb W hb hO=>dR 1000 S ?_⟩
 rw[show dz 1000 S=[] from List.isEmpty_iff.1 hS]
 exact⟨(k,u,Ds),hI,hm,Fr.told (a:=⟨sz,es⟩) hb he,hO.under λh=>h.pick ps _ hL⟩
theorem ZN{I:Nat→Value→List Nat→Prop}{e:Nat→Value→List Nat→Fe}{LI:Nat→Value→List Nat→ah}{m:Nat→Value→List Nat→Nat}{S0:List It}{sz0:Nat}{st:Fe}{j:Nat}(hk:Go F n P R base Q ((kj S S0).getD []) ⟨sz,es⟩ L Ds)(hS:(kj S S0).isSome=true:=by kernel_rfl):Go F n P R base (KK F n P R base Q S0 I e LI m sz0 st j) S ⟨sz,es⟩ L Ds:=Cu hk hS
instance {F:Fence} {n:Nat} {P:Program} {R:List Nat} {base:World} {Q Q0:Exit→Act→World→Prop} {I:Nat→Value→List Nat→Prop} {e:Nat→Value→List Nat→Fe} {LI:Nat→Value→List Nat→ah} {m:Nat→Value→List Nat→Nat} {S0:List It} {sz0:Nat} {st:Fe} {j:Nat} [h:Rt Q Q0]:Rt (KK F n P R base Q S0 I e LI m sz0 st j) Q0:=⟨λb W hq=>io (S:=S0) (h.out b W hq)⟩
def KL(F:Fence)(n:Nat)(P:Program)(R:List Nat)(base:World)(Q:Exit→Act→World→Prop)(S:List It)(I:Nat→Value→Value→List Nat→Prop)(e:Nat→Value→Value→List Nat→Fe)(LI:Nat→Value→Value→List Nat→ah)(m:Nat→Value→Value→List Nat→Nat)(sz:Nat)(st:Fe)(j:Nat):Exit→Act→World→Prop:=nB (κ:=Nat×Value×Value×List Nat) F n P R base Q S (λx=>I x.1 x.2.1 x.2.2.1 x.2.2.2) (λx=>e x.1 x.2.1 x.2.2.1 x.2.2.2) (λx=>LI x.1 x.2.1 x.2.2.1 x.2.2.2) (λx=>x.2.2.2) (λx=>m x.1 x.2.1 x.2.2.1 x.2.2.2) sz st j
instance {F:Fence} {n:Nat} {P:Program} {R:List Nat} {base:World} {Q Q0:Exit→Act→World→Prop} {I:Nat→Value→Value→List Nat→Prop} {e:Nat→Value→Value→List Nat→Fe} {LI:Nat→Value→Value→List Nat→ah} {m:Nat→Value→Value→List Nat→Nat} {S0:List It} {sz0:Nat} {st:Fe} {j:Nat} [h:Rt Q Q0]:Rt (KL F n P R base Q S0 I e LI m sz0 st j) Q0:=⟨λb W hq=>io (S:=S0) (h.out b W hq)⟩
end
section
variable {F:Fence} {n:Nat} {P:Program} {R:List Nat} {base:World} {Q:Exit→Act→World→Prop} {S:List It} {a:Sl} {sz:Nat} {es:Fe} {L:ah} {Ds:List Nat}
def jQ(F:Fence)(n:Nat)(P:Program)(R:List Nat)(base:World)(Q:Exit→Act→World→Prop)(S:List It)(a':Sl)(L':ah)(Ds:List Nat):Exit→Act→World→Prop
 | .normal,b,W=>Fr a' Ds b∧aD R base (L'++Ds.map mk) W
 | e,b,W=>dg F n P Q S e b W
def uK(S:List It):Code:=match nf S with | .c (.cond _ x _)::_=>x | _=> .skip
def uL(S:List It):Code:=match nf S with | .c (.cond _ _ y)::_=>y | _=> .skip
def xW(S:List It)(e:Fe):Fe:=(λds=>e.filter λx=> !jw ds (Nat.beq x.1)) (kJ (uK S)++kJ (uL S))
theorem cJ(E:Bool)(e':Bool→Fe)(L':Bool→ah)(ht:E=true→Go F n P R base (jQ F n P R base Q (bT S) ⟨sz,e' true++xW S es⟩ (L' true) Ds) [.c (uK S)] ⟨sz,es⟩ L Ds)(hf:E=false→Go F n P R base (jQ F n P R base Q (bT S) ⟨sz,e' false++xW S es⟩ (L' false) Ds) [.c (uL S)] ⟨sz,es⟩ L Ds)
  (hk:Go F n P R base Q (bT S) ⟨sz,e' E++xW S es⟩ (L' E) Ds) (hc:(lB ⟨sz,es⟩ S,lC ⟨sz,es⟩ S)=(some E,true):=by kernel_rfl):Go F n P R base Q S ⟨sz,es⟩ L Ds:=by
 obtain⟨c,x,y,S',h1,h2,h3,h4⟩:=Cr (Ds:=Ds) (ALca (·.1) hc) (ALca (·.2) hc)
 have ex:uK S=x:=by unfold uK;rw[h1]
 have ey:uL S=y:=by unfold uL;rw[h1]
 have et:bT S=S':=by unfold bT;rw[h1]
 rw[ex] at ht
 rw[ey] at hf
 rw[et] at ht hf hk
 refine⟨λb W hb hO=>dR 1000 S ?_⟩
 rw[show dz 1000 S=_ from h1]
 cases E with
 | true=>exact wpIn_cond (h4 hb) (wpIn_mono (show x.wpIn F n P _ b W from(ht rfl).out b W hb hO) λe b' W' he=>by
   cases e with
   | normal=>exact hk.out b' W' he.1 he.2
   | _=>exact he)
 | false=>exact wpIn_cond (h4 hb) (wpIn_mono (show y.wpIn F n P _ b W from(hf rfl).out b W hb hO) λe b' W' he=>by
   cases e with
   | normal=>exact hk.out b' W' he.1 he.2
   | _=>exact he)
theorem cm{S0:List It}{a':Sl}{L':ah}{Ds0:List Nat}(he:(a'.e.map λx=>lk es x.1)=a'.e.map λx=>some x.2)(ps:List Nat)(hL:(dx (ps.map λp=>[p]).flatten,(ps.map λp=>[p]).map λg=>g.map λp=>L[p]?)=(true,(L'.map λx=>[x]).map λN=>N.map some))(hS:(nf S).isEmpty=true:=by kernel_rfl)(hz:sz=a'.sz:=by rfl)(hD:Ds=Ds0:=by rfl):Go F n P R base (jQ F n P R base Q S0 a' L' Ds0) S ⟨sz,es⟩ L Ds:=by
 subst hD
 refine⟨λb W hb hO=>dR 1000 S ?_⟩
 rw[show dz 1000 S=[] from List.isEmpty_iff.1 hS]
 have h:=hb.told he
 exact⟨⟨h.size.trans hz,h.get,h.defers⟩,hO.under λh=>h.pick ps _ hL⟩
theorem r0[hF:lj F](hs:List (Nat×cS P))(nw:Fe)(dr:List Nat)(hk:Go F n P R base Q (bT S) ⟨sz,nw++eP dr es⟩ L Ds)
 (hm:P.follows .mixedOrders=true:=by kernel_rfl)
 (he: ∀η,(mM S,(fV (ax S) ⟨sz,es⟩ (tR S ⟨sz,es⟩ L L.length λ_=>hs) η 0 (ax S) (mn S ⟨sz,es⟩ L (λ_=>hs) η)).map bi.lhs,ng (fB S) (ax S) (λk=>(kf (fB S) (ax S)).getD k []),(dZ L.length).map (λp=>(tR S ⟨sz,es⟩ L L.length λ_=>hs).at η p (ax S).length),nw.map (λx=>mj (ax S) ⟨sz,es⟩ (tR S ⟨sz,es⟩ L L.length λ_=>hs) η x.1),nz (ax S) es nw dr)=
  (true,(fV (ax S) ⟨sz,es⟩ (tR S ⟨sz,es⟩ L L.length λ_=>hs) η 0 (ax S) (mn S ⟨sz,es⟩ L (λ_=>hs) η)).map bi.rhs,true,L.map some,nw.map (λx=>some x.2),true):=by intro _;kernel_rfl):Go F n P R base Q S ⟨sz,es⟩ L Ds:=rr (λ_=>hs) (λ_=>nw) dr (λ_ L=>L) (λ_=>hk) hm he
theorem rF[hF:lj F](hs:List (Nat×cS P))(k:Nat)(hk:Go F n P R base Q (ny (bT S)) ⟨sz,[(k,Value.bool false)]++eP [] es⟩ L Ds)(hm:P.follows .mixedOrders=true:=by kernel_rfl)(he: ∀η,(mM S,(fV (ax S) ⟨sz,es⟩ (tR S ⟨sz,es⟩ L L.length λ_=>hs) η 0 (ax S) (mn S ⟨sz,es⟩ L (λ_=>hs) η)).map bi.lhs,ng (fB S) (ax S) (λk=>(kf (fB S) (ax S)).getD k []),(dZ L.length).map (λp=>(tR S ⟨sz,es⟩ L L.length λ_=>hs).at η p (ax S).length),[(k,Value.bool false)].map (λx=>mj (ax S) ⟨sz,es⟩ (tR S ⟨sz,es⟩ L L.length λ_=>hs) η x.1),nz (ax S) es [(k,Value.bool false)] [])=(true,(fV (ax S) ⟨sz,es⟩ (tR S ⟨sz,es⟩ L L.length λ_=>hs) η 0 (ax S) (mn S ⟨sz,es⟩ L (λ_=>hs) η)).map bi.rhs,true,L.map some,[(k,Value.bool false)].map (λx=>some x.2),true):=by intro _;kernel_rfl)(hc:(lB ⟨sz,[(k,Value.bool false)]++eP [] es⟩ (bT S),lC ⟨sz,[(k,Value.bool false)]++eP [] es⟩ (bT S))=(some false,true):=by kernel_rfl):Go F n P R base Q S ⟨sz,es⟩ L Ds:=r0 hs [(k,Value.bool false)] [] (cF false rfl hk hc) hm he
theorem rT[hF:lj F](hs:List (Nat×cS P))(k:Nat)(hk:Go F n P R base Q (nu (bT S)) ⟨sz,[(k,Value.bool true)]++eP [] es⟩ L Ds)(hm:P.follows .mixedOrders=true:=by kernel_rfl)(he: ∀η,(mM S,(fV (ax S) ⟨sz,es⟩ (tR S ⟨sz,es⟩ L L.length λ_=>hs) η 0 (ax S) (mn S ⟨sz,es⟩ L (λ_=>hs) η)).map bi.lhs,ng (fB S) (ax S) (λk=>(kf (fB S) (ax S)).getD k []),(dZ L.length).map (λp=>(tR S ⟨sz,es⟩ L L.length λ_=>hs).at η p (ax S).length),[(k,Value.bool true)].map (λx=>mj (ax S) ⟨sz,es⟩ (tR S ⟨sz,es⟩ L L.length λ_=>hs) η x.1),nz (ax S) es [(k,Value.bool true)] [])=(true,(fV (ax S) ⟨sz,es⟩ (tR S ⟨sz,es⟩ L L.length λ_=>hs) η 0 (ax S) (mn S ⟨sz,es⟩ L (λ_=>hs) η)).map bi.rhs,true,L.map some,[(k,Value.bool true)].map (λx=>some x.2),true):=by intro _;kernel_rfl)(hc:(lB ⟨sz,[(k,Value.bool true)]++eP [] es⟩ (bT S),lC ⟨sz,[(k,Value.bool true)]++eP [] es⟩ (bT S))=(some true,true):=by kernel_rfl):Go F n P R base Q S ⟨sz,es⟩ L Ds:=r0 hs [(k,Value.bool true)] [] (cT true rfl hk hc) hm he
theorem ra[hF:lj F](nw:bI→Fe)(A:bI→ah)(hk: ∀η,Go F n P R base Q (bT S) ⟨sz,nw η++eP [] es⟩ (L++A η) Ds)(hm:P.follows .mixedOrders=true:=by kernel_rfl)(he: ∀η,(mM S,(fV (ax S) ⟨sz,es⟩ (tR S ⟨sz,es⟩ L (mR (λη L=>L++A η) L) (λ_=>([]:List (Nat×cS P)))) η 0 (ax S) (mn S ⟨sz,es⟩ L (λ_=>([]:List (Nat×cS P))) η)).map bi.lhs,ng (fB S) (ax S) (λk=>(kf (fB S) (ax S)).getD k []),(dZ (mR (λη L=>L++A η) L)).map (λp=>(tR S ⟨sz,es⟩ L (mR (λη L=>L++A η) L) (λ_=>([]:List (Nat×cS P)))).at η p (ax S).length),(nw η).map (λx=>mj (ax S) ⟨sz,es⟩ (tR S ⟨sz,es⟩ L (mR (λη L=>L++A η) L) (λ_=>([]:List (Nat×cS P)))) η x.1),nz (ax S) es (nw η) [])=(true,(fV (ax S) ⟨sz,es⟩ (tR S ⟨sz,es⟩ L (mR (λη L=>L++A η) L) (λ_=>([]:List (Nat×cS P)))) η 0 (ax S) (mn S ⟨sz,es⟩ L (λ_=>([]:List (Nat×cS P))) η)).map bi.rhs,true,(L++A η).map some,(nw η).map (λx=>some x.2),true):=by intro _;kernel_rfl):Go F n P R base Q S ⟨sz,es⟩ L Ds:=rr (λ_=>[]) nw [] (λη L=>L++A η) hk hm he
theorem rs[hF:lj F](hs:List (Nat×cS P))(k:Nat)(X:az)(hk:Go F n P R base Q (bT S) ⟨sz,[]++eP [] es⟩ (L.set k X) Ds)(hm:P.follows .mixedOrders=true:=by kernel_rfl)(he: ∀η,(mM S,(fV (ax S) ⟨sz,es⟩ (tR S ⟨sz,es⟩ L (mR (λ_ L=>L.set k X) L) (λ_=>hs)) η 0 (ax S) (mn S ⟨sz,es⟩ L (λ_=>hs) η)).map bi.lhs,ng (fB S) (ax S) (λk=>(kf (fB S) (ax S)).getD k []),(dZ (mR (λ_ L=>L.set k X) L)).map (λp=>(tR S ⟨sz,es⟩ L (mR (λ_ L=>L.set k X) L) (λ_=>hs)).at η p (ax S).length),([]:Fe).map (λx=>mj (ax S) ⟨sz,es⟩ (tR S ⟨sz,es⟩ L (mR (λ_ L=>L.set k X) L) (λ_=>hs)) η x.1),nz (ax S) es ([]:Fe) [])=(true,(fV (ax S) ⟨sz,es⟩ (tR S ⟨sz,es⟩ L (mR (λ_ L=>L.set k X) L) (λ_=>hs)) η 0 (ax S) (mn S ⟨sz,es⟩ L (λ_=>hs) η)).map bi.rhs,true,(L.set k X).map some,([]:Fe).map (λx=>some x.2),true):=by intro _;kernel_rfl):Go F n P R base Q S ⟨sz,es⟩ L Ds:=rr (λ_=>hs) (λ_=>[]) [] (λ_ L=>L.set k X) (λ_=>hk) hm he
end
def ot:Nat→List Value→Fe
 | _,[]=>[]
 | k,v::r=>(k,v)::ot (k+1) r
theorem se: ∀{l:List Value} {k i:Nat} {v:Value},lk (ot k l) i=some v→k≤i∧l[i-k]? =some v
 | [],_,_,_,h=>by cases h
 | u::r,k,i,v,h=>by
  unfold ot lk at h
  split at h
  ·rename_i hb
   cases h
   rw[Nat.eq_of_beq_eq_true hb,Nat.sub_self]
   exact⟨Nat.le_refl _,rfl⟩
  ·obtain⟨h1,h2⟩:=se h
   refine⟨by omega,?_⟩
   rw[show i-k=(i-(k+1))+1 by omega,List.getElem?_cons_succ]
   exact h2
def kK(fn:Func):Code:=fn.body.getD .skip
section
variable {P:Program} {f:FuncId} {fn:Func} {args:Array Value} {rd:ah} {O:List Nat} {wt:ab→ah} {v:ab→Value}
def fQ(P:Program)(fn:Func)(rd:ah)(O:List Nat)(wt:ab→ah)(v:ab→Value)(cs:List aw)(w:World):Exit→Act→World→Prop:=λe b W=>
 bu rd cs→Has cs.flatten w→bodyPostM Fence.wide 6 P fn (Cc O wt v cs w) e b W
theorem fE(hf:P.funcs[f]? =some fn)(h: ∀w cs,Go Fence.wide 6 P (bN cs.flatten) w (fQ P fn rd O wt v cs w) [.c (kK fn)] ⟨fn.ntmps,ot 0 args.toList⟩ rd [])(hE:Enters P f:=by exact enters_of As Kr rfl)
  (hc:(fn.body.isSome,Nat.ble args.size fn.ntmps)=(true,true):=by kernel_rfl):aa P f args rd O wt v:=by
 refine⟨hE,λw cs hs hh=>?_⟩
 obtain⟨c,hb⟩:=Option.isSome_iff_exists.1 (ALca (·.1) hc)
 have hn:args.size≤fn.ntmps:=Nat.le_of_ble_eq_true (ALca (·.2) hc)
 refine(callsIn_wide (n:=6)).1 ?_
 refine callsIn_of_wp_marks hf hb trivial ?_ rfl
 have h1:=(h w cs).out {tmps:=args++Array.replicate (fn.ntmps-args.size) undef,defers:=[]} w ⟨by simp;omega,λi v hv=>?_,rfl⟩ (by simpa using aD.start hs hh)
 ·rw[show kK fn=c by unfold kK;rw[hb];rfl] at h1
  exact wpIn_mono (show c.wpIn Fence.wide 6 P _ _ _ from h1) λe b W hq=>hq hs hh
 ·obtain⟨_,h2⟩:=se hv
  rw[Nat.sub_zero] at h2
  have h3:i<args.toList.length:=(List.getElem?_eq_some_iff.1 h2).1
  have h4:args[i]? =some v:=by rw[←Array.getElem?_toList];exact h2
  rw[Array.getD_eq_getD_getElem?,Array.getElem?_append_left (by simpa using h3),h4]
  rfl
theorem fG(hf:P.funcs[f]? =some fn)(h: ∀w cs,Go Fence.wide 6 P (bN cs.flatten) w (fQ P fn rd O wt v cs w) [.c (kK fn)] ⟨fn.ntmps,ot 0 args.toList⟩ rd [])(hn:(fn.name== "runtime.NumGoroutine")=false:=by kernel_rfl)
  (hc:(fn.body.isSome,Nat.ble args.size fn.ntmps)=(true,true):=by kernel_rfl):aa P f args rd O wt v:=by
 obtain⟨c,hb⟩:=Option.isSome_iff_exists.1 (congrArg (·.1) hc)
 exact fE hf h (enters_of hf hn hb) hc
theorem fN{fn:Func}(hf:P.funcs[f]? =some fn)(hn:(fn.name== "runtime.NumGoroutine")=false:=by kernel_rfl)(hb:fn.body.isSome=true:=by kernel_rfl):Enters P f:=by
 obtain⟨c,hc⟩:=Option.isSome_iff_exists.1 hb
 exact enters_of hf hn hc
theorem fO{fn:Func}(hf:P.funcs[f]? =some fn)(i:Nat){Q:aw→Prop}(hi:rd[i]? =some (.p Q))(h: ∀bs,Q bs→aa P f args (rd.set i (.c bs)) O wt v)(hn:(fn.name== "runtime.NumGoroutine")=false:=by kernel_rfl)(hb:fn.body.isSome=true:=by kernel_rfl):aa P f args rd O wt v:=aa.ro i hi h (fN hf hn hb)
instance {F:Fence} {n:Nat} {R:List Nat} {base:World} {Q Q0:Exit→Act→World→Prop} {S0:List It} {a':Sl} {L':ah} {Ds:List Nat} [h:Rt Q Q0]:Rt (jQ F n P R base Q S0 a' L' Ds) Q0:=⟨λb W hq=>io (S:=S0) (h.out b W hq)⟩
def jY(P:Program)(L:ah)(e:Fe):List ResultVar→List Nat→List (RV P)
 | [],_=>[]
 | .tmp i::rs,ks=> .t ((lk e i).getD undef)::jY P L e rs ks
 | .cell _ T::rs,k::ks=>(match L[k]? with
  | some (.c [(_,.cells cs _ _)])=>(match dQ P T with
   | true=> .s (cs.toList.take (Cj P T)) k
   | false=> .c (cs.getD 0 undef) k)
  | _=> .t undef)::jY P L e rs ks
 | .cell _ _::rs,[]=> .t undef::jY P L e rs []
def f8(P:Program)(L:ah)(e:Fe):List ResultVar→List (RV P)→List bi
 | [],[]=>[]
 | .tmp i::rs,.t v::vs=>sE (lk e i) (some v)::f8 P L e rs vs
 | .cell p T::rs,.c v k::vs=>(match L[k]? with
  | some (.c [(g,.cells cs _ (0,0))])=>[sE (lk e p) (some (n9 g 0)),sE cs[0]? (some v),sE (λw=>(isAgg T).run P w) (λw=> .ok false w)]
  | _=>[sB false])++f8 P L e rs vs
 | .cell p T::rs,.s l k::vs=>(match L[k]? with
  | some (.c [(g,.cells cs _ (0,0))])=>[sE (lk e p) (some (n9 g 0)),sE ((cs.toList.drop 0).take l.length) l,sB (dQ P T),sE ((P.info? T).map (·.size)) (some l.length)]
  | _=>[sB false])++f8 P L e rs vs
 | _,_=>[sB false]
theorem uM{a:Sl}{Ds:List Nat}{b:Act}(hb:Fr a Ds b){L:ah}{M:ah}: ∀{rs:List ResultVar} {vs:List (RV P)},(∀x∈f8 P L a.e rs vs,x.2.1=x.2.2)→∀x∈fW P (L) b.tmps rs vs,x.2.1=x.2.2
 | [],[],_=>λx hx=>by simp [fW] at hx
 | [],_::_,h=>(bG (by simpa [f8] using h)).elim
 | .tmp i::rs,[],h=>(bG (by simpa [f8] using h)).elim
 | .cell p T::rs,[],h=>(bG (by simpa [f8] using h)).elim
 | .tmp i::rs,.t v::vs,h=>by
  simp only[f8,eF,forall_eq_or_imp,sE] at h
  simp only[fW,eF,forall_eq_or_imp,sE]
  exact⟨hb.get i v h.1,uM (M:=M) hb h.2⟩
 | .tmp i::rs,.c v k::vs,h=>(bG (by simpa only[f8] using h)).elim
 | .tmp i::rs,.s l k::vs,h=>(bG (by simpa only[f8] using h)).elim
 | .cell p T::rs,.t v::vs,h=>(bG (by simpa only[f8] using h)).elim
 | .cell p T::rs,.c v k::vs,h=>by
  simp only[f8] at h
  simp only[fW]
  split at h
  ·rename_i g cs ty hL
   simp only[jg,eF,ir,or_false,or_imp,forall_and,forall_eq,sE] at h
   simp only[hL,jg,eF,ir,or_false,or_imp,forall_and,forall_eq,sE]
   exact⟨⟨hb.get p _ h.1.1,h.1.2⟩,uM (M:=M) hb h.2⟩
  ·exact(bG λe he'=>h e (jm _ he')).elim
 | .cell p T::rs,.s l k::vs,h=>by
  simp only[f8] at h
  simp only[fW]
  split at h
  ·rename_i g cs ty hL
   simp only[jg,eF,ir,or_false,or_imp,forall_and,forall_eq,sE,sB] at h
   simp only[hL,jg,eF,ir,or_false,or_imp,forall_and,forall_eq,sE,sB]
   exact⟨⟨hb.get p _ h.1.1,h.1.2⟩,uM (M:=M) hb h.2⟩
  ·exact(bG λe he'=>h e (jm _ he')).elim
section
variable {a:Sl} {sz:Nat} {es:Fe} {L:ah} {S:List It} {Ds:List Nat} {cs:List aw} {w:World} {Q:Exit→Act→World→Prop}
theorem Cv{b:Act}{W:World}(hb:Fr a Ds b)(hO:aD (bN cs.flatten) w (L++Ds.map mk) W)(HS:bu rd cs)(HH:Has cs.flatten w)(vs:List (RV P))(E:ab)(ps:List Nat)(ks:List (Nat×Nat))(hv:od vs=v E)
  (he:(f8 P L a.e fn.results.toList vs).map bi.lhs=(f8 P L a.e fn.results.toList vs).map bi.rhs)
  (hf:(dx (ps++ks.map (·.2)),ps.map (λp=>L[p]?),ks.map (λx=>L[x.2]?),ks.all (λx=>oo rd[x.1]?),(dZ rd.length).all λi=>O.contains i||ks.any λx=>x.1==i)=(true,(wt E).map some,ks.map (λx=>rd[x.1]?),true,true)):
  LeavesInM Fence.wide 6 P fn b.tmps (Cc O wt v cs w) b.defers .returning W:=by
 obtain⟨R1,OC,OW⟩:=hO.seg
 rw[hb.defers]
 have h1:=uM (M:=L) hb (bi.all he)
 refine BD OC OW vs ?_ λW2 hO=>?_
 ·exact List.map_congr_left λx hx=>by
   obtain⟨T,x1,x2⟩:=x
   have:=h1 _ hx
   simp only at this
   unfold bi.lhs bi.rhs
   rw[this]
 ·obtain⟨ds,h1,h2⟩:=hO.fin2 (R:=[]) HS HH O (wt E) ps ks hf
  exact⟨E,ds,by rw[hv],h1,h2⟩
def sf(S:List It):Bool:=match nf S with | .c .ret::_=>true | _=>false
theorem am[hR:Rt Q (fQ P fn rd O wt v cs w)](u:Value)(E:ab)(hu:u=v E)(ps:List Nat)(ks:List (Nat×Nat))(rs:List Nat)(hv:od (jY P L es fn.results.toList rs)=u:=by kernel_rfl)
  (he:(f8 P L es fn.results.toList (jY P L es fn.results.toList rs)).map bi.lhs=(f8 P L es fn.results.toList (jY P L es fn.results.toList rs)).map bi.rhs:=by kernel_rfl)
  (hf:(dx (ps++ks.map (·.2)),ps.map (λp=>L[p]?),ks.map (λx=>L[x.2]?),ks.all (λx=>oo rd[x.1]?),(dZ rd.length).all λi=>O.contains i||ks.any λx=>x.1==i)=(true,(wt E).map some,ks.map (λx=>rd[x.1]?),true,true):=by kernel_rfl)
  (hS:sf S=true:=by kernel_rfl):Go Fence.wide 6 P (bN cs.flatten) w Q S ⟨sz,es⟩ L Ds:=by
 refine⟨λb W hb hO=>dR 1000 S ?_⟩
 unfold sf at hS
 split at hS
 ·rename_i S' e
  rw[show dz 1000 S=_ from e]
  exact wpIn_ret (io (hR.out b W λHS HH=>Cv hb hO HS HH _ E ps ks (hv.trans hu) he hf))
 ·cases hS
theorem lf[hR:Rt Q (fQ P fn rd O wt v cs w)](E:ab)(ps:List Nat)(ks:List (Nat×Nat))(rs:List Nat)(hv:od (jY P L es fn.results.toList rs)=v E:=by kernel_rfl)
 (he:(f8 P L es fn.results.toList (jY P L es fn.results.toList rs)).map bi.lhs=(f8 P L es fn.results.toList (jY P L es fn.results.toList rs)).map bi.rhs:=by kernel_rfl)
 (hf:(dx (ps++ks.map (·.2)),ps.map (λp=>L[p]?),ks.map (λx=>L[x.2]?),ks.all (λx=>oo rd[x.1]?),(dZ rd.length).all λi=>O.contains i||ks.any λx=>x.1==i)=(true,(wt E).map some,ks.map (λx=>rd[x.1]?),true,true):=by kernel_rfl)
 (hS:sf S=true:=by kernel_rfl):Go Fence.wide 6 P (bN cs.flatten) w Q S ⟨sz,es⟩ L Ds:=am (v E) E rfl ps ks rs hv he hf hS
theorem KM(u:Value)(E:ab)(hu:u=v E)(ps:List Nat)(ks:List (Nat×Nat))(rs:List Nat)(hv:od (jY P L es fn.results.toList rs)=u:=by kernel_rfl)
  (he:(f8 P L es fn.results.toList (jY P L es fn.results.toList rs)).map bi.lhs=(f8 P L es fn.results.toList (jY P L es fn.results.toList rs)).map bi.rhs:=by kernel_rfl)
  (hf:(dx (ps++ks.map (·.2)),ps.map (λp=>L[p]?),ks.map (λx=>L[x.2]?),ks.all (λx=>oo rd[x.1]?),(dZ rd.length).all λi=>O.contains i||ks.any λx=>x.1==i)=(true,(wt E).map some,ks.map (λx=>rd[x.1]?),true,true):=by kernel_rfl)
  (hS:(nf S).isEmpty=true:=by kernel_rfl):Go Fence.wide 6 P (bN cs.flatten) w (fQ P fn rd O wt v cs w) S ⟨sz,es⟩ L Ds:=by
 refine⟨λb W hb hO=>dR 1000 S ?_⟩
 rw[show dz 1000 S=[] from List.isEmpty_iff.1 hS]
 exact λHS HH=>Cv hb hO HS HH _ E ps ks (hv.trans hu) he hf
theorem eH(E:ab)(ps:List Nat)(ks:List (Nat×Nat))(rs:List Nat)(hv:od (jY P L es fn.results.toList rs)=v E:=by kernel_rfl)
  (he:(f8 P L es fn.results.toList (jY P L es fn.results.toList rs)).map bi.lhs=(f8 P L es fn.results.toList (jY P L es fn.results.toList rs)).map bi.rhs:=by kernel_rfl)
  (hf:(dx (ps++ks.map (·.2)),ps.map (λp=>L[p]?),ks.map (λx=>L[x.2]?),ks.all (λx=>oo rd[x.1]?),(dZ rd.length).all λi=>O.contains i||ks.any λx=>x.1==i)=(true,(wt E).map some,ks.map (λx=>rd[x.1]?),true,true):=by kernel_rfl)
  (hS:(nf S).isEmpty=true:=by kernel_rfl):Go Fence.wide 6 P (bN cs.flatten) w (fQ P fn rd O wt v cs w) S ⟨sz,es⟩ L Ds:=
 KM (v E) E rfl ps ks rs hv he hf hS
end
end
end Go.Proofs.YtbcodenfkijdnaaGreat.E
namespace Go.Proofs.YtbcodenfkijdnaaGreat.E
open Go Go.RowKit Go.Shelf
open List renaming length_take→dZ,length_drop→eF
structure Kd (P:Program) (α:Type) where
 en:α→List Value
 z:List Value
 TS:TypeId
 T:TypeId
 d:α
 k:Nat
 hk: ∀y,(en y).length=k
 hz:k=z.length
 h1: ∀y,(en y).all (·.oneCell')=true
 hT:d9 P TS T z
theorem Kd.one{P:Program}{α:Type}(K:Kd P α): ∀y,∀u∈K.en y,u.oneCell'=true:=λy=>List.all_eq_true.1 (K.h1 y)
theorem Kd.lz{P:Program}{α:Type}(K:Kd P α): ∀y,(K.en y).length=K.z.length:=λy=>(K.hk y).trans K.hz
section
variable {P:Program} {α:Type}
abbrev sl(K:Kd P α)(v:Value)(xs:List α):az:= .p (ap K.en K.z K.T v xs)
theorem Kd.cell(K:Kd P α){a:α}{f:Nat}(hf:f<K.k):(K.en a)[f]? =some ((K.en a).getD f undef):=by
 have h:f<(K.en a).length:=by rw[K.hk];exact hf
 rw[List.getD_eq_getElem?_getD,List.getElem?_eq_getElem h];rfl
theorem Kd.part(K:Kd P α){a:α}{f n:Nat}(hf:f+n≤K.k):(((K.en a).drop f).take n).length=n∧((K.en a).drop f).take (((K.en a).drop f).take n).length=((K.en a).drop f).take n:=by
 have h:(((K.en a).drop f).take n).length=n:=by rw[dZ,eF,K.hk];omega
 exact⟨h,by rw[h]⟩
section
variable (K:Kd P α) (v:Value) (xs:List α) (p:Nat)
def fC:cS P:= .m (JR p (sl K v xs) λ_ h=>h)
def cU(i:Nat)(hi:i<xs.length:=by omega):cS P:= .m (JT p (sl K v xs) i K.k (λ_ h=>h) hi)
def uN(off f:Nat)(hi:0<xs.length:=by omega):cS P:= .m (JV p (sl K v xs) off f (λ_ h=>h) hi)
def fg(i f:Nat)(hi:i<xs.length:=by omega)(hf:f<K.k:=by decide):cS P:= .m (JZ (d:=K.d) p (sl K v xs) i K.k f (λ_ h=>h) K.hk hi hf (K.cell hf))
def qm(i f n:Nat)(hi:i<xs.length:=by omega)(hf:f+n≤K.k:=by decide):cS P:= .m (J2 (d:=K.d) p (sl K v xs) i K.k f (λ_ h=>h) K.hk hi (by rw[(K.part hf).1];exact hf) (K.part hf).2)
def KN(l:Nat)(hl:l≤xs.length:=by omega):cS P:= .m (Kl p (sl K v xs) l K.k (λ_ h=>h) hl)
def sh(i:Nat)(a:α)(hi:i<xs.length:=by omega):cS P:= .m (J6 (T:=K.T) (v:=v) (xs:=xs) (en:=K.en) (z:=K.z) p i K.k a K.hk hi)
def sj(i f:Nat)(a:α)(u:Value)(hu:K.en a=(K.en (xs.getD i K.d)).set f u)(hi:i<xs.length:=by omega)(hf:f<K.k:=by decide):cS P:= .m (J4 (T:=K.T) (v:=v) (xs:=xs) (en:=K.en) (z:=K.z) (d:=K.d) (a:=a) (u:=u) p i K.k f K.hk hi hf hu)
def fD(q:Nat)(ys:List α)(hb:xs.length+ys.length≤1000000:=by simp only[List.length_append,List.length_cons,List.length_nil,List.length_replicate,List.length_take,List.length_drop,List.length_set];omega):cS P:= .m (Kg (xs:=xs) (ys:=ys) p q K.hT v K.one K.lz hb)
end
section
variable {en:α→List Value} {v:Value} {xs:List α} {bs:aw} (h:SrE en v xs bs) (p:Nat)
def eR:cS P:= .m (Kq p (.c bs) (cP h))
def fF(i k:Nat)(hi:i<xs.length:=by omega):cS P:= .m (Kt p (.c bs) i k (cP h) hi)
end
section
variable (K:Kd P α) {v:Value} {xs:List α} {bs:aw} (h:SrE K.en v xs bs) (p:Nat)
def jr(i f:Nat)(hi:i<xs.length:=by omega)(hf:f<K.k:=by decide):cS P:= .m (Kv (d:=K.d) p (.c bs) i K.k f (cP h) K.hk hi hf (K.cell hf))
def nC(i f n:Nat)(hi:i<xs.length:=by omega)(hf:f+n≤K.k:=by decide):cS P:= .m (Kx (d:=K.d) p (.c bs) i K.k f (cP h) K.hk hi (by rw[(K.part hf).1];exact hf) (K.part hf).2)
end
def ad(a b:Nat)(h:a+b<9223372036854775808:=by omega):cS P:= .t (tb (a:=i6 a) (b:=i6 b) λ_ _ _ _=>Jm h)
def aI(a b:Int)(h0: -9223372036854775808≤a+b:=by omega)(h1:a+b≤9223372036854775807:=by omega):cS P:= .t (tb (a:=i6 a) (b:=i6 b) λ_ _ _ _=>rv h0 h1)
def sI(a b:Int)(h0: -9223372036854775808≤a-b:=by omega)(h1:a-b≤9223372036854775807:=by omega):cS P:= .t (tb (a:=i6 a) (b:=i6 b) λ_ _ _ _=>rx h0 h1)
def ml(a b:Nat)(h:a*b<9223372036854775808:=by omega):cS P:= .t (tb (a:=i6 a) (b:=i6 b) λ_ _ _ _=>Jl h)
end
section
variable {F:Fence} {n:Nat} {P:Program} {R:List Nat} {base:World} {Q:Exit→Act→World→Prop} {S:List It} {sz:Nat} {es:Fe} {L:ah} {Ds:List Nat}
theorem cz{α:Type}(K:Kd P α)(hk:Go F n P R base Q S ⟨sz,es⟩ (L++[sl K (.slice none 0 0) []]) Ds):Go F n P R base Q S ⟨sz,es⟩ L Ds:=cn K.en K.z K.T hk
end
end Go.Proofs.YtbcodenfkijdnaaGreat.E
namespace Go.Proofs.YtbcodenfkijdnaaGreat.E
open Go Go.RowKit Go.Shelf
open Nat renaming blt→dZ
def gV:List Nat→List Value→Fe
 | p::ps,v::vs=>gV ps vs++[(p,v)]
 | _,_=>[]
theorem sk(ps:List Nat)(vs:List Value)(t:Array Value):iE t ps.toArray vs.toArray=(ps.zip vs).foldl (λt x=>t.setIfInBounds x.1 x.2) t:=by
 unfold iE
 rw[List.zip_toArray,List.foldl_toArray]
theorem Cw(p:Nat)(ps:List Nat)(v:Value)(vs:List Value)(t:Array Value):iE t (p::ps).toArray (v::vs).toArray=iE (t.setIfInBounds p v) ps.toArray vs.toArray:=by
 rw[sk,sk];rfl
theorem uO: ∀(ps:List Nat) (vs:List Value) (t:Array Value) (i:Nat),ps.length=vs.length→(∀p∈ps,p<t.size)→
  (iE t ps.toArray vs.toArray).getD i undef=match lk (gV ps vs) i with | some v=>v | none=>t.getD i undef
 | [],[],t,i,_,_=>by rw[sk];rfl
 | p::ps,v::vs,t,i,hl,hp=>by
  rw[Cw,uO ps vs _ i (by simpa using hl) (λq hq=>by rw[Array.size_setIfInBounds];exact hp q (List.mem_cons_of_mem _ hq))]
  show _=match lk (gV ps vs++[(p,v)]) i with | some v=>v | none=>t.getD i undef
  rw[ql]
  cases lk (gV ps vs) i with
  | some u=>rfl
  | none=>
   simp only
   have hpt:=hp p List.mem_cons_self
   show _=match (match Nat.beq p i with | true=>some v | false=>none) with | some v=>v | none=>t.getD i undef
   cases hb:Nat.beq p i with
   | true=>
    obtain rfl:=Nat.eq_of_beq_eq_true hb
    simp [hpt]
   | false=>
    have hne:p≠i:=λe=>by rw[e,Nat.beq_refl] at hb;cases hb
    simp [Array.getD_eq_getD_getElem?,hne]
 | [],_::_,_,_,h,_=>by simp at h
 | _::_,[],_,_,h,_=>by simp at h
theorem uP: ∀(ps:List Nat) (vs:List Value) (t:Array Value),(iE t ps.toArray vs.toArray).size=t.size
 | [],_,t=>by rw[sk];rfl
 | p::ps,[],t=>by rw[sk];rfl
 | p::ps,v::vs,t=>by
  rw[Cw,uP,Array.size_setIfInBounds]
def gB(S:List It):Operand:=match nf S with | .c (.rangeFunc g _ _ _)::_=>g | _=> .const undef
def cr(S:List It):List Nat:=match nf S with | .c (.rangeFunc _ ps _ _)::_=>ps.toList | _=>[]
def jZ(S:List It):Code:=match nf S with | .c (.rangeFunc _ _ x _)::_=>x | _=> .skip
def lG(S:List It):Code:=match nf S with | .c (.rangeFunc _ _ _ y)::_=>y | _=> .skip
def nD(S:List It):Bool:=match nf S with | .c (.rangeFunc _ _ _ _)::_=>true | _=>false
theorem xX{S:List It}(h:nD S=true):nf S= .c (.rangeFunc (gB S) (cr S).toArray (jZ S) (lG S))::bT S:=by
 unfold nD at h
 unfold gB cr jZ lG bT
 split at h
 ·rename_i g ps x y S' e
  rw[e]
 ·cases h
structure Xt where
 c:Code
 i:Nat
 L:ah
section
variable {F:Fence} {n:Nat} {P:Program} {R:List Nat} {base:World} {Q:Exit→Act→World→Prop} {S:List It} {a:Sl} {sz:Nat} {es:Fe} {L:ah} {Ds:List Nat}
def pf(F:Fence)(n:Nat)(P:Program)(R:List Nat)(base:World)(sz:Nat)(KO:aw)(Q:List Nat→World→Exit→Act→World→Prop)(c:Code):Exit→Act→World→Prop
 | .normal,b,W=>∃La,aD R base La W∧jn KO La∧∀R2 W1,aD R2 W1 La W1→c.wpIn F n P (Q R2 W1) b W1
 | _,_,_=>False
theorem ag{KO:List aw}{Q2:List Nat→World→Exit→Act→World→Prop}{c:Code}(ps:List Nat)(hk: ∀R2 W2,Go F n P R2 W2 (Q2 R2 W2) [.c c] ⟨sz,es⟩ L [])(hh:ps.map (λp=>L[p]?)=KO.map (λo=>some (.c o)):=by kernel_rfl)(hS:(nf S).isEmpty=true:=by kernel_rfl):
  Go F n P R base (pf F n P R base sz KO.flatten Q2 c) S ⟨sz,es⟩ L []:=by
 refine⟨λb W hb hO=>dR 1000 S ?_⟩
 rw[show dz 1000 S=[] from List.isEmpty_iff.1 hS]
 exact⟨L,by simpa using hO,qk ps hh,λR2 W1 h=>(hk R2 W1).out b W1 hb (by simpa using h)⟩
theorem aD.left{M:ah}{W:World}(h:aD R base (L++M) W):aD R base L W:=by
 obtain⟨cs,hs,hO⟩:=h.conc
 obtain⟨ds,es,rfl,h1,h2⟩:=og hs
 rw[List.flatten_append] at hO
 exact aD.ofS h1 (hO.sub (List.sublist_append_left _ _))
theorem ne{Rel:ah→Prop}{Rx:Code→ah→Prop}(L':ah)(hr:Rel L')(ps:List Nat)(hL:(dx (ps.map λp=>[p]).flatten,(ps.map λp=>[p]).map λg=>g.map λp=>L[p]?)=(true,(L'.map λx=>[x]).map λN=>N.map some))(hS:(nf S).isEmpty=true:=by kernel_rfl):Go F n P R base (mc R base Rel Rx) S ⟨sz,es⟩ L Ds:=by
 refine⟨λb W hb hO=>dR 1000 S ?_⟩
 rw[show dz 1000 S=[] from List.isEmpty_iff.1 hS]
 exact⟨L',hO.left.pick ps L' hL,hr⟩
theorem nr{Rel:ah→Prop}{Rx:Code→ah→Prop}(L':ah)(hr:Rx .ret L')(ps:List Nat)(hL:(dx (ps.map λp=>[p]).flatten,(ps.map λp=>[p]).map λg=>g.map λp=>L[p]?)=(true,(L'.map λx=>[x]).map λN=>N.map some))(hS:sf S=true:=by kernel_rfl):Go F n P R base (mc R base Rel Rx) S ⟨sz,es⟩ L Ds:=by
 refine⟨λb W hb hO=>dR 1000 S ?_⟩
 unfold sf at hS
 split at hS
 ·rename_i S' e
  rw[show dz 1000 S=_ from e]
  exact wpIn_ret (io ⟨L',hO.left.pick ps L' hL,hr⟩)
 ·cases hS
def Cz(S:List It):Option Nat:=match nf S with
 | .x id::S'=>(match mL id S' with | none=>some id | some _=>none)
 | _=>none
theorem nx{Rel:ah→Prop}{Rx:Code→ah→Prop}(id:Nat)(L':ah)(hr:Rx (.exit id) L')(ps:List Nat)(hL:(dx (ps.map λp=>[p]).flatten,(ps.map λp=>[p]).map λg=>g.map λp=>L[p]?)=(true,(L'.map λx=>[x]).map λN=>N.map some))(hS:Cz S=some id:=by kernel_rfl):Go F n P R base (mc R base Rel Rx) S ⟨sz,es⟩ L Ds:=by
 refine⟨λb W hb hO=>dR 1000 S ?_⟩
 unfold Cz at hS
 split at hS
 ·rename_i j S' e
  rw[show dz 1000 S=_ from e]
  split at hS
  ·rename_i hp
   cases hS
   exact sd hp ⟨L',hO.left.pick ps L' hL,hr⟩
  ·cases hS
 ·cases hS
theorem rf{α:Type}{gf:Nat}{lb:Array Value}{encs:α→Array Value}{xs:List α}{KO:List aw}(hit:fy 5 P gf lb encs xs KO.flatten)(eg:Enters P gf)(Rel:Nat→ah→Prop)(Rx:Code→Nat→ah→Prop)(ps0:List Nat)(h0:Rel 0 L)
  (hKO: ∀i L',Rel i L'→jn KO.flatten L') (hKx: ∀c i L',Rx c i L'→jn KO.flatten L') (hps: ∀x,(encs x).size=(cr S).length)
  (hround: ∀(l i:Nat) (x:α) (L':ah) (R1:List Nat) (W1:World),xs[i]? =some x→Rel i L'→Go (Fence.wide.inRound l) 4 P R1 W1 (pf (Fence.wide.inRound l) 4 P R1 W1 sz KO.flatten (λR2 W2=>mc R2 W2 (Rel (i+1)) λc=>Rx c (i+1)) (lG S)) [.c (jZ S)] ⟨sz,gV (cr S) (encs x).toList++es⟩ L' [])
  (hdone: ∀(D:Nat) (L':ah),Rel xs.length L'→Go Fence.wide 6 P R base Q (bT S) ⟨sz,es⟩ L' (D::Ds))
  (hstop: ∀(D:Nat) (c:Code) (i:Nat) (L':ah),i<xs.length→Rx c (i+1) L'→Go Fence.wide 6 P R base Q (.c c::bT S) ⟨sz,es⟩ L' (D::Ds))
  (hc:(nD S,(⟨sz,es⟩:Sl).ev (gB S),(cr S).all (dZ · sz),dx (ps0.map λp=>[p]).flatten,(ps0.map λp=>[p]).map λg=>g.map λp=>L[p]?)=(true,.func (.func gf) #[] lb,true,true,((KO.map az.c).map λx=>[x]).map λN=>N.map some):=by kernel_rfl)
  (hkn:(match gB S with | .tmp i=>(lk es i).isSome | _=>true)=true:=by kernel_rfl):Go Fence.wide 6 P R base Q S ⟨sz,es⟩ L Ds:=by
 have c1:=ALca (λx=>x.1) hc
 have c2:=ALca (λx=>x.2.1) hc
 have c3:=ALca (λx=>x.2.2.1) hc
 have c4:=ALca (λx=>x.2.2.2) hc
 simp only at c1 c2 c3 c4
 refine⟨λb W hb hO=>dR 1000 S ?_⟩
 rw[show dz 1000 S=_ from xX c1]
 show(Code.rangeFunc (gB S) (cr S).toArray (jZ S) (lG S)).wpIn Fence.wide 6 P (dg Fence.wide 6 P Q (bT S)) b W
 obtain⟨R1,OC,OW⟩:=hO.seg
 have hg:b.eval (gB S)= .func (.func gf) #[] lb:=by
  rw[hb.ev λi hi=>by rw[hi] at hkn;exact hkn]
  exact c2
 have hnd:KO.flatten.Pairwise λx y=>x.1≠y.1:=by
  exact aD.ndC (Os:=KO) (R:=R1) (base:=W) (W:=W) (OW.out.pick ps0 _ c4)
 refine I8 (n:=6) Om hg eg hit Rel Rx OW h0 hKO hKx hnd (λx=>by rw[hps x];simp) ?_ ?_ ?_
 ·intro l i x L' R2 W1 hx hr hO1
  have h:=hround l i x L' R2 W1 hx hr
  have hsz:(encs x).toList.length=(cr S).length:=by rw[Array.length_toList];exact hps x
  have hlt: ∀p∈cr S,p<b.tmps.size:=λp hp=>by rw[hb.size];exact Nat.blt_eq▸List.all_eq_true.1 c3 p hp
  have hfr:Fr ⟨sz,gV (cr S) (encs x).toList++es⟩ [] {tmps:=iE b.tmps (cr S).toArray (encs x),defers:=[]}:=by
   have ee:encs x=(encs x).toList.toArray:=by simp
   refine⟨?_,λi v hv=>?_,rfl⟩
   ·show(iE b.tmps (cr S).toArray (encs x)).size=sz
    rw[ee,uP];exact hb.size
   ·show(iE b.tmps (cr S).toArray (encs x)).getD i undef=v
    rw[ee,uO _ _ _ i hsz.symm hlt]
    simp only[ql] at hv
    cases h1:lk (gV (cr S) (encs x).toList) i with
    | some u=>rw[h1] at hv;cases hv;rfl
    | none=>rw[h1] at hv;exact hb.get i v hv
  refine wpIn_mono (show(jZ S).wpIn (Fence.wide.inRound l) 4 P _ _ W1 from h.out _ W1 hfr (by simpa using hO1.out)) λe a' Wa hq=>?_
  cases e with
  | normal=>
   obtain⟨La,q1,q2,q3⟩:=hq
   exact⟨La,q1,q2,λR3 W3 h3=>q3 R3 W3 h3.out⟩
  | _=>exact hq
 ·intro D L' W2 hr hO2
  obtain⟨R3,OC3,OW3⟩:=jT.markE OC.out hO2.out
  exact(hdone D L' hr).out _ W2 ⟨hb.size,hb.get,by show ke D::b.defers=_;rw[hb.defers];rfl⟩ (OC3.out.whole OW3.out)
 ·intro D c i L' W2 hi hr hO2
  obtain⟨R3,OC3,OW3⟩:=jT.markE OC.out hO2.out
  exact(hstop D c i L' hi hr).out _ W2 ⟨hb.size,hb.get,by show ke D::b.defers=_;rw[hb.defers];rfl⟩ (OC3.out.whole OW3.out)
theorem KP{α:Type}{gf:Nat}{lb:Array Value}{encs:α→Array Value}{xs:List α}{KO:List aw}{XO:aw}(hit:qe 5 P gf lb encs xs KO.flatten XO)(eg:Enters P gf)(Rel:Nat→ah→Prop)(Rx:Code→Nat→ah→Prop)(LG:ah)(qs ps0:List Nat)(hq:(dx (qs.map λp=>[p]).flatten,(qs.map λp=>[p]).map λg=>g.map λp=>L[p]?)=(true,((LG++[az.c XO]).map λx=>[x]).map λN=>N.map some))(h0:Rel 0 LG)
  (hKO: ∀i L',Rel i L'→jn KO.flatten L') (hKx: ∀c i L',Rx c i L'→jn KO.flatten L') (hps: ∀x,(encs x).size=(cr S).length)
  (hround: ∀(l i:Nat) (x:α) (L':ah) (R1:List Nat) (W1:World),xs[i]? =some x→Rel i L'→Go (Fence.wide.inRound l) 4 P R1 W1 (pf (Fence.wide.inRound l) 4 P R1 W1 sz KO.flatten (λR2 W2=>mc R2 W2 (Rel (i+1)) λc=>Rx c (i+1)) (lG S)) [.c (jZ S)] ⟨sz,gV (cr S) (encs x).toList++es⟩ L' [])
  (hdone: ∀(D:Nat) (L':ah),Rel xs.length L'→Go Fence.wide 6 P R base Q (bT S) ⟨sz,es⟩ L' (D::Ds))
  (hstop: ∀(D:Nat) (c:Code) (i:Nat) (L':ah),i<xs.length→Rx c (i+1) L'→Go Fence.wide 6 P R base Q (.c c::bT S) ⟨sz,es⟩ L' (D::Ds))
  (hc:(nD S,(⟨sz,es⟩:Sl).ev (gB S),(cr S).all (dZ · sz),dx (ps0.map λp=>[p]).flatten,(ps0.map λp=>[p]).map λg=>g.map λp=>L[p]?)=(true,.func (.func gf) #[] lb,true,true,(((KO++[XO]).map az.c).map λx=>[x]).map λN=>N.map some):=by kernel_rfl)
  (hkn:(match gB S with | .tmp i=>(lk es i).isSome | _=>true)=true:=by kernel_rfl):Go Fence.wide 6 P R base Q S ⟨sz,es⟩ L Ds:=by
 have c1:=ALca (λx=>x.1) hc
 have c2:=ALca (λx=>x.2.1) hc
 have c3:=ALca (λx=>x.2.2.1) hc
 have c4:=ALca (λx=>x.2.2.2) hc
 simp only at c1 c2 c3 c4
 refine⟨λb W hb hO=>dR 1000 S ?_⟩
 rw[show dz 1000 S=_ from xX c1]
 show(Code.rangeFunc (gB S) (cr S).toArray (jZ S) (lG S)).wpIn Fence.wide 6 P (dg Fence.wide 6 P Q (bT S)) b W
 obtain⟨R1,OC,OW⟩:=hO.seg
 have hg:b.eval (gB S)= .func (.func gf) #[] lb:=by
  rw[hb.ev λi hi=>by rw[hi] at hkn;exact hkn]
  exact c2
 have hnd:(KO.flatten++XO).Pairwise λx y=>x.1≠y.1:=by
  have h9:=aD.ndC (Os:=KO++[XO]) (R:=R1) (base:=W) (W:=W) (OW.out.pick ps0 _ c4)
  simpa using h9
 refine BH (n:=6) Om hg eg hit Rel Rx (Lib.hid (OW.out.pick qs _ hq)) h0 hKO hKx hnd (λx=>by rw[hps x];simp) ?_ ?_ ?_
 ·intro l i x L' R2 W1 hx hr hO1
  have h:=hround l i x L' R2 W1 hx hr
  have hsz:(encs x).toList.length=(cr S).length:=by rw[Array.length_toList];exact hps x
  have hlt: ∀p∈cr S,p<b.tmps.size:=λp hp=>by rw[hb.size];exact Nat.blt_eq▸List.all_eq_true.1 c3 p hp
  have hfr:Fr ⟨sz,gV (cr S) (encs x).toList++es⟩ [] {tmps:=iE b.tmps (cr S).toArray (encs x),defers:=[]}:=by
   have ee:encs x=(encs x).toList.toArray:=by simp
   refine⟨?_,λi v hv=>?_,rfl⟩
   ·show(iE b.tmps (cr S).toArray (encs x)).size=sz
    rw[ee,uP];exact hb.size
   ·show(iE b.tmps (cr S).toArray (encs x)).getD i undef=v
    rw[ee,uO _ _ _ i hsz.symm hlt]
    simp only[ql] at hv
    cases h1:lk (gV (cr S) (encs x).toList) i with
    | some u=>rw[h1] at hv;cases hv;rfl
    | none=>rw[h1] at hv;exact hb.get i v hv
  refine wpIn_mono (show(jZ S).wpIn (Fence.wide.inRound l) 4 P _ _ W1 from h.out _ W1 hfr (by simpa using hO1.out)) λe a' Wa hq=>?_
  cases e with
  | normal=>
   obtain⟨La,q1,q2,q3⟩:=hq
   exact⟨La,q1,q2,λR3 W3 h3=>q3 R3 W3 h3.out⟩
  | _=>exact hq
 ·intro D L' W2 hr hO2
  obtain⟨R3,OC3,OW3⟩:=jT.markE OC.out hO2.out
  exact(hdone D L' hr).out _ W2 ⟨hb.size,hb.get,by show ke D::b.defers=_;rw[hb.defers];rfl⟩ (OC3.out.whole OW3.out)
 ·intro D c i L' W2 hi hr hO2
  obtain⟨R3,OC3,OW3⟩:=jT.markE OC.out hO2.out
  exact(hstop D c i L' hi hr).out _ W2 ⟨hb.size,hb.get,by show ke D::b.defers=_;rw[hb.defers];rfl⟩ (OC3.out.whole OW3.out)
theorem ph{α:Type}{gf:Nat}{lb:Array Value}{encs:α→Array Value}{xs:List α}{KO:List aw}(hit:fy 5 P gf lb encs xs KO.flatten)(eg:Enters P gf)(I:Nat→Prop)(LI:Nat→ah→ah)(ps0:List Nat)(h0:I 0)(hL:L=LI 0 L)
  (hround: ∀(l i:Nat) (x:α) (R1:List Nat) (W1:World),xs[i]? =some x→I i→Go (Fence.wide.inRound l) 4 P R1 W1 (pf (Fence.wide.inRound l) 4 P R1 W1 sz KO.flatten (λR2 W2=>mc R2 W2 (λL'=>I (i+1)∧L'=LI (i+1) L) λ_ _=>False) (lG S)) [.c (jZ S)] ⟨sz,gV (cr S) (encs x).toList++es⟩ (LI i L) [])
  (hdone: ∀(D:Nat),I xs.length→Go Fence.wide 6 P R base Q (bT S) ⟨sz,es⟩ (LI xs.length L) (D::Ds))
  (hK: ∀i,ps0.map (λp=>(LI i L)[p]?)=KO.map λo=>some (.c o):=by intros;kernel_rfl) (hps: ∀x,(encs x).size=(cr S).length:=by intro _;kernel_rfl)
  (hc:(nD S,(⟨sz,es⟩:Sl).ev (gB S),(cr S).all (dZ · sz),dx (ps0.map λp=>[p]).flatten,(ps0.map λp=>[p]).map λg=>g.map λp=>L[p]?)=(true,.func (.func gf) #[] lb,true,true,((KO.map az.c).map λx=>[x]).map λN=>N.map some):=by kernel_rfl)
  (hkn:(match gB S with | .tmp i=>(lk es i).isSome | _=>true)=true:=by kernel_rfl):Go Fence.wide 6 P R base Q S ⟨sz,es⟩ L Ds:=by
 refine rf hit eg (λi L'=>I i∧L'=LI i L) (λ_ _ _=>False) ps0 ⟨h0,hL⟩ (λi L' h=>?_) (λ_ _ _ h=>h.elim) hps (λl i x L' R1 W1 hx h=>?_) (λD L' h=>?_) (λ_ _ _ _ _ h=>h.elim) hc hkn
 ·obtain⟨hI,rfl⟩:=h;exact qk ps0 (hK i)
 ·obtain⟨hI,rfl⟩:=h;exact hround l i x R1 W1 hx hI
 ·obtain⟨hI,rfl⟩:=h;exact hdone D hI
theorem CA{α:Type}{gf:Nat}{lb:Array Value}{encs:α→Array Value}{xs:List α}{KO:List aw}{XO:aw}(hit:qe 5 P gf lb encs xs KO.flatten XO)(eg:Enters P gf)(I:Nat→Prop)(LI:Nat→ah→ah)(LG:ah)(qs pb ps0:List Nat)(h0:I 0)(hL:LG=LI 0 LG)
  (hround: ∀(l i:Nat) (x:α) (R1:List Nat) (W1:World),xs[i]? =some x→I i→Go (Fence.wide.inRound l) 4 P R1 W1 (pf (Fence.wide.inRound l) 4 P R1 W1 sz KO.flatten (λR2 W2=>mc R2 W2 (λL'=>I (i+1)∧L'=LI (i+1) LG) λ_ _=>False) (lG S)) [.c (jZ S)] ⟨sz,gV (cr S) (encs x).toList++es⟩ (LI i LG) [])
  (hdone: ∀(D:Nat),I xs.length→Go Fence.wide 6 P R base Q (bT S) ⟨sz,es⟩ (LI xs.length LG) (D::Ds))
  (hK: ∀i,ps0.map (λp=>(LI i LG)[p]?)=KO.map λo=>some (.c o):=by intros;kernel_rfl) (hps: ∀x,(encs x).size=(cr S).length:=by intro _;kernel_rfl)
  (hc:(nD S,(⟨sz,es⟩:Sl).ev (gB S),(cr S).all (dZ · sz),dx (pb.map λp=>[p]).flatten,(pb.map λp=>[p]).map λg=>g.map λp=>L[p]?)=(true,.func (.func gf) #[] lb,true,true,(((KO++[XO]).map az.c).map λx=>[x]).map λN=>N.map some):=by kernel_rfl)
  (hq:(dx (qs.map λp=>[p]).flatten,(qs.map λp=>[p]).map λg=>g.map λp=>L[p]?)=(true,((LG++[az.c XO]).map λx=>[x]).map λN=>N.map some):=by kernel_rfl)
  (hkn:(match gB S with | .tmp i=>(lk es i).isSome | _=>true)=true:=by kernel_rfl):Go Fence.wide 6 P R base Q S ⟨sz,es⟩ L Ds:=by
 refine KP hit eg (λi L'=>I i∧L'=LI i LG) (λ_ _ _=>False) LG qs pb hq ⟨h0,hL⟩ (λi L' h=>?_) (λ_ _ _ h=>h.elim) hps (λl i x L' R1 W1 hx h=>?_) (λD L' h=>?_) (λ_ _ _ _ _ h=>h.elim) hc hkn
 ·obtain⟨hI,rfl⟩:=h;exact qk ps0 (hK i)
 ·obtain⟨hI,rfl⟩:=h;exact hround l i x R1 W1 hx hI
 ·obtain⟨hI,rfl⟩:=h;exact hdone D hI
theorem KQ{α:Type}{gf:Nat}{lb:Array Value}{encs:α→Array Value}{xs:List α}{KO:List aw}(hit:fy 5 P gf lb encs xs KO.flatten)(eg:Enters P gf)(I:Nat→Value→Prop)(LI:Nat→Value→ah→ah)(ps0:List Nat)(u0:Value)(h0:I 0 u0)(hL:L=LI 0 u0 L)
  (hround: ∀(l i:Nat) (u:Value) (x:α) (R1:List Nat) (W1:World),xs[i]? =some x→I i u→Go (Fence.wide.inRound l) 4 P R1 W1 (pf (Fence.wide.inRound l) 4 P R1 W1 sz KO.flatten (λR2 W2=>mc R2 W2 (λL'=>∃u:Value,I (i+1) u∧L'=LI (i+1) u L) λ_ _=>False) (lG S)) [.c (jZ S)] ⟨sz,gV (cr S) (encs x).toList++es⟩ (LI i u L) [])
  (hdone: ∀(D:Nat) (u:Value),I xs.length u→Go Fence.wide 6 P R base Q (bT S) ⟨sz,es⟩ (LI xs.length u L) (D::Ds))
  (hK: ∀i (u:Value),ps0.map (λp=>(LI i u L)[p]?)=KO.map λo=>some (.c o):=by intros;kernel_rfl) (hps: ∀x,(encs x).size=(cr S).length:=by intro _;kernel_rfl)
  (hc:(nD S,(⟨sz,es⟩:Sl).ev (gB S),(cr S).all (dZ · sz),dx (ps0.map λp=>[p]).flatten,(ps0.map λp=>[p]).map λg=>g.map λp=>L[p]?)=(true,.func (.func gf) #[] lb,true,true,((KO.map az.c).map λx=>[x]).map λN=>N.map some):=by kernel_rfl)
  (hkn:(match gB S with | .tmp i=>(lk es i).isSome | _=>true)=true:=by kernel_rfl):Go Fence.wide 6 P R base Q S ⟨sz,es⟩ L Ds:=by
 refine rf hit eg (λi L'=>∃u:Value,I i u∧L'=LI i u L) (λ_ _ _=>False) ps0 ⟨u0,h0,hL⟩ (λi L' h=>?_) (λ_ _ _ h=>h.elim) hps (λl i x L' R1 W1 hx h=>?_) (λD L' h=>?_) (λ_ _ _ _ _ h=>h.elim) hc hkn
 ·obtain⟨u,hI,rfl⟩:=h;exact qk ps0 (hK i u)
 ·obtain⟨u,hI,rfl⟩:=h;exact hround l i u x R1 W1 hx hI
 ·obtain⟨u,hI,rfl⟩:=h;exact hdone D u hI
theorem xY{α:Type}{gf:Nat}{lb:Array Value}{encs:α→Array Value}{xs:List α}{KO:List aw}(hit:fy 5 P gf lb encs xs KO.flatten)(eg:Enters P gf)(I:Nat→Prop)(LI:Nat→ah→ah)(X:Code→Nat→Prop)(LX:Code→Nat→ah→ah)(ps0:List Nat)(h0:I 0)(hL:L=LI 0 L)
  (hround: ∀(l i:Nat) (x:α) (R1:List Nat) (W1:World),xs[i]? =some x→I i→Go (Fence.wide.inRound l) 4 P R1 W1 (pf (Fence.wide.inRound l) 4 P R1 W1 sz KO.flatten (λR2 W2=>mc R2 W2 (λL'=>I (i+1)∧L'=LI (i+1) L) (λc L'=>X c (i+1)∧L'=LX c (i+1) L)) (lG S)) [.c (jZ S)] ⟨sz,gV (cr S) (encs x).toList++es⟩ (LI i L) [])
  (hdone: ∀(D:Nat),I xs.length→Go Fence.wide 6 P R base Q (bT S) ⟨sz,es⟩ (LI xs.length L) (D::Ds))
  (hstop: ∀(D:Nat) (c:Code) (i:Nat),i<xs.length→X c (i+1)→Go Fence.wide 6 P R base Q (.c c::bT S) ⟨sz,es⟩ (LX c (i+1) L) (D::Ds))
  (hK: ∀i,ps0.map (λp=>(LI i L)[p]?)=KO.map λo=>some (.c o):=by intros;kernel_rfl) (hKX: ∀c i,X c i→ps0.map (λp=>(LX c i L)[p]?)=KO.map λo=>some (.c o):=by intros;kernel_rfl) (hps: ∀x,(encs x).size=(cr S).length:=by intro _;kernel_rfl)
  (hc:(nD S,(⟨sz,es⟩:Sl).ev (gB S),(cr S).all (dZ · sz),dx (ps0.map λp=>[p]).flatten,(ps0.map λp=>[p]).map λg=>g.map λp=>L[p]?)=(true,.func (.func gf) #[] lb,true,true,((KO.map az.c).map λx=>[x]).map λN=>N.map some):=by kernel_rfl)
  (hkn:(match gB S with | .tmp i=>(lk es i).isSome | _=>true)=true:=by kernel_rfl):Go Fence.wide 6 P R base Q S ⟨sz,es⟩ L Ds:=by
 refine rf hit eg (λi L'=>I i∧L'=LI i L) (λc i L'=>X c i∧L'=LX c i L) ps0 ⟨h0,hL⟩ (λi L' h=>?_) (λc i L' h=>?_) hps (λl i x L' R1 W1 hx h=>?_) (λD L' h=>?_) (λD c i L' hi h=>?_) hc hkn
 ·obtain⟨hI,rfl⟩:=h;exact qk ps0 (hK i)
 ·obtain⟨hI,rfl⟩:=h;exact qk ps0 (hKX c i hI)
 ·obtain⟨hI,rfl⟩:=h;exact hround l i x R1 W1 hx hI
 ·obtain⟨hI,rfl⟩:=h;exact hdone D hI
 ·obtain⟨hI,rfl⟩:=h;exact hstop D c i hi hI
end
end Go.Proofs.YtbcodenfkijdnaaGreat.E
namespace Go.Proofs.YtbcodenfkijdnaaGreat.E
open Go Go.RowKit Go.Shelf
open List renaming size_toArray→dZ,getElem?_toArray→eF,length_take→jw
open Option renaming map_some→ir,getD_some→jm
open Bool renaming and_eq_true→jg,or_eq_true→ka
open Nat renaming zero_add→jh
def xZ(k:Nat)(L:List Oper):Bool:=L.all λo=>match o.guard with | none=>true | some (j,_)=>Nat.blt j k
section
variable {F:Fence} {n:Nat} {P:Program} {L:List Oper} {Q:Exit→Act→World→Prop} {a:Act} {t:dY} {R:List Nat} {base:World}
theorem CB{LL:List Oper}{k:Nat}{o:Oper}{tm:Array Value}(h:match o.guard with | none=>true=true | some (j,_)=>Nat.blt j k=true):Region.wanted o (yielded LL.toArray tm)=Region.wanted o (yielded (LL.take k).toArray tm):=by
 unfold Region.wanted
 cases hg:o.guard with
 | none=>rfl
 | some jb=>
  obtain⟨j,b⟩:=jb
  rw[hg] at h
  have h':j<k:=Nat.blt_eq▸h
  have:yielded LL.toArray tm j=yielded (LL.take k).toArray tm j:=by
   unfold yielded
   rw[eF,eF,List.getElem?_take,ALifp h']
  simp only[this]
theorem CC{LL:List Oper}{N:Nat}(hL:LL.take N=L)(hops:xZ N L=true)(h:jR F n P L Q a t)(hF:Fence.free F)(hsl:mH L=true)(hD: ∀k,k<L.length→∀j∈t.D k,j<k)
  (hend: ∀xs w',gK L a t R base (λ_=>true) xs w'→wpListIn F n P LL.toArray Q (LL.drop N) (bt xs L 0 a) w'):
  ∀(d k:Nat) (xs:Nat→Value) (w':World),k+d=L.length→gK L a t R base (λi=>decide (i<k)) xs w'→wpListIn F n P LL.toArray Q (L.drop k++LL.drop N) (bt xs L 0 a) w'
 | 0,k,xs,w',hk,hI=>by
  obtain rfl:k=L.length:=by omega
  rw[List.drop_length,List.nil_append]
  exact hend xs w' (hI.congr (λi hi=>by simpa using hi) (λ_ _=>rfl))
 | d+1,k,xs,w',hk,hI=>by
  have hkl:k<L.length:=by omega
  rw[List.drop_eq_getElem_cons hkl,List.cons_append]
  have hol:L[k]? =some L[k]:=List.getElem?_eq_getElem hkl
  have hst:=t7 h (S:=λi=>decide (i<k)) (xs:=xs) (w':=w') (k:=k) (o:=L[k]) hkl hol (by simp) (λj hj=>⟨by have:=hD k hkl j hj;omega,by simpa using hD k hkl j hj⟩)
   (λi hi hs j hj=>by
    have h1:=hD i hi j hj
    have h2:i<k:=by simpa using hs
    exact⟨by omega,by simp;omega⟩) hI
   (λv w''=>wpListIn F n P LL.toArray Q (L.drop (k+1)++LL.drop N) ((bt xs L 0 a).put L[k].dst v) w'') (λv w'' hI2=>by
    rw[rq v _ 0 a k _ hsl hol,jh]
    refine CC hL hops h hF hsl hD hend d (k+1) _ w'' Om (hI2.congr (λj hj=>?_) (λ_ _=>rfl))
    show(if j=k then true else decide (j<k))=decide (j<k+1)
    by_cases e:j=k
    ·subst e;simp
    ·rw[ALifn e,decide_eq_decide];omega) hF
  have hwa:Region.wanted L[k] (yielded LL.toArray (bt xs L 0 a).tmps)=Region.wanted L[k] (yielded L.toArray (bt xs L 0 a).tmps):=by
   rw[CB (k:=N),hL]
   have:=List.all_eq_true.1 hops L[k] (List.getElem_mem hkl)
   revert this
   cases L[k].guard with
   | none=>exact λh=>h
   | some jb=>exact λh=>h
  unfold wpListIn
  rw[hwa]
  split
  ·rename_i hw
   rw[ALifp hw] at hst
   exact Oper.wpIn_mono (λa'' w'' ⟨v,e,h⟩=>by rw[e];exact h) hst
  ·rename_i hw
   rw[ALifn hw] at hst
   exact hst
theorem CD{LL:List Oper}{N:Nat}(hL:LL.take N=L)(hops:xZ N L=true)(hNl:N<LL.length)(hs:Region.sinkB .any LL.toArray N=true)(h:jR F n P L Q a t)(hF:Fence.free F)(hc:Region.chainB .any LL.toArray N=true)(hb:nb .any LL.toArray N=true)(hb0:nb .any LL.toArray 0=true)(hsl:mH L=true)(hD:t3 .any LL.toArray N t.D=true)
  (hend: ∀xs w',gK L a t R base (λ_=>true) xs w'→wpListIn F n P LL.toArray Q (LL.drop N) (bt xs L 0 a) w'):
  ∀(c fuel:Nat) (listed:Array Bool) (xs:Nat→Value) (w':World),ij listed N=c→c+(LL.length-N)≤fuel→HeadInv .any LL.toArray N listed→
   (∀i,i<N→listed.getD i false=true→∀j∈t.D i,listed.getD j false=true)→gK L a t R base (λi=>listed.getD i false) xs w'→wpAnyIn F n P .any LL.toArray Q fuel listed (bt xs L 0 a) w'
 | 0,fuel,listed,xs,w',hcnt,hf,inv,hk,hI=>by
  have hN:L.length=N:=by rw[←hL,jw];omega
  have hall:=xe N hcnt
  have hall2: ∀i,i<N→listed.getD i false=true:=by
   intro i hi
   have h2:i<listed.size:=by rw[inv.size,dZ];omega
   have:=hall i hi
   simp [h2] at this⊢
   exact this
  exact w8 hc hb (LL.length-N) N fuel listed _ w' (by rw[dZ];omega) (Nat.le_refl _) Om inv.size hall hall2 inv.tail (by simpa using hend xs w' (hI.congr (λi hi=>hall2 i Om) (λ_ _=>rfl)))
 | c+1,fuel,listed,xs,w',hcnt,hf,inv,hk,hI=>by
  have hN:L.length=N:=by rw[←hL,jw];omega
  obtain⟨f,rfl⟩: ∃f,fuel=f+1:=⟨fuel-1,by omega⟩
  have hun: ∃i,i<N∧listed.getD i true=false:=by
   apply Classical.byContradiction
   intro hno
   have hall: ∀i,i<N→listed.getD i true=true:=λi hi=>by
    cases hl:listed.getD i true with
    | true=>rfl
    | false=>exact(hno ⟨i,hi,hl⟩).elim
   have: ∀k,k≤N→ij listed k=0:=by
    intro k
    induction k with
    | zero=>intro _;rfl
    | succ k ih=>intro h;unfold ij;rw[ih Om,hall k Om];rfl
   rw[this N (Nat.le_refl _)] at hcnt
   omega
  obtain⟨i0,hi0,hu0⟩:=hun
  have some:Region.ready .any LL.toArray listed=[]→∀d i,i=d→i<N→listed.getD i true=true:=by
   intro hnil d
   induction d using Nat.strongRecOn with
   | _ d ih=>
    rintro i rfl hi
    cases hl:listed.getD i true with
    | true=>rfl
    | false=>
     exfalso
     have hilt:i<LL.toArray.size:=by rw[dZ];omega
     have hok:LL.toArray[i]? =some LL.toArray[i]:=Array.getElem?_eq_getElem hilt
     have hB:=List.all_eq_true.1 hb0 i (List.mem_range.2 hilt)
     rw[hok] at hB
     simp only[ka,decide_eq_true_eq,ir,jm,Nat.not_lt_zero,false_or] at hB
     have:i∈Region.ready .any LL.toArray listed:=mem_ready.2 ⟨hl,_,hok,λe he hbd=>by
      have h2:=Array.all_eq_true'.1 hB e he
      rw[hbd] at h2
      have h3:e.on<i:=by simpa using h2
      have h4:=ih e.on h3 e.on rfl Om
      have h5:e.on<listed.size:=by rw[inv.size,dZ];omega
      rw[Array.getD_eq_getD_getElem?,Array.getElem?_eq_getElem h5] at h4⊢
      exact h4⟩
     rw[hnil] at this;cases this
  refine⟨λhnil=>(by have:=some hnil i0 i0 rfl hi0;rw[hu0] at this;cases this),λi hi=>?_⟩
  have hiN:i<N:=by
   rcases Nat.lt_or_ge i N with h1 | h1
   ·exact h1
   ·exact(tail_waits hs hc (by rw[dZ];exact hNl) inv _ i0 rfl hi0 hu0 i h1 hi).elim
  obtain⟨hl,o,ho,hall⟩:=mem_ready.1 hi
  have hol:L[i]? =Option.some o:=by rw[←hL,List.getElem?_take_of_lt hiN,←eF];exact ho
  have hDi: ∀j∈t.D i,j<N∧listed.getD j false=true:=by
   intro j hj
   have h1:=List.all_eq_true.1 (List.all_eq_true.1 hD i (List.mem_range.2 hiN)) j hj
   rw[ho] at h1
   simp only[ir,jm,jg,decide_eq_true_eq] at h1
   refine⟨h1.1,?_⟩
   obtain⟨e,he,h2⟩:=Array.any_eq_true'.1 h1.2
   simp only[jg,ka,beq_iff_eq,decide_eq_true_eq] at h2
   have h3:=hall e he h2.1
   rcases h2.2 with h4 | ⟨h4,h5⟩
   ·rw[←h4];exact h3
   ·exact hk e.on h4 h3 j (by simpa using h5)
  have hDlt: ∀i,i<N→∀j∈t.D i,j<N:=by
   intro i hi j hj
   have h1:=List.all_eq_true.1 (List.all_eq_true.1 hD i (List.mem_range.2 hi)) j hj
   simp only[jg,decide_eq_true_eq] at h1
   exact h1.1
  have hSi:listed.getD i false=false:=by
   have h2:i<listed.size:=by rw[inv.size,dZ];omega
   simp [h2] at hl⊢
   exact hl
  have hst:=t7 h (S:=λi=>listed.getD i false) (xs:=xs) (w':=w') (k:=i) (o:=o) Om hol hSi (λj hj=>⟨by have:=(hDi j hj).1;omega,(hDi j hj).2⟩) (λi' hi' hs j hj=>⟨by have:=hDlt i' Om j hj;omega,hk i' Om hs j hj⟩) hI
   (λv w''=>wpAnyIn F n P .any LL.toArray Q f (listed.setIfInBounds i true) ((bt xs L 0 a).put o.dst v) w'') (λv w'' hI2=>by
    rw[rq v _ 0 a i o hsl hol,jh]
    refine CD hL hops hNl hs h hF hc hb hb0 hsl hD hend c f _ _ w'' (by have:=xd hl N hiN;omega) Om (inv.set hi hiN) ?_ (hI2.congr (λj hj=>?_) (λ_ _=>rfl))
    ·intro j hj hlj j' hj'
     by_cases e:j=i
     ·subst e
      exact getD_set_true (hDi j' hj').2
     ·rw[getD_set_ne false (Ne.symm e)] at hlj
      exact getD_set_true (hk j hj hlj j' hj')
    ·show(if j=i then true else listed.getD j false)=_
     by_cases e:j=i
     ·subst e
      have h2:j<listed.size:=by rw[inv.size,dZ];omega
      simp [h2]
     ·rw[ALifn e,getD_set_ne false (Ne.symm e)]) hF
  have hwa:Region.wanted o (yielded LL.toArray (bt xs L 0 a).tmps)=Region.wanted o (yielded L.toArray (bt xs L 0 a).tmps):=by
   rw[CB (k:=N),hL]
   have:=List.all_eq_true.1 hops o (List.mem_of_getElem? hol)
   revert this
   cases o.guard with
   | none=>exact λh=>h
   | some jb=>exact λh=>h
  unfold wpOpIn
  simp only[ho]
  rw[hwa]
  split
  ·rename_i hw
   rw[ALifp hw] at hst
   exact Oper.wpIn_mono (λa'' w'' ⟨v,e,h⟩=>by rw[e];exact h) hst
  ·rename_i hw
   rw[ALifn hw] at hst
   exact hst
def uQ(d:Bool)(LL:List Oper)(N:Nat)(D:Nat→List Nat):Bool:=xZ N (LL.take N)&&(if d then(Region.sinkB .any LL.toArray N&&decide (N<LL.length))&&Region.chainB .any LL.toArray N&&nb .any LL.toArray N&&nb .any LL.toArray 0&&mH (LL.take N)&&t3 .any LL.toArray N D else ng false (LL.take N) D)
theorem KR{w:World}(OW:Hid (aD R base t.L0 w))(Le:bI→ah)(hLe: ∀η,(List.range t.m).map (λp=>t.at η p L.length)=(Le η).map some):
  (∀xs w',gK L a t R base (λ_=>true) xs w'→∃η,(∀i,i<L.length→t.Is η i (xs i))∧aD R base (Le η) w')∧gK L a t R base (λ_=>false) (kc L a) w∧bt (kc L a) L 0 a=a:=by
 refine⟨?_,?_,xb _ 0 a λi o d ho hd=>by
  unfold kc
  rw[jh,ho,Option.bind_some,hd]⟩
 ·intro xs w' ⟨η,c,h1,_,h3⟩
  refine⟨η,λi hi=>h1 i hi rfl,?_⟩
  have hl:(Le η).length=t.m:=by
   have:=ALca List.length (hLe η)
   simpa using this.symm
  have hat: ∀p,p<t.m→t.at η p L.length=(Le η)[p]? :=by
   intro p hp
   have:=ALca (λl=>l[p]?) (hLe η)
   simp only[List.getElem?_map,List.getElem?_range hp,ir] at this
   cases hq:(Le η)[p]? with
   | none=>rw[hq] at this;cases this
   | some x=>rw[hq] at this;simpa using this
  exact⟨c,by rw[hl];exact h3.congr hat⟩
 ·have hc0: ∀(wr:Nat→Wr) (p N:Nat),dq t.L0 wr (λ_=>false) p N=t.L0[p]? :=by
   intro wr p N
   induction N with
   | zero=>rfl
   | succ N ih=>rw[t5 (.inl rfl),ih]
  obtain⟨c,hO⟩:=OW.out
  refine⟨λ_=>ab.zero,λp=>if p<t.L0.length then c p else[],λi _ hs=>absurd hs Bool.false_ne_true,λ_ _ _=>rfl,?_⟩
  have e:(λp=>dq t.L0 (t.wr λ_=>ab.zero) (λ_=>false) p L.length)=λp=>t.L0[p]? :=by funext p;exact hc0 _ _ _
  rw[e]
  have key: ∀p,((p<t.L0.length)∧(if p<t.L0.length then c p else[])=c p)∨(¬p<t.L0.length∧(if p<t.L0.length then c p else[])=[]):=λp=>by
   by_cases h:p<t.L0.length
   ·exact .inl ⟨h,ALifp h⟩
   ·exact .inr ⟨h,ALifn h⟩
  refine⟨λp _ x hx=>?_,λp _ hx=>?_,λp _ z hz=>?_,λp _=>?_,λp q _ _ hne z hz u hu=>?_,λp _ z hz=>?_,hO.os,hO.tape,hO.output,hO.size,hO.far⟩
  ·rcases key p with⟨h1,h2⟩ | ⟨h1,h2⟩
   ·rw[h2];exact hO.sat p h1 x hx
   ·exact absurd (List.getElem?_eq_some_iff.1 hx).1 h1
  ·rcases key p with⟨h1,h2⟩ | ⟨h1,h2⟩
   ·rw[h2];exact hO.nil p h1 hx
   ·exact h2
  ·rcases key p with⟨h1,h2⟩ | ⟨h1,h2⟩
   ·rw[h2] at hz;exact hO.obj p h1 z hz
   ·rw[h2] at hz;simp at hz
  ·rcases key p with⟨h1,h2⟩ | ⟨h1,h2⟩
   ·rw[h2];exact hO.inn p h1
   ·rw[h2];exact List.Pairwise.nil
  ·rcases key p with⟨h1,h2⟩ | ⟨h1,h2⟩
   ·rw[h2] at hz
    rcases key q with⟨h3,h4⟩ | ⟨h3,h4⟩
    ·rw[h4] at hu;exact hO.nd p q h1 h3 hne z hz u hu
    ·rw[h4] at hu;simp at hu
   ·rw[h2] at hz;simp at hz
  ·rcases key p with⟨h1,h2⟩ | ⟨h1,h2⟩
   ·rw[h2] at hz;exact hO.lo p h1 z hz
   ·rw[h2] at hz;simp at hz
end
end Go.Proofs.YtbcodenfkijdnaaGreat.E
namespace Go.Proofs.YtbcodenfkijdnaaGreat.E
open Go Go.RowKit Go.Shelf
open Bool renaming and_eq_true→dZ,noConfusion→jw
open List renaming mem_cons→eF,not_mem_nil→ir,size_toArray→jm
open Classical renaming choose→jg
open Nat renaming le_of_ble_eq_true→jh,blt_eq→ka,sub_zero→kP
section
variable {F:Fence} {n:Nat} {P:Program} {R:List Nat} {base:World} {Q:Exit→Act→World→Prop} {S:List It} {sz:Nat} {es:Fe} {L:ah} {Ds:List Nat}
def ou(N:Nat)(S:List It)(a:Sl)(L0:ah)(hs:bI→List (Nat×cS P))(η:bI):List (b7 P):=sb ((ax S).take N) a (kf (fB S) ((ax S).take N)) η ((ax S).take N) (hs η) 0 [] (λp=>L0[p]?) L0.length
def tP(N:Nat)(S:List It)(a:Sl)(L0:ah)(m:Nat)(hs:bI→List (Nat×cS P)):dY:=t9 ((ax S).take N) a (kf (fB S) ((ax S).take N)) (rC ((ax S).take N) []) L0 m (ou N S a L0 hs)
theorem CE[hF:lj F](hm:P.follows .mixedOrders=true)(N:Nat)(hs:bI→List (Nat×cS P))(nw:bI→Fe)(dr:List Nat)(Le:bI→ah→ah)
  (hk: ∀η b W,Fr ⟨sz,nw η++eP dr es⟩ Ds b→aD R base (Le η L++Ds.map mk) W→wpListIn F n P (ax S).toArray (dg F n P Q (bT S)) ((ax S).drop N) b W)
  (he: ∀η,((mM S,true),(fV ((ax S).take N) ⟨sz,es⟩ (tP N S ⟨sz,es⟩ L (mR Le L) hs) η 0 ((ax S).take N) (ou N S ⟨sz,es⟩ L hs η)).map bi.lhs,uQ (fB S) (ax S) N (λk=>(kf (fB S) ((ax S).take N)).getD k []),(List.range (mR Le L)).map (λp=>(tP N S ⟨sz,es⟩ L (mR Le L) hs).at η p ((ax S).take N).length),(nw η).map (λx=>mj ((ax S).take N) ⟨sz,es⟩ (tP N S ⟨sz,es⟩ L (mR Le L) hs) η x.1),nz ((ax S).take N) es (nw η) dr)=
   ((true,true),(fV ((ax S).take N) ⟨sz,es⟩ (tP N S ⟨sz,es⟩ L (mR Le L) hs) η 0 ((ax S).take N) (ou N S ⟨sz,es⟩ L hs η)).map bi.rhs,true,(Le η L).map some,(nw η).map (λx=>some x.2),true)):Go F n P R base Q S ⟨sz,es⟩ L Ds:=by
 have h0:=ALca (λx=>x.1.1) (he λ_=>ab.zero)
 have h1:=λη=>ALca (λx=>x.2.1) (he η)
 have h2:=ALca (λx=>x.2.2.1) (he λ_=>ab.zero)
 have h4:=λη=>ALca (λx=>x.2.2.2.1) (he η)
 have h5:=λη=>ALca (λx=>x.2.2.2.2.1) (he η)
 have h6:=λη=>ALca (λx=>x.2.2.2.2.2) (he η)
 simp only at h0 h1 h2 h4 h5 h6
 obtain⟨id,d,hS,hd⟩:=Cq h0
 subst hd
 refine⟨λb W hb hO=>dR 1000 S ?_⟩
 rw[show dz 1000 S=_ from hS]
 show(Code.region id (ax S).toArray (fB S)).wpIn F n P (dg F n P Q (bT S)) b W
 obtain⟨R1,OC,OW⟩:=hO.seg
 obtain⟨LP,hL⟩: ∃LP,(ax S).take N=LP:=⟨_,rfl⟩
 unfold tP ou at h1 h4 h5
 unfold uQ at h2
 obtain⟨d,hdr⟩: ∃d,fB S=d:=⟨_,rfl⟩
 rw[hL] at h1 h2 h4 h5 h6
 rw[hdr] at h1 h2 h4 h5⊢
 rw[dZ] at h2
 have hk1:=Bv (F:=F) (n:=n) (Q:=dg F n P Q (bT S)) hb h1
 obtain⟨s1,s2,s3⟩:=KR (a:=b) (t:=t9 LP ⟨sz,es⟩ (kf d LP) (rC LP []) L (mR Le L) _) (R:=R1) (base:=W) OW (λη=>Le η L) h4
 have hend: ∀xs w',gK LP b (t9 LP ⟨sz,es⟩ (kf d LP) (rC LP []) L (mR Le L) _) R1 W (λ_=>true) xs w'→wpListIn F n P (ax S).toArray (dg F n P Q (bT S)) ((ax S).drop N) (bt xs LP 0 b) w':=λxs w' hI=>by
  obtain⟨η,hx,hO2⟩:=s1 xs w' hI
  exact hk η _ _ (hb.region hx (h5 η) (h6 η)) (OC.out.whole hO2)
 cases d with
 | false=>
  have h3:=h2.2
  unfold ng at h3
  simp only[Bool.false_eq_true,if_false,dZ] at h3
  refine wpIn_region_lit ?_
  have hh:=CC (LL:=ax S) (N:=N) hL h2.1 hk1 hF.free h3.1 (λk hk j hj=>by simpa using List.all_eq_true.1 (List.all_eq_true.1 h3.2 k (List.mem_range.2 hk)) j hj) hend LP.length 0 (kc LP b) W Om (s2.congr (λi _=>by simp) (λ_ _=>rfl))
  rw[s3,List.drop_zero,←hL,List.take_append_drop] at hh
  exact hh
 | true=>
  have h3:=h2.2
  simp only[if_true,dZ,decide_eq_true_eq] at h3
  obtain⟨⟨⟨⟨⟨⟨q1,q2⟩,q3⟩,q4⟩,q5⟩,q6⟩,q7⟩:=h3
  refine wpIn_region_any hm ?_
  have hle: ∀k,ij (Array.replicate (ax S).length false) k≤k:=by
   intro k
   induction k with
   | zero=>exact Nat.le_refl _
   | succ k ih=>unfold ij;split<;>omega
  have hh:=CD (LL:=ax S) (N:=N) hL h2.1 q2 q1 hk1 hF.free q3 q4 q5 q6 q7 hend _ (ax S).toArray.size (Array.replicate (ax S).length false) (kc LP b) W.drew rfl (by rw[jm];have:=hle N;omega)
   ⟨by simp,λj oj _ hl e _ _=>(by rw[getD_replicate_false] at hl;exact jw hl),λt _ htt=>(by rw[jm] at htt;simp [htt])⟩ (λi _ hl=>(by rw[getD_replicate_false] at hl;exact jw hl))
   (s2.drew.congr (λi _=>(getD_replicate_false _ _).symm) (λ_ _=>rfl))
  rw[s3] at hh
  simpa using hh
def uR(LL:List Oper)(e:Fe)(o:Oper):Bool:=match o.guard with
 | none=>true
 | some (j,g)=>(match ((LL[j]?).bind (·.dst)).bind (lk e) with
  | some (.bool c)=>c==g
  | _=>false)
def pi(e:Fe):Operand→Bool
 | .tmp i=>(lk e i).isSome
 | _=>true
def ow(P:Program)(sz:Nat)(e:Fe)(o:Oper):Value×List bi:=match o.op with
 | .pick c x y=>(match (⟨sz,e⟩:Sl).ev c with
  | .bool b=>((⟨sz,e⟩:Sl).ev (match b with | true=>x | false=>y),[sB (pi e c&&pi e (match b with | true=>x | false=>y))])
  | _=>(undef,[sB false]))
 | _=>(match rz o.op with
  | some l=>(xT P o (⟨sz,e⟩:Sl).ev,[sB (mG o&&l.all (pi e)),sE (λw=>(execOp (⟨sz,e⟩:Sl).ev o).run P w) (λw=> .ok (.value (xT P o (⟨sz,e⟩:Sl).ev)) w)])
  | none=>(undef,[sB false]))
def ja(P:Program)(LL:List Oper)(sz:Nat):List Oper→Fe→Fe×List bi
 | [],e=>(e,[])
 | o::os,e=>match o.dst with
  | some d=>((ja P LL sz os ((d,(ow P sz e o).1)::e)).1,sB (uR LL e o)::sB (Nat.blt d sz)::((ow P sz e o).2++(ja P LL sz os ((d,(ow P sz e o).1)::e)).2))
  | none=>([],[sB false])
theorem Fr.put{b:Act}(hb:Fr ⟨sz,es⟩ Ds b){d:Nat}(hd:d<sz)(v:Value):Fr ⟨sz,(d,v)::es⟩ Ds (b.put (some d) v):=by
 refine⟨(xf _ _ _).trans hb.size,λi u h=>?_,(Co _ _ _).trans hb.defers⟩
 have hsz:b.tmps.size=sz:=hb.size
 show(b.tmps.setIfInBounds d v).getD i undef=u
 unfold lk at h
 split at h
 ·rename_i hq
  cases h
  rw[Nat.eq_of_beq_eq_true hq] at hd⊢
  simp [hsz,hd]
 ·rename_i hq
  have hne:d≠i:=λe=>by rw[e,Nat.beq_refl] at hq;cases hq
  have:=hb.get i u h
  simp only[Array.getD_eq_getD_getElem?] at this⊢
  rw[Array.getElem?_setIfInBounds,ALifn hne]
  exact this
theorem nE{b:Act}(hb:Fr ⟨sz,es⟩ Ds b){x:Operand}(h:pi es x=true):b.eval x=(⟨sz,es⟩:Sl).ev x:=hb.ev λi hi=>by subst hi;exact h
theorem KS[hF:lj F]{b:Act}{W:World}{o:Oper}{K:Act→World→Prop}{Q':Exit→Act→World→Prop}(hb:Fr ⟨sz,es⟩ Ds b)(he: ∀q∈(ow P sz es o).2,q.2.1=q.2.2)(hK:K (b.put o.dst (ow P sz es o).1) W):o.wpIn F n P b W K Q':=by
 refine Oper.wpIn_mono (λa'' w'' ⟨v,e,h⟩=>by rw[e];exact h) (p9 (K:=λv w=>K (b.put o.dst v) w) (v:=(ow P sz es o).1) hF.free (w':=W) ?_ ?_ hK)
 ·unfold ow at he
  split at he
  ·rename_i c x y hop
   unfold mG;rw[hop]
  ·split at he
   ·simp only[eF,ir,or_false,forall_eq_or_imp,forall_eq,sB,dZ] at he
    exact he.1.1
   ·exact(bG he).elim
 ·unfold ow at he⊢
  split at he
  ·rename_i c x y hop
   simp only at he⊢
   split at he
   ·rename_i E hE
    simp only[eF,ir,or_false,forall_eq,sB,dZ] at he
    have hc:=(nE hb he.1).trans hE
    cases E with
    | true=>exact p7 hop hc (nE hb he.2)
    | false=>exact p7 hop hc (nE hb he.2)
   ·exact(bG he).elim
  ·split at he
   ·rename_i l hl
    simp only[eF,ir,or_false,forall_eq_or_imp,forall_eq,sE,sB,dZ] at he
    rw[Bm hl λx hx=>nE hb (List.all_eq_true.1 he.1.2 x hx)]
    exact congrFun he.2 W
   ·exact(bG he).elim
theorem x8{LL:List Oper}{o:Oper}{b:Act}(hb:Fr ⟨sz,es⟩ Ds b)(h1:uR LL es o=true):Region.wanted o (yielded LL.toArray b.tmps)=true:=by
 unfold uR at h1
 unfold Region.wanted
 cases hg:o.guard with
 | none=>rfl
 | some jb=>
  obtain⟨j,g⟩:=jb
  rw[hg] at h1
  simp only at h1⊢
  split at h1
  ·rename_i c hc
   obtain⟨q,hq,hl⟩:=Option.bind_eq_some_iff.1 hc
   have hv:=hb.get q _ hl
   have hlt:q<b.tmps.size:=by
    rcases Nat.lt_or_ge q b.tmps.size with h | h
    ·exact h
    ·rw[Array.getD_eq_getD_getElem?,Array.getElem?_eq_none h] at hv;cases hv
   have hy:yielded LL.toArray b.tmps j=some c:=by
    unfold yielded
    rw[List.getElem?_toArray,hq]
    simp only[Option.bind_some]
    rw[Array.getD_eq_getD_getElem?,Array.getElem?_eq_getElem hlt] at hv
    rw[Array.getElem?_eq_getElem hlt]
    simp only[Option.getD_some] at hv
    rw[hv]
   rw[hy,eq_of_beq h1]
   simp
  ·cases h1
theorem sm[hF:lj F]{LL:List Oper}{W:World}{Q':Exit→Act→World→Prop}: ∀{os:List Oper} {es:Fe} {b:Act},Fr ⟨sz,es⟩ Ds b→(∀q∈(ja P LL sz os es).2,q.2.1=q.2.2)→(∀b',Fr ⟨sz,(ja P LL sz os es).1⟩ Ds b'→Q' .normal b' W)→wpListIn F n P LL.toArray Q' os b W
 | [],es,b,hb,_,hk=>hk b hb
 | o::os,es,b,hb,he,hk=>by
  unfold ja at he hk
  cases hd:o.dst with
  | none=>rw[hd] at he;exact(bG he).elim
  | some d=>
   rw[hd] at he hk
   simp only[eF,List.mem_append,forall_eq_or_imp,sB] at he
   obtain⟨h1,h2,h3⟩:=he
   have hw:=x8 (LL:=LL) hb h1
   unfold wpListIn
   rw[ALifp hw]
   refine KS (F:=F) hb (λq hq=>h3 q (.inl hq)) ?_
   rw[hd]
   exact sm (hb.put (ka▸h2) _) (λq hq=>h3 q (.inr hq)) hk
def sn:Nat→List It→Fe→Bool
 | 0,_,_=>false
 | k+1,S,e=>match nf S with
  | .c .ret::_=>true
  | .c (.cond c x y)::S'=>pi e c&&(match (⟨0,e⟩:Sl).ev c with
   | .bool b=>sn k (.c (match b with | true=>x | false=>y)::S') e
   | _=>false)
  | _=>false
theorem x9: ∀(k:Nat) {S:List It} {b:Act} {W:World},sn k S es=true→Fr ⟨sz,es⟩ Ds b→Q .ret b W→dg F n P Q S .normal b W
 | 0,_,_,_,h,_,_=>by cases h
 | k+1,S,b,W,h,hb,hQ=>by
  unfold sn at h
  refine dR 1000 S ?_
  split at h
  ·rename_i S' e
   rw[show dz 1000 S=_ from e]
   exact wpIn_ret (io hQ)
  ·rename_i c x y S' e
   rw[show dz 1000 S=_ from e]
   rw[dZ] at h
   obtain⟨h1,h2⟩:=h
   split at h2
   ·rename_i E hE
    have hc:=(nE hb h1).trans hE
    have h3:=x9 k h2 hb hQ
    cases E with
    | true=>exact wpIn_cond hc h3
    | false=>exact wpIn_cond hc h3
   ·cases h2
  ·cases h
def Zy(P:Program)(fn:Func)(J Jx:Nat→(Nat→Prop)→World→Prop)(KO:aw)(W0:World)(N:Nat):Exit→Act→World→Prop:=
 bodyPostM Fence.wide 5 P fn λe W'=>(∃v,e= .returned v)∧((∃L,fX J KO W0 L N W')∨∃i,i<N∧∃O',Jx (i+1) O' W')
def ya{α:Type}(P:Program)(l:Nat)(J Jx:Nat→(Nat→Prop)→World→Prop)(KO:aw)(W0:World)(encs:α→Array Value)(xs:List α):Prop:=
 ∀(L:aw) (j:Nat) (x:α) (wr:World),xs[j]? =some x→fX J KO W0 L j wr→YieldAt Fence.wide 4 P l (encs x) wr λe W'=>(e= .returned (.bool true)∧fX J KO W0 L (j+1) W')∨(e= .returned (.bool false)∧∃O',Jx (j+1) O' W')
section
variable {α:Type} {gf:Nat} {fn:Func} {lb:Array Value} {encs:α→Array Value} {xs:List α} {KO:List aw} {J Jx:Nat→(Nat→Prop)→World→Prop} {W0:World} {l j:Nat}
theorem gi(hf:P.funcs[gf]? =some fn)(h: ∀l J Jx W0 R,gU J→ya P l J Jx KO.flatten W0 encs xs→Hid (fA J KO W0 0 R W0)→Go Fence.wide 5 P R W0 (Zy P fn J Jx KO.flatten W0 xs.length) [.c (kK fn)] ⟨fn.ntmps,ot 0 (.func (.yield l) #[] #[]::lb.toList)⟩ (KO.map .c) [])
  (hc:(fn.body.isSome,Nat.ble (lb.size+1) fn.ntmps)=(true,true):=by kernel_rfl):fy 5 P gf lb encs xs KO.flatten:=by
 refine I9 λl J Jx W hJ hY h0=>?_
 obtain⟨R,hI,hO⟩:=jq.start (jq.zero h0.out)
 obtain⟨c,hb⟩:=Option.isSome_iff_exists.1 (ALca (·.1) hc)
 have hn:lb.size+1≤fn.ntmps:=jh (ALca (·.2) hc)
 refine callsIn_of_wp_marks hf hb trivial ?_ rfl
 have hz:(#[Value.func (.yield l) #[] #[]]++lb).size=lb.size+1:=by simp;omega
 have h1:=(h l J Jx W R hJ hY.out hI).out {tmps:=(#[Value.func (.yield l) #[] #[]]++lb)++Array.replicate (fn.ntmps-(#[Value.func (.yield l) #[] #[]]++lb).size) undef,defers:=[]} W ⟨by rw[Array.size_append,hz,Array.size_replicate];show _=fn.ntmps;omega,λi v hv=>?_,rfl⟩ (by simpa using hO.out)
 ·rw[show kK fn=c by unfold kK;rw[hb];rfl] at h1
  exact h1
 ·obtain⟨_,h2⟩:=se hv
  rw[kP] at h2
  have h3:i<lb.size+1:=by have:=(List.getElem?_eq_some_iff.1 h2).1;simpa using this
  have h4:(#[Value.func (.yield l) #[] #[]]++lb)[i]? =some v:=by rw[←Array.getElem?_toList];simpa using h2
  rw[Array.getD_eq_getD_getElem?,Array.getElem?_append_left (by rw[hz];exact h3),h4]
  rfl
theorem gG{XO:aw}(hf:P.funcs[gf]? =some fn)(h: ∀l J Jx W0 R,gU J→ya P l J Jx KO.flatten W0 encs xs→Hid (fA J KO W0 0 R W0)→Go Fence.wide 5 P R W0 (Zy P fn J Jx KO.flatten W0 xs.length) [.c (kK fn)] ⟨fn.ntmps,ot 0 (.func (.yield l) #[] #[]::lb.toList)⟩ (KO.map .c++[az.c XO]) [])
  (hc:(fn.body.isSome,Nat.ble (lb.size+1) fn.ntmps)=(true,true):=by kernel_rfl):qe 5 P gf lb encs xs KO.flatten XO:=by
 refine Ja λl J Jx W hJ hY h0=>?_
 obtain⟨R,hI,hO⟩:=jq.start (LE:=[az.c XO]) ⟨[XO],⟨rfl,trivial⟩,by simpa using h0.out⟩
 obtain⟨c,hb⟩:=Option.isSome_iff_exists.1 (ALca (·.1) hc)
 have hn:lb.size+1≤fn.ntmps:=jh (ALca (·.2) hc)
 refine callsIn_of_wp_marks hf hb trivial ?_ rfl
 have hz:(#[Value.func (.yield l) #[] #[]]++lb).size=lb.size+1:=by simp;omega
 have h1:=(h l J Jx W R hJ hY.out hI).out {tmps:=(#[Value.func (.yield l) #[] #[]]++lb)++Array.replicate (fn.ntmps-(#[Value.func (.yield l) #[] #[]]++lb).size) undef,defers:=[]} W ⟨by rw[Array.size_append,hz,Array.size_replicate];show _=fn.ntmps;omega,λi v hv=>?_,rfl⟩ (by simpa using hO.out)
 ·rw[show kK fn=c by unfold kK;rw[hb];rfl] at h1
  exact h1
 ·obtain⟨_,h2⟩:=se hv
  rw[kP] at h2
  have h3:i<lb.size+1:=by have:=(List.getElem?_eq_some_iff.1 h2).1;simpa using this
  have h4:(#[Value.func (.yield l) #[] #[]]++lb)[i]? =some v:=by rw[←Array.getElem?_toList];simpa using h2
  rw[Array.getD_eq_getD_getElem?,Array.getElem?_append_left (by rw[hz];exact h3),h4]
  rfl
theorem yb(W:World):aD (bN ([]:List aw).flatten) W [] W:=aD.start (cs:=[]) trivial ⟨λ_ h=>by simp at h,List.Pairwise.nil⟩
theorem CF{N:Nat}{b:Act}{W:World}{KO:aw}(hres:fn.results.toList=[])(hd:b.defers=[])(h:(∃L,fX J KO W0 L N W)∨∃i,i<N∧∃O',Jx (i+1) O' W):Zy P fn J Jx KO W0 N .ret b W:=by
 show LeavesInM Fence.wide 5 P fn b.tmps _ b.defers .returning W
 rw[hd]
 exact I7 (Lib.hid (yb W)) [] (by rw[hres];rfl) λ_=>⟨⟨_,rfl⟩,h⟩
def CG(S:List It)(N:Nat):Option Oper:=(ax S)[N]?
def jt(S:List It)(N:Nat):Nat:=match CG S N with | some o=>o.dst.getD 0 | none=>0
def uS(S:List It)(N l sz:Nat)(e:Fe)(vs:List Value):Bool×Option (List Value)×Option Value:=match CG S N with
 | some o=>(match o.op with
  | .call ⟨.value x,ags,_⟩=>(uR (ax S) e o&&pi e x&&ags.toList.all (pi e)&&o.dst.isSome&&Nat.blt (o.dst.getD 0) sz,some (ags.toList.map (⟨sz,e⟩:Sl).ev),some ((⟨sz,e⟩:Sl).ev x))
  | _=>(false,none,none))
 | none=>(false,none,none)
theorem iy[hR:Rt Q (Zy P fn J Jx KO.flatten W0 xs.length)](hJ:gU J)(hY:ya P l J Jx KO.flatten W0 encs xs)(hI:Hid (fA J KO W0 j R base))(N:Nat)(hs:bI→List (Nat×cS P))(nw:bI→Fe)(dr:List Nat)(Le:bI→ah→ah)(LE:bI→ah)(ps:List Nat){x:α}(hx:xs[j]? =some x)
  (hk: ∀η R' W',Hid (fA J KO W0 (j+1) R' W')→Go Fence.wide 5 P R' W' Q (bT S) ⟨sz,(ja P (ax S) sz ((ax S).drop (N+1)) ((jt S N,.bool true)::(nw η++eP dr es))).1⟩ (KO.map .c++LE η) [])
  (he: ∀η,((mM S,true),(fV ((ax S).take N) ⟨sz,es⟩ (tP N S ⟨sz,es⟩ L (mR Le L) hs) η 0 ((ax S).take N) (ou N S ⟨sz,es⟩ L hs η)).map bi.lhs,uQ (fB S) (ax S) N (λk=>(kf (fB S) ((ax S).take N)).getD k []),(List.range (mR Le L)).map (λp=>(tP N S ⟨sz,es⟩ L (mR Le L) hs).at η p ((ax S).take N).length),(nw η).map (λx=>mj ((ax S).take N) ⟨sz,es⟩ (tP N S ⟨sz,es⟩ L (mR Le L) hs) η x.1),nz ((ax S).take N) es (nw η) dr)=
   ((true,true),(fV ((ax S).take N) ⟨sz,es⟩ (tP N S ⟨sz,es⟩ L (mR Le L) hs) η 0 ((ax S).take N) (ou N S ⟨sz,es⟩ L hs η)).map bi.rhs,true,(Le η L).map some,(nw η).map (λx=>some x.2),true):=by intro _;kernel_rfl)
  (hy: ∀η,(uS S N l sz (nw η++eP dr es) (encs x).toList,(ja P (ax S) sz ((ax S).drop (N+1)) ((jt S N,.bool true)::(nw η++eP dr es))).2.map bi.lhs,(ja P (ax S) sz ((ax S).drop (N+1)) ((jt S N,.bool false)::(nw η++eP dr es))).2.map bi.lhs,sn 10 (bT S) (ja P (ax S) sz ((ax S).drop (N+1)) ((jt S N,.bool false)::(nw η++eP dr es))).1)=
   ((true,some (encs x).toList,some (.func (.yield l) #[] #[])),(ja P (ax S) sz ((ax S).drop (N+1)) ((jt S N,.bool true)::(nw η++eP dr es))).2.map bi.rhs,(ja P (ax S) sz ((ax S).drop (N+1)) ((jt S N,.bool false)::(nw η++eP dr es))).2.map bi.rhs,true):=by intro _;kernel_rfl)
  (hp: ∀η,(dx (ps.map λp=>[p]).flatten,(ps.map λp=>[p]).map λg=>g.map λp=>(Le η L)[p]?)=(true,((KO.map az.c++LE η).map λx=>[x]).map λN=>N.map some):=by intro _;kernel_rfl) (hres:fn.results.toList=[]:=by kernel_rfl) (hm:P.follows .mixedOrders=true:=by kernel_rfl):Go Fence.wide 5 P R base Q S ⟨sz,es⟩ L []:=by
 refine CE hm N hs nw dr Le (λη b W hb hO=>?_) he
 have hy1:=ALca (λx=>x.1) (hy η)
 have hy2:=ALca (λx=>x.2.1) (hy η)
 have hy3:=ALca (λx=>x.2.2.1) (hy η)
 have hy4:=ALca (λx=>x.2.2.2) (hy η)
 simp only at hy1 hy2 hy3 hy4
 have hO':aD R base (KO.map .c++LE η) W:=aD.pick (by simpa using hO) ps _ (hp η)
 obtain⟨ds,hds,hIS⟩:=fA.step hI hJ hO'
 obtain⟨fn',tmps',asg,bod,hrun,hround⟩:=hY ds.flatten j x W hx hIS
 unfold uS at hy1
 split at hy1
 ·rename_i o ho
  split at hy1
  ·rename_i xo ags ats hop
   simp only[Prod.mk.injEq,dZ,Option.some.injEq] at hy1
   obtain⟨⟨⟨⟨⟨g1,g2⟩,g3⟩,g4⟩,g5⟩,g6,g7⟩:=hy1
   obtain⟨d,hd⟩:=Option.isSome_iff_exists.1 g4
   have hyd:jt S N=d:=by unfold jt;rw[ho];simp [hd]
   have hdr:(ax S).drop N=o::(ax S).drop (N+1):=by
    obtain⟨hlt,e⟩:=List.getElem?_eq_some_iff.1 (show(ax S)[N]? =some o from ho)
    rw[List.drop_eq_getElem_cons hlt,e]
   rw[hdr]
   have hw:Region.wanted o (yielded (ax S).toArray b.tmps)=true:=x8 hb g1
   unfold wpListIn
   rw[ALifp hw]
   have hxo:b.eval xo= .func (.yield l) #[] #[]:=(nE hb g2).trans g7
   have hag:ags.map b.eval=encs x:=by
    apply Array.toList_inj.1
    rw[Array.toList_map,←g6]
    exact List.map_congr_left λq hq=>nE hb (List.all_eq_true.1 g3 q hq)
   have hrun2:(execOp b.eval o).run P W= .ok (.round l fn' tmps' asg bod) W:=by
    unfold execOp
    simp only[hop,resolve,hxo,Deferred.ofValue,Sem.run_bind,Sem.run_pure,Result.andThen_ok,invoke]
    rw[hag]
    simpa using hrun
   unfold Oper.wpIn
   refine⟨λ_ _=>trivial,?_⟩
   rw[Oper.semAt_plain Fence.wide _ o (λc hc=>by rw[hop] at hc;cases hc),hrun2,Oper.uponIn_round]
   refine⟨λ_=>by omega,hround.mono ?_⟩
   rintro e W' (⟨rfl,h3⟩ | ⟨rfl,O',h3⟩)
   ·rw[hyd] at hy2
    obtain⟨R',hI',hO3⟩:=jq.start (J:=J) (Os:=KO) (W0:=W0) (LE:=LE η) (j:=j+1) ⟨ds,hds,h3⟩
    have h4:=hk η R' W' hI'
    rw[hyd] at h4
    show wpListIn Fence.wide 5 P (ax S).toArray _ ((ax S).drop (N+1)) (b.put o.dst (.bool true)) W'
    rw[hd]
    have h5:d<sz:=by rw[hd] at g5;exact ka▸g5
    exact sm (hb.put h5 _) (bi.all hy2) λb' hb'=>h4.out b' W' hb' (by simpa using hO3.out)
   ·rw[hyd] at hy3 hy4
    show wpListIn Fence.wide 5 P (ax S).toArray _ ((ax S).drop (N+1)) (b.put o.dst (.bool false)) W'
    rw[hd]
    have h5:d<sz:=by rw[hd] at g5;exact ka▸g5
    exact sm (hb.put h5 _) (bi.all hy3) λb' hb'=>x9 10 hy4 hb' (hR.out b' W' (CF hres (by rw[hb'.defers];rfl) (.inr ⟨j,(List.getElem?_eq_some_iff.1 hx).1,O',h3⟩)))
  ·simp at hy1
 ·simp at hy1
theorem lH(hJ:gU J)(hI:Hid (fA J KO W0 j R base))(hj:j=xs.length)(LE:ah)(ps:List Nat)
  (hp:(dx (ps.map λp=>[p]).flatten,(ps.map λp=>[p]).map λg=>g.map λp=>L[p]?)=(true,((KO.map az.c++LE).map λx=>[x]).map λN=>N.map some):=by kernel_rfl) (hres:fn.results.toList=[]:=by kernel_rfl) (hS:(nf S).isEmpty=true:=by kernel_rfl):Go Fence.wide 5 P R base (Zy P fn J Jx KO.flatten W0 xs.length) S ⟨sz,es⟩ L []:=by
 refine⟨λb W hb hO=>dR 1000 S ?_⟩
 have hO':aD R base (KO.map .c++LE) W:=aD.pick (by simpa using hO) ps _ hp
 have h:=jq.leaf (fA.step hI hJ hO')
 rw[show dz 1000 S=[] from List.isEmpty_iff.1 hS]
 exact CF hres (by rw[hb.defers];rfl) (.inl (by rw[←hj];exact h))
end
section
variable {J:Nat→(Nat→Prop)→World→Prop} {KO:List aw} {W0:World}
def CH(J:Nat→(Nat→Prop)→World→Prop)(KO:List aw)(W0:World)(I:Nat→Prop)(e:Nat→Fe)(LI:Nat→ah)(m c:Nat→Nat)(sz:Nat)(st:Fe)(i:Nat)(b:Act)(W:World):Prop:=∃(k:Nat) (R:List Nat) (base:World),I k∧Hid (fA J KO W0 (c k) R base)∧m k<i∧Fr ⟨sz,e k++st⟩ [] b∧aD R base (LI k) W
def uU(P:Program)(J:Nat→(Nat→Prop)→World→Prop)(KO:List aw)(W0:World)(Q:Exit→Act→World→Prop)(S:List It)(I:Nat→Prop)(e:Nat→Fe)(LI:Nat→ah)(m c:Nat→Nat)(sz:Nat)(st:Fe)(i:Nat):Exit→Act→World→Prop
 | .normal,b,W=>CH J KO W0 I e LI m c sz st i b W
 | x,b,W=>dg Fence.wide 5 P Q S x b W
theorem kk(I:Nat→Prop)(e:Nat→Fe)(LI:Nat→ah→ah)(m c:Nat→Nat)(k0:Nat)(h0:I k0)(hI:Hid (fA J KO W0 (c k0) R base))(he:((e k0).map λx=>lk es x.1)=(e k0).map λx=>some x.2)(hL:L=LI k0 L)
  (hr: ∀(k:Nat) (R':List Nat) (base':World),I k→Hid (fA J KO W0 (c k) R' base')→Go Fence.wide 5 P R' base' (uU P J KO W0 Q (bT S) I e (λk=>LI k L) m c sz (jX S es) (m k)) [.c (gM S)] ⟨sz,e k++jX S es⟩ (LI k L) []) (hS:oq S=true:=by kernel_rfl):Go Fence.wide 5 P R base Q S ⟨sz,es⟩ L []:=by
 classical
 refine⟨λb W hb hO=>dR 1000 S ?_⟩
 rw[show dz 1000 S=_ from uG hS]
 show(Code.loop (gM S)).wpIn Fence.wide 5 P (dg Fence.wide 5 P Q (bT S)) b W
 let J0:Nat→Act→World→Prop:=CH J KO W0 I e (λk=>LI k L) m c sz (jX S es)
 let μ:Act→World→Nat:=λb W=>if h: ∃j,J0 j b W then jg (lD h) else 0
 have hμ: ∀b W,(∃j,J0 j b W)→J0 (μ b W) b W∧∀i,i<μ b W→¬J0 i b W:=by
  intro b W h
  have e:μ b W=jg (lD h):=dif_pos h
  rw[e]
  exact Classical.choose_spec (lD h)
 refine wpIn_loop (λb W=>∃j,J0 j b W) μ ⟨m k0+1,k0,R,base,h0,hI,Nat.lt_succ_self _,Fr.stay (a:=⟨sz,es⟩) hb he,by have h:=hO;rw[hL] at h;simpa using h⟩ λb W hJ=>?_
 obtain⟨k,R',base',hk,hC,hm,hf,hO⟩:=(hμ b W hJ).1
 refine wpIn_mono (show(gM S).wpIn Fence.wide 5 P _ b W from(hr k R' base' hk hC).out b W hf (by simpa using hO)) λe b' W' he=>?_
 cases e with
 | normal=>
  have hJ:J0 (m k) b' W':=he
  exact⟨⟨_,hJ⟩,Nat.lt_of_le_of_lt (Nat.le_of_not_lt λhl=>(hμ b' W' ⟨_,hJ⟩).2 _ hl hJ) hm⟩
 | _=>exact he
theorem jc{I:Nat→Prop}{e:Nat→Fe}{LI:Nat→ah}{m c:Nat→Nat}{S0:List It}{sz0:Nat}{st:Fe}{i:Nat}(k:Nat)(hI:I k)(hC:Hid (fA J KO W0 (c k) R base))(hm:m k<i)(he:((e k++st).map λx=>lk es x.1)=(e k++st).map λx=>some x.2)(ps:List Nat)(hL:(dx (ps.map λp=>[p]).flatten,(ps.map λp=>[p]).map λg=>g.map λp=>L[p]?)=(true,((LI k).map λx=>[x]).map λN=>N.map some))(hS:(nf S).isEmpty=true:=by kernel_rfl)(hz:sz=sz0:=by rfl):
  Go Fence.wide 5 P R base (uU P J KO W0 Q S0 I e LI m c sz0 st i) S ⟨sz,es⟩ L []:=by
 subst hz
 refine⟨λb W hb hO=>dR 1000 S ?_⟩
 rw[show dz 1000 S=[] from List.isEmpty_iff.1 hS]
 exact⟨k,R,base,hI,hC,hm,Fr.told (a:=⟨sz,es⟩) hb he,aD.pick (by simpa using hO) ps _ hL⟩
theorem km{I:Nat→Prop}{e:Nat→Fe}{LI:Nat→ah}{m c:Nat→Nat}{S0:List It}{sz0:Nat}{st:Fe}{i:Nat}(hk:Go Fence.wide 5 P R base Q ((kj S S0).getD []) ⟨sz,es⟩ L [])(hS:(kj S S0).isSome=true:=by kernel_rfl):Go Fence.wide 5 P R base (uU P J KO W0 Q S0 I e LI m c sz0 st i) S ⟨sz,es⟩ L []:=by
 obtain⟨S1,h1⟩:=Option.isSome_iff_exists.1 hS
 rw[h1] at hk
 exact⟨λb W hb hO=>uH h1 (hk.out b W hb hO) λ_=>rfl⟩
instance {P:Program} {J:Nat→(Nat→Prop)→World→Prop} {KO:List aw} {W0:World} {Q Q0:Exit→Act→World→Prop} {I:Nat→Prop} {e:Nat→Fe} {LI:Nat→ah} {m c:Nat→Nat} {S0:List It} {sz0:Nat} {st:Fe} {i:Nat} [h:Rt Q Q0]:Rt (uU P J KO W0 Q S0 I e LI m c sz0 st i) Q0:=⟨λb W hq=>io (S:=S0) (h.out b W hq)⟩
def KT(J:Nat→(Nat→Prop)→World→Prop)(KO:List aw)(W0:World)(I:Nat→Value→Prop)(e:Nat→Value→Fe)(LI:Nat→Value→ah)(m c:Nat→Value→Nat)(sz:Nat)(st:Fe)(i:Nat)(b:Act)(W:World):Prop:=∃(k:Nat) (u:Value) (R:List Nat) (base:World),I k u∧Hid (fA J KO W0 (c k u) R base)∧m k u<i∧Fr ⟨sz,e k u++st⟩ [] b∧aD R base (LI k u) W
def KU(P:Program)(J:Nat→(Nat→Prop)→World→Prop)(KO:List aw)(W0:World)(Q:Exit→Act→World→Prop)(S:List It)(I:Nat→Value→Prop)(e:Nat→Value→Fe)(LI:Nat→Value→ah)(m c:Nat→Value→Nat)(sz:Nat)(st:Fe)(i:Nat):Exit→Act→World→Prop
 | .normal,b,W=>KT J KO W0 I e LI m c sz st i b W
 | x,b,W=>dg Fence.wide 5 P Q S x b W
instance {P:Program} {J:Nat→(Nat→Prop)→World→Prop} {KO:List aw} {W0:World} {Q Q0:Exit→Act→World→Prop} {I:Nat→Value→Prop} {e:Nat→Value→Fe} {LI:Nat→Value→ah} {m c:Nat→Value→Nat} {S0:List It} {sz0:Nat} {st:Fe} {i:Nat} [h:Rt Q Q0]:Rt (KU P J KO W0 Q S0 I e LI m c sz0 st i) Q0:=⟨λb W hq=>io (S:=S0) (h.out b W hq)⟩
end
end
end Go.Proofs.YtbcodenfkijdnaaGreat.E
namespace Go.Proofs.YtbcodenfkijdnaaGreat.E
open Go Go.RowKit Go.Shelf
open Nat renaming mul_one→dZ,zero_add→jh,mod_eq_of_lt→na
open Go.Result renaming andThen_ok→eF
open Int renaming toNat_natCast→ir,eq_ofNat_of_zero_le→jg,natCast_nonneg→ka,natCast_emod→nN,emod_nonneg→n7
open Go.IntKind renaming wrap_u8→jm
open List renaming length_append→jw,size_toArray→kP
open Go.Sem renaming run_bind→oG,run_pure→po
theorem gb{P:Program}{T:TypeId}{x y:Operand}{w:World}{yk:IntKind}{a:Int}(n:Nat)(hn:n≤64)(h0: -9223372036854775808≤a*2^n)(h1:a*2^n≤9223372036854775807):(ar .shl T x y (.int .i64 a) (.int yk (n:Int))).run P w= .ok (.int .i64 (a*2^n)) w:=by
 have e:IntKind.i64.wrap (a*2^n)=a*2^n:=IntWalk.i64_in _ Om
 unfold ar
 simp only[oG,eqGuard_shl,po,eF,binOp_shl,shift_shl_i64 _ _ _ (ka n) Om,ir,e]
theorem KW(a b k:Nat)(ha:a%2^k=0)(hb:b<2^k)(h:a+b<9223372036854775808):bits .or .i64 (a:Int) (b:Int)=((a+b:Nat):Int):=by
 have h2: ∀c:Nat,c<9223372036854775808→(BitVec.ofInt 64 (c:Int)).toNat=c:=by
  intro c hc
  rw[BitVec.ofInt_natCast,BitVec.toNat_ofNat];exact na Om
 show IntKind.i64.wrap ((BitVec.ofInt 64 (a:Int)||| BitVec.ofInt 64 (b:Int)).toNat:Int)=_
 rw[BitVec.toNat_or,h2 a Om,h2 b Om]
 have e:a||| b=a+b:=by
  have h3:=Nat.div_add_mod a (2^k)
  rw[ha,Nat.add_zero] at h3
  rw[←h3]
  exact(Nat.two_pow_add_eq_or_of_lt hb (a/2^k)).symm
 rw[e]
 exact IntWalk.i64_in _ Om
theorem sr{P:Program}{T:TypeId}{x y:Operand}{w:World}{a b:Int}(k M:Nat)(hM:2^k=M)(h0:0≤a)(ha:a%(M:Int)=0)(hb0:0≤b)(hb:b<(M:Int))(h:a+b<9223372036854775808):(ar .or T x y (.int .i64 a) (.int .i64 b)).run P w= .ok (.int .i64 (a+b)) w:=by
 obtain⟨m,rfl⟩:=jg h0
 obtain⟨n,rfl⟩:=jg hb0
 have e:=KW m n k (by rw[hM];omega) (by rw[hM];omega) Om
 rw[show((m:Int)+(n:Int))=((m+n:Nat):Int) by omega,←e]
 rfl
theorem KX(x:Int)(k:Nat)(hk:k≤64):(((x%18446744073709551616).toNat%2^k:Nat):Int)=x%((2^k:Nat):Int):=by
 have hd:((2^k:Nat):Int)∣18446744073709551616:=by
  have h:2^k∣18446744073709551616:=(show(18446744073709551616:Nat)=2^64 by decide)▸Nat.pow_dvd_pow 2 hk
  exact Int.natCast_dvd_natCast.2 h
 rw[nN,Int.toNat_of_nonneg (n7 _ Dc),Int.emod_emod_of_dvd _ hd]
theorem KY(x:Int)(k m:Nat)(hm:2^k=m)(hk:k≤62)(h1:0<m)(h2:m≤4611686018427387904):bits .and .i64 x ((m-1:Nat):Int)=x%(m:Int):=by
 show IntKind.i64.wrap ((BitVec.ofInt 64 x&&& BitVec.ofInt 64 ((m-1:Nat):Int)).toNat:Int)=_
 have e:(BitVec.ofInt 64 ((m-1:Nat):Int)).toNat=2^k-1:=by
  rw[BitVec.ofInt_natCast,BitVec.toNat_ofNat,hm];exact na Om
 have e2:=KX x k Om
 rw[hm] at e2
 rw[BitVec.toNat_and,e,Nat.and_two_pow_sub_one_eq_mod,BitVec.toNat_ofInt,hm]
 rw[show(x%((2^64:Nat):Int))=x%18446744073709551616 from rfl,e2]
 have l0:0≤x%(m:Int):=n7 _ Om
 have l1:x%(m:Int)<(m:Int):=Int.emod_lt_of_pos _ Om
 exact IntWalk.i64_in _ Om
theorem mO{P:Program}{T:TypeId}{y z:Operand}{w:World}(x:Int)(k m:Nat)(hm:2^k=m)(hk:k≤62)(h1:0<m)(h2:m≤4611686018427387904):(ar .and T y z (.int .i64 x) (.int .i64 ((m-1:Nat):Int))).run P w= .ok (.int .i64 (x%(m:Int))) w:=by
 rw[←KY x k m hm hk h1 h2]
 rfl
section
variable {P:Program} {T:TypeId} {x y:Operand} {w:World}
theorem CI{a b:Nat}(ha:a<18446744073709551616)(hb:b<18446744073709551616):(ar .and T x y (.int .u64 (a:Int)) (.int .u64 (b:Int))).run P w= .ok (.int .u64 ((a&&& b:Nat):Int)) w:=by
 rw[←u64_and_nat a b ha hb];rfl
theorem KZ{a b:Nat}(ha:a<4294967296)(hb:b<4294967296):(ar .and T x y (.int .u32 (a:Int)) (.int .u32 (b:Int))).run P w= .ok (.int .u32 ((a&&& b:Nat):Int)) w:=by
 rw[←u32_and_nat a b ha hb];rfl
theorem K0{a b:Nat}(ha:a<256)(hb:b<256):(ar .and T x y (.int .u8 (a:Int)) (.int .u8 (b:Int))).run P w= .ok (.int .u8 ((a&&& b:Nat):Int)) w:=by
 rw[←u8_and_nat a b ha hb];rfl
theorem K1{a b:Nat}(h:b≤a)(ha:a<18446744073709551616):(ar .sub T x y (.int .u64 (a:Int)) (.int .u64 (b:Int))).run P w= .ok (.int .u64 ((a-b:Nat):Int)) w:=by
 have h1:IntKind.u64.wrap ((a:Int)-b)=((a-b:Nat):Int):=by rw[IntKind.wrap_u64];omega
 rw[←h1];rfl
theorem K2{a b:Nat}(h:b≤a)(ha:a<4294967296):(ar .sub T x y (.int .u32 (a:Int)) (.int .u32 (b:Int))).run P w= .ok (.int .u32 ((a-b:Nat):Int)) w:=by
 have h1:IntKind.u32.wrap ((a:Int)-b)=((a-b:Nat):Int):=by rw[IntKind.wrap_u32];omega
 rw[←h1];rfl
theorem K3{a b:Nat}(h:b≤a)(ha:a<256):(ar .sub T x y (.int .u8 (a:Int)) (.int .u8 (b:Int))).run P w= .ok (.int .u8 ((a-b:Nat):Int)) w:=by
 have h1:IntKind.u8.wrap ((a:Int)-b)=((a-b:Nat):Int):=by rw[jm];omega
 rw[←h1];rfl
theorem CJ{a:Nat}(ha:a<18446744073709551616):(ar .and T x y (.int .u64 (a:Int)) (.int .u64 1)).run P w= .ok (.int .u64 ((a%2:Nat):Int)) w:=by
 have h:=CI (P:=P) (T:=T) (x:=x) (y:=y) (w:=w) (a:=a) (b:=1) ha Om
 rwa [Nat.and_one_is_mod] at h
theorem CK{a:Nat}:(ar .and T x y (.int .i64 (a:Int)) (.int .i64 1)).run P w= .ok (.int .i64 ((a%2:Nat):Int)) w:=by
 have h:=mO (P:=P) (T:=T) (y:=x) (z:=y) (w:=w) (a:Int) 1 2 Dc Dc Dc Dc
 exact h
end
section
variable {P:Program} {T:TypeId} {x y:Operand} {w:World}
theorem uV{yk:IntKind}{a:UInt8}(n:Nat)(hn:n≤8):(ar .shl T x y (.int .u8 (a.toNat:Int)) (.int yk (n:Int))).run P w= .ok (.int .u8 ((UInt8.ofNat (a.toNat*2^n)).toNat:Int)) w:=by
 have e:IntKind.u8.wrap ((a.toNat:Int)*2^n)=((UInt8.ofNat (a.toNat*2^n)).toNat:Int):=by
  rw[UInt8.toNat_ofNat',jm,nN,Int.natCast_mul,Int.natCast_pow];rfl
 rw[←e]
 generalize (a.toNat:Int)=A
 unfold ar
 simp only[oG,eqGuard_shl,po,eF,binOp_shl,shift_shl_u8 _ _ _ (ka n) Om,ir]
end
theorem mo{P:Program}{T:TypeId}{x y:Operand}{w:World}{a b:Nat}(h:b≤a)(ha:a≤9223372036854775807):(ar .sub T x y (.int .i64 (a:Int)) (.int .i64 (b:Int))).run P w= .ok (.int .i64 ((a-b:Nat):Int)) w:=by
 rw[show((a-b:Nat):Int)=(a:Int)-(b:Int) by omega]
 exact rx Om Om
section
variable {A R R' C cs cs':List Value} {a i:Nat} {v:Value}
theorem K4(e:cs=A++(R++C))(hA:A.length=a)(h:R.toArray[i]? =some v):cs.toArray[a+i*1]? =some v:=by
 rw[List.getElem?_toArray] at h⊢
 rw[e,dZ,List.getElem?_append_right Om,show a+i-A.length=i by omega,List.getElem?_append_left (List.getElem?_eq_some_iff.1 h).1]
 exact h
theorem K5(e:cs=A++(R++C))(hA:A.length=a)(hi:i<R.toArray.size):a+i*1<cs.toArray.size:=by
 rw[kP] at hi⊢
 rw[e,jw,jw]
 omega
theorem K6(e:cs=A++(R++C))(e':cs'=A++(R'++C))(hA:A.length=a)(hi:i<R.toArray.size)(h:R.toArray.setIfInBounds i v=R'.toArray):cs.toArray.setIfInBounds (a+i*1) v=cs'.toArray:=by
 rw[kP] at hi
 rw[List.setIfInBounds_toArray] at h⊢
 have h1:R.set i v=R':=ALca Array.toList h
 rw[e,e',dZ,List.set_append_right _ _ Om,show a+i-A.length=i by omega,List.set_append_left _ _ hi,h1]
end
theorem kL{n:Nat}{xs:List UInt8}:(rB n xs).length=n:=(o6 (k:=1) λ_=>rfl).trans (dZ n)
theorem K7{P:Program}{T:TypeId}{w:World}{K:IntKind}{g off k s N:Nat}(hT:(P.underlying T,P.arrayLen T,jo P (P.elem T))=(some (.array N (P.elem T)),N,some s))(hk:k<N):(Instr.indexAt T (.pointer (some ⟨g,off,none⟩)) (.int K (k:Int))).run P w= .ok (.pointer (some ⟨g,off+k*s,none⟩)) w:=by
 have h2:P.arrayLen T=N:=ALca (·.2.1) hT
 rw[run_indexAt_array w T _ K (k:Int) (by rw[h2];exact ALca (·.1) hT),h2,ALifp Om,oi (ALca (·.2.2) hT),eF,ir,add_lit]
section
variable {P:Program} {A R R' C cs':List Value} {a:Nat} {v:Value}
def iA(T:TypeId)(K:IntKind)(g off N s k:Nat)(hk:k<N:=by omega)(hT:(P.underlying T,P.arrayLen T,jo P (P.elem T))=(some (.array N (P.elem T)),N,some s):=by kernel_rfl):cS P:= .t (tv (Instr.indexAt T (.pointer (some ⟨g,off,none⟩)) (.int K (k:Int))) λ_=>K7 hT hk)
def rM(p g i:Nat)(t:TypeId)(cs:List Value)(e:cs=A++(R++C))(hA:A.length=a)(h:R.toArray[i]? =some v):cS P:= .m (lt p g (a+i*1) cs.toArray t (K4 e hA h))
def wM(p g i:Nat)(t:TypeId)(v:Value)(cs cs':List Value)(e:cs=A++(R++C))(e':cs'=A++(R'++C))(hA:A.length=a)(hi:i<R.toArray.size)(h:R.toArray.setIfInBounds i v=R'.toArray):cS P:= .m (sw p g (a+i*1) t v cs.toArray cs'.toArray (K6 e e' hA hi h) (K5 e hA hi))
def rD(p g i:Nat)(t:TypeId)(R:List Value)(h:R.toArray[i]? =some v):cS P:= .m (lt p g (0+i*1) R.toArray t (by rw[jh,dZ];exact h))
def wD(p g i:Nat)(t:TypeId)(v:Value)(R R':List Value)(hi:i<R.toArray.size)(h:R.toArray.setIfInBounds i v=R'.toArray):cS P:= .m (sw p g (0+i*1) t v R.toArray R'.toArray (by rw[jh,dZ];exact h) (by rw[jh,dZ];exact hi))
end
def aS{P:Program}(T:TypeId)(g N s:Nat)(h:0<N:=by decide)(hT:(P.underlying T,P.arrayLen T,jo P (P.elem T))=(some (.array N (P.elem T)),N,some s):=by kernel_rfl):cS P:= .t (tv (Instr.sliceAt T (.pointer (some ⟨g,0,none⟩)) none none none) λ_=>Jp hT h)
def aL{P:Program}(T:TypeId)(g N s l:Nat)(h:l<N:=by omega)(hT:(P.underlying T,P.arrayLen T,jo P (P.elem T))=(some (.array N (P.elem T)),N,some s):=by kernel_rfl):cS P:= .t (tv (Instr.sliceAt T (.pointer (some ⟨g,0,none⟩)) (some (.int .i64 (l:Int))) none none) λ_=>Jo hT h)
def aM{P:Program}(T:TypeId)(g N s l m:Nat)(h:l+m≤N:=by omega)(h1:l<N:=by omega)(hT:(P.underlying T,P.arrayLen T,jo P (P.elem T))=(some (.array N (P.elem T)),N,some s):=by kernel_rfl):cS P:= .t (tv (Instr.sliceAt T (.pointer (some ⟨g,0,none⟩)) (some (.int .i64 (l:Int))) (some (.int .i64 ((l+m:Nat):Int))) none) λ_=>JH hT h h1)
end Go.Proofs.YtbcodenfkijdnaaGreat.E
namespace Go.Proofs.YtbcodenfkijdnaaGreat.E
open Go Go.RowKit Go.Shelf
open List renaming replicate→dZ,mem_singleton→jg,not_mem_nil→jh,mem_cons→jm,replicate_zero→jw,flatten_nil→kP,append_nil→na
open Option renaming map_some→eF
open Go.Result renaming andThen_ok→ir
open Int renaming toNat_natCast→ka
open Nat renaming min_eq_left→nN,lt_or_ge→po
open Go.Sem renaming run_bind→n7,run_pure→oG
section
variable {α:Type} {P:Program} {en:α→List Value} {z:List Value} {T:TypeId} {v:Value} {xs:List α} {bs:aw}
theorem aK.take{k:Nat}(hk: ∀y,(en y).length=k)(h:aK en v xs bs){m:Nat}(hm:m≤xs.length):aK en (im v 0 m k) (xs.take m) bs:=by
 obtain⟨h1,a,r,rfl⟩:=h
 have hlen:(xs.take m).length=m:=by rw[List.length_take];omega
 have hv: ∃a',im (.slice a xs.length (xs.length+r)) 0 m k= .slice a' m (xs.length+r)∧(∀g off,a=some ⟨g,off,none⟩→a'=some ⟨g,off,none⟩):=by
  simp only[im,sliced,Nat.sub_zero,Nat.zero_mul]
  refine⟨_,rfl,λg off he=>?_⟩
  subst he
  split
  ·rfl
  ·simp only[eF]
   unfold Addr.add
   split<;>simp_all
 obtain⟨a',e1,e2⟩:=hv
 rw[e1]
 refine⟨?_,a',xs.length-m+r,by rw[hlen];congr 1;omega⟩
 by_cases e:m=0
 ·subst e
  exact .inl ⟨List.take_zero,_,_,rfl⟩
 ·obtain⟨g,off,cs,t,fr,c,h2,h3,h4⟩:=h1.some (i:=0) Om
  injection h2 with g1 g2 g3
  refine .inr ⟨g,off,cs,t,fr,_,by rw[e2 _ _ g1,hlen],h3,?_⟩
  have h5:aj en xs=aj en (xs.take m)++aj en (xs.drop m):=by rw[←kH,List.take_append_drop]
  have h7:=ALca (λy=>y.take (aj en (xs.take m)).length) h4
  rw[List.take_take,h5,List.length_append,nN (Nat.le_add_right _ _),List.take_left] at h7
  exact h7
def yc(P:Program)(p:Nat)(x:az)(v:Value)(m s:Nat)(o:Oper)(ρ:Operand→Value)(_:cx):MD:=match o.op with
 | .slice T a none (some b) none=>⟨[(p,x)],λ_=>[],[sE (ρ a) v,sE (ρ b) (.int .i64 (m:Int)),sE (P.underlying T,jo P (P.elem T)) (some (.slice (P.elem T)),some s)]⟩
 | _=>MD.bad
theorem K8(p:Nat)(x:az)(m s:Nat)(h: ∀bs,x.sat bs→aK en v xs bs)(hm:m≤xs.length):MD.ok P (λ_=>im v 0 m s) (yc P p x v m s) []:=by
 intro o ρ C he w c hH
 unfold yc at he hH⊢
 split at he
 ·rename_i T' a b hop
  simp only[hop] at hH⊢
  simp only[jm,jh,or_false,forall_eq_or_imp,forall_eq,sE] at he
  obtain⟨ha,hb,hT⟩:=he
  obtain⟨h1,h2⟩:=hH.ent
  obtain⟨a0,r,rfl⟩:=(h _ h1).2
  have hu:P.underlying T'=some (.slice (P.elem T')):=ALca (·.1) hT
  have hr:(Instr.sliceAt T' (.slice a0 xs.length (xs.length+r)) none (some (.int .i64 (m:Int))) none).run P w= .ok (sliced a0 0 m (xs.length+r) s) w:=by
   rw[run_sliceAt_slice (h:=hu),run_slice_h (ht:=hu) (kh:= .i64) (h:=(m:Int)) (h0:=by omega) (h2:=by omega),oi (ALca (·.2) hT)]
   simp only[ir,ka]
  refine⟨ab.zero,λ_=>[],w,.inl ?_,λx h=>by simp at h,by simpa using bc.refl w⟩
  unfold execOp
  simp only[hop,ha,eF,Option.map_none,hb,n7,hr,ir,oG,im]
 ·exact(bG he).elim
def CM(p:Nat)(x:az)(m s:Nat)(h: ∀bs,x.sat bs→aK en v xs bs)(hm:m≤xs.length):MH P (λ_=>im v 0 m s):=⟨[],yc P p x v m s,K8 p x m s h hm⟩
end
theorem CN{z:List Value}: ∀{n i:Nat},i<n*z.length→((dZ n z).flatten)[i]? =z[i%z.length]?
 | 0,i,h=>by omega
 | n+1,i,h=>by
  rw[List.replicate_succ,List.flatten_cons]
  rcases po i z.length with hi | hi
  ·rw[List.getElem?_append_left hi,Nat.mod_eq_of_lt hi]
  ·rw[List.getElem?_append_right hi,CN (n:=n) (by rw[Nat.succ_mul] at h;omega),Nat.mod_eq_sub_mod hi]
theorem K9{z:List Value}(n:Nat):madeCells z.toArray (n*z.length)=((dZ n z).flatten).toArray:=by
 apply Array.ext'
 apply List.ext_getElem?
 intro i
 rw[Array.getElem?_toList]
 unfold madeCells
 rw[Array.getElem?_map]
 rcases po i (n*z.length) with hi | hi
 ·rw[Array.getElem?_range,ALifp hi,CN hi,eF]
  have hz:0<z.length:=Nat.pos_of_ne_zero λe=>by rw[e,Nat.mul_zero] at hi;omega
  have h1:i%z.length<z.length:=Nat.mod_lt _ hz
  rw[List.getElem?_eq_getElem h1]
  simp [h1]
 ·rw[Array.getElem?_range,ALifn Om,List.getElem?_eq_none (by simp;exact hi)]
  rfl
section
variable {α:Type} {P:Program}
def yd(P:Program)(en:α→List Value)(z:List Value)(te:TypeId)(d:α)(T:TypeId)(p n:Nat)(o:Oper)(ρ:Operand→Value)(_:cx):MD:=
 ⟨[],λE=>[(p,.p (ap en z te (.slice (some ⟨E.abd 0,0,none⟩) n n) (dZ n d)))],[sE (λw=>(execOp ρ o).run P w) (λw=>(vS (Instr.makeSlice T (.int .i64 (n:Int)) (.int .i64 (n:Int)))).run P w)]⟩
theorem Lb(K:Kd P α)(p n:Nat)(hd:K.en K.d=K.z)(hn:n≤1000000):MD.ok P (λE=> .slice (some ⟨E.abd 0,0,none⟩) n n) (yd P K.en K.z K.T K.d K.TS p n) []:=by
 intro o ρ C he w c hH
 simp only[yd,jg,forall_eq,sE] at he hH⊢
 obtain⟨ht,⟨i,zv,hi,hz,hs,hzc,hby⟩,h0⟩:=K.hT
 have hr:=run_make (P:=P) K.TS K.T i zv ht hi hz .i64 .i64 (n:Int) (n:Int) Om (Int.le_refl _) (by have:=Nat.mul_le_mul hby hn;omega) Om (w:=w)
 rw[ka,hs,show zv.cells=K.z.toArray by rw[←hzc],K9] at hr
 have he:=congrFun he w
 have hf:aj K.en (dZ n K.d)=(dZ n K.z).flatten:=by unfold aj;rw[List.flatMap_replicate,hd]
 refine⟨ab.of w.heap.size,λ_=>[(w.heap.size,.cells ((dZ n K.z).flatten).toArray K.T (0,0))],_,.inl (he.trans (mb hr)),?_,by simpa using bc.alloc w (.cells ((dZ n K.z).flatten).toArray K.T (0,0))⟩
 refine .inr ⟨w.heap.size,0,by rw[List.length_replicate];rfl,?_⟩
 rw[hf]
 unfold bH
 rw[jw,kP,na]
def su(K:Kd P α)(p n:Nat)(hn:n≤1000000:=by omega)(hd:K.en K.d=K.z:=by rfl):cS P:= .m ⟨[],yd P K.en K.z K.T K.d K.TS p n,Lb K p n hd hn⟩
end
theorem aK.cells{α:Type}{en:α→List Value}{v:Value}{xs:List α}{bs:aw}(h:aK en v xs bs):v.cells=#[v]:=by
 obtain⟨a,r,rfl⟩:=h.2;rfl
def ye(P:Program)(p q:Nat)(x:az)(v:Value)(o:Oper)(ρ:Operand→Value)(_:cx):MD:=match o.op with
 | .box T a=>⟨[(q,x)],λE=>[(p,ob (E.abd 0) #[v] T)],[sE (ρ a) v]⟩
 | _=>MD.bad
theorem Lc{P:Program}(p q:Nat)(x:az)(v:Value)(hv: ∀bs,x.sat bs→v.cells=#[v]):MD.ok P (λE=> .pointer (some ⟨E.abd 0,0,none⟩)) (ye P p q x v) []:=by
 intro o ρ C he w c hH
 unfold ye at he hH⊢
 split at he
 ·rename_i T a hop
  simp only[hop] at hH⊢
  simp only[jm,jh,or_false,forall_eq,sE] at he
  have h2:x.sat (c q):=hH.sat (q,x) (by simp)
  have h3:=hv _ h2
  refine⟨ab.of w.heap.size,λ_=>[(w.heap.size,.cells #[v] T (0,0))],_,.inl ?_,λy h=>?_,by simpa using bc.alloc w (.cells #[v] T)⟩
  ·unfold execOp
   simp only[hop,he,n7,show(Instr.box T v).run P w= .ok (.pointer (some ⟨w.heap.size,0,none⟩)) (w.alloc (.cells v.cells T)) from rfl,h3,ir,oG]
   rfl
  ·rw[List.mem_singleton.1 h]
   rfl
 ·exact(bG he).elim
def CO{P:Program}(p q:Nat)(x:az)(v:Value)(hv: ∀bs,x.sat bs→v.cells=#[v]):cS P:= .m ⟨[],ye P p q x v,Lc p q x v hv⟩
def yf{α:Type}(P:Program)(K:Kd P α)(p n:Nat)(ys:List α)(o:Oper)(ρ:Operand→Value)(_:cx):MD:=
 ⟨[],λE=>[(p,.p (ap K.en K.z K.T (.slice (some ⟨E.abd 0,0,none⟩) n n) ys))],[sE (λw=>(execOp ρ o).run P w) (λw=> .ok (.value (.slice (some ⟨w.heap.size,0,none⟩) n n)) (w.alloc (.cells (aj K.en ys).toArray K.T))),sE ys.length n]⟩
theorem Ld{α:Type}{P:Program}(K:Kd P α)(p n:Nat)(ys:List α):MD.ok P (λE=> .slice (some ⟨E.abd 0,0,none⟩) n n) (yf P K p n ys) []:=by
 intro o ρ C he w c hH
 simp only[yf,jm,jh,or_false,forall_eq_or_imp,forall_eq,sE] at he hH⊢
 obtain⟨he,rfl⟩:=he
 refine⟨ab.of w.heap.size,λ_=>[(w.heap.size,.cells (aj K.en ys).toArray K.T (0,0))],_,.inl (congrFun he w),?_,by simpa using bc.alloc w (.cells (aj K.en ys).toArray K.T (0,0))⟩
 refine .inr ⟨w.heap.size,0,rfl,?_⟩
 unfold bH
 rw[jw,kP,na]
def ip{α:Type}{P:Program}(K:Kd P α)(p n:Nat)(ys:List α):cS P:= .m ⟨[],yf P K p n ys,Ld K p n ys⟩
def yg(P:Program)(q:Nat)(x:az)(s:Sem Value)(o:Oper)(ρ:Operand→Value)(_:cx):MD:=⟨[(q,x)],λ_=>[],[sE (λw=>(execOp ρ o).run P w) (λw=>(vS s).run P w)]⟩
theorem Lf{P:Program}{v:Value}(q:Nat)(x:az)(s:Sem Value)(h: ∀bs,x.sat bs→∀w,s.run P w= .ok v w):MD.ok P (λ_=>v) (yg P q x s) []:=by
 intro o ρ C he w c hH
 simp only[yg,jg,forall_eq,sE] at he hH⊢
 have h2:x.sat (c q):=hH.sat (q,x) (by simp)
 exact⟨ab.zero,λ_=>[],w,.inl ((congrFun he w).trans (mb (h _ h2 w))),λy h=>by simp at h,by simpa using bc.refl w⟩
def Lh{P:Program}{v:Value}(q:Nat)(x:az)(s:Sem Value)(h: ∀bs,x.sat bs→∀w,s.run P w= .ok v w):cS P:= .m ⟨[],yg P q x s,Lf q x s h⟩
theorem Li{P:Program}(w:World)(T U TY elem:TypeId)(A:Addr)(dl dc:Nat)(a:Option Addr)(c:Nat)(hu:P.underlying T=some (.slice elem)){i:TypeInfo}(hq:P.info? elem=some i):
  (Builtin.copy_ #[T,U] TY #[.slice (some A) dl dc,.slice a 0 c]).run P w= .ok (goInt 0) w:=by
 cases a<;>simp [Builtin.copy_,run_underlying hu,Builtin.lenOf,Builtin.firstCells,sizeOf,typeInfo,hq,storeCells,loadCells,loadCellsFrom]
theorem bc.same{w:World}{g:Nat}{o:Obj}(h:w.heap[g]? =some o):bc [g] [(g,o)] w w:=bc.put rfl rfl rfl rfl h (λ_ _=>rfl)
section
variable {α:Type} {P:Program}
def yh(P:Program)(p g off dl dc:Nat)(cs cs':Array Value)(t T U TY:TypeId)(q:Nat)(x:az)(u:Value)(o:Oper)(ρ:Operand→Value)(_:cx):MD:=⟨[(p,ob g cs t),(q,x)],λ_=>[(p,ob g cs' t)],[sE (λw=>(execOp ρ o).run P w) (λw=>(Jk T U TY (.slice (some ⟨g,off,none⟩) dl dc) u).run P w)]⟩
theorem Lj(K:Kd P α)(hk:K.k=1)(p g off dl dc:Nat)(cs cs':Array Value)(t U TY:TypeId)(q:Nat)(x:az)(u:Value)(ys:List α)(hx: ∀bs,x.sat bs→SrE K.en u ys bs)(hd:ys.length≤dl)(hf:off+ys.length≤cs.size)(hc:(cs.toList.take off++aj K.en ys++cs.toList.drop (off+(aj K.en ys).length)).toArray=cs'):
  MD.ok P (λ_=> .int .i64 (ys.length:Int)) (yh P p g off dl dc cs cs' t K.TS U TY q x u) [p]:=by
 intro o ρ C he w c hH
 simp only[yh,jg,forall_eq,sE] at he hH⊢
 have hh:=hH.has
 obtain⟨hH1,hs⟩:=hH.two
 obtain⟨hcp,hb⟩:=hH1.one
 obtain⟨ht,⟨i,zv,hi,hz,hsz,hzc,hby⟩,h0⟩:=K.hT
 have hl:(aj K.en ys).length=ys.length:=by rw[fY (n:=ys.length) (k:=1) (λy=>(K.hk y).trans hk) rfl,Nat.mul_one]
 rcases hx _ hs with⟨rfl,a,c2,rfl⟩ | ⟨g2,off2,cs2,t2,fr,c2,rfl,hm,hrd⟩
 ·have e:cs'=cs:=by
   rw[←hc]
   apply Array.ext'
   simp [aj]
  subst e
  refine⟨ab.zero,λ_=>[(g,.cells cs' t (0,0))],w,.inl ((congrFun he w).trans (mb (Li w K.TS U TY K.T ⟨g,off,none⟩ dl dc a c2 ht hi))),rfl,by simpa [hcp,bN] using bc.same hb⟩
 ·have hb2:w.heap[g2]? =some (.cells cs2 t2 fr):=hh.obj _ (List.mem_flatMap.2 ⟨(q,x),by simp,hm⟩)
  have hr:=run_copy_row (P:=P) w K.TS U TY K.T g off dl dc ⟨g2,off2,none⟩ ys.length c2 cs t (aj K.en ys) ht (by rw[hi,eF,hsz,←K.hz,hk]) hb (by rw[hl];exact(nN hd).symm) (o5 hb2 hrd) (by rw[hl];exact hf) (by
   intro v hv
   obtain⟨y,_,hy⟩:=List.mem_flatMap.1 hv
   exact K.one y v hy)
  rw[hc,hl] at hr
  exact⟨ab.zero,λ_=>[(g,.cells cs' t (0,0))],_,.inl ((congrFun he w).trans (mb hr)),rfl,by simpa [hcp,bN] using bc.setRow cs' hb⟩
def uW(K:Kd P α)(p g off dl dc:Nat)(cs cs':Array Value)(t U TY:TypeId)(q:Nat)(x:az)(u:Value)(ys:List α)(hx: ∀bs,x.sat bs→SrE K.en u ys bs)(hd:ys.length≤dl)(hf:off+ys.length≤cs.size)(hc:(cs.toList.take off++aj K.en ys++cs.toList.drop (off+(aj K.en ys).length)).toArray=cs')(hk:K.k=1:=by rfl):MH P (λ_=> .int .i64 (ys.length:Int)):=⟨[p],yh P p g off dl dc cs cs' t K.TS U TY q x u,Lj K hk p g off dl dc cs cs' t U TY q x u ys hx hd hf hc⟩
theorem pj{en:α→List Value}{d:α}{a m c:Nat}{ys:List α}{t:TypeId}(h1: ∀x,(en x).length=1)(h:ys.length=m):SrE en (.slice (some ⟨a,0,none⟩) m c) ys [(a,.cells ((cR en d m ys).toArray) t (0,0))]:=
 .inr ⟨a,0,_,t,(0,0),c,by rw[h],by simp,BT (d:=d) h⟩
end
end Go.Proofs.YtbcodenfkijdnaaGreat.E
namespace Go.Proofs.YtbcodenfkijdnaaGreat.E
open Go Go.RowKit Go.Shelf
open List renaming not_mem_nil→dZ,mem_cons→eF
open Go.Result renaming andThen_ok→ir
open Go.Sem renaming run_bind→jg,run_pure→jh
open Nat renaming add_zero→jm
section
variable {α:Type} {P:Program} {en:α→List Value} {v:Value} {xs:List α}
def yi(P:Program)(p:Nat)(x:az)(v:Value)(n:Nat)(o:Oper)(ρ:Operand→Value)(_:cx):MD:=match o.op with
 | .sliceToArrayPointer T a=>⟨[(p,x)],λ_=>[],[sE (ρ a) v,sE (P.underlying T) (some (.array n (P.elem T)))]⟩
 | _=>MD.bad
theorem Ll(p:Nat)(x:az)(n:Nat)(h: ∀bs,x.sat bs→SrE en v xs bs)(h0:0<n)(hn:n≤xs.length):MD.ok P (λ_=>fp v 0) (yi P p x v n) []:=by
 intro o ρ C he w c hH
 unfold yi at he hH⊢
 split at he
 ·rename_i T a hop
  simp only[hop] at hH⊢
  simp only[eF,dZ,or_false,forall_eq_or_imp,forall_eq,sE] at he
  obtain⟨ha,hT⟩:=he
  obtain⟨h1,h2⟩:=hH.ent
  obtain⟨g,off,cs,t,fr,c',rfl,_⟩:=(h _ h1).some (i:=0) Om
  refine⟨ab.zero,λ_=>[],w,.inl ?_,λx h=>by simp at h,by simpa using bc.refl w⟩
  unfold execOp
  simp only[hop,ha,jg,run_arrayAt w T (P.elem T) n _ _ _ hT Om,ir,jh,fp,add_lit,jm]
 ·exact(bG he).elim
def CP(p:Nat)(x:az)(n:Nat)(h: ∀bs,x.sat bs→SrE en v xs bs)(h0:0<n)(hn:n≤xs.length):MH P (λ_=>fp v 0):=⟨[],yi P p x v n,Ll p x n h h0 hn⟩
theorem Lm(p:Nat)(x:az)(n:Nat)(l:List Value)(h: ∀bs,x.sat bs→SrE en v xs bs)(hl:aj en xs=l)(h0:0<xs.length)(hn:l.length=n):MD.ok P (λ_=> .agg l.toArray) (nq P p x v 0 n) []:=by
 intro o ρ C he w c hH
 unfold nq at he hH⊢
 split at he
 ·rename_i T' a hop
  simp only[hop] at hH⊢
  simp only[eF,dZ,or_false,forall_eq_or_imp,forall_eq,sE,sB] at he
  obtain⟨ha,hg,hs⟩:=he
  obtain⟨h1,h2⟩:=hH.ent
  obtain⟨g,of,cs,t,fr,c',rfl,hb,hN⟩:=(h _ h1).some h0
  refine⟨ab.zero,λ_=>[],w,.inl ?_,λx h=>by simp at h,by simpa using bc.refl w⟩
  unfold execOp
  simp only[fp,add_lit,jm] at ha
  rw[hl] at hN
  simp only[hop,ha,Instr.loadAt,Instr.sureAddr,jg,jh,ir,Ci (h2.obj _ hb) hN hg (by rw[hs,hn])]
 ·exact(bG he).elim
def CQ(p:Nat)(x:az)(n:Nat)(l:List Value)(h: ∀bs,x.sat bs→SrE en v xs bs)(hl:aj en xs=l)(h0:0<xs.length)(hn:l.length=n):MH P (λ_=> .agg l.toArray):=⟨[],nq P p x v 0 n,Lm p x n l h hl h0 hn⟩
theorem CR{d:α}{n:Nat}(hk: ∀x,(en x).length=1)(h:xs.length=n):(cR en d n xs).length=n:=by rw[lw h,fY hk h,Nat.mul_one]
end
section
variable {α:Type} {P:Program} {en:α→List Value} {z:List Value} {e:TypeId} {xs ys:List α}
theorem Ln{T' TY:TypeId}(hT:d9 P T' e z)(hlen: ∀y,(en y).length=z.length)(h1: ∀y,∀u∈en y,u.oneCell'=true){w:World}{g:Nat}{cs:Array Value}{t:TypeId}(hg:w.heap[g]? =some (.cells cs t (0,0)))
  (hcs:(cs.toList.drop 0).take (aj en xs).length=aj en xs) {A:Addr} {c:Nat} (hy:0<ys.length) (hnews: ∀j u,(aj en ys)[j]? =some u→w.cell? (A.add j)=some u) (hb:xs.length+ys.length≤1000000):
  ∃v' bs' w',(Builtin.append_ #[T',T'] TY #[.slice (some ⟨g,0,none⟩) xs.length xs.length,.slice (some A) ys.length c]).run P w= .ok v' w'∧ap en z e v' (xs++ys) bs'∧bc [] bs' w w':=by
 obtain⟨ht,⟨i,zv,hi,hz,hs,hzc,hby⟩,h0⟩:=hT
 have hzz:0<zv.cells.size:=by rw[←Array.length_toList,hzc];exact h0
 have hm:(aj en ys).length=ys.length*i.size:=by rw[hs];exact fY hlen rfl
 have hn:(aj en xs).length=xs.length*i.size:=by rw[hs];exact fY hlen rfl
 have hbb:(xs.length+ys.length)*i.bytes≤140737488355328:=Nat.le_trans (Nat.mul_le_mul hb hby) Dc
 have hold:=o5 (news:=aj en xs) hg (off:=0) hcs
 have h:=run_append_grow (P:=P) w T' TY e i zv ht hi hz ⟨g,0,none⟩ xs.length xs.length (aj en xs) hn hold A ys.length c (aj en ys) hm hnews Om Om (growslice_fits Om hbb)
 have hge:=grownCap_ge w (xs.length+ys.length) xs.length e
 have e1:(aj en xs).toArray++(aj en ys).toArray++Builtin.zeroCells zv.cells (grownCap w (xs.length+ys.length) xs.length e-(xs.length+ys.length))=bH (aj en (xs++ys)) z (grownCap w (xs.length+ys.length) xs.length e-(xs.length+ys.length)):=by
  apply Array.toList_inj.1
  unfold bH
  simp only[Array.toList_append,xA _ _ hzz,hzc,kH]
 rw[e1] at h
 refine⟨_,_,_,h,.inr ⟨w.heap.size,grownCap w (xs.length+ys.length) xs.length e-(xs.length+ys.length),by rw[List.length_append];congr 1;omega,rfl⟩,?_⟩
 have hal:=(Below.refl w.heap.size w.drew).alloc (Nat.le_refl _) (.cells (bH (aj en (xs++ys)) z (grownCap w (xs.length+ys.length) xs.length e-(xs.length+ys.length))) e)
 exact⟨hal.os,hal.tape,hal.output,hal.size,λx hx=>by obtain rfl:=List.mem_singleton.1 hx;exact World.alloc_heap_new w.drew _,λx hx=>by obtain rfl:=List.mem_singleton.1 hx;exact .inr (Nat.le_refl _),List.pairwise_singleton _ _,λb hb _=>hal.block b hb⟩
def yj(P:Program)(p p0 q:Nat)(T':TypeId)(g n:Nat)(cs:Array Value)(t:TypeId)(u:Value)(xq:az)(y:ab→az)(o:Oper)(ρ:Operand→Value)(C:cx):MD:=
 ⟨[(p0,ob g cs t),(q,xq)],λE=>[(p,y E)],[sE (λw=>(execOp ρ o).run P w) (λw=>(rS T' o.type (.slice (some ⟨g,0,none⟩) n n) u).run P w)]⟩
theorem Lp{T':TypeId}(p p0 q g n:Nat)(cs:Array Value)(t:TypeId)(hT:d9 P T' e z)(u:Value)(xq:az)(hx: ∀bs,xq.sat bs→SrE en u ys bs)(hlen: ∀y,(en y).length=z.length)(h1: ∀y,∀u∈en y,u.oneCell'=true)(hn:xs.length=n)(hcs:(cs.toList.drop 0).take (aj en xs).length=aj en xs)(hy:0<ys.length)(hb:xs.length+ys.length≤1000000):
  MD.ok P (λE=>E.val 0) (yj P p p0 q T' g n cs t u xq (λE=> .p (ap en z e (E.val 0) (xs++ys)))) []:=by
 subst hn
 intro o ρ C he w c hH
 simp only[yj,eF,dZ,or_false,forall_eq,sE] at he hH⊢
 have hp:c p0=[(g,.cells cs t (0,0))]:=hH.sat (p0,ob g cs t) (by simp)
 have hq:SrE en u ys (c q):=hx _ (hH.sat (q,xq) (by simp))
 have hh:=hH.has
 simp only[List.flatMap_cons,List.flatMap_nil,List.append_nil] at hh
 have hg:w.heap[g]? =some (.cells cs t (0,0)):=hh.obj (g,.cells cs t (0,0)) (by rw[hp];simp)
 have hhq:Has (c q) w:=⟨λx hx=>hh.obj x (List.mem_append_right _ hx),(List.pairwise_append.1 hh.nd).2.1⟩
 rcases hq with⟨rfl,_⟩ | ⟨g2,off,cs2,t2,fr,c2,rfl,hbs,hN⟩
 ·simp at hy
 ·obtain⟨v',bs',w',hr,hs,hst⟩:=Ln (TY:=o.type) (c:=c2) hT hlen h1 hg hcs hy (o5 (hhq.obj _ hbs) hN) hb
  exact⟨ab.ov v',λ_=>bs',w',.inl ((congrFun he w).trans (ux hr)),hs,by simpa using hst⟩
def Lq{T':TypeId}(p p0 q g n:Nat)(cs:Array Value)(t:TypeId)(hT:d9 P T' e z)(u:Value)(xq:az)(hx: ∀bs,xq.sat bs→SrE en u ys bs)(h1: ∀y,∀u∈en y,u.oneCell'=true)(hlen: ∀y,(en y).length=z.length)(hn:xs.length=n)(hcs:(cs.toList.drop 0).take (aj en xs).length=aj en xs)(hy:0<ys.length)(hb:xs.length+ys.length≤1000000):MH P (λE=>E.val 0):=
 ⟨[],yj P p p0 q T' g n cs t u xq (λE=> .p (ap en z e (E.val 0) (xs++ys))),Lp p p0 q g n cs t hT u xq hx hlen h1 hn hcs hy hb⟩
def Lr(K:Kd P α)(p p0 q g n:Nat)(cs:Array Value)(t:TypeId)(xs ys:List α)(u:Value)(xq:az)(hx: ∀bs,xq.sat bs→SrE K.en u ys bs)(hn:xs.length=n)(hcs:(cs.toList.drop 0).take (aj K.en xs).length=aj K.en xs)(hy:0<ys.length)(hb:xs.length+ys.length≤1000000):MH P (λE=>E.val 0):=Lq (xs:=xs) p p0 q g n cs t K.hT u xq hx K.one K.lz hn hcs hy hb
end
end Go.Proofs.YtbcodenfkijdnaaGreat.E
namespace Go.Proofs.YtbcodenfkijdnaaGreat.E
open Go Go.RowKit Go.Shelf
open Nat renaming div_div_eq_div_mul→dZ,add_zero→ir,pow_zero→jw,pow_succ→ka
open Go.Proofs.Tryz renaming prog→eF
open List renaming length_append→jg,append_assoc→jh,append_nil→jm
def bw(x:Nat):Nat→Nat
 | 0=>x
 | k+1=>bw x k&&& (bw x k-1)
theorem sx(x:Nat): ∀k,bw x k≤x
 | 0=>Nat.le_refl _
 | k+1=>Nat.le_trans Nat.and_le_left (sx x k)
theorem qn{x:Nat}(hx:x<18446744073709551616){k:Nat}(h:pc (bw x k)+k=pc x)(h0:((bw x k:Nat):Int)≠0):pc (bw x (k+1))+(k+1)=pc x∧k<pc x:=by
 have h1:=sx x k
 have h2:=A5 (bw x k) Om Om
 show pc (bw x k&&& (bw x k-1))+(k+1)=pc x∧_
 omega
theorem yl{x k:Nat}(h:pc (bw x k)+k=pc x)(h0:((bw x k:Nat):Int)=0):k=pc x:=by
 have h1:bw x k=0:=by omega
 rw[h1,A3] at h
 omega
attribute [local irreducible] pc
theorem sy(x:Nat)(hx:x<18446744073709551616):aa eF 171 #[u6 (x:Int)] [] [] N0 (λ_=>i6 (((pc x):Nat):Int)):=by
 refine fG Tryz.func171 λw cs=>?_
 refine r0 [] [(2,i6 0)] [] (r0 [] [(3,i6 0)] [] ?_)
 refine lq (λk=>k≤pc x∧(pc (bw x k)+k=pc x)) (λk=>[(0,u6 ((bw x k:Nat):Int)),(3,iN k)]) (λ_ L=>L) (λk=>(pc x)-k) 0 ⟨by omega,(ir (pc x))⟩ Kr Kr (λk ⟨hk3,hw⟩=>?_)
 have hcl:=sx x k
 have hpl:=w5 x
 refine r0 [] [(5,.bool (((bw x k:Nat):Int) != 0))] [] ?_
 refine nA ((bw x k:Nat):Int) 0 (λh5 dh5=>?_) λh5 dh5=>?_
 ·refine r0 [(2,.t (tv (ar .sub 44 (.tmp 7) (.const (u6 1)) (u6 ((bw x k:Nat):Int)) (u6 1)) (λ_=>K1 (b:=1) Om Om))),(3,.t (tv (ar .and 44 (.tmp 6) (.tmp 8) (u6 ((bw x k:Nat):Int)) (u6 ((bw x k-1:Nat):Int))) (λ_=>CI (a:=bw x k) (b:=bw x k-1) Om Om)))] [(0,u6 ((bw x (k+1):Nat):Int))] [0] ?_
  refine r0 [(1,ad k 1)] [(3,i6 ((k+1:Nat):Int))] [3] ?_
  have hkn:=qn Om hw As
  exact le (k+1) ⟨by omega,(qn Om hw As).1⟩ Om Kr [] Kr
 have hke:=yl hw As
 obtain rfl:k=pc x:=by omega
 refine lx ?_
 exact r0 [] [(2,i6 (((pc x):Nat):Int))] [2] (lf ab.zero [] [] [])
theorem Ls(x:Nat)(hx:x<4294967296):aa eF 230 #[.int .u32 (x:Int)] [] [] N0 (λ_=>i6 (((pc x):Nat):Int)):=by
 refine fG Tryz.func230 λw cs=>?_
 refine r0 [] [(2,i6 0)] [] (r0 [] [(3,i6 0)] [] ?_)
 refine lq (λk=>k≤pc x∧(pc (bw x k)+k=pc x)) (λk=>[(0,.int .u32 ((bw x k:Nat):Int)),(3,iN k)]) (λ_ L=>L) (λk=>(pc x)-k) 0 ⟨by omega,(ir (pc x))⟩ Kr Kr (λk ⟨hk3,hw⟩=>?_)
 have hcl:=sx x k
 have hpl:=w5 x
 refine r0 [] [(5,.bool (((bw x k:Nat):Int) != 0))] [] ?_
 refine nA ((bw x k:Nat):Int) 0 (λh5 dh5=>?_) λh5 dh5=>?_
 ·refine r0 [(2,.t (tv (ar .sub 329 (.tmp 7) (.const (.int .u32 1)) (.int .u32 ((bw x k:Nat):Int)) (.int .u32 1)) (λ_=>K2 (b:=1) Om Om))),(3,.t (tv (ar .and 329 (.tmp 6) (.tmp 8) (.int .u32 ((bw x k:Nat):Int)) (.int .u32 ((bw x k-1:Nat):Int))) (λ_=>KZ (a:=bw x k) (b:=bw x k-1) Om Om)))] [(0,.int .u32 ((bw x (k+1):Nat):Int))] [0] ?_
  refine r0 [(1,ad k 1)] [(3,i6 ((k+1:Nat):Int))] [3] ?_
  have hkn:=qn Om hw As
  exact le (k+1) ⟨by omega,(qn Om hw As).1⟩ Om Kr [] Kr
 have hke:=yl hw As
 obtain rfl:k=pc x:=by omega
 refine lx ?_
 exact r0 [] [(2,i6 (((pc x):Nat):Int))] [2] (lf ab.zero [] [] [])
theorem CS(x:Nat)(hx:x<256):aa eF 251 #[u1 (x:Int)] [] [] N0 (λ_=>i6 (((pc x):Nat):Int)):=by
 refine fG Tryz.func251 λw cs=>?_
 refine r0 [] [(2,i6 0)] [] (r0 [] [(3,i6 0)] [] ?_)
 refine lq (λk=>k≤pc x∧(pc (bw x k)+k=pc x)) (λk=>[(0,u1 ((bw x k:Nat):Int)),(3,iN k)]) (λ_ L=>L) (λk=>(pc x)-k) 0 ⟨by omega,(ir (pc x))⟩ Kr Kr (λk ⟨hk3,hw⟩=>?_)
 have hcl:=sx x k
 have hpl:=w5 x
 refine r0 [] [(5,.bool (((bw x k:Nat):Int) != 0))] [] ?_
 refine nA ((bw x k:Nat):Int) 0 (λh5 dh5=>?_) λh5 dh5=>?_
 ·refine r0 [(2,.t (tv (ar .sub 5 (.tmp 7) (.const (u1 1)) (u1 ((bw x k:Nat):Int)) (u1 1)) (λ_=>K3 (b:=1) Om Om))),(3,.t (tv (ar .and 5 (.tmp 6) (.tmp 8) (u1 ((bw x k:Nat):Int)) (u1 ((bw x k-1:Nat):Int))) (λ_=>K0 (a:=bw x k) (b:=bw x k-1) Om Om)))] [(0,u1 ((bw x (k+1):Nat):Int))] [0] ?_
  refine r0 [(1,ad k 1)] [(3,i6 ((k+1:Nat):Int))] [3] ?_
  have hkn:=qn Om hw As
  exact le (k+1) ⟨by omega,(qn Om hw As).1⟩ Om Kr [] Kr
 have hke:=yl hw As
 obtain rfl:k=pc x:=by omega
 refine lx ?_
 exact r0 [] [(2,i6 (((pc x):Nat):Int))] [2] (lf ab.zero [] [] [])
theorem CT:aa eF 215 #[] [] [] N0 (λ_=>i6 8):=by
 refine fG Tryz.func215 λw cs=>?_
 refine r0 [] [(0,i6 0)] [] (r0 [(1,.t (tv (Op.unary .xor (u1 0)) (λ_=>rfl))),(2,.c [] [] (CS 255 Om))] [(0,i6 (((pc 255):Nat):Int))] [0] ?_)
 exact am (i6 (((pc 255):Nat):Int)) ab.zero Kr [] [] []
theorem Lt(x:Nat)(hx:x<4294967296):aa eF 199 #[.int .u32 (x:Int)] [] [] N0 (λ_=>i6 ((pc x%2:Nat):Int)):=by
 refine fG Tryz.func199 λw cs=>?_
 exact r0 [] [(2,i6 0)] [] (r0 [(1,.c [] [] (Ls x Om)),(2,.t (tv (ar .and 3 (.tmp 4) (.const (i6 1)) (i6 (((pc x):Nat):Int)) (i6 1)) (λ_=>CK (a:=pc x))))] [(2,i6 ((pc x%2:Nat):Int))] [2] (lf ab.zero [] [] []))
def on(x k:Nat):Nat:=(eZ k 0 x).length
theorem qo: ∀(k i x:Nat),eZ (k+1) i x=eZ k i x++(bif x/2^k%2==1 then[i+k] else[])
 | 0,i,x=>by
  show(if x%2=1 then i::eZ 0 (i+1) (x/2) else eZ 0 (i+1) (x/2))=[]++_
  rw[jw,Nat.div_one]
  by_cases h:x%2=1
  ·rw[ALifp h,h];rfl
  ·rw[ALifn h,show(x%2==1)=false from beq_false_of_ne h];rfl
 | k+1,i,x=>by
  have e:=qo k (i+1) (x/2)
  rw[dZ,Nat.mul_comm,←ka,show i+1+k=i+(k+1) by omega] at e
  show(if x%2=1 then i::eZ (k+1) (i+1) (x/2) else eZ (k+1) (i+1) (x/2))=(if x%2=1 then i::eZ k (i+1) (x/2) else eZ k (i+1) (x/2))++_
  rw[e]
  by_cases h:x%2=1
  ·rw[ALifp h,ALifp h];rfl
  ·rw[ALifn h,ALifn h]
theorem CU(x k:Nat): ∀d,∃t,eZ (k+d) 0 x=eZ k 0 x++t
 | 0=>⟨[],(jm _).symm⟩
 | d+1=>by
  obtain⟨t,h⟩:=CU x k d
  exact⟨_,by rw[show k+(d+1)=k+d+1 from rfl,qo,h,jh]⟩
theorem Lu{x k:Nat}(h:(((x/2^k%2:Nat):Int)==1)=true):on x (k+1)=on x k+1:=by
 have h1:x/2^k%2=1:=by have:=eq_of_beq h;omega
 unfold on
 rw[qo,h1,jg]
 rfl
theorem Lv{x k:Nat}(h:(((x/2^k%2:Nat):Int)==1)=false):on x (k+1)=on x k:=by
 have h1:(x/2^k%2==1)=false:=by have:=ne_of_beq_false h;exact beq_false_of_ne Om
 unfold on
 rw[qo,h1,jg]
 rfl
theorem Lw{x k:Nat}(hk:k<64)(h:(((x/2^k%2:Nat):Int)==1)=true):(bk x)[on x k]? =some k:=by
 have h1:x/2^k%2=1:=by have:=eq_of_beq h;omega
 obtain⟨t,e⟩:=CU x (k+1) (64-(k+1))
 have e2:=qo k 0 x
 rw[h1] at e2
 rw[show k+1+(64-(k+1))=64 by omega,e2,jh] at e
 show(eZ 64 0 x)[(eZ k 0 x).length]? =_
 rw[e,List.getElem?_append_right (Nat.le_refl _),Nat.sub_self]
 show some (0+k)=_
 rw[Nat.zero_add]
theorem Lx{x k:Nat}(hk:k≤64)(h9:((x/2^k:Nat):Int)=0):on x k=(bk x).length:=by
 have h:x/2^k=0:=Int.ofNat.inj h9
 have h2: ∀d,eZ (k+d) 0 x=eZ k 0 x:=by
  intro d
  induction d with
  | zero=>rfl
  | succ d ih=>
   rw[show k+(d+1)=k+d+1 from rfl,qo,ih,Nat.pow_add,←dZ,h,Nat.zero_div]
   exact jm _
 have h3:=h2 (64-k)
 rw[show k+(64-k)=64 by omega] at h3
 exact ALca List.length h3.symm
theorem CV{x:Nat}(k:Nat):x/2^(k+1)=x/2^k/2^1:=by rw[ka,←dZ]
theorem ym{x k:Nat}(hx:x<18446744073709551616)(hk:k≤64)(h:((x/2^k:Nat):Int)≠0):k<64:=by
 refine Nat.lt_of_le_of_ne hk λe=>?_
 subst e
 exact h (by have:x/2^64=0:=Nat.div_eq_of_lt hx;omega)
theorem CW(g x:Nat)(hx:x<18446744073709551616):qe 5 eF 172 #[pt g 0] (λ(i:Nat)=>#[i6 ((i:Nat):Int)]) (bk x) (List.flatten []) [(g,.cells #[u6 (x:Int)] 44 (0,0))]:=by
 refine gG (KO:=[]) Tryz.func172 (λlY JY JX WI RI hJ hY hI=>?_)
 refine r0 [] [(3,i6 0)] [] ?_
 refine kk (λk=>k≤64) (λk=>[(3,iN k)]) (λk L=>L.set 0 (ob g #[u6 ((x/2^k:Nat):Int)] 44)) (λk=>64-k) (λk=>on x k) 0 Om hI Kr (by rw[jw,Nat.div_one];kernel_rfl) (λk R4 W5 hk2 hI3=>?_)
 have hdl:x/2^k<18446744073709551616:=Nat.lt_of_le_of_lt (Nat.div_le_self _ _) hx
 refine r0 [(0,.l 0)] [(5,.bool (((x/2^k:Nat):Int) != 0))] [] ?_
 refine nA ((x/2^k:Nat):Int) 0 (λh7 dh7=>?_) λh7 dh7=>?_
 ·cases h8:(((x/2^k%2:Nat):Int)==1)
  case true=>
   have dh8:=eq_of_beq h8
   refine iy hJ hY hI3 6 (λ_=>[(0,.l 0),(1,.t (tv (ar .and 44 (.tmp 8) (.const (u6 1)) (u6 ((x/2^k:Nat):Int)) (u6 1)) (λ_=>CJ hdl))),(2,.t (tk (show Value.bool (((x/2^k%2:Nat):Int)==1)= .bool true from ALca Value.bool h8)))]) (λ_=>[(11,.bool true),(12,.func (.yield lY) #[] #[]),(13,iN k)]) [] (λ_ L=>L) (λ_=>[ob g #[u6 ((x/2^k:Nat):Int)] 44]) [0] (Lw (ym hx Om As) As) (λq9 R10 W11 hI12=>?_)
   refine cF _ rfl (rs [(0,.l 0),(1,.t (tv (ar .shr 44 (.tmp 17) (.const (u6 1)) (u6 ((x/2^k:Nat):Int)) (u6 1)) (λ_=>uj 1 Dc))),(2,.s 0)] 0 (ob g #[u6 ((x/2^k/2^1:Nat):Int)] 44) (r0 [(1,ad k 1)] [(3,i6 ((k+1:Nat):Int))] [3] ?_))
   have hk64:=ym hx Om As
   exact jc (k+1) Om (by(rw[Lu As]);exact hI12) Om Kr [0] (by rw[CV (x:=x) k];kernel_rfl)
  have dh8:=ne_of_beq_false h8
  refine rF [(0,.l 0),(1,.t (tv (ar .and 44 (.tmp 8) (.const (u6 1)) (u6 ((x/2^k:Nat):Int)) (u6 1)) (λ_=>CJ hdl))),(2,.t (tk (show Value.bool (((x/2^k%2:Nat):Int)==1)= .bool false from ALca Value.bool h8))),(4,.d),(5,.d),(6,.d),(7,.d)] 16 (rs [(0,.l 0),(1,.t (tv (ar .shr 44 (.tmp 17) (.const (u6 1)) (u6 ((x/2^k:Nat):Int)) (u6 1)) (λ_=>uj 1 Dc))),(2,.s 0)] 0 (ob g #[u6 ((x/2^k/2^1:Nat):Int)] 44) (r0 [(1,ad k 1)] [(3,i6 ((k+1:Nat):Int))] [3] ?_))
  have hk64:=ym hx Om As
  exact jc (k+1) Om (by(rw[Lv As]);exact hI3) Om Kr [0] (by rw[CV (x:=x) k];kernel_rfl)
 refine km ?_
 exact lH hJ hI3 (by exact Lx Om As) [ob g #[u6 ((x/2^k:Nat):Int)] 44] [0]
theorem CX(x:Nat):aa eF 132 #[u6 (x:Int)] [] [] (λE=>[ob (E.abd 0) #[u6 (x:Int)] 44]) (λE=> .func (.func 172) #[] #[pt ((E.abd 0)) 0]):=by
 refine fG Tryz.func132 λw cs=>?_
 exact ra (λq1=>[(1,pt (B0 q1) 0),(2,.nilFunc)]) (λq1=>[ob (B0 q1) #[u6 (x:Int)] 44]) λq1=>r0 [] [(2,.func (.func 172) #[] #[pt (B0 q1) 0])] [2] (lf (.l [(q1 0).abd 0] [] []) [0] [] [])
end Go.Proofs.YtbcodenfkijdnaaGreat.E
namespace Go.Proofs.YtbcodenfkijdnaaGreat.E
open Go Go.RowKit Go.Shelf
open List renaming length_append→dZ,append_assoc→eF,flatten→jg
open Go.Proofs.Tryz renaming prog→ir
attribute [local irreducible] pc
def ch(k:Nat):Nat→List Nat
 | 0=>[]
 | j+1=>ch k j++(bif ((pc j:Nat):Int)==((k:Nat):Int) then[j] else[])
theorem CY{k j:Nat}(h:(((pc j:Nat):Int)==((k:Nat):Int))=true):(ch k (j+1)).length=(ch k j).length+1:=by
 show(ch k j++_).length=_
 rw[h,dZ];rfl
theorem CZ{k j:Nat}(h:(((pc j:Nat):Int)==((k:Nat):Int))=false):(ch k (j+1)).length=(ch k j).length:=by
 show(ch k j++_).length=_
 rw[h,dZ];rfl
theorem C0(k j:Nat): ∀d,∃t,ch k (j+d)=ch k j++t
 | 0=>⟨[],(List.append_nil _).symm⟩
 | d+1=>by
  obtain⟨t,h⟩:=C0 k j d
  exact⟨_,by show ch k (j+d)++_=_;rw[h,eF]⟩
theorem C1{k j n:Nat}(hj:j<n)(h:(((pc j:Nat):Int)==((k:Nat):Int))=true):(ch k n)[(ch k j).length]? =some j:=by
 obtain⟨t,e⟩:=C0 k (j+1) (n-(j+1))
 rw[show j+1+(n-(j+1))=n by omega,show ch k (j+1)=ch k j++[j] by show ch k j++_=_;rw[h];rfl,eF] at e
 rw[e,List.getElem?_append_right (Nat.le_refl _),Nat.sub_self]
 rfl
theorem C2{P:Program}{T:TypeId}{x y:Operand}{w:World}:(ar .shl T x y (.int .u64 1) (.int .u64 8)).run P w= .ok (.int .u64 256) w:=uk (a:=1) (yk:= .u64) 8 Dc Dc
theorem Ly(g b:Nat):fy 5 ir 214 #[pt g 0,pt b 0] (λ(i:Nat)=>#[u1 ((UInt8.ofNat i).toNat:Int)]) (ch 3 256) (jg [[(g,.cells #[i6 3] 3 (0,0))],[(b,.cells #[i6 8] 3 (0,0))]]):=by
 refine gi (KO:=[[(g,.cells #[i6 3] 3 (0,0))],[(b,.cells #[i6 8] 3 (0,0))]]) Tryz.func214 (λlY JY JX WI RI hJ hY hI=>?_)
 refine rF [(0,.l 0),(3,.l 0),(4,.l 1),(8,.l 1),(9,.c [] [] (CT))] 17 (r0 [(0,.l 1),(1,.t (tv (convert 3 201 (i6 8)) (λ_=>Zu Tryz.underlying3 Tryz.underlying201 (c:=8) Om))),(2,.t (tv (ar .shl 44 (.const (u6 1)) (.tmp 19) (u6 1) (u6 8)) (λ_=>C2)))] [(20,u6 256),(21,u6 0)] [] ?_)
 refine kk (λk=>k≤256) (λk=>[(21,u6 (k:Int))]) (λ_ L=>L) (λk=>256-k) (λk=>(ch 3 k).length) 0 Om hI Kr Kr (λk R5 W6 hk3 hI4=>?_)
 refine r0 [] [(22,.bool (decide ((k:Int)<256)))] [] ?_
 refine cj (k:Int) 256 (λh8 dh8=>?_) λh8 dh8=>?_
 ·refine r0 [] [(4,u6 (k:Int))] [] ?_
  cases h10:((((pc k):Nat):Int)==3)
  case true=>
   have dh10:=eq_of_beq h10
   refine iy hJ hY hI4 8 (λ_=>[(1,.c [] [] (sy k Om)),(2,.l 0),(3,.t (tk (show Value.bool ((((pc k):Nat):Int)==3)= .bool true from ALca Value.bool h10))),(7,.t (tv (convert 44 5 (u6 (k:Int))) (λ_=>um Tryz.underlying44 Tryz.underlying5)))]) (λ_=>[(28,.bool true),(29,.func (.yield lY) #[] #[]),(31,u1 ((UInt8.ofNat k).toNat:Int))]) [] (λ_ L=>L) N0 [0,1] (C1 Om As) (λq11 R12 W13 hI14=>?_)
   refine cF _ rfl (r0 [(0,.t (tb (a:=u6 (k:Int)) (b:=u6 1) λ_ _ _ _=>uw (a:=k) (b:=1) Om))] [(21,u6 ((k+1:Nat):Int))] [21] ?_)
   exact jc (k+1) Om (by(rw[CY As]);exact hI14) Om Kr [0,1] Kr
  have dh10:=ne_of_beq_false h10
  refine rF [(1,.c [] [] (sy k Om)),(2,.l 0),(3,.t (tk (show Value.bool ((((pc k):Nat):Int)==3)= .bool false from ALca Value.bool h10))),(5,.d),(6,.d),(7,.d),(8,.d),(9,.d)] 34 (r0 [(0,.t (tb (a:=u6 (k:Int)) (b:=u6 1) λ_ _ _ _=>uw (a:=k) (b:=1) Om))] [(21,u6 ((k+1:Nat):Int))] [21] ?_)
  exact jc (k+1) Om (by(rw[CZ As]);exact hI4) Om Kr [0,1] Kr
 obtain rfl:k=256:=by omega
 refine km ?_
 exact lH hJ hI4 bh [] [0,1]
theorem Lz(g b:Nat):fy 5 ir 214 #[pt g 0,pt b 0] (λ(i:Nat)=>#[u1 ((UInt8.ofNat i).toNat:Int)]) (ch 5 256) (jg [[(g,.cells #[i6 5] 3 (0,0))],[(b,.cells #[i6 8] 3 (0,0))]]):=by
 refine gi (KO:=[[(g,.cells #[i6 5] 3 (0,0))],[(b,.cells #[i6 8] 3 (0,0))]]) Tryz.func214 (λlY JY JX WI RI hJ hY hI=>?_)
 refine rF [(0,.l 0),(3,.l 0),(4,.l 1),(8,.l 1),(9,.c [] [] (CT))] 17 (r0 [(0,.l 1),(1,.t (tv (convert 3 201 (i6 8)) (λ_=>Zu Tryz.underlying3 Tryz.underlying201 (c:=8) Om))),(2,.t (tv (ar .shl 44 (.const (u6 1)) (.tmp 19) (u6 1) (u6 8)) (λ_=>C2)))] [(20,u6 256),(21,u6 0)] [] ?_)
 refine kk (λk=>k≤256) (λk=>[(21,u6 (k:Int))]) (λ_ L=>L) (λk=>256-k) (λk=>(ch 5 k).length) 0 Om hI Kr Kr (λk R5 W6 hk3 hI4=>?_)
 refine r0 [] [(22,.bool (decide ((k:Int)<256)))] [] ?_
 refine cj (k:Int) 256 (λh8 dh8=>?_) λh8 dh8=>?_
 ·refine r0 [] [(4,u6 (k:Int))] [] ?_
  cases h10:((((pc k):Nat):Int)==5)
  case true=>
   have dh10:=eq_of_beq h10
   refine iy hJ hY hI4 8 (λ_=>[(1,.c [] [] (sy k Om)),(2,.l 0),(3,.t (tk (show Value.bool ((((pc k):Nat):Int)==5)= .bool true from ALca Value.bool h10))),(7,.t (tv (convert 44 5 (u6 (k:Int))) (λ_=>um Tryz.underlying44 Tryz.underlying5)))]) (λ_=>[(28,.bool true),(29,.func (.yield lY) #[] #[]),(31,u1 ((UInt8.ofNat k).toNat:Int))]) [] (λ_ L=>L) N0 [0,1] (C1 Om As) (λq11 R12 W13 hI14=>?_)
   refine cF _ rfl (r0 [(0,.t (tb (a:=u6 (k:Int)) (b:=u6 1) λ_ _ _ _=>uw (a:=k) (b:=1) Om))] [(21,u6 ((k+1:Nat):Int))] [21] ?_)
   exact jc (k+1) Om (by(rw[CY As]);exact hI14) Om Kr [0,1] Kr
  have dh10:=ne_of_beq_false h10
  refine rF [(1,.c [] [] (sy k Om)),(2,.l 0),(3,.t (tk (show Value.bool ((((pc k):Nat):Int)==5)= .bool false from ALca Value.bool h10))),(5,.d),(6,.d),(7,.d),(8,.d),(9,.d)] 34 (r0 [(0,.t (tb (a:=u6 (k:Int)) (b:=u6 1) λ_ _ _ _=>uw (a:=k) (b:=1) Om))] [(21,u6 ((k+1:Nat):Int))] [21] ?_)
  exact jc (k+1) Om (by(rw[CZ As]);exact hI4) Om Kr [0,1] Kr
 obtain rfl:k=256:=by omega
 refine km ?_
 exact lH hJ hI4 bh [] [0,1]
theorem C3(n k:Int):aa ir 180 #[i6 n,i6 k] [] [] (λE=>[ob (E.abd 0) #[i6 k] 3,ob (E.abd 1) #[i6 n] 3]) (λE=> .func (.func 214) #[] #[pt ((E.abd 0)) 0,pt ((E.abd 1)) 0]):=by
 refine fG Tryz.func180 λw cs=>?_
 exact ra (λq1=>[(2,pt (B0 q1) 0),(3,pt (B1 q1) 0),(4,.nilFunc)]) (λq1=>[ob (B0 q1) #[i6 n] 3,ob (B1 q1) #[i6 k] 3]) λq1=>r0 [] [(4,.func (.func 214) #[] #[pt (B1 q1) 0,pt (B0 q1) 0])] [4] (lf (.l [(q1 1).abd 0,(q1 0).abd 0] [] []) [1,0] [] [])
end Go.Proofs.YtbcodenfkijdnaaGreat.E
namespace Go.Proofs.YtbcodenfkijdnaaGreat
open Nat renaming mod_lt→dZ,mod_eq_of_lt→ir
open UInt8 renaming toNat_xor→eF
def xt(a:Nat):Nat:=(a*2)^^^(if a.testBit 7 then 285 else 0)
def uX:List Nat:=[1,2,4,8,16,32,64,128,29,58,116,232,205,135,19,38,76,152,45,90,180,117,234,201,143,3,6,12,24,48,96,192,157,39,78,156,37,74,148,53,106,212,181,119,238,193,159,35,70,140,5,10,20,40,80,160,93,186,105,210,185,111,222,161,95,190,97,194,153,47,94,188,101,202,137,15,30,60,120,240,253,231,211,187,107,214,177,127,254,225,223,163,91,182,113,226,217,175,67,134,17,34,68,136,13,26,52,104,208,189,103,206,129,31,62,124,248,237,199,147,59,118,236,197,151,51,102,204,133,23,46,92,184,109,218,169,79,158,33,66,132,21,42,84,168,77,154,41,82,164,85,170,73,146,57,114,228,213,183,115,230,209,191,99,198,145,63,126,252,229,215,179,123,246,241,255,227,219,171,75,150,49,98,196,149,55,110,220,165,87,174,65,130,25,50,100,200,141,7,14,28,56,112,224,221,167,83,166,81,162,89,178,121,242,249,239,195,155,43,86,172,69,138,9,18,36,72,144,61,122,244,245,247,243,251,235,203,139,11,22,44,88,176,125,250,233,207,131,27,54,108,216,173,71,142]
def aW:List Nat:=[0,0,1,25,2,50,26,198,3,223,51,238,27,104,199,75,4,100,224,14,52,141,239,129,28,193,105,248,200,8,76,113,5,138,101,47,225,36,15,33,53,147,142,218,240,18,130,69,29,181,194,125,106,39,249,185,201,154,9,120,77,228,114,166,6,191,139,98,102,221,48,253,226,152,37,179,16,145,34,136,54,208,148,206,143,150,219,189,241,210,19,92,131,56,70,64,30,66,182,163,195,72,126,110,107,58,40,84,250,133,186,61,202,94,155,159,10,21,121,43,78,212,229,172,115,243,167,87,7,112,192,247,140,128,99,13,103,74,222,237,49,197,254,24,227,165,153,119,38,184,180,124,17,68,146,217,35,32,137,46,55,63,209,91,149,188,207,205,144,135,151,178,220,252,190,97,242,86,211,171,20,42,93,158,132,60,57,83,71,109,65,162,31,45,67,216,183,123,164,118,196,23,73,236,127,12,111,246,108,161,59,82,41,157,85,170,251,96,134,177,187,204,62,90,203,89,95,176,156,169,160,81,11,245,22,235,122,117,44,215,79,174,213,233,230,231,173,232,116,214,244,234,168,80,88,175]
def gE(i:Nat):Nat:=uX.getD i 0
def gL(a:Nat):Nat:=aW.getD a 0
theorem yn: ∀a,a<256→a≠0→gE (gL a)=a:=by decide+kernel
theorem C4: ∀i,i<255→gL (gE i)=i:=by decide+kernel
theorem uY: ∀i,i<255→0<gE i∧gE i<256:=by decide+kernel
theorem sA: ∀i,i<256→gL i<255:=by decide+kernel
theorem LA: ∀i,i<255→xt (gE i)=gE ((i+1)%255):=by decide+kernel
theorem LB:uX.length=255:=by decide+kernel
def du(a b:Nat):Nat:=if a=0∨b=0 then 0 else gE ((gL a+gL b)%255)
theorem LC(a b:Nat):(a^^^b)*2=(a*2)^^^(b*2):=by
 have h:=@Nat.shiftLeft_xor_distrib 1 a b
 simpa [Nat.shiftLeft_eq] using h
theorem LD(a b i k:Nat):(if(a^^^b).testBit i then k else 0)=(if a.testBit i then k else 0)^^^(if b.testBit i then k else 0):=by
 rw[Nat.testBit_xor]
 cases a.testBit i<;>cases b.testBit i<;>simp
theorem LF(a b c d:Nat):(a^^^b)^^^(c^^^d)=(a^^^c)^^^(b^^^d):=by
 ac_rfl
theorem LH(a b:Nat):xt (a^^^b)=xt a^^^xt b:=by
 unfold xt
 rw[LC,LD,LF]
theorem LJ:xt 0=0:=by decide
theorem LK(a b:Nat):du a b<256:=by
 unfold du
 split
 ·omega
 ·exact(uY _ (dZ _ Om)).2
theorem LM(a b:Nat):du a b=du b a:=by
 unfold du
 rw[Nat.add_comm (gL a)]
 simp only[or_comm]
theorem uZ(a:Nat):du a 0=0:=by simp [du]
theorem u4(a:Nat):du 0 a=0:=by simp [du]
theorem sC(i b:Nat)(hi:i<255)(hb0:b≠0):du (gE i) b=gE ((i+gL b)%255):=by
 have h:=uY i hi
 unfold du
 rw[ALifn Om,C4 i hi]
theorem yo(a b:Nat)(ha:a≠0)(hb:b≠0):du a b≠0:=by
 unfold du
 rw[ALifn Om]
 have:=(uY ((gL a+gL b)%255) (dZ _ Om)).1
 omega
theorem C5(a b:Nat)(ha:a≠0)(hb:b≠0):gL (du a b)=(gL a+gL b)%255:=by
 unfold du
 rw[ALifn Om,C4 _ (dZ _ Om)]
theorem LN(a b c:Nat):du (du a b) c=du a (du b c):=by
 by_cases ha:a=0
 ·subst ha;simp [u4]
 by_cases hb:b=0
 ·subst hb;simp [u4,uZ]
 by_cases hc:c=0
 ·subst hc;simp [uZ]
 have h1:=yo a b ha hb
 have h2:=yo b c hb hc
 have e1:du (du a b) c=gE ((gL (du a b)+gL c)%255):=by rw[du,ALifn Om]
 have e2:du a (du b c)=gE ((gL a+gL (du b c))%255):=by rw[du,ALifn Om]
 rw[e1,e2,C5 a b ha hb,C5 b c hb hc]
 congr 1
 omega
theorem yp(i b:Nat)(hi:i+1<255):du (gE (i+1)) b=xt (du (gE i) b):=by
 by_cases hb:b=0
 ·subst hb;simp [uZ,LJ]
 ·rw[sC _ _ hi hb,sC _ _ Om hb,LA _ (dZ _ Om)]
  congr 1
  omega
theorem C6:gE 0=1:=by decide
theorem u5(b:Nat)(hb:b<256):du 1 b=b:=by
 by_cases h:b=0
 ·subst h;rfl
 ·have:=sA b hb
  rw[←C6,sC 0 b Om h,Nat.zero_add,ir this,yn b hb h]
theorem LQ(i:Nat):i<255→∀b c,b<256→c<256→du (gE i) (b^^^c)=du (gE i) b^^^du (gE i) c:=by
 induction i with
 | zero=>
  intro _ b c hb hc
  have hx:b^^^c<256:=Nat.xor_lt_two_pow (n:=8) hb hc
  rw[C6,u5 _ hx,u5 _ hb,u5 _ hc]
 | succ i ih=>
  intro hi b c hb hc
  rw[yp _ _ hi,yp _ _ hi,yp _ _ hi,ih Om b c hb hc,LH]
theorem LR(a b c:Nat)(ha:a<256)(hb:b<256)(hc:c<256):du a (b^^^c)=du a b^^^du a c:=by
 by_cases h:a=0
 ·subst h;simp [u4]
 ·have:=sA a ha
  rw[←yn a ha h]
  exact LQ _ this b c hb hc
def C7(b i k:Nat):Nat:=if b/2^i%2=1 then k else 0
theorem Zo(b i k:Nat)(hk:k<256):C7 b i k<256:=by unfold C7;split<;>omega
def nF(x y:Nat):Nat:=if x=0 then 0 else gE ((gL x+255-gL y)%255)
theorem C8(x y:Nat):nF x y<256:=by
 unfold nF;split
 ·omega
 ·exact(uY _ (dZ _ Om)).2
theorem C9(x y:Nat)(lx:x<256)(ly:y<256)(hy:y≠0):du (nF x y) y=x:=by
 unfold nF;split
 ·rename_i h;rw[h,u4]
 ·rename_i h
  have h1:=sA x lx
  have h2:=sA y ly
  rw[sC _ _ (dZ _ Om) hy,show((gL x+255-gL y)%255+gL y)%255=gL x from by omega,yn x lx h]
def gm(a b:UInt8):UInt8:=UInt8.ofNat (du a.toNat b.toNat)
theorem lI(a b:UInt8):(gm a b).toNat=du a.toNat b.toNat:=by
 unfold gm;rw[UInt8.toNat_ofNat'];exact ir (LK _ _)
theorem ko(a b:UInt8):gm a b=gm b a:=by unfold gm;rw[LM]
theorem nG(a b c:UInt8):gm (gm a b) c=gm a (gm b c):=by
 apply UInt8.toNat_inj.1
 rw[lI,lI,lI,lI,LN]
theorem yq(a b c:UInt8):gm a (b^^^c)=gm a b^^^gm a c:=by
 apply UInt8.toNat_inj.1
 rw[lI,eF,eF,lI,lI,LR _ _ _ a.toNat_lt b.toNat_lt c.toNat_lt]
theorem u7(a b c:UInt8):gm (b^^^c) a=gm b a^^^gm c a:=by rw[ko,yq,ko a b,ko a c]
theorem mp(a:UInt8):gm a 0=0:=by unfold gm;rw[UInt8.toNat_zero,uZ];rfl
theorem jd(a:UInt8):gm 0 a=0:=by rw[ko,mp]
theorem Da(a:UInt8):gm 1 a=a:=by
 apply UInt8.toNat_inj.1
 rw[lI,show(1:UInt8).toNat=1 from rfl,u5 _ a.toNat_lt]
theorem qp(a:UInt8):gm a 1=a:=by rw[ko,Da]
theorem Db(a b:UInt8)(ha:a≠0)(hb:b≠0):gm a b≠0:=by
 intro h
 have h2:=ALca UInt8.toNat h
 rw[lI] at h2
 exact yo _ _ (λe=>ha (UInt8.toNat_inj.1 e)) (λe=>hb (UInt8.toNat_inj.1 e)) h2
theorem x4(a b c d:UInt8):(a^^^b)^^^(c^^^d)=(a^^^c)^^^(b^^^d):=by ac_rfl
end Go.Proofs.YtbcodenfkijdnaaGreat
namespace Go.Proofs.YtbcodenfkijdnaaGreat.E
open Go Go.RowKit Go.Shelf
open List renaming append_nil→dZ,replicate→eF,getD_eq_getElem?_getD→jg,length_replicate→jh,length_set→jw
open Go.Proofs.Tryz renaming prog→ir
open UInt8 renaming ofNat_toNat→jm
def aP:List UInt8:=uX.map UInt8.ofNat
def dJ(n:Int):Nat:=(n%255).toNat
theorem yr(n:Int):dJ n<255:=by unfold dJ;omega
theorem LT{P:Program}{T:TypeId}{x y:Operand}{w:World}{a:Int}(h0: -9223372036854775808≤a)(h1:a≤9223372036854775807):(ar .rem T x y (.int .i64 a) (.int .i64 255)).run P w= .ok (.int .i64 (a.tmod 255)) w:=rfl
theorem LU(n:Int):(bif decide (n.tmod 255<0) then n.tmod 255+255 else n.tmod 255)=((dJ n:Nat):Int):=by
 have h:=Int.tmod_eq_emod (a:=n) (b:=255)
 unfold dJ
 by_cases h1:n.tmod 255<0
 ·rw[cC h1,ALct];split at h<;>omega
 ·rw[bj h1,ALcf];split at h<;>omega
def tw(a:UInt8):UInt8:=UInt8.ofNat (xt a.toNat)
theorem Dd: ∀n,n<256→(bif (((UInt8.ofNat n&&& 128).toNat:Int) != 0) then(UInt8.ofNat (n*2^1)^^^29) else UInt8.ofNat (n*2^1))=UInt8.ofNat (xt n):=by decide+kernel
theorem LV{a:UInt8}(h:(((a&&& 128).toNat:Int) != 0)=true):Value.int .u8 ((UInt8.ofNat (a.toNat*2^1)^^^29).toNat:Int)= .int .u8 ((tw a).toNat:Int):=by
 have h1:=Dd a.toNat a.toNat_lt
 rw[jm,h] at h1
 exact ALca (λz:UInt8=>Value.int .u8 (z.toNat:Int)) h1
theorem LW{a:UInt8}(h:(((a&&& 128).toNat:Int) != 0)=false):Value.int .u8 ((UInt8.ofNat (a.toNat*2^1)).toNat:Int)= .int .u8 ((tw a).toNat:Int):=by
 have h1:=Dd a.toNat a.toNat_lt
 rw[jm,h] at h1
 exact ALca (λz:UInt8=>Value.int .u8 (z.toNat:Int)) h1
theorem LY(a:UInt8):aa ir 184 #[u1 (a.toNat:Int)] [] [] N0 (λ_=>u1 ((tw a).toNat:Int)):=by
 refine fG Tryz.func184 λw cs=>?_
 refine r0 [] [(2,u1 0)] [] (r0 [(1,.t (tb (a:=u1 (a.toNat:Int)) (b:=u1 128) λ_ _ _ _=>xz (a) ((128:UInt8))))] [(5,.bool (((a&&& (128:UInt8)).toNat:Int) != 0))] [] ?_)
 refine cB (((a&&& (128:UInt8)).toNat:Int) != 0) (λh3=>?_) λh3=>?_
 ·refine r0 [(1,.t (tv (ar .shl 5 (.tmp 6) (.const (u6 1)) (u1 (a.toNat:Int)) (u6 1)) (λ_=>uV 1 Dc))),(2,.t (tb (a:=u1 ((UInt8.ofNat (a.toNat*2^1)).toNat:Int)) (b:=u1 29) λ_ _ _ _=>Zs ((UInt8.ofNat (a.toNat*2^1))) ((29:UInt8))))] [(2,u1 (((UInt8.ofNat (a.toNat*2^1))^^^(29:UInt8)).toNat:Int))] [2] ?_
  exact am (u1 (((UInt8.ofNat (a.toNat*2^1))^^^(29:UInt8)).toNat:Int)) ab.zero (by exact LV As) [] [] []
 refine r0 [(1,.t (tv (ar .shl 5 (.tmp 9) (.const (u6 1)) (u1 (a.toNat:Int)) (u6 1)) (λ_=>uV 1 Dc)))] [(2,u1 ((UInt8.ofNat (a.toNat*2^1)).toNat:Int))] [2] ?_
 exact am (u1 ((UInt8.ofNat (a.toNat*2^1)).toNat:Int)) ab.zero (by exact LW As) [] [] []
theorem LZ(n:Int)(h0: -9223372036854775808≤n)(h1:n≤9223372036854775807):aa ir 218 #[i6 n] [] [] N0 (λ_=>i6 ((dJ n:Nat):Int)):=by
 have hb:=Int.tmod_lt_of_pos n (show(0:Int)<255 by omega)
 have hb2:=Int.lt_tmod_of_pos n (show(0:Int)<255 by omega)
 refine fG Tryz.func218 λw cs=>?_
 refine r0 [] [(2,i6 0)] [] (r0 [(1,.t (tv (ar .rem 3 (.tmp 3) (.const (i6 255)) (i6 n) (i6 255)) (λ_=>LT h0 h1)))] [(0,i6 (n.tmod 255))] [0] (r0 [] [(6,.bool (decide ((n.tmod 255)<0)))] [] ?_))
 refine cJ (decide ((n.tmod 255)<0)) (λc=>[(0,i6 (bif c then((n.tmod 255)+255) else(n.tmod 255)))]) N0 (λh4=>?_) (λh4=>?_) ?_
 ·have dh4:=of_decide_eq_true h4
  refine r0 [(1,aI (n.tmod 255) (255) Om)] [(0,i6 ((n.tmod 255)+255))] [0] ?_
  exact cm Kr [] Kr
 ·have dh4:=of_decide_eq_false h4
  exact cm Kr [] Kr
 refine r0 [] [(2,i6 (bif decide ((n.tmod 255)<0) then((n.tmod 255)+255) else(n.tmod 255)))] [2] ?_
 exact am (i6 (bif decide ((n.tmod 255)<0) then((n.tmod 255)+255) else(n.tmod 255))) ab.zero (by exact ALca (Value.int .i64) (LU n)) [] [] []
def gC:Nat→UInt8
 | 0=>1
 | k+1=>tw (gC k)
def iF:Nat→List UInt8
 | 0=>eF 255 0
 | k+1=>(iF k).set k (gC k)
def iG:Nat→List Nat
 | 0=>eF 256 0
 | k+1=>(iG k).set (gC k).toNat k
theorem De: ∀k,(iF k).length=255
 | 0=>jh ..
 | k+1=>by rw[iF,jw];exact De k
theorem Df: ∀k,(iG k).length=256
 | 0=>jh ..
 | k+1=>by rw[iG,jw];exact Df k
theorem L3:iF 255=aP:=by decide+kernel
theorem L4:iG 255=aW:=by decide+kernel
theorem L5(k:Nat):(gC k).toNat<256:=(gC k).toNat_lt
attribute [local irreducible] aP aW iF iG gC
theorem L6:aa ir 142 #[] [] [] (λE=>[ob (E.abd 0) (rB 255 aP++rN 256 aW).toArray 312]) (λE=>pt ((E.abd 0)) 0):=by
 refine fG Tryz.func142 λw cs=>?_
 refine r0 [] [(0,.pointer none)] [] (ra (λq2=>[(1,pt (B1 q2) 0)]) (λq2=>[ob (B1 q2) (rB 255 (eF 255 0)++rN 256 (eF 256 0)).toArray 312]) λq2=>r0 [] [(2,u1 1)] [] (r0 [] [(6,i6 0)] [] ?_))
 refine lq (λk=>k≤255) (λk=>[(2,u1 ((gC k).toNat:Int)),(6,iN k)]) (λk L=>L.set 0 (ob (B1 q2) (rB 255 (iF k)++rN 256 (iG k)).toArray 312)) (λk=>255-k) 0 Om Kr (by rw[show iF 0=eF 255 0 by unfold iF;rfl,show iG 0=eF 256 0 by unfold iG;rfl];kernel_rfl) (λk hk5=>?_)
 have hp:=L5 k
 refine r0 [] [(7,.bool (decide ((k:Int)<255)))] [] ?_
 refine cj (k:Int) 255 (λh7 dh7=>?_) λh7 dh7=>?_
 ·refine r0 [] [(3,iN k)] [] ?_
  refine rs [(5,iA 310 .i64 (B1 q2) 0 255 1 k),(6,wM (A:=[]) (C:=(rN 256 (iG k):List Value)) 0 (B1 q2) k 312 (u1 ((gC k).toNat:Int)) (rB 255 (iF k)++rN 256 (iG k)) (rB 255 ((iF k).set k (gC k))++rN 256 (iG k)) rfl rfl rfl (kg Om) (mJ (De ..)))] 0 (ob (B1 q2) (rB 255 ((iF k).set k (gC k))++rN 256 (iG k)).toArray 312) (rs [(5,iA 296 .u8 (B1 q2) 255 256 1 ((gC k).toNat)),(6,wM (A:=(rB 255 ((iF k).set k (gC k)):List Value)) (C:=[]) 0 (B1 q2) ((gC k).toNat) 312 (iN k) (rB 255 ((iF k).set k (gC k))++rN 256 (iG k)) (rB 255 ((iF k).set k (gC k))++rN 256 ((iG k).set ((gC k).toNat) k)) (by rw[dZ]) (by rw[dZ]) kL (kg Om) (Jv (Df ..)))] 0 (ob (B1 q2) (rB 255 ((iF k).set k (gC k))++rN 256 ((iG k).set ((gC k).toNat) k)).toArray 312) (r0 [(1,.c [] [] (LY (gC k)))] [(2,u1 ((tw (gC k)).toNat:Int))] [2] (r0 [(0,ad k 1)] [(6,i6 ((k+1:Nat):Int))] [6] ?_)))
  exact le (k+1) Om Om Kr [0] (by rw[show iF (k+1)=(iF k).set k (gC k) by rw[iF],show iG (k+1)=(iG k).set (gC k).toNat k by rw[iG]];kernel_rfl)
 obtain rfl:k=255:=by omega
 refine cl [ob (B1 q2) (rB 255 aP++rN 256 aW).toArray 312] (by rw[L3,L4];kernel_rfl) ?_
 refine lx ?_
 exact r0 [] [(0,pt (B1 q2) 0)] [0] (lf (.l [(q2 1).abd 0] [] []) [0] [] [])
theorem u9(g:Nat)(n:Int)(h0: -9223372036854775808≤n)(h1:n≤9223372036854775807):aa ir 182 #[pt g 0,i6 n] [ob g (rB 255 aP++rN 256 aW).toArray 312] [] N0 (λ_=>u1 ((aP.getD (dJ n) 0).toNat:Int)):=by
 have hb:=yr n
 refine fG Tryz.func182 λw cs=>?_
 exact r0 [] [(4,u1 0)] [] (r0 [(2,.c [] [] (LZ n Om Om)),(5,iA 310 .i64 g 0 255 1 (dJ n)),(6,rM (A:=[]) (C:=(rN 256 aW:List Value)) 0 g (dJ n) 312 (rB 255 aP++rN 256 aW) rfl rfl (ol Om))] [(4,u1 ((aP.getD (dJ n) 0).toNat:Int))] [4] (lf ab.zero [] [(0,0)] []))
theorem qq(a:UInt8):aW.getD a.toNat 0<255:=sA a.toNat a.toNat_lt
theorem Dg{m:Nat}(h:m<255):aP.getD m 0=UInt8.ofNat (gE m):=by
 unfold aP gE
 rw[jg,jg,List.getElem?_map]
 have h1:m<uX.length:=by rw[LB];exact h
 rw[List.getElem?_eq_getElem h1]
 rfl
theorem Dh{a:UInt8}(h:((a.toNat:Int)==0)=false):a.toNat≠0:=by have:=ne_of_beq_false h;omega
theorem va{a:UInt8}(h:((a.toNat:Int)==0)=true):a=0:=by
 have h1:=eq_of_beq h
 exact UInt8.toNat_inj.1 (by show a.toNat=0;omega)
theorem L7{a b:UInt8}(h:(((a.toNat:Int)==0)||((b.toNat:Int)==0))=true):Value.int .u8 0= .int .u8 ((gm a b).toNat:Int):=by
 rcases Bool.or_eq_true _ _▸h with h1 | h1
 ·rw[va h1,jd];rfl
 ·rw[va h1,mp];rfl
theorem L8{a b:UInt8}(h:(((a.toNat:Int)==0)||((b.toNat:Int)==0))=false):Value.int .u8 ((aP.getD (dJ (((aW.getD a.toNat 0+aW.getD b.toNat 0:Nat)):Int)) 0).toNat:Int)= .int .u8 ((gm a b).toNat:Int):=by
 rw[Bool.or_eq_false_iff] at h
 have h1:=Dh h.1
 have h2:=Dh h.2
 rw[Dg (yr _)]
 unfold gm du
 rw[ALifn Om,show dJ (((aW.getD a.toNat 0+aW.getD b.toNat 0:Nat)):Int)=(gL a.toNat+gL b.toNat)%255 by unfold dJ gL;omega]
theorem qr(g:Nat)(a b:UInt8):aa ir 217 #[pt g 0,u1 (a.toNat:Int),u1 (b.toNat:Int)] [ob g (rB 255 aP++rN 256 aW).toArray 312] [] N0 (λ_=>u1 ((gm a b).toNat:Int)):=by
 have ha:=a.toNat_lt
 have hb:=b.toNat_lt
 have hla:=qq a
 have hlb:=qq b
 refine fG Tryz.func217 λw cs=>?_
 refine r0 [] [(6,u1 0)] [] (r0 [] [(12,.bool (((a.toNat:Int)==0)||((b.toNat:Int)==0)))] [] ?_)
 refine cB (((a.toNat:Int)==0)||((b.toNat:Int)==0)) (λh3=>?_) λh3=>?_
 ·refine r0 [] [(6,u1 0)] [6] ?_
  exact am (u1 0) ab.zero (by exact L7 As) [] [(0,0)] []
 refine r0 [(5,iA 296 .u8 g 255 256 1 a.toNat),(6,rM (A:=(rB 255 aP:List Value)) (C:=[]) 0 g a.toNat 312 (rB 255 aP++rN 256 aW) (by rw[dZ]) kL (rV Om)),(11,iA 296 .u8 g 255 256 1 b.toNat),(12,rM (A:=(rB 255 aP:List Value)) (C:=[]) 0 g b.toNat 312 (rB 255 aP++rN 256 aW) (by rw[dZ]) kL (rV Om)),(13,ad (aW.getD a.toNat 0) (aW.getD b.toNat 0)),(14,.c [0] [] (u9 g (((aW.getD a.toNat 0)+(aW.getD b.toNat 0):Nat):Int) Om Om))] [(6,u1 ((aP.getD (dJ (((aW.getD a.toNat 0)+(aW.getD b.toNat 0):Nat):Int)) 0).toNat:Int))] [6] ?_
 exact am (u1 ((aP.getD (dJ (((aW.getD a.toNat 0)+(aW.getD b.toNat 0):Nat):Int)) 0).toNat:Int)) ab.zero (by exact L8 As) [] [(0,0)] []
def bX(a b:UInt8):UInt8:=(bif (b.toNat:Int)==0 then(0:UInt8) else(bif (a.toNat:Int)==0 then(0:UInt8) else aP.getD (dJ (((aW.getD a.toNat 0:Nat):Int)-((aW.getD b.toNat 0:Nat):Int))) 0))
def gX(b:UInt8):Int:=(bif (b.toNat:Int)==0 then 16 else 0)
theorem Di(g:Nat)(a b:UInt8):aa ir 257 #[pt g 0,u1 (a.toNat:Int),u1 (b.toNat:Int)] [ob g (rB 255 aP++rN 256 aW).toArray 312] [] N0 (λ_=> .tuple #[u1 ((bX a b).toNat:Int),i6 (gX b)]):=by
 have ha:=a.toNat_lt
 have hb:=b.toNat_lt
 have hla:=qq a
 have hlb:=qq b
 refine fG Tryz.func257 λw cs=>?_
 refine r0 [] [(6,u1 0),(7,i6 0)] [] (r0 [] [(8,.bool ((b.toNat:Int)==0))] [] ?_)
 refine cZ (b.toNat:Int) 0 (λh3 dh3=>?_) λh3 dh3=>?_
 ·refine r0 [] [(6,u1 0),(7,i6 16)] [6,7] ?_
  exact am (.tuple #[u1 0,i6 16]) ab.zero (by((try simp only[bX,gX]);(repeat (first | rw[h3] | rw[ALct])))<;>rfl) [] [(0,0)] []
 refine r0 [] [(11,.bool ((a.toNat:Int)==0))] [] ?_
 refine cZ (a.toNat:Int) 0 (λh6 dh6=>?_) λh6 dh6=>?_
 ·refine r0 [] [(6,u1 0),(7,i6 0)] [6,7] ?_
  exact am (.tuple #[u1 0,i6 0]) ab.zero (by((try simp only[bX,gX]);(repeat (first | rw[h3] | rw[h6] | rw[ALct] | rw[ALcf])))<;>rfl) [] [(0,0)] []
 refine r0 [(5,iA 296 .u8 g 255 256 1 a.toNat),(6,rM (A:=(rB 255 aP:List Value)) (C:=[]) 0 g a.toNat 312 (rB 255 aP++rN 256 aW) (by rw[dZ]) kL (rV Om)),(11,iA 296 .u8 g 255 256 1 b.toNat),(12,rM (A:=(rB 255 aP:List Value)) (C:=[]) 0 g b.toNat 312 (rB 255 aP++rN 256 aW) (by rw[dZ]) kL (rV Om)),(13,sI ((aW.getD a.toNat 0:Nat):Int) (((aW.getD b.toNat 0:Nat):Int)) Om),(14,.c [0] [] (u9 g (((aW.getD a.toNat 0:Nat):Int)-((aW.getD b.toNat 0:Nat):Int)) Om Om))] [(6,u1 ((aP.getD (dJ (((aW.getD a.toNat 0:Nat):Int)-((aW.getD b.toNat 0:Nat):Int))) 0).toNat:Int)),(7,i6 0)] [6,7] ?_
 exact am (.tuple #[u1 ((aP.getD (dJ (((aW.getD a.toNat 0:Nat):Int)-((aW.getD b.toNat 0:Nat):Int))) 0).toNat:Int),i6 0]) ab.zero (by((try simp only[bX,gX]);(repeat (first | rw[h3] | rw[h6] | rw[ALcf])))<;>rfl) [] [(0,0)] []
theorem L9(g:Nat)(b:UInt8):aa ir 232 #[pt g 0,u1 (b.toNat:Int)] [ob g (rB 255 aP++rN 256 aW).toArray 312] [] N0 (λ_=> .tuple #[u1 ((bX (1:UInt8) b).toNat:Int),i6 (gX b)]):=by
 refine fG Tryz.func232 λw cs=>?_
 exact r0 [] [(4,u1 0),(5,i6 0)] [] (r0 [(2,.c [0] [] (Di g (1:UInt8) b))] [(4,u1 ((bX (1:UInt8) b).toNat:Int)),(5,i6 (gX b))] [4,5] (lf ab.zero [] [(0,0)] []))
def gY(a:UInt8):Nat:=(bif (a.toNat:Int)==0 then 0 else aW.getD a.toNat 0)
def mP(a:UInt8):Int:=(bif (a.toNat:Int)==0 then 16 else 0)
theorem Ma(g:Nat)(a:UInt8):aa ir 274 #[pt g 0,u1 (a.toNat:Int)] [ob g (rB 255 aP++rN 256 aW).toArray 312] [] N0 (λ_=> .tuple #[i6 (((gY a):Nat):Int),i6 (mP a)]):=by
 have ha:=a.toNat_lt
 refine fG Tryz.func274 λw cs=>?_
 refine r0 [] [(4,i6 0),(5,i6 0)] [] (r0 [] [(7,.bool ((a.toNat:Int)==0))] [] ?_)
 refine cZ (a.toNat:Int) 0 (λh3 dh3=>?_) λh3 dh3=>?_
 ·refine r0 [] [(4,i6 0),(5,i6 16)] [4,5] ?_
  exact am (.tuple #[i6 0,i6 16]) ab.zero (by((try simp only[gY,mP]);(repeat (first | rw[h3] | rw[ALct])))<;>rfl) [] [(0,0)] []
 refine r0 [(4,iA 296 .u8 g 255 256 1 a.toNat),(5,rM (A:=(rB 255 aP:List Value)) (C:=[]) 0 g a.toNat 312 (rB 255 aP++rN 256 aW) (by rw[dZ]) kL (rV Om))] [(4,i6 ((aW.getD a.toNat 0:Nat):Int)),(5,i6 0)] [4,5] ?_
 exact am (.tuple #[i6 ((aW.getD a.toNat 0:Nat):Int),i6 0]) ab.zero (by((try simp only[gY,mP]);(repeat (first | rw[h3] | rw[ALcf])))<;>rfl) [] [(0,0)] []
theorem Mb(g:Nat)(a:UInt8)(n:Int):aa ir 181 #[pt g 0,u1 (a.toNat:Int),i6 n] [] [] (λE=>[ob (E.abd 0) #[i6 n] 3,ob (E.abd 1) #[pt g 0] 239,ob (E.abd 2) #[u1 (a.toNat:Int)] 5]) (λE=> .func (.func 216) #[] #[pt ((E.abd 0)) 0,pt ((E.abd 1)) 0,pt ((E.abd 2)) 0]):=by
 refine fG Tryz.func181 λw cs=>?_
 exact ra (λq1=>[(3,pt (B0 q1) 0),(4,pt (B1 q1) 0),(5,pt (B2 q1) 0),(6,.nilFunc)]) (λq1=>[ob (B0 q1) #[pt g 0] 239,ob (B1 q1) #[u1 (a.toNat:Int)] 5,ob (B2 q1) #[i6 n] 3]) λq1=>r0 [] [(6,.func (.func 216) #[] #[pt (B2 q1) 0,pt (B0 q1) 0,pt (B1 q1) 0])] [6] (lf (.l [(q1 2).abd 0,(q1 0).abd 0,(q1 1).abd 0] [] []) [2,0,1] [] [])
def kM(a:UInt8):Nat→UInt8
 | 0=>1
 | k+1=>gm (kM a k) a
theorem Md(bn bf ba g:Nat)(a:UInt8):fy 5 ir 216 #[pt bn 0,pt bf 0,pt ba 0] (λ(x:Nat×UInt8)=>#[i6 (x.1:Int),u1 (x.2.toNat:Int)]) ((List.range 4).map λk=>(k,kM a k)) (List.flatten [[(bn,.cells #[i6 4] 3 (0,0))],[(bf,.cells #[pt g 0] 239 (0,0))],[(ba,.cells #[u1 (a.toNat:Int)] 5 (0,0))],[(g,.cells (rB 255 aP++rN 256 aW).toArray 312 (0,0))]]):=by
 refine gi (KO:=[[(bn,.cells #[i6 4] 3 (0,0))],[(bf,.cells #[pt g 0] 239 (0,0))],[(ba,.cells #[u1 (a.toNat:Int)] 5 (0,0))],[(g,.cells (rB 255 aP++rN 256 aW).toArray 312 (0,0))]]) Tryz.func216 (λlY JY JX WI RI hJ hY hI=>?_)
 refine r0 [] [(5,u1 1)] [] (r0 [(0,.l 0)] [(8,i6 4),(9,i6 0)] [] ?_)
 refine kk (λk=>k≤4) (λk=>[(5,u1 ((kM a k).toNat:Int)),(9,iN k)]) (λ_ L=>L) (λk=>4-k) (λk=>k) 0 Om hI Kr Kr (λk R5 W6 hk3 hI4=>?_)
 refine r0 [] [(10,.bool (decide ((k:Int)<4)))] [] ?_
 refine cj (k:Int) 4 (λh8 dh8=>?_) λh8 dh8=>?_
 ·refine r0 [] [(6,iN k)] [] ?_
  refine iy hJ hY hI4 3 N0 (λ_=>[(12,.func (.yield lY) #[] #[]),(13,iN k),(14,u1 ((kM a k).toNat:Int))]) [] (λ_ L=>L) N0 [0,1,2,3] (o4 Om) (λq10 R11 W12 hI13=>?_)
  refine cF _ rfl (r0 [(0,.l 1),(2,.l 2),(3,.c [3] [] (qr g (kM a k) a))] [(5,u1 ((gm (kM a k) a).toNat:Int))] [5] (r0 [(0,ad k 1)] [(9,i6 ((k+1:Nat):Int))] [9] ?_))
  exact jc (k+1) Om hI13 Om Kr [0,1,2,3] Kr
 obtain rfl:k=4:=by omega
 refine km ?_
 exact lH hJ hI4 bh [] [0,1,2,3]
end Go.Proofs.YtbcodenfkijdnaaGreat.E
namespace Go.Proofs.YtbcodenfkijdnaaGreat
open UInt8 renaming xor_zero→dZ,zero_xor→eF,xor_assoc→ir,xor_self→jg,xor_comm→na
open List renaming getD_eq_getElem?_getD→jh,ext_getElem→ka,length_set→kP,replicate→nN
open Nat renaming add_sub_cancel_left→jm,le_refl→jw
def xs(n:Nat)(f:Nat→UInt8):UInt8:=
 match n with
 | 0=>0
 | n+1=>xs n f^^^f n
theorem qt(n:Nat)(f:Nat→UInt8):xs (n+1) f=xs n f^^^f n:=rfl
theorem kN{n:Nat}{f g:Nat→UInt8}(h: ∀i,i<n→f i=g i):xs n f=xs n g:=by
 induction n with
 | zero=>rfl
 | succ n ih=>rw[xs,xs,ih (λi hi=>h i Om),h n Om]
theorem mQ{n:Nat}{f:Nat→UInt8}(h: ∀i,i<n→f i=0):xs n f=0:=by
 induction n with
 | zero=>rfl
 | succ n ih=>rw[xs,ih (λi hi=>h i Om),h n Om,dZ]
theorem vb(n:Nat)(f g:Nat→UInt8):xs n (λi=>f i^^^g i)=xs n f^^^xs n g:=by
 induction n with
 | zero=>exact(jg (a:=0)).symm
 | succ n ih=>rw[xs,xs,xs,ih,x4]
theorem Me(n d:Nat)(f:Nat→UInt8)(h: ∀i,n≤i→f i=0):xs (n+d) f=xs n f:=by
 induction d with
 | zero=>rfl
 | succ d ih=>rw[←Nat.add_assoc,xs,ih,h (n+d) Om,dZ]
theorem pm{n m:Nat}(hnm:n≤m)(f:Nat→UInt8)(h: ∀i,n≤i→f i=0):xs m f=xs n f:=by
 have:=Me n (m-n) f h
 rwa [show n+(m-n)=m from by omega] at this
def conv(f g:Nat→UInt8)(n:Nat):UInt8:=xs (n+1) (λi=>gm (f i) (g (n-i)))
theorem Mg{f f' g g':Nat→UInt8}{n:Nat}(h: ∀i,i≤n→f i=f' i)(h': ∀i,i≤n→g i=g' i):conv f g n=conv f' g' n:=
 kN (λi hi=>by rw[h i Om,h' (n-i) Om])
theorem Mh(f g h:Nat→UInt8)(n:Nat):conv (λi=>f i^^^g i) h n=conv f h n^^^conv g h n:=by
 unfold conv
 rw[←vb]
 exact kN (λi _=>u7 _ _ _)
theorem yt(f g:Nat→UInt8)(M N:Nat)(hf: ∀i,M≤i→f i=0)(hg: ∀i,N≤i→g i=0)(n:Nat)(h:M+N≤n+1):conv f g n=0:=by
 refine mQ (λi _=>?_)
 by_cases hi:M≤i
 ·rw[hf i hi,jd]
 ·rw[hg (n-i) Om,mp]
theorem Mi(f g:Nat→UInt8)(M N:Nat)(hf: ∀i,M<i→f i=0)(hg: ∀i,N<i→g i=0):conv f g (M+N)=gm (f M) (g N):=by
 unfold conv
 have h1:xs (M+N+1) (λi=>gm (f i) (g (M+N-i)))=xs (M+1) (λi=>gm (f i) (g (M+N-i))):=
  pm Om _ (λi hi=>by rw[hf i Om,jd])
 rw[h1,xs,mQ (λi hi=>by rw[hg (M+N-i) Om,mp]),eF,show M+N-M=N from by omega]
def pw(x:UInt8):Nat→UInt8
 | 0=>1
 | n+1=>gm (pw x n) x
def ev(f:Nat→UInt8)(N:Nat)(x:UInt8):UInt8:=xs N (λi=>gm (f i) (pw x i))
def co(p:List UInt8)(i:Nat):UInt8:=p.getD i 0
theorem yv{p:List UInt8}{i:Nat}(h:i<p.length):co p i=p[i]:=by simp [co,h]
theorem gj{p:List UInt8}{i:Nat}(h:p.length≤i):co p i=0:=by simp [co,h]
def tl(p:List UInt8):Nat→Nat
 | 0=>0
 | k+1=>if co p k=0 then tl p k else k+1
def a7(p:List UInt8):Nat:=tl p p.length
theorem Mk(p:List UInt8)(k:Nat):tl p k≤k:=by
 induction k with
 | zero=>exact jw 0
 | succ k ih=>rw[tl];split<;>omega
theorem Ml(p:List UInt8)(k:Nat): ∀i,tl p k≤i→i<k→co p i=0:=by
 induction k with
 | zero=>intro i _ h;omega
 | succ k ih=>
  intro i h1 h2
  rw[tl] at h1
  by_cases h0:co p k=0
  ·rw[ALifp h0] at h1
   by_cases hik:i=k
   ·rw[hik];exact h0
   ·exact ih i h1 Om
  ·rw[ALifn h0] at h1;omega
theorem Mm(p:List UInt8)(k:Nat): ∀t,tl p k=t+1→co p t≠0:=by
 induction k with
 | zero=>intro t h;rw[tl] at h;omega
 | succ k ih=>
  intro t h
  rw[tl] at h
  by_cases h0:co p k=0
  ·rw[ALifp h0] at h;exact ih t h
  ·rw[ALifn h0] at h
   obtain rfl:k=t:=by omega
   exact h0
theorem sD(p:List UInt8):a7 p≤p.length:=Mk p _
theorem kO(p:List UInt8){i:Nat}(h:a7 p≤i):co p i=0:=by
 by_cases hl:i<p.length
 ·exact Ml p _ i h hl
 ·exact gj Om
theorem ox(p:List UInt8){t:Nat}(h:a7 p=t+1):co p t≠0:=Mm p _ t h
theorem sF{p:List UInt8}{n:Nat}(h0: ∀i,n≤i→co p i=0)(h1:n=0∨co p (n-1)≠0):a7 p=n:=by
 rcases Nat.lt_trichotomy (a7 p) n with h | h | h
 ·rcases h1 with h1 | h1
  ·omega
  ·exact absurd (kO p (show a7 p≤n-1 by omega)) h1
 ·exact h
 ·have:=ox p (t:=a7 p-1) Om
  exact absurd (h0 _ Om) this
theorem Do{p q:List UInt8}(h: ∀i,co p i=co q i):a7 p=a7 q:=by
 refine sF (λi hi=>by rw[h];exact kO q hi) ?_
 by_cases h0:a7 q=0
 ·exact .inl h0
 ·exact .inr (by rw[h];exact ox q Om)
theorem Mn{p:List UInt8}{n:Nat}(h0: ∀i,n≤i→co p i=0):a7 p≤n:=by
 apply Nat.le_of_not_lt
 intro h
 exact ox p (t:=a7 p-1) Om (h0 _ Om)
def au(p:List UInt8):List UInt8:=p.take (a7 p)
theorem mS(p:List UInt8):(au p).length=a7 p:=by unfold au;rw[List.length_take];have:=sD p;omega
theorem nH(p:List UInt8)(i:Nat):co (au p) i=co p i:=by
 by_cases h:i<a7 p
 ·unfold co au;rw[jh,jh,List.getElem?_take_of_lt h]
 ·rw[kO p Om,gj (by rw[mS];omega)]
theorem Dp(p:List UInt8):a7 (au p)=a7 p:=Do (nH p)
theorem pn{p q:List UInt8}(hl:p.length=q.length)(h: ∀i,i<p.length→co p i=co q i):p=q:=by
 refine ka hl λi h1 h2=>?_
 have:=h i h1
 rwa [yv h1,yv h2] at this
theorem Mo{p q:List UInt8}(h: ∀i,co p i=co q i):au p=au q:=
 pn (by rw[mS,mS,Do h]) λi _=>by rw[nH,nH,h]
def gD(n:Nat)(f:Nat→UInt8):List UInt8:=(List.range n).map f
theorem j5(n:Nat)(f:Nat→UInt8):(gD n f).length=n:=by simp [gD]
theorem lJ(n:Nat)(f:Nat→UInt8)(i:Nat):co (gD n f) i=if i<n then f i else 0:=by
 by_cases h:i<n
 ·rw[ALifp h,yv (by rw[j5];exact h)];simp [gD]
 ·rw[ALifn h,gj (by rw[j5];omega)]
theorem Dq{n:Nat}{f:Nat→UInt8}(h: ∀i,n≤i→f i=0)(i:Nat):co (gD n f) i=f i:=by
 rw[lJ];split
 ·rfl
 ·exact(h i Om).symm
theorem yw(n:Nat)(f g:Nat→UInt8)(k:Nat)(v:UInt8)(hg: ∀i,i<n→g i=if i=k then v else f i):(gD n f).set k v=gD n g:=by
 refine ka (by rw[kP,j5,j5]) λi h1 h2=>?_
 rw[kP,j5] at h1
 rw[List.getElem_set]
 simp only[gD,List.getElem_map,List.getElem_range]
 rw[hg i h1]
 by_cases e:k=i
 ·rw[ALifp e,ALifp e.symm]
 ·rw[ALifn e,ALifn (Ne.symm e)]
def iH(p q:List UInt8):List UInt8:=au (gD (a7 p+a7 q) (conv (co p) (co q)))
theorem yy(p q:List UInt8)(i:Nat):co (iH p q) i=conv (co p) (co q) i:=by
 unfold iH
 rw[nH,Dq]
 intro i hi
 exact yt _ _ (a7 p) (a7 q) (λ_ h=>kO p h) (λ_ h=>kO q h) i Om
def fq(p:List UInt8)(x:UInt8):UInt8:=ev (co p) p.length x
theorem Ms(p q:List UInt8):a7 (iH p q)=if a7 p=0∨a7 q=0 then 0 else a7 p+a7 q-1:=by
 split
 ·rename_i h
  refine sF (λi _=>?_) (.inl rfl)
  rw[yy]
  rcases h with h | h
  ·exact mQ (λj _=>by rw[kO p Om,jd])
  ·exact mQ (λj _=>by rw[kO q Om,mp])
 ·rename_i h
  refine sF (λi hi=>?_) (.inr ?_)
  ·rw[yy]
   exact yt _ _ (a7 p) (a7 q) (λ_ h=>kO p h) (λ_ h=>kO q h) i Om
  ·rw[yy,show a7 p+a7 q-1-1=(a7 p-1)+(a7 q-1) from by omega,
    Mi _ _ _ _ (λi hi=>kO p Om) (λi hi=>kO q Om)]
   exact Db _ _ (ox p Om) (ox q Om)
theorem Mt(r:UInt8):a7 [r,1]=2:=sF (λi hi=>gj (show 2≤i from hi)) (.inr (show(1:UInt8)≠0 by decide))
theorem Mu(a c:UInt8):a=c^^^(a^^^c):=by rw[na a c,←ir,jg,eF]
theorem Mv(p q:List UInt8):(iH p q).length=a7 (iH p q):=by
 have h:a7 (iH p q)=a7 (gD (a7 p+a7 q) (conv (co p) (co q))):=by unfold iH;rw[Dp]
 rw[h];unfold iH;rw[mS]
def iI(rs:List UInt8):Nat→List UInt8
 | 0=>[1]
 | k+1=>iH (iI rs k) [co rs k,1]
def Mw(rs:List UInt8):List UInt8:=iI rs rs.length
theorem Dt(rs:List UInt8)(k:Nat):a7 (iI rs k)=k+1:=by
 induction k with
 | zero=>exact sF (λi hi=>gj (show 1≤i by omega)) (.inr (show(1:UInt8)≠0 by decide))
 | succ k ih=>rw[iI,Ms,ih,Mt,ALifn Om];omega
theorem Mx(rs:List UInt8)(k:Nat):(iI rs k).length=k+1:=by
 cases k with
 | zero=>rfl
 | succ k=>rw[iI,Mv];exact Dt rs (k+1)
def pp(q:List UInt8)(d:Nat)(t:UInt8)(o:List UInt8)(i:Nat):List UInt8:=gD o.length λj=>if i-d≤j∧j≤i then co o j^^^gm (gm (co o i) t) (co q (j-(i-d))) else co o j
theorem My(q:List UInt8)(d:Nat)(t:UInt8)(o:List UInt8)(i:Nat):(pp q d t o i).length=o.length:=j5 _ _
def bZ(p q:List UInt8)(d:Nat)(t:UInt8):Nat→List UInt8
 | 0=>p
 | k+1=>pp q d t (bZ p q d t k) (p.length-1-k)
theorem sH(p q:List UInt8)(d:Nat)(t:UInt8)(k:Nat):(bZ p q d t k).length=p.length:=by
 induction k with
 | zero=>rfl
 | succ k ih=>rw[bZ,My,ih]
def dS(p q:List UInt8)(t:UInt8):List UInt8:=au (bZ p q (a7 q-1) t (p.length-(a7 q-1)))
theorem Mz{q o:List UInt8}{d:Nat}{t:UInt8}{i:Nat}(hd:a7 q=d+1)(hdi:d≤i)(hi:i<o.length)(j:Nat):
  co (pp q d t o i) j=co o j^^^conv (λa=>if a=i-d then gm (co o i) t else 0) (co q) j:=by
 have hc:conv (λa=>if a=i-d then gm (co o i) t else 0) (co q) j=if i-d≤j then gm (gm (co o i) t) (co q (j-(i-d))) else 0:=by
  unfold conv
  by_cases h:i-d≤j
  ·rw[ALifp h]
   have h1:xs (j+1) (λa=>gm (if a=i-d then gm (co o i) t else 0) (co q (j-a)))=xs (i-d+1) (λa=>gm (if a=i-d then gm (co o i) t else 0) (co q (j-a))):=
    pm Om _ λa ha=>by
     show gm (if a=i-d then gm (co o i) t else 0) (co q (j-a))=0
     rw[ALifn Om,jd]
   rw[h1,qt,mQ (λa ha=>by
    show gm (if a=i-d then gm (co o i) t else 0) (co q (j-a))=0
    rw[ALifn Om,jd]),ALifp rfl,eF]
  ·rw[ALifn h]
   exact mQ λa ha=>by
    show gm (if a=i-d then gm (co o i) t else 0) (co q (j-a))=0
    rw[ALifn Om,jd]
 rw[hc]
 unfold pp
 rw[lJ]
 by_cases hj:j<o.length
 ·rw[ALifp hj]
  by_cases h1:i-d≤j
  ·rw[ALifp h1]
   by_cases h2:j≤i
   ·rw[ALifp ⟨h1,h2⟩]
   ·rw[ALifn Om,kO q Om,mp,dZ]
  ·rw[ALifn Om,ALifn h1,dZ]
 ·rw[ALifn hj,gj (p:=o) Om]
  split
  ·rw[kO q Om,mp];rfl
  ·rfl
theorem MA{p q:List UInt8}{d:Nat}{t:UInt8}(hd:a7 q=d+1)(ht:gm (co q d) t=1)(k:Nat)(hk:k≤p.length-d):
  (∃s:Nat→UInt8,(∀i,p.length≤i→s i=0)∧∀j,co p j=co (bZ p q d t k) j^^^conv s (co q) j)∧∀j,p.length-k≤j→co (bZ p q d t k) j=0:=by
 induction k with
 | zero=>exact⟨⟨λ_=>0,λ_ _=>rfl,λj=>by
   rw[show conv (λ_=>0) (co q) j=0 from mQ λi _=>jd _,dZ];rfl⟩,λj hj=>gj (by rw[sH];omega)⟩
 | succ k ih=>
  obtain⟨⟨s,hfin,hs⟩,hz⟩:=ih Om
  have hl:=sH p q d t k
  have hst:=λj=>Mz (q:=q) (o:=bZ p q d t k) (d:=d) (t:=t) (i:=p.length-1-k) hd Om Om j
  refine⟨⟨λa=>s a^^^(if a=p.length-1-k-d then gm (co (bZ p q d t k) (p.length-1-k)) t else 0),λi hi=>by
   show s i^^^(if i=p.length-1-k-d then gm (co (bZ p q d t k) (p.length-1-k)) t else 0)=0
   rw[hfin i hi,ALifn Om];rfl,λj=>?_⟩,λj hj=>?_⟩
  ·rw[Mh,bZ,hst j,hs j,ir]
   congr 1
   exact Mu _ _
  ·rw[bZ]
   unfold pp
   rw[lJ]
   by_cases hj2:j<(bZ p q d t k).length
   ·rw[ALifp hj2]
    by_cases h3:p.length-1-k=j
    ·subst h3
     rw[ALifp Om,show p.length-1-k-(p.length-1-k-d)=d from by omega,nG,ko t,ht,qp,jg]
    ·rw[ALifn Om]
     exact hz j Om
   ·rw[ALifn hj2]
theorem Du{p q:List UInt8}{t:UInt8}(h0:0<a7 q)(ht:gm (co q (a7 q-1)) t=1):
  (∃s:Nat→UInt8,(∀i,p.length≤i→s i=0)∧∀j,co p j=co (dS p q t) j^^^conv s (co q) j)∧a7 (dS p q t)<a7 q:=by
 obtain⟨h1,h2⟩:=MA (p:=p) (q:=q) (d:=a7 q-1) (t:=t) Om ht (p.length-(a7 q-1)) (jw _)
 refine⟨?_,?_⟩
 ·obtain⟨s,hf,hs⟩:=h1
  exact⟨s,hf,λj=>by rw[hs j];unfold dS;rw[nH]⟩
 ·have h3:a7 (dS p q t)≤a7 q-1:=Mn λi hi=>by
   unfold dS
   rw[nH]
   by_cases hlp:p.length≤a7 q-1
   ·exact gj (by rw[sH];omega)
   ·exact h2 i Om
  omega
theorem MB(p q:List UInt8)(t:UInt8):a7 (dS p q t)=(dS p q t).length:=by unfold dS;rw[Dp,mS]

theorem Dw(n:Nat)(f:Nat→UInt8)(h: ∀i,i<n→f i=0):gD n f=nN n 0:=by
 refine pn (by rw[j5,List.length_replicate]) λi hi=>?_
 rw[j5] at hi
 rw[lJ,ALifp hi,h i hi]
 simp [co,hi]
theorem ve{n:Nat}{f g:Nat→UInt8}(h: ∀i,i<n→f i=g i):gD n f=gD n g:=by
 unfold gD
 exact List.map_congr_left λi hi=>h i (List.mem_range.1 hi)
theorem ME(p:List UInt8):gD p.length (co p)=p:=pn (j5 _ _) λi hi=>by rw[j5] at hi;rw[lJ,ALifp hi]
def oy(p q:List UInt8)(i t:Nat):UInt8:=xs i λa=>if a≤t then gm (co p a) (co q (t-a)) else 0
def pq(p q:List UInt8)(i j t:Nat):UInt8:=oy p q i t^^^(if i≤t∧t<i+j then gm (co p i) (co q (t-i)) else 0)
theorem yz(p q:List UInt8)(i t:Nat):pq p q i 0 t=oy p q i t:=by
 unfold pq;rw[ALifn Om,dZ]
theorem MF{p q:List UInt8}(i t:Nat):pq p q i q.length t=oy p q (i+1) t:=by
 unfold pq oy
 rw[qt]
 congr 1
 by_cases h:i≤t
 ·rw[ALifp h]
  by_cases h2:t<i+q.length
  ·rw[ALifp ⟨h,h2⟩]
  ·rw[ALifn Om,gj (p:=q) Om,mp]
 ·rw[ALifn Om,ALifn h]
theorem MG{p q:List UInt8}(t:Nat):oy p q p.length t=conv (co p) (co q) t:=by
 unfold oy conv
 have h0: ∀a,(t+1≤a∨p.length≤a)→(if a≤t then gm (co p a) (co q (t-a)) else 0)=0:=λa ha=>by
  by_cases h:a≤t
  ·rw[ALifp h,gj (p:=p) Om,jd]
  ·rw[ALifn h]
 have e1:xs (t+1) (λa=>gm (co p a) (co q (t-a)))=xs (t+1) λa=>if a≤t then gm (co p a) (co q (t-a)) else 0:=kN λi hi=>by rw[ALifp Om]
 rw[e1]
 rcases Nat.le_total (t+1) p.length with h | h
 ·exact pm h _ λi hi=>h0 i (.inl hi)
 ·exact(pm h _ λi hi=>h0 i (.inr hi)).symm
def eS(p q:List UInt8)(i j:Nat):List UInt8:=gD (p.length+q.length) (pq p q i j)
theorem Dx(p q:List UInt8)(i j:Nat):(eS p q i j).length=p.length+q.length:=j5 _ _
theorem MI(p q:List UInt8):eS p q 0 0=nN (p.length+q.length) 0:=Dw _ _ λi _=>by rw[yz];rfl
theorem MJ(p q:List UInt8)(i:Nat):eS p q i q.length=eS p q (i+1) 0:=ve λt _=>by rw[MF,yz]
theorem MK{p q:List UInt8}{i j:Nat}(h:i+j<p.length+q.length):co (eS p q i j) (i+j)=oy p q i (i+j):=by
 unfold eS
 rw[lJ,ALifp h]
 unfold pq
 rw[ALifn Om,dZ]
theorem ML{p q:List UInt8}{i j:Nat}:(eS p q i j).set (i+j) (oy p q i (i+j)^^^gm (co p i) (co q j))=eS p q i (j+1):=
 yw _ _ _ _ _ λt _=>by
  unfold pq
  by_cases e:t=i+j
  ·subst e;rw[ALifp Om,ALifp rfl,jm]
  ·rw[ALifn e]
   by_cases h:i≤t∧t<i+j
   ·rw[ALifp Om,ALifp h]
   ·rw[ALifn Om,ALifn h]
theorem MM(p q:List UInt8):au (eS (au p) (au q) (a7 p) 0)=iH p q:=by
 unfold iH eS
 rw[mS,mS]
 refine Mo λt=>?_
 rw[lJ,lJ]
 split
 ·have h:=MG (p:=au p) (q:=au q) t
  rw[mS] at h
  rw[yz,h]
  exact Mg (λi _=>nH p i) (λi _=>nH q i)
 ·rfl
def fH(q:List UInt8)(a:UInt8)(o:List UInt8)(z j:Nat):List UInt8:=gD o.length λx=>if z≤x∧x<z+j then co o x^^^gm a (co q (x-z)) else co o x
theorem MN(q:List UInt8)(a:UInt8)(o:List UInt8)(z j:Nat):(fH q a o z j).length=o.length:=j5 _ _
theorem MO(q:List UInt8)(a:UInt8)(o:List UInt8)(z:Nat):fH q a o z 0=o:=by
 unfold fH
 rw[ve (g:=co o) λi _=>ALifn Om]
 exact ME o
theorem MP{q:List UInt8}{a:UInt8}{o:List UInt8}{z j:Nat}(h:z+j<o.length):co (fH q a o z j) (z+j)=co o (z+j):=by
 unfold fH
 rw[lJ,ALifp h,ALifn Om]
theorem MQ{q:List UInt8}{a:UInt8}{o:List UInt8}{z j:Nat}:(fH q a o z j).set (z+j) (co o (z+j)^^^gm a (co q j))=fH q a o z (j+1):=
 yw _ _ _ _ _ λt _=>by
  by_cases e:t=z+j
  ·subst e;rw[ALifp Om,ALifp rfl,jm]
  ·rw[ALifn e]
   by_cases h:z≤t∧t<z+j
   ·rw[ALifp Om,ALifp h]
   ·rw[ALifn Om,ALifn h]
theorem MR{q:List UInt8}{t:UInt8}{o:List UInt8}{d i:Nat}(h:d≤i):fH q (gm (co o i) t) o (i-d) (d+1)=pp q d t o i:=by
 unfold fH pp
 refine ve λx _=>?_
 by_cases h1:i-d≤x∧x<i-d+(d+1)
 ·rw[ALifp h1,ALifp Om]
 ·rw[ALifn h1,ALifn Om]
def hv(p:List UInt8)(x:UInt8):Nat→UInt8
 | 0=>0
 | j+1=>gm (hv p x j) x^^^co p (p.length-1-j)
theorem MS(p:List UInt8)(x:UInt8)(j:Nat)(hj:j≤p.length):gm (hv p x j) (pw x (p.length-j))^^^ev (co p) (p.length-j) x=fq p x:=by
 induction j with
 | zero=>rw[hv,jd,eF,Nat.sub_zero];rfl
 | succ j ih=>
  rw[←ih Om,hv,u7]
  obtain⟨m,hm⟩: ∃m,p.length-(j+1)=m:=⟨_,rfl⟩
  have h1:p.length-j=m+1:=by omega
  have h2:p.length-1-j=m:=by omega
  have e1:ev (co p) (m+1) x=ev (co p) m x^^^gm (co p m) (pw x m):=rfl
  rw[hm,h1,h2,e1,pw,nG,ko x,ir,na (gm (co p m) (pw x m))]
theorem MT(p:List UInt8)(x:UInt8):hv p x p.length=fq p x:=by
 have h:=MS p x p.length (jw _)
 rw[Nat.sub_self,pw,qp,show ev (co p) 0 x=0 from rfl,dZ] at h
 exact h
end Go.Proofs.YtbcodenfkijdnaaGreat
namespace Go.Proofs.YtbcodenfkijdnaaGreat.E
open Go Go.RowKit Go.Shelf
open Go.Proofs.Tryz renaming prog→dZ
def kB:Kd dZ UInt8:=⟨eB,[u1 0],191,5,0,1,λ_=>rfl,rfl,λ_=>rfl,d9.mk' Kr Kr rfl⟩
def pr:Value→Bool
 | .slice none _ _=>true
 | _=>false
theorem MU{i:Nat}{w:World}{α:Type}{en:α→List Value}{v:Value}{xs:List α}{bs:aw}(h:aK en v xs bs):(ar .eql 191 (.tmp i) (.const (.slice none 0 0)) v (.slice none 0 0)).run dZ w= .ok (.bool (pr v)) w:=by
 obtain⟨a,r,rfl⟩:=h.2
 cases a<;>kernel_rfl
theorem vg{α:Type}{en:α→List Value}{v:Value}{xs:List α}{bs:aw}(h:aK en v xs bs)(h1:pr v=true):xs=[]:=by
 rcases h.1 with⟨h2,_⟩ | ⟨g,off,cs,t,fr,c,rfl,_⟩
 ·exact h2
 ·cases h1
theorem Dy(v:Value)(xs:List UInt8)(hx:xs.length≤1000000):aa dZ 233 #[v] [.p (aK eB v xs)] [] (λE=>[bE (E.val 0) xs]) (λE=>(E.val 0)):=by
 refine fO Tryz.func233 0 rfl λbq0 hq0=>?_
 refine fG Tryz.func233 λw cs=>?_
 refine r0 [] [(2,.slice none 0 0)] [] (r0 [(1,.t (tv (ar .eql 191 (.tmp 3) (.const (.slice none 0 0)) (v) (.slice none 0 0)) (λ_=>MU hq0)))] [(4,.bool (pr v))] [] ?_)
 refine cB (pr v) (λh3=>?_) λh3=>?_
 ·refine r0 [] [(2,.slice none 0 0)] [2] ?_
  refine cz kB ?_
  exact lf (.l [] [] [.slice none 0 0]) [1] [(0,0)] [] (hf:=by(try rewrite [vg hq0 As]);kernel_rfl)
 exact rr (λq5=>[(0,.m (sa 1 eB ([u1 0]) 5)),(2,.m (mK 1 0 pa (.slice (some ⟨(q5 0).abd 0,0,none⟩) 0 0) (v) (xs:=[]) (ys:=xs) (.c bq0) (cP hq0.1) o9 (λ_=>rfl) (by simp only[LL];omega)))]) (λq5=>[(2,(q5 2).val 0)]) [2] (λq5 L=>L++[bE ((q5 2).val 0) (([])++xs)]) λq5=>lf (.l [] [] [(q5 2).val 0]) [1] [(0,0)] [] (hf:=by(try rewrite [vg hq0 As]);kernel_rfl)
theorem yA{P:Program}{T:TypeId}{x y:Operand}{w:World}{a:Int}{k:Nat}(h0: -9223372036854775807≤a-(k:Int))(h1:a-(k:Int)≤9223372036854775807):(ar .sub T x y (.int .i64 (a-(k:Int))) (.int .i64 1)).run P w= .ok (.int .i64 (a-((k+1:Nat):Int))) w:=by
 have h:=rx (P:=P) (T:=T) (x:=x) (y:=y) (w:=w) (a:=a-(k:Int)) (b:=1) Om Om
 rw[show a-(k:Int)-1=a-((k+1:Nat):Int) by omega] at h
 exact h
theorem MV{P:Program}{T:TypeId}{x y:Operand}{w:World}{k:Nat}(h:k<9223372036854775807):(ar .add T x y (.int .i64 ((k:Int)-1)) (.int .i64 1)).run P w= .ok (.int .i64 (k:Int)) w:=by
 have h:=rv (P:=P) (T:=T) (x:=x) (y:=y) (w:=w) (a:=(k:Int)-1) (b:=1) Om Om
 rw[show(k:Int)-1+1=k by omega] at h
 exact h
theorem MW{xs:List UInt8}:tl xs (xs.length-0)=a7 xs:=rfl
theorem MX{xs:List UInt8}{k:Nat}(ht:tl xs (xs.length-k)=a7 xs)(hk:0≤((xs.length:Nat):Int)-1-(k:Int))(h:(((xs.getD (xs.length-1-k) 0).toNat:Int)==0)=true):tl xs (xs.length-(k+1))=a7 xs:=by
 rw[show xs.length-k=(xs.length-1-k)+1 by omega,tl,ALifp (show Go.Proofs.YtbcodenfkijdnaaGreat.co xs (xs.length-1-k)=0 from va h)] at ht
 rw[←ht]
 congr 1
 omega
theorem MY{xs:List UInt8}{k:Nat}(ht:tl xs (xs.length-k)=a7 xs)(hk:0≤((xs.length:Nat):Int)-1-(k:Int))(h:(((xs.getD (xs.length-1-k) 0).toNat:Int)==0)=false):Value.int .i64 (((xs.length:Nat):Int)-1-(k:Int))= .int .i64 (((a7 xs:Nat):Int)-1):=by
 have h1:Go.Proofs.YtbcodenfkijdnaaGreat.co xs (xs.length-1-k)≠0:=λe=>by
  have e1:xs.getD (xs.length-1-k) 0=0:=e
  rw[e1] at h
  cases h
 rw[show xs.length-k=(xs.length-1-k)+1 by omega,tl,ALifn h1] at ht
 exact ALca (Value.int .i64) Om
theorem MZ{xs:List UInt8}{k:Nat}(ht:tl xs (xs.length-k)=a7 xs)(hk0:k≤xs.length)(hk: ¬0≤((xs.length:Nat):Int)-1-(k:Int)):Value.int .i64 (((xs.length:Nat):Int)-1-(k:Int))= .int .i64 (((a7 xs:Nat):Int)-1):=by
 rw[show xs.length-k=0 by omega] at ht
 rw[←ht]
 exact ALca (Value.int .i64) (by show _=((0:Nat):Int)-1;omega)
attribute [local irreducible] a7
theorem Dz(v:Value)(xs:List UInt8)(hx:xs.length≤1000000):aa dZ 231 #[v] [.p (aK eB v xs)] [] N0 (λ_=>i6 (((a7 xs:Nat):Int)-1)):=by
 refine fO Tryz.func231 0 rfl λbq0 hq0=>?_
 refine fG Tryz.func231 λw cs=>?_
 refine r0 [] [(2,i6 0)] [] (r0 [(1,eR hq0.1 0),(2,sI (xs.length:Int) (1) Om)] [(3,i6 ((xs.length:Int)-1))] [] ?_)
 refine lq (λk=>k≤xs.length∧(tl xs (xs.length-k)=a7 xs)) (λk=>[(3,i6 (((xs.length:Nat):Int)-1-((k:Nat):Int)))]) (λ_ L=>L) (λk=>xs.length-k) 0 ⟨by omega,MW⟩ (by rw[show((xs.length:Nat):Int)-1-((0:Nat):Int)=(xs.length:Int)-1 by omega];kernel_rfl) Kr (λk ⟨hk3,ht⟩=>?_)
 cases h4:(decide (0≤(((xs.length:Nat):Int)-1-((k:Nat):Int))))
 case true=>
  have dh4:=of_decide_eq_true h4
  refine r0 [(1,.t (tk (show Value.bool (decide (0≤(((xs.length:Nat):Int)-1-((k:Nat):Int))))= .bool true from ALca Value.bool h4))),(4,.t (tk (show i6 (((xs.length:Nat):Int)-1-((k:Nat):Int))=i6 ((xs.length-1-k:Nat):Int) from ALca (Value.int .i64) Om))),(5,fF hq0.1 0 (xs.length-1-k) 1),(6,jr kB hq0.1 0 (xs.length-1-k) 0)] [(15,.bool (((xs.getD (xs.length-1-k) 0).toNat:Int)==0))] [] ?_
  refine cZ ((xs.getD (xs.length-1-k) 0).toNat:Int) 0 (λh6 dh6=>?_) λh6 dh6=>?_
  ·refine r0 [(1,.t (tv (ar .sub 3 (.tmp 16) (.const (i6 1)) (i6 (((xs.length:Nat):Int)-1-((k:Nat):Int))) (i6 1)) (λ_=>yA Om Om)))] [(3,i6 (((xs.length:Nat):Int)-1-((k+1:Nat):Int)))] [3] ?_
   exact le (k+1) ⟨by omega,MX ht As As⟩ Om Kr [0] Kr
  refine lx ?_
  refine r0 [] [(2,i6 (((xs.length:Nat):Int)-1-((k:Nat):Int)))] [2] ?_
  exact am (i6 (((xs.length:Nat):Int)-1-((k:Nat):Int))) ab.zero (by exact MY ht As As) [] [(0,0)] []
 have dh4:=of_decide_eq_false h4
 refine rF [(1,.t (tk (show Value.bool (decide (0≤(((xs.length:Nat):Int)-1-((k:Nat):Int))))= .bool false from ALca Value.bool h4))),(3,.d),(4,.d),(5,.d),(6,.d),(7,.d)] 15 ?_
 refine lx ?_
 refine r0 [] [(2,i6 (((xs.length:Nat):Int)-1-((k:Nat):Int)))] [2] ?_
 exact am (i6 (((xs.length:Nat):Int)-1-((k:Nat):Int))) ab.zero (by exact MZ ht As As) [] [(0,0)] []
theorem M1(v:Value)(xs:List UInt8)(n:Nat)(hn:n≤xs.length)(hx:xs.length≤1000000):aa dZ 233 #[im v 0 n 1] [.p (aK eB v xs)] [] (λE=>[bE (E.val 0) (xs.take n)]) (λE=>E.val 0):=
 aa.at (Dy (im v 0 n 1) (xs.take n) (by rw[List.length_take];omega)) (bO (λ_ h=>aK.take (en:=eB) (k:=1) (λ_=>rfl) h hn) λ_ h=>h)
theorem vh(v:Value)(xs:List UInt8)(hx:xs.length≤1000000):aa dZ 234 #[v] [.p (aK eB v xs)] [] (λE=>[bE (E.val 0) (au xs)]) (λE=>(E.val 0)):=by
 have htl:=sD xs
 refine fO Tryz.func234 0 rfl λbq0 hq0=>?_
 refine fG Tryz.func234 λw cs=>?_
 exact r0 [] [(2,.slice none 0 0)] [] (rr (λ_=>[(2,.c [0] [] (aa.at (rd':=[.c bq0]) (Dz v xs Om) (em hq0 (λ_ h=>h)))),(3,.t (tv (ar .add 3 (.tmp 5) (.const (i6 1)) (i6 (((a7 xs:Nat):Int)-1)) (i6 1)) (λ_=>MV Om))),(4,.m (CM 0 (.c bq0) (a7 xs) 1 (cP hq0) Om)),(5,.c [0] [1] (aa.at (rd':=[.c bq0]) (M1 v xs (a7 xs) Om Om) (em hq0 (λ_ h=>h))))]) (λq2=>[(2,(q2 5).val 0)]) [2] (λq2 L=>L++[bE ((q2 5).val 0) ((xs).take ((a7 xs)))]) λq2=>lf (.l [] [] [((q2 5).val 0),(q2 5).val 0]) [1] [(0,0)] [] (hf:=by kernel_rfl))
attribute [local irreducible] au
theorem M2{p q:List UInt8}{i j:Nat}(h:i+j<p.length+q.length):eS p q i (j+1)=(eS p q i j).set (i+j) ((eS p q i j).getD (i+j) 0^^^gm (p.getD i 0) (q.getD j 0)):=by
 rw[←ML,←MK h];rfl
attribute [local irreducible] eS
theorem M3(g:Nat)(v u:Value)(p q:List UInt8)(hp:p.length≤50000)(hq:q.length≤50000):aa dZ 219 #[pt g 0,v,u] [ob g (rB 255 aP++rN 256 aW).toArray 312,.p (aK eB v p),.p (aK eB u q)] [] (λE=>[bE (E.val 0) (iH p q)]) (λE=>(E.val 0)):=by
 refine fO Tryz.func219 1 rfl λbq1 hq1=>?_
 refine fO Tryz.func219 2 rfl λbq2 hq2=>?_
 refine fG Tryz.func219 λw cs=>?_
 have hlp:=mS p
 have hlq:=mS q
 have tp2:=sD p
 have tq2:=sD q
 refine r0 [] [(6,.slice none 0 0)] [] (rr (λq2=>[(1,.c [1] [3] (aa.at (rd':=[.c bq1]) (vh v p Om) (em hq1 (λ_ h=>h)))),(3,.c [2] [4] (aa.at (rd':=[.c bq2]) (vh u q Om) (em hq2 (λ_ h=>h))))]) (λq2=>[(1,((q2 1).val 0)),(2,((q2 3).val 0))]) [1,2] (λq2 L=>L++[bE ((q2 1).val 0) (au p),bE ((q2 3).val 0) (au q)]) λq2=>rr (λ_=>[(1,fC kB ((q2 1).val 0) (au p) 3),(3,fC kB ((q2 3).val 0) (au q) 4),(4,ad ((au p).length) ((au q).length)),(5,su kB 5 (((au p).length)+((au q).length)))]) (λq3=>[(7,.slice (some ⟨(q3 5).abd 0,0,none⟩) (((au p).length)+((au q).length)) (((au p).length)+((au q).length)))]) [] (λq3 L=>L++[bE (.slice (some ⟨(q3 5).abd 0,0,none⟩) (((au p).length)+((au q).length)) (((au p).length)+((au q).length))) (List.replicate (((au p).length)+((au q).length)) 0)]) λq3=>r0 [(1,fC kB ((q2 1).val 0) (au p) 3)] [(22,((q2 1).val 0)),(23,i6 (((au p).length:Nat):Int)),(24,i6 0)] [] ?_)
 refine lq (λi=>i≤(au p).length) (λi=>[(24,iN i)]) (λi L=>L.set 5 (bE (.slice (some ⟨(q3 5).abd 0,0,none⟩) (((au p).length)+((au q).length)) (((au p).length)+((au q).length))) (eS (au p) (au q) i 0))) (λi=>((au p).length)-i) 0 Om Kr (by rw[MI];kernel_rfl) (λi hk5=>?_)
 refine r0 [] [(25,.bool (decide ((i:Int)<(((au p).length:Nat):Int))))] [] ?_
 refine cj (i:Int) (((au p).length:Nat):Int) (λh7 dh7=>?_) λh7 dh7=>?_
 ·refine r0 [(1,cU kB ((q2 1).val 0) (au p) 3 i),(2,fg kB ((q2 1).val 0) (au p) 3 i 0)] [(8,iN i),(9,u1 (((au p).getD i 0).toNat:Int))] [] ?_
  refine r0 [(1,fC kB ((q2 3).val 0) (au q) 4)] [(29,((q2 3).val 0)),(30,i6 (((au q).length:Nat):Int)),(31,i6 0)] [] ?_
  refine lq (λj=>j≤(au q).length) (λj=>[(31,iN j)]) (λj L=>L.set 5 (bE (.slice (some ⟨(q3 5).abd 0,0,none⟩) (((au p).length)+((au q).length)) (((au p).length)+((au q).length))) (eS (au p) (au q) i j))) (λj=>((au q).length)-j) 0 Om Kr Kr (λj hk10=>?_)
  have hml:=Dx (au p) (au q) i j
  refine r0 [] [(32,.bool (decide ((j:Int)<(((au q).length:Nat):Int))))] [] ?_
  refine cj (j:Int) (((au q).length:Nat):Int) (λh12 dh12=>?_) λh12 dh12=>?_
  ·refine r0 [(1,cU kB ((q2 3).val 0) (au q) 4 j),(2,fg kB ((q2 3).val 0) (au q) 4 j 0)] [(10,iN j),(11,u1 (((au q).getD j 0).toNat:Int))] [] ?_
   refine rs [(3,ad i j),(4,cU kB (.slice (some ⟨(q3 5).abd 0,0,none⟩) (((au p).length)+((au q).length)) (((au p).length)+((au q).length))) (eS (au p) (au q) i j) 5 (i+j)),(5,fg kB (.slice (some ⟨(q3 5).abd 0,0,none⟩) (((au p).length)+((au q).length)) (((au p).length)+((au q).length))) (eS (au p) (au q) i j) 5 (i+j) 0),(9,.c [0] [] (qr g ((au p).getD i 0) ((au q).getD j 0))),(10,.t (tb (a:=u1 (((eS (au p) (au q) i j).getD (i+j) 0).toNat:Int)) (b:=u1 ((gm ((au p).getD i 0) ((au q).getD j 0)).toNat:Int)) λ_ _ _ _=>Zs ((eS (au p) (au q) i j).getD (i+j) 0) ((gm ((au p).getD i 0) ((au q).getD j 0))))),(11,cU kB (.slice (some ⟨(q3 5).abd 0,0,none⟩) (((au p).length)+((au q).length)) (((au p).length)+((au q).length))) (eS (au p) (au q) i j) 5 (i+j)),(12,sj kB (.slice (some ⟨(q3 5).abd 0,0,none⟩) (((au p).length)+((au q).length)) (((au p).length)+((au q).length))) (eS (au p) (au q) i j) 5 (i+j) 0 (((eS (au p) (au q) i j).getD (i+j) 0)^^^(gm ((au p).getD i 0) ((au q).getD j 0))) (u1 ((((eS (au p) (au q) i j).getD (i+j) 0)^^^(gm ((au p).getD i 0) ((au q).getD j 0))).toNat:Int)) Kr)] 5 (bE (.slice (some ⟨(q3 5).abd 0,0,none⟩) (((au p).length)+((au q).length)) (((au p).length)+((au q).length))) ((eS (au p) (au q) i j).set (i+j) (((eS (au p) (au q) i j).getD (i+j) 0)^^^(gm ((au p).getD i 0) ((au q).getD j 0))))) (r0 [(0,ad j 1)] [(31,i6 ((j+1:Nat):Int))] [31] ?_)
   exact le (j+1) Om Om Kr [0,1,2,3,4,5] (by rw[M2 Om];kernel_rfl)
  obtain rfl:j=(au q).length:=by omega
  refine lx ?_
  refine r0 [(0,ad i 1)] [(24,i6 ((i+1:Nat):Int))] [24] ?_
  exact le (i+1) Om Om Kr [0,1,2,3,4,5] (by rw[←MJ (au p) (au q) i];kernel_rfl)
 obtain rfl:i=(au p).length:=by omega
 have hme:=Dx (au p) (au q) (au p).length 0
 refine lx ?_
 exact rr (λ_=>[(1,.c [5] [6] (aa.at (rd':=[bE (.slice (some ⟨(q3 5).abd 0,0,none⟩) (((au p).length)+((au q).length)) (((au p).length)+((au q).length))) (eS (au p) (au q) ((au p).length) 0)]) (vh (.slice (some ⟨(q3 5).abd 0,0,none⟩) (((au p).length)+((au q).length)) (((au p).length)+((au q).length))) (eS (au p) (au q) ((au p).length) 0) Om) (bO (λ_ h=>ap.sq h) (λ_ h=>h))))]) (λq17=>[(6,((q17 1).val 0))]) [6] (λq17 L=>L++[bE ((q17 1).val 0) (au (eS (au p) (au q) ((au p).length) 0))]) λq17=>lf (.l [] [] [((q17 1).val 0),(q17 1).val 0]) [6] [(0,0),(1,1),(2,2)] [] (hf:=by rw[←MM,←hlp];kernel_rfl)
theorem M4{q:List UInt8}{a:UInt8}{o:List UInt8}{z j:Nat}(h:z+j<o.length):fH q a o z (j+1)=(fH q a o z j).set (z+j) ((fH q a o z j).getD (z+j) 0^^^gm a (q.getD j 0)):=by
 rw[←MQ,←MP h];rfl
theorem M5{p q:List UInt8}{d k:Nat}{t:UInt8}(h:d≤p.length-1-k):bZ p q d t (k+1)=fH q (gm ((bZ p q d t k).getD (p.length-1-k) 0) t) (bZ p q d t k) (p.length-1-k-d) (d+1):=(MR h).symm
theorem DA{b:UInt8}(h:b≠0):(gX b != 0)=false:=by
 unfold gX
 rw[show((b.toNat:Int)==0)=false from beq_false_of_ne λe=>h (UInt8.toNat_inj.1 (by show b.toNat=0;omega))]
 rfl
attribute [local irreducible] bZ fH
theorem M6(g:Nat)(v u:Value)(p q:List UInt8)(d:Nat)(t:UInt8)(hp:p.length≤50000)(hq:q.length≤50000)(hd:a7 q=d+1)(hpd:d≤p.length)(ht:bX 1 (q.getD d 0)=t):aa dZ 203 #[pt g 0,v,u] [ob g (rB 255 aP++rN 256 aW).toArray 312,.p (aK eB v p),.p (aK eB u q)] [] (λE=>[bE (E.val 0) (dS p q t)]) (λE=> .tuple #[(E.val 0),i6 0]):=by
 refine fO Tryz.func203 1 rfl λbq1 hq1=>?_
 refine fO Tryz.func203 2 rfl λbq2 hq2=>?_
 refine fG Tryz.func203 λw cs=>?_
 have tq2:=sD q
 have tq3:q.getD d 0≠0:=ox q hd
 refine r0 [] [(6,.slice none 0 0),(7,i6 0)] [] (rr (λq2=>[(1,.c [2] [] (aa.at (rd':=[.c bq2]) (Dz u q Om) (em hq2 (λ_ h=>h)))),(2,.t (tk (show i6 (((a7 q:Nat):Int)-1)=iN d from ALca (Value.int .i64) Om)))]) (λ_=>[(8,iN d)]) [] (λ_ L=>L) λq2=>rF [(1,.t (tk (show Value.bool (decide ((d:Int)<0))= .bool false from ALca Value.bool (by exact bj Om))))] 18 (r0 [(3,fF hq2.1 2 d 1),(4,jr kB hq2.1 2 d 0),(5,.c [0] [] (L9 g (q.getD d 0))),(9,.t (tk (show u1 ((bX (1:UInt8) (q.getD d 0)).toNat:Int)=u1 (t.toNat:Int) from ALca (λz:UInt8=>Value.int .u8 (z.toNat:Int)) ht)))] [(9,u1 (t.toNat:Int)),(10,i6 (gX (q.getD d 0)))] [] (rF [(1,.t (tk (show Value.bool ((gX (q.getD d 0)) != 0)= .bool false from ALca Value.bool (by exact DA tq3))))] 29 (rr (λ_=>[(1,.c [1] [3] (aa.at (rd':=[.c bq1]) (Dy v p Om) (em hq1 (λ_ h=>h))))]) (λq6=>[(11,((q6 1).val 0))]) [] (λq6 L=>L++[bE ((q6 1).val 0) p]) λq6=>?_))))
 refine r0 [(1,fC kB ((q6 1).val 0) p 3),(2,sI (p.length:Int) (1) Om)] [(12,i6 ((p.length:Int)-1))] [] ?_
 refine lq (λk=>k≤p.length-d) (λk=>[(12,i6 (((p.length:Nat):Int)-1-((k:Nat):Int)))]) (λk L=>L.set 3 (bE ((q6 1).val 0) (bZ p q d t k))) (λk=>(p.length-d)-k) 0 Om (by rw[show((p.length:Nat):Int)-1-((0:Nat):Int)=(p.length:Int)-1 by omega];kernel_rfl) Kr (λk hk8=>?_)
 have hml:=sH p q d t k
 refine r0 [] [(38,.bool (decide ((d:Int)≤(((p.length:Nat):Int)-1-((k:Nat):Int)))))] [] ?_
 refine pd (d:Int) (((p.length:Nat):Int)-1-((k:Nat):Int)) (λh10 dh10=>?_) λh10 dh10=>?_
 ·refine r0 [(2,.t (tk (show i6 (((p.length:Nat):Int)-1-((k:Nat):Int))=i6 ((p.length-1-k:Nat):Int) from ALca (Value.int .i64) Om))),(3,cU kB ((q6 1).val 0) (bZ p q d t k) 3 (p.length-1-k)),(4,fg kB ((q6 1).val 0) (bZ p q d t k) 3 (p.length-1-k) 0),(6,.c [0] [] (qr g ((bZ p q d t k).getD (p.length-1-k) 0) t))] [(13,u1 ((gm ((bZ p q d t k).getD (p.length-1-k) 0) t).toNat:Int))] [] ?_
  refine r0 [(1,ad d 1)] [(49,i6 ((d+1:Nat):Int)),(50,i6 0)] [] ?_
  refine lq (λj=>j≤d+1) (λj=>[(50,iN j)]) (λj L=>L.set 3 (bE ((q6 1).val 0) (fH q (gm ((bZ p q d t k).getD (p.length-1-k) 0) t) (bZ p q d t k) (p.length-1-k-d) j))) (λj=>(d+1)-j) 0 Om Kr (by rw[MO];kernel_rfl) (λj hk13=>?_)
  have hil:=MN q (gm ((bZ p q d t k).getD (p.length-1-k) 0) t) (bZ p q d t k) (p.length-1-k-d) j
  refine r0 [] [(51,.bool (decide ((j:Int)<((d+1:Nat):Int))))] [] ?_
  refine cj (j:Int) ((d+1:Nat):Int) (λh15 dh15=>?_) λh15 dh15=>?_
  ·refine r0 [] [(14,iN j)] [] ?_
   refine rs [(1,.t (tk (show i6 (((p.length:Nat):Int)-1-((k:Nat):Int))=i6 ((p.length-1-k:Nat):Int) from ALca (Value.int .i64) Om))),(3,.t (tb (a:=i6 ((p.length-1-k:Nat):Int)) (b:=iN d) λ_ _ _ _=>mo (a:=p.length-1-k) (b:=d) Om Om)),(5,ad ((p.length-1-k)-d) j),(6,cU kB ((q6 1).val 0) (fH q (gm ((bZ p q d t k).getD (p.length-1-k) 0) t) (bZ p q d t k) (p.length-1-k-d) j) 3 (((p.length-1-k)-d)+j)),(7,fg kB ((q6 1).val 0) (fH q (gm ((bZ p q d t k).getD (p.length-1-k) 0) t) (bZ p q d t k) (p.length-1-k-d) j) 3 (((p.length-1-k)-d)+j) 0),(12,fF hq2.1 2 j 1),(13,jr kB hq2.1 2 j 0),(14,.c [0] [] (qr g (gm ((bZ p q d t k).getD (p.length-1-k) 0) t) (q.getD j 0))),(15,.t (tb (a:=u1 (((fH q (gm ((bZ p q d t k).getD (p.length-1-k) 0) t) (bZ p q d t k) (p.length-1-k-d) j).getD (((p.length-1-k)-d)+j) 0).toNat:Int)) (b:=u1 ((gm (gm ((bZ p q d t k).getD (p.length-1-k) 0) t) (q.getD j 0)).toNat:Int)) λ_ _ _ _=>Zs ((fH q (gm ((bZ p q d t k).getD (p.length-1-k) 0) t) (bZ p q d t k) (p.length-1-k-d) j).getD (((p.length-1-k)-d)+j) 0) ((gm (gm ((bZ p q d t k).getD (p.length-1-k) 0) t) (q.getD j 0))))),(16,cU kB ((q6 1).val 0) (fH q (gm ((bZ p q d t k).getD (p.length-1-k) 0) t) (bZ p q d t k) (p.length-1-k-d) j) 3 (((p.length-1-k)-d)+j)),(17,sj kB ((q6 1).val 0) (fH q (gm ((bZ p q d t k).getD (p.length-1-k) 0) t) (bZ p q d t k) (p.length-1-k-d) j) 3 (((p.length-1-k)-d)+j) 0 (((fH q (gm ((bZ p q d t k).getD (p.length-1-k) 0) t) (bZ p q d t k) (p.length-1-k-d) j).getD (((p.length-1-k)-d)+j) 0)^^^(gm (gm ((bZ p q d t k).getD (p.length-1-k) 0) t) (q.getD j 0))) (u1 ((((fH q (gm ((bZ p q d t k).getD (p.length-1-k) 0) t) (bZ p q d t k) (p.length-1-k-d) j).getD (((p.length-1-k)-d)+j) 0)^^^(gm (gm ((bZ p q d t k).getD (p.length-1-k) 0) t) (q.getD j 0))).toNat:Int)) Kr)] 3 (bE ((q6 1).val 0) ((fH q (gm ((bZ p q d t k).getD (p.length-1-k) 0) t) (bZ p q d t k) (p.length-1-k-d) j).set (((p.length-1-k)-d)+j) (((fH q (gm ((bZ p q d t k).getD (p.length-1-k) 0) t) (bZ p q d t k) (p.length-1-k-d) j).getD (((p.length-1-k)-d)+j) 0)^^^(gm (gm ((bZ p q d t k).getD (p.length-1-k) 0) t) (q.getD j 0))))) (r0 [(0,ad j 1)] [(50,i6 ((j+1:Nat):Int))] [50] ?_)
   exact le (j+1) Om Om Kr [0,1,2,3] (by rw[M4 Om];kernel_rfl)
  obtain rfl:j=d+1:=by omega
  refine lx ?_
  refine r0 [(1,.t (tv (ar .sub 3 (.tmp 39) (.const (i6 1)) (i6 (((p.length:Nat):Int)-1-((k:Nat):Int))) (i6 1)) (λ_=>yA Om Om)))] [(12,i6 (((p.length:Nat):Int)-1-((k+1:Nat):Int)))] [12] ?_
  exact le (k+1) Om Om Kr [0,1,2,3] (by rw[M5 Om];kernel_rfl)
 obtain rfl:k=p.length-d:=by omega
 have hme:=sH p q d t (p.length-d)
 refine lx ?_
 exact rr (λ_=>[(1,.c [3] [4] (aa.at (rd':=[bE ((q6 1).val 0) (bZ p q d t (p.length-d))]) (vh ((q6 1).val 0) (bZ p q d t (p.length-d)) Om) (bO (λ_ h=>ap.sq h) (λ_ h=>h))))]) (λq20=>[(6,((q20 1).val 0)),(7,i6 0)]) [6,7] (λq20 L=>L++[bE ((q20 1).val 0) (au (bZ p q d t (p.length-d)))]) λq20=>lf (.l [] [] [((q20 1).val 0),(q20 1).val 0]) [4] [(0,0),(1,1),(2,2)] [] (hf:=by rw[show dS p q t=au (bZ p q d t (p.length-d)) by unfold dS;rw[hd,Nat.add_sub_cancel]];kernel_rfl)
end Go.Proofs.YtbcodenfkijdnaaGreat.E
namespace Go.Proofs.YtbcodenfkijdnaaGreat.E
open Go Go.RowKit Go.Shelf
open List renaming length_range→dZ,length_map→eF
open Go.Proofs.Tryz renaming prog→ir
theorem M7(g:Nat)(v:Value)(xs:List UInt8)(hx:xs.length≤1000000)(bs:aw)(h:SrE eB v xs bs):fy 5 ir 289 #[pt g 0] (λ(x:Nat×UInt8)=>#[i6 (x.1:Int),u1 (x.2.toNat:Int)]) ((List.range xs.length).map λj=>(xs.length-1-j,xs.getD (xs.length-1-j) 0)) (List.flatten [[(g,.cells #[v] 191 (0,0))],bs]):=by
 refine gi (KO:=[[(g,.cells #[v] 191 (0,0))],bs]) Tryz.func289 (λlY JY JX WI RI hJ hY hI=>?_)
 refine r0 [(0,.l 0),(1,eR h 1),(2,sI (xs.length:Int) (1) Om)] [(3,i6 ((xs.length:Int)-1))] [] ?_
 refine kk (λk=>k≤xs.length) (λk=>[(3,i6 (((xs.length:Nat):Int)-1-((k:Nat):Int)))]) (λ_ L=>L) (λk=>xs.length-k) (λk=>k) 0 Om hI (by rw[show((xs.length:Nat):Int)-1-((0:Nat):Int)=(xs.length:Int)-1 by omega];kernel_rfl) Kr (λk R4 W5 hk2 hI3=>?_)
 refine r0 [] [(8,.bool (decide (0≤(((xs.length:Nat):Int)-1-((k:Nat):Int)))))] [] ?_
 refine pd 0 (((xs.length:Nat):Int)-1-((k:Nat):Int)) (λh7 dh7=>?_) λh7 dh7=>?_
 ·refine iy hJ hY hI3 6 (λ_=>[(1,.t (tk (show i6 (((xs.length:Nat):Int)-1-((k:Nat):Int))=i6 ((xs.length-1-k:Nat):Int) from ALca (Value.int .i64) Om))),(2,.l 0),(3,.t (tk (show i6 (((xs.length:Nat):Int)-1-((k:Nat):Int))=i6 ((xs.length-1-k:Nat):Int) from ALca (Value.int .i64) Om))),(4,fF h 1 (xs.length-1-k) 1),(5,jr kB h 1 (xs.length-1-k) 0)]) (λ_=>[(11,.func (.yield lY) #[] #[]),(12,i6 ((xs.length-1-k:Nat):Int)),(16,u1 ((xs.getD (xs.length-1-k) 0).toNat:Int))]) [] (λ_ L=>L) N0 [0,1] (o4 Om) (λq8 R9 W10 hI11=>?_)
  refine cF _ rfl (r0 [(1,.t (tv (ar .sub 3 (.tmp 9) (.const (i6 1)) (i6 (((xs.length:Nat):Int)-1-((k:Nat):Int))) (i6 1)) (λ_=>yA Om Om)))] [(3,i6 (((xs.length:Nat):Int)-1-((k+1:Nat):Int)))] [3] ?_)
  exact jc (k+1) Om hI11 Om Kr [0,1] Kr
 refine km ?_
 exact lH hJ hI3 (by rw[eF,dZ];omega) [] [0,1]
theorem M8(v:Value)(xs:List UInt8):aa ir 286 #[v] [.p (aK eB v xs)] [] (λE=>[ob (E.abd 0) #[v] 191]) (λE=> .func (.func 289) #[] #[pt ((E.abd 0)) 0]):=by
 refine fO Tryz.func286 0 rfl λbq0 hq0=>?_
 refine fG Tryz.func286 λw cs=>?_
 exact rr (λ_=>[(0,CO 1 0 (.c bq0) v (λ_ _=>aK.cells hq0))]) (λq1=>[(1,pt (B0 q1) 0),(2,.nilFunc)]) [] (λq1 L=>L++[ob (B0 q1) #[v] 191]) λq1=>r0 [] [(2,.func (.func 289) #[] #[pt (B0 q1) 0])] [2] (lf (.l [(q1 0).abd 0] [] []) [1] [(0,0)] [])
theorem M9(g:Nat)(v:Value)(p:List UInt8)(x:UInt8)(hp:p.length≤50000):aa ir 275 #[pt g 0,v,u1 (x.toNat:Int)] [ob g (rB 255 aP++rN 256 aW).toArray 312,.p (aK eB v p)] [] N0 (λ_=>u1 ((fq p x).toNat:Int)):=by
 refine fO Tryz.func275 1 rfl λbq1 hq1=>?_
 refine fG Tryz.func275 λw cs=>?_
 refine ra (λq1=>[(3,pt (B0 q1) 0),(5,pt (B1 q1) 0),(6,u1 0)]) (λq1=>[ob (B0 q1) #[pt g 0] 239,ob (B1 q1) #[u1 (x.toNat:Int)] 5]) λq1=>rr (λ_=>[(1,.s 4)]) (λq2=>[(7,pt (B0 q2) 0)]) [] (λq2 L=>L++[ob (B0 q2) #[u1 0] 5]) λq2=>rr (λ_=>[(1,.c [1] [5] (aa.at (rd':=[.c bq1]) (M8 v p) (em hq1 (λ_ h=>h))))]) (λq3=>[(11,.func (.func 289) #[] #[pt ((B1 q3)) 0])]) [] (λq3 L=>L++[ob (B1 q3) #[v] 191]) λq3=>?_
 refine ph (encs:=λ(x:Nat×UInt8)=>#[i6 (x.1:Int),u1 (x.2.toNat:Int)]) (xs:=(List.range p.length).map λj=>(p.length-1-j,p.getD (p.length-1-j) 0)) (KO:=[[((B1 q3),.cells #[v] 191 (0,0))],bq1]) (M7 (B1 q3) v p Om bq1 hq1.1) (enters_of Tryz.func289 Kr rfl) (λj=>j≤p.length) (λj L=>L.set 4 (ob (B0 q2) #[u1 ((hv p x j).toNat:Int)] 5)) [5,1] Om Kr (λlR j xE R1 W1 hxE hk5=>?_) (λD4 hk5=>?_)
 ·obtain⟨hkb6,rfl⟩:=oh hxE
  refine r0 [] [(9,u1 ((p.getD (p.length-1-j) 0).toNat:Int))] [] ?_
  refine ag [5,1] (λR2 W2=>?_)
  refine rs [(0,.l 2),(1,.l 4),(2,.l 3),(3,.c [0] [] (qr g (hv p x j) x)),(5,.t (tb (a:=u1 ((gm (hv p x j) x).toNat:Int)) (b:=u1 ((p.getD (p.length-1-j) 0).toNat:Int)) λ_ _ _ _=>Zs ((gm (hv p x j) x)) ((p.getD (p.length-1-j) 0)))),(6,.s 4)] 4 (ob (B0 q2) #[u1 (((gm (hv p x j) x)^^^(p.getD (p.length-1-j) 0)).toNat:Int)] 5) ?_
  exact ne _ ⟨Om,rfl⟩ [0,1,2,3,4,5] Kr
 refine cl [ob g (rB 255 aP++rN 256 aW).toArray 312,.c bq1,ob (B0 q1) #[pt g 0] 239,ob (B1 q1) #[u1 (x.toNat:Int)] 5,ob (B0 q2) #[u1 ((hv p x p.length).toNat:Int)] 5,ob (B1 q3) #[v] 191] (by rw[eF,dZ];kernel_rfl) ?_
 simp only[eF,dZ] at hk5
 refine r0 [(0,.l 4)] [(6,u1 ((hv p x p.length).toNat:Int))] [6] ?_
 exact am (u1 ((hv p x p.length).toNat:Int)) ab.zero (by rw[MT]) [] [(0,0),(1,1)] []
attribute [local irreducible] iH
theorem Na(g:Nat)(v:Value)(rs:List UInt8)(hr:rs.length≤100):aa ir 183 #[pt g 0,v] [ob g (rB 255 aP++rN 256 aW).toArray 312,.p (aK eB v rs)] [] (λE=>[bE (E.val 0) (iI rs rs.length)]) (λE=>(E.val 0)):=by
 refine fO Tryz.func183 1 rfl λbq1 hq1=>?_
 refine fG Tryz.func183 λw cs=>?_
 refine r0 [] [(4,.slice none 0 0)] [] (rr (λ_=>[(0,ip kB 2 1 [(1:UInt8)])]) (λq2=>[(5,.slice (some ⟨(q2 0).abd 0,0,none⟩) 1 1)]) [] (λq2 L=>L++[bE (.slice (some ⟨(q2 0).abd 0,0,none⟩) 1 1) ([(1:UInt8)])]) λq2=>r0 [(1,eR hq1.1 1)] [(9,v),(10,iN rs.length),(11,i6 0)] [] ?_)
 refine mN (λk _=>k≤rs.length) (λk vS5=>[(11,iN k),(5,vS5)]) (λk vS5 L=>L.set 2 (bE vS5 (iI rs k))) (λk _=>rs.length-k) 0 (.slice (some ⟨(q2 0).abd 0,0,none⟩) 1 1) Om Kr Kr (λk vS5 hk4=>?_)
 have hrl:=Mx rs k
 have hl2:([rs.getD k 0,(1:UInt8)]:List UInt8).length=2:=rfl
 refine r0 [] [(12,.bool (decide ((k:Int)<(rs.length:Int))))] [] ?_
 refine cj (k:Int) (rs.length:Int) (λh6 dh6=>?_) λh6 dh6=>?_
 ·refine r0 [(0,fF hq1.1 1 k 1),(1,jr kB hq1.1 1 k 0)] [(7,u1 ((rs.getD k 0).toNat:Int))] [] ?_
  refine rr (λq8=>[(3,ip kB 3 2 [rs.getD k 0,(1:UInt8)]),(4,.c [0,2,3] [4] (aa.at (rd':=[ob g (rB 255 aP++rN 256 aW).toArray 312,bE vS5 (iI rs k),bE (.slice (some ⟨(q8 3).abd 0,0,none⟩) 2 2) ([rs.getD k 0,(1:UInt8)])]) (M3 g vS5 (.slice (some ⟨(q8 3).abd 0,0,none⟩) 2 2) (iI rs k) ([rs.getD k 0,(1:UInt8)]) Om Om) (ak (bO (λ_ h=>ap.sq h) (bO (λ_ h=>ap.sq h) (λ_ h=>h))))))]) (λq8=>[(5,((q8 4).val 0))]) [5] (λq8 L=>L++[bE (.slice (some ⟨(q8 3).abd 0,0,none⟩) 2 2) ([rs.getD k 0,(1:UInt8)]),bE ((q8 4).val 0) (iH (iI rs k) ([rs.getD k 0,(1:UInt8)]))]) λq8=>r0 [(0,ad k 1)] [(11,i6 ((k+1:Nat):Int))] [11] ?_
  exact lE (k+1) ((q8 4).val 0) Om Om Kr [0,1,4] Kr
 obtain rfl:rs.length=k:=by omega
 refine lF ?_
 exact r0 [] [(4,vS5)] [4] (lf (.l [] [] [vS5]) [2] [(0,0),(1,1)] [])
end Go.Proofs.YtbcodenfkijdnaaGreat.E
namespace Go.Proofs.YtbcodenfkijdnaaGreat
open Nat renaming mod_eq_of_lt→dZ
open List renaming getD_eq_getElem?_getD→eF,replicate→ir
open UInt8 renaming toNat_ofNat'→jg
theorem vi(i:Nat):(pw 2 i).toNat=gE (i%255):=by
 induction i with
 | zero=>decide+kernel
 | succ i ih=>
  rw[pw,lI,ih]
  have h2:(2:UInt8).toNat=gE 1:=by decide+kernel
  rw[h2,sC _ _ (Nat.mod_lt _ Om) (by decide+kernel)]
  have h3:gL (gE 1)=1:=by decide+kernel
  rw[h3]
  congr 1
  omega
theorem DD: ∀i,i<255→gL (gE i)=i:=by decide+kernel
theorem Nb{i j:Nat}(hi:i<255)(hj:j<255)(h:pw 2 i=pw 2 j):i=j:=by
 have h1:=ALca UInt8.toNat h
 rw[vi,vi,dZ hi,dZ hj] at h1
 rw[←DD i hi,←DD j hj,h1]
theorem Nc{x:UInt8}(h:x≠0):pw 2 (gL x.toNat)=x:=by
 have hx:x.toNat≠0:=λe=>h (UInt8.toNat_inj.1 e)
 have h1: ∀a,a<256→a≠0→gL a<255∧gE (gL a)=a:=by decide+kernel
 obtain⟨h2,h3⟩:=h1 x.toNat x.toNat_lt hx
 apply UInt8.toNat_inj.1
 rw[vi,dZ h2,h3]
theorem Nd{x:UInt8}(h:x≠0):gL x.toNat<255:=by
 have hx:x.toNat≠0:=λe=>h (UInt8.toNat_inj.1 e)
 have h1: ∀a,a<256→a≠0→gL a<255:=by decide+kernel
 exact h1 x.toNat x.toNat_lt hx
structure Vd where
 aa2:Nat
 place:Int
 val:UInt8
deriving DecidableEq
def hit(s:Nat→UInt8)(i:Nat):Bool:=s 0 != 0&&s 1==gm (s 0) (pw 2 i)&&s 2==gm (s 1) (pw 2 i)&&s 3==gm (s 2) (pw 2 i)
theorem pu(s:Nat→UInt8)(i:Nat):hit s i=true↔s 0≠0∧s 1=gm (s 0) (pw 2 i)∧s 2=gm (s 1) (pw 2 i)∧s 3=gm (s 2) (pw 2 i):=by
 unfold hit
 simp only[Bool.and_eq_true,bne_iff_ne,beq_iff_eq,and_assoc]
theorem DE{a x y:UInt8}(ha:a≠0)(h:gm a x=gm a y):x=y:=by
 have h1:gm a (x^^^y)=0:=by rw[yq,h,UInt8.xor_self]
 apply Classical.byContradiction
 intro hne
 exact Db _ _ ha (λe=>hne (UInt8.xor_eq_zero_iff.1 e)) h1
theorem DF{s:Nat→UInt8}{i j:Nat}(hi:i<255)(hj:j<255)(h1:hit s i=true)(h2:hit s j=true):i=j:=by
 obtain⟨a1,a2,_⟩:=(pu s i).1 h1
 obtain⟨_,b2,_⟩:=(pu s j).1 h2
 exact Nb hi hj (DE a1 (a2.symm.trans b2))
def j6(s:Nat→UInt8):Nat→Option Nat
 | 0=>none
 | k+1=>match j6 s k with
  | some i=>some i
  | none=>if hit s k then some k else none
theorem DG{s:Nat→UInt8}{k:Nat}:j6 s k=none↔∀i,i<k→hit s i=false:=by
 induction k with
 | zero=>exact⟨λ_ i hi=>by omega,λ_=>rfl⟩
 | succ k ih=>
  rw[j6]
  cases h:j6 s k with
  | some i=>
   refine⟨λh=>(by cases h),λh2=>?_⟩
   have:=ih.2 λi hi=>h2 i Om
   rw[h] at this;cases this
  | none=>
   by_cases h2:hit s k=true
   ·simp only[h2,if_true]
    exact⟨λh=>(by cases h),λh3=>by rw[h3 k Om] at h2;cases h2⟩
   ·simp only[h2]
    refine⟨λ_ i hi=>?_,λ_=>rfl⟩
    by_cases e:i=k
    ·subst e;simpa using h2
    ·exact(ih.1 h) i Om
theorem DH{s:Nat→UInt8}{k i:Nat}(hk:k≤255)(hi:i<k)(h:hit s i=true):j6 s k=some i:=by
 cases hf:j6 s k with
 | none=>rw[DG.1 hf i hi] at h;cases h
 | some j=>
  have key: ∀k,j6 s k=some j→j<k∧hit s j=true:=λk=>by
   induction k with
   | zero=>intro h;cases h
   | succ k ih=>
    intro h
    rw[j6] at h
    cases h2:j6 s k with
    | some l=>
     rw[h2] at h
     obtain rfl:=Option.some.inj h
     have:=ih h2
     exact⟨by omega,this.2⟩
    | none=>
     rw[h2] at h
     by_cases h3:hit s k=true
     ·simp only[h3,if_true] at h
      obtain rfl:=Option.some.inj h
      exact⟨by omega,h3⟩
     ·simp only[h3] at h;cases h
  obtain⟨h1,h2⟩:=key k hf
  rw[DF Om Om h2 h]
def kQ(s:Nat→UInt8):Prop:=s 0=0∧s 1=0∧s 2=0∧s 3=0
instance (s:Nat→UInt8):Decidable (kQ s):=by unfold kQ;exact inferInstance
def eb(s:Nat→UInt8):Vd:=if kQ s then⟨0, -1,0⟩ else match j6 s 39 with
 | some i=>if 35<i then⟨2,i,s 0⟩ else⟨1,i,s 0⟩
 | none=>⟨3, -1,0⟩
theorem yB{s:Nat→UInt8}(h:kQ s):eb s=⟨0, -1,0⟩:=ALifp h
theorem DI{s:Nat→UInt8}{i:Nat}(h:hit s i=true): ¬kQ s:=λhn=>((pu s i).1 h).1 hn.1
theorem DJ{s:Nat→UInt8}{i:Nat}(hi:i≤35)(h:hit s i=true):eb s=⟨1,i,s 0⟩:=by
 unfold eb
 rw[ALifn (DI h),DH Om (show i<39 by omega) h]
 exact ALifn Om
theorem DK{s:Nat→UInt8}{i:Nat}(h1:35<i)(hi:i<39)(h:hit s i=true):eb s=⟨2,i,s 0⟩:=by
 unfold eb
 rw[ALifn (DI h),DH Om hi h]
 exact ALifp h1
theorem yC{s:Nat→UInt8}(h0: ¬kQ s)(h: ∀i,i<39→hit s i=false):eb s=⟨3, -1,0⟩:=by
 unfold eb
 rw[ALifn h0,DG.2 h]
theorem Nh{s:Nat→UInt8}{r:UInt8}(h0:s 0≠0)(hr:gm r (s 0)=s 1)(hr0:r≠0)(h2:s 2=gm (s 1) r)(h3:s 3=gm (s 2) r):hit s (gL r.toNat)=true:=by
 rw[pu,Nc hr0]
 exact⟨h0,by rw[←hr,ko],h2,h3⟩
theorem DM{s:Nat→UInt8}{r:UInt8}(hr:gm r (s 0)=s 1)(h:r=0∨s 2≠gm (s 1) r∨s 3≠gm (s 2) r)(i:Nat):hit s i=false:=by
 cases hh:hit s i with
 | false=>rfl
 | true=>
  exfalso
  obtain⟨a0,a1,a2,a3⟩:=(pu s i).1 hh
  have e:r=pw 2 i:=DE a0 (by rw[ko,hr,a1])
  subst e
  rcases h with h | h | h
  ·have h5:=vi i
   rw[h] at h5
   have h6: ∀m,m<255→gE m≠0:=by decide+kernel
   exact h6 (i%255) (Nat.mod_lt _ Om) h5.symm
  ·exact h a2
  ·exact h a3
def cE:List UInt8:=Mw [1,2,4,8]
theorem DN:cE=[64,120,54,15,1]:=by decide+kernel
def gi(x:UInt8):UInt8:=UInt8.ofNat (nF 1 x.toNat)
theorem Ni(x:UInt8):(gi x).toNat=nF 1 x.toNat:=by unfold gi;rw[jg];exact dZ (C8 _ _)
theorem DO{x:UInt8}(h:x≠0):gm x (gi x)=1:=by
 rw[ko]
 apply UInt8.toNat_inj.1
 rw[lI,Ni,C9 _ _ Om x.toNat_lt (λe=>h (UInt8.toNat_inj.1 e))]
 rfl
def pv(d v:List UInt8):List UInt8:=ir 4 0++d++v
def kR(d v:List UInt8):List UInt8:=dS (pv d v) cE (gi (co cE (a7 cE-1)))
def iq(d v:List UInt8):List UInt8:=gD 4 (co (kR d v))
theorem iJ(d v:List UInt8):(iq d v).length=4:=j5 _ _
theorem px:a7 cE=5:=by
 have h:=Dt [1,2,4,8] 4
 exact h
theorem Nj:cE.length=5:=by rw[DN];rfl
theorem yD(d v:List UInt8):(kR d v).length≤4:=by
 have h:=(Du (p:=pv d v) (q:=cE) (t:=gi (co cE (a7 cE-1))) (by rw[px];omega) (DO (ox cE (t:=a7 cE-1) (by rw[px])))).2
 rw[MB,px] at h
 exact Nat.le_of_lt_succ h
theorem Nk(d v:List UInt8):kR d v++(ir 4 (0:UInt8)).drop (kR d v).length=iq d v:=by
 have hl:=yD d v
 refine pn (by rw[iJ];simp;omega) λi hi=>?_
 have hi4:i<4:=by simp at hi;omega
 unfold iq
 rw[lJ,ALifp hi4]
 unfold co
 rw[eF,eF]
 by_cases h:i<(kR d v).length
 ·rw[List.getElem?_append_left h]
 ·rw[List.getElem?_append_right Om,List.getElem?_eq_none (l:=kR d v) Om,List.getElem?_drop]
  rw[show(kR d v).length+(i-(kR d v).length)=i by omega,List.getElem?_replicate,ALifp hi4]
  rfl
def qu(w v:List UInt8)(j:Nat):UInt8:=fq (w++v) (pw 2 j)
def aT(w v:List UInt8):List UInt8:=gD 4 (qu w v)
theorem yE(w v:List UInt8):(aT w v).length=4:=j5 _ _
def lK(w v:List UInt8)(k:Nat):List UInt8:=gD 4 λj=>if j<k then qu w v j else 0
theorem yF(w v:List UInt8)(k:Nat):(lK w v k).length=4:=j5 _ _
theorem Nl(w v:List UInt8):lK w v 0=ir 4 0:=Dw _ _ λi _=>ALifn Om
theorem Nm(w v:List UInt8):lK w v 4=aT w v:=ve λi hi=>ALifp hi
theorem Nn(w v:List UInt8)(k:Nat):(lK w v k).set k (qu w v k)=lK w v (k+1):=
 yw _ _ _ _ _ λi _=>by
  by_cases e:i=k
  ·subst e;rw[ALifp Om,ALifp rfl]
  ·rw[ALifn e]
   by_cases h:i<k
   ·rw[ALifp Om,ALifp h]
   ·rw[ALifn Om,ALifn h]
def gd(x y:UInt8):UInt8:=UInt8.ofNat (nF x.toNat y.toNat)
theorem No(x y:UInt8):(gd x y).toNat=nF x.toNat y.toNat:=by unfold gd;rw[jg];exact dZ (C8 _ _)
theorem DP(x:UInt8){y:UInt8}(hy:y≠0):gm (gd x y) y=x:=by
 apply UInt8.toNat_inj.1
 rw[lI,No,C9 _ _ x.toNat_lt y.toNat_lt (λe=>hy (UInt8.toNat_inj.1 e))]
theorem Np{s:Nat→UInt8}(h:(((eb s).aa2:Int)==1)=true): ∃i:Nat,i≤35∧(eb s).place=(i:Int):=by
 unfold eb at h⊢
 by_cases hn:kQ s
 ·rw[ALifp hn] at h;cases h
 ·rw[ALifn hn] at h⊢
  cases hf:j6 s 39 with
  | none=>rw[hf] at h;cases h
  | some i=>
   rw[hf] at h
   by_cases h35:35<i
   ·simp only[ALifp h35] at h;cases h
   ·exact⟨i,by omega,by simp only[ALifn h35]⟩
def Hs(d v:List UInt8):List UInt8:=bif ((eb (co (aT d v))).aa2:Int)==1 then(d.set (eb (co (aT d v))).place.toNat ((d.getD (eb (co (aT d v))).place.toNat 0)^^^(eb (co (aT d v))).val)).drop 4 else d.drop 4
end Go.Proofs.YtbcodenfkijdnaaGreat
namespace Go.Proofs.YtbcodenfkijdnaaGreat.E
open Go Go.RowKit Go.Shelf
attribute [local irreducible] a7 au iI iH dS aP aW
def j7:Nat→List UInt8
 | 0=>[]
 | k+1=>j7 k++[kM (aP.getD (dJ 1) 0) k]
theorem yG: ∀k,(j7 k).length=k
 | 0=>rfl
 | k+1=>by rw[j7,List.length_append,yG k];rfl
theorem Nq:iI (j7 4) (j7 4).length=cE:=by decide+kernel
theorem Nr(g:Nat):aa Tryz.prog 141 #[pt g 0] [ob g (rB 255 aP++rN 256 aW).toArray 312] [] (λE=>[ob (E.abd 0) #[pt g 0,(E.val 0)] 309,bE (E.val 0) cE]) (λE=>pt ((E.abd 0)) 0):=by
 refine fG Tryz.func141 λw cs=>?_
 refine r0 [] [(2,.pointer none)] [] (ra (λq2=>[(3,pt (B0 q2) 0)]) (λq2=>[ob (B0 q2) #[.slice none 0 0] 191]) λq2=>rr (λ_=>[(2,.c [0] [] (u9 g 1 Om Om)),(3,.c [] [2,3,4] (Mb g (aP.getD (dJ 1) 0) 4))]) (λq3=>[(9,.func (.func 216) #[] #[pt ((B3 q3)) 0,pt (((q3 3).abd 1)) 0,pt (((q3 3).abd 2)) 0])]) [] (λq3 L=>L++[ob (B3 q3) #[i6 4] 3,ob ((q3 3).abd 1) #[pt g 0] 239,ob ((q3 3).abd 2) #[u1 ((aP.getD (dJ 1) 0).toNat:Int)] 5]) λq3=>?_)
 refine cz kB ?_
 refine cz kB ?_
 refine KQ (encs:=λ(x:Nat×UInt8)=>#[i6 (x.1:Int),u1 (x.2.toNat:Int)]) (xs:=(List.range 4).map λk=>(k,kM (aP.getD (dJ 1) 0) k)) (KO:=[[((B3 q3),.cells #[i6 4] 3 (0,0))],[(((q3 3).abd 1),.cells #[pt g 0] 239 (0,0))],[(((q3 3).abd 2),.cells #[u1 ((aP.getD (dJ 1) 0).toNat:Int)] 5 (0,0))],[(g,.cells (rB 255 aP++rN 256 aW).toArray 312 (0,0))]]) (Md (B3 q3) ((q3 3).abd 1) ((q3 3).abd 2) g (aP.getD (dJ 1) 0)) (enters_of Tryz.func216 Kr rfl) (λj _=>j≤4) (λj vC3_0 L=>(L.set 1 (ob (B0 q2) #[vC3_0] 191)).set 6 (bE vC3_0 (j7 j))) [2,3,4,0] (.slice none 0 0) Om Kr (λlR j vC3_0 xE R1 W1 hxE hk5=>?_) (λD4 vC3_0 hk5=>?_)
 ·obtain⟨hkb6,rfl⟩:=oh hxE
  have hpl:=yG j
  refine r0 [] [(5,u1 ((kM (aP.getD (dJ 1) 0) j).toNat:Int))] [] ?_
  refine ag [2,3,4,0] (λR2 W2=>?_)
  refine rr (λq8=>[(0,.l 1),(2,.m (bs 7 1)),(3,fD kB (vC3_0) (j7 j) 6 7 ([(kM (aP.getD (dJ 1) 0) j)])),(4,.m (fZ 1 6 (bE ((q8 3).val 0) ((j7 j)++([(kM (aP.getD (dJ 1) 0) j)]))) ((q8 3).val 0) λbs h=>ap.one ((λ_ h=>h) bs h)))]) N0 [] (λq8 L=>(L.set 1 (ob (B0 q2) #[(q8 3).val 0] 191)).set 6 (bE ((q8 3).val 0) ((j7 j)++([(kM (aP.getD (dJ 1) 0) j)])))++[ob (B2 q8) #[u1 ((kM (aP.getD (dJ 1) 0) j).toNat:Int)] 5]) λq8=>?_
  exact ne _ ⟨(q8 3).val 0,Om,rfl⟩ [0,1,2,3,4,5,6] Kr
 have hpe:=yG 4
 exact rr (λq9=>[(2,.l 1),(3,.c [0,6] [7] (aa.at (rd':=[ob g (rB 255 aP++rN 256 aW).toArray 312,bE vC3_0 (j7 4)]) (Na g vC3_0 (j7 4) Om) (ak (bO (λ_ h=>ap.sq h) (λ_ h=>h))))),(4,Lh (v:= .agg #[pt g 0,((q9 3).val 0)]) 7 (bE ((q9 3).val 0) (iI (j7 4) (j7 4).length)) (Instr.build 309 #[(0,pt g 0),(1,((q9 3).val 0))]) (λbs h w=>by obtain⟨a5,c5,e5⟩:=ap.form h;rw[e5];kernel_rfl))]) (λq9=>[(2,pt (B5 q9) 0)]) [2] (λq9 L=>L++[bE ((q9 3).val 0) (iI (j7 4) (j7 4).length),ob (B5 q9) #[pt g 0,((q9 3).val 0)] 309]) λq9=>lf (.l [(q9 5).abd 0] [] [((q9 3).val 0)]) [8,7] [(0,0)] [] (hf:=by rw[←Nq];kernel_rfl)
def tG:UInt8:=bX 1 (cE.getD 4 0)
theorem Nu:tG=Go.Proofs.YtbcodenfkijdnaaGreat.gi (Go.Proofs.YtbcodenfkijdnaaGreat.co cE (a7 cE-1)):=by
 rw[px];decide+kernel
theorem DQ(d v:List UInt8):dS ((List.replicate 4 0++d)++v) cE tG=kR d v:=by rw[Nu];rfl
theorem Nv:cE.length=5:=Nj
attribute [local irreducible] cE
end Go.Proofs.YtbcodenfkijdnaaGreat.E
namespace Go.Proofs.YtbcodenfkijdnaaGreat.E
open Go Go.RowKit Go.Shelf
open List renaming replicate→dZ
attribute [local irreducible] a7 au iI iH dS aP aW cE
attribute [local irreducible] fq
theorem Nw{k:Nat}(h:k<4):aP.getD (dJ (k:Int)) 0=Go.Proofs.YtbcodenfkijdnaaGreat.pw 2 k:=by
 have: ∀k:Nat,k<4→aP.getD (dJ (k:Int)) 0=Go.Proofs.YtbcodenfkijdnaaGreat.pw 2 k:=by decide+kernel
 exact this k h
theorem Nx{w v:List UInt8}{k:Nat}(h:k<4):lK w v (k+1)=(lK w v k).set k (fq (w++v) (aP.getD (dJ (k:Int)) 0)):=by
 rw[←Nn,Nw h];rfl
attribute [local irreducible] lK
theorem Ny(cb g:Nat)(u:Value)(d v:List UInt8)(hd:d.length=36)(hv:v.length=3):aa Tryz.prog 256 #[pt cb 0,.agg (rB 36 d).toArray,.agg (rB 3 v).toArray] [ob cb #[pt g 0,u] 309,ob g (rB 255 aP++rN 256 aW).toArray 312,.p (aK eB u cE)] [] N0 (λ_=> .agg (rB 4 (aT d v)).toArray):=by
 refine fO Tryz.func256 2 rfl λbq2 hq2=>?_
 refine fG Tryz.func256 λw cs=>?_
 have hms:(([]++d)++v).length=39:=by rw[List.nil_append,List.length_append,hd,hv]
 refine ra (λq1=>[(4,pt (B0 q1) 0),(5,pt (B1 q1) 0),(6,pt (B2 q1) 0)]) (λq1=>[ob (B0 q1) (rB 36 d).toArray 371,ob (B1 q1) (rB 3 v).toArray 262,ob (B2 q1) (rB 4 (dZ 4 0)).toArray 268]) λq1=>ra (λq2=>[(7,pt (B0 q2) 0)]) (λq2=>[ob (B0 q2) (rB 4 (dZ 4 0)).toArray 268]) λq2=>rr (λq3=>[(0,.m (sa 7 eB ([u1 0]) 5)),(1,aS 371 (B0 q1) 36 1),(2,.m (mK 7 3 pa (.slice (some ⟨(q3 0).abd 0,0,none⟩) 0 0) (.slice (some ⟨(q1 0).abd 0,0,none⟩) 36 36) (xs:=[]) (ys:=d) (ob (B0 q1) (rB 36 d).toArray 371) (λ_ h=>by rw[show _=_ from h];exact pj (λ_=>rfl) hd) o9 (λ_=>rfl) (by simp only[LL,yF,hd,hv];omega))),(3,aS 262 (B1 q1) 3 1),(4,.m (mK 7 4 pa ((q3 2).val 0) (.slice (some ⟨(q1 1).abd 0,0,none⟩) 3 3) (xs:=[]++d) (ys:=v) (ob (B1 q1) (rB 3 v).toArray 262) (λ_ h=>by rw[show _=_ from h];exact pj (λ_=>rfl) hv) o9 (λ_=>rfl) (by simp only[LL,yF,hd,hv];omega)))]) (λq3=>[(8,(q3 4).val 0)]) [] (λq3 L=>L++[bE ((q3 4).val 0) (([]++d)++v)]) λq3=>r0 [] [(15,i6 0)] [] ?_
 refine lq (λk=>k≤4) (λk=>[(15,iN k)]) (λk L=>L.set 6 (ob (B0 q2) (rB 4 (lK d v k)).toArray 268)) (λk=>4-k) 0 Om Kr (by rw[Nl];kernel_rfl) (λk hk5=>?_)
 refine r0 [] [(16,.bool (decide ((k:Int)<4)))] [] ?_
 refine cj (k:Int) 4 (λh7 dh7=>?_) λh7 dh7=>?_
 ·refine r0 [] [(9,iN k)] [] ?_
  refine rs [(4,.l 0),(9,.l 0),(11,.c [1] [] (u9 g (k:Int) Om Om)),(12,.c [1,7] [] (aa.at (rd':=[ob g (rB 255 aP++rN 256 aW).toArray 312,bE ((q3 4).val 0) (([]++d)++v)]) (M9 g ((q3 4).val 0) (([]++d)++v) (aP.getD (dJ (k:Int)) 0) Om) (ak (bO (λ_ h=>ap.sq h) (λ_ h=>h))))),(13,iA 268 .i64 (B0 q2) 0 4 1 k),(14,wD 6 (B0 q2) k 268 (u1 ((fq (([]++d)++v) (aP.getD (dJ (k:Int)) 0)).toNat:Int)) (rB 4 (lK d v k)) (rB 4 ((lK d v k).set k (fq (([]++d)++v) (aP.getD (dJ (k:Int)) 0)))) (kg Om) (mJ (yF ..)))] 6 (ob (B0 q2) (rB 4 ((lK d v k).set k (fq (([]++d)++v) (aP.getD (dJ (k:Int)) 0)))).toArray 268) (r0 [(0,ad k 1)] [(15,i6 ((k+1:Nat):Int))] [15] ?_)
  exact le (k+1) Om Om Kr [0,1,2,3,4,5,6,7] (by rw[Nx Om];kernel_rfl)
 obtain rfl:k=4:=by omega
 refine cl [ob cb #[pt g 0,u] 309,ob g (rB 255 aP++rN 256 aW).toArray 312,.c bq2,ob (B0 q1) (rB 36 d).toArray 371,ob (B1 q1) (rB 3 v).toArray 262,ob (B2 q1) (rB 4 (dZ 4 0)).toArray 268,ob (B0 q2) (rB 4 (aT d v)).toArray 268,bE ((q3 4).val 0) (([]++d)++v)] (by rw[Nm];kernel_rfl) ?_
 refine lx ?_
 exact rs [(0,.l 6),(1,.s 5)] 5 (ob (B2 q1) (rB 4 (aT d v)).toArray 268) (lf ab.zero [] [(0,0),(1,1),(2,2)] [5])
theorem yH:aa Tryz.prog 273 #[] [] [] N0 (λ_=> .agg #[i6 3,i6 (-1),u1 0]):=by
 refine fG Tryz.func273 λw cs=>?_
 exact ra (λq1=>[(0,pt (B0 q1) 0)]) (λq1=>[ob (B0 q1) #[i6 0,i6 0,u1 0] 368]) λq1=>rs [(1,.s 0)] 0 (ob (B0 q1) #[i6 3,i6 (-1),u1 0] 368) (lf ab.zero [] [] [0])
end Go.Proofs.YtbcodenfkijdnaaGreat.E
namespace Go.Proofs.YtbcodenfkijdnaaGreat.E
open Go Go.RowKit Go.Shelf
open List renaming replicate→dZ,length_replicate→eF,length_append→jh
open Bool renaming false_or→ir
open Go.Proofs.Tryz renaming prog→jg
attribute [local irreducible] a7 au iI iH dS aP aW cE
theorem Nz(g:Nat)(v u:Value)(p G:List UInt8)(t:UInt8)(hG:a7 G=5)(hGl:G.length=5)(ht:bX 1 (G.getD 4 0)=t)(hp:p.length≤50000)(h4:4≤p.length):aa jg 203 #[pt g 0,v,u] [ob g (rB 255 aP++rN 256 aW).toArray 312,.p (aK eB v p),.p (aK eB u G)] [] (λE=>[bE (E.val 0) (dS p G t)]) (λE=> .tuple #[(E.val 0),i6 0]):=
 M6 g v u p G 4 t hp (by rw[hGl];decide) hG h4 ht
theorem NA(cb g:Nat)(u:Value)(d v G:List UInt8)(t:UInt8)(hd:d.length=32)(hv:v.length=3)(hG:a7 G=5)(hGl:G.length=5)(ht:bX 1 (G.getD 4 0)=t)(hml:(dS ((dZ 4 0++d)++v) G t).length≤4)(r:List UInt8)(hr:dS ((dZ 4 0++d)++v) G t++(dZ 4 (0:UInt8)).drop (dS ((dZ 4 0++d)++v) G t).length=r):aa jg 161 #[pt cb 0,.agg (rB 32 d).toArray,.agg (rB 3 v).toArray] [ob cb #[pt g 0,u] 309,ob g (rB 255 aP++rN 256 aW).toArray 312,.p (aK eB u G)] [] N0 (λ_=> .agg (rB 4 r).toArray):=by
 refine fO Tryz.func161 2 rfl λbq2 hq2=>?_
 refine fG Tryz.func161 λw cs=>?_
 have hms:((dZ 4 (0:UInt8)++d)++v).length=39:=by rw[jh,jh,eF,hd,hv]
 refine ra (λq1=>[(4,pt (B0 q1) 0),(5,pt (B1 q1) 0),(6,pt (B2 q1) 0)]) (λq1=>[ob (B0 q1) (rB 32 d).toArray 267,ob (B1 q1) (rB 3 v).toArray 262,ob (B2 q1) (rB 4 (dZ 4 0)).toArray 268]) λq1=>ra (λq2=>[(7,pt (B0 q2) 0)]) (λq2=>[ob (B0 q2) (rB 4 (dZ 4 0)).toArray 268]) λq2=>rr (λq3=>[(0,su kB 7 4),(1,aS 267 (B0 q1) 32 1),(2,.m (mK 7 3 pa (.slice (some ⟨(q3 0).abd 0,0,none⟩) 4 4) (.slice (some ⟨(q1 0).abd 0,0,none⟩) 32 32) (xs:=dZ 4 0) (ys:=d) (ob (B0 q1) (rB 32 d).toArray 267) (λ_ h=>by rw[show _=_ from h];exact pj (λ_=>rfl) hd) o9 (λ_=>rfl) (by simp only[LL,hd,hv,hGl];omega))),(3,aS 262 (B1 q1) 3 1),(4,.m (mK 7 4 pa ((q3 2).val 0) (.slice (some ⟨(q1 1).abd 0,0,none⟩) 3 3) (xs:=(dZ 4 0)++d) (ys:=v) (ob (B1 q1) (rB 3 v).toArray 262) (λ_ h=>by rw[show _=_ from h];exact pj (λ_=>rfl) hv) o9 (λ_=>rfl) (by simp only[LL,hd,hv,hGl];omega)))]) (λq3=>[(8,(q3 4).val 0)]) [] (λq3 L=>L++[bE ((q3 4).val 0) (((dZ 4 0)++d)++v)]) λq3=>rr (λq4=>[(0,.v (pt cb 0)),(1,.v (pt cb 0)),(2,.v (pt cb 0)),(3,.m (ld 0 (pt g 0))),(4,.v ((q3 4).val 0)),(5,.v (pt cb 0)),(6,.v (pt cb 0)),(7,.v (pt cb 1)),(8,.m (ld 0 (u))),(9,.c [1,7,2] [8] (aa.at (rd':=[ob g (rB 255 aP++rN 256 aW).toArray 312,bE ((q3 4).val 0) (((dZ 4 0)++d)++v),.c bq2]) (Nz g ((q3 4).val 0) u ((((dZ 4 0)++d)++v)) G t hG hGl ht Om Om) (ak (bO (λ_ h=>ap.sq h) (em hq2 (λ_ h=>h)))))),(10,.v (.tuple #[(q4 9).val 0,i6 0])),(11,.v ((q4 9).val 0)),(12,.v (i6 0)),(13,.v ((q4 9).val 0)),(14,.v (i6 0))]) (λq4=>[(9,(q4 9).val 0),(10,i6 0)]) [] (λq4 L=>L++[bE ((q4 9).val 0) (dS ((((dZ 4 0)++d)++v)) (G) t)]) λq4=>rT [] 30 (rs [(0,aS 268 (B0 q2) 4 1),(2,.m (uW kB 6 (B0 q2) 0 4 4 (rB 4 (dZ 4 0)).toArray (rB 4 ((dZ 4 0).take 0++(dS ((((dZ 4 0)++d)++v)) (G) t)++(dZ 4 0).drop (0+((dS ((((dZ 4 0)++d)++v)) (G) t).length)))).toArray 268 191 191 8 (bE ((q4 9).val 0) (dS ((((dZ 4 0)++d)++v)) (G) t)) ((q4 9).val 0) (dS ((((dZ 4 0)++d)++v)) (G) t) (λ_ h=>ap.src h) Om (by rw[List.size_toArray,kL];omega) (ALca List.toArray (r5 (d:=0) (λ_=>rfl) eF rfl Om))))] 6 (ob (B0 q2) (rB 4 ((dZ 4 0).take 0++(dS ((((dZ 4 0)++d)++v)) (G) t)++(dZ 4 0).drop (0+((dS ((((dZ 4 0)++d)++v)) (G) t).length)))).toArray 268) ?_)
 refine rs [(0,.l 6),(1,.s 5)] 5 (ob (B2 q1) (rB 4 ((dZ 4 0).take 0++(dS ((((dZ 4 0)++d)++v)) (G) t)++(dZ 4 0).drop (0+((dS ((((dZ 4 0)++d)++v)) (G) t).length)))).toArray 268) ?_
 exact am (.agg (rB 4 ((dZ 4 0).take 0++(dS ((((dZ 4 0)++d)++v)) (G) t)++(dZ 4 0).drop (0+((dS ((((dZ 4 0)++d)++v)) (G) t).length)))).toArray) ab.zero (by rw[Nat.zero_add,List.take_zero,List.nil_append,hr]) [] [(0,0),(1,1),(2,2)] [5]
theorem NB(cb g:Nat)(u:Value)(d v:List UInt8)(hd:d.length=32)(hv:v.length=3):aa jg 161 #[.pointer (some ⟨cb,0,none⟩),.agg (rB 32 d).toArray,.agg (rB 3 v).toArray] [ob cb #[.pointer (some ⟨g,0,none⟩),u] 309,ob g (rB 255 aP++rN 256 aW).toArray 312,.p (aK eB u cE)] [] N0 (λ_=> .agg (rB 4 (iq d v)).toArray):=
 NA cb g u d v cE tG hd hv px Nv rfl (by rw[DQ];exact yD d v) (iq d v) (by rw[DQ];exact Nk d v)
theorem NC{P:Program}{T:TypeId}{x y:Operand}{w:World}{k:Nat}(h:k<9223372036854775807):(ar .sub T x y (.int .i64 ((k+1:Nat):Int)) (.int .i64 1)).run P w= .ok (.int .i64 (k:Int)) w:=mo (a:=k+1) (b:=1) Om Om
def fI(s:List UInt8):Nat:=(eb (Go.Proofs.YtbcodenfkijdnaaGreat.co s)).aa2
def c6(s:List UInt8):Int:=(eb (Go.Proofs.YtbcodenfkijdnaaGreat.co s)).place
def fa(s:List UInt8):UInt8:=(eb (Go.Proofs.YtbcodenfkijdnaaGreat.co s)).val
def oz(s:List UInt8):Value:= .agg #[.int .i64 ((fI s:Nat):Int),.int .i64 (c6 s),.int .u8 ((fa s).toNat:Int)]
theorem qv{s:List UInt8}{k:Nat}{p:Int}{v:UInt8}(h:eb (Go.Proofs.YtbcodenfkijdnaaGreat.co s)=⟨k,p,v⟩):Value.agg #[.int .i64 (k:Int),.int .i64 p,.int .u8 (v.toNat:Int)]=oz s:=by
 unfold oz fI c6 fa
 rw[h]
theorem vm{b:UInt8}(h:b≠0):((b.toNat:Int)==0)=false:=beq_false_of_ne λe=>h (UInt8.toNat_inj.1 (by show b.toNat=0;omega))
theorem DR(a:UInt8){b:UInt8}(h:b≠0):bX a b=Go.Proofs.YtbcodenfkijdnaaGreat.gd a b:=by
 unfold bX Go.Proofs.YtbcodenfkijdnaaGreat.gd nF
 rw[vm h,ALcf]
 by_cases ha:a=0
 ·subst ha;rfl
 ·have ha1:a.toNat≠0:=λe=>ha (UInt8.toNat_inj.1 e)
  have l1:=qq a
  have l2:=qq b
  rw[vm ha,ALcf,ALifn ha1,Dg (yr _)]
  congr 2
  unfold dJ gL
  omega
theorem DS{s:List UInt8}(hs:s.length=4):decide (s=dZ 4 0)=decide (kQ (Go.Proofs.YtbcodenfkijdnaaGreat.co s)):=by
 rw[decide_eq_decide]
 constructor
 ·rintro rfl
  exact⟨rfl,rfl,rfl,rfl⟩
 ·rintro ⟨h0,h1,h2,h3⟩
  refine pn (by rw[hs,eF]) λi hi=>?_
  rw[hs] at hi
  have:i=0∨i=1∨i=2∨i=3:=by omega
  rcases this with rfl | rfl | rfl | rfl
  ·exact h0
  ·exact h1
  ·exact h2
  ·exact h3
theorem ND{s:List UInt8}(hs:s.length=4)(h:decide (s=dZ 4 0)=true):Value.agg #[.int .i64 0,.int .i64 (-1),.int .u8 0]=oz s:=
 qv (k:=0) (p:= -1) (v:=0) (yB (of_decide_eq_true (DS hs▸h)))
theorem yI{s:List UInt8}(hs:s.length=4)(h:decide (s=dZ 4 0)=false): ¬kQ (Go.Proofs.YtbcodenfkijdnaaGreat.co s):=of_decide_eq_false (DS hs▸h)
theorem DT{s:List UInt8}(h:((gX (s.getD 0 0) != 0)||(((bX (s.getD 1 0) (s.getD 0 0)).toNat:Int)==0))=false):Go.Proofs.YtbcodenfkijdnaaGreat.co s 0≠0∧gm (bX (s.getD 1 0) (s.getD 0 0)) (Go.Proofs.YtbcodenfkijdnaaGreat.co s 0)=Go.Proofs.YtbcodenfkijdnaaGreat.co s 1∧bX (s.getD 1 0) (s.getD 0 0)≠0:=by
 rw[Bool.or_eq_false_iff] at h
 have h0:s.getD 0 0≠0:=λe=>by rw[e] at h;exact absurd h.1 Dc
 refine⟨h0,?_,λe=>by rw[e] at h;exact absurd h.2 Dc⟩
 rw[DR _ h0]
 exact DP (s.getD 1 0) h0
theorem NE{s:List UInt8}(hs:s.length=4)(h3:decide (s=dZ 4 0)=false)(h:((gX (s.getD 0 0) != 0)||(((bX (s.getD 1 0) (s.getD 0 0)).toNat:Int)==0))=true):Value.agg #[.int .i64 3,.int .i64 (-1),.int .u8 0]=oz s:=by
 refine qv (k:=3) (p:= -1) (v:=0) (yC (yI hs h3) λi _=>?_)
 by_cases h0:s.getD 0 0=0
 ·cases hh:hit (Go.Proofs.YtbcodenfkijdnaaGreat.co s) i with
  | false=>rfl
  | true=>exact absurd h0 ((pu _ _).1 hh).1
 ·rw[DA h0,ir] at h
  refine DM (r:=bX (s.getD 1 0) (s.getD 0 0)) ?_ (.inl (va h)) i
  rw[DR _ h0]
  exact DP (s.getD 1 0) h0
def rR(s:List UInt8):UInt8:=bX (s.getD 1 0) (s.getD 0 0)
theorem NF{s:List UInt8}{k:Nat}(hc: ∀j,j<k→s.getD (j+1) 0=gm (s.getD j 0) (rR s))(h:((s.getD (k+1) 0).toNat:Int)=((gm (s.getD k 0) (bX (s.getD 1 0) (s.getD 0 0))).toNat:Int)): ∀j,j<k+1→s.getD (j+1) 0=gm (s.getD j 0) (rR s):=by
 intro j hj
 rcases Nat.lt_or_ge j k with h1 | h1
 ·exact hc j h1
 ·obtain rfl:j=k:=by omega
  exact UInt8.toNat_inj.1 (Int.ofNat.inj h)
theorem NG{s:List UInt8}{k:Nat}(hs:s.length=4)(h3:decide (s=dZ 4 0)=false)(h7:((gX (s.getD 0 0) != 0)||(((bX (s.getD 1 0) (s.getD 0 0)).toNat:Int)==0))=false)(hk:((k+1:Nat):Int)<4)(h:((s.getD (k+1) 0).toNat:Int)≠((gm (s.getD k 0) (bX (s.getD 1 0) (s.getD 0 0))).toNat:Int)):Value.agg #[.int .i64 3,.int .i64 (-1),.int .u8 0]=oz s:=by
 obtain⟨a1,a2,a3⟩:=DT h7
 have h':s.getD (k+1) 0≠gm (s.getD k 0) (bX (s.getD 1 0) (s.getD 0 0)):=λe=>h (by rw[e])
 refine qv (k:=3) (p:= -1) (v:=0) (yC (yI hs h3) λi _=>DM a2 ?_ i)
 have hk3:k=0∨k=1∨k=2:=by omega
 rcases hk3 with rfl | rfl | rfl
 ·exact absurd (a2.symm.trans (ko _ _)) h'
 ·exact .inr (.inl h')
 ·exact .inr (.inr h')
theorem yJ{s:List UInt8}{k:Nat}(h7:((gX (s.getD 0 0) != 0)||(((bX (s.getD 1 0) (s.getD 0 0)).toNat:Int)==0))=false)(hk:k≤3)(hk2:4≤((k+1:Nat):Int))(hc: ∀j,j<k→s.getD (j+1) 0=gm (s.getD j 0) (rR s)):hit (Go.Proofs.YtbcodenfkijdnaaGreat.co s) (gL (rR s).toNat)=true∧gY (bX (s.getD 1 0) (s.getD 0 0))=gL (rR s).toNat∧(mP (bX (s.getD 1 0) (s.getD 0 0)) != 0)=false∧gL (rR s).toNat<255:=by
 obtain⟨a1,a2,a3⟩:=DT h7
 obtain rfl:k=3:=by omega
 refine⟨Nh a1 a2 a3 (hc 1 Om) (hc 2 Om),?_,?_,Nd a3⟩
 ·unfold gY
  rw[vm a3];rfl
 ·unfold mP
  rw[vm a3];rfl
theorem NH{s:List UInt8}{k:Nat}(hs:s.length=4)(h3:decide (s=dZ 4 0)=false)(h7:((gX (s.getD 0 0) != 0)||(((bX (s.getD 1 0) (s.getD 0 0)).toNat:Int)==0))=false)(hk:k≤3)(hk2:4≤((k+1:Nat):Int))(hc: ∀j,j<k→s.getD (j+1) 0=gm (s.getD j 0) (rR s))(h:((mP (bX (s.getD 1 0) (s.getD 0 0)) != 0)||decide (39≤((gY (bX (s.getD 1 0) (s.getD 0 0)):Nat):Int)))=true):Value.agg #[.int .i64 3,.int .i64 (-1),.int .u8 0]=oz s:=by
 obtain⟨b1,b2,b3,b4⟩:=yJ h7 hk hk2 hc
 rw[b3,ir,b2] at h
 have h39:=of_decide_eq_true h
 refine qv (k:=3) (p:= -1) (v:=0) (yC (yI hs h3) λi hi=>?_)
 cases hh:hit (Go.Proofs.YtbcodenfkijdnaaGreat.co s) i with
 | false=>rfl
 | true=>have:=DF b4 Om b1 hh;omega
theorem NI{s:List UInt8}{k:Nat}(h7:((gX (s.getD 0 0) != 0)||(((bX (s.getD 1 0) (s.getD 0 0)).toNat:Int)==0))=false)(hk:k≤3)(hk2:4≤((k+1:Nat):Int))(hc: ∀j,j<k→s.getD (j+1) 0=gm (s.getD j 0) (rR s))(h:((mP (bX (s.getD 1 0) (s.getD 0 0)) != 0)||decide (39≤((gY (bX (s.getD 1 0) (s.getD 0 0)):Nat):Int)))=false)(h36:36≤((gY (bX (s.getD 1 0) (s.getD 0 0)):Nat):Int)):Value.agg #[.int .i64 2,.int .i64 ((gY (bX (s.getD 1 0) (s.getD 0 0)):Nat):Int),.int .u8 ((s.getD 0 0).toNat:Int)]=oz s:=by
 obtain⟨b1,b2,b3,b4⟩:=yJ h7 hk hk2 hc
 rw[b3,ir] at h
 have h39:=of_decide_eq_false h
 rw[b2] at h39 h36⊢
 exact qv (k:=2) (DK Om Om b1)
theorem NJ{s:List UInt8}{k:Nat}(h7:((gX (s.getD 0 0) != 0)||(((bX (s.getD 1 0) (s.getD 0 0)).toNat:Int)==0))=false)(hk:k≤3)(hk2:4≤((k+1:Nat):Int))(hc: ∀j,j<k→s.getD (j+1) 0=gm (s.getD j 0) (rR s))(h36:((gY (bX (s.getD 1 0) (s.getD 0 0)):Nat):Int)<36):Value.agg #[.int .i64 1,.int .i64 ((gY (bX (s.getD 1 0) (s.getD 0 0)):Nat):Int),.int .u8 ((s.getD 0 0).toNat:Int)]=oz s:=by
 obtain⟨b1,b2,b3,b4⟩:=yJ h7 hk hk2 hc
 rw[b2] at h36⊢
 exact qv (k:=1) (DJ Om b1)
theorem NK(cb g:Nat)(u:Value)(s:List UInt8)(hs:s.length=4):aa jg 255 #[pt cb 0,.agg (rB 4 s).toArray] [ob cb #[pt g 0,u] 309,ob g (rB 255 aP++rN 256 aW).toArray 312,.p (aK eB u cE)] [] N0 (λ_=> .agg #[i6 ((fI s:Nat):Int),i6 (c6 s),u1 ((fa s).toNat:Int)]):=by
 refine fO Tryz.func255 2 rfl λbq2 hq2=>?_
 refine fG Tryz.func255 λw cs=>?_
 refine ra (λq1=>[(3,pt (B0 q1) 0),(4,pt (B1 q1) 0)]) (λq1=>[ob (B0 q1) (rB 4 s).toArray 268,ob (B1 q1) #[i6 0,i6 0,u1 0] 368]) λq1=>r0 [(0,.l 3),(2,.t (i9 268 λ_ _ _=>uu (xs:=rB 4 s) (ys:=rB 4 (dZ 4 0)) Kr (jp hs eF)))] [(11,.bool (decide (s=dZ 4 0)))] [] ?_
 refine cB (decide (s=dZ 4 0)) (λh3=>?_) λh3=>?_
 ·refine rr (λ_=>[(1,.s 4)]) N0 [] (λ_ L=>L.set 4 (ob (B1 q1) #[i6 0,i6 (-1),u1 0] 368)) λq4=>?_
  exact am (.agg #[i6 0,i6 (-1),u1 0]) ab.zero (by exact ND hs As) [] [(0,0),(1,1),(2,2)] [4]
 refine r0 [(0,.v (pt cb 0)),(1,.v (pt cb 0)),(2,.v (pt cb 0)),(3,.m (ld 0 (pt g 0))),(4,.v (pt (B0 q1) 1)),(5,.m (ld 3 (u1 ((s.getD 1 0).toNat:Int)))),(6,.v (pt (B0 q1) 0)),(7,.m (ld 3 (u1 ((s.getD 0 0).toNat:Int)))),(8,.c [1] [] (Di g (s.getD 1 0) (s.getD 0 0))),(9,.v (.tuple #[u1 ((bX (s.getD 1 0) (s.getD 0 0)).toNat:Int),i6 (gX (s.getD 0 0))])),(10,.v (u1 ((bX (s.getD 1 0) (s.getD 0 0)).toNat:Int))),(11,.v (i6 (gX (s.getD 0 0)))),(12,.v (u1 ((bX (s.getD 1 0) (s.getD 0 0)).toNat:Int))),(13,.v (i6 (gX (s.getD 0 0))))] [(5,u1 ((bX (s.getD 1 0) (s.getD 0 0)).toNat:Int)),(6,i6 (gX (s.getD 0 0)))] [] (r0 [] [(30,.bool (((gX (s.getD 0 0)) != 0)||(((bX (s.getD 1 0) (s.getD 0 0)).toNat:Int)==0)))] [] ?_)
 refine cB (((gX (s.getD 0 0)) != 0)||(((bX (s.getD 1 0) (s.getD 0 0)).toNat:Int)==0)) (λh7=>?_) λh7=>?_
 ·refine rr (λ_=>[(0,.c [] [] (yH)),(1,.s 4)]) N0 [] (λ_ L=>L.set 4 (ob (B1 q1) #[i6 3,i6 (-1),u1 0] 368)) λq8=>?_
  exact am (.agg #[i6 3,i6 (-1),u1 0]) ab.zero (by exact NE hs As As) [] [(0,0),(1,1),(2,2)] [4]
 refine r0 [] [(7,i6 1)] [] ?_
 refine lq (λk=>k≤3∧(∀j,j<k→s.getD (j+1) 0=gm (s.getD j 0) (rR s))) (λk=>[(7,i6 ((k+1:Nat):Int))]) (λ_ L=>L) (λk=>3-k) 0 ⟨by omega,λ_ h=>absurd h (Nat.not_lt_zero _)⟩ Kr Kr (λk ⟨hk10,hc⟩=>?_)
 refine r0 [] [(33,.bool (decide (((k+1:Nat):Int)<4)))] [] ?_
 refine cj ((k+1:Nat):Int) 4 (λh12 dh12=>?_) λh12 dh12=>?_
 ·refine r0 [(0,.v (i6 ((k+1:Nat):Int))),(1,iA 268 .i64 (B0 q1) 0 4 1 (k+1)),(2,rD 3 (B0 q1) (k+1) 268 (rB 4 s) (ol Om)),(3,.v (pt cb 0)),(4,.v (pt cb 0)),(5,.v (pt cb 0)),(6,.m (ld 0 (pt g 0))),(7,.v (i6 ((k+1:Nat):Int))),(8,.t (tv (ar .sub 3 (.tmp 43) (.const (i6 1)) (i6 ((k+1:Nat):Int)) (i6 1)) (λ_=>NC Om))),(9,iA 268 .i64 (B0 q1) 0 4 1 k),(10,rD 3 (B0 q1) k 268 (rB 4 s) (ol Om)),(11,.v (u1 ((bX (s.getD 1 0) (s.getD 0 0)).toNat:Int))),(12,.c [1] [] (qr g (s.getD k 0) (bX (s.getD 1 0) (s.getD 0 0)))),(13,.v (.bool (((s.getD (k+1) 0).toNat:Int) != ((gm (s.getD k 0) (bX (s.getD 1 0) (s.getD 0 0))).toNat:Int))))] [(49,.bool (((s.getD (k+1) 0).toNat:Int) != ((gm (s.getD k 0) (bX (s.getD 1 0) (s.getD 0 0))).toNat:Int)))] [] ?_
  refine nA ((s.getD (k+1) 0).toNat:Int) ((gm (s.getD k 0) (bX (s.getD 1 0) (s.getD 0 0))).toNat:Int) (λh14 dh14=>?_) λh14 dh14=>?_
  ·refine rr (λ_=>[(0,.c [] [] (yH)),(1,.s 4)]) N0 [] (λ_ L=>L.set 4 (ob (B1 q1) #[i6 3,i6 (-1),u1 0] 368)) λq15=>?_
   exact am (.agg #[i6 3,i6 (-1),u1 0]) ab.zero (by exact NG hs As As As As) [] [(0,0),(1,1),(2,2)] [4]
  refine r0 [(1,ad (k+1) 1)] [(7,i6 (((k+1)+1:Nat):Int))] [7] ?_
  exact le (k+1) ⟨by omega,NF hc As⟩ Om Kr [0,1,2,3,4] Kr
 refine lx ?_
 refine r0 [(3,.l 0),(5,.c [1] [] (Ma g (bX (s.getD 1 0) (s.getD 0 0))))] [(8,i6 (((gY (bX (s.getD 1 0) (s.getD 0 0))):Nat):Int)),(6,i6 (mP (bX (s.getD 1 0) (s.getD 0 0))))] [6] (r0 [] [(60,.bool (((mP (bX (s.getD 1 0) (s.getD 0 0))) != 0)||(decide (39≤(((gY (bX (s.getD 1 0) (s.getD 0 0))):Nat):Int)))))] [] ?_)
 refine cB (((mP (bX (s.getD 1 0) (s.getD 0 0))) != 0)||(decide (39≤(((gY (bX (s.getD 1 0) (s.getD 0 0))):Nat):Int)))) (λh19=>?_) λh19=>?_
 ·refine rr (λ_=>[(0,.c [] [] (yH)),(1,.s 4)]) N0 [] (λ_ L=>L.set 4 (ob (B1 q1) #[i6 3,i6 (-1),u1 0] 368)) λq20=>?_
  exact am (.agg #[i6 3,i6 (-1),u1 0]) ab.zero (by exact NH hs As As Om As hc As) [] [(0,0),(1,1),(2,2)] [4]
 refine r0 [] [(68,.bool (decide (36≤(((gY (bX (s.getD 1 0) (s.getD 0 0))):Nat):Int))))] [] ?_
 refine pd 36 (((gY (bX (s.getD 1 0) (s.getD 0 0))):Nat):Int) (λh22 dh22=>?_) λh22 dh22=>?_
 ·refine rr (λ_=>[(2,.l 3),(4,.s 4)]) N0 [] (λ_ L=>L.set 4 (ob (B1 q1) #[i6 2,i6 (((gY (bX (s.getD 1 0) (s.getD 0 0))):Nat):Int),u1 ((s.getD 0 0).toNat:Int)] 368)) λq23=>?_
  exact am (.agg #[i6 2,i6 (((gY (bX (s.getD 1 0) (s.getD 0 0))):Nat):Int),u1 ((s.getD 0 0).toNat:Int)]) ab.zero (by exact NI As Om As hc As As) [] [(0,0),(1,1),(2,2)] [4]
 refine rs [(2,.l 3),(4,.s 4)] 4 (ob (B1 q1) #[i6 1,i6 (((gY (bX (s.getD 1 0) (s.getD 0 0))):Nat):Int),u1 ((s.getD 0 0).toNat:Int)] 368) ?_
 exact am (.agg #[i6 1,i6 (((gY (bX (s.getD 1 0) (s.getD 0 0))):Nat):Int),u1 ((s.getD 0 0).toNat:Int)]) ab.zero (by exact NJ As Om As hc As) [] [(0,0),(1,1),(2,2)] [4]
end Go.Proofs.YtbcodenfkijdnaaGreat.E
namespace Go.Proofs.YtbcodenfkijdnaaGreat.E
open Go Go.RowKit Go.Shelf
open List renaming take_of_length_le→dZ,length_drop→eF,length_set→ir,replicate→jg
attribute [local irreducible] a7 au iI iH dS aP aW cE aT
theorem DU{s:List UInt8}(h:(((fI s:Nat):Int)==1)=true):(c6 s).toNat<36∧c6 s=(((c6 s).toNat:Nat):Int):=by
 obtain⟨i,h1,h2⟩:=Np (s:=Go.Proofs.YtbcodenfkijdnaaGreat.co s) h
 have:c6 s=(i:Int):=h2
 omega
theorem NL{d v:List UInt8}(hd:d.length=36):((bif ((fI (aT d v):Nat):Int)==1 then d.set ((c6 (aT d v)).toNat) ((d.getD ((c6 (aT d v)).toNat) 0)^^^(fa (aT d v))) else d).drop 4).take 32=Hs d v:=by
 unfold Hs fI c6 fa
 cases ((eb (Go.Proofs.YtbcodenfkijdnaaGreat.co (aT d v))).aa2:Int)==1
 ·rw[ALcf,ALcf,dZ (by rw[eF,hd];decide)]
 ·rw[ALct,ALct,dZ (by rw[eF,ir,hd];decide)]
theorem NM(cb g:Nat)(u:Value)(d v:List UInt8)(hd:d.length=36)(hv:v.length=3):aa Tryz.prog 229 #[pt cb 0,.agg (rB 36 d).toArray,.agg (rB 3 v).toArray] [ob cb #[pt g 0,u] 309,ob g (rB 255 aP++rN 256 aW).toArray 312,.p (aK eB u cE)] [] N0 (λ_=> .tuple #[.agg (rB 32 (Hs d v)).toArray,.agg #[i6 ((fI (aT d v):Nat):Int),i6 (c6 (aT d v)),u1 ((fa (aT d v)).toNat:Int)]]):=by
 refine fO Tryz.func229 2 rfl λbq2 hq2=>?_
 refine fG Tryz.func229 λw cs=>?_
 refine ra (λq1=>[(4,pt (B0 q1) 0),(5,pt (B1 q1) 0),(6,pt (B2 q1) 0),(7,pt (B3 q1) 0)]) (λq1=>[ob (B0 q1) (rB 36 d).toArray 371,ob (B1 q1) (rB 3 v).toArray 262,ob (B2 q1) (rB 32 (jg 32 0)).toArray 267,ob (B3 q1) #[i6 0,i6 0,u1 0] 368]) λq1=>rr (λq2=>[(2,.l 3),(3,.l 4),(4,.c [0,1,2] [] (aa.at (rd':=[ob cb #[pt g 0,u] 309,ob g (rB 255 aP++rN 256 aW).toArray 312,.c bq2]) (Ny cb g u d v (by(simp only[LL,yE,hd,hv];done)) (by(simp only[LL,yE,hd,hv];done))) (ak (ak (em hq2 (λ_ h=>h)))))),(5,.c [0,1,2] [] (aa.at (rd':=[ob cb #[pt g 0,u] 309,ob g (rB 255 aP++rN 256 aW).toArray 312,.c bq2]) (NK cb g u (aT d v) (by(simp only[LL,yE,hd,hv];done))) (ak (ak (em hq2 (λ_ h=>h)))))),(7,.s 7)]) (λq2=>[(8,pt (B6 q2) 0)]) [] (λq2 L=>L++[ob (B6 q2) #[i6 ((fI (aT d v):Nat):Int),i6 (c6 (aT d v)),u1 ((fa (aT d v)).toNat:Int)] 368]) λq2=>r0 [(1,.l 7)] [(17,.bool (((fI (aT d v):Nat):Int)==1))] [] ?_
 refine cJ (((fI (aT d v):Nat):Int)==1) N0 (λc=>[ob cb #[pt g 0,u] 309,ob g (rB 255 aP++rN 256 aW).toArray 312,.c bq2,ob (B0 q1) (rB 36 (bif c then d.set ((c6 (aT d v)).toNat) ((d.getD ((c6 (aT d v)).toNat) 0)^^^(fa (aT d v))) else d)).toArray 371,ob (B1 q1) (rB 3 v).toArray 262,ob (B2 q1) (rB 32 (jg 32 0)).toArray 267,ob (B3 q1) #[i6 0,i6 0,u1 0] 368,ob (B6 q2) #[i6 ((fI (aT d v):Nat):Int),i6 (c6 (aT d v)),u1 ((fa (aT d v)).toNat:Int)] 368]) (λh4=>?_) (λh4=>?_) ?_
 ·have dh4:=eq_of_beq h4
  have hfx:=DU As
  refine rs [(1,.m (lt 7 (B6 q2) 1 #[i6 ((fI (aT d v):Nat):Int),i6 (c6 (aT d v)),u1 ((fa (aT d v)).toNat:Int)] 368 (ALca (λz:Int=>some (Value.int .i64 z)) (DU As).2))),(2,iA 371 .i64 (B0 q1) 0 36 1 ((c6 (aT d v)).toNat)),(3,rD 3 (B0 q1) ((c6 (aT d v)).toNat) 371 (rB 36 d) (ol Om)),(5,.l 7),(6,.t (tb (a:=u1 ((d.getD ((c6 (aT d v)).toNat) 0).toNat:Int)) (b:=u1 ((fa (aT d v)).toNat:Int)) λ_ _ _ _=>Zs (d.getD ((c6 (aT d v)).toNat) 0) ((fa (aT d v))))),(7,iA 371 .i64 (B0 q1) 0 36 1 ((c6 (aT d v)).toNat)),(8,wD 3 (B0 q1) ((c6 (aT d v)).toNat) 371 (u1 (((d.getD ((c6 (aT d v)).toNat) 0)^^^(fa (aT d v))).toNat:Int)) (rB 36 d) (rB 36 (d.set ((c6 (aT d v)).toNat) ((d.getD ((c6 (aT d v)).toNat) 0)^^^(fa (aT d v))))) (kg Om) (mJ hd))] 3 (ob (B0 q1) (rB 36 (d.set ((c6 (aT d v)).toNat) ((d.getD ((c6 (aT d v)).toNat) 0)^^^(fa (aT d v))))).toArray 371) ?_
  exact cm Kr [0,1,2,3,4,5,6,7] Kr
 ·have dh4:=ne_of_beq_false h4
  exact cm Kr [0,1,2,3,4,5,6,7] Kr
 refine rr (λ_=>[(0,aL 371 (B0 q1) 36 1 4),(1,.t (tv (Instr.arrayAt 267 (.slice (some ⟨(q1 0).abd 0,4*1,none⟩) 32 32)) (λ_=>run_arrayAt _ 267 5 32 _ _ _ Tryz.underlying267 Om))),(2,.m (lg 3 (B0 q1) (4*1) (rB 36 (bif ((fI (aT d v):Nat):Int)==1 then d.set ((c6 (aT d v)).toNat) ((d.getD ((c6 (aT d v)).toNat) 0)^^^(fa (aT d v))) else d)).toArray 371 (rB 32 (((bif ((fI (aT d v):Nat):Int)==1 then d.set ((c6 (aT d v)).toNat) ((d.getD ((c6 (aT d v)).toNat) 0)^^^(fa (aT d v))) else d).drop 4).take 32)) (xF (λ_=>rfl) (KF (by rw[ir];exact hd) hd) Om))),(3,.l 7),(4,.s 5),(5,.s 6)]) N0 [] (λ_ L=>(L.set 5 (ob (B2 q1) (rB 32 (((bif ((fI (aT d v):Nat):Int)==1 then d.set ((c6 (aT d v)).toNat) ((d.getD ((c6 (aT d v)).toNat) 0)^^^(fa (aT d v))) else d).drop 4).take 32)).toArray 267)).set 6 (ob (B3 q1) #[i6 ((fI (aT d v):Nat):Int),i6 (c6 (aT d v)),u1 ((fa (aT d v)).toNat:Int)] 368)) λq6=>?_
 exact am (.tuple #[.agg (rB 32 (((bif ((fI (aT d v):Nat):Int)==1 then d.set ((c6 (aT d v)).toNat) ((d.getD ((c6 (aT d v)).toNat) 0)^^^(fa (aT d v))) else d).drop 4).take 32)).toArray,.agg #[i6 ((fI (aT d v):Nat):Int),i6 (c6 (aT d v)),u1 ((fa (aT d v)).toNat:Int)]]) ab.zero (by rw[NL hd]) [] [(0,0),(1,1),(2,2)] [5,6]
end Go.Proofs.YtbcodenfkijdnaaGreat.E
namespace Go.Proofs.YtbcodenfkijdnaaGreat.E
open Go Go.RowKit Go.Shelf
open Go.Proofs.Tryz renaming prog→dZ
open List renaming append_nil→eF
attribute [local irreducible] pc bk
theorem yK(g i:Nat)(x:UInt8)(cl:List UInt8)(ts:List Int)(hi:i<74)(hc:cl.length=74)(ht:ts.length=256):aa dZ 179 #[pt g 0,iN i,u1 (x.toNat:Int)] [ob g (rB 74 cl++rI 256 ts).toArray 298] [0] (λ_=>[ob g (rB 74 (cl.set i x)++rI 256 (ts.set x.toNat (i:Int))).toArray 298]) (λ_=> .tuple #[]):=by
 have hx:=x.toNat_lt
 refine fG Tryz.func179 λw cs=>?_
 refine rs [(0,.v (pt g 0)),(1,.v (iN i)),(2,.v (pt g 0)),(3,.v (u1 (x.toNat:Int))),(4,.v (u1 (x.toNat:Int))),(5,.v (iN i)),(6,.v (pt g 0)),(7,.v (pt g 0)),(8,iA 295 .i64 g 0 74 1 i),(9,wM (A:=[]) (R:=rB 74 cl) (C:=(rI 256 ts:List Value)) 0 g i 298 (u1 (x.toNat:Int)) (rB 74 cl++rI 256 ts) (rB 74 (cl.set i x)++rI 256 ts) rfl rfl rfl (kg Om) (mJ hc)),(10,.v (pt g 0)),(11,.v (pt g 74)),(12,iA 296 .u8 g 74 256 1 x.toNat),(13,wM (A:=(rB 74 (cl.set i x):List Value)) (R:=rI 256 ts) (C:=[]) 0 g x.toNat 298 (iN i) (rB 74 (cl.set i x)++rI 256 ts) (rB 74 (cl.set i x)++rI 256 (ts.set x.toNat (i:Int))) (by rw[eF]) (by rw[eF]) kL (kg Om) (BN ht))] 0 (ob g (rB 74 (cl.set i x)++rI 256 (ts.set x.toNat (i:Int))).toArray 298) ?_
 exact eH ab.zero [0] [] []
def xc(cl:List UInt8)(d:Nat):Nat→UInt8
 | 0=>0
 | k+1=>xc cl d k^^^cl.getD ((bk d).getD k 0) 0
theorem DV{d j:Nat}(h:j<(bk d).length):(bk d).getD j 0<64:=by
 have h1:(bk d).getD j 0∈bk d:=by
  rw[List.getD_eq_getElem?_getD,List.getElem?_eq_getElem h]
  exact List.getElem_mem h
 unfold bk at h1⊢
 have:=(w7 64 0 d _ h1).2.1
 omega
def bo(d:Nat)(a p:Int)(cl:List UInt8):UInt8:=(bif (p%2)==1 then(bif (a%2)==1 then(xc cl d ((bk d).length))^^^(cl.getD 72 0) else(xc cl d ((bk d).length)))^^^(cl.getD 73 0) else(bif (a%2)==1 then(xc cl d ((bk d).length))^^^(cl.getD 72 0) else(xc cl d ((bk d).length))))
theorem DW(g d:Nat)(a p:Int)(cl:List UInt8)(ts:List Int)(hd:d<18446744073709551616)(hc:cl.length=74)(ht:ts.length=256):aa dZ 157 #[pt g 0,u6 (d:Int),i6 a,i6 p] [ob g (rB 74 cl++rI 256 ts).toArray 298] [] N0 (λ_=>u1 ((bo d a p cl).toNat:Int)):=by
 refine fG Tryz.func157 λw cs=>?_
 refine ra (λq1=>[(4,pt (B0 q1) 0),(8,u1 0)]) (λq1=>[ob (B0 q1) #[pt g 0] 235]) λq1=>rr (λ_=>[(1,.s 2)]) (λq2=>[(9,pt (B0 q2) 0)]) [] (λq2 L=>L++[ob (B0 q2) #[u1 0] 5]) λq2=>rr (λ_=>[(1,.c [] [3] (CX d))]) (λq3=>[(12,.func (.func 172) #[] #[pt ((B1 q3)) 0])]) [] (λq3 L=>L++[ob (B1 q3) #[u6 (d:Int)] 44]) λq3=>?_
 refine CA (encs:=λ(i:Nat)=>#[i6 ((i:Nat):Int)]) (xs:=bk d) (XO:=[((B1 q3),.cells #[u6 (d:Int)] 44 (0,0))]) (KO:=[]) (CW (B1 q3) d Om) (enters_of Tryz.func172 Kr rfl) (λj=>j≤(bk d).length) (λj L=>L.set 2 (ob (B0 q2) #[u1 ((xc cl d j).toNat:Int)] 5)) [ob g (rB 74 cl++rI 256 ts).toArray 298,ob (B0 q1) #[pt g 0] 235,ob (B0 q2) #[u1 0] 5] [0,1,2,3] [3] [] Om Kr (λlR j xE R1 W1 hxE hk5=>?_) (λD4 hk5=>?_)
 ·obtain⟨hkb6,rfl⟩:=rP 0 hxE
  have hol:=DV hkb6
  refine r0 [] [(10,i6 (((bk d).getD j 0:Nat):Int))] [] ?_
  refine ag [] (λR2 W2=>?_)
  refine rs [(0,.l 2),(1,.l 1),(5,iA 295 .i64 g 0 74 1 ((bk d).getD j 0)),(6,rM (A:=[]) (R:=rB 74 cl) (C:=(rI 256 ts:List Value)) 0 g ((bk d).getD j 0) 298 (rB 74 cl++rI 256 ts) rfl rfl (ol Om)),(7,.t (tb (a:=u1 ((xc cl d j).toNat:Int)) (b:=u1 ((cl.getD ((bk d).getD j 0) 0).toNat:Int)) λ_ _ _ _=>Zs ((xc cl d j)) (cl.getD ((bk d).getD j 0) 0))),(8,.s 2)] 2 (ob (B0 q2) #[u1 (((xc cl d j)^^^(cl.getD ((bk d).getD j 0) 0)).toNat:Int)] 5) ?_
  exact ne _ ⟨Om,rfl⟩ [0,1,2] Kr
 refine r0 [(1,.t (tv (ar .and 3 (.tmp 22) (.const (i6 1)) (i6 a) (i6 1)) (λ_=>mO a 1 2 Dc Dc Dc Dc)))] [(24,.bool ((a%2)==1))] [] ?_
 refine cJ ((a%2)==1) N0 (λc=>[ob g (rB 74 cl++rI 256 ts).toArray 298,ob (B0 q1) #[pt g 0] 235,ob (B0 q2) #[u1 ((bif c then(xc cl d ((bk d).length))^^^(cl.getD 72 0) else(xc cl d ((bk d).length))).toNat:Int)] 5]) (λh10=>?_) (λh10=>?_) ?_
 ·have dh10:=eq_of_beq h10
  refine rs [(0,.l 2),(1,.l 1),(5,.l 0),(6,.t (tb (a:=u1 ((xc cl d ((bk d).length)).toNat:Int)) (b:=u1 ((cl.getD 72 0).toNat:Int)) λ_ _ _ _=>Zs ((xc cl d ((bk d).length))) (cl.getD 72 0))),(7,.s 2)] 2 (ob (B0 q2) #[u1 (((xc cl d ((bk d).length))^^^(cl.getD 72 0)).toNat:Int)] 5) ?_
  exact cm Kr [0,1,2] Kr
 ·have dh10:=ne_of_beq_false h10
  exact cm Kr [0,1,2] Kr
 refine r0 [(1,.t (tv (ar .and 3 (.tmp 32) (.const (i6 1)) (i6 p) (i6 1)) (λ_=>mO p 1 2 Dc Dc Dc Dc)))] [(34,.bool ((p%2)==1))] [] ?_
 refine cJ ((p%2)==1) N0 (λc=>[ob g (rB 74 cl++rI 256 ts).toArray 298,ob (B0 q1) #[pt g 0] 235,ob (B0 q2) #[u1 ((bif c then(bif (a%2)==1 then(xc cl d ((bk d).length))^^^(cl.getD 72 0) else(xc cl d ((bk d).length)))^^^(cl.getD 73 0) else(bif (a%2)==1 then(xc cl d ((bk d).length))^^^(cl.getD 72 0) else(xc cl d ((bk d).length)))).toNat:Int)] 5]) (λh13=>?_) (λh13=>?_) ?_
 ·have dh13:=eq_of_beq h13
  refine rs [(0,.l 2),(1,.l 1),(5,.l 0),(6,.t (tb (a:=u1 ((bif (a%2)==1 then(xc cl d ((bk d).length))^^^(cl.getD 72 0) else(xc cl d ((bk d).length))).toNat:Int)) (b:=u1 ((cl.getD 73 0).toNat:Int)) λ_ _ _ _=>Zs ((bif (a%2)==1 then(xc cl d ((bk d).length))^^^(cl.getD 72 0) else(xc cl d ((bk d).length)))) (cl.getD 73 0))),(7,.s 2)] 2 (ob (B0 q2) #[u1 (((bif (a%2)==1 then(xc cl d ((bk d).length))^^^(cl.getD 72 0) else(xc cl d ((bk d).length)))^^^(cl.getD 73 0)).toNat:Int)] 5) ?_
  exact cm Kr [0,1,2] Kr
 ·have dh13:=ne_of_beq_false h13
  exact cm Kr [0,1,2] Kr
 exact r0 [(0,.l 2)] [(8,u1 ((bif (p%2)==1 then(bif (a%2)==1 then(xc cl d ((bk d).length))^^^(cl.getD 72 0) else(xc cl d ((bk d).length)))^^^(cl.getD 73 0) else(bif (a%2)==1 then(xc cl d ((bk d).length))^^^(cl.getD 72 0) else(xc cl d ((bk d).length)))).toNat:Int))] [8] (lf ab.zero [] [(0,0)] [])
theorem NN(g d:Nat)(k:UInt8)(a p:Int)(cl:List UInt8)(ts:List Int)(hd:d<18446744073709551616)(hc:cl.length=74)(ht:ts.length=256):aa dZ 254 #[pt g 0,u6 (d:Int),u1 (k.toNat:Int),i6 a,i6 p] [ob g (rB 74 cl++rI 256 ts).toArray 298] [] N0 (λ_=>u1 (((bo d a p cl)^^^k).toNat:Int)):=by
 refine fG Tryz.func254 λw cs=>?_
 exact r0 [] [(10,u1 0)] [] (r0 [(4,.c [0] [] (DW g d a p cl ts Om (by(simp only[LL,hc,ht];done)) (by(simp only[LL,hc,ht];done)))),(6,.t (tb (a:=u1 ((bo d a p cl).toNat:Int)) (b:=u1 (k.toNat:Int)) λ_ _ _ _=>Zs ((bo d a p cl)) (k)))] [(10,u1 (((bo d a p cl)^^^k).toNat:Int))] [10] (lf ab.zero [] [(0,0)] []))
def dw(k:UInt8)(ts:List Int):Int:=(bif (k.toNat:Int)==0 then 0 else(bif (ts.getD k.toNat 0)==(-1) then 4 else(bif (ts.getD k.toNat 0)==72 then 3 else(bif (ts.getD k.toNat 0)==73 then 2 else 1))))
def dj(k:UInt8)(ts:List Int):Int:=(bif (k.toNat:Int)==0 then(-1) else(bif (ts.getD k.toNat 0)==(-1) then(-1) else(bif (ts.getD k.toNat 0)==72 then(-1) else(bif (ts.getD k.toNat 0)==73 then(-1) else(ts.getD k.toNat 0)))))
theorem NO(g:Nat)(k:UInt8)(cl:List UInt8)(ts:List Int)(hc:cl.length=74)(ht:ts.length=256):aa dZ 253 #[pt g 0,u1 (k.toNat:Int)] [ob g (rB 74 cl++rI 256 ts).toArray 298] [] N0 (λ_=> .tuple #[i6 (dw k ts),i6 (dj k ts)]):=by
 have hk:=k.toNat_lt
 refine fG Tryz.func253 λw cs=>?_
 refine r0 [] [(4,i6 0),(5,i6 0)] [] (r0 [] [(8,.bool ((k.toNat:Int)==0))] [] ?_)
 refine cZ (k.toNat:Int) 0 (λh3 dh3=>?_) λh3 dh3=>?_
 ·refine r0 [] [(4,i6 0),(5,i6 (-1))] [4,5] ?_
  exact am (.tuple #[i6 0,i6 (-1)]) ab.zero (by((try simp only[dw,dj]);(repeat (first | rw[h3] | rw[ALct])))<;>rfl) [] [(0,0)] []
 refine r0 [(4,iA 296 .u8 g 74 256 1 k.toNat),(5,rM (A:=(rB 74 cl:List Value)) (R:=rI 256 ts) (C:=[]) 0 g k.toNat 298 (rB 74 cl++rI 256 ts) (by rw[eF]) kL (Jt Om))] [(6,i6 (ts.getD k.toNat 0))] [] (r0 [] [(16,.bool ((ts.getD k.toNat 0)==(-1)))] [] ?_)
 refine cZ (ts.getD k.toNat 0) (-1) (λh7 dh7=>?_) λh7 dh7=>?_
 ·refine r0 [] [(4,i6 4),(5,i6 (-1))] [4,5] ?_
  exact am (.tuple #[i6 4,i6 (-1)]) ab.zero (by((try simp only[dw,dj]);(repeat (first | rw[h3] | rw[h7] | rw[ALct] | rw[ALcf])))<;>rfl) [] [(0,0)] []
 refine r0 [] [(19,.bool ((ts.getD k.toNat 0)==72))] [] ?_
 refine cZ (ts.getD k.toNat 0) 72 (λh10 dh10=>?_) λh10 dh10=>?_
 ·refine r0 [] [(4,i6 3),(5,i6 (-1))] [4,5] ?_
  exact am (.tuple #[i6 3,i6 (-1)]) ab.zero (by((try simp only[dw,dj]);(repeat (first | rw[h3] | rw[h7] | rw[h10] | rw[ALct] | rw[ALcf])))<;>rfl) [] [(0,0)] []
 refine r0 [] [(22,.bool ((ts.getD k.toNat 0)==73))] [] ?_
 refine cZ (ts.getD k.toNat 0) 73 (λh13 dh13=>?_) λh13 dh13=>?_
 ·refine r0 [] [(4,i6 2),(5,i6 (-1))] [4,5] ?_
  exact am (.tuple #[i6 2,i6 (-1)]) ab.zero (by((try simp only[dw,dj]);(repeat (first | rw[h3] | rw[h7] | rw[h10] | rw[h13] | rw[ALct] | rw[ALcf])))<;>rfl) [] [(0,0)] []
 refine r0 [] [(4,i6 1),(5,i6 (ts.getD k.toNat 0))] [4,5] ?_
 exact am (.tuple #[i6 1,i6 (ts.getD k.toNat 0)]) ab.zero (by((try simp only[dw,dj]);(repeat (first | rw[h3] | rw[h7] | rw[h10] | rw[h13] | rw[ALcf])))<;>rfl) [] [(0,0)] []
theorem NP{ts:List Int}{K:UInt8}(hp: ∀k:UInt8,(dw k ts==1)=true→0≤dj k ts)(h:((dw K ts==1)&&decide (dj K ts<64))=true):0≤dj K ts∧dj K ts<64∧1*2^(dj K ts).toNat<18446744073709551616:=by
 rw[Bool.and_eq_true] at h
 have h1:=hp K h.1
 have h2:=of_decide_eq_true h.2
 refine⟨h1,h2,?_⟩
 rw[Nat.one_mul]
 exact Nat.lt_of_lt_of_le (Nat.pow_lt_pow_right (a:=2) Om (show(dj K ts).toNat<64 by omega)) Dc
def gp(d:Nat)(k:UInt8)(a:Int)(cl:List UInt8)(ts:List Int):Nat:=(bif ((dw ((bo d a 0 cl)^^^k) ts)==1)&&(decide ((dj ((bo d a 0 cl)^^^k) ts)<64)) then d^^^(1*2^(dj (bo d a 0 cl^^^k) ts).toNat) else d)
theorem NQ(g d:Nat)(k:UInt8)(a:Int)(cl:List UInt8)(ts:List Int)(hd:d<18446744073709551616)(hc:cl.length=74)(ht:ts.length=256)(hp: ∀k:UInt8,(dw k ts==1)=true→0≤dj k ts):aa dZ 227 #[pt g 0,u6 (d:Int),u1 (k.toNat:Int),i6 a] [ob g (rB 74 cl++rI 256 ts).toArray 298] [] N0 (λ_=> .tuple #[u6 (((gp d k a cl ts):Nat):Int),i6 (dw ((bo d a 0 cl)^^^k) ts),i6 (dj ((bo d a 0 cl)^^^k) ts)]):=by
 refine fG Tryz.func227 λw cs=>?_
 refine r0 [] [(8,u6 0),(9,i6 0),(10,i6 0)] [] (r0 [(0,.v (pt g 0)),(1,.v (pt g 0)),(2,.v (u6 (d:Int))),(3,.v (u1 (k.toNat:Int))),(4,.v (i6 a)),(5,.c [0] [] (NN g d k a 0 cl ts Om (by(simp only[LL,hc,ht];done)) (by(simp only[LL,hc,ht];done)))),(6,.c [0] [] (NO g ((bo d a 0 cl)^^^k) cl ts (by(simp only[LL,hc,ht];done)) (by(simp only[LL,hc,ht];done)))),(7,.v (.tuple #[i6 (dw ((bo d a 0 cl)^^^k) ts),i6 (dj ((bo d a 0 cl)^^^k) ts)])),(8,.v (i6 (dw ((bo d a 0 cl)^^^k) ts))),(9,.v (i6 (dj ((bo d a 0 cl)^^^k) ts))),(10,.v (i6 (dw ((bo d a 0 cl)^^^k) ts))),(11,.v (i6 (dj ((bo d a 0 cl)^^^k) ts)))] [(9,i6 (dw ((bo d a 0 cl)^^^k) ts)),(10,i6 (dj ((bo d a 0 cl)^^^k) ts))] [9,10] (r0 [] [(26,.bool (((dw ((bo d a 0 cl)^^^k) ts)==1)&&(decide ((dj ((bo d a 0 cl)^^^k) ts)<64))))] [] ?_))
 refine cJ (((dw ((bo d a 0 cl)^^^k) ts)==1)&&(decide ((dj ((bo d a 0 cl)^^^k) ts)<64))) (λc=>[(1,u6 (((bif c then d^^^(1*2^(dj (bo d a 0 cl^^^k) ts).toNat) else d):Nat):Int))]) (λ_=>[ob g (rB 74 cl++rI 256 ts).toArray 298]) (λh4=>?_) (λh4=>?_) ?_
 ·have hb:=NP hp h4
  refine r0 [(1,.t (tk (show i6 (dj ((bo d a 0 cl)^^^k) ts)=i6 (((dj (bo d a 0 cl^^^k) ts).toNat:Nat):Int) from ALca (Value.int .i64) Om))),(2,.t (tv (convert 3 201 (i6 (((dj (bo d a 0 cl^^^k) ts).toNat:Nat):Int))) (λ_=>Zu Tryz.underlying3 Tryz.underlying201 Om))),(3,.t (tv (ar .shl 44 (.const (u6 1)) (.tmp 29) (u6 1) (u6 (((dj (bo d a 0 cl^^^k) ts).toNat:Nat):Int))) (λ_=>uk (a:=1) (dj (bo d a 0 cl^^^k) ts).toNat Om hb.2.2))),(4,.t (tv (ar .xor 44 (.tmp 27) (.tmp 30) (u6 (d:Int)) (u6 ((1*2^(dj (bo d a 0 cl^^^k) ts).toNat:Nat):Int))) (λ_=>Ji hd hb.2.2)))] [(1,u6 ((d^^^(1*2^(dj (bo d a 0 cl^^^k) ts).toNat):Nat):Int))] [1] ?_
  exact cm Kr [0] Kr
 ·exact cm Kr [0] Kr
 exact r0 [] [(8,u6 (((bif ((dw ((bo d a 0 cl)^^^k) ts)==1)&&(decide ((dj ((bo d a 0 cl)^^^k) ts)<64)) then d^^^(1*2^(dj (bo d a 0 cl^^^k) ts).toNat) else d):Nat):Int)),(9,i6 (dw ((bo d a 0 cl)^^^k) ts)),(10,i6 (dj ((bo d a 0 cl)^^^k) ts))] [8,9,10] (lf ab.zero [] [(0,0)] [])
end Go.Proofs.YtbcodenfkijdnaaGreat.E
namespace Go.Proofs.YtbcodenfkijdnaaGreat.E
open Go Go.RowKit Go.Shelf
open List renaming replicate→dZ,length_set→eF,length_replicate→ir,append_nil→jg
def ju:Nat→List Int
 | 0=>dZ 256 0
 | k+1=>(ju k).set k (-1)
def kp:Nat→List UInt8
 | 0=>dZ 74 0
 | k+1=>(kp k).set (64+k) (UInt8.ofNat (1*2^k))
def kq:Nat→List Int
 | 0=>ju 256
 | k+1=>(kq k).set (UInt8.ofNat (1*2^k)).toNat ((64+k:Nat):Int)
def kr:Nat→List UInt8
 | 0=>kp 8
 | k+1=>(kr k).set k (UInt8.ofNat ((ch 3 256).getD k 0))
def ku:Nat→List Int
 | 0=>kq 8
 | k+1=>(ku k).set (UInt8.ofNat ((ch 3 256).getD k 0)).toNat ((k:Nat):Int)
def p5(k:Nat):Nat:=bif decide (k<8) then 56+k else 64+k
def a9:Nat→List UInt8
 | 0=>kr 56
 | k+1=>(a9 k).set (p5 k) (UInt8.ofNat ((ch 5 256).getD k 0))
def bL:Nat→List Int
 | 0=>ku 56
 | k+1=>(bL k).set (UInt8.ofNat ((ch 5 256).getD k 0)).toNat ((p5 k:Nat):Int)
theorem nI: ∀k,(ju k).length=256
 | 0=>ir ..
 | k+1=>by rw[ju,eF];exact nI k
theorem oA: ∀k,(kp k).length=74
 | 0=>ir ..
 | k+1=>by rw[kp,eF];exact oA k
theorem oB: ∀k,(kq k).length=256
 | 0=>nI 256
 | k+1=>by rw[kq,eF];exact oB k
theorem oC: ∀k,(kr k).length=74
 | 0=>oA 8
 | k+1=>by rw[kr,eF];exact oC k
theorem oD: ∀k,(ku k).length=256
 | 0=>oB 8
 | k+1=>by rw[ku,eF];exact oD k
theorem jv: ∀k,(a9 k).length=74
 | 0=>oC 56
 | k+1=>by rw[a9,eF];exact jv k
theorem j8: ∀k,(bL k).length=256
 | 0=>oD 56
 | k+1=>by rw[bL,eF];exact j8 k
theorem yL:(ch 3 256).length=56:=by decide+kernel
theorem NR:(ch 5 256).length=56:=by decide+kernel
def b5(k:Nat):Nat:=bif decide (k≤8) then 56+k else 64+k
theorem NS{i:Nat}(h:i≤10):(bif ((b5 i:Nat):Int)==64 then 72 else b5 i)=p5 i:=by
 have: ∀i,i≤10→(bif ((b5 i:Nat):Int)==64 then 72 else b5 i)=p5 i:=by decide
 exact this i h
theorem NT{i:Nat}:(p5 i=56+i∧i<8)∨(p5 i=64+i∧8≤i):=by
 unfold p5
 rcases Nat.lt_or_ge i 8 with h | h
 ·exact .inl ⟨by rw[cC h];rfl,h⟩
 ·exact .inr ⟨by rw[bj Om];rfl,h⟩
theorem NU{i:Nat}(h:i<10):b5 (i+1)=p5 i+1:=by
 have: ∀i,i<10→b5 (i+1)=p5 i+1:=by decide
 exact this i h
attribute [local irreducible] ju kp kq kr ku a9 bL ch
theorem NV:aa Tryz.prog 140 #[] [] [] (λE=>[ob (E.abd 0) (rB 74 (a9 10)++rI 256 (bL 10)).toArray 298]) (λE=>pt ((E.abd 0)) 0):=by
 refine fG Tryz.func140 λw cs=>?_
 refine r0 [] [(0,.pointer none)] [] (rr (λ_=>[(3,.s 1)]) (λq2=>[(1,pt (B2 q2) 0)]) [] (λq2 L=>L++[ob (B1 q2) (rB 74 (dZ 74 0)++rN 256 (dZ 256 0)).toArray 298,ob (B2 q2) #[pt (B1 q2) 0] 235]) λq2=>r0 [] [(9,i6 0)] [] ?_)
 refine lq (λk=>k≤256) (λk=>[(9,iN k)]) (λk L=>L.set 0 (ob (B1 q2) (rB 74 (dZ 74 0)++rI 256 (ju k)).toArray 298)) (λk=>256-k) 0 Om Kr (by rw[show ju 0=dZ 256 0 by unfold ju;rfl];kernel_rfl) (λk hk4=>?_)
 refine r0 [] [(10,.bool (decide ((k:Int)<256)))] [] ?_
 refine cj (k:Int) 256 (λh6 dh6=>?_) λh6 dh6=>?_
 ·refine r0 [] [(2,iN k)] [] ?_
  refine rs [(0,.l 1),(4,iA 296 .i64 (B1 q2) 74 256 1 k),(5,wM (A:=(rB 74 (dZ 74 0):List Value)) (R:=rI 256 (ju k)) (C:=[]) 0 (B1 q2) k 298 (i6 (-1)) (rB 74 (dZ 74 0)++rI 256 (ju k)) (rB 74 (dZ 74 0)++rI 256 ((ju k).set k (-1))) (by rw[jg]) (by rw[jg]) kL (kg Om) (BN (nI ..)))] 0 (ob (B1 q2) (rB 74 (dZ 74 0)++rI 256 ((ju k).set k (-1))).toArray 298) (r0 [(0,ad k 1)] [(9,i6 ((k+1:Nat):Int))] [9] ?_)
  exact le (k+1) Om Om Kr [0,1] (by rw[show ju (k+1)=(ju k).set k (-1) by rw[ju]];kernel_rfl)
 obtain rfl:k=256:=by omega
 refine lx ?_
 refine r0 [] [(18,i6 0)] [] ?_
 refine lq (λm=>m≤8) (λm=>[(18,iN m)]) (λm L=>L.set 0 (ob (B1 q2) (rB 74 (kp m)++rI 256 (kq m)).toArray 298)) (λm=>8-m) 0 Om Kr (by rw[show kp 0=dZ 74 0 by unfold kp;rfl,show kq 0=ju 256 by unfold kq;rfl];kernel_rfl) (λm hk11=>?_)
 refine r0 [] [(19,.bool (decide ((m:Int)<8)))] [] ?_
 refine cj (m:Int) 8 (λh13 dh13=>?_) λh13 dh13=>?_
 ·refine r0 [] [(3,iN m)] [] ?_
  refine rs [(0,.l 1),(2,ad 64 m),(4,.t (tv (convert 3 201 (iN m)) (λ_=>Zu Tryz.underlying3 Tryz.underlying201 Om))),(5,.t (tv (ar .shl 5 (.const (u1 1)) (.tmp 25) (u1 1) (u6 (m:Int))) (λ_=>uV (a:=1) m Om))),(6,.c [0] [0] (yK (B1 q2) (64+m) (UInt8.ofNat (1*2^m)) (kp m) (kq m) Om (by(simp only[LL,nI,oA,oB,oC,oD,jv,j8];done)) (by(simp only[LL,nI,oA,oB,oC,oD,jv,j8];done))))] 0 (ob (B1 q2) (rB 74 ((kp m).set (64+m) (UInt8.ofNat (1*2^m)))++rI 256 ((kq m).set (UInt8.ofNat (1*2^m)).toNat ((64+m):Int))).toArray 298) (r0 [(0,ad m 1)] [(18,i6 ((m+1:Nat):Int))] [18] ?_)
  exact le (m+1) Om Om Kr [0,1] (by rw[show kp (m+1)=(kp m).set (64+m) (UInt8.ofNat (1*2^m)) by rw[kp],show kq (m+1)=(kq m).set (UInt8.ofNat (1*2^m)).toNat ((64+m:Nat):Int) by rw[kq]];kernel_rfl)
 obtain rfl:m=8:=by omega
 refine lx ?_
 refine rr (λ_=>[(1,.s 2)]) (λq17=>[(4,pt (B0 q17) 0)]) [] (λq17 L=>L++[ob (B0 q17) #[i6 0] 3]) λq17=>rr (λ_=>[(0,.c [] [3,4] (C3 8 3))]) (λq18=>[(29,.func (.func 214) #[] #[pt ((B0 q18)) 0,pt (((q18 0).abd 1)) 0])]) [] (λq18 L=>L++[ob (B0 q18) #[i6 3] 3,ob ((q18 0).abd 1) #[i6 8] 3]) λq18=>?_
 refine ph (encs:=λ(i:Nat)=>#[u1 ((UInt8.ofNat i).toNat:Int)]) (xs:=ch 3 256) (KO:=[[((B0 q18),.cells #[i6 3] 3 (0,0))],[(((q18 0).abd 1),.cells #[i6 8] 3 (0,0))]]) (Ly (B0 q18) ((q18 0).abd 1)) (enters_of Tryz.func214 Kr rfl) (λj=>j≤(ch 3 256).length) (λj L=>(L.set 0 (ob (B1 q2) (rB 74 (kr j)++rI 256 (ku j)).toArray 298)).set 2 (ob (B0 q17) #[iN j] 3)) [3,4] Om (by rw[show kr 0=kp 8 by unfold kr;rfl,show ku 0=kq 8 by unfold ku;rfl];kernel_rfl) (λlR j xE R1 W1 hxE hk20=>?_) (λD19 hk20=>?_)
 ·obtain⟨hkb21,rfl⟩:=rP 0 hxE
  have hcl:=yL
  refine r0 [] [(5,u1 ((UInt8.ofNat ((ch 3 256).getD j 0)).toNat:Int))] [] ?_
  refine ag [3,4] (λR2 W2=>?_)
  refine rs [(0,.l 1),(1,.l 2),(3,.c [0] [0] (yK (B1 q2) j (UInt8.ofNat ((ch 3 256).getD j 0)) (kr j) (ku j) Om (by(simp only[LL,nI,oA,oB,oC,oD,jv,j8];done)) (by(simp only[LL,nI,oA,oB,oC,oD,jv,j8];done))))] 0 (ob (B1 q2) (rB 74 ((kr j).set j (UInt8.ofNat ((ch 3 256).getD j 0)))++rI 256 ((ku j).set (UInt8.ofNat ((ch 3 256).getD j 0)).toNat (j:Int))).toArray 298) (rs [(0,.l 2),(1,ad j 1),(2,.s 2)] 2 (ob (B0 q17) #[i6 ((j+1:Nat):Int)] 3) ?_)
  exact ne _ ⟨Om,rfl⟩ [0,1,2,3,4] (by rw[show kr (j+1)=(kr j).set j (UInt8.ofNat ((ch 3 256).getD j 0)) by rw[kr],show ku (j+1)=(ku j).set (UInt8.ofNat ((ch 3 256).getD j 0)).toNat ((j:Nat):Int) by rw[ku]];kernel_rfl)
 have hcl:=yL
 refine rr (λ_=>[(0,.c [] [5,6] (C3 8 5))]) (λq25=>[(37,.func (.func 214) #[] #[pt ((B0 q25)) 0,pt (((q25 0).abd 1)) 0])]) [] (λq25 L=>L++[ob (B0 q25) #[i6 5] 3,ob ((q25 0).abd 1) #[i6 8] 3]) λq25=>?_
 refine xY (encs:=λ(i:Nat)=>#[u1 ((UInt8.ofNat i).toNat:Int)]) (xs:=ch 5 256) (KO:=[[((B0 q25),.cells #[i6 5] 3 (0,0))],[(((q25 0).abd 1),.cells #[i6 8] 3 (0,0))]]) (Lz (B0 q25) ((q25 0).abd 1)) (enters_of Tryz.func214 Kr rfl) (λi=>i≤(ch 5 256).length∧(i≤10)) (λi L=>(L.set 0 (ob (B1 q2) (rB 74 (a9 i)++rI 256 (bL i)).toArray 298)).set 2 (ob (B0 q17) #[i6 ((b5 i:Nat):Int)] 3)) (λc _=>(c=Code.exit 6)) (λ_ _ L=>(L.set 0 (ob (B1 q2) (rB 74 (a9 10)++rI 256 (bL 10)).toArray 298)).set 2 (ob (B0 q17) #[i6 74] 3)) [5,6] ⟨by omega,Om⟩ (by rw[show a9 0=kr 56 by unfold a9;rfl,show bL 0=ku 56 by unfold bL;rfl,←yL];kernel_rfl) (λlR i xE R1 W1 hxE ⟨hk27,hi⟩=>?_) (λD26 ⟨hk27,hi⟩=>?_) λD26 c i hi hX=>?_
 ·obtain⟨hkb28,rfl⟩:=rP 0 hxE
  refine r0 [] [(6,u1 ((UInt8.ofNat ((ch 5 256).getD i 0)).toNat:Int))] [] ?_
  refine ag [5,6] (λR2 W2=>?_)
  refine r0 [(0,.l 2)] [(40,.bool (((b5 i:Nat):Int)==64))] [] ?_
  refine cJ (((b5 i:Nat):Int)==64) N0 (λc=>[ob (B1 q2) (rB 74 (a9 i)++rI 256 (bL i)).toArray 298,ob (B2 q2) #[pt (B1 q2) 0] 235,ob (B0 q17) #[i6 (((bif c then 72 else b5 i):Nat):Int)] 3,ob (B0 q18) #[i6 3] 3,ob ((q18 0).abd 1) #[i6 8] 3,ob (B0 q25) #[i6 5] 3,ob ((q25 0).abd 1) #[i6 8] 3]) (λh31=>?_) (λh31=>?_) ?_
  ·have dh31:=eq_of_beq h31
   refine rs [(0,.s 2)] 2 (ob (B0 q17) #[i6 72] 3) ?_
   exact cm Kr [0,1,2,3,4,5,6] Kr
  ·have dh31:=ne_of_beq_false h31
   exact cm Kr [0,1,2,3,4,5,6] Kr
  have hq:=NS hi
  have hp6:=NT (i:=i)
  refine cl [ob (B1 q2) (rB 74 (a9 i)++rI 256 (bL i)).toArray 298,ob (B2 q2) #[pt (B1 q2) 0] 235,ob (B0 q17) #[i6 ((p5 i:Nat):Int)] 3,ob (B0 q18) #[i6 3] 3,ob ((q18 0).abd 1) #[i6 8] 3,ob (B0 q25) #[i6 5] 3,ob ((q25 0).abd 1) #[i6 8] 3] (by rewrite [←hq];kernel_rfl) ?_
  refine r0 [(0,.l 2)] [(42,.bool (((p5 i:Nat):Int)==74))] [] ?_
  refine cZ ((p5 i:Nat):Int) 74 (λh34 dh34=>?_) λh34 dh34=>?_
  ·exact nx 6 _ ⟨rfl,rfl⟩ [0,1,2,3,4,5,6] (by clear hq;obtain rfl:i=10:=Om;kernel_rfl)
  refine rs [(0,.l 1),(1,.l 2),(3,.c [0] [0] (yK (B1 q2) (p5 i) (UInt8.ofNat ((ch 5 256).getD i 0)) (a9 i) (bL i) Om (by(simp only[LL,nI,oA,oB,oC,oD,jv,j8];done)) (by(simp only[LL,nI,oA,oB,oC,oD,jv,j8];done))))] 0 (ob (B1 q2) (rB 74 ((a9 i).set (p5 i) (UInt8.ofNat ((ch 5 256).getD i 0)))++rI 256 ((bL i).set (UInt8.ofNat ((ch 5 256).getD i 0)).toNat ((p5 i):Int))).toArray 298) (rs [(0,.l 2),(1,ad (p5 i) 1),(2,.s 2)] 2 (ob (B0 q17) #[i6 (((p5 i)+1:Nat):Int)] 3) ?_)
  exact ne _ ⟨⟨by omega,Om⟩,rfl⟩ [0,1,2,3,4,5,6] (by rw[show a9 (i+1)=(a9 i).set (p5 i) (UInt8.ofNat ((ch 5 256).getD i 0)) by rw[a9],show bL (i+1)=(bL i).set (UInt8.ofNat ((ch 5 256).getD i 0)).toNat ((p5 i:Nat):Int) by rw[bL],NU (i:=i) Om];kernel_rfl)
 ·exact absurd hi (by rw[NR];decide)
 obtain rfl:=hX
 exact r0 [(0,.l 1)] [(0,pt (B1 q2) 0)] [0] (lf (.l [(q2 1).abd 0] [] []) [0] [] [])
end Go.Proofs.YtbcodenfkijdnaaGreat.E
