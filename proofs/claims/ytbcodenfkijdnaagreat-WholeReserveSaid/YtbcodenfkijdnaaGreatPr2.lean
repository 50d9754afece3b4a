/- WholeReserve, in 6 texts: part 2. For every input; no condition. -/
import Derived.Test.YtbcodenfkijdnaaGreatPr1
import Derived.WalkKit
import Derived.Sort.CutIn
import Derived.IntWalk
import Derived.Laws.BitsAllLaws
set_option linter.unusedVariables false
set_option linter.unusedSimpArgs false
set_option maxRecDepth 100000
namespace Go.Proofs.YtbcodenfkijdnaaGreat
open List renaming replicate→VA,not_mem_nil→VC,append_nil→VD,length_append→VE,mem_cons→VF,size_toArray→VG,length_replicate→VH,getD_eq_getElem?_getD→VJ,length_set→VK,range→VL,getElem?_append_right→VO,length_take→VP,getElem?_eq_none→VQ,getElem?_eq_getElem→VU,getElem?_toArray→VX,length_range→V3,flatten→V6,length_drop→V7,mem_append→V9,length_map→Wb,getElem?_append_left→Wg,append_assoc→Wh,map_congr_left→Wp,mem_singleton→Wt,getElem?_map→Ww,ext_getElem?→Wx,nil_append→WC,drop_eq_getElem_cons→WG,getElem?_take_of_lt→WH,take_of_length_le→WL,take_append_drop→WM,toArray→WN,mem_cons_of_mem→WO,mem_of_getElem?→WQ,mem_append_left→WR,getElem_of_mem→WV,getElem?_range→WW,replicate_zero→WY,mem_cons_self→W4,getElem_mem→Xb,flatten_nil→Xd,ext_getElem→Xf,take_zero→Xm,any→Xo,length→Xq
open Go.Proofs.Tryz renaming prog→VB
open Bool renaming and_eq_true→VI,false_eq_true→Wq,false_or→Ws,or_eq_true→WD,or_eq_false_iff→WU,noConfusion→Xc
open Go.Result renaming andThen_ok→VM
open Nat renaming mod_eq_of_lt→VN,eq_of_beq_eq_true→VR,le_refl→VS,zero_add→VV,mul_one→VY,lt_or_ge→VZ,div_div_eq_div_mul→V2,mod_lt→V5,beq→V8,sub_zero→Wd,add_zero→Wf,blt_eq→Wi,blt→Wj,beq_refl→Wk,le_of_ble_eq_true→Wl,pow_le_pow_right→Wo,lt_of_le_of_lt→Wu,sub_self→Wz,le_of_not_lt→WA,mul_le_mul→WI,add_sub_cancel_left→WK,pow_zero→WS,pow_succ→WT,ble→WZ,div_one→W7,lt_of_lt_of_le→Xa,lt_succ_self→Xg,strongRecOn→Xj,not_lt_zero→Xk,min_eq_left→Xn,add_assoc→Xp,mul_zero→Xr,le_trans→Xs
open Option renaming map_some→VT,getD_some→Wv,bind_some→W5
open UInt8 renaming xor_zero→VW,toNat_ofNat'→Wc,xor_self→Wm,zero_xor→Wn,xor_assoc→WB,ofNat_toNat→W8,toNat_xor→Xe,xor_comm→Xi
open Go.Sem renaming run_bind→V0,run_pure→V1
open Int renaming toNat_natCast→V4,eq_ofNat_of_zero_le→WJ,natCast_nonneg→W9,natCast_emod→Xh,emod_nonneg→Xl
open Classical renaming choose→We,byContradiction→Wy,choose_spec→WE
open Go.IntKind renaming wrap_u32→WX,wrap_u8→W6
namespace E
section
open Go Go.Shelf Go.RowKit
section
variable (P:Program)
def wJ(o:Oper)(ρ:Operand→Value):Value:=match (execOp ρ o).run P default with
 | .ok (.value v) _=>v
 | _=>undef
def HW(c x y:Operand)(ρ:Operand→Value):Value:=match ρ c,x,y with
 | .bool E,_,.const (.bool false)=>(match ρ x with | .bool X=> .bool (E&&X) | _=>undef)
 | .bool E,_,_=>(match ρ y with | .bool Y=> .bool (E||Y) | _=>undef)
 | _,_,_=>undef
end
def tj(P:Program)(b:Bool)(xs ys:List Value):TD:=λo ρ=>match o.op with
 | .binOp d T x y _=>[sE d (match b with | true=> .neq | false=> .eql),sE (ρ x) (.agg xs.toArray),sE (ρ y) (.agg ys.toArray),sE (dC P T,P.eqGuardType P.depth T,(jh P 8 T).map λc=>ey c xs&&ey c ys) (true,false,some true)]
 | _=>[sB false]
theorem HX{P:Program}{xs ys:List Value}:TD.ok P (tj P false xs ys) (.bool (eY xs ys)):=by
 intro o ρ b w;unfold tj at b
 split at b
 ·rename_i i T x y q c;simp only[VF,VC,or_false,forall_eq_or_imp,forall_eq,sE] at b;obtain⟨rfl,d,e,g⟩:=b;exact(wA (P:=P) T (λx y w=>wj (x:=x) (y:=y) (w:=w) g rfl)) o ρ (by simp only[te,c,VF,VC,or_false,forall_eq_or_imp,forall_eq,sE];exact⟨trivial,trivial,d,e⟩) w
 ·exact(bA b).elim
theorem HY{P:Program}{xs ys:List Value}:TD.ok P (tj P true xs ys) (.bool (!eY xs ys)):=by
 intro o ρ b w;unfold tj at b
 split at b
 ·rename_i i T x y q c;simp only[VF,VC,or_false,forall_eq_or_imp,forall_eq,sE] at b;obtain⟨rfl,d,e,g⟩:=b;exact(wA (P:=P) T (λx y w=>jj (x:=x) (y:=y) (w:=w) g rfl)) o ρ (by simp only[te,c,VF,VC,or_false,forall_eq_or_imp,forall_eq,sE];exact⟨trivial,trivial,d,e⟩) w
 ·exact(bA b).elim
def HZ(P:Program)(o:Oper)(ρ:Operand→Value):bZ P:=match o.op with
 | .binOp .eql _ x y _=>(match mH (ρ x),mH (ρ y) with | some xs,some ys=> .t (val:= .bool (eY xs ys)) ⟨_,HX⟩ | _,_=> .d undef)
 | .binOp .neq _ x y _=>(match mH (ρ x),mH (ρ y) with | some xs,some ys=> .t (val:= .bool (!eY xs ys)) ⟨_,HY⟩ | _,_=> .d undef)
 | _=> .d undef
inductive b9 (P:Program):Type 1
 | l (p:Nat)
 | e
 | s (p:Nat)
 | d
 | v (v:Value)
 | t {val:Value} (d:TH P val)
 | u {val:Value} (d:TD) (j:Nat) (E b:Bool) (h:E=b→TD.ok P d val)
 | m {val:ab→Value} (d:MH P val)
 | c {f:FuncId} {args:Array Value} {rd:ah} {O:List Nat} {wt:ab→ah} {v:ab→Value} (ps qs:List Nat) (h:aa P f args rd O wt v)
section
variable {P:Program}
def Aw(P:Program)(T:TypeId):Nat:=((P.info? T).map (·.size)).getD 0
def H0(P:Program)(p:Nat)(T:TypeId)(x:Value)(C:cj):bZ P:=match C p,kk x with
 | some (.c [(_,.cells cs _ _)]),some (_,b)=>(match dC P T with
  | true=> .m (ls p ((cs.toList.drop b).take (Aw P T)))
  | false=> .m (ld p (cs.getD b undef)))
 | _,_=> .d undef
def H2(P:Program)(p:Nat)(T:TypeId):bZ P:=match dC P T with
 | true=> .m (ss p)
 | false=> .m (st p)
def b9.hint(o:Oper)(ρ:Operand→Value)(C:cj):b9 P→bZ P
 | .l p=>(match o.op with | .load T x=>H0 P p T (ρ x) C | _=> .d undef)
 | .s p=>(match o.op with | .store T _ _=>H2 P p T | _=> .d undef)
 | .e=>HZ P o ρ
 | .d=> .d (.bool false)
 | .v x=> .v x
 | .t x=> .t x
 | .u x j E b h=> .u x j E b h
 | .m x=> .m x
 | .c g i h=> .c g i h
def Ax(o:Oper)(ρ:Operand→Value)(p:Nat):bZ P:=match o.op with
 | .pick c x y=> .k (HW c x y ρ)
 | .alloc _=> .m (al p)
 | .box _ _=> .m (bx p)
 | _=> .v (wJ P o ρ)
def tm(p:Nat):Wr→Nat
 | []=>p
 | x::r=>tm (match WZ p x.1 with | true=>x.1+1 | false=>p) r
def qx(L:List Oper)(a:Sl)(c:List (List Nat))(η:bu):List Oper→List (Nat×b9 P)→Nat→List Value→cj→Nat→List (bZ P)
 | [],_,_,_,_,_=>[]
 | o::os,[],k,b,C,p=>
  (λρ=>(λh=>h::qx L a c η os [] (k+1) (b++[h.val (η k)]) (kN C (h.wt o ρ C (η k))) (tm p (h.wt o ρ C (η k)))) (Ax o ρ p)) (qc L a (c.getD k []) b)
 | o::os,(j,x)::r,k,b,C,p=>match V8 j k with
  | true=>(λρ=>(λh=>h::qx L a c η os r (k+1) (b++[h.val (η k)]) (kN C (h.wt o ρ C (η k))) (tm p (h.wt o ρ C (η k)))) (x.hint o ρ C)) (qc L a (c.getD k []) b)
  | false=>(λρ=>(λh=>h::qx L a c η os ((j,x)::r) (k+1) (b++[h.val (η k)]) (kN C (h.wt o ρ C (η k))) (tm p (h.wt o ρ C (η k)))) (Ax o ρ p)) (qc L a (c.getD k []) b)
end
inductive It where
 | c (x:Code)
 | b (id:Nat)
 | x (id:Nat)
section
variable (F:Fence) (n:Nat) (P:Program) (Q:Exit→Act→World→Prop)
def c8:List It→Exit→Act→World→Prop
 | []=>Q
 | .c x::S=>Exit.then (x.wpIn F n P (c8 S)) (c8 S)
 | .b d::S=>Exit.inBlock d (c8 S)
 | .x d::S=>Exit.then (c8 S (.exit d)) (c8 S)
end
def lS(id:Nat):List It→Option (List It)
 | []=>none
 | .c _::S=>lS id S
 | .x _::S=>lS id S
 | .b j::S=>match V8 j id with
  | true=>some S
  | false=>lS id S
def dh:Nat→List It→List It
 | 0,S=>S
 | n+1,S=>match S with
  | .c (.seq x y)::S=>dh n (.c x:: .c y::S)
  | .c (.block d x)::S=>dh n (.c x:: .b d::S)
  | .c .skip::S=>dh n S
  | .c (.label _)::S=>dh n S
  | .b _::S=>dh n S
  | .c (.exit d)::S=>dh n (.x d::S)
  | .x d::S=>(match lS d S with
   | some e=>dh n e
   | none=> .x d::S)
  | S=>S
abbrev nf(S:List It):List It:=dh 1000 S
section
variable {F:Fence} {n:Nat} {P:Program} {Q:Exit→Act→World→Prop} {a:Act} {w:World}
theorem tn{id:Nat}: ∀{S g:List It},lS id S=some g→c8 F n P Q g .normal a w→c8 F n P Q S (.exit id) a w
 | .c _::S,g,h,d=>tn (S:=S) h d
 | .x _::S,g,h,d=>tn (S:=S) h d
 | .b j::S,g,h,d=>by
  unfold lS at h;show if id=j then c8 F n P Q S .normal a w else c8 F n P Q S (.exit id) a w
  split at h
  ·rename_i i;cases h;rw[ALifp (VR i).symm];exact d
  ·rename_i i;rw[ALifn (λe=>by rw[e,Wk] at i;cases i)];exact tn h d
theorem qy{id:Nat}: ∀{S:List It},lS id S=none→Q (.exit id) a w→c8 F n P Q S (.exit id) a w
 | [],_,d=>d
 | .c _::S,h,d=>qy (S:=S) h d
 | .x _::S,h,d=>qy (S:=S) h d
 | .b j::S,h,d=>by
  unfold lS at h;show if id=j then c8 F n P Q S .normal a w else c8 F n P Q S (.exit id) a w
  split at h
  ·cases h
  ·rename_i g;rw[ALifn (λe=>by rw[e,Wk] at g;cases g)];exact qy h d
theorem gF: ∀{S:List It},Q .ret a w→c8 F n P Q S .ret a w
 | [],h=>h
 | .c _::S,h=>gF (S:=S) h
 | .b _::S,h=>gF (S:=S) h
 | .x _::S,h=>gF (S:=S) h
theorem dD: ∀(m:Nat) (S:List It),c8 F n P Q (dh m S) .normal a w→c8 F n P Q S .normal a w
 | 0,_,h=>h
 | m+1,S,h=>by
  unfold dh at h
  split at h
  ·exact wpIn_seq (dD m _ h)
  ·exact wpIn_block (dD m _ h)
  ·exact wpIn_skip (dD m _ h)
  ·exact wpIn_label (dD m _ h)
  ·rename_i b;exact(dD m b h:c8 F n P Q b .normal a w)
  ·rename_i c b;exact wpIn_exit (dD m (.x c::b) h:c8 F n P Q b (.exit c) a w)
  ·split at h
   ·rename_i d;exact tn d (dD m _ h)
   ·exact h
  ·exact h
end
structure Go (F:Fence) (n:Nat) (P:Program) (R:List Nat) (base:World) (Q:Exit→Act→World→Prop) (S:List It) (a:Sl) (L:ah) (Ds:List Nat):Prop where
 out: ∀b W,Fr a Ds b→aE R base (L++Ds.map mk) W→c8 F n P Q S .normal b W
def Vj(S:List It):It:=match nf S with | x::_=>x | []=> .b 0
def bT(S:List It):List It:=match nf S with | _::S=>S | []=>[]
def ax(S:List It):List Oper:=match nf S with | .c (.region _ L _)::_=>L.toList | _=>[]
def eO(S:List It):Bool:=match nf S with | .c (.region _ _ d)::_=>d | _=>false
def kX(S:List It):Bool:=match nf S with | .c (.region _ _ _)::_=>true | _=>false
def ko(a:Sl)(S:List It):Option Bool:=match nf S with
 | .c (.cond c _ _)::_=>(match a.ev c with | .bool E=>some E | _=>none)
 | _=>none
def kp(a:Sl)(S:List It):Bool:=match nf S with
 | .c (.cond (.tmp i) _ _)::_=>a.kn i
 | _=>true
def mN(S:List It):List It:=match nf S with | .c (.cond _ x _)::S=> .c x::S | _=>[]
def mO(S:List It):List It:=match nf S with | .c (.cond _ _ y)::S=> .c y::S | _=>[]
def fX(S:List It):Code:=match nf S with | .c (.loop x)::_=>x | _=> .skip
def nv(S:List It):Bool:=match nf S with | .c (.loop _)::_=>true | _=>false
def ek:List Nat→Fe→Fe
 | [],e=>e
 | d::ds,e=>ek ds (e.filter λx=> !V8 x.1 d)
def lT(L:List Oper)(e b:Fe)(dr:List Nat):Bool:=L.all λo=>match o.dst with
 | none=>true
 | some d=>(lk b d).isSome||dr.contains d||(lk e d).isNone
def kq(L:List Oper)(a:Sl)(t:dI)(η:bu)(i:Nat):Option Value:=match fu i L 0 with
 | some j=>(match Wj i a.sz&&(t.cds j).all λc=>qd c.2 (t.vs η c.1) with
  | true=>some (t.vs η j)
  | false=>none)
 | none=>none
theorem pq{e b:Fe}{i:Nat}:lk (e++b) i=match lk e i with | some v=>some v | none=>lk b i:=by
 induction e with
 | nil=>rfl
 | cons x r ih=>
  obtain⟨j,v⟩:=x;show(match V8 j i with | true=>some v | false=>lk (r++b) i)=match (match V8 j i with | true=>some v | false=>lk r i) with | some v=>some v | none=>lk b i
  cases V8 j i
  ·exact ih
  ·rfl
theorem wK{p:Nat→Bool}: ∀{e:Fe} {i:Nat},lk (e.filter λx=>p x.1) i=if p i then lk e i else none
 | [],i=>by split<;>rfl
 | (j,v)::r,i=>by
  rw[List.filter_cons];have ih:=wK (p:=p) (e:=r) (i:=i);by_cases c:j=i
  ·subst c;cases d:p j with
   | true=>simp [lk]
   | false=>
    rw[d] at ih;simp only[Wq,if_false] at ih⊢;exact ih
  ·have b:V8 j i=false:=by
    cases h:V8 j i with
    | false=>rfl
    | true=>exact absurd (VR h) c
   cases d:p j with
   | true=>simp only[if_true,lk,b,ih]
   | false=>simp only[Wq,if_false,lk,b,ih]
theorem Ay: ∀{ds:List Nat} {e:Fe} {i:Nat} {v:Value},lk (ek ds e) i=some v→lk e i=some v∧i∉ds
 | [],_,_,_,h=>⟨h,by simp⟩
 | d::ds,e,i,v,h=>by
  obtain⟨b,g⟩:=Ay (ds:=ds) h;rw[wK (p:=λi=> !V8 i d)] at b
  split at b
  ·rename_i j;refine⟨b,λc=>?_⟩;rcases List.mem_cons.1 c with rfl | c
   ·simp [Wk] at j
   ·exact g c
  ·cases b
theorem Az{e:Fe}{i:Nat}{v:Value}(h:lk e i=some v):(i,v)∈e:=by
 induction e with
 | nil=>cases h
 | cons x r ih=>
  obtain⟨j,u⟩:=x;unfold lk at h
  split at h
  ·rename_i b;cases h;rw[VR b];exact W4
  ·exact WO _ (ih h)
theorem AA{xs:Nat→Value}: ∀(l:List Oper) (k:Nat) (b:Act),(bn xs l k b).tmps.size=b.tmps.size
 | [],_,_=>rfl
 | o::os,k,b=>by rw[bn,AA os,vP]
theorem AB(b:Act)(x:Option Tmp)(v:Value):(b.put x v).defers=b.defers:=by cases x<;>rfl
theorem AD{xs:Nat→Value}: ∀(l:List Oper) (k:Nat) (b:Act),(bn xs l k b).defers=b.defers
 | [],_,_=>rfl
 | o::os,k,b=>by rw[bn,AD os,AB]
section
variable {F:Fence} {n:Nat} {P:Program} {R:List Nat} {base:World} {Q:Exit→Act→World→Prop} {S:List It} {a:Sl} {sz:Nat} {es:Fe} {L:ah} {Ds:List Nat}
def jW(S:List It)(a:Sl)(b:ah)(hs:bu→List (Nat×b9 P))(η:bu):List (bZ P):=qx (ax S) a (je (eO S) (ax S)) η (ax S) (hs η) 0 [] (λp=>b[p]?) b.length
def tR(S:List It)(a:Sl)(b:ah)(m:Nat)(hs:bu→List (Nat×b9 P)):dI:=sJ (ax S) a (je (eO S) (ax S)) (qb (ax S) []) b m (jW S a b hs)
abbrev mR(Le:bu→ah→ah)(L:ah):Nat:=(Le (λ_=>ab.zero) L).length
theorem AE(h:kX S=true): ∃id d,nf S= .c (.region id (ax S).toArray d)::bT S∧eO S=d:=by
 unfold kX at h;unfold ax bT eO
 split at h
 ·rename_i id b d g e;rw[e];exact⟨id,d,rfl,rfl⟩
 ·cases h
theorem H3{b:Bool}{v:Value}(h:qd b v=true):v= .bool b:=by
 unfold qd at h
 split at h
 ·rw[eq_of_beq h]
 ·cases h
theorem Fr.region{b:Act}(r:Fr a Ds b){LL:List Oper}{t:dI}{η:bu}{xs:Nat→Value}{e:Fe}{dr:List Nat}(N: ∀i,i<LL.length→t.Is η i (xs i))(I:e.map (λx=>kq LL a t η x.1)=e.map λx=>some x.2)(H:lT LL a.e e dr=true):
  Fr ⟨a.sz,e++ek dr a.e⟩ Ds (bn xs LL 0 b):=by
 refine⟨(AA _ _ _).trans r.size,λi v h=>?_,(AD _ _ _).trans r.defers⟩;have B:=sC (xs:=xs) i LL 0 b;show(bn xs LL 0 b).eval (.tmp i)=v;rw[B];simp only[pq] at h;cases m:lk e i with
 | some u=>
  rw[m] at h;cases h;have J:=Az m;have d:kq LL a t η i=some v:=by
   obtain⟨q,M,D⟩:=WV J;have:=ALca (λz=>z[q]?) I;simpa [M,D] using this
  unfold kq at d;cases l:fu i LL 0 with
  | none=>rw[l] at d;cases d
  | some j=>
   rw[l] at d;simp only at d⊢
   split at d
   ·rename_i y;rw[VI] at y;rw[r.size,ALifp (Wi▸y.1)];cases d;rcases N j (zK l) with⟨_,g⟩ | ⟨g,_⟩
    ·exact g
    ·exact absurd (λc A=>H3 (List.all_eq_true.1 y.2 c A)) g
   ·cases d
 | none=>
  rw[m] at h;simp only at h;obtain⟨g,G⟩:=Ay h;cases l:fu i LL 0 with
  | none=>exact r.get i v g
  | some j=>
   exfalso;have k:=(sK l).2;rw[Wd] at k;cases C:LL[j]? with
   | none=>rw[C] at k;cases k
   | some o=>
    rw[C] at k;have s:=List.all_eq_true.1 H o (WQ C);rw[show o.dst=some i from k] at s;simp only[m,g,Option.isSome_none,Option.isNone_some,Bool.or_false,Ws] at s;exact G (by simpa using s)
theorem rr[hF:jT F](hs:bu→List (Nat×b9 P))(e:bu→Fe)(dr:List Nat)(Le:bu→ah→ah)(C: ∀η,Go F n P R base Q (bT S) ⟨sz,e η++ek dr es⟩ (Le η L) Ds)
  (D:P.follows .mixedOrders=true:=by kernel_rfl)
  (c: ∀η,(kX S,(e6 (ax S) ⟨sz,es⟩ (tR S ⟨sz,es⟩ L (mR Le L) hs) η 0 (ax S) (jW S ⟨sz,es⟩ L hs η)).map a7.lhs,lO (eO S) (ax S) (λk=>(je (eO S) (ax S)).getD k []),(VL (mR Le L)).map (λp=>(tR S ⟨sz,es⟩ L (mR Le L) hs).at η p (ax S).length),(e η).map (λx=>kq (ax S) ⟨sz,es⟩ (tR S ⟨sz,es⟩ L (mR Le L) hs) η x.1),lT (ax S) es (e η) dr)=
   (true,(e6 (ax S) ⟨sz,es⟩ (tR S ⟨sz,es⟩ L (mR Le L) hs) η 0 (ax S) (jW S ⟨sz,es⟩ L hs η)).map a7.rhs,true,(Le η L).map some,(e η).map (λx=>some x.2),true):=by intro _;kernel_rfl):Go F n P R base Q S ⟨sz,es⟩ L Ds:=by
 have i:=ALca (λx=>x.1) (c λ_=>ab.zero);have j:=λη=>ALca (λx=>x.2.1) (c η);have l:=ALca (λx=>x.2.2.1) (c λ_=>ab.zero);have m:=λη=>ALca (λx=>x.2.2.2.1) (c η);have o:=λη=>ALca (λx=>x.2.2.2.2.1) (c η);have q:=λη=>ALca (λx=>x.2.2.2.2.2) (c η);simp only at i j l m o q;obtain⟨H,d,A,B⟩:=AE i;subst B;refine⟨λb W r z=>dD 1000 S ?_⟩;rw[show dh 1000 S=_ from A];show(Code.region H (ax S).toArray (eO S)).wpIn F n P (c8 F n P Q (bT S)) b W;obtain⟨y,s,u⟩:=z.seg;refine Gc (t:=tR S ⟨sz,es⟩ L (mR Le L) hs) (R:=y) (base:=W) D (zM r j) hF.free l u (λη=>Le η L) m ?_;intro η xs I G g;exact(C η).out _ _ (r.region G (o η) (q η)) (s.out.whole g.out)
end
end
section
open Go Go.Shelf Go.RowKit
section
variable {F:Fence} {n:Nat} {P:Program} {R:List Nat} {base:World} {Q:Exit→Act→World→Prop} {S:List It} {a:Sl} {sz:Nat} {es:Fe} {L:ah} {Ds:List Nat}
abbrev i6(x:Int):Value:= .int .i64 x
abbrev u6(x:Int):Value:= .int .u64 x
abbrev u1(x:Int):Value:= .int .u8 x
abbrev pt(g o:Nat):Value:= .pointer (some ⟨g,o,none⟩)
abbrev iN(n:Nat):Value:=i6 (n:Int)
abbrev N0.{u,v} {α:Type u} {β:Type v}:α→List β:=λ_=>[]
theorem H4{α:Type}{xs ys:List α}{n:Nat}{b:Bool}(h1:xs.length=n)(h2:ys.length=n):(bif b then xs else ys).length=n:=by cases b;exact h2;exact h1
theorem AF{E:Bool}(h:ko a S=some E)(g:kp a S=true): ∃c x y d,nf S= .c (.cond c x y)::d∧mN S= .c x::d∧mO S= .c y::d∧(∀{b:Act},Fr a Ds b→b.eval c= .bool E):=by
 unfold ko at h;unfold kp at g;unfold mN mO
 split at h
 ·rename_i c x y d e;rw[e] at g⊢
  split at h
  ·rename_i m j;cases h;refine⟨c,x,y,d,rfl,rfl,rfl,λ{b} k=>?_⟩;rw[k.ev λi l=>by subst l;exact g];exact j
  ·cases h
 ·cases h
theorem cB(E:Bool)(ht:E=true→Go F n P R base Q (mN S) ⟨sz,es⟩ L Ds)(hf:E=false→Go F n P R base Q (mO S) ⟨sz,es⟩ L Ds)(i:(ko ⟨sz,es⟩ S,kp ⟨sz,es⟩ S)=(some E,true):=by kernel_rfl):Go F n P R base Q S ⟨sz,es⟩ L Ds:=by
 obtain⟨c,x,y,o,j,k,l,m⟩:=AF (Ds:=Ds) (ALca (·.1) i) (ALca (·.2) i);refine⟨λb W d g=>dD 1000 S ?_⟩;rw[show dh 1000 S=_ from j];exact wpIn_cond_split (m d) (λe=>by have:=(ht e).out b W d g;rw[k] at this;exact this) (λe=>by have:=(hf e).out b W d g;rw[l] at this;exact this)
theorem cT(E:Bool)(b:E=true)(ht:Go F n P R base Q (mN S) ⟨sz,es⟩ L Ds)(c:(ko ⟨sz,es⟩ S,kp ⟨sz,es⟩ S)=(some E,true):=by kernel_rfl):Go F n P R base Q S ⟨sz,es⟩ L Ds:=cB E (λ_=>ht) (λh=>by rw[b] at h;cases h) c
theorem cF(E:Bool)(b:E=false)(hf:Go F n P R base Q (mO S) ⟨sz,es⟩ L Ds)(c:(ko ⟨sz,es⟩ S,kp ⟨sz,es⟩ S)=(some E,true):=by kernel_rfl):Go F n P R base Q S ⟨sz,es⟩ L Ds:=cB E (λh=>by rw[b] at h;cases h) (λ_=>hf) c
theorem b0(x y:Int)(ht:(decide (x<y))=true→x<y→Go F n P R base Q (mN S) ⟨sz,es⟩ L Ds)(hf:(decide (x<y))=false→y≤x→Go F n P R base Q (mO S) ⟨sz,es⟩ L Ds)(b:(ko ⟨sz,es⟩ S,kp ⟨sz,es⟩ S)=(some (decide (x<y)),true):=by kernel_rfl):Go F n P R base Q S ⟨sz,es⟩ L Ds:=
 cB _ (λh=>ht h (of_decide_eq_true h)) (λh=>hf h (Int.not_lt.1 (of_decide_eq_false h))) b
theorem om(x y:Int)(ht:(decide (x≤y))=true→x≤y→Go F n P R base Q (mN S) ⟨sz,es⟩ L Ds)(hf:(decide (x≤y))=false→y<x→Go F n P R base Q (mO S) ⟨sz,es⟩ L Ds)(b:(ko ⟨sz,es⟩ S,kp ⟨sz,es⟩ S)=(some (decide (x≤y)),true):=by kernel_rfl):Go F n P R base Q S ⟨sz,es⟩ L Ds:=
 cB _ (λh=>ht h (of_decide_eq_true h)) (λh=>hf h (Int.not_le.1 (of_decide_eq_false h))) b
theorem cO(x y:Int)(ht:(x==y)=true→x=y→Go F n P R base Q (mN S) ⟨sz,es⟩ L Ds)(hf:(x==y)=false→x≠y→Go F n P R base Q (mO S) ⟨sz,es⟩ L Ds)(b:(ko ⟨sz,es⟩ S,kp ⟨sz,es⟩ S)=(some (x==y),true):=by kernel_rfl):Go F n P R base Q S ⟨sz,es⟩ L Ds:=
 cB _ (λh=>ht h (eq_of_beq h)) (λh=>hf h (ne_of_beq_false h)) b
theorem lU(x y:Int)(ht:(!(x==y))=true→x≠y→Go F n P R base Q (mN S) ⟨sz,es⟩ L Ds)(hf:(!(x==y))=false→x=y→Go F n P R base Q (mO S) ⟨sz,es⟩ L Ds)(b:(ko ⟨sz,es⟩ S,kp ⟨sz,es⟩ S)=(some (!(x==y)),true):=by kernel_rfl):Go F n P R base Q S ⟨sz,es⟩ L Ds:=
 cB _ (λh=>ht h (λe=>by subst e;simp at h)) (λh=>hf h (by simpa using h)) b
theorem Fr.told{b:Act}(d:Fr a Ds b){c:Fe}(g:(c.map λx=>lk a.e x.1)=c.map λx=>some x.2):Fr ⟨a.sz,c⟩ Ds b:=by
 refine⟨d.size,λi v h=>?_,d.defers⟩;obtain⟨q,j,e⟩:=WV (Az h);have:=ALca (λz=>z[q]?) g;exact d.get i v (by simpa [j,e] using this)
theorem aE.under{L':ah}{W:World}(e:aE R base (L++Ds.map mk) W)(h: ∀{b:List Nat},aE b W L W→aE b W L' W):aE R base (L'++Ds.map mk) W:=by
 obtain⟨b,c,d⟩:=e.seg;exact c.out.whole (h d.out)
theorem cl(L':ah)(b:L=L')(c:Go F n P R base Q S ⟨sz,es⟩ L' Ds):Go F n P R base Q S ⟨sz,es⟩ L Ds:=by subst b;exact c
theorem cw(k:Nat)(x y:aB)(h: ∀bs,x.sat bs→y.sat bs)(e:Go F n P R base Q S ⟨sz,es⟩ (L.set k y) Ds)(i:L[k]? =some x:=by kernel_rfl):Go F n P R base Q S ⟨sz,es⟩ L Ds:=
 ⟨λb W d c=>e.out b W d (c.under λg=>g.weak k i h)⟩
theorem ck(k:Nat)(T:aw→Prop)(m: ∀bs,T bs→Go F n P R base Q S ⟨sz,es⟩ (L.set k (.c bs)) Ds)(h:L[k]? =some (.p T):=by kernel_rfl):Go F n P R base Q S ⟨sz,es⟩ L Ds:=by
 refine⟨λb W l i=>?_⟩;obtain⟨o,d,e⟩:=i.seg;obtain⟨bs,j,g⟩:=e.out.open k h;exact(m bs j).out b W l (d.out.whole g)
theorem cn{α:Type}(en:α→List Value)(z:List Value)(T:TypeId)(e:Go F n P R base Q S ⟨sz,es⟩ (L++[.p (ar en z T (.slice none 0 0) ([]:List α))]) Ds):Go F n P R base Q S ⟨sz,es⟩ L Ds:=
 ⟨λb W d c=>e.out b W d (c.under λh=>h.nilS en z T)⟩
end
def wL:List Oper→List Nat
 | []=>[]
 | o::os=>match o.dst with
  | some d=>d::wL os
  | none=>wL os
def jX:Code→List Nat
 | .region _ L _=>wL L.toList
 | .seq x y=>jX x++jX y
 | .cond _ x y=>jX x++jX y
 | .block _ x=>jX x
 | .loop x=>jX x
 | .scope x=>jX x
 | .rangeFunc _ b x y=>b.toList++(jX x++jX y)
 | _=>[]
def jm(S:List It)(e:Fe):Fe:=(λb=>e.filter λx=> !Xo b (V8 x.1)) (jX (fX S))
section
variable (F:Fence) (n:Nat) (P:Program) (R:List Nat) (base:World) {κ:Type}
def AG(I:κ→Prop)(e:κ→Fe)(L:κ→ah)(D:κ→List Nat)(m:κ→Nat)(sz:Nat)(st:Fe)(j:Nat)(b:Act)(W:World):Prop:=∃k,I k∧m k<j∧Fr ⟨sz,e k++st⟩ (D k) b∧aE R base (L k++(D k).map mk) W
def tp(Q:Exit→Act→World→Prop)(S:List It)(I:κ→Prop)(e:κ→Fe)(L:κ→ah)(D:κ→List Nat)(m:κ→Nat)(sz:Nat)(st:Fe)(j:Nat):Exit→Act→World→Prop
 | .normal,b,W=>AG R base I e L D m sz st j b W
 | e,b,W=>c8 F n P Q S e b W
end
section
variable {F:Fence} {n:Nat} {P:Program} {R:List Nat} {base:World} {Q:Exit→Act→World→Prop} {S:List It} {a:Sl} {sz:Nat} {es:Fe} {L:ah} {Ds:List Nat} {κ:Type}
theorem kr{J:Nat→Prop}(h: ∃j,J j): ∃j,J j∧∀i,i<j→¬J i:=by
 classical
 obtain⟨j,k⟩:=h
 induction j using Xj with
 | _ j ih=>
  by_cases b: ∃i,i<j∧J i
  ·obtain⟨i,c,d⟩:=b;exact ih i c d
  ·exact⟨j,k,λi g e=>b ⟨i,g,e⟩⟩
theorem tq(h:nv S=true):nf S= .c (.loop (fX S))::bT S:=by
 unfold nv at h;unfold fX bT
 split at h
 ·rename_i x b e;rw[e]
 ·cases h
theorem Fr.stay{b:Act}(d:Fr a Ds b){c:Fe}(j:(c.map λx=>lk a.e x.1)=c.map λx=>some x.2):Fr ⟨a.sz,c++jm S a.e⟩ Ds b:=by
 have g:=d.told j;refine⟨d.size,λi v h=>?_,d.defers⟩;simp only[pq] at h;cases e:lk c i with
 | none=>
  rw[e] at h;simp only at h;unfold jm at h;rw[wK (p:=λi=> !Xo (jX (fX S)) (V8 i))] at h
  split at h
  ·exact d.get i v h
  ·cases h
 | some u=>rw[e] at h;cases h;exact g.get i v e
theorem lp(I:κ→Prop)(e:κ→Fe)(g:κ→ah)(D:κ→List Nat)(m:κ→Nat)(d:κ)(h0:I d)(l:((e d).map λx=>lk es x.1)=(e d).map λx=>some x.2)(z:L=g d)(u:Ds=D d)
  (N: ∀k,I k→Go F n P R base (tp F n P R base Q (bT S) I e g D m sz (jm S es) (m k)) [.c (fX S)] ⟨sz,e k++jm S es⟩ (g k) (D k)) (A:nv S=true):Go F n P R base Q S ⟨sz,es⟩ L Ds:=by
 classical
 subst z u;refine⟨λb W B q=>dD 1000 S ?_⟩;rw[show dh 1000 S=_ from tq A];show(Code.loop (fX S)).wpIn F n P (c8 F n P Q (bT S)) b W
 let J:Nat→Act→World→Prop:=AG R base I e g D m sz (jm S es)
 let μ:Act→World→Nat:=λb W=>if h: ∃j,J j b W then We (kr h) else 0
 have t: ∀b W,(∃j,J j b W)→J (μ b W) b W∧∀i,i<μ b W→¬J i b W:=by
  intro b W h;have e:μ b W=We (kr h):=dif_pos h;rw[e];exact WE (kr h)
 refine wpIn_loop (λb W=>∃j,J j b W) μ ⟨m d+1,d,h0,Xg _,Fr.stay (a:=⟨sz,es⟩) B l,q⟩ λb W y=>?_;obtain⟨k,G,M,C,q⟩:=(t b W y).1;refine wpIn_mono (show(fX S).wpIn F n P _ b W from(N k G).out b W C q) λe s r l=>?_;cases e with
 | normal=>
  have o:J (m k) s r:=l;exact⟨⟨_,o⟩,Wu (WA λH=>(t s r ⟨_,o⟩).2 _ H o) M⟩
 | _=>exact l
def jC(S c:List It):Option (List It):=match nf S with
 | .x b::S'=>(match lS b S' with
  | none=>some (.x b::c)
  | some _=>none)
 | _=>none
theorem ts{c:Exit→Act→World→Prop}{d g:List It}{b:Act}{W:World}(h1:jC S d=some g)(j:c8 F n P Q g .normal b W)(i: ∀id,c (.exit id) b W=c8 F n P Q d (.exit id) b W):c8 F n P c S .normal b W:=by
 refine dD 1000 S ?_;unfold jC at h1
 split at h1
 ·rename_i id l e;rw[show dh 1000 S=_ from e]
  split at h1
  ·rename_i k;cases h1;exact qy k (by rw[i];exact j)
  ·cases h1
 ·cases h1
theorem AH{I:κ→Prop}{e:κ→Fe}{k:κ→ah}{D:κ→List Nat}{m:κ→Nat}{c:List It}{d:Nat}{st:Fe}{j:Nat}(i:Go F n P R base Q ((jC S c).getD []) ⟨sz,es⟩ L Ds)(o:(jC S c).isSome=true:=by kernel_rfl):Go F n P R base (tp F n P R base Q c I e k D m d st j) S ⟨sz,es⟩ L Ds:=by
 obtain⟨r,g⟩:=Option.isSome_iff_exists.1 o;rw[g] at i;exact⟨λb W q l=>ts g (i.out b W q l) λ_=>rfl⟩
class Rt (Q:Exit→Act→World→Prop) (Q0:outParam (Exit→Act→World→Prop)):Prop where
 out: ∀b W,Q0 .ret b W→Q .ret b W
instance {Q:Exit→Act→World→Prop}:Rt Q Q:=⟨λ_ _ h=>h⟩
def tt(F:Fence)(n:Nat)(P:Program)(R:List Nat)(base:World)(Q:Exit→Act→World→Prop)(S:List It)(I:Nat→Prop)(e:Nat→Fe)(c:Nat→ah)(m:Nat→Nat)(b:List Nat)(sz:Nat)(st:Fe)(j:Nat):Exit→Act→World→Prop:=tp (κ:=Nat) F n P R base Q S I e c (λ_=>b) m sz st j
theorem lq(I:Nat→Prop)(e:Nat→Fe)(d:Nat→ah→ah)(m:Nat→Nat)(b:Nat)(h0:I b)(j:((e b).map λx=>lk es x.1)=(e b).map λx=>some x.2)(g:L=d b L)
  (l: ∀(k:Nat),I k→Go F n P R base (tt F n P R base Q (bT S) I e (λk=>d k L) m Ds sz (jm S es) (m k)) [.c (fX S)] ⟨sz,e k++jm S es⟩ (d k L) Ds) (i:nv S=true:=by kernel_rfl):Go F n P R base Q S ⟨sz,es⟩ L Ds:=
 lp (κ:=Nat) I e (λx=>d x L) (λ_=>Ds) m b h0 j g rfl (λx=>l x) i
theorem le{I:Nat→Prop}{e:Nat→Fe}{l:Nat→ah}{m:Nat→Nat}{o:List It}{d:Nat}{st:Fe}{c:List Nat}{j:Nat}(k:Nat)(r:I k)(A:m k<j)(z:((e k++st).map λx=>lk es x.1)=(e k++st).map λx=>some x.2)(i:List Nat)(s:(de (i.map λp=>[p]).flatten,(i.map λp=>[p]).map λg=>g.map λp=>L[p]?)=(true,((l k).map λx=>[x]).map λN=>N.map some))(u:(nf S).isEmpty=true:=by kernel_rfl)(B:sz=d:=by rfl)(q:Ds=c:=by rfl):
  Go F n P R base (tt F n P R base Q o I e l m c d st j) S ⟨sz,es⟩ L Ds:=by
 subst B q;refine⟨λb W y t=>dD 1000 S ?_⟩;rw[show dh 1000 S=[] from List.isEmpty_iff.1 u];exact⟨k,r,A,Fr.told (a:=⟨sz,es⟩) y z,t.under λh=>h.pick i _ s⟩
theorem lx{I:Nat→Prop}{e:Nat→Fe}{g:Nat→ah}{m:Nat→Nat}{c:List It}{d:Nat}{st:Fe}{b:List Nat}{j:Nat}(k:Go F n P R base Q ((jC S c).getD []) ⟨sz,es⟩ L Ds)(i:(jC S c).isSome=true:=by kernel_rfl):Go F n P R base (tt F n P R base Q c I e g m b d st j) S ⟨sz,es⟩ L Ds:=AH k i
instance {F:Fence} {n:Nat} {P:Program} {R:List Nat} {base:World} {Q Q0:Exit→Act→World→Prop} {I:Nat→Prop} {e:Nat→Fe} {LI:Nat→ah} {m:Nat→Nat} {S0:List It} {sz0:Nat} {st:Fe} {Ds0:List Nat} {j:Nat} [h:Rt Q Q0]:Rt (tt F n P R base Q S0 I e LI m Ds0 sz0 st j) Q0:=⟨λb W hq=>gF (S:=S0) (h.out b W hq)⟩
def tu(F:Fence)(n:Nat)(P:Program)(R:List Nat)(base:World)(Q:Exit→Act→World→Prop)(S:List It)(I:Nat→Value→Prop)(e:Nat→Value→Fe)(c:Nat→Value→ah)(m:Nat→Value→Nat)(b:List Nat)(sz:Nat)(st:Fe)(j:Nat):Exit→Act→World→Prop:=tp (κ:=Nat×Value) F n P R base Q S (λx=>I x.1 x.2) (λx=>e x.1 x.2) (λx=>c x.1 x.2) (λ_=>b) (λx=>m x.1 x.2) sz st j
theorem mP(I:Nat→Value→Prop)(e:Nat→Value→Fe)(g:Nat→Value→ah→ah)(m:Nat→Value→Nat)(b:Nat)(d:Value)(h0:I b d)(l:((e b d).map λx=>lk es x.1)=(e b d).map λx=>some x.2)(i:L=g b d L)
  (o: ∀(k:Nat) (u:Value),I k u→Go F n P R base (tu F n P R base Q (bT S) I e (λk u=>g k u L) m Ds sz (jm S es) (m k u)) [.c (fX S)] ⟨sz,e k u++jm S es⟩ (g k u L) Ds) (j:nv S=true:=by kernel_rfl):Go F n P R base Q S ⟨sz,es⟩ L Ds:=
 lp (κ:=Nat×Value) (λx=>I x.1 x.2) (λx=>e x.1 x.2) (λx=>g x.1 x.2 L) (λ_=>Ds) (λx=>m x.1 x.2) (b,d) h0 l i rfl (λx=>o x.1 x.2) j
theorem kY{I:Nat→Value→Prop}{e:Nat→Value→Fe}{l:Nat→Value→ah}{m:Nat→Value→Nat}{o:List It}{d:Nat}{st:Fe}{c:List Nat}{j:Nat}(k:Nat)(u:Value)(r:I k u)(B:m k u<j)(A:((e k u++st).map λx=>lk es x.1)=(e k u++st).map λx=>some x.2)(i:List Nat)(s:(de (i.map λp=>[p]).flatten,(i.map λp=>[p]).map λg=>g.map λp=>L[p]?)=(true,((l k u).map λx=>[x]).map λN=>N.map some))(y:(nf S).isEmpty=true:=by kernel_rfl)(C:sz=d:=by rfl)(q:Ds=c:=by rfl):
  Go F n P R base (tu F n P R base Q o I e l m c d st j) S ⟨sz,es⟩ L Ds:=by
 subst C q;refine⟨λb W z t=>dD 1000 S ?_⟩;rw[show dh 1000 S=[] from List.isEmpty_iff.1 y];exact⟨(k,u),r,B,Fr.told (a:=⟨sz,es⟩) z A,t.under λh=>h.pick i _ s⟩
theorem kZ{I:Nat→Value→Prop}{e:Nat→Value→Fe}{g:Nat→Value→ah}{m:Nat→Value→Nat}{c:List It}{d:Nat}{st:Fe}{b:List Nat}{j:Nat}(k:Go F n P R base Q ((jC S c).getD []) ⟨sz,es⟩ L Ds)(i:(jC S c).isSome=true:=by kernel_rfl):Go F n P R base (tu F n P R base Q c I e g m b d st j) S ⟨sz,es⟩ L Ds:=AH k i
instance {F:Fence} {n:Nat} {P:Program} {R:List Nat} {base:World} {Q Q0:Exit→Act→World→Prop} {I:Nat→Value→Prop} {e:Nat→Value→Fe} {LI:Nat→Value→ah} {m:Nat→Value→Nat} {S0:List It} {sz0:Nat} {st:Fe} {Ds0:List Nat} {j:Nat} [h:Rt Q Q0]:Rt (tu F n P R base Q S0 I e LI m Ds0 sz0 st j) Q0:=⟨λb W hq=>gF (S:=S0) (h.out b W hq)⟩
def Vt(F:Fence)(n:Nat)(P:Program)(R:List Nat)(base:World)(Q:Exit→Act→World→Prop)(S:List It)(I:Nat→Value→Value→Prop)(e:Nat→Value→Value→Fe)(c:Nat→Value→Value→ah)(m:Nat→Value→Value→Nat)(b:List Nat)(sz:Nat)(st:Fe)(j:Nat):Exit→Act→World→Prop:=tp (κ:=Nat×Value×Value) F n P R base Q S (λx=>I x.1 x.2.1 x.2.2) (λx=>e x.1 x.2.1 x.2.2) (λx=>c x.1 x.2.1 x.2.2) (λ_=>b) (λx=>m x.1 x.2.1 x.2.2) sz st j
instance {F:Fence} {n:Nat} {P:Program} {R:List Nat} {base:World} {Q Q0:Exit→Act→World→Prop} {I:Nat→Value→Value→Prop} {e:Nat→Value→Value→Fe} {LI:Nat→Value→Value→ah} {m:Nat→Value→Value→Nat} {S0:List It} {sz0:Nat} {st:Fe} {Ds0:List Nat} {j:Nat} [h:Rt Q Q0]:Rt (Vt F n P R base Q S0 I e LI m Ds0 sz0 st j) Q0:=⟨λb W hq=>gF (S:=S0) (h.out b W hq)⟩
def Vu(F:Fence)(n:Nat)(P:Program)(R:List Nat)(base:World)(Q:Exit→Act→World→Prop)(S:List It)(I:Nat→Value→Value→Value→Prop)(e:Nat→Value→Value→Value→Fe)(c:Nat→Value→Value→Value→ah)(m:Nat→Value→Value→Value→Nat)(b:List Nat)(sz:Nat)(st:Fe)(j:Nat):Exit→Act→World→Prop:=tp (κ:=Nat×Value×Value×Value) F n P R base Q S (λx=>I x.1 x.2.1 x.2.2.1 x.2.2.2) (λx=>e x.1 x.2.1 x.2.2.1 x.2.2.2) (λx=>c x.1 x.2.1 x.2.2.1 x.2.2.2) (λ_=>b) (λx=>m x.1 x.2.1 x.2.2.1 x.2.2.2) sz st j
instance {F:Fence} {n:Nat} {P:Program} {R:List Nat} {base:World} {Q Q0:Exit→Act→World→Prop} {I:Nat→Value→Value→Value→Prop} {e:Nat→Value→Value→Value→Fe} {LI:Nat→Value→Value→Value→ah} {m:Nat→Value→Value→Value→Nat} {S0:List It} {sz0:Nat} {st:Fe} {Ds0:List Nat} {j:Nat} [h:Rt Q Q0]:Rt (Vu F n P R base Q S0 I e LI m Ds0 sz0 st j) Q0:=⟨λb W hq=>gF (S:=S0) (h.out b W hq)⟩
def Vv(F:Fence)(n:Nat)(P:Program)(R:List Nat)(base:World)(Q:Exit→Act→World→Prop)(S:List It)(I:Nat→List Nat→Prop)(e:Nat→List Nat→Fe)(b:Nat→List Nat→ah)(m:Nat→List Nat→Nat)(sz:Nat)(st:Fe)(j:Nat):Exit→Act→World→Prop:=tp (κ:=Nat×List Nat) F n P R base Q S (λx=>I x.1 x.2) (λx=>e x.1 x.2) (λx=>b x.1 x.2) (λx=>x.2) (λx=>m x.1 x.2) sz st j
instance {F:Fence} {n:Nat} {P:Program} {R:List Nat} {base:World} {Q Q0:Exit→Act→World→Prop} {I:Nat→List Nat→Prop} {e:Nat→List Nat→Fe} {LI:Nat→List Nat→ah} {m:Nat→List Nat→Nat} {S0:List It} {sz0:Nat} {st:Fe} {j:Nat} [h:Rt Q Q0]:Rt (Vv F n P R base Q S0 I e LI m sz0 st j) Q0:=⟨λb W hq=>gF (S:=S0) (h.out b W hq)⟩
def Vw(F:Fence)(n:Nat)(P:Program)(R:List Nat)(base:World)(Q:Exit→Act→World→Prop)(S:List It)(I:Nat→Value→List Nat→Prop)(e:Nat→Value→List Nat→Fe)(b:Nat→Value→List Nat→ah)(m:Nat→Value→List Nat→Nat)(sz:Nat)(st:Fe)(j:Nat):Exit→Act→World→Prop:=tp (κ:=Nat×Value×List Nat) F n P R base Q S (λx=>I x.1 x.2.1 x.2.2) (λx=>e x.1 x.2.1 x.2.2) (λx=>b x.1 x.2.1 x.2.2) (λx=>x.2.2) (λx=>m x.1 x.2.1 x.2.2) sz st j
instance {F:Fence} {n:Nat} {P:Program} {R:List Nat} {base:World} {Q Q0:Exit→Act→World→Prop} {I:Nat→Value→List Nat→Prop} {e:Nat→Value→List Nat→Fe} {LI:Nat→Value→List Nat→ah} {m:Nat→Value→List Nat→Nat} {S0:List It} {sz0:Nat} {st:Fe} {j:Nat} [h:Rt Q Q0]:Rt (Vw F n P R base Q S0 I e LI m sz0 st j) Q0:=⟨λb W hq=>gF (S:=S0) (h.out b W hq)⟩
def Vx(F:Fence)(n:Nat)(P:Program)(R:List Nat)(base:World)(Q:Exit→Act→World→Prop)(S:List It)(I:Nat→Value→Value→List Nat→Prop)(e:Nat→Value→Value→List Nat→Fe)(b:Nat→Value→Value→List Nat→ah)(m:Nat→Value→Value→List Nat→Nat)(sz:Nat)(st:Fe)(j:Nat):Exit→Act→World→Prop:=tp (κ:=Nat×Value×Value×List Nat) F n P R base Q S (λx=>I x.1 x.2.1 x.2.2.1 x.2.2.2) (λx=>e x.1 x.2.1 x.2.2.1 x.2.2.2) (λx=>b x.1 x.2.1 x.2.2.1 x.2.2.2) (λx=>x.2.2.2) (λx=>m x.1 x.2.1 x.2.2.1 x.2.2.2) sz st j
instance {F:Fence} {n:Nat} {P:Program} {R:List Nat} {base:World} {Q Q0:Exit→Act→World→Prop} {I:Nat→Value→Value→List Nat→Prop} {e:Nat→Value→Value→List Nat→Fe} {LI:Nat→Value→Value→List Nat→ah} {m:Nat→Value→Value→List Nat→Nat} {S0:List It} {sz0:Nat} {st:Fe} {j:Nat} [h:Rt Q Q0]:Rt (Vx F n P R base Q S0 I e LI m sz0 st j) Q0:=⟨λb W hq=>gF (S:=S0) (h.out b W hq)⟩
end
section
variable {F:Fence} {n:Nat} {P:Program} {R:List Nat} {base:World} {Q:Exit→Act→World→Prop} {S:List It} {a:Sl} {sz:Nat} {es:Fe} {L:ah} {Ds:List Nat}
def jQ(F:Fence)(n:Nat)(P:Program)(R:List Nat)(base:World)(Q:Exit→Act→World→Prop)(S:List It)(c:Sl)(L':ah)(Ds:List Nat):Exit→Act→World→Prop
 | .normal,b,W=>Fr c Ds b∧aE R base (L'++Ds.map mk) W
 | e,b,W=>c8 F n P Q S e b W
def tx(S:List It):Code:=match nf S with | .c (.cond _ x _)::_=>x | _=> .skip
def tz(S:List It):Code:=match nf S with | .c (.cond _ _ y)::_=>y | _=> .skip
def wN(S:List It)(e:Fe):Fe:=(λb=>e.filter λx=> !Xo b (V8 x.1)) (jX (tx S)++jX (tz S))
theorem cJ(E:Bool)(l:Bool→Fe)(L':Bool→ah)(ht:E=true→Go F n P R base (jQ F n P R base Q (bT S) ⟨sz,l true++wN S es⟩ (L' true) Ds) [.c (tx S)] ⟨sz,es⟩ L Ds)(hf:E=false→Go F n P R base (jQ F n P R base Q (bT S) ⟨sz,l false++wN S es⟩ (L' false) Ds) [.c (tz S)] ⟨sz,es⟩ L Ds)
  (m:Go F n P R base Q (bT S) ⟨sz,l E++wN S es⟩ (L' E) Ds) (r:(ko ⟨sz,es⟩ S,kp ⟨sz,es⟩ S)=(some E,true):=by kernel_rfl):Go F n P R base Q S ⟨sz,es⟩ L Ds:=by
 obtain⟨c,x,y,s,g,A,B,o⟩:=AF (Ds:=Ds) (ALca (·.1) r) (ALca (·.2) r);have u:tx S=x:=by unfold tx;rw[g]
 have z:tz S=y:=by unfold tz;rw[g]
 have t:bT S=s:=by unfold bT;rw[g]
 rw[u] at ht;rw[z] at hf;rw[t] at ht hf m;refine⟨λb W i q=>dD 1000 S ?_⟩;rw[show dh 1000 S=_ from g];cases E with
 | true=>exact wpIn_cond (o i) (wpIn_mono (show x.wpIn F n P _ b W from(ht rfl).out b W i q) λe k j d=>by
   cases e with
   | normal=>exact m.out k j d.1 d.2
   | _=>exact d)
 | false=>exact wpIn_cond (o i) (wpIn_mono (show y.wpIn F n P _ b W from(hf rfl).out b W i q) λe k j d=>by
   cases e with
   | normal=>exact m.out k j d.1 d.2
   | _=>exact d)
theorem cm{i:List It}{d:Sl}{L':ah}{c:List Nat}(q:(d.e.map λx=>lk es x.1)=d.e.map λx=>some x.2)(e:List Nat)(k:(de (e.map λp=>[p]).flatten,(e.map λp=>[p]).map λg=>g.map λp=>L[p]?)=(true,(L'.map λx=>[x]).map λN=>N.map some))(m:(nf S).isEmpty=true:=by kernel_rfl)(r:sz=d.sz:=by rfl)(j:Ds=c:=by rfl):Go F n P R base (jQ F n P R base Q i d L' c) S ⟨sz,es⟩ L Ds:=by
 subst j;refine⟨λb W o l=>dD 1000 S ?_⟩;rw[show dh 1000 S=[] from List.isEmpty_iff.1 m];have h:=o.told q;exact⟨⟨h.size.trans r,h.get,h.defers⟩,l.under λh=>h.pick e _ k⟩
theorem r0[hF:jT F](hs:List (Nat×b9 P))(b:Fe)(dr:List Nat)(d:Go F n P R base Q (bT S) ⟨sz,b++ek dr es⟩ L Ds)
 (e:P.follows .mixedOrders=true:=by kernel_rfl)
 (c: ∀η,(kX S,(e6 (ax S) ⟨sz,es⟩ (tR S ⟨sz,es⟩ L L.length λ_=>hs) η 0 (ax S) (jW S ⟨sz,es⟩ L (λ_=>hs) η)).map a7.lhs,lO (eO S) (ax S) (λk=>(je (eO S) (ax S)).getD k []),(VL L.length).map (λp=>(tR S ⟨sz,es⟩ L L.length λ_=>hs).at η p (ax S).length),b.map (λx=>kq (ax S) ⟨sz,es⟩ (tR S ⟨sz,es⟩ L L.length λ_=>hs) η x.1),lT (ax S) es b dr)=
  (true,(e6 (ax S) ⟨sz,es⟩ (tR S ⟨sz,es⟩ L L.length λ_=>hs) η 0 (ax S) (jW S ⟨sz,es⟩ L (λ_=>hs) η)).map a7.rhs,true,L.map some,b.map (λx=>some x.2),true):=by intro _;kernel_rfl):Go F n P R base Q S ⟨sz,es⟩ L Ds:=rr (λ_=>hs) (λ_=>b) dr (λ_ L=>L) (λ_=>d) e c
theorem rF[hF:jT F](hs:List (Nat×b9 P))(k:Nat)(d:Go F n P R base Q (mO (bT S)) ⟨sz,[(k,Value.bool false)]++ek [] es⟩ L Ds)(e:P.follows .mixedOrders=true:=by kernel_rfl)(c: ∀η,(kX S,(e6 (ax S) ⟨sz,es⟩ (tR S ⟨sz,es⟩ L L.length λ_=>hs) η 0 (ax S) (jW S ⟨sz,es⟩ L (λ_=>hs) η)).map a7.lhs,lO (eO S) (ax S) (λk=>(je (eO S) (ax S)).getD k []),(VL L.length).map (λp=>(tR S ⟨sz,es⟩ L L.length λ_=>hs).at η p (ax S).length),[(k,Value.bool false)].map (λx=>kq (ax S) ⟨sz,es⟩ (tR S ⟨sz,es⟩ L L.length λ_=>hs) η x.1),lT (ax S) es [(k,Value.bool false)] [])=(true,(e6 (ax S) ⟨sz,es⟩ (tR S ⟨sz,es⟩ L L.length λ_=>hs) η 0 (ax S) (jW S ⟨sz,es⟩ L (λ_=>hs) η)).map a7.rhs,true,L.map some,[(k,Value.bool false)].map (λx=>some x.2),true):=by intro _;kernel_rfl)(b:(ko ⟨sz,[(k,Value.bool false)]++ek [] es⟩ (bT S),kp ⟨sz,[(k,Value.bool false)]++ek [] es⟩ (bT S))=(some false,true):=by kernel_rfl):Go F n P R base Q S ⟨sz,es⟩ L Ds:=r0 hs [(k,Value.bool false)] [] (cF false rfl d b) e c
theorem rT[hF:jT F](hs:List (Nat×b9 P))(k:Nat)(d:Go F n P R base Q (mN (bT S)) ⟨sz,[(k,Value.bool true)]++ek [] es⟩ L Ds)(e:P.follows .mixedOrders=true:=by kernel_rfl)(c: ∀η,(kX S,(e6 (ax S) ⟨sz,es⟩ (tR S ⟨sz,es⟩ L L.length λ_=>hs) η 0 (ax S) (jW S ⟨sz,es⟩ L (λ_=>hs) η)).map a7.lhs,lO (eO S) (ax S) (λk=>(je (eO S) (ax S)).getD k []),(VL L.length).map (λp=>(tR S ⟨sz,es⟩ L L.length λ_=>hs).at η p (ax S).length),[(k,Value.bool true)].map (λx=>kq (ax S) ⟨sz,es⟩ (tR S ⟨sz,es⟩ L L.length λ_=>hs) η x.1),lT (ax S) es [(k,Value.bool true)] [])=(true,(e6 (ax S) ⟨sz,es⟩ (tR S ⟨sz,es⟩ L L.length λ_=>hs) η 0 (ax S) (jW S ⟨sz,es⟩ L (λ_=>hs) η)).map a7.rhs,true,L.map some,[(k,Value.bool true)].map (λx=>some x.2),true):=by intro _;kernel_rfl)(b:(ko ⟨sz,[(k,Value.bool true)]++ek [] es⟩ (bT S),kp ⟨sz,[(k,Value.bool true)]++ek [] es⟩ (bT S))=(some true,true):=by kernel_rfl):Go F n P R base Q S ⟨sz,es⟩ L Ds:=r0 hs [(k,Value.bool true)] [] (cT true rfl d b) e c
theorem ra[hF:jT F](b:bu→Fe)(A:bu→ah)(d: ∀η,Go F n P R base Q (bT S) ⟨sz,b η++ek [] es⟩ (L++A η) Ds)(e:P.follows .mixedOrders=true:=by kernel_rfl)(c: ∀η,(kX S,(e6 (ax S) ⟨sz,es⟩ (tR S ⟨sz,es⟩ L (mR (λη L=>L++A η) L) (λ_=>([]:List (Nat×b9 P)))) η 0 (ax S) (jW S ⟨sz,es⟩ L (λ_=>([]:List (Nat×b9 P))) η)).map a7.lhs,lO (eO S) (ax S) (λk=>(je (eO S) (ax S)).getD k []),(VL (mR (λη L=>L++A η) L)).map (λp=>(tR S ⟨sz,es⟩ L (mR (λη L=>L++A η) L) (λ_=>([]:List (Nat×b9 P)))).at η p (ax S).length),(b η).map (λx=>kq (ax S) ⟨sz,es⟩ (tR S ⟨sz,es⟩ L (mR (λη L=>L++A η) L) (λ_=>([]:List (Nat×b9 P)))) η x.1),lT (ax S) es (b η) [])=(true,(e6 (ax S) ⟨sz,es⟩ (tR S ⟨sz,es⟩ L (mR (λη L=>L++A η) L) (λ_=>([]:List (Nat×b9 P)))) η 0 (ax S) (jW S ⟨sz,es⟩ L (λ_=>([]:List (Nat×b9 P))) η)).map a7.rhs,true,(L++A η).map some,(b η).map (λx=>some x.2),true):=by intro _;kernel_rfl):Go F n P R base Q S ⟨sz,es⟩ L Ds:=rr (λ_=>[]) b [] (λη L=>L++A η) d e c
theorem rs[hF:jT F](hs:List (Nat×b9 P))(k:Nat)(X:aB)(c:Go F n P R base Q (bT S) ⟨sz,[]++ek [] es⟩ (L.set k X) Ds)(d:P.follows .mixedOrders=true:=by kernel_rfl)(b: ∀η,(kX S,(e6 (ax S) ⟨sz,es⟩ (tR S ⟨sz,es⟩ L (mR (λ_ L=>L.set k X) L) (λ_=>hs)) η 0 (ax S) (jW S ⟨sz,es⟩ L (λ_=>hs) η)).map a7.lhs,lO (eO S) (ax S) (λk=>(je (eO S) (ax S)).getD k []),(VL (mR (λ_ L=>L.set k X) L)).map (λp=>(tR S ⟨sz,es⟩ L (mR (λ_ L=>L.set k X) L) (λ_=>hs)).at η p (ax S).length),([]:Fe).map (λx=>kq (ax S) ⟨sz,es⟩ (tR S ⟨sz,es⟩ L (mR (λ_ L=>L.set k X) L) (λ_=>hs)) η x.1),lT (ax S) es ([]:Fe) [])=(true,(e6 (ax S) ⟨sz,es⟩ (tR S ⟨sz,es⟩ L (mR (λ_ L=>L.set k X) L) (λ_=>hs)) η 0 (ax S) (jW S ⟨sz,es⟩ L (λ_=>hs) η)).map a7.rhs,true,(L.set k X).map some,([]:Fe).map (λx=>some x.2),true):=by intro _;kernel_rfl):Go F n P R base Q S ⟨sz,es⟩ L Ds:=rr (λ_=>hs) (λ_=>[]) [] (λ_ L=>L.set k X) (λ_=>c) d b
end
def nw:Nat→List Value→Fe
 | _,[]=>[]
 | k,v::r=>(k,v)::nw (k+1) r
theorem qz: ∀{l:List Value} {k i:Nat} {v:Value},lk (nw k l) i=some v→k≤i∧l[i-k]? =some v
 | [],_,_,_,h=>by cases h
 | u::r,k,i,v,h=>by
  unfold nw lk at h
  split at h
  ·rename_i c;cases h;rw[VR c,Wz];exact⟨VS _,rfl⟩
  ·obtain⟨d,b⟩:=qz h;refine⟨by omega,?_⟩;rw[show i-k=(i-(k+1))+1 by omega,List.getElem?_cons_succ];exact b
def jY(fn:Func):Code:=fn.body.getD .skip
section
variable {P:Program} {f:FuncId} {fn:Func} {args:Array Value} {rd:ah} {O:List Nat} {wt:ab→ah} {v:ab→Value}
def fQ(P:Program)(fn:Func)(rd:ah)(O:List Nat)(wt:ab→ah)(v:ab→Value)(cs:List aw)(w:World):Exit→Act→World→Prop:=λe b W=>
 bl rd cs→eh cs.flatten w→bodyPostM Fence.wide 6 P fn (Aq O wt v cs w) e b W
theorem fE(hf:P.funcs[f]? =some fn)(h: ∀w cs,Go Fence.wide 6 P (bI cs.flatten) w (fQ P fn rd O wt v cs w) [.c (jY fn)] ⟨fn.ntmps,nw 0 args.toList⟩ rd [])(r:Enters P f:=by exact enters_of As Kr rfl)
  (k:(fn.body.isSome,WZ args.size fn.ntmps)=(true,true):=by kernel_rfl):aa P f args rd O wt v:=by
 refine⟨r,λw cs m l=>?_⟩;obtain⟨c,j⟩:=Option.isSome_iff_exists.1 (ALca (·.1) k);have u:args.size≤fn.ntmps:=Wl (ALca (·.2) k);refine(callsIn_wide (n:=6)).1 ?_;refine callsIn_of_wp_marks hf j trivial ?_ rfl;have g:=(h w cs).out {tmps:=args++Array.replicate (fn.ntmps-args.size) undef,defers:=[]} w ⟨by simp;omega,λi v t=>?_,rfl⟩ (by simpa using aE.start m l)
 ·rw[show jY fn=c by unfold jY;rw[j];rfl] at g;exact wpIn_mono (show c.wpIn Fence.wide 6 P _ _ _ from g) λe b W s=>s m l
 ·obtain⟨_,d⟩:=qz t;rw[Wd] at d;have o:i<args.toList.length:=(List.getElem?_eq_some_iff.1 d).1;have q:args[i]? =some v:=by rw[←Array.getElem?_toList];exact d
  rw[Array.getD_eq_getD_getElem?,Array.getElem?_append_left (by simpa using o),q];rfl
theorem fG(hf:P.funcs[f]? =some fn)(h: ∀w cs,Go Fence.wide 6 P (bI cs.flatten) w (fQ P fn rd O wt v cs w) [.c (jY fn)] ⟨fn.ntmps,nw 0 args.toList⟩ rd [])(e:(fn.name== "runtime.NumGoroutine")=false:=by kernel_rfl)
  (b:(fn.body.isSome,WZ args.size fn.ntmps)=(true,true):=by kernel_rfl):aa P f args rd O wt v:=by
 obtain⟨c,d⟩:=Option.isSome_iff_exists.1 (congrArg (·.1) b);exact fE hf h (enters_of hf e d) b
theorem fN{fn:Func}(hf:P.funcs[f]? =some fn)(e:(fn.name== "runtime.NumGoroutine")=false:=by kernel_rfl)(b:fn.body.isSome=true:=by kernel_rfl):Enters P f:=by
 obtain⟨c,d⟩:=Option.isSome_iff_exists.1 b;exact enters_of hf e d
theorem fO{fn:Func}(hf:P.funcs[f]? =some fn)(i:Nat){Q:aw→Prop}(d:rd[i]? =some (.p Q))(h: ∀bs,Q bs→aa P f args (rd.set i (.c bs)) O wt v)(e:(fn.name== "runtime.NumGoroutine")=false:=by kernel_rfl)(b:fn.body.isSome=true:=by kernel_rfl):aa P f args rd O wt v:=aa.ro i d h (fN hf e b)
instance {F:Fence} {n:Nat} {R:List Nat} {base:World} {Q Q0:Exit→Act→World→Prop} {S0:List It} {a':Sl} {L':ah} {Ds:List Nat} [h:Rt Q Q0]:Rt (jQ F n P R base Q S0 a' L' Ds) Q0:=⟨λb W hq=>gF (S:=S0) (h.out b W hq)⟩
def jn(P:Program)(L:ah)(e:Fe):List ResultVar→List Nat→List (RV P)
 | [],_=>[]
 | .tmp i::rs,b=> .t ((lk e i).getD undef)::jn P L e rs b
 | .cell _ T::rs,k::b=>(match L[k]? with
  | some (.c [(_,.cells cs _ _)])=>(match dC P T with
   | true=> .s (cs.toList.take (Aw P T)) k
   | false=> .c (cs.getD 0 undef) k)
  | _=> .t undef)::jn P L e rs b
 | .cell _ _::rs,[]=> .t undef::jn P L e rs []
def fA(P:Program)(L:ah)(e:Fe):List ResultVar→List (RV P)→List a7
 | [],[]=>[]
 | .tmp i::rs,.t v::vs=>sE (lk e i) (some v)::fA P L e rs vs
 | .cell p T::rs,.c v k::vs=>(match L[k]? with
  | some (.c [(g,.cells cs _ (0,0))])=>[sE (lk e p) (some (ng g 0)),sE cs[0]? (some v),sE (λw=>(isAgg T).run P w) (λw=> .ok false w)]
  | _=>[sB false])++fA P L e rs vs
 | .cell p T::rs,.s l k::vs=>(match L[k]? with
  | some (.c [(g,.cells cs _ (0,0))])=>[sE (lk e p) (some (ng g 0)),sE ((cs.toList.drop 0).take l.length) l,sB (dC P T),sE ((P.info? T).map (·.size)) (some l.length)]
  | _=>[sB false])++fA P L e rs vs
 | _,_=>[sB false]
theorem tA{a:Sl}{Ds:List Nat}{b:Act}(j:Fr a Ds b){L:ah}{M:ah}: ∀{rs:List ResultVar} {vs:List (RV P)},(∀x∈fA P L a.e rs vs,x.2.1=x.2.2)→∀x∈fw P (L) b.tmps rs vs,x.2.1=x.2.2
 | [],[],_=>λx o=>by simp [fw] at o
 | [],_::_,h=>(bA (by simpa [fA] using h)).elim
 | .tmp i::rs,[],h=>(bA (by simpa [fA] using h)).elim
 | .cell p T::rs,[],h=>(bA (by simpa [fA] using h)).elim
 | .tmp i::rs,.t v::vs,h=>by
  simp only[fA,VF,forall_eq_or_imp,sE] at h;simp only[fw,VF,forall_eq_or_imp,sE];exact⟨j.get i v h.1,tA (M:=M) j h.2⟩
 | .tmp i::rs,.c v k::vs,h=>(bA (by simpa only[fA] using h)).elim
 | .tmp i::rs,.s l k::vs,h=>(bA (by simpa only[fA] using h)).elim
 | .cell p T::rs,.t v::vs,h=>(bA (by simpa only[fA] using h)).elim
 | .cell p T::rs,.c v k::vs,h=>by
  simp only[fA] at h;simp only[fw]
  split at h
  ·rename_i g cs q m;simp only[V9,VF,VC,or_false,or_imp,forall_and,forall_eq,sE] at h;simp only[m,V9,VF,VC,or_false,or_imp,forall_and,forall_eq,sE];exact⟨⟨j.get p _ h.1.1,h.1.2⟩,tA (M:=M) j h.2⟩
  ·exact(bA λe d=>h e (WR _ d)).elim
 | .cell p T::rs,.s l k::vs,h=>by
  simp only[fA] at h;simp only[fw]
  split at h
  ·rename_i g cs q m;simp only[V9,VF,VC,or_false,or_imp,forall_and,forall_eq,sE,sB] at h;simp only[m,V9,VF,VC,or_false,or_imp,forall_and,forall_eq,sE,sB];exact⟨⟨j.get p _ h.1.1,h.1.2⟩,tA (M:=M) j h.2⟩
  ·exact(bA λe d=>h e (WR _ d)).elim
section
variable {a:Sl} {sz:Nat} {es:Fe} {L:ah} {S:List It} {Ds:List Nat} {cs:List aw} {w:World} {Q:Exit→Act→World→Prop}
theorem AJ{b:Act}{W:World}(j:Fr a Ds b)(e:aE (bI cs.flatten) w (L++Ds.map mk) W)(l:bl rd cs)(k:eh cs.flatten w)(vs:List (RV P))(E:ab)(g:List Nat)(c:List (Nat×Nat))(hv:nj vs=v E)
  (s:(fA P L a.e fn.results.toList vs).map a7.lhs=(fA P L a.e fn.results.toList vs).map a7.rhs)
  (hf:(de (g++c.map (·.2)),g.map (λp=>L[p]?),c.map (λx=>L[x.2]?),c.all (λx=>pn rd[x.1]?),(VL rd.length).all λi=>O.contains i||c.any λx=>x.1==i)=(true,(wt E).map some,c.map (λx=>rd[x.1]?),true,true)):
  LeavesInM Fence.wide 6 P fn b.tmps (Aq O wt v cs w) b.defers .returning W:=by
 obtain⟨u,m,o⟩:=e.seg;rw[j.defers];have d:=tA (M:=L) j (a7.all s);refine zU m o vs ?_ λy e=>?_
 ·exact Wp λx t=>by
   obtain⟨T,z,A⟩:=x;have:=d _ t;simp only at this;unfold a7.lhs a7.rhs;rw[this]
 ·obtain⟨q,d,r⟩:=e.fin2 (R:=[]) l k O (wt E) g c hf;exact⟨E,q,by rw[hv],d,r⟩
def qA(S:List It):Bool:=match nf S with | .c .ret::_=>true | _=>false
theorem ak[hR:Rt Q (fQ P fn rd O wt v cs w)](u:Value)(E:ab)(q:u=v E)(g:List Nat)(c:List (Nat×Nat))(rs:List Nat)(hv:nj (jn P L es fn.results.toList rs)=u:=by kernel_rfl)
  (o:(fA P L es fn.results.toList (jn P L es fn.results.toList rs)).map a7.lhs=(fA P L es fn.results.toList (jn P L es fn.results.toList rs)).map a7.rhs:=by kernel_rfl)
  (hf:(de (g++c.map (·.2)),g.map (λp=>L[p]?),c.map (λx=>L[x.2]?),c.all (λx=>pn rd[x.1]?),(VL rd.length).all λi=>O.contains i||c.any λx=>x.1==i)=(true,(wt E).map some,c.map (λx=>rd[x.1]?),true,true):=by kernel_rfl)
  (d:qA S=true:=by kernel_rfl):Go Fence.wide 6 P (bI cs.flatten) w Q S ⟨sz,es⟩ L Ds:=by
 refine⟨λb W m l=>dD 1000 S ?_⟩;unfold qA at d
 split at d
 ·rename_i r e;rw[show dh 1000 S=_ from e];exact wpIn_ret (gF (hR.out b W λk j=>AJ m l k j _ E g c (hv.trans q) o hf))
 ·cases d
theorem lf[hR:Rt Q (fQ P fn rd O wt v cs w)](E:ab)(c:List Nat)(b:List (Nat×Nat))(rs:List Nat)(hv:nj (jn P L es fn.results.toList rs)=v E:=by kernel_rfl)
 (e:(fA P L es fn.results.toList (jn P L es fn.results.toList rs)).map a7.lhs=(fA P L es fn.results.toList (jn P L es fn.results.toList rs)).map a7.rhs:=by kernel_rfl)
 (hf:(de (c++b.map (·.2)),c.map (λp=>L[p]?),b.map (λx=>L[x.2]?),b.all (λx=>pn rd[x.1]?),(VL rd.length).all λi=>O.contains i||b.any λx=>x.1==i)=(true,(wt E).map some,b.map (λx=>rd[x.1]?),true,true):=by kernel_rfl)
 (d:qA S=true:=by kernel_rfl):Go Fence.wide 6 P (bI cs.flatten) w Q S ⟨sz,es⟩ L Ds:=ak (v E) E rfl c b rs hv e hf d
theorem H5(u:Value)(E:ab)(o:u=v E)(d:List Nat)(c:List (Nat×Nat))(rs:List Nat)(hv:nj (jn P L es fn.results.toList rs)=u:=by kernel_rfl)
  (m:(fA P L es fn.results.toList (jn P L es fn.results.toList rs)).map a7.lhs=(fA P L es fn.results.toList (jn P L es fn.results.toList rs)).map a7.rhs:=by kernel_rfl)
  (hf:(de (d++c.map (·.2)),d.map (λp=>L[p]?),c.map (λx=>L[x.2]?),c.all (λx=>pn rd[x.1]?),(VL rd.length).all λi=>O.contains i||c.any λx=>x.1==i)=(true,(wt E).map some,c.map (λx=>rd[x.1]?),true,true):=by kernel_rfl)
  (k:(nf S).isEmpty=true:=by kernel_rfl):Go Fence.wide 6 P (bI cs.flatten) w (fQ P fn rd O wt v cs w) S ⟨sz,es⟩ L Ds:=by
 refine⟨λb W l j=>dD 1000 S ?_⟩;rw[show dh 1000 S=[] from List.isEmpty_iff.1 k];exact λg e=>AJ l j g e _ E d c (hv.trans o) m hf
theorem eo(E:ab)(c:List Nat)(b:List (Nat×Nat))(rs:List Nat)(hv:nj (jn P L es fn.results.toList rs)=v E:=by kernel_rfl)
  (e:(fA P L es fn.results.toList (jn P L es fn.results.toList rs)).map a7.lhs=(fA P L es fn.results.toList (jn P L es fn.results.toList rs)).map a7.rhs:=by kernel_rfl)
  (hf:(de (c++b.map (·.2)),c.map (λp=>L[p]?),b.map (λx=>L[x.2]?),b.all (λx=>pn rd[x.1]?),(VL rd.length).all λi=>O.contains i||b.any λx=>x.1==i)=(true,(wt E).map some,b.map (λx=>rd[x.1]?),true,true):=by kernel_rfl)
  (d:(nf S).isEmpty=true:=by kernel_rfl):Go Fence.wide 6 P (bI cs.flatten) w (fQ P fn rd O wt v cs w) S ⟨sz,es⟩ L Ds:=
 H5 (v E) E rfl c b rs hv e hf d
end
end
end
section
open Go Go.Shelf Go.RowKit
structure Kd (P:Program) (α:Type) where
 en:α→List Value
 z:List Value
 TS:TypeId
 T:TypeId
 d:α
 k:Nat
 hk: ∀y,(en y).length=k
 hz:k=z.length
 h1: ∀y,(en y).all (·.oneCell')=true
 hT:dU P TS T z
theorem Kd.one{P:Program}{α:Type}(K:Kd P α): ∀y,∀u∈K.en y,u.oneCell'=true:=λy=>List.all_eq_true.1 (K.h1 y)
theorem Kd.lz{P:Program}{α:Type}(K:Kd P α): ∀y,(K.en y).length=K.z.length:=λy=>(K.hk y).trans K.hz
section
variable {P:Program} {α:Type}
abbrev sl(K:Kd P α)(v:Value)(xs:List α):aB:= .p (ar K.en K.z K.T v xs)
theorem Kd.cell(K:Kd P α){a:α}{f:Nat}(hf:f<K.k):(K.en a)[f]? =some ((K.en a).getD f undef):=by
 have h:f<(K.en a).length:=by rw[K.hk];exact hf
 rw[VJ,VU h];rfl
theorem Kd.part(K:Kd P α){a:α}{f n:Nat}(hf:f+n≤K.k):(((K.en a).drop f).take n).length=n∧((K.en a).drop f).take (((K.en a).drop f).take n).length=((K.en a).drop f).take n:=by
 have h:(((K.en a).drop f).take n).length=n:=by rw[VP,V7,K.hk];omega
 exact⟨h,by rw[h]⟩
section
variable (K:Kd P α) (v:Value) (xs:List α) (p:Nat)
def e8:b9 P:= .m (Hi p (sl K v xs) λ_ h=>h)
def cH(i:Nat)(b:i<xs.length:=by omega):b9 P:= .m (Hk p (sl K v xs) i K.k (λ_ h=>h) b)
def tB(off f:Nat)(b:0<xs.length:=by omega):b9 P:= .m (Hm p (sl K v xs) off f (λ_ h=>h) b)
def eP(i f:Nat)(b:i<xs.length:=by omega)(hf:f<K.k:=by decide):b9 P:= .m (Ho (d:=K.d) p (sl K v xs) i K.k f (λ_ h=>h) K.hk b hf (K.cell hf))
def pr(i f n:Nat)(b:i<xs.length:=by omega)(hf:f+n≤K.k:=by decide):b9 P:= .m (Hq (d:=K.d) p (sl K v xs) i K.k f (λ_ h=>h) K.hk b (by rw[(K.part hf).1];exact hf) (K.part hf).2)
def H6(l:Nat)(b:l≤xs.length:=by omega):b9 P:= .m (HJ p (sl K v xs) l K.k (λ_ h=>h) b)
def qB(i:Nat)(a:α)(b:i<xs.length:=by omega):b9 P:= .m (Hu (T:=K.T) (v:=v) (xs:=xs) (en:=K.en) (z:=K.z) p i K.k a K.hk b)
def qC(i f:Nat)(a:α)(u:Value)(c:K.en a=(K.en (xs.getD i K.d)).set f u)(b:i<xs.length:=by omega)(hf:f<K.k:=by decide):b9 P:= .m (Hs (T:=K.T) (v:=v) (xs:=xs) (en:=K.en) (z:=K.z) (d:=K.d) (a:=a) (u:=u) p i K.k f K.hk b hf c)
def fp(q:Nat)(ys:List α)(b:xs.length+ys.length≤1000000:=by simp only[List.length_append,List.length_cons,List.length_nil,List.length_replicate,List.length_take,List.length_drop,List.length_set];omega):b9 P:= .m (HE (xs:=xs) (ys:=ys) p q K.hT v K.one K.lz b)
end
section
variable {en:α→List Value} {v:Value} {xs:List α} {bs:aw} (h:dJ en v xs bs) (p:Nat)
def eD:b9 P:= .m (HP p (.c bs) (cP h))
def fa(i k:Nat)(b:i<xs.length:=by omega):b9 P:= .m (HR p (.c bs) i k (cP h) b)
end
section
variable (K:Kd P α) {v:Value} {xs:List α} {bs:aw} (h:dJ K.en v xs bs) (p:Nat)
def iE(i f:Nat)(b:i<xs.length:=by omega)(hf:f<K.k:=by decide):b9 P:= .m (HT (d:=K.d) p (.c bs) i K.k f (cP h) K.hk b hf (K.cell hf))
def mQ(i f n:Nat)(b:i<xs.length:=by omega)(hf:f+n≤K.k:=by decide):b9 P:= .m (HV (d:=K.d) p (.c bs) i K.k f (cP h) K.hk b (by rw[(K.part hf).1];exact hf) (K.part hf).2)
end
def ad(a b:Nat)(h:a+b<9223372036854775808:=by omega):b9 P:= .t (tb (a:=i6 a) (b:=i6 b) λ_ _ _ _=>GO h)
def aI(a b:Int)(h0: -9223372036854775808≤a+b:=by omega)(h1:a+b≤9223372036854775807:=by omega):b9 P:= .t (tb (a:=i6 a) (b:=i6 b) λ_ _ _ _=>p6 h0 h1)
def sI(a b:Int)(h0: -9223372036854775808≤a-b:=by omega)(h1:a-b≤9223372036854775807:=by omega):b9 P:= .t (tb (a:=i6 a) (b:=i6 b) λ_ _ _ _=>p7 h0 h1)
def ml(a b:Nat)(h:a*b<9223372036854775808:=by omega):b9 P:= .t (tb (a:=i6 a) (b:=i6 b) λ_ _ _ _=>GN h)
end
section
variable {F:Fence} {n:Nat} {P:Program} {R:List Nat} {base:World} {Q:Exit→Act→World→Prop} {S:List It} {sz:Nat} {es:Fe} {L:ah} {Ds:List Nat}
theorem cz{α:Type}(K:Kd P α)(b:Go F n P R base Q S ⟨sz,es⟩ (L++[sl K (.slice none 0 0) []]) Ds):Go F n P R base Q S ⟨sz,es⟩ L Ds:=cn K.en K.z K.T b
end
end
section
open Go Go.Shelf Go.RowKit
def gu:List Nat→List Value→Fe
 | p::ps,v::vs=>gu ps vs++[(p,v)]
 | _,_=>[]
theorem qD(b:List Nat)(vs:List Value)(t:Array Value):gR t b.toArray vs.toArray=(b.zip vs).foldl (λt x=>t.setIfInBounds x.1 x.2) t:=by
 unfold gR;rw[List.zip_toArray,List.foldl_toArray]
theorem AK(p:Nat)(b:List Nat)(v:Value)(vs:List Value)(t:Array Value):gR t (p::b).toArray (v::vs).toArray=gR (t.setIfInBounds p v) b.toArray vs.toArray:=by
 rw[qD,qD];rfl
theorem tC: ∀(b:List Nat) (vs:List Value) (t:Array Value) (i:Nat),b.length=vs.length→(∀p∈b,p<t.size)→
  (gR t b.toArray vs.toArray).getD i undef=match lk (gu b vs) i with | some v=>v | none=>t.getD i undef
 | [],[],t,i,_,_=>by rw[qD];rfl
 | p::b,v::vs,t,i,k,g=>by
  rw[AK,tC b vs _ i (by simpa using k) (λq m=>by rw[Array.size_setIfInBounds];exact g q (WO _ m))];show _=match lk (gu b vs++[(p,v)]) i with | some v=>v | none=>t.getD i undef
  rw[pq];cases lk (gu b vs) i with
  | some u=>rfl
  | none=>
   simp only;have f:=g p W4;show _=match (match V8 p i with | true=>some v | false=>none) with | some v=>v | none=>t.getD i undef
   cases c:V8 p i with
   | true=>
    obtain rfl:=VR c;simp [f]
   | false=>
    have d:p≠i:=λe=>by rw[e,Wk] at c;cases c
    simp [Array.getD_eq_getD_getElem?,d]
 | [],_::_,_,_,h,_=>by simp at h
 | _::_,[],_,_,h,_=>by simp at h
theorem tD: ∀(b:List Nat) (vs:List Value) (t:Array Value),(gR t b.toArray vs.toArray).size=t.size
 | [],_,t=>by rw[qD];rfl
 | p::b,[],t=>by rw[qD];rfl
 | p::b,v::vs,t=>by
  rw[AK,tD,Array.size_setIfInBounds]
def fJ(S:List It):Operand:=match nf S with | .c (.rangeFunc g _ _ _)::_=>g | _=> .const undef
def cb(S:List It):List Nat:=match nf S with | .c (.rangeFunc _ ps _ _)::_=>ps.toList | _=>[]
def jo(S:List It):Code:=match nf S with | .c (.rangeFunc _ _ x _)::_=>x | _=> .skip
def kt(S:List It):Code:=match nf S with | .c (.rangeFunc _ _ _ y)::_=>y | _=> .skip
def mS(S:List It):Bool:=match nf S with | .c (.rangeFunc _ _ _ _)::_=>true | _=>false
theorem wO{S:List It}(h:mS S=true):nf S= .c (.rangeFunc (fJ S) (cb S).toArray (jo S) (kt S))::bT S:=by
 unfold mS at h;unfold fJ cb jo kt bT
 split at h
 ·rename_i g d x y b e;rw[e]
 ·cases h
structure Xt where
 c:Code
 i:Nat
 L:ah
section
variable {F:Fence} {n:Nat} {P:Program} {R:List Nat} {base:World} {Q:Exit→Act→World→Prop} {S:List It} {a:Sl} {sz:Nat} {es:Fe} {L:ah} {Ds:List Nat}
def oo(F:Fence)(n:Nat)(P:Program)(R:List Nat)(base:World)(sz:Nat)(KO:aw)(Q:List Nat→World→Exit→Act→World→Prop)(c:Code):Exit→Act→World→Prop
 | .normal,b,W=>∃e,aE R base e W∧iz KO e∧∀f d,aE f d e d→c.wpIn F n P (Q f d) b d
 | _,_,_=>False
theorem ag{KO:List aw}{e:List Nat→World→Exit→Act→World→Prop}{c:Code}(i:List Nat)(s: ∀d g,Go F n P d g (e d g) [.c c] ⟨sz,es⟩ L [])(r:i.map (λp=>L[p]?)=KO.map (λo=>some (.c o)):=by kernel_rfl)(m:(nf S).isEmpty=true:=by kernel_rfl):
  Go F n P R base (oo F n P R base sz KO.flatten e c) S ⟨sz,es⟩ L []:=by
 refine⟨λb W q k=>dD 1000 S ?_⟩;rw[show dh 1000 S=[] from List.isEmpty_iff.1 m];exact⟨L,by simpa using k,po i r,λd f h=>(s d f).out b f q (by simpa using h)⟩
theorem aE.left{M:ah}{W:World}(h:aE R base (L++M) W):aE R base L W:=by
 obtain⟨e,d,b⟩:=h.conc;obtain⟨f,es,rfl,c,g⟩:=nm d;rw[List.flatten_append] at b;exact aE.ofS c (b.sub (List.sublist_append_left _ _))
theorem ne{Rel:ah→Prop}{d:Code→ah→Prop}(L':ah)(i:Rel L')(c:List Nat)(e:(de (c.map λp=>[p]).flatten,(c.map λp=>[p]).map λg=>g.map λp=>L[p]?)=(true,(L'.map λx=>[x]).map λN=>N.map some))(h:(nf S).isEmpty=true:=by kernel_rfl):Go F n P R base (kS R base Rel d) S ⟨sz,es⟩ L Ds:=by
 refine⟨λb W k f=>dD 1000 S ?_⟩;rw[show dh 1000 S=[] from List.isEmpty_iff.1 h];exact⟨L',f.left.pick c L' e,i⟩
theorem nr{Rel:ah→Prop}{f:Code→ah→Prop}(L':ah)(k:f .ret L')(d:List Nat)(h:(de (d.map λp=>[p]).flatten,(d.map λp=>[p]).map λg=>g.map λp=>L[p]?)=(true,(L'.map λx=>[x]).map λN=>N.map some))(c:qA S=true:=by kernel_rfl):Go F n P R base (kS R base Rel f) S ⟨sz,es⟩ L Ds:=by
 refine⟨λb W o i=>dD 1000 S ?_⟩;unfold qA at c
 split at c
 ·rename_i m e;rw[show dh 1000 S=_ from e];exact wpIn_ret (gF ⟨L',i.left.pick d L' h,k⟩)
 ·cases c
def AM(S:List It):Option Nat:=match nf S with
 | .x b::S'=>(match lS b S' with | none=>some b | some _=>none)
 | _=>none
theorem nx{Rel:ah→Prop}{f:Code→ah→Prop}(id:Nat)(L':ah)(m:f (.exit id) L')(d:List Nat)(h:(de (d.map λp=>[p]).flatten,(d.map λp=>[p]).map λg=>g.map λp=>L[p]?)=(true,(L'.map λx=>[x]).map λN=>N.map some))(c:AM S=some id:=by kernel_rfl):Go F n P R base (kS R base Rel f) S ⟨sz,es⟩ L Ds:=by
 refine⟨λb W q i=>dD 1000 S ?_⟩;unfold AM at c
 split at c
 ·rename_i j o e;rw[show dh 1000 S=_ from e]
  split at c
  ·rename_i k;cases c;exact qy k ⟨L',i.left.pick d L' h,m⟩
  ·cases c
 ·cases c
theorem rf{α:Type}{gf:Nat}{lb:Array Value}{encs:α→Array Value}{xs:List α}{KO:List aw}(hit:eX 5 P gf lb encs xs KO.flatten)(eg:Enters P gf)(Rel:Nat→ah→Prop)(I:Code→Nat→ah→Prop)(s:List Nat)(h0:Rel 0 L)
  (T: ∀i L',Rel i L'→iz KO.flatten L') (U: ∀c i L',I c i L'→iz KO.flatten L') (B: ∀x,(encs x).size=(cb S).length)
  (f: ∀(l i:Nat) (x:α) (L':ah) (H:List Nat) (w:World),xs[i]? =some x→Rel i L'→Go (Fence.wide.inRound l) 4 P H w (oo (Fence.wide.inRound l) 4 P H w sz KO.flatten (λM z=>kS M z (Rel (i+1)) λc=>I c (i+1)) (kt S)) [.c (jo S)] ⟨sz,gu (cb S) (encs x).toList++es⟩ L' [])
  (q: ∀(D:Nat) (L':ah),Rel xs.length L'→Go Fence.wide 6 P R base Q (bT S) ⟨sz,es⟩ L' (D::Ds))
  (r: ∀(D:Nat) (c:Code) (i:Nat) (L':ah),i<xs.length→I c (i+1) L'→Go Fence.wide 6 P R base Q (.c c::bT S) ⟨sz,es⟩ L' (D::Ds))
  (K:(mS S,(⟨sz,es⟩:Sl).ev (fJ S),(cb S).all (Wj · sz),de (s.map λp=>[p]).flatten,(s.map λp=>[p]).map λg=>g.map λp=>L[p]?)=(true,.func (.func gf) #[] lb,true,true,((KO.map aB.c).map λx=>[x]).map λN=>N.map some):=by kernel_rfl)
  (A:(match fJ S with | .tmp i=>(lk es i).isSome | _=>true)=true:=by kernel_rfl):Go Fence.wide 6 P R base Q S ⟨sz,es⟩ L Ds:=by
 have c1:=ALca (λx=>x.1) K;have c2:=ALca (λx=>x.2.1) K;have c3:=ALca (λx=>x.2.2.1) K;have c4:=ALca (λx=>x.2.2.2) K;simp only at c1 c2 c3 c4;refine⟨λb W d hO=>dD 1000 S ?_⟩;rw[show dh 1000 S=_ from wO c1];show(Code.rangeFunc (fJ S) (cb S).toArray (jo S) (kt S)).wpIn Fence.wide 6 P (c8 Fence.wide 6 P Q (bT S)) b W;obtain⟨H,OC,OW⟩:=hO.seg;have hg:b.eval (fJ S)= .func (.func gf) #[] lb:=by
  rw[d.ev λi Y=>by rw[Y] at A;exact A];exact c2
 have hnd:KO.flatten.Pairwise λx y=>x.1≠y.1:=by
  exact aE.ndC (Os:=KO) (R:=H) (base:=W) (W:=W) (OW.out.pick s _ c4)
 refine Gz (n:=6) Om hg eg hit Rel I OW h0 T U hnd (λx=>by rw[B x];simp) ?_ ?_ ?_
 ·intro l i x L' M w hx C V;have h:=f l i x L' M w hx C;have hsz:(encs x).toList.length=(cb S).length:=by rw[Array.length_toList];exact B x
  have Z: ∀p∈cb S,p<b.tmps.size:=λp hp=>by rw[d.size];exact Wi▸List.all_eq_true.1 c3 p hp
  have X:Fr ⟨sz,gu (cb S) (encs x).toList++es⟩ [] {tmps:=gR b.tmps (cb S).toArray (encs x),defers:=[]}:=by
   have ee:encs x=(encs x).toList.toArray:=by simp
   refine⟨?_,λi v G=>?_,rfl⟩
   ·show(gR b.tmps (cb S).toArray (encs x)).size=sz;rw[ee,tD];exact d.size
   ·show(gR b.tmps (cb S).toArray (encs x)).getD i undef=v;rw[ee,tC _ _ _ i hsz.symm Z];simp only[pq] at G;cases h1:lk (gu (cb S) (encs x).toList) i with
    | some u=>rw[h1] at G;cases G;rfl
    | none=>rw[h1] at G;exact d.get i v G
  refine wpIn_mono (show(jo S).wpIn (Fence.wide.inRound l) 4 P _ _ w from h.out _ w X (by simpa using V.out)) λe a' Wa hq=>?_;cases e with
  | normal=>
   obtain⟨La,q1,q2,q3⟩:=hq;exact⟨La,q1,q2,λO W3 h3=>q3 O W3 h3.out⟩
  | _=>exact hq
 ·intro D L' z C o;obtain⟨O,k,m⟩:=jf.markE OC.out o.out;exact(q D L' C).out _ z ⟨d.size,d.get,by show jA D::b.defers=_;rw[d.defers];rfl⟩ (k.out.whole m.out)
 ·intro D c i L' z Y C o;obtain⟨O,k,m⟩:=jf.markE OC.out o.out;exact(r D c i L' Y C).out _ z ⟨d.size,d.get,by show jA D::b.defers=_;rw[d.defers];rfl⟩ (k.out.whole m.out)
theorem H7{α:Type}{gf:Nat}{lb:Array Value}{encs:α→Array Value}{xs:List α}{KO:List aw}{XO:aw}(hit:pa 5 P gf lb encs xs KO.flatten XO)(eg:Enters P gf)(Rel:Nat→ah→Prop)(I:Code→Nat→ah→Prop)(LG:ah)(qs s:List Nat)(M:(de (qs.map λp=>[p]).flatten,(qs.map λp=>[p]).map λg=>g.map λp=>L[p]?)=(true,((LG++[aB.c XO]).map λx=>[x]).map λN=>N.map some))(h0:Rel 0 LG)
  (U: ∀i L',Rel i L'→iz KO.flatten L') (V: ∀c i L',I c i L'→iz KO.flatten L') (B: ∀x,(encs x).size=(cb S).length)
  (f: ∀(l i:Nat) (x:α) (L':ah) (H:List Nat) (w:World),xs[i]? =some x→Rel i L'→Go (Fence.wide.inRound l) 4 P H w (oo (Fence.wide.inRound l) 4 P H w sz KO.flatten (λO z=>kS O z (Rel (i+1)) λc=>I c (i+1)) (kt S)) [.c (jo S)] ⟨sz,gu (cb S) (encs x).toList++es⟩ L' [])
  (q: ∀(D:Nat) (L':ah),Rel xs.length L'→Go Fence.wide 6 P R base Q (bT S) ⟨sz,es⟩ L' (D::Ds))
  (r: ∀(D:Nat) (c:Code) (i:Nat) (L':ah),i<xs.length→I c (i+1) L'→Go Fence.wide 6 P R base Q (.c c::bT S) ⟨sz,es⟩ L' (D::Ds))
  (K:(mS S,(⟨sz,es⟩:Sl).ev (fJ S),(cb S).all (Wj · sz),de (s.map λp=>[p]).flatten,(s.map λp=>[p]).map λg=>g.map λp=>L[p]?)=(true,.func (.func gf) #[] lb,true,true,(((KO++[XO]).map aB.c).map λx=>[x]).map λN=>N.map some):=by kernel_rfl)
  (A:(match fJ S with | .tmp i=>(lk es i).isSome | _=>true)=true:=by kernel_rfl):Go Fence.wide 6 P R base Q S ⟨sz,es⟩ L Ds:=by
 have c1:=ALca (λx=>x.1) K;have c2:=ALca (λx=>x.2.1) K;have c3:=ALca (λx=>x.2.2.1) K;have c4:=ALca (λx=>x.2.2.2) K;simp only at c1 c2 c3 c4;refine⟨λb W d hO=>dD 1000 S ?_⟩;rw[show dh 1000 S=_ from wO c1];show(Code.rangeFunc (fJ S) (cb S).toArray (jo S) (kt S)).wpIn Fence.wide 6 P (c8 Fence.wide 6 P Q (bT S)) b W;obtain⟨H,OC,OW⟩:=hO.seg;have hg:b.eval (fJ S)= .func (.func gf) #[] lb:=by
  rw[d.ev λi Z=>by rw[Z] at A;exact A];exact c2
 have hnd:(KO.flatten++XO).Pairwise λx y=>x.1≠y.1:=by
  have h9:=aE.ndC (Os:=KO++[XO]) (R:=H) (base:=W) (W:=W) (OW.out.pick s _ c4);simpa using h9
 refine zY (n:=6) Om hg eg hit Rel I (Lib.hid (OW.out.pick qs _ M)) h0 U V hnd (λx=>by rw[B x];simp) ?_ ?_ ?_
 ·intro l i x L' O w hx C X;have h:=f l i x L' O w hx C;have hsz:(encs x).toList.length=(cb S).length:=by rw[Array.length_toList];exact B x
  have hlt: ∀p∈cb S,p<b.tmps.size:=λp hp=>by rw[d.size];exact Wi▸List.all_eq_true.1 c3 p hp
  have Y:Fr ⟨sz,gu (cb S) (encs x).toList++es⟩ [] {tmps:=gR b.tmps (cb S).toArray (encs x),defers:=[]}:=by
   have ee:encs x=(encs x).toList.toArray:=by simp
   refine⟨?_,λi v G=>?_,rfl⟩
   ·show(gR b.tmps (cb S).toArray (encs x)).size=sz;rw[ee,tD];exact d.size
   ·show(gR b.tmps (cb S).toArray (encs x)).getD i undef=v;rw[ee,tC _ _ _ i hsz.symm hlt];simp only[pq] at G;cases h1:lk (gu (cb S) (encs x).toList) i with
    | some u=>rw[h1] at G;cases G;rfl
    | none=>rw[h1] at G;exact d.get i v G
  refine wpIn_mono (show(jo S).wpIn (Fence.wide.inRound l) 4 P _ _ w from h.out _ w Y (by simpa using X.out)) λe a' Wa M=>?_;cases e with
  | normal=>
   obtain⟨La,q1,q2,q3⟩:=M;exact⟨La,q1,q2,λT W3 h3=>q3 T W3 h3.out⟩
  | _=>exact M
 ·intro D L' z C o;obtain⟨T,k,m⟩:=jf.markE OC.out o.out;exact(q D L' C).out _ z ⟨d.size,d.get,by show jA D::b.defers=_;rw[d.defers];rfl⟩ (k.out.whole m.out)
 ·intro D c i L' z Z C o;obtain⟨T,k,m⟩:=jf.markE OC.out o.out;exact(r D c i L' Z C).out _ z ⟨d.size,d.get,by show jA D::b.defers=_;rw[d.defers];rfl⟩ (k.out.whole m.out)
theorem ny{α:Type}{gf:Nat}{lb:Array Value}{encs:α→Array Value}{xs:List α}{KO:List aw}(hit:eX 5 P gf lb encs xs KO.flatten)(w:Enters P gf)(I:Nat→Prop)(f:Nat→ah→ah)(b:List Nat)(h0:I 0)(z:L=f 0 L)
  (d: ∀(l i:Nat) (x:α) (k:List Nat) (m:World),xs[i]? =some x→I i→Go (Fence.wide.inRound l) 4 P k m (oo (Fence.wide.inRound l) 4 P k m sz KO.flatten (λu v=>kS u v (λL'=>I (i+1)∧L'=f (i+1) L) λ_ _=>False) (kt S)) [.c (jo S)] ⟨sz,gu (cb S) (encs x).toList++es⟩ (f i L) [])
  (e: ∀(D:Nat),I xs.length→Go Fence.wide 6 P R base Q (bT S) ⟨sz,es⟩ (f xs.length L) (D::Ds))
  (y: ∀i,b.map (λp=>(f i L)[p]?)=KO.map λo=>some (.c o):=by intros;kernel_rfl) (s: ∀x,(encs x).size=(cb S).length:=by intro _;kernel_rfl)
  (A:(mS S,(⟨sz,es⟩:Sl).ev (fJ S),(cb S).all (Wj · sz),de (b.map λp=>[p]).flatten,(b.map λp=>[p]).map λg=>g.map λp=>L[p]?)=(true,.func (.func gf) #[] lb,true,true,((KO.map aB.c).map λx=>[x]).map λN=>N.map some):=by kernel_rfl)
  (r:(match fJ S with | .tmp i=>(lk es i).isSome | _=>true)=true:=by kernel_rfl):Go Fence.wide 6 P R base Q S ⟨sz,es⟩ L Ds:=by
 refine rf hit w (λi L'=>I i∧L'=f i L) (λ_ _ _=>False) b ⟨h0,z⟩ (λi L' h=>?_) (λ_ _ _ h=>h.elim) s (λl i x L' k m B h=>?_) (λD L' h=>?_) (λ_ _ _ _ _ h=>h.elim) A r
 ·obtain⟨q,rfl⟩:=h;exact po b (y i)
 ·obtain⟨q,rfl⟩:=h;exact d l i x k m B q
 ·obtain⟨q,rfl⟩:=h;exact e D q
theorem AN{α:Type}{gf:Nat}{lb:Array Value}{encs:α→Array Value}{xs:List α}{KO:List aw}{XO:aw}(hit:pa 5 P gf lb encs xs KO.flatten XO)(z:Enters P gf)(I:Nat→Prop)(f:Nat→ah→ah)(b:ah)(qs v k:List Nat)(h0:I 0)(B:b=f 0 b)
  (d: ∀(l i:Nat) (x:α) (m:List Nat) (q:World),xs[i]? =some x→I i→Go (Fence.wide.inRound l) 4 P m q (oo (Fence.wide.inRound l) 4 P m q sz KO.flatten (λw y=>kS w y (λL'=>I (i+1)∧L'=f (i+1) b) λ_ _=>False) (kt S)) [.c (jo S)] ⟨sz,gu (cb S) (encs x).toList++es⟩ (f i b) [])
  (e: ∀(D:Nat),I xs.length→Go Fence.wide 6 P R base Q (bT S) ⟨sz,es⟩ (f xs.length b) (D::Ds))
  (A: ∀i,k.map (λp=>(f i b)[p]?)=KO.map λo=>some (.c o):=by intros;kernel_rfl) (u: ∀x,(encs x).size=(cb S).length:=by intro _;kernel_rfl)
  (C:(mS S,(⟨sz,es⟩:Sl).ev (fJ S),(cb S).all (Wj · sz),de (v.map λp=>[p]).flatten,(v.map λp=>[p]).map λg=>g.map λp=>L[p]?)=(true,.func (.func gf) #[] lb,true,true,(((KO++[XO]).map aB.c).map λx=>[x]).map λN=>N.map some):=by kernel_rfl)
  (G:(de (qs.map λp=>[p]).flatten,(qs.map λp=>[p]).map λg=>g.map λp=>L[p]?)=(true,((b++[aB.c XO]).map λx=>[x]).map λN=>N.map some):=by kernel_rfl)
  (s:(match fJ S with | .tmp i=>(lk es i).isSome | _=>true)=true:=by kernel_rfl):Go Fence.wide 6 P R base Q S ⟨sz,es⟩ L Ds:=by
 refine H7 hit z (λi L'=>I i∧L'=f i b) (λ_ _ _=>False) b qs v G ⟨h0,B⟩ (λi L' h=>?_) (λ_ _ _ h=>h.elim) u (λl i x L' m q H h=>?_) (λD L' h=>?_) (λ_ _ _ _ _ h=>h.elim) C s
 ·obtain⟨r,rfl⟩:=h;exact po k (A i)
 ·obtain⟨r,rfl⟩:=h;exact d l i x m q H r
 ·obtain⟨r,rfl⟩:=h;exact e D r
theorem H8{α:Type}{gf:Nat}{lb:Array Value}{encs:α→Array Value}{xs:List α}{KO:List aw}(hit:eX 5 P gf lb encs xs KO.flatten)(z:Enters P gf)(I:Nat→Value→Prop)(f:Nat→Value→ah→ah)(b:List Nat)(v:Value)(h0:I 0 v)(B:L=f 0 v L)
  (d: ∀(l i:Nat) (u:Value) (x:α) (k:List Nat) (m:World),xs[i]? =some x→I i u→Go (Fence.wide.inRound l) 4 P k m (oo (Fence.wide.inRound l) 4 P k m sz KO.flatten (λw y=>kS w y (λL'=>∃u:Value,I (i+1) u∧L'=f (i+1) u L) λ_ _=>False) (kt S)) [.c (jo S)] ⟨sz,gu (cb S) (encs x).toList++es⟩ (f i u L) [])
  (e: ∀(D:Nat) (u:Value),I xs.length u→Go Fence.wide 6 P R base Q (bT S) ⟨sz,es⟩ (f xs.length u L) (D::Ds))
  (A: ∀i (u:Value),b.map (λp=>(f i u L)[p]?)=KO.map λo=>some (.c o):=by intros;kernel_rfl) (s: ∀x,(encs x).size=(cb S).length:=by intro _;kernel_rfl)
  (C:(mS S,(⟨sz,es⟩:Sl).ev (fJ S),(cb S).all (Wj · sz),de (b.map λp=>[p]).flatten,(b.map λp=>[p]).map λg=>g.map λp=>L[p]?)=(true,.func (.func gf) #[] lb,true,true,((KO.map aB.c).map λx=>[x]).map λN=>N.map some):=by kernel_rfl)
  (r:(match fJ S with | .tmp i=>(lk es i).isSome | _=>true)=true:=by kernel_rfl):Go Fence.wide 6 P R base Q S ⟨sz,es⟩ L Ds:=by
 refine rf hit z (λi L'=>∃u:Value,I i u∧L'=f i u L) (λ_ _ _=>False) b ⟨v,h0,B⟩ (λi L' h=>?_) (λ_ _ _ h=>h.elim) s (λl i x L' k m G h=>?_) (λD L' h=>?_) (λ_ _ _ _ _ h=>h.elim) C r
 ·obtain⟨u,q,rfl⟩:=h;exact po b (A i u)
 ·obtain⟨u,q,rfl⟩:=h;exact d l i u x k m G q
 ·obtain⟨u,q,rfl⟩:=h;exact e D u q
theorem AO{α:Type}{gf:Nat}{lb:Array Value}{encs:α→Array Value}{xs:List α}{KO:List aw}(hit:eX 5 P gf lb encs xs KO.flatten)(A:Enters P gf)(I:Nat→Prop)(m:Nat→ah→ah)(X:Code→Nat→Prop)(q:Code→Nat→ah→ah)(b:List Nat)(h0:I 0)(C:L=m 0 L)
  (d: ∀(l i:Nat) (x:α) (r:List Nat) (s:World),xs[i]? =some x→I i→Go (Fence.wide.inRound l) 4 P r s (oo (Fence.wide.inRound l) 4 P r s sz KO.flatten (λy z=>kS y z (λL'=>I (i+1)∧L'=m (i+1) L) (λc L'=>X c (i+1)∧L'=q c (i+1) L)) (kt S)) [.c (jo S)] ⟨sz,gu (cb S) (encs x).toList++es⟩ (m i L) [])
  (f: ∀(D:Nat),I xs.length→Go Fence.wide 6 P R base Q (bT S) ⟨sz,es⟩ (m xs.length L) (D::Ds))
  (k: ∀(D:Nat) (c:Code) (i:Nat),i<xs.length→X c (i+1)→Go Fence.wide 6 P R base Q (.c c::bT S) ⟨sz,es⟩ (q c (i+1) L) (D::Ds))
  (B: ∀i,b.map (λp=>(m i L)[p]?)=KO.map λo=>some (.c o):=by intros;kernel_rfl) (u: ∀c i,X c i→b.map (λp=>(q c i L)[p]?)=KO.map λo=>some (.c o):=by intros;kernel_rfl) (w: ∀x,(encs x).size=(cb S).length:=by intro _;kernel_rfl)
  (G:(mS S,(⟨sz,es⟩:Sl).ev (fJ S),(cb S).all (Wj · sz),de (b.map λp=>[p]).flatten,(b.map λp=>[p]).map λg=>g.map λp=>L[p]?)=(true,.func (.func gf) #[] lb,true,true,((KO.map aB.c).map λx=>[x]).map λN=>N.map some):=by kernel_rfl)
  (v:(match fJ S with | .tmp i=>(lk es i).isSome | _=>true)=true:=by kernel_rfl):Go Fence.wide 6 P R base Q S ⟨sz,es⟩ L Ds:=by
 refine rf hit A (λi L'=>I i∧L'=m i L) (λc i L'=>X c i∧L'=q c i L) b ⟨h0,C⟩ (λi L' h=>?_) (λc i L' h=>?_) w (λl i x L' r s K h=>?_) (λD L' h=>?_) (λD c i L' H h=>?_) G v
 ·obtain⟨e,rfl⟩:=h;exact po b (B i)
 ·obtain⟨e,rfl⟩:=h;exact po b (u c i e)
 ·obtain⟨e,rfl⟩:=h;exact d l i x r s K e
 ·obtain⟨e,rfl⟩:=h;exact f D e
 ·obtain⟨e,rfl⟩:=h;exact k D c i H e
end
end
section
open Go Go.Shelf Go.RowKit
def wP(k:Nat)(L:List Oper):Bool:=L.all λo=>match o.guard with | none=>true | some (j,_)=>Wj j k
section
variable {F:Fence} {n:Nat} {P:Program} {L:List Oper} {Q:Exit→Act→World→Prop} {a:Act} {t:dI} {R:List Nat} {base:World}
theorem AP{LL:List Oper}{k:Nat}{o:Oper}{c:Array Value}(h:match o.guard with | none=>true=true | some (j,_)=>Wj j k=true):Region.wanted o (yielded LL.toArray c)=Region.wanted o (yielded (LL.take k).toArray c):=by
 unfold Region.wanted;cases e:o.guard with
 | none=>rfl
 | some f=>
  obtain⟨j,b⟩:=f;rw[e] at h;have d:j<k:=Wi▸h;have:yielded LL.toArray c j=yielded (LL.take k).toArray c j:=by
   unfold yielded;rw[VX,VX,List.getElem?_take,ALifp d]
  simp only[this]
theorem AQ{LL:List Oper}{N:Nat}(B:LL.take N=L)(m:wP N L=true)(h:jc F n P L Q a t)(A:Fence.free F)(r:lM L=true)(s: ∀k,k<L.length→∀j∈t.D k,j<k)
  (g: ∀xs w',fW L a t R base (λ_=>true) xs w'→wpListIn F n P LL.toArray Q (LL.drop N) (bn xs L 0 a) w'):
  ∀(d k:Nat) (xs:Nat→Value) (w':World),k+d=L.length→fW L a t R base (λi=>decide (i<k)) xs w'→wpListIn F n P LL.toArray Q (L.drop k++LL.drop N) (bn xs L 0 a) w'
 | 0,k,xs,w',D,u=>by
  obtain rfl:k=L.length:=by omega
  rw[List.drop_length,WC];exact g xs w' (u.congr (λi x=>by simpa using x) (λ_ _=>rfl))
 | d+1,k,xs,w',D,u=>by
  have b:k<L.length:=by omega
  rw[WG b,List.cons_append];have q:L[k]? =some L[k]:=VU b;have c:=sG h (S:=λi=>decide (i<k)) (xs:=xs) (w':=w') (k:=k) (o:=L[k]) b q (by simp) (λj p=>⟨by have:=s k b j p;omega,by simpa using s k b j p⟩)
   (λi x G j p=>by
    have H:=s i x j p;have I:i<k:=by simpa using G
    exact⟨by omega,by simp;omega⟩) u
   (λv f=>wpListIn F n P LL.toArray Q (L.drop (k+1)++LL.drop N) ((bn xs L 0 a).put L[k].dst v) f) (λv f w=>by
    rw[pY v _ 0 a k _ r q,VV];refine AQ B m h A r s g d (k+1) _ f Om (w.congr (λj p=>?_) (λ_ _=>rfl));show(if j=k then true else decide (j<k))=decide (j<k+1);by_cases e:j=k
    ·subst e;simp
    ·rw[ALifn e,decide_eq_decide];omega) A
  have z:Region.wanted L[k] (yielded LL.toArray (bn xs L 0 a).tmps)=Region.wanted L[k] (yielded L.toArray (bn xs L 0 a).tmps):=by
   rw[AP (k:=N),B];have:=List.all_eq_true.1 m L[k] (Xb b);revert this;cases L[k].guard with
   | none=>exact λh=>h
   | some K=>exact λh=>h
  unfold wpListIn;rw[z]
  split
  ·rename_i y;rw[ALifp y] at c;exact Oper.wpIn_mono (λC f ⟨v,e,h⟩=>by rw[e];exact h) c
  ·rename_i y;rw[ALifn y] at c;exact c
theorem AR{LL:List Oper}{N:Nat}(T:LL.take N=L)(G:wP N L=true)(U:N<LL.length)(hs:Region.sinkB .any LL.toArray N=true)(h:jc F n P L Q a t)(hF:Fence.free F)(hc:Region.chainB .any LL.toArray N=true)(hb:mD .any LL.toArray N=true)(V:mD .any LL.toArray 0=true)(hsl:lM L=true)(hD:sA .any LL.toArray N t.D=true)
  (C: ∀xs w',fW L a t R base (λ_=>true) xs w'→wpListIn F n P LL.toArray Q (LL.drop N) (bn xs L 0 a) w'):
  ∀(c g:Nat) (b:Array Bool) (xs:Nat→Value) (w':World),gB b N=c→c+(LL.length-N)≤g→HeadInv .any LL.toArray N b→
   (∀i,i<N→b.getD i false=true→∀j∈t.D i,b.getD j false=true)→fW L a t R base (λi=>b.getD i false) xs w'→wpAnyIn F n P .any LL.toArray Q g b (bn xs L 0 a) w'
 | 0,g,b,xs,w',w,hf,p,hk,hI=>by
  have hN:L.length=N:=by rw[←T,VP];omega
  have m:=vO N w;have u: ∀i,i<N→b.getD i false=true:=by
   intro i x;have q:i<b.size:=by rw[p.size,VG];omega
   have:=m i x;simp [q] at this⊢;exact this
  exact vK hc hb (LL.length-N) N g b _ w' (by rw[VG];omega) (VS _) Om p.size m u p.tail (by simpa using C xs w' (hI.congr (λi x=>u i Om) (λ_ _=>rfl)))
 | c+1,g,b,xs,w',w,hf,p,hk,hI=>by
  have hN:L.length=N:=by rw[←T,VP];omega
  obtain⟨f,rfl⟩: ∃f,g=f+1:=⟨g-1,by omega⟩;have hun: ∃i,i<N∧b.getD i true=false:=by
   apply Wy;intro hno;have m: ∀i,i<N→b.getD i true=true:=λi x=>by
    cases I:b.getD i true with
    | true=>rfl
    | false=>exact(hno ⟨i,x,I⟩).elim
   have: ∀k,k≤N→gB b k=0:=by
    intro k
    induction k with
    | zero=>intro _;rfl
    | succ k ih=>intro h;unfold gB;rw[ih Om,m k Om];rfl
   rw[this N (VS _)] at w;omega
  obtain⟨i0,W,hu0⟩:=hun;have some:Region.ready .any LL.toArray b=[]→∀d i,i=d→i<N→b.getD i true=true:=by
   intro y d
   induction d using Xj with
   | _ d ih=>
    rintro i rfl x;cases I:b.getD i true with
    | true=>rfl
    | false=>
     exfalso;have D:i<LL.toArray.size:=by rw[VG];omega
     have Z:LL.toArray[i]? =some LL.toArray[i]:=Array.getElem?_eq_getElem D;have hB:=List.all_eq_true.1 V i (List.mem_range.2 D);rw[Z] at hB;simp only[WD,decide_eq_true_eq,VT,Wv,Xk,false_or] at hB;have:i∈Region.ready .any LL.toArray b:=mem_ready.2 ⟨I,_,Z,λe he hbd=>by
      have q:=Array.all_eq_true'.1 hB e he;rw[hbd] at q;have h3:e.on<i:=by simpa using q
      have M:=ih e.on h3 e.on rfl Om;have h5:e.on<b.size:=by rw[p.size,VG];omega
      rw[Array.getD_eq_getD_getElem?,Array.getElem?_eq_getElem h5] at M⊢;exact M⟩
     rw[y] at this;cases this
  refine⟨λy=>(by have:=some y i0 i0 rfl W;rw[hu0] at this;cases this),λi x=>?_⟩;have z:i<N:=by
   rcases VZ i N with s | s
   ·exact s
   ·exact(tail_waits hs hc (by rw[VG];exact U) p _ i0 rfl W hu0 i s x).elim
  obtain⟨I,o,ho,m⟩:=mem_ready.1 x;have K:L[i]? =Option.some o:=by rw[←T,WH z,←VX];exact ho
  have H: ∀j∈t.D i,j<N∧b.getD j false=true:=by
   intro j r;have s:=List.all_eq_true.1 (List.all_eq_true.1 hD i (List.mem_range.2 z)) j r;rw[ho] at s;simp only[VT,Wv,VI,decide_eq_true_eq] at s;refine⟨s.1,?_⟩;obtain⟨e,he,q⟩:=Array.any_eq_true'.1 s.2;simp only[VI,WD,beq_iff_eq,decide_eq_true_eq] at q;have h3:=m e he q.1;rcases q.2 with M | ⟨M,h5⟩
   ·rw[←M];exact h3
   ·exact hk e.on M h3 j (by simpa using h5)
  have O: ∀i,i<N→∀j∈t.D i,j<N:=by
   intro i x j r;have s:=List.all_eq_true.1 (List.all_eq_true.1 hD i (List.mem_range.2 x)) j r;simp only[VI,decide_eq_true_eq] at s;exact s.1
  have hSi:b.getD i false=false:=by
   have q:i<b.size:=by rw[p.size,VG];omega
   simp [q] at I⊢;exact I
  have A:=sG h (S:=λi=>b.getD i false) (xs:=xs) (w':=w') (k:=i) (o:=o) Om K hSi (λj r=>⟨by have:=(H j r).1;omega,(H j r).2⟩) (λi' hi' hs j r=>⟨by have:=O i' Om j r;omega,hk i' Om hs j r⟩) hI
   (λv B=>wpAnyIn F n P .any LL.toArray Q f (b.setIfInBounds i true) ((bn xs L 0 a).put o.dst v) B) (λv B hI2=>by
    rw[pY v _ 0 a i o hsl K,VV];refine AR T G U hs h hF hc hb V hsl hD C c f _ _ B (by have:=vN I N z;omega) Om (p.set x z) ?_ (hI2.congr (λj r=>?_) (λ_ _=>rfl))
    ·intro j r Y j' X;by_cases e:j=i
     ·subst e;exact getD_set_true (H j' X).2
     ·rw[getD_set_ne false (Ne.symm e)] at Y;exact getD_set_true (hk j r Y j' X)
    ·show(if j=i then true else b.getD j false)=_;by_cases e:j=i
     ·subst e;have q:j<b.size:=by rw[p.size,VG];omega
      simp [q]
     ·rw[ALifn e,getD_set_ne false (Ne.symm e)]) hF
  have hwa:Region.wanted o (yielded LL.toArray (bn xs L 0 a).tmps)=Region.wanted o (yielded L.toArray (bn xs L 0 a).tmps):=by
   rw[AP (k:=N),T];have:=List.all_eq_true.1 G o (WQ K);revert this;cases o.guard with
   | none=>exact λh=>h
   | some jb=>exact λh=>h
  unfold wpOpIn;simp only[ho];rw[hwa]
  split
  ·rename_i hw;rw[ALifp hw] at A;exact Oper.wpIn_mono (λa'' B ⟨v,e,h⟩=>by rw[e];exact h) A
  ·rename_i hw;rw[ALifn hw] at A;exact A
def tE(d:Bool)(LL:List Oper)(N:Nat)(D:Nat→List Nat):Bool:=wP N (LL.take N)&&(if d then(Region.sinkB .any LL.toArray N&&decide (N<LL.length))&&Region.chainB .any LL.toArray N&&mD .any LL.toArray N&&mD .any LL.toArray 0&&lM (LL.take N)&&sA .any LL.toArray N D else lO false (LL.take N) D)
theorem H9{w:World}(I:Hid (aE R base t.L0 w))(Le:bu→ah)(r: ∀η,(VL t.m).map (λp=>t.at η p L.length)=(Le η).map some):
  (∀xs w',fW L a t R base (λ_=>true) xs w'→∃η,(∀i,i<L.length→t.Is η i (xs i))∧aE R base (Le η) w')∧fW L a t R base (λ_=>false) (jz L a) w∧bn (jz L a) L 0 a=a:=by
 refine⟨?_,?_,vM _ 0 a λi o d T K=>by
  unfold jz;rw[VV,T,W5,K]⟩
 ·intro xs w' ⟨η,c,f,_,s⟩;refine⟨η,λi M=>f i M rfl,?_⟩;have O:(Le η).length=t.m:=by
   have:=ALca Xq (r η);simpa using this.symm
  have B: ∀p,p<t.m→t.at η p L.length=(Le η)[p]? :=by
   intro p U;have:=ALca (λl=>l[p]?) (r η);simp only[Ww,WW U,VT] at this;cases G:(Le η)[p]? with
   | none=>rw[G] at this;cases this
   | some x=>rw[G] at this;simpa using this
  exact⟨c,by rw[O];exact s.congr B⟩
 ·have C: ∀(H:Nat→Wr) (p N:Nat),db t.L0 H (λ_=>false) p N=t.L0[p]? :=by
   intro H p N
   induction N with
   | zero=>rfl
   | succ N ih=>rw[sD (.inl rfl),ih]
  obtain⟨c,m⟩:=I.out;refine⟨λ_=>ab.zero,λp=>if p<t.L0.length then c p else[],λi _ V=>absurd V Bool.false_ne_true,λ_ _ _=>rfl,?_⟩;have e:(λp=>db t.L0 (t.wr λ_=>ab.zero) (λ_=>false) p L.length)=λp=>t.L0[p]? :=by funext p;exact C _ _ _
  rw[e];have g: ∀p,((p<t.L0.length)∧(if p<t.L0.length then c p else[])=c p)∨(¬p<t.L0.length∧(if p<t.L0.length then c p else[])=[]):=λp=>by
   by_cases h:p<t.L0.length
   ·exact .inl ⟨h,ALifp h⟩
   ·exact .inr ⟨h,ALifn h⟩
  refine⟨λp _ x y=>?_,λp _ y=>?_,λp _ z k=>?_,λp _=>?_,λp q _ _ D z k u v=>?_,λp _ z k=>?_,m.os,m.tape,m.output,m.size,m.far⟩
  ·rcases g p with⟨f,b⟩ | ⟨f,b⟩
   ·rw[b];exact m.sat p f x y
   ·exact absurd (List.getElem?_eq_some_iff.1 y).1 f
  ·rcases g p with⟨f,b⟩ | ⟨f,b⟩
   ·rw[b];exact m.nil p f y
   ·exact b
  ·rcases g p with⟨f,b⟩ | ⟨f,b⟩
   ·rw[b] at k;exact m.obj p f z k
   ·rw[b] at k;simp at k
  ·rcases g p with⟨f,b⟩ | ⟨f,b⟩
   ·rw[b];exact m.inn p f
   ·rw[b];exact List.Pairwise.nil
  ·rcases g p with⟨f,b⟩ | ⟨f,b⟩
   ·rw[b] at k;rcases g q with⟨s,A⟩ | ⟨s,A⟩
    ·rw[A] at v;exact m.nd p q f s D z k u v
    ·rw[A] at v;simp at v
   ·rw[b] at k;simp at k
  ·rcases g p with⟨f,b⟩ | ⟨f,b⟩
   ·rw[b] at k;exact m.lo p f z k
   ·rw[b] at k;simp at k
end
end
section
open Go Go.Shelf Go.RowKit
section
variable {F:Fence} {n:Nat} {P:Program} {R:List Nat} {base:World} {Q:Exit→Act→World→Prop} {S:List It} {sz:Nat} {es:Fe} {L:ah} {Ds:List Nat}
def nz(N:Nat)(S:List It)(a:Sl)(b:ah)(hs:bu→List (Nat×b9 P))(η:bu):List (bZ P):=qx ((ax S).take N) a (je (eO S) ((ax S).take N)) η ((ax S).take N) (hs η) 0 [] (λp=>b[p]?) b.length
def tP(N:Nat)(S:List It)(a:Sl)(b:ah)(m:Nat)(hs:bu→List (Nat×b9 P)):dI:=sJ ((ax S).take N) a (je (eO S) ((ax S).take N)) (qb ((ax S).take N) []) b m (nz N S a b hs)
theorem AS[hF:jT F](hm:P.follows .mixedOrders=true)(N:Nat)(hs:bu→List (Nat×b9 P))(z:bu→Fe)(dr:List Nat)(Le:bu→ah→ah)
  (G: ∀η b W,Fr ⟨sz,z η++ek dr es⟩ Ds b→aE R base (Le η L++Ds.map mk) W→wpListIn F n P (ax S).toArray (c8 F n P Q (bT S)) ((ax S).drop N) b W)
  (m: ∀η,((kX S,true),(e6 ((ax S).take N) ⟨sz,es⟩ (tP N S ⟨sz,es⟩ L (mR Le L) hs) η 0 ((ax S).take N) (nz N S ⟨sz,es⟩ L hs η)).map a7.lhs,tE (eO S) (ax S) N (λk=>(je (eO S) ((ax S).take N)).getD k []),(VL (mR Le L)).map (λp=>(tP N S ⟨sz,es⟩ L (mR Le L) hs).at η p ((ax S).take N).length),(z η).map (λx=>kq ((ax S).take N) ⟨sz,es⟩ (tP N S ⟨sz,es⟩ L (mR Le L) hs) η x.1),lT ((ax S).take N) es (z η) dr)=
   ((true,true),(e6 ((ax S).take N) ⟨sz,es⟩ (tP N S ⟨sz,es⟩ L (mR Le L) hs) η 0 ((ax S).take N) (nz N S ⟨sz,es⟩ L hs η)).map a7.rhs,true,(Le η L).map some,(z η).map (λx=>some x.2),true)):Go F n P R base Q S ⟨sz,es⟩ L Ds:=by
 have K:=ALca (λx=>x.1.1) (m λ_=>ab.zero);have o:=λη=>ALca (λx=>x.2.1) (m η);have f:=ALca (λx=>x.2.2.1) (m λ_=>ab.zero);have q:=λη=>ALca (λx=>x.2.2.2.1) (m η);have r:=λη=>ALca (λx=>x.2.2.2.2.1) (m η);have B:=λη=>ALca (λx=>x.2.2.2.2.2) (m η);simp only at K o f q r B;obtain⟨id,d,Z,hd⟩:=AE K;subst hd;refine⟨λb W M Y=>dD 1000 S ?_⟩;rw[show dh 1000 S=_ from Z];show(Code.region id (ax S).toArray (eO S)).wpIn F n P (c8 F n P Q (bT S)) b W;obtain⟨I,U,V⟩:=Y.seg;obtain⟨c,y⟩: ∃c,(ax S).take N=c:=⟨_,rfl⟩;unfold tP nz at o q r;unfold tE at f;obtain⟨d,D⟩: ∃d,eO S=d:=⟨_,rfl⟩;rw[y] at o f q r B;rw[D] at o f q r⊢;rw[VI] at f;have u:=zM (F:=F) (n:=n) (Q:=c8 F n P Q (bT S)) M o;obtain⟨s1,O,T⟩:=H9 (a:=b) (t:=sJ c ⟨sz,es⟩ (je d c) (qb c []) L (mR Le L) _) (R:=I) (base:=W) V (λη=>Le η L) q;have g: ∀xs A,fW c b (sJ c ⟨sz,es⟩ (je d c) (qb c []) L (mR Le L) _) I W (λ_=>true) xs A→wpListIn F n P (ax S).toArray (c8 F n P Q (bT S)) ((ax S).drop N) (bn xs c 0 b) A:=λxs A X=>by
  obtain⟨η,hx,C⟩:=s1 xs A X;exact G η _ _ (M.region hx (r η) (B η)) (U.out.whole C)
 cases d with
 | false=>
  have h:=f.2;unfold lO at h;simp only[Wq,if_false,VI] at h;refine wpIn_region_lit ?_;have s:=AQ (LL:=ax S) (N:=N) y f.1 u hF.free h.1 (λk G j hj=>by simpa using List.all_eq_true.1 (List.all_eq_true.1 h.2 k (List.mem_range.2 G)) j hj) g c.length 0 (jz c b) W Om (O.congr (λi _=>by simp) (λ_ _=>rfl));rw[T,List.drop_zero,←y,WM] at s;exact s
 | true=>
  have h:=f.2;simp only[if_true,VI,decide_eq_true_eq] at h;obtain⟨⟨⟨⟨⟨⟨q1,q2⟩,q3⟩,q4⟩,q5⟩,q6⟩,q7⟩:=h;refine wpIn_region_any hm ?_;have H: ∀k,gB (Array.replicate (ax S).length false) k≤k:=by
   intro k
   induction k with
   | zero=>exact VS _
   | succ k ih=>unfold gB;split<;>omega
  have s:=AR (LL:=ax S) (N:=N) y f.1 q2 q1 u hF.free q3 q4 q5 q6 q7 g _ (ax S).toArray.size (Array.replicate (ax S).length false) (jz c b) W.drew rfl (by rw[VG];have:=H N;omega)
   ⟨by simp,λj oj _ v e _ _=>(by rw[getD_replicate_false] at v;exact Xc v),λt _ w=>(by rw[VG] at w;simp [w])⟩ (λi _ v=>(by rw[getD_replicate_false] at v;exact Xc v))
   (O.drew.congr (λi _=>(getD_replicate_false _ _).symm) (λ_ _=>rfl))
  rw[T] at s;simpa using s
def tF(LL:List Oper)(e:Fe)(o:Oper):Bool:=match o.guard with
 | none=>true
 | some (j,g)=>(match ((LL[j]?).bind (·.dst)).bind (lk e) with
  | some (.bool c)=>c==g
  | _=>false)
def oq(e:Fe):Operand→Bool
 | .tmp i=>(lk e i).isSome
 | _=>true
def nA(P:Program)(sz:Nat)(e:Fe)(o:Oper):Value×List a7:=match o.op with
 | .pick c x y=>(match (⟨sz,e⟩:Sl).ev c with
  | .bool b=>((⟨sz,e⟩:Sl).ev (match b with | true=>x | false=>y),[sB (oq e c&&oq e (match b with | true=>x | false=>y))])
  | _=>(undef,[sB false]))
 | _=>(match p9 o.op with
  | some l=>(wJ P o (⟨sz,e⟩:Sl).ev,[sB (lL o&&l.all (oq e)),sE (λw=>(execOp (⟨sz,e⟩:Sl).ev o).run P w) (λw=> .ok (.value (wJ P o (⟨sz,e⟩:Sl).ev)) w)])
  | none=>(undef,[sB false]))
def ig(P:Program)(LL:List Oper)(sz:Nat):List Oper→Fe→Fe×List a7
 | [],e=>(e,[])
 | o::os,e=>match o.dst with
  | some d=>((ig P LL sz os ((d,(nA P sz e o).1)::e)).1,sB (tF LL e o)::sB (Wj d sz)::((nA P sz e o).2++(ig P LL sz os ((d,(nA P sz e o).1)::e)).2))
  | none=>([],[sB false])
theorem Fr.put{b:Act}(c:Fr ⟨sz,es⟩ Ds b){d:Nat}(m:d<sz)(v:Value):Fr ⟨sz,(d,v)::es⟩ Ds (b.put (some d) v):=by
 refine⟨(vP _ _ _).trans c.size,λi u h=>?_,(AB _ _ _).trans c.defers⟩;have k:b.tmps.size=sz:=c.size;show(b.tmps.setIfInBounds d v).getD i undef=u;unfold lk at h
 split at h
 ·rename_i f;cases h;rw[VR f] at m⊢;simp [k,m]
 ·rename_i f;have g:d≠i:=λe=>by rw[e,Wk] at f;cases f
  have:=c.get i u h;simp only[Array.getD_eq_getD_getElem?] at this⊢;rw[Array.getElem?_setIfInBounds,ALifn g];exact this
theorem mT{b:Act}(c:Fr ⟨sz,es⟩ Ds b){x:Operand}(h:oq es x=true):b.eval x=(⟨sz,es⟩:Sl).ev x:=c.ev λi d=>by subst d;exact h
theorem Ia[hF:jT F]{b:Act}{W:World}{o:Oper}{K:Act→World→Prop}{k:Exit→Act→World→Prop}(g:Fr ⟨sz,es⟩ Ds b)(d: ∀q∈(nA P sz es o).2,q.2.1=q.2.2)(r:K (b.put o.dst (nA P sz es o).1) W):o.wpIn F n P b W K k:=by
 refine Oper.wpIn_mono (λm z ⟨v,e,h⟩=>by rw[e];exact h) (o5 (K:=λv w=>K (b.put o.dst v) w) (v:=(nA P sz es o).1) hF.free (w':=W) ?_ ?_ r)
 ·unfold nA at d
  split at d
  ·rename_i c x y f;unfold lL;rw[f]
  ·split at d
   ·simp only[VF,VC,or_false,forall_eq_or_imp,forall_eq,sB,VI] at d;exact d.1.1
   ·exact(bA d).elim
 ·unfold nA at d⊢
  split at d
  ·rename_i c x y f;simp only at d⊢
   split at d
   ·rename_i E p;simp only[VF,VC,or_false,forall_eq,sB,VI] at d;have i:=(mT g d.1).trans p;cases E with
    | true=>exact o3 f i (mT g d.2)
    | false=>exact o3 f i (mT g d.2)
   ·exact(bA d).elim
  ·split at d
   ·rename_i l s;simp only[VF,VC,or_false,forall_eq_or_imp,forall_eq,sE,sB,VI] at d;rw[zD s λx u=>mT g (List.all_eq_true.1 d.1.2 x u)];exact congrFun d.2 W
   ·exact(bA d).elim
theorem wQ{LL:List Oper}{o:Oper}{b:Act}(f:Fr ⟨sz,es⟩ Ds b)(h1:tF LL es o=true):Region.wanted o (yielded LL.toArray b.tmps)=true:=by
 unfold tF at h1;unfold Region.wanted;cases k:o.guard with
 | none=>rfl
 | some s=>
  obtain⟨j,g⟩:=s;rw[k] at h1;simp only at h1⊢
  split at h1
  ·rename_i c i;obtain⟨q,p,m⟩:=Option.bind_eq_some_iff.1 i;have e:=f.get q _ m;have d:q<b.tmps.size:=by
    rcases VZ q b.tmps.size with h | h
    ·exact h
    ·rw[Array.getD_eq_getD_getElem?,Array.getElem?_eq_none h] at e;cases e
   have r:yielded LL.toArray b.tmps j=some c:=by
    unfold yielded;rw[VX,p];simp only[W5];rw[Array.getD_eq_getD_getElem?,Array.getElem?_eq_getElem d] at e;rw[Array.getElem?_eq_getElem d];simp only[Wv] at e;rw[e]
   rw[r,eq_of_beq h1];simp
  ·cases h1
theorem qE[hF:jT F]{LL:List Oper}{W:World}{i:Exit→Act→World→Prop}: ∀{os:List Oper} {es:Fe} {b:Act},Fr ⟨sz,es⟩ Ds b→(∀q∈(ig P LL sz os es).2,q.2.1=q.2.2)→(∀k,Fr ⟨sz,(ig P LL sz os es).1⟩ Ds k→i .normal k W)→wpListIn F n P LL.toArray i os b W
 | [],es,b,e,_,f=>f b e
 | o::os,es,b,e,c,f=>by
  unfold ig at c f;cases g:o.dst with
  | none=>rw[g] at c;exact(bA c).elim
  | some d=>
   rw[g] at c f;simp only[VF,V9,forall_eq_or_imp,sB] at c;obtain⟨p,r,m⟩:=c;have s:=wQ (LL:=LL) e p;unfold wpListIn;rw[ALifp s];refine Ia (F:=F) e (λq h=>m q (.inl h)) ?_;rw[g];exact qE (e.put (Wi▸r) _) (λq h=>m q (.inr h)) f
def qF:Nat→List It→Fe→Bool
 | 0,_,_=>false
 | k+1,S,e=>match nf S with
  | .c .ret::_=>true
  | .c (.cond c x y)::S'=>oq e c&&(match (⟨0,e⟩:Sl).ev c with
   | .bool b=>qF k (.c (match b with | true=>x | false=>y)::S') e
   | _=>false)
  | _=>false
theorem wR: ∀(k:Nat) {S:List It} {b:Act} {W:World},qF k S es=true→Fr ⟨sz,es⟩ Ds b→Q .ret b W→c8 F n P Q S .normal b W
 | 0,_,_,_,h,_,_=>by cases h
 | k+1,S,b,W,h,i,g=>by
  unfold qF at h;refine dD 1000 S ?_
  split at h
  ·rename_i o e;rw[show dh 1000 S=_ from e];exact wpIn_ret (gF g)
  ·rename_i c x y o e;rw[show dh 1000 S=_ from e];rw[VI] at h;obtain⟨p,d⟩:=h
   split at d
   ·rename_i E q;have m:=(mT i p).trans q;have f:=wR k d i g;cases E with
    | true=>exact wpIn_cond m f
    | false=>exact wpIn_cond m f
   ·cases d
  ·cases h
def qG(P:Program)(fn:Func)(J Jx:Nat→(Nat→Prop)→World→Prop)(KO:aw)(W0:World)(N:Nat):Exit→Act→World→Prop:=
 bodyPostM Fence.wide 5 P fn λe b=>(∃v,e= .returned v)∧((∃L,fx J KO W0 L N b)∨∃i,i<N∧∃c,Jx (i+1) c b)
def wS{α:Type}(P:Program)(l:Nat)(J Jx:Nat→(Nat→Prop)→World→Prop)(KO:aw)(W0:World)(encs:α→Array Value)(xs:List α):Prop:=
 ∀(L:aw) (j:Nat) (x:α) (wr:World),xs[j]? =some x→fx J KO W0 L j wr→YieldAt Fence.wide 4 P l (encs x) wr λe b=>(e= .returned (.bool true)∧fx J KO W0 L (j+1) b)∨(e= .returned (.bool false)∧∃c,Jx (j+1) c b)
section
variable {α:Type} {gf:Nat} {fn:Func} {lb:Array Value} {encs:α→Array Value} {xs:List α} {KO:List aw} {J Jx:Nat→(Nat→Prop)→World→Prop} {W0:World} {l j:Nat}
theorem gi(hf:P.funcs[gf]? =some fn)(h: ∀l J Jx W0 R,gp J→wS P l J Jx KO.flatten W0 encs xs→Hid (fo J KO W0 0 R W0)→Go Fence.wide 5 P R W0 (qG P fn J Jx KO.flatten W0 xs.length) [.c (jY fn)] ⟨fn.ntmps,nw 0 (.func (.yield l) #[] #[]::lb.toList)⟩ (KO.map .c) [])
  (f:(fn.body.isSome,WZ (lb.size+1) fn.ntmps)=(true,true):=by kernel_rfl):eX 5 P gf lb encs xs KO.flatten:=by
 refine GA λl J Jx W q s k=>?_;obtain⟨R,p,r⟩:=iD.start (iD.zero k.out);obtain⟨c,e⟩:=Option.isSome_iff_exists.1 (ALca (·.1) f);have w:lb.size+1≤fn.ntmps:=Wl (ALca (·.2) f);refine callsIn_of_wp_marks hf e trivial ?_ rfl;have g:(#[Value.func (.yield l) #[] #[]]++lb).size=lb.size+1:=by simp;omega
 have d:=(h l J Jx W R q s.out p).out {tmps:=(#[Value.func (.yield l) #[] #[]]++lb)++Array.replicate (fn.ntmps-(#[Value.func (.yield l) #[] #[]]++lb).size) undef,defers:=[]} W ⟨by rw[Array.size_append,g,Array.size_replicate];show _=fn.ntmps;omega,λi v u=>?_,rfl⟩ (by simpa using r.out)
 ·rw[show jY fn=c by unfold jY;rw[e];rfl] at d;exact d
 ·obtain⟨_,b⟩:=qz u;rw[Wd] at b;have m:i<lb.size+1:=by have:=(List.getElem?_eq_some_iff.1 b).1;simpa using this
  have o:(#[Value.func (.yield l) #[] #[]]++lb)[i]? =some v:=by rw[←Array.getElem?_toList];simpa using b
  rw[Array.getD_eq_getD_getElem?,Array.getElem?_append_left (by rw[g];exact m),o];rfl
theorem gG{XO:aw}(hf:P.funcs[gf]? =some fn)(h: ∀l J Jx W0 R,gp J→wS P l J Jx KO.flatten W0 encs xs→Hid (fo J KO W0 0 R W0)→Go Fence.wide 5 P R W0 (qG P fn J Jx KO.flatten W0 xs.length) [.c (jY fn)] ⟨fn.ntmps,nw 0 (.func (.yield l) #[] #[]::lb.toList)⟩ (KO.map .c++[aB.c XO]) [])
  (f:(fn.body.isSome,WZ (lb.size+1) fn.ntmps)=(true,true):=by kernel_rfl):pa 5 P gf lb encs xs KO.flatten XO:=by
 refine GB λl J Jx W q s k=>?_;obtain⟨R,p,r⟩:=iD.start (LE:=[aB.c XO]) ⟨[XO],⟨rfl,trivial⟩,by simpa using k.out⟩;obtain⟨c,e⟩:=Option.isSome_iff_exists.1 (ALca (·.1) f);have w:lb.size+1≤fn.ntmps:=Wl (ALca (·.2) f);refine callsIn_of_wp_marks hf e trivial ?_ rfl;have g:(#[Value.func (.yield l) #[] #[]]++lb).size=lb.size+1:=by simp;omega
 have d:=(h l J Jx W R q s.out p).out {tmps:=(#[Value.func (.yield l) #[] #[]]++lb)++Array.replicate (fn.ntmps-(#[Value.func (.yield l) #[] #[]]++lb).size) undef,defers:=[]} W ⟨by rw[Array.size_append,g,Array.size_replicate];show _=fn.ntmps;omega,λi v u=>?_,rfl⟩ (by simpa using r.out)
 ·rw[show jY fn=c by unfold jY;rw[e];rfl] at d;exact d
 ·obtain⟨_,b⟩:=qz u;rw[Wd] at b;have m:i<lb.size+1:=by have:=(List.getElem?_eq_some_iff.1 b).1;simpa using this
  have o:(#[Value.func (.yield l) #[] #[]]++lb)[i]? =some v:=by rw[←Array.getElem?_toList];simpa using b
  rw[Array.getD_eq_getD_getElem?,Array.getElem?_append_left (by rw[g];exact m),o];rfl
theorem wT(W:World):aE (bI ([]:List aw).flatten) W [] W:=aE.start (cs:=[]) trivial ⟨λ_ h=>by simp at h,List.Pairwise.nil⟩
theorem AT{N:Nat}{b:Act}{W:World}{KO:aw}(c:fn.results.toList=[])(e:b.defers=[])(h:(∃L,fx J KO W0 L N W)∨∃i,i<N∧∃d,Jx (i+1) d W):qG P fn J Jx KO W0 N .ret b W:=by
 show LeavesInM Fence.wide 5 P fn b.tmps _ b.defers .returning W;rw[e];exact Gy (Lib.hid (wT W)) [] (by rw[c];rfl) λ_=>⟨⟨_,rfl⟩,h⟩
def AU(S:List It)(N:Nat):Option Oper:=(ax S)[N]?
def iF(S:List It)(N:Nat):Nat:=match AU S N with | some o=>o.dst.getD 0 | none=>0
def tH(S:List It)(N l sz:Nat)(e:Fe)(vs:List Value):Bool×Option (List Value)×Option Value:=match AU S N with
 | some o=>(match o.op with
  | .call ⟨.value x,b,_⟩=>(tF (ax S) e o&&oq e x&&b.toList.all (oq e)&&o.dst.isSome&&Wj (o.dst.getD 0) sz,some (b.toList.map (⟨sz,e⟩:Sl).ev),some ((⟨sz,e⟩:Sl).ev x))
  | _=>(false,none,none))
 | none=>(false,none,none)
theorem iy[hR:Rt Q (qG P fn J Jx KO.flatten W0 xs.length)](hJ:gp J)(hY:wS P l J Jx KO.flatten W0 encs xs)(hI:Hid (fo J KO W0 j R base))(N:Nat)(hs:bu→List (Nat×b9 P))(h:bu→Fe)(dr:List Nat)(Le:bu→ah→ah)(LE:bu→ah)(ps:List Nat){x:α}(hx:xs[j]? =some x)
  (hk: ∀η H r,Hid (fo J KO W0 (j+1) H r)→Go Fence.wide 5 P H r Q (bT S) ⟨sz,(ig P (ax S) sz ((ax S).drop (N+1)) ((iF S N,.bool true)::(h η++ek dr es))).1⟩ (KO.map .c++LE η) [])
  (he: ∀η,((kX S,true),(e6 ((ax S).take N) ⟨sz,es⟩ (tP N S ⟨sz,es⟩ L (mR Le L) hs) η 0 ((ax S).take N) (nz N S ⟨sz,es⟩ L hs η)).map a7.lhs,tE (eO S) (ax S) N (λk=>(je (eO S) ((ax S).take N)).getD k []),(VL (mR Le L)).map (λp=>(tP N S ⟨sz,es⟩ L (mR Le L) hs).at η p ((ax S).take N).length),(h η).map (λx=>kq ((ax S).take N) ⟨sz,es⟩ (tP N S ⟨sz,es⟩ L (mR Le L) hs) η x.1),lT ((ax S).take N) es (h η) dr)=
   ((true,true),(e6 ((ax S).take N) ⟨sz,es⟩ (tP N S ⟨sz,es⟩ L (mR Le L) hs) η 0 ((ax S).take N) (nz N S ⟨sz,es⟩ L hs η)).map a7.rhs,true,(Le η L).map some,(h η).map (λx=>some x.2),true):=by intro _;kernel_rfl)
  (K: ∀η,(tH S N l sz (h η++ek dr es) (encs x).toList,(ig P (ax S) sz ((ax S).drop (N+1)) ((iF S N,.bool true)::(h η++ek dr es))).2.map a7.lhs,(ig P (ax S) sz ((ax S).drop (N+1)) ((iF S N,.bool false)::(h η++ek dr es))).2.map a7.lhs,qF 10 (bT S) (ig P (ax S) sz ((ax S).drop (N+1)) ((iF S N,.bool false)::(h η++ek dr es))).1)=
   ((true,some (encs x).toList,some (.func (.yield l) #[] #[])),(ig P (ax S) sz ((ax S).drop (N+1)) ((iF S N,.bool true)::(h η++ek dr es))).2.map a7.rhs,(ig P (ax S) sz ((ax S).drop (N+1)) ((iF S N,.bool false)::(h η++ek dr es))).2.map a7.rhs,true):=by intro _;kernel_rfl)
  (hp: ∀η,(de (ps.map λp=>[p]).flatten,(ps.map λp=>[p]).map λg=>g.map λp=>(Le η L)[p]?)=(true,((KO.map aB.c++LE η).map λx=>[x]).map λN=>N.map some):=by intro _;kernel_rfl) (D:fn.results.toList=[]:=by kernel_rfl) (hm:P.follows .mixedOrders=true:=by kernel_rfl):Go Fence.wide 5 P R base Q S ⟨sz,es⟩ L []:=by
 refine AS hm N hs h dr Le (λη b W A hO=>?_) he;have f:=ALca (λx=>x.1) (K η);have u:=ALca (λx=>x.2.1) (K η);have v:=ALca (λx=>x.2.2.1) (K η);have w:=ALca (λx=>x.2.2.2) (K η);simp only at f u v w;have hO':aE R base (KO.map .c++LE η) W:=aE.pick (by simpa using hO) ps _ (hp η);obtain⟨ds,hds,hIS⟩:=fo.step hI hJ hO';obtain⟨V,z,O,U,G,m⟩:=hY ds.flatten j x W hx hIS;unfold tH at f
 split at f
 ·rename_i o ho
  split at f
  ·rename_i xo M ats C;simp only[Prod.mk.injEq,VI,Option.some.injEq] at f;obtain⟨⟨⟨⟨⟨g1,g2⟩,g3⟩,g4⟩,I⟩,g6,g7⟩:=f;obtain⟨d,B⟩:=Option.isSome_iff_exists.1 g4;have y:iF S N=d:=by unfold iF;rw[ho];simp [B]
   have hdr:(ax S).drop N=o::(ax S).drop (N+1):=by
    obtain⟨hlt,e⟩:=List.getElem?_eq_some_iff.1 (show(ax S)[N]? =some o from ho);rw[WG hlt,e]
   rw[hdr];have hw:Region.wanted o (yielded (ax S).toArray b.tmps)=true:=wQ A g1;unfold wpListIn;rw[ALifp hw];have hxo:b.eval xo= .func (.yield l) #[] #[]:=(mT A g2).trans g7;have hag:M.map b.eval=encs x:=by
    apply Array.toList_inj.1;rw[Array.toList_map,←g6];exact Wp λq hq=>mT A (List.all_eq_true.1 g3 q hq)
   have s:(execOp b.eval o).run P W= .ok (.round l V z O U) W:=by
    unfold execOp;simp only[C,resolve,hxo,Deferred.ofValue,V0,V1,VM,invoke];rw[hag];simpa using G
   unfold Oper.wpIn;refine⟨λ_ _=>trivial,?_⟩;rw[Oper.semAt_plain Fence.wide _ o (λc hc=>by rw[C] at hc;cases hc),s,Oper.uponIn_round];refine⟨λ_=>by omega,m.mono ?_⟩;rintro e r (⟨rfl,X⟩ | ⟨rfl,O',X⟩)
   ·rw[y] at u;obtain⟨H,Z,hO3⟩:=iD.start (J:=J) (Os:=KO) (W0:=W0) (LE:=LE η) (j:=j+1) ⟨ds,hds,X⟩;have h4:=hk η H r Z;rw[y] at h4;show wpListIn Fence.wide 5 P (ax S).toArray _ ((ax S).drop (N+1)) (b.put o.dst (.bool true)) r;rw[B];have Y:d<sz:=by rw[B] at I;exact Wi▸I
    exact qE (A.put Y _) (a7.all u) λT i=>h4.out T r i (by simpa using hO3.out)
   ·rw[y] at v w;show wpListIn Fence.wide 5 P (ax S).toArray _ ((ax S).drop (N+1)) (b.put o.dst (.bool false)) r;rw[B];have Y:d<sz:=by rw[B] at I;exact Wi▸I
    exact qE (A.put Y _) (a7.all v) λT i=>wR 10 w i (hR.out T r (AT D (by rw[i.defers];rfl) (.inr ⟨j,(List.getElem?_eq_some_iff.1 hx).1,O',X⟩)))
  ·simp at f
 ·simp at f
theorem ku(k:gp J)(i:Hid (fo J KO W0 j R base))(r:j=xs.length)(LE:ah)(f:List Nat)
  (hp:(de (f.map λp=>[p]).flatten,(f.map λp=>[p]).map λg=>g.map λp=>L[p]?)=(true,((KO.map aB.c++LE).map λx=>[x]).map λN=>N.map some):=by kernel_rfl) (d:fn.results.toList=[]:=by kernel_rfl) (o:(nf S).isEmpty=true:=by kernel_rfl):Go Fence.wide 5 P R base (qG P fn J Jx KO.flatten W0 xs.length) S ⟨sz,es⟩ L []:=by
 refine⟨λb W q m=>dD 1000 S ?_⟩;have e:aE R base (KO.map .c++LE) W:=aE.pick (by simpa using m) f _ hp;have h:=iD.leaf (fo.step i k e);rw[show dh 1000 S=[] from List.isEmpty_iff.1 o];exact AT d (by rw[q.defers];rfl) (.inl (by rw[←r];exact h))
end
section
variable {J:Nat→(Nat→Prop)→World→Prop} {KO:List aw} {W0:World}
def AV(J:Nat→(Nat→Prop)→World→Prop)(KO:List aw)(W0:World)(I:Nat→Prop)(e:Nat→Fe)(d:Nat→ah)(m c:Nat→Nat)(sz:Nat)(st:Fe)(i:Nat)(b:Act)(W:World):Prop:=∃(k:Nat) (R:List Nat) (base:World),I k∧Hid (fo J KO W0 (c k) R base)∧m k<i∧Fr ⟨sz,e k++st⟩ [] b∧aE R base (d k) W
def tI(P:Program)(J:Nat→(Nat→Prop)→World→Prop)(KO:List aw)(W0:World)(Q:Exit→Act→World→Prop)(S:List It)(I:Nat→Prop)(e:Nat→Fe)(d:Nat→ah)(m c:Nat→Nat)(sz:Nat)(st:Fe)(i:Nat):Exit→Act→World→Prop
 | .normal,b,W=>AV J KO W0 I e d m c sz st i b W
 | x,b,W=>c8 Fence.wide 5 P Q S x b W
theorem jD(I:Nat→Prop)(e:Nat→Fe)(p:Nat→ah→ah)(m c:Nat→Nat)(f:Nat)(h0:I f)(z:Hid (fo J KO W0 (c f) R base))(r:((e f).map λx=>lk es x.1)=(e f).map λx=>some x.2)(A:L=p f L)
  (M: ∀(k:Nat) (q:List Nat) (d:World),I k→Hid (fo J KO W0 (c k) q d)→Go Fence.wide 5 P q d (tI P J KO W0 Q (bT S) I e (λk=>p k L) m c sz (jm S es) (m k)) [.c (fX S)] ⟨sz,e k++jm S es⟩ (p k L) []) (B:nv S=true:=by kernel_rfl):Go Fence.wide 5 P R base Q S ⟨sz,es⟩ L []:=by
 classical
 refine⟨λb W C s=>dD 1000 S ?_⟩;rw[show dh 1000 S=_ from tq B];show(Code.loop (fX S)).wpIn Fence.wide 5 P (c8 Fence.wide 5 P Q (bT S)) b W
 let g:Nat→Act→World→Prop:=AV J KO W0 I e (λk=>p k L) m c sz (jm S es)
 let μ:Act→World→Nat:=λb W=>if h: ∃j,g j b W then We (kr h) else 0
 have w: ∀b W,(∃j,g j b W)→g (μ b W) b W∧∀i,i<μ b W→¬g i b W:=by
  intro b W h;have e:μ b W=We (kr h):=dif_pos h;rw[e];exact WE (kr h)
 refine wpIn_loop (λb W=>∃j,g j b W) μ ⟨m f+1,f,R,base,h0,z,Xg _,Fr.stay (a:=⟨sz,es⟩) C r,by have h:=s;rw[A] at h;simpa using h⟩ λb W o=>?_;obtain⟨k,q,d,G,y,K,D,s⟩:=(w b W o).1;refine wpIn_mono (show(fX S).wpIn Fence.wide 5 P _ b W from(M k q d G y).out b W D (by simpa using s)) λe v u r=>?_;cases e with
 | normal=>
  have o:g (m k) v u:=r;exact⟨⟨_,o⟩,Wu (WA λH=>(w v u ⟨_,o⟩).2 _ H o) K⟩
 | _=>exact r
theorem ij{I:Nat→Prop}{e:Nat→Fe}{h:Nat→ah}{m c:Nat→Nat}{o:List It}{d:Nat}{st:Fe}{i:Nat}(k:Nat)(q:I k)(hC:Hid (fo J KO W0 (c k) R base))(y:m k<i)(w:((e k++st).map λx=>lk es x.1)=(e k++st).map λx=>some x.2)(f:List Nat)(r:(de (f.map λp=>[p]).flatten,(f.map λp=>[p]).map λg=>g.map λp=>L[p]?)=(true,((h k).map λx=>[x]).map λN=>N.map some))(u:(nf S).isEmpty=true:=by kernel_rfl)(z:sz=d:=by rfl):
  Go Fence.wide 5 P R base (tI P J KO W0 Q o I e h m c d st i) S ⟨sz,es⟩ L []:=by
 subst z;refine⟨λb W v s=>dD 1000 S ?_⟩;rw[show dh 1000 S=[] from List.isEmpty_iff.1 u];exact⟨k,R,base,q,hC,y,Fr.told (a:=⟨sz,es⟩) v w,aE.pick (by simpa using s) f _ r⟩
theorem jE{I:Nat→Prop}{e:Nat→Fe}{k:Nat→ah}{m c:Nat→Nat}{d:List It}{f:Nat}{st:Fe}{i:Nat}(h:Go Fence.wide 5 P R base Q ((jC S d).getD []) ⟨sz,es⟩ L [])(p:(jC S d).isSome=true:=by kernel_rfl):Go Fence.wide 5 P R base (tI P J KO W0 Q d I e k m c f st i) S ⟨sz,es⟩ L []:=by
 obtain⟨r,g⟩:=Option.isSome_iff_exists.1 p;rw[g] at h;exact⟨λb W q o=>ts g (h.out b W q o) λ_=>rfl⟩
instance {P:Program} {J:Nat→(Nat→Prop)→World→Prop} {KO:List aw} {W0:World} {Q Q0:Exit→Act→World→Prop} {I:Nat→Prop} {e:Nat→Fe} {LI:Nat→ah} {m c:Nat→Nat} {S0:List It} {sz0:Nat} {st:Fe} {i:Nat} [h:Rt Q Q0]:Rt (tI P J KO W0 Q S0 I e LI m c sz0 st i) Q0:=⟨λb W hq=>gF (S:=S0) (h.out b W hq)⟩
def Vy(J:Nat→(Nat→Prop)→World→Prop)(KO:List aw)(W0:World)(I:Nat→Value→Prop)(e:Nat→Value→Fe)(d:Nat→Value→ah)(m c:Nat→Value→Nat)(sz:Nat)(st:Fe)(i:Nat)(b:Act)(W:World):Prop:=∃(k:Nat) (u:Value) (R:List Nat) (base:World),I k u∧Hid (fo J KO W0 (c k u) R base)∧m k u<i∧Fr ⟨sz,e k u++st⟩ [] b∧aE R base (d k u) W
def Vz(P:Program)(J:Nat→(Nat→Prop)→World→Prop)(KO:List aw)(W0:World)(Q:Exit→Act→World→Prop)(S:List It)(I:Nat→Value→Prop)(e:Nat→Value→Fe)(d:Nat→Value→ah)(m c:Nat→Value→Nat)(sz:Nat)(st:Fe)(i:Nat):Exit→Act→World→Prop
 | .normal,b,W=>Vy J KO W0 I e d m c sz st i b W
 | x,b,W=>c8 Fence.wide 5 P Q S x b W
instance {P:Program} {J:Nat→(Nat→Prop)→World→Prop} {KO:List aw} {W0:World} {Q Q0:Exit→Act→World→Prop} {I:Nat→Value→Prop} {e:Nat→Value→Fe} {LI:Nat→Value→ah} {m c:Nat→Value→Nat} {S0:List It} {sz0:Nat} {st:Fe} {i:Nat} [h:Rt Q Q0]:Rt (Vz P J KO W0 Q S0 I e LI m c sz0 st i) Q0:=⟨λb W hq=>gF (S:=S0) (h.out b W hq)⟩
end
end
end
section
open Go Go.Shelf Go.RowKit
theorem fB{P:Program}{T:TypeId}{x y:Operand}{w:World}{yk:IntKind}{a:Int}(n:Nat)(b:n≤64)(h0: -9223372036854775808≤a*2^n)(h1:a*2^n≤9223372036854775807):(av .shl T x y (.int .i64 a) (.int yk (n:Int))).run P w= .ok (.int .i64 (a*2^n)) w:=by
 have e:IntKind.i64.wrap (a*2^n)=a*2^n:=IntWalk.i64_in _ Om;unfold av;simp only[V0,eqGuard_shl,V1,VM,binOp_shl,shift_shl_i64 _ _ _ (W9 n) Om,V4,e]
theorem Ib(a b k:Nat)(g:a%2^k=0)(j:b<2^k)(h:a+b<9223372036854775808):bits .or .i64 (a:Int) (b:Int)=((a+b:Nat):Int):=by
 have d: ∀c:Nat,c<9223372036854775808→(BitVec.ofInt 64 (c:Int)).toNat=c:=by
  intro c l;rw[BitVec.ofInt_natCast,BitVec.toNat_ofNat];exact VN Om
 show IntKind.i64.wrap ((BitVec.ofInt 64 (a:Int)||| BitVec.ofInt 64 (b:Int)).toNat:Int)=_;rw[BitVec.toNat_or,d a Om,d b Om];have e:a||| b=a+b:=by
  have f:=Nat.div_add_mod a (2^k);rw[g,Wf] at f;rw[←f];exact(Nat.two_pow_add_eq_or_of_lt j (a/2^k)).symm
 rw[e];exact IntWalk.i64_in _ Om
theorem qH{P:Program}{T:TypeId}{x y:Operand}{w:World}{a b:Int}(k M:Nat)(d:2^k=M)(h0:0≤a)(f:a%(M:Int)=0)(c:0≤b)(g:b<(M:Int))(h:a+b<9223372036854775808):(av .or T x y (.int .i64 a) (.int .i64 b)).run P w= .ok (.int .i64 (a+b)) w:=by
 obtain⟨m,rfl⟩:=WJ h0;obtain⟨n,rfl⟩:=WJ c;have e:=Ib m n k (by rw[d];omega) (by rw[d];omega) Om;rw[show((m:Int)+(n:Int))=((m+n:Nat):Int) by omega,←e];rfl
theorem Ic(x:Int)(k:Nat)(c:k≤64):(((x%18446744073709551616).toNat%2^k:Nat):Int)=x%((2^k:Nat):Int):=by
 have b:((2^k:Nat):Int)∣18446744073709551616:=by
  have h:2^k∣18446744073709551616:=(show(18446744073709551616:Nat)=2^64 by decide)▸Nat.pow_dvd_pow 2 c;exact Int.natCast_dvd_natCast.2 h
 rw[Xh,Int.toNat_of_nonneg (Xl _ Dc),Int.emod_emod_of_dvd _ b]
theorem Ie(x:Int)(k m:Nat)(b:2^k=m)(d:k≤62)(h1:0<m)(h2:m≤4611686018427387904):bits .and .i64 x ((m-1:Nat):Int)=x%(m:Int):=by
 show IntKind.i64.wrap ((BitVec.ofInt 64 x&&& BitVec.ofInt 64 ((m-1:Nat):Int)).toNat:Int)=_;have e:(BitVec.ofInt 64 ((m-1:Nat):Int)).toNat=2^k-1:=by
  rw[BitVec.ofInt_natCast,BitVec.toNat_ofNat,b];exact VN Om
 have c:=Ic x k Om;rw[b] at c;rw[BitVec.toNat_and,e,Nat.and_two_pow_sub_one_eq_mod,BitVec.toNat_ofInt,b];rw[show(x%((2^64:Nat):Int))=x%18446744073709551616 from rfl,c];have f:0≤x%(m:Int):=Xl _ Om;have g:x%(m:Int)<(m:Int):=Int.emod_lt_of_pos _ Om;exact IntWalk.i64_in _ Om
theorem lV{P:Program}{T:TypeId}{y z:Operand}{w:World}(x:Int)(k m:Nat)(c:2^k=m)(b:k≤62)(h1:0<m)(h2:m≤4611686018427387904):(av .and T y z (.int .i64 x) (.int .i64 ((m-1:Nat):Int))).run P w= .ok (.int .i64 (x%(m:Int))) w:=by
 rw[←Ie x k m c b h1 h2];rfl
section
variable {P:Program} {T:TypeId} {x y:Operand} {w:World}
theorem AW{a b:Nat}(c:a<18446744073709551616)(d:b<18446744073709551616):(av .and T x y (.int .u64 (a:Int)) (.int .u64 (b:Int))).run P w= .ok (.int .u64 ((a&&& b:Nat):Int)) w:=by
 rw[←u64_and_nat a b c d];rfl
theorem Ig{a b:Nat}(c:a<4294967296)(d:b<4294967296):(av .and T x y (.int .u32 (a:Int)) (.int .u32 (b:Int))).run P w= .ok (.int .u32 ((a&&& b:Nat):Int)) w:=by
 rw[←u32_and_nat a b c d];rfl
theorem Ih{a b:Nat}(c:a<256)(d:b<256):(av .and T x y (.int .u8 (a:Int)) (.int .u8 (b:Int))).run P w= .ok (.int .u8 ((a&&& b:Nat):Int)) w:=by
 rw[←u8_and_nat a b c d];rfl
theorem Ii{a b:Nat}(h:b≤a)(d:a<18446744073709551616):(av .sub T x y (.int .u64 (a:Int)) (.int .u64 (b:Int))).run P w= .ok (.int .u64 ((a-b:Nat):Int)) w:=by
 have c:IntKind.u64.wrap ((a:Int)-b)=((a-b:Nat):Int):=by rw[IntKind.wrap_u64];omega
 rw[←c];rfl
theorem Ik{a b:Nat}(h:b≤a)(d:a<4294967296):(av .sub T x y (.int .u32 (a:Int)) (.int .u32 (b:Int))).run P w= .ok (.int .u32 ((a-b:Nat):Int)) w:=by
 have c:IntKind.u32.wrap ((a:Int)-b)=((a-b:Nat):Int):=by rw[WX];omega
 rw[←c];rfl
theorem Il{a b:Nat}(h:b≤a)(d:a<256):(av .sub T x y (.int .u8 (a:Int)) (.int .u8 (b:Int))).run P w= .ok (.int .u8 ((a-b:Nat):Int)) w:=by
 have c:IntKind.u8.wrap ((a:Int)-b)=((a-b:Nat):Int):=by rw[W6];omega
 rw[←c];rfl
theorem AX{a:Nat}(c:a<18446744073709551616):(av .and T x y (.int .u64 (a:Int)) (.int .u64 1)).run P w= .ok (.int .u64 ((a%2:Nat):Int)) w:=by
 have h:=AW (P:=P) (T:=T) (x:=x) (y:=y) (w:=w) (a:=a) (b:=1) c Om;rwa [Nat.and_one_is_mod] at h
theorem AY{a:Nat}:(av .and T x y (.int .i64 (a:Int)) (.int .i64 1)).run P w= .ok (.int .i64 ((a%2:Nat):Int)) w:=by
 have h:=lV (P:=P) (T:=T) (y:=x) (z:=y) (w:=w) (a:Int) 1 2 Dc Dc Dc Dc;exact h
end
section
variable {P:Program} {T:TypeId} {x y:Operand} {w:World}
theorem tJ{yk:IntKind}{a:UInt8}(n:Nat)(b:n≤8):(av .shl T x y (.int .u8 (a.toNat:Int)) (.int yk (n:Int))).run P w= .ok (.int .u8 ((UInt8.ofNat (a.toNat*2^n)).toNat:Int)) w:=by
 have e:IntKind.u8.wrap ((a.toNat:Int)*2^n)=((UInt8.ofNat (a.toNat*2^n)).toNat:Int):=by
  rw[Wc,W6,Xh,Int.natCast_mul,Int.natCast_pow];rfl
 rw[←e];generalize (a.toNat:Int)=A;unfold av;simp only[V0,eqGuard_shl,V1,VM,binOp_shl,shift_shl_u8 _ _ _ (W9 n) Om,V4]
end
theorem k4{P:Program}{T:TypeId}{x y:Operand}{w:World}{a b:Nat}(h:b≤a)(c:a≤9223372036854775807):(av .sub T x y (.int .i64 (a:Int)) (.int .i64 (b:Int))).run P w= .ok (.int .i64 ((a-b:Nat):Int)) w:=by
 rw[show((a-b:Nat):Int)=(a:Int)-(b:Int) by omega];exact p7 Om Om
section
variable {A R R' C cs cs':List Value} {a i:Nat} {v:Value}
theorem Im(e:cs=A++(R++C))(hA:A.length=a)(h:R.toArray[i]? =some v):cs.toArray[a+i*1]? =some v:=by
 rw[VX] at h⊢;rw[e,VY,VO Om,show a+i-A.length=i by omega,Wg (List.getElem?_eq_some_iff.1 h).1];exact h
theorem Io(e:cs=A++(R++C))(hA:A.length=a)(b:i<R.toArray.size):a+i*1<cs.toArray.size:=by
 rw[VG] at b⊢;rw[e,VE,VE];omega
theorem Ip(e:cs=A++(R++C))(c:cs'=A++(R'++C))(hA:A.length=a)(b:i<R.toArray.size)(h:R.toArray.setIfInBounds i v=R'.toArray):cs.toArray.setIfInBounds (a+i*1) v=cs'.toArray:=by
 rw[VG] at b;rw[List.setIfInBounds_toArray] at h⊢;have d:R.set i v=R':=ALca Array.toList h;rw[e,c,VY,List.set_append_right _ _ Om,show a+i-A.length=i by omega,List.set_append_left _ _ b,d]
end
theorem jZ{n:Nat}{xs:List UInt8}:(rB n xs).length=n:=(od (k:=1) λ_=>rfl).trans (VY n)
theorem Iq{P:Program}{T:TypeId}{w:World}{K:IntKind}{g off k s N:Nat}(b:(P.underlying T,P.arrayLen T,iB P (P.elem T))=(some (.array N (P.elem T)),N,some s))(d:k<N):(Instr.indexAt T (.pointer (some ⟨g,off,none⟩)) (.int K (k:Int))).run P w= .ok (.pointer (some ⟨g,off+k*s,none⟩)) w:=by
 have c:P.arrayLen T=N:=ALca (·.2.1) b;rw[run_indexAt_array w T _ K (k:Int) (by rw[c];exact ALca (·.1) b),c,ALifp Om,nq (ALca (·.2.2) b),VM,V4,add_lit]
section
variable {P:Program} {A R R' C cs':List Value} {a:Nat} {v:Value}
def iA(T:TypeId)(K:IntKind)(g off N s k:Nat)(c:k<N:=by omega)(b:(P.underlying T,P.arrayLen T,iB P (P.elem T))=(some (.array N (P.elem T)),N,some s):=by kernel_rfl):b9 P:= .t (tv (Instr.indexAt T (.pointer (some ⟨g,off,none⟩)) (.int K (k:Int))) λ_=>Iq b c)
def rM(p g i:Nat)(t:TypeId)(cs:List Value)(e:cs=A++(R++C))(hA:A.length=a)(h:R.toArray[i]? =some v):b9 P:= .m (lt p g (a+i*1) cs.toArray t (Im e hA h))
def wM(p g i:Nat)(t:TypeId)(v:Value)(cs cs':List Value)(e:cs=A++(R++C))(c:cs'=A++(R'++C))(hA:A.length=a)(b:i<R.toArray.size)(h:R.toArray.setIfInBounds i v=R'.toArray):b9 P:= .m (sw p g (a+i*1) t v cs.toArray cs'.toArray (Ip e c hA b h) (Io e hA b))
def rD(p g i:Nat)(t:TypeId)(R:List Value)(h:R.toArray[i]? =some v):b9 P:= .m (lt p g (0+i*1) R.toArray t (by rw[VV,VY];exact h))
def wD(p g i:Nat)(t:TypeId)(v:Value)(R R':List Value)(b:i<R.toArray.size)(h:R.toArray.setIfInBounds i v=R'.toArray):b9 P:= .m (sw p g (0+i*1) t v R.toArray R'.toArray (by rw[VV,VY];exact h) (by rw[VV,VY];exact b))
end
def aS{P:Program}(T:TypeId)(g N s:Nat)(h:0<N:=by decide)(b:(P.underlying T,P.arrayLen T,iB P (P.elem T))=(some (.array N (P.elem T)),N,some s):=by kernel_rfl):b9 P:= .t (tv (Instr.sliceAt T (.pointer (some ⟨g,0,none⟩)) none none none) λ_=>GR b h)
def aL{P:Program}(T:TypeId)(g N s l:Nat)(h:l<N:=by omega)(b:(P.underlying T,P.arrayLen T,iB P (P.elem T))=(some (.array N (P.elem T)),N,some s):=by kernel_rfl):b9 P:= .t (tv (Instr.sliceAt T (.pointer (some ⟨g,0,none⟩)) (some (.int .i64 (l:Int))) none none) λ_=>GQ b h)
def aM{P:Program}(T:TypeId)(g N s l m:Nat)(h:l+m≤N:=by omega)(h1:l<N:=by omega)(b:(P.underlying T,P.arrayLen T,iB P (P.elem T))=(some (.array N (P.elem T)),N,some s):=by kernel_rfl):b9 P:= .t (tv (Instr.sliceAt T (.pointer (some ⟨g,0,none⟩)) (some (.int .i64 (l:Int))) (some (.int .i64 ((l+m:Nat):Int))) none) λ_=>G8 b h h1)
end
section
open Go Go.Shelf Go.RowKit
section
variable {α:Type} {P:Program} {en:α→List Value} {z:List Value} {T:TypeId} {v:Value} {xs:List α} {bs:aw}
theorem aH.take{k:Nat}(G: ∀y,(en y).length=k)(h:aH en v xs bs){m:Nat}(H:m≤xs.length):aH en (gD v 0 m k) (xs.take m) bs:=by
 obtain⟨s,a,r,rfl⟩:=h;have d:(xs.take m).length=m:=by rw[VP];omega
 have C: ∃f,gD (.slice a xs.length (xs.length+r)) 0 m k= .slice f m (xs.length+r)∧(∀g b,a=some ⟨g,b,none⟩→f=some ⟨g,b,none⟩):=by
  simp only[gD,sliced,Wd,Nat.zero_mul];refine⟨_,rfl,λg b B=>?_⟩;subst B
  split
  ·rfl
  ·simp only[VT];unfold Addr.add
   split<;>simp_all
 obtain⟨f,n,o⟩:=C;rw[n];refine⟨?_,f,xs.length-m+r,by rw[d];congr 1;omega⟩;by_cases e:m=0
 ·subst e;exact .inl ⟨Xm,_,_,rfl⟩
 ·obtain⟨g,b,l,t,p,c,u,w,x⟩:=s.some (i:=0) Om;injection u with q D F;refine .inr ⟨g,b,l,t,p,_,by rw[o _ _ q,d],w,?_⟩;have A:aj en xs=aj en (xs.take m)++aj en (xs.drop m):=by rw[←jV,WM]
  have j:=ALca (λy=>y.take (aj en (xs.take m)).length) x;rw[List.take_take,A,VE,Xn (Nat.le_add_right _ _),List.take_left] at j;exact j
def wU(P:Program)(p:Nat)(x:aB)(v:Value)(m s:Nat)(o:Oper)(ρ:Operand→Value)(_:cj):MD:=match o.op with
 | .slice T a none (some b) none=>⟨[(p,x)],λ_=>[],[sE (ρ a) v,sE (ρ b) (.int .i64 (m:Int)),sE (P.underlying T,iB P (P.elem T)) (some (.slice (P.elem T)),some s)]⟩
 | _=>MD.bad
theorem Ir(p:Nat)(x:aB)(m s:Nat)(h: ∀bs,x.sat bs→aH en v xs bs)(u:m≤xs.length):MD.ok P (λ_=>gD v 0 m s) (wU P p x v m s) []:=by
 intro o ρ C d w c g;unfold wU at d g⊢
 split at d
 ·rename_i f a b e;simp only[e] at g⊢;simp only[VF,VC,or_false,forall_eq_or_imp,forall_eq,sE] at d;obtain⟨n,q,j⟩:=d;obtain⟨l,h2⟩:=g.ent;obtain⟨i,r,rfl⟩:=(h _ l).2;have k:P.underlying f=some (.slice (P.elem f)):=ALca (·.1) j;have t:(Instr.sliceAt f (.slice i xs.length (xs.length+r)) none (some (.int .i64 (m:Int))) none).run P w= .ok (sliced i 0 m (xs.length+r) s) w:=by
   rw[run_sliceAt_slice (h:=k),run_slice_h (ht:=k) (kh:= .i64) (h:=(m:Int)) (h0:=by omega) (h2:=by omega),nq (ALca (·.2) j)];simp only[VM,V4]
  refine⟨ab.zero,λ_=>[],w,.inl ?_,λx h=>by simp at h,by simpa using a6.refl w⟩;unfold execOp;simp only[e,n,VT,Option.map_none,q,V0,t,VM,V1,gD]
 ·exact(bA d).elim
def AZ(p:Nat)(x:aB)(m s:Nat)(h: ∀bs,x.sat bs→aH en v xs bs)(a:m≤xs.length):MH P (λ_=>gD v 0 m s):=⟨[],wU P p x v m s,Ir p x m s h a⟩
end
theorem A0{z:List Value}: ∀{n i:Nat},i<n*z.length→((VA n z).flatten)[i]? =z[i%z.length]?
 | 0,i,h=>by omega
 | n+1,i,h=>by
  rw[List.replicate_succ,List.flatten_cons];rcases VZ i z.length with a | a
  ·rw[Wg a,VN a]
  ·rw[VO a,A0 (n:=n) (by rw[Nat.succ_mul] at h;omega),Nat.mod_eq_sub_mod a]
theorem Iu{z:List Value}(n:Nat):madeCells z.toArray (n*z.length)=((VA n z).flatten).toArray:=by
 apply Array.ext';apply Wx;intro i;rw[Array.getElem?_toList];unfold madeCells;rw[Array.getElem?_map];rcases VZ i (n*z.length) with a | a
 ·rw[Array.getElem?_range,ALifp a,A0 a,VT];have c:0<z.length:=Nat.pos_of_ne_zero λe=>by rw[e,Xr] at a;omega
  have b:i%z.length<z.length:=V5 _ c;rw[VU b];simp [b]
 ·rw[Array.getElem?_range,ALifn Om,VQ (by simp;exact a)];rfl
section
variable {α:Type} {P:Program}
def wV(P:Program)(en:α→List Value)(z:List Value)(a:TypeId)(d:α)(T:TypeId)(p n:Nat)(o:Oper)(ρ:Operand→Value)(_:cj):MD:=
 ⟨[],λE=>[(p,.p (ar en z a (.slice (some ⟨E.y 0,0,none⟩) n n) (VA n d)))],[sE (λw=>(execOp ρ o).run P w) (λw=>(vS (Instr.makeSlice T (.int .i64 (n:Int)) (.int .i64 (n:Int)))).run P w)]⟩
theorem Iv(K:Kd P α)(p n:Nat)(h:K.en K.d=K.z)(l:n≤1000000):MD.ok P (λE=> .slice (some ⟨E.y 0,0,none⟩) n n) (wV P K.en K.z K.T K.d K.TS p n) []:=by
 intro o ρ C a w c g;simp only[wV,Wt,forall_eq,sE] at a g⊢;obtain⟨q,⟨i,f,k,r,m,d,b⟩,s⟩:=K.hT;have e:=run_make (P:=P) K.TS K.T i f q k r .i64 .i64 (n:Int) (n:Int) Om (Int.le_refl _) (by have:=WI b l;omega) Om (w:=w);rw[V4,m,show f.cells=K.z.toArray by rw[←d],Iu] at e;have a:=congrFun a w;have j:aj K.en (VA n K.d)=(VA n K.z).flatten:=by unfold aj;rw[List.flatMap_replicate,h]
 refine⟨ab.of w.heap.size,λ_=>[(w.heap.size,.cells ((VA n K.z).flatten).toArray K.T (0,0))],_,.inl (a.trans (kR e)),?_,by simpa using a6.alloc w (.cells ((VA n K.z).flatten).toArray K.T (0,0))⟩;refine .inr ⟨w.heap.size,0,by rw[VH];rfl,?_⟩;rw[j];unfold bB;rw[WY,Xd,VD]
def qI(K:Kd P α)(p n:Nat)(b:n≤1000000:=by omega)(a:K.en K.d=K.z:=by rfl):b9 P:= .m ⟨[],wV P K.en K.z K.T K.d K.TS p n,Iv K p n a b⟩
end
theorem aH.cells{α:Type}{en:α→List Value}{v:Value}{xs:List α}{bs:aw}(h:aH en v xs bs):v.cells=#[v]:=by
 obtain⟨a,r,rfl⟩:=h.2;rfl
def wW(P:Program)(p q:Nat)(x:aB)(v:Value)(o:Oper)(ρ:Operand→Value)(_:cj):MD:=match o.op with
 | .box T a=>⟨[(q,x)],λE=>[(p,ob (E.y 0) #[v] T)],[sE (ρ a) v]⟩
 | _=>MD.bad
theorem Iw{P:Program}(p q:Nat)(x:aB)(v:Value)(hv: ∀bs,x.sat bs→v.cells=#[v]):MD.ok P (λE=> .pointer (some ⟨E.y 0,0,none⟩)) (wW P p q x v) []:=by
 intro o ρ C b w c e;unfold wW at b e⊢
 split at b
 ·rename_i T a d;simp only[d] at e⊢;simp only[VF,VC,or_false,forall_eq,sE] at b;have f:x.sat (c q):=e.sat (q,x) (by simp);have g:=hv _ f;refine⟨ab.of w.heap.size,λ_=>[(w.heap.size,.cells #[v] T (0,0))],_,.inl ?_,λy h=>?_,by simpa using a6.alloc w (.cells #[v] T)⟩
  ·unfold execOp;simp only[d,b,V0,show(Instr.box T v).run P w= .ok (.pointer (some ⟨w.heap.size,0,none⟩)) (w.alloc (.cells v.cells T)) from rfl,g,VM,V1];rfl
  ·rw[List.mem_singleton.1 h];rfl
 ·exact(bA b).elim
def A1{P:Program}(p q:Nat)(x:aB)(v:Value)(hv: ∀bs,x.sat bs→v.cells=#[v]):b9 P:= .m ⟨[],wW P p q x v,Iw p q x v hv⟩
def wX{α:Type}(P:Program)(K:Kd P α)(p n:Nat)(ys:List α)(o:Oper)(ρ:Operand→Value)(_:cj):MD:=
 ⟨[],λE=>[(p,.p (ar K.en K.z K.T (.slice (some ⟨E.y 0,0,none⟩) n n) ys))],[sE (λw=>(execOp ρ o).run P w) (λw=> .ok (.value (.slice (some ⟨w.heap.size,0,none⟩) n n)) (w.alloc (.cells (aj K.en ys).toArray K.T))),sE ys.length n]⟩
theorem Iy{α:Type}{P:Program}(K:Kd P α)(p n:Nat)(ys:List α):MD.ok P (λE=> .slice (some ⟨E.y 0,0,none⟩) n n) (wX P K p n ys) []:=by
 intro o ρ C a w c b;simp only[wX,VF,VC,or_false,forall_eq_or_imp,forall_eq,sE] at a b⊢;obtain⟨a,rfl⟩:=a;refine⟨ab.of w.heap.size,λ_=>[(w.heap.size,.cells (aj K.en ys).toArray K.T (0,0))],_,.inl (congrFun a w),?_,by simpa using a6.alloc w (.cells (aj K.en ys).toArray K.T (0,0))⟩;refine .inr ⟨w.heap.size,0,rfl,?_⟩;unfold bB;rw[WY,Xd,VD]
def gH{α:Type}{P:Program}(K:Kd P α)(p n:Nat)(ys:List α):b9 P:= .m ⟨[],wX P K p n ys,Iy K p n ys⟩
def wY(P:Program)(q:Nat)(x:aB)(s:Sem Value)(o:Oper)(ρ:Operand→Value)(_:cj):MD:=⟨[(q,x)],λ_=>[],[sE (λw=>(execOp ρ o).run P w) (λw=>(vS s).run P w)]⟩
theorem Iz{P:Program}{v:Value}(q:Nat)(x:aB)(s:Sem Value)(h: ∀bs,x.sat bs→∀w,s.run P w= .ok v w):MD.ok P (λ_=>v) (wY P q x s) []:=by
 intro o ρ C b w c a;simp only[wY,Wt,forall_eq,sE] at b a⊢;have d:x.sat (c q):=a.sat (q,x) (by simp);exact⟨ab.zero,λ_=>[],w,.inl ((congrFun b w).trans (kR (h _ d w))),λy h=>by simp at h,by simpa using a6.refl w⟩
def IA{P:Program}{v:Value}(q:Nat)(x:aB)(s:Sem Value)(h: ∀bs,x.sat bs→∀w,s.run P w= .ok v w):b9 P:= .m ⟨[],wY P q x s,Iz q x s h⟩
theorem IB{P:Program}(w:World)(T U TY b:TypeId)(A:Addr)(e d:Nat)(a:Option Addr)(c:Nat)(g:P.underlying T=some (.slice b)){i:TypeInfo}(f:P.info? b=some i):
  (Builtin.copy_ #[T,U] TY #[.slice (some A) e d,.slice a 0 c]).run P w= .ok (goInt 0) w:=by
 cases a<;>simp [Builtin.copy_,run_underlying g,Builtin.lenOf,Builtin.firstCells,sizeOf,typeInfo,f,storeCells,loadCells,loadCellsFrom]
theorem a6.same{w:World}{g:Nat}{o:Obj}(h:w.heap[g]? =some o):a6 [g] [(g,o)] w w:=a6.put rfl rfl rfl rfl h (λ_ _=>rfl)
section
variable {α:Type} {P:Program}
def wZ(P:Program)(p g off b a:Nat)(cs cs':Array Value)(t T U TY:TypeId)(q:Nat)(x:aB)(u:Value)(o:Oper)(ρ:Operand→Value)(_:cj):MD:=⟨[(p,ob g cs t),(q,x)],λ_=>[(p,ob g cs' t)],[sE (λw=>(execOp ρ o).run P w) (λw=>(GL T U TY (.slice (some ⟨g,off,none⟩) b a) u).run P w)]⟩
theorem IC(K:Kd P α)(L:K.k=1)(p g off f l:Nat)(cs cs':Array Value)(t U TY:TypeId)(q:Nat)(x:aB)(u:Value)(ys:List α)(Y: ∀bs,x.sat bs→dJ K.en u ys bs)(R:ys.length≤f)(hf:off+ys.length≤cs.size)(I:(cs.toList.take off++aj K.en ys++cs.toList.drop (off+(aj K.en ys).length)).toArray=cs'):
  MD.ok P (λ_=> .int .i64 (ys.length:Int)) (wZ P p g off f l cs cs' t K.TS U TY q x u) [p]:=by
 intro o ρ C B w c m;simp only[wZ,Wt,forall_eq,sE] at B m⊢;have S:=m.has;obtain⟨r,W⟩:=m.two;obtain⟨b,s⟩:=r.one;obtain⟨N,⟨i,zv,J,hz,G,hzc,Q⟩,h0⟩:=K.hT;have D:(aj K.en ys).length=ys.length:=by rw[fy (n:=ys.length) (k:=1) (λy=>(K.hk y).trans L) rfl,VY]
 rcases Y _ W with⟨rfl,a,h,rfl⟩ | ⟨H,d,j,t2,O,h,rfl,V,F⟩
 ·have e:cs'=cs:=by
   rw[←I];apply Array.ext';simp [aj]
  subst e;refine⟨ab.zero,λ_=>[(g,.cells cs' t (0,0))],w,.inl ((congrFun B w).trans (kR (IB w K.TS U TY K.T ⟨g,off,none⟩ f l a h N J))),rfl,by simpa [b,bI] using a6.same s⟩
 ·have A:w.heap[H]? =some (.cells j t2 O):=S.obj _ (List.mem_flatMap.2 ⟨(q,x),by simp,V⟩);have M:=run_copy_row (P:=P) w K.TS U TY K.T g off f l ⟨H,d,none⟩ ys.length h cs t (aj K.en ys) N (by rw[J,VT,G,←K.hz,L]) s (by rw[D];exact(Xn R).symm) (oc A F) (by rw[D];exact hf) (by
   intro v X;obtain⟨y,_,Z⟩:=List.mem_flatMap.1 X;exact K.one y v Z)
  rw[I,D] at M;exact⟨ab.zero,λ_=>[(g,.cells cs' t (0,0))],_,.inl ((congrFun B w).trans (kR M)),rfl,by simpa [b,bI] using a6.setRow cs' s⟩
def tK(K:Kd P α)(p g off a b:Nat)(cs cs':Array Value)(t U TY:TypeId)(q:Nat)(x:aB)(u:Value)(ys:List α)(f: ∀bs,x.sat bs→dJ K.en u ys bs)(d:ys.length≤a)(hf:off+ys.length≤cs.size)(c:(cs.toList.take off++aj K.en ys++cs.toList.drop (off+(aj K.en ys).length)).toArray=cs')(e:K.k=1:=by rfl):MH P (λ_=> .int .i64 (ys.length:Int)):=⟨[p],wZ P p g off a b cs cs' t K.TS U TY q x u,IC K e p g off a b cs cs' t U TY q x u ys f d hf c⟩
theorem ot{en:α→List Value}{d:α}{a m c:Nat}{ys:List α}{t:TypeId}(h1: ∀x,(en x).length=1)(h:ys.length=m):dJ en (.slice (some ⟨a,0,none⟩) m c) ys [(a,.cells ((cG en d m ys).toArray) t (0,0))]:=
 .inr ⟨a,0,_,t,(0,0),c,by rw[h],by simp,Ae (d:=d) h⟩
end
end
section
open Go Go.Shelf Go.RowKit
section
variable {α:Type} {P:Program} {en:α→List Value} {v:Value} {xs:List α}
def w0(P:Program)(p:Nat)(x:aB)(v:Value)(n:Nat)(o:Oper)(ρ:Operand→Value)(_:cj):MD:=match o.op with
 | .sliceToArrayPointer T a=>⟨[(p,x)],λ_=>[],[sE (ρ a) v,sE (P.underlying T) (some (.array n (P.elem T)))]⟩
 | _=>MD.bad
theorem ID(p:Nat)(x:aB)(n:Nat)(h: ∀j,x.sat j→dJ en v xs j)(h0:0<n)(A:n≤xs.length):MD.ok P (λ_=>eZ v 0) (w0 P p x v n) []:=by
 intro o ρ C b w c f;unfold w0 at b f⊢
 split at b
 ·rename_i T a d;simp only[d] at f⊢;simp only[VF,VC,or_false,forall_eq_or_imp,forall_eq,sE] at b;obtain⟨m,l⟩:=b;obtain⟨k,y⟩:=f.ent;obtain⟨g,q,s,t,u,r,rfl,_⟩:=(h _ k).some (i:=0) Om;refine⟨ab.zero,λ_=>[],w,.inl ?_,λx h=>by simp at h,by simpa using a6.refl w⟩;unfold execOp;simp only[d,m,V0,run_arrayAt w T (P.elem T) n _ _ _ l Om,VM,V1,eZ,add_lit,Wf]
 ·exact(bA b).elim
def A2(p:Nat)(x:aB)(n:Nat)(h: ∀a,x.sat a→dJ en v xs a)(h0:0<n)(b:n≤xs.length):MH P (λ_=>eZ v 0):=⟨[],w0 P p x v n,ID p x n h h0 b⟩
theorem IE(p:Nat)(x:aB)(n:Nat)(l:List Value)(h: ∀i,x.sat i→dJ en v xs i)(u:aj en xs=l)(h0:0<xs.length)(y:l.length=n):MD.ok P (λ_=> .agg l.toArray) (mL P p x v 0 n) []:=by
 intro o ρ C b w c f;unfold mL at b f⊢
 split at b
 ·rename_i B a d;simp only[d] at f⊢;simp only[VF,VC,or_false,forall_eq_or_imp,forall_eq,sE,sB] at b;obtain⟨k,s,A⟩:=b;obtain⟨m,q⟩:=f.ent;obtain⟨g,H,F,t,G,D,rfl,r,j⟩:=(h _ m).some h0;refine⟨ab.zero,λ_=>[],w,.inl ?_,λx h=>by simp at h,by simpa using a6.refl w⟩;unfold execOp;simp only[eZ,add_lit,Wf] at k;rw[u] at j;simp only[d,k,Instr.loadAt,Instr.sureAddr,V0,V1,VM,Av (q.obj _ r) j s (by rw[A,y])]
 ·exact(bA b).elim
def A3(p:Nat)(x:aB)(n:Nat)(l:List Value)(h: ∀a,x.sat a→dJ en v xs a)(b:aj en xs=l)(h0:0<xs.length)(c:l.length=n):MH P (λ_=> .agg l.toArray):=⟨[],mL P p x v 0 n,IE p x n l h b h0 c⟩
theorem A4{d:α}{n:Nat}(a: ∀x,(en x).length=1)(h:xs.length=n):(cG en d n xs).length=n:=by rw[km h,fy a h,VY]
end
section
variable {α:Type} {P:Program} {en:α→List Value} {z:List Value} {e:TypeId} {xs ys:List α}
theorem IF{T' TY:TypeId}(H:dU P T' e z)(d: ∀y,(en y).length=z.length)(h1: ∀y,∀u∈en y,u.oneCell'=true){w:World}{g:Nat}{cs:Array Value}{t:TypeId}(I:w.heap[g]? =some (.cells cs t (0,0)))
  (q:(cs.toList.drop 0).take (aj en xs).length=aj en xs) {A:Addr} {c:Nat} (Q:0<ys.length) (f: ∀j u,(aj en ys)[j]? =some u→w.cell? (A.add j)=some u) (n:xs.length+ys.length≤1000000):
  ∃D k w',(Builtin.append_ #[T',T'] TY #[.slice (some ⟨g,0,none⟩) xs.length xs.length,.slice (some A) ys.length c]).run P w= .ok D w'∧ar en z e D (xs++ys) k∧a6 [] k w w':=by
 obtain⟨N,⟨i,B,K,O,C,m,p⟩,G⟩:=H;have s:0<B.cells.size:=by rw[←Array.length_toList,m];exact G
 have L:(aj en ys).length=ys.length*i.size:=by rw[C];exact fy d rfl
 have M:(aj en xs).length=xs.length*i.size:=by rw[C];exact fy d rfl
 have o:(xs.length+ys.length)*i.bytes≤140737488355328:=Xs (WI n p) Dc;have l:=oc (news:=aj en xs) I (off:=0) q;have h:=run_append_grow (P:=P) w T' TY e i B N K O ⟨g,0,none⟩ xs.length xs.length (aj en xs) M l A ys.length c (aj en ys) L f Om Om (growslice_fits Om o);have J:=grownCap_ge w (xs.length+ys.length) xs.length e;have F:(aj en xs).toArray++(aj en ys).toArray++Builtin.zeroCells B.cells (grownCap w (xs.length+ys.length) xs.length e-(xs.length+ys.length))=bB (aj en (xs++ys)) z (grownCap w (xs.length+ys.length) xs.length e-(xs.length+ys.length)):=by
  apply Array.toList_inj.1;unfold bB;simp only[Array.toList_append,wc _ _ s,m,jV]
 rw[F] at h;refine⟨_,_,_,h,.inr ⟨w.heap.size,grownCap w (xs.length+ys.length) xs.length e-(xs.length+ys.length),by rw[VE];congr 1;omega,rfl⟩,?_⟩;have a:=(Below.refl w.heap.size w.drew).alloc (VS _) (.cells (bB (aj en (xs++ys)) z (grownCap w (xs.length+ys.length) xs.length e-(xs.length+ys.length))) e);exact⟨a.os,a.tape,a.output,a.size,λx r=>by obtain rfl:=List.mem_singleton.1 r;exact World.alloc_heap_new w.drew _,λx r=>by obtain rfl:=List.mem_singleton.1 r;exact .inr (VS _),List.pairwise_singleton _ _,λb n _=>a.block b n⟩
def w1(P:Program)(p a q:Nat)(T':TypeId)(g n:Nat)(cs:Array Value)(t:TypeId)(u:Value)(b:aB)(y:ab→aB)(o:Oper)(ρ:Operand→Value)(C:cj):MD:=
 ⟨[(a,ob g cs t),(q,b)],λE=>[(p,y E)],[sE (λw=>(execOp ρ o).run P w) (λw=>(ql T' o.type (.slice (some ⟨g,0,none⟩) n n) u).run P w)]⟩
theorem IG{T':TypeId}(p m q g n:Nat)(cs:Array Value)(t:TypeId)(H:dU P T' e z)(u:Value)(r:aB)(l: ∀s,r.sat s→dJ en u ys s)(a: ∀y,(en y).length=z.length)(h1: ∀y,∀u∈en y,u.oneCell'=true)(K:xs.length=n)(i:(cs.toList.drop 0).take (aj en xs).length=aj en xs)(B:0<ys.length)(I:xs.length+ys.length≤1000000):
  MD.ok P (λE=>E.val 0) (w1 P p m q T' g n cs t u r (λE=> .p (ar en z e (E.val 0) (xs++ys)))) []:=by
 subst K;intro o ρ C A w c b;simp only[w1,VF,VC,or_false,forall_eq,sE] at A b⊢;have L:c m=[(g,.cells cs t (0,0))]:=b.sat (m,ob g cs t) (by simp);have M:dJ en u ys (c q):=l _ (b.sat (q,r) (by simp));have d:=b.has;simp only[List.flatMap_cons,List.flatMap_nil,VD] at d;have J:w.heap[g]? =some (.cells cs t (0,0)):=d.obj (g,.cells cs t (0,0)) (by rw[L];simp);have j:eh (c q) w:=⟨λx l=>d.obj x (List.mem_append_right _ l),(List.pairwise_append.1 d.nd).2.1⟩;rcases M with⟨rfl,_⟩ | ⟨U,Q,F,V,T,D,rfl,h,G⟩
 ·simp at B
 ·obtain⟨R,f,S,N,O,k⟩:=IF (TY:=o.type) (c:=D) H a h1 J i B (oc (j.obj _ h) G) I;exact⟨ab.ov R,λ_=>f,S,.inl ((congrFun A w).trans (s9 N)),O,by simpa using k⟩
def IH{T':TypeId}(p f q g n:Nat)(cs:Array Value)(t:TypeId)(h:dU P T' e z)(u:Value)(c:aB)(k: ∀d,c.sat d→dJ en u ys d)(h1: ∀y,∀u∈en y,u.oneCell'=true)(a: ∀y,(en y).length=z.length)(j:xs.length=n)(b:(cs.toList.drop 0).take (aj en xs).length=aj en xs)(l:0<ys.length)(i:xs.length+ys.length≤1000000):MH P (λE=>E.val 0):=
 ⟨[],w1 P p f q T' g n cs t u c (λE=> .p (ar en z e (E.val 0) (xs++ys))),IG p f q g n cs t h u c k a h1 j b l i⟩
def II(K:Kd P α)(p j q g n:Nat)(cs:Array Value)(t:TypeId)(xs ys:List α)(u:Value)(c:aB)(h: ∀b,c.sat b→dJ K.en u ys b)(f:xs.length=n)(a:(cs.toList.drop 0).take (aj K.en xs).length=aj K.en xs)(i:0<ys.length)(d:xs.length+ys.length≤1000000):MH P (λE=>E.val 0):=IH (xs:=xs) p j q g n cs t K.hT u c h K.one K.lz f a i d
end
end
section
open Go Go.Shelf Go.RowKit
def bw(x:Nat):Nat→Nat
 | 0=>x
 | k+1=>bw x k&&& (bw x k-1)
theorem qJ(x:Nat): ∀k,bw x k≤x
 | 0=>VS _
 | k+1=>Xs Nat.and_le_left (qJ x k)
theorem pv{x:Nat}(c:x<18446744073709551616){k:Nat}(h:pc (bw x k)+k=pc x)(h0:((bw x k:Nat):Int)≠0):pc (bw x (k+1))+(k+1)=pc x∧k<pc x:=by
 have a:=qJ x k;have b:=FY (bw x k) Om Om;show pc (bw x k&&& (bw x k-1))+(k+1)=pc x∧_;omega
theorem w2{x k:Nat}(h:pc (bw x k)+k=pc x)(h0:((bw x k:Nat):Int)=0):k=pc x:=by
 have a:bw x k=0:=by omega
 rw[a,FU] at h;omega
attribute [local irreducible] pc
theorem qK(x:Nat)(m:x<18446744073709551616):aa VB 171 #[u6 (x:Int)] [] [] N0 (λ_=>iN (pc x)):=by
 refine fG Tryz.func171 λw l=>r0 [] [(2,i6 0)] [] (r0 [] [(3,i6 0)] [] ?_);refine lq (λk=>k≤pc x∧(pc (bw x k)+k=pc x)) (λk=>[(0,u6 ((bw x k:Nat):Int)),(3,iN k)]) (λ_ L=>L) (λk=>(pc x)-k) 0 ⟨by omega,(Wf (pc x))⟩ Kr Kr (λk ⟨g,d⟩=>?_);have f:=qJ x k;have j:=vJ x;refine r0 [] [(5,.bool (((bw x k:Nat):Int) != 0))] [] ?_;refine lU ((bw x k:Nat):Int) 0 (λe c=>?_) λe c=>?_
 ·refine r0 [(2,.t (tv (av .sub 44 (.tmp 7) (.const (u6 1)) (u6 ((bw x k:Nat):Int)) (u6 1)) (λ_=>Ii (b:=1) Om Om))),(3,.t (tv (av .and 44 (.tmp 6) (.tmp 8) (u6 ((bw x k:Nat):Int)) (u6 ((bw x k-1:Nat):Int))) (λ_=>AW (a:=bw x k) (b:=bw x k-1) Om Om)))] [(0,u6 ((bw x (k+1):Nat):Int))] [0] (r0 [(1,ad k 1)] [(3,iN (k+1))] [3] ?_);have i:=pv Om d As;exact le (k+1) ⟨by omega,(pv Om d As).1⟩ Om Kr [] Kr
 have h:=w2 d As;obtain rfl:k=pc x:=by omega
 exact lx (r0 [] [(2,iN (pc x))] [2] (lf ab.zero [] [] []))
theorem IJ(x:Nat)(m:x<4294967296):aa VB 230 #[.int .u32 (x:Int)] [] [] N0 (λ_=>iN (pc x)):=by
 refine fG Tryz.func230 λw l=>r0 [] [(2,i6 0)] [] (r0 [] [(3,i6 0)] [] ?_);refine lq (λk=>k≤pc x∧(pc (bw x k)+k=pc x)) (λk=>[(0,.int .u32 ((bw x k:Nat):Int)),(3,iN k)]) (λ_ L=>L) (λk=>(pc x)-k) 0 ⟨by omega,(Wf (pc x))⟩ Kr Kr (λk ⟨g,d⟩=>?_);have f:=qJ x k;have j:=vJ x;refine r0 [] [(5,.bool (((bw x k:Nat):Int) != 0))] [] ?_;refine lU ((bw x k:Nat):Int) 0 (λe c=>?_) λe c=>?_
 ·refine r0 [(2,.t (tv (av .sub 329 (.tmp 7) (.const (.int .u32 1)) (.int .u32 ((bw x k:Nat):Int)) (.int .u32 1)) (λ_=>Ik (b:=1) Om Om))),(3,.t (tv (av .and 329 (.tmp 6) (.tmp 8) (.int .u32 ((bw x k:Nat):Int)) (.int .u32 ((bw x k-1:Nat):Int))) (λ_=>Ig (a:=bw x k) (b:=bw x k-1) Om Om)))] [(0,.int .u32 ((bw x (k+1):Nat):Int))] [0] (r0 [(1,ad k 1)] [(3,iN (k+1))] [3] ?_);have i:=pv Om d As;exact le (k+1) ⟨by omega,(pv Om d As).1⟩ Om Kr [] Kr
 have h:=w2 d As;obtain rfl:k=pc x:=by omega
 exact lx (r0 [] [(2,iN (pc x))] [2] (lf ab.zero [] [] []))
theorem A5(x:Nat)(m:x<256):aa VB 251 #[u1 (x:Int)] [] [] N0 (λ_=>iN (pc x)):=by
 refine fG Tryz.func251 λw l=>r0 [] [(2,i6 0)] [] (r0 [] [(3,i6 0)] [] ?_);refine lq (λk=>k≤pc x∧(pc (bw x k)+k=pc x)) (λk=>[(0,u1 ((bw x k:Nat):Int)),(3,iN k)]) (λ_ L=>L) (λk=>(pc x)-k) 0 ⟨by omega,(Wf (pc x))⟩ Kr Kr (λk ⟨g,d⟩=>?_);have f:=qJ x k;have j:=vJ x;refine r0 [] [(5,.bool (((bw x k:Nat):Int) != 0))] [] ?_;refine lU ((bw x k:Nat):Int) 0 (λe c=>?_) λe c=>?_
 ·refine r0 [(2,.t (tv (av .sub 5 (.tmp 7) (.const (u1 1)) (u1 ((bw x k:Nat):Int)) (u1 1)) (λ_=>Il (b:=1) Om Om))),(3,.t (tv (av .and 5 (.tmp 6) (.tmp 8) (u1 ((bw x k:Nat):Int)) (u1 ((bw x k-1:Nat):Int))) (λ_=>Ih (a:=bw x k) (b:=bw x k-1) Om Om)))] [(0,u1 ((bw x (k+1):Nat):Int))] [0] (r0 [(1,ad k 1)] [(3,iN (k+1))] [3] ?_);have i:=pv Om d As;exact le (k+1) ⟨by omega,(pv Om d As).1⟩ Om Kr [] Kr
 have h:=w2 d As;obtain rfl:k=pc x:=by omega
 exact lx (r0 [] [(2,iN (pc x))] [2] (lf ab.zero [] [] []))
theorem A6:aa VB 215 #[] [] [] N0 (λ_=>i6 8):=by
 exact fG Tryz.func215 λw a=>r0 [] [(0,i6 0)] [] (r0 [(1,.t (tv (Op.unary .xor (u1 0)) (λ_=>rfl))),(2,.c [] [] (A5 255 Om))] [(0,iN (pc 255))] [0] (ak (iN (pc 255)) ab.zero Kr [] [] []))
theorem IK(x:Nat)(d:x<4294967296):aa VB 199 #[.int .u32 (x:Int)] [] [] N0 (λ_=>iN (pc x%2)):=by
 exact fG Tryz.func199 λw b=>r0 [] [(2,i6 0)] [] (r0 [(1,.c [] [] (IJ x Om)),(2,.t (tv (av .and 3 (.tmp 4) (.const (i6 1)) (iN (pc x)) (i6 1)) (λ_=>AY (a:=pc x))))] [(2,iN (pc x%2))] [2] (lf ab.zero [] [] []))
def on(x k:Nat):Nat:=(fU k 0 x).length
theorem px: ∀(k i x:Nat),fU (k+1) i x=fU k i x++(bif x/2^k%2==1 then[i+k] else[])
 | 0,i,x=>by
  show(if x%2=1 then i::fU 0 (i+1) (x/2) else fU 0 (i+1) (x/2))=[]++_;rw[WS,W7];by_cases h:x%2=1
  ·rw[ALifp h,h];rfl
  ·rw[ALifn h,show(x%2==1)=false from beq_false_of_ne h];rfl
 | k+1,i,x=>by
  have e:=px k (i+1) (x/2);rw[V2,Nat.mul_comm,←WT,show i+1+k=i+(k+1) by omega] at e;show(if x%2=1 then i::fU (k+1) (i+1) (x/2) else fU (k+1) (i+1) (x/2))=(if x%2=1 then i::fU k (i+1) (x/2) else fU k (i+1) (x/2))++_;rw[e];by_cases h:x%2=1
  ·rw[ALifp h,ALifp h];rfl
  ·rw[ALifn h,ALifn h]
theorem A7(x k:Nat): ∀d,∃t,fU (k+d) 0 x=fU k 0 x++t
 | 0=>⟨[],(VD _).symm⟩
 | d+1=>by
  obtain⟨t,h⟩:=A7 x k d;exact⟨_,by rw[show k+(d+1)=k+d+1 from rfl,px,h,Wh]⟩
theorem IL{x k:Nat}(h:(((x/2^k%2:Nat):Int)==1)=true):on x (k+1)=on x k+1:=by
 have a:x/2^k%2=1:=by have:=eq_of_beq h;omega
 unfold on;rw[px,a,VE];rfl
theorem IM{x k:Nat}(h:(((x/2^k%2:Nat):Int)==1)=false):on x (k+1)=on x k:=by
 have a:(x/2^k%2==1)=false:=by have:=ne_of_beq_false h;exact beq_false_of_ne Om
 unfold on;rw[px,a,VE];rfl
theorem IN{x k:Nat}(c:k<64)(h:(((x/2^k%2:Nat):Int)==1)=true):(bC x)[on x k]? =some k:=by
 have b:x/2^k%2=1:=by have:=eq_of_beq h;omega
 obtain⟨t,e⟩:=A7 x (k+1) (64-(k+1));have a:=px k 0 x;rw[b] at a;rw[show k+1+(64-(k+1))=64 by omega,a,Wh] at e;show(fU 64 0 x)[(fU k 0 x).length]? =_;rw[e,VO (VS _),Wz];show some (0+k)=_;rw[VV]
theorem IP{x k:Nat}(e:k≤64)(c:((x/2^k:Nat):Int)=0):on x k=(bC x).length:=by
 have h:x/2^k=0:=Int.ofNat.inj c;have b: ∀d,fU (k+d) 0 x=fU k 0 x:=by
  intro d
  induction d with
  | zero=>rfl
  | succ d ih=>
   rw[show k+(d+1)=k+d+1 from rfl,px,ih,Nat.pow_add,←V2,h,Nat.zero_div];exact VD _
 have a:=b (64-k);rw[show k+(64-k)=64 by omega] at a;exact ALca Xq a.symm
theorem A8{x:Nat}(k:Nat):x/2^(k+1)=x/2^k/2^1:=by rw[WT,←V2]
theorem w3{x k:Nat}(b:x<18446744073709551616)(a:k≤64)(h:((x/2^k:Nat):Int)≠0):k<64:=by
 refine Nat.lt_of_le_of_ne a λe=>?_;subst e;exact h (by have:x/2^64=0:=Nat.div_eq_of_lt b;omega)
theorem A9(g x:Nat)(h:x<18446744073709551616):pa 5 VB 172 #[pt g 0] (λ(i:Nat)=>#[iN i]) (bC x) (V6 []) [(g,.cells #[u6 (x:Int)] 44 (0,0))]:=by
 refine gG (KO:=[]) Tryz.func172 (λw z y D B n u r=>?_);refine r0 [] [(3,i6 0)] [] ?_;refine jD (λk=>k≤64) (λk=>[(3,iN k)]) (λk L=>L.set 0 (ob g #[u6 ((x/2^k:Nat):Int)] 44)) (λk=>64-k) (λk=>on x k) 0 Om r Kr (by rw[WS,W7];kernel_rfl) (λk A C v a=>?_);have c:x/2^k<18446744073709551616:=Wu (Nat.div_le_self _ _) h;refine r0 [(0,.l 0)] [(5,.bool (((x/2^k:Nat):Int) != 0))] [] ?_;refine lU ((x/2^k:Nat):Int) 0 (λq j=>?_) λq j=>?_
 ·cases f:(((x/2^k%2:Nat):Int)==1)
  case true=>
   have m:=eq_of_beq f;refine iy n u a 6 (λ_=>[(0,.l 0),(1,.t (tv (av .and 44 (.tmp 8) (.const (u6 1)) (u6 ((x/2^k:Nat):Int)) (u6 1)) (λ_=>AX c))),(2,.t (tk (show Value.bool (((x/2^k%2:Nat):Int)==1)= .bool true from ALca Value.bool f)))]) (λ_=>[(11,.bool true),(12,.func (.yield w) #[] #[]),(13,iN k)]) [] (λ_ L=>L) (λ_=>[ob g #[u6 ((x/2^k:Nat):Int)] 44]) [0] (IN (w3 h Om As) As) (λF o p b=>?_);refine cF _ rfl (rs [(0,.l 0),(1,.t (tv (av .shr 44 (.tmp 17) (.const (u6 1)) (u6 ((x/2^k:Nat):Int)) (u6 1)) (λ_=>sX 1 Dc))),(2,.s 0)] 0 (ob g #[u6 ((x/2^k/2^1:Nat):Int)] 44) (r0 [(1,ad k 1)] [(3,iN (k+1))] [3] ?_));have e:=w3 h Om As;exact ij (k+1) Om (by(rw[IL As]);exact b) Om Kr [0] (by rw[A8 (x:=x) k];kernel_rfl)
  have m:=ne_of_beq_false f;refine rF [(0,.l 0),(1,.t (tv (av .and 44 (.tmp 8) (.const (u6 1)) (u6 ((x/2^k:Nat):Int)) (u6 1)) (λ_=>AX c))),(2,.t (tk (show Value.bool (((x/2^k%2:Nat):Int)==1)= .bool false from ALca Value.bool f))),(4,.d),(5,.d),(6,.d),(7,.d)] 16 (rs [(0,.l 0),(1,.t (tv (av .shr 44 (.tmp 17) (.const (u6 1)) (u6 ((x/2^k:Nat):Int)) (u6 1)) (λ_=>sX 1 Dc))),(2,.s 0)] 0 (ob g #[u6 ((x/2^k/2^1:Nat):Int)] 44) (r0 [(1,ad k 1)] [(3,iN (k+1))] [3] ?_));have e:=w3 h Om As;exact ij (k+1) Om (by(rw[IM As]);exact a) Om Kr [0] (by rw[A8 (x:=x) k];kernel_rfl)
 refine jE ?_;exact ku n a (by exact IP Om As) [ob g #[u6 ((x/2^k:Nat):Int)] 44] [0]
theorem Ba(x:Nat):aa VB 132 #[u6 (x:Int)] [] [] (λE=>[ob (E.y 0) #[u6 (x:Int)] 44]) (λE=> .func (.func 172) #[] #[pt ((E.y 0)) 0]):=by
 exact fG Tryz.func132 λw b=>ra (λa=>[(1,pt (B0 a) 0),(2,.nilFunc)]) (λa=>[ob (B0 a) #[u6 (x:Int)] 44]) λa=>r0 [] [(2,.func (.func 172) #[] #[pt (B0 a) 0])] [2] (lf (.l [(a 0).y 0] [] []) [0] [] [])
end
section
open Go Go.Shelf Go.RowKit
attribute [local irreducible] pc
def ch(k:Nat):Nat→List Nat
 | 0=>[]
 | j+1=>ch k j++(bif ((pc j:Nat):Int)==((k:Nat):Int) then[j] else[])
theorem Bb{k j:Nat}(h:(((pc j:Nat):Int)==((k:Nat):Int))=true):(ch k (j+1)).length=(ch k j).length+1:=by
 show(ch k j++_).length=_;rw[h,VE];rfl
theorem Bc{k j:Nat}(h:(((pc j:Nat):Int)==((k:Nat):Int))=false):(ch k (j+1)).length=(ch k j).length:=by
 show(ch k j++_).length=_;rw[h,VE];rfl
theorem Bd(k j:Nat): ∀d,∃t,ch k (j+d)=ch k j++t
 | 0=>⟨[],(VD _).symm⟩
 | d+1=>by
  obtain⟨t,h⟩:=Bd k j d;exact⟨_,by show ch k (j+d)++_=_;rw[h,Wh]⟩
theorem Be{k j n:Nat}(a:j<n)(h:(((pc j:Nat):Int)==((k:Nat):Int))=true):(ch k n)[(ch k j).length]? =some j:=by
 obtain⟨t,e⟩:=Bd k (j+1) (n-(j+1));rw[show j+1+(n-(j+1))=n by omega,show ch k (j+1)=ch k j++[j] by show ch k j++_=_;rw[h];rfl,Wh] at e;rw[e,VO (VS _),Wz];rfl
theorem Bf{P:Program}{T:TypeId}{x y:Operand}{w:World}:(av .shl T x y (.int .u64 1) (.int .u64 8)).run P w= .ok (.int .u64 256) w:=sY (a:=1) (yk:= .u64) 8 Dc Dc
theorem IQ(g b:Nat):eX 5 VB 214 #[pt g 0,pt b 0] (λ(i:Nat)=>#[u1 ((UInt8.ofNat i).toNat:Int)]) (ch 3 256) (V6 [[(g,.cells #[i6 3] 3 (0,0))],[(b,.cells #[i6 8] 3 (0,0))]]):=by
 refine gi (KO:=[[(g,.cells #[i6 3] 3 (0,0))],[(b,.cells #[i6 8] 3 (0,0))]]) Tryz.func214 (λv y x C A n s r=>?_);refine rF [(0,.l 0),(3,.l 0),(4,.l 1),(8,.l 1),(9,.c [] [] (A6))] 17 (r0 [(0,.l 1),(1,.t (tv (convert 3 201 (i6 8)) (λ_=>mK Tryz.underlying3 Tryz.underlying201 (c:=8) Om))),(2,.t (tv (av .shl 44 (.const (u6 1)) (.tmp 19) (u6 1) (u6 8)) (λ_=>Bf)))] [(20,u6 256),(21,u6 0)] [] ?_);refine jD (λk=>k≤256) (λk=>[(21,u6 (k:Int))]) (λ_ L=>L) (λk=>256-k) (λk=>(ch 3 k).length) 0 Om r Kr Kr (λk z B u f=>?_);refine r0 [] [(22,.bool (decide ((k:Int)<256)))] [] ?_;refine b0 (k:Int) 256 (λq m=>?_) λq m=>?_
 ·refine r0 [] [(4,u6 (k:Int))] [] ?_;cases e:((((pc k):Nat):Int)==3)
  case true=>
   have h:=eq_of_beq e;refine iy n s f 8 (λ_=>[(1,.c [] [] (qK k Om)),(2,.l 0),(3,.t (tk (show Value.bool ((((pc k):Nat):Int)==3)= .bool true from ALca Value.bool e))),(7,.t (tv (convert 44 5 (u6 (k:Int))) (λ_=>sZ Tryz.underlying44 Tryz.underlying5)))]) (λ_=>[(28,.bool true),(29,.func (.yield v) #[] #[]),(31,u1 ((UInt8.ofNat k).toNat:Int))]) [] (λ_ L=>L) N0 [0,1] (Be Om As) (λw o p j=>?_);refine cF _ rfl (r0 [(0,.t (tb (a:=u6 (k:Int)) (b:=u6 1) λ_ _ _ _=>s8 (a:=k) (b:=1) Om))] [(21,u6 ((k+1:Nat):Int))] [21] ?_);exact ij (k+1) Om (by(rw[Bb As]);exact j) Om Kr [0,1] Kr
  have h:=ne_of_beq_false e;refine rF [(1,.c [] [] (qK k Om)),(2,.l 0),(3,.t (tk (show Value.bool ((((pc k):Nat):Int)==3)= .bool false from ALca Value.bool e))),(5,.d),(6,.d),(7,.d),(8,.d),(9,.d)] 34 (r0 [(0,.t (tb (a:=u6 (k:Int)) (b:=u6 1) λ_ _ _ _=>s8 (a:=k) (b:=1) Om))] [(21,u6 ((k+1:Nat):Int))] [21] ?_);exact ij (k+1) Om (by(rw[Bc As]);exact f) Om Kr [0,1] Kr
 obtain rfl:k=256:=by omega
 refine jE ?_;exact ku n f Vm [] [0,1]
theorem IS(g b:Nat):eX 5 VB 214 #[pt g 0,pt b 0] (λ(i:Nat)=>#[u1 ((UInt8.ofNat i).toNat:Int)]) (ch 5 256) (V6 [[(g,.cells #[i6 5] 3 (0,0))],[(b,.cells #[i6 8] 3 (0,0))]]):=by
 refine gi (KO:=[[(g,.cells #[i6 5] 3 (0,0))],[(b,.cells #[i6 8] 3 (0,0))]]) Tryz.func214 (λv y x C A n s r=>?_);refine rF [(0,.l 0),(3,.l 0),(4,.l 1),(8,.l 1),(9,.c [] [] (A6))] 17 (r0 [(0,.l 1),(1,.t (tv (convert 3 201 (i6 8)) (λ_=>mK Tryz.underlying3 Tryz.underlying201 (c:=8) Om))),(2,.t (tv (av .shl 44 (.const (u6 1)) (.tmp 19) (u6 1) (u6 8)) (λ_=>Bf)))] [(20,u6 256),(21,u6 0)] [] ?_);refine jD (λk=>k≤256) (λk=>[(21,u6 (k:Int))]) (λ_ L=>L) (λk=>256-k) (λk=>(ch 5 k).length) 0 Om r Kr Kr (λk z B u f=>?_);refine r0 [] [(22,.bool (decide ((k:Int)<256)))] [] ?_;refine b0 (k:Int) 256 (λq m=>?_) λq m=>?_
 ·refine r0 [] [(4,u6 (k:Int))] [] ?_;cases e:((((pc k):Nat):Int)==5)
  case true=>
   have h:=eq_of_beq e;refine iy n s f 8 (λ_=>[(1,.c [] [] (qK k Om)),(2,.l 0),(3,.t (tk (show Value.bool ((((pc k):Nat):Int)==5)= .bool true from ALca Value.bool e))),(7,.t (tv (convert 44 5 (u6 (k:Int))) (λ_=>sZ Tryz.underlying44 Tryz.underlying5)))]) (λ_=>[(28,.bool true),(29,.func (.yield v) #[] #[]),(31,u1 ((UInt8.ofNat k).toNat:Int))]) [] (λ_ L=>L) N0 [0,1] (Be Om As) (λw o p j=>?_);refine cF _ rfl (r0 [(0,.t (tb (a:=u6 (k:Int)) (b:=u6 1) λ_ _ _ _=>s8 (a:=k) (b:=1) Om))] [(21,u6 ((k+1:Nat):Int))] [21] ?_);exact ij (k+1) Om (by(rw[Bb As]);exact j) Om Kr [0,1] Kr
  have h:=ne_of_beq_false e;refine rF [(1,.c [] [] (qK k Om)),(2,.l 0),(3,.t (tk (show Value.bool ((((pc k):Nat):Int)==5)= .bool false from ALca Value.bool e))),(5,.d),(6,.d),(7,.d),(8,.d),(9,.d)] 34 (r0 [(0,.t (tb (a:=u6 (k:Int)) (b:=u6 1) λ_ _ _ _=>s8 (a:=k) (b:=1) Om))] [(21,u6 ((k+1:Nat):Int))] [21] ?_);exact ij (k+1) Om (by(rw[Bc As]);exact f) Om Kr [0,1] Kr
 obtain rfl:k=256:=by omega
 refine jE ?_;exact ku n f Vm [] [0,1]
theorem Bg(n k:Int):aa VB 180 #[i6 n,i6 k] [] [] (λE=>[ob (E.y 0) #[i6 k] 3,ob (E.y 1) #[i6 n] 3]) (λE=> .func (.func 214) #[] #[pt ((E.y 0)) 0,pt ((E.y 1)) 0]):=by
 exact fG Tryz.func180 λw b=>ra (λa=>[(2,pt (B0 a) 0),(3,pt (B1 a) 0),(4,.nilFunc)]) (λa=>[ob (B0 a) #[i6 n] 3,ob (B1 a) #[i6 k] 3]) λa=>r0 [] [(4,.func (.func 214) #[] #[pt (B1 a) 0,pt (B0 a) 0])] [4] (lf (.l [(a 1).y 0,(a 0).y 0] [] []) [1,0] [] [])
end
end E
def xt(a:Nat):Nat:=(a*2)^^^(if a.testBit 7 then 285 else 0)
def tL:List Nat:=[1,2,4,8,16,32,64,128,29,58,116,232,205,135,19,38,76,152,45,90,180,117,234,201,143,3,6,12,24,48,96,192,157,39,78,156,37,74,148,53,106,212,181,119,238,193,159,35,70,140,5,10,20,40,80,160,93,186,105,210,185,111,222,161,95,190,97,194,153,47,94,188,101,202,137,15,30,60,120,240,253,231,211,187,107,214,177,127,254,225,223,163,91,182,113,226,217,175,67,134,17,34,68,136,13,26,52,104,208,189,103,206,129,31,62,124,248,237,199,147,59,118,236,197,151,51,102,204,133,23,46,92,184,109,218,169,79,158,33,66,132,21,42,84,168,77,154,41,82,164,85,170,73,146,57,114,228,213,183,115,230,209,191,99,198,145,63,126,252,229,215,179,123,246,241,255,227,219,171,75,150,49,98,196,149,55,110,220,165,87,174,65,130,25,50,100,200,141,7,14,28,56,112,224,221,167,83,166,81,162,89,178,121,242,249,239,195,155,43,86,172,69,138,9,18,36,72,144,61,122,244,245,247,243,251,235,203,139,11,22,44,88,176,125,250,233,207,131,27,54,108,216,173,71,142]
def aV:List Nat:=[0,0,1,25,2,50,26,198,3,223,51,238,27,104,199,75,4,100,224,14,52,141,239,129,28,193,105,248,200,8,76,113,5,138,101,47,225,36,15,33,53,147,142,218,240,18,130,69,29,181,194,125,106,39,249,185,201,154,9,120,77,228,114,166,6,191,139,98,102,221,48,253,226,152,37,179,16,145,34,136,54,208,148,206,143,150,219,189,241,210,19,92,131,56,70,64,30,66,182,163,195,72,126,110,107,58,40,84,250,133,186,61,202,94,155,159,10,21,121,43,78,212,229,172,115,243,167,87,7,112,192,247,140,128,99,13,103,74,222,237,49,197,254,24,227,165,153,119,38,184,180,124,17,68,146,217,35,32,137,46,55,63,209,91,149,188,207,205,144,135,151,178,220,252,190,97,242,86,211,171,20,42,93,158,132,60,57,83,71,109,65,162,31,45,67,216,183,123,164,118,196,23,73,236,127,12,111,246,108,161,59,82,41,157,85,170,251,96,134,177,187,204,62,90,203,89,95,176,156,169,160,81,11,245,22,235,122,117,44,215,79,174,213,233,230,231,173,232,116,214,244,234,168,80,88,175]
def gE(i:Nat):Nat:=tL.getD i 0
def gL(a:Nat):Nat:=aV.getD a 0
theorem w4: ∀a,a<256→a≠0→gE (gL a)=a:=by decide+kernel
theorem Bh: ∀i,i<255→gL (gE i)=i:=by decide+kernel
theorem tM: ∀i,i<255→0<gE i∧gE i<256:=by decide+kernel
theorem qL: ∀i,i<256→gL i<255:=by decide+kernel
theorem IT: ∀i,i<255→xt (gE i)=gE ((i+1)%255):=by decide+kernel
theorem IU:tL.length=255:=by decide+kernel
def dc(a b:Nat):Nat:=if a=0∨b=0 then 0 else gE ((gL a+gL b)%255)
theorem IV(a b:Nat):(a^^^b)*2=(a*2)^^^(b*2):=by
 have h:=@Nat.shiftLeft_xor_distrib 1 a b;simpa [Nat.shiftLeft_eq] using h
theorem IW(a b i k:Nat):(if(a^^^b).testBit i then k else 0)=(if a.testBit i then k else 0)^^^(if b.testBit i then k else 0):=by
 rw[Nat.testBit_xor];cases a.testBit i<;>cases b.testBit i<;>simp
theorem IX(a b c d:Nat):(a^^^b)^^^(c^^^d)=(a^^^c)^^^(b^^^d):=by
 ac_rfl
theorem IY(a b:Nat):xt (a^^^b)=xt a^^^xt b:=by
 unfold xt;rw[IV,IW,IX]
theorem IZ:xt 0=0:=by decide
theorem I0(a b:Nat):dc a b<256:=by
 unfold dc
 split
 ·omega
 ·exact(tM _ (V5 _ Om)).2
theorem I1(a b:Nat):dc a b=dc b a:=by
 unfold dc;rw[Nat.add_comm (gL a)];simp only[or_comm]
theorem tN(a:Nat):dc a 0=0:=by simp [dc]
theorem tO(a:Nat):dc 0 a=0:=by simp [dc]
theorem qM(i b:Nat)(a:i<255)(c:b≠0):dc (gE i) b=gE ((i+gL b)%255):=by
 have h:=tM i a;unfold dc;rw[ALifn Om,Bh i a]
theorem w5(a b:Nat)(c:a≠0)(d:b≠0):dc a b≠0:=by
 unfold dc;rw[ALifn Om];have:=(tM ((gL a+gL b)%255) (V5 _ Om)).1;omega
theorem Bi(a b:Nat)(c:a≠0)(d:b≠0):gL (dc a b)=(gL a+gL b)%255:=by
 unfold dc;rw[ALifn Om,Bh _ (V5 _ Om)]
theorem I2(a b c:Nat):dc (dc a b) c=dc a (dc b c):=by
 by_cases e:a=0
 ·subst e;simp [tO]
 by_cases d:b=0
 ·subst d;simp [tO,tN]
 by_cases f:c=0
 ·subst f;simp [tN]
 have i:=w5 a b e d;have j:=w5 b c d f;have g:dc (dc a b) c=gE ((gL (dc a b)+gL c)%255):=by rw[dc,ALifn Om]
 have h:dc a (dc b c)=gE ((gL a+gL (dc b c))%255):=by rw[dc,ALifn Om]
 rw[g,h,Bi a b e d,Bi b c d f]
 congr 1
 omega
theorem w6(i b:Nat)(c:i+1<255):dc (gE (i+1)) b=xt (dc (gE i) b):=by
 by_cases a:b=0
 ·subst a;simp [tN,IZ]
 ·rw[qM _ _ c a,qM _ _ Om a,IT _ (V5 _ Om)]
  congr 1
  omega
theorem Bj:gE 0=1:=by decide
theorem tQ(b:Nat)(a:b<256):dc 1 b=b:=by
 by_cases h:b=0
 ·subst h;rfl
 ·have:=qL b a;rw[←Bj,qM 0 b Om h,VV,VN this,w4 b a h]
theorem I3(i:Nat):i<255→∀b c,b<256→c<256→dc (gE i) (b^^^c)=dc (gE i) b^^^dc (gE i) c:=by
 induction i with
 | zero=>
  intro _ b c a d;have f:b^^^c<256:=Nat.xor_lt_two_pow (n:=8) a d;rw[Bj,tQ _ f,tQ _ a,tQ _ d]
 | succ i ih=>
  intro e b c a d;rw[w6 _ _ e,w6 _ _ e,w6 _ _ e,ih Om b c a d,IY]
theorem I4(a b c:Nat)(d:a<256)(e:b<256)(f:c<256):dc a (b^^^c)=dc a b^^^dc a c:=by
 by_cases h:a=0
 ·subst h;simp [tO]
 ·have:=qL a d;rw[←w4 a d h];exact I3 _ this b c e f
def Vs(b i k:Nat):Nat:=if b/2^i%2=1 then k else 0
theorem Vk(b i k:Nat)(a:k<256):Vs b i k<256:=by unfold Vs;split<;>omega
def mU(x y:Nat):Nat:=if x=0 then 0 else gE ((gL x+255-gL y)%255)
theorem Bl(x y:Nat):mU x y<256:=by
 unfold mU;split
 ·omega
 ·exact(tM _ (V5 _ Om)).2
theorem Bm(x y:Nat)(lx:x<256)(ly:y<256)(a:y≠0):dc (mU x y) y=x:=by
 unfold mU;split
 ·rename_i h;rw[h,tO]
 ·rename_i h;have b:=qL x lx;have c:=qL y ly;rw[qM _ _ (V5 _ Om) a,show((gL x+255-gL y)%255+gL y)%255=gL x from by omega,w4 x lx h]
def gm(a b:UInt8):UInt8:=UInt8.ofNat (dc a.toNat b.toNat)
theorem kv(a b:UInt8):(gm a b).toNat=dc a.toNat b.toNat:=by
 unfold gm;rw[Wc];exact VN (I0 _ _)
theorem k5(a b:UInt8):gm a b=gm b a:=by unfold gm;rw[I1]
theorem Bn(a b c:UInt8):gm (gm a b) c=gm a (gm b c):=by
 apply UInt8.toNat_inj.1;rw[kv,kv,kv,kv,I2]
theorem Bo(a b c:UInt8):gm a (b^^^c)=gm a b^^^gm a c:=by
 apply UInt8.toNat_inj.1;rw[kv,Xe,Xe,kv,kv,I4 _ _ _ a.toNat_lt b.toNat_lt c.toNat_lt]
theorem Bp(a b c:UInt8):gm (b^^^c) a=gm b a^^^gm c a:=by rw[k5,Bo,k5 a b,k5 a c]
theorem nB(a:UInt8):gm a 0=0:=by unfold gm;rw[UInt8.toNat_zero,tN];rfl
theorem lW(a:UInt8):gm 0 a=0:=by rw[k5,nB]
theorem I5(a:UInt8):gm 1 a=a:=by
 apply UInt8.toNat_inj.1;rw[kv,show(1:UInt8).toNat=1 from rfl,tQ _ a.toNat_lt]
theorem Bq(a:UInt8):gm a 1=a:=by rw[k5,I5]
theorem Br(a b:UInt8)(d:a≠0)(f:b≠0):gm a b≠0:=by
 intro h;have c:=ALca UInt8.toNat h;rw[kv] at c;exact w5 _ _ (λe=>d (UInt8.toNat_inj.1 e)) (λe=>f (UInt8.toNat_inj.1 e)) c
theorem x4(a b c d:UInt8):(a^^^b)^^^(c^^^d)=(a^^^c)^^^(b^^^d):=by ac_rfl
namespace E
section
open Go Go.Shelf Go.RowKit
def aO:List UInt8:=tL.map UInt8.ofNat
def dx(n:Int):Nat:=(n%255).toNat
theorem w7(n:Int):dx n<255:=by unfold dx;omega
theorem I6{P:Program}{T:TypeId}{x y:Operand}{w:World}{a:Int}(h0: -9223372036854775808≤a)(h1:a≤9223372036854775807):(av .rem T x y (.int .i64 a) (.int .i64 255)).run P w= .ok (.int .i64 (a.tmod 255)) w:=rfl
theorem I7(n:Int):(bif decide (n.tmod 255<0) then n.tmod 255+255 else n.tmod 255)=((dx n:Nat):Int):=by
 have h:=Int.tmod_eq_emod (a:=n) (b:=255);unfold dx;by_cases c:n.tmod 255<0
 ·rw[cx c,ALct];split at h<;>omega
 ·rw[bh c,ALcf];split at h<;>omega
def tw(a:UInt8):UInt8:=UInt8.ofNat (xt a.toNat)
theorem Bs: ∀n,n<256→(bif (((UInt8.ofNat n&&& 128).toNat:Int) != 0) then(UInt8.ofNat (n*2^1)^^^29) else UInt8.ofNat (n*2^1))=UInt8.ofNat (xt n):=by decide+kernel
theorem I8{a:UInt8}(h:(((a&&& 128).toNat:Int) != 0)=true):Value.int .u8 ((UInt8.ofNat (a.toNat*2^1)^^^29).toNat:Int)= .int .u8 ((tw a).toNat:Int):=by
 have b:=Bs a.toNat a.toNat_lt;rw[W8,h] at b;exact ALca (λz:UInt8=>Value.int .u8 (z.toNat:Int)) b
theorem I9{a:UInt8}(h:(((a&&& 128).toNat:Int) != 0)=false):Value.int .u8 ((UInt8.ofNat (a.toNat*2^1)).toNat:Int)= .int .u8 ((tw a).toNat:Int):=by
 have b:=Bs a.toNat a.toNat_lt;rw[W8,h] at b;exact ALca (λz:UInt8=>Value.int .u8 (z.toNat:Int)) b
theorem Ja(a:UInt8):aa VB 184 #[u1 (a.toNat:Int)] [] [] N0 (λ_=>u1 ((tw a).toNat:Int)):=by
 refine fG Tryz.func184 λw d=>r0 [] [(2,u1 0)] [] (r0 [(1,.t (tb (a:=u1 (a.toNat:Int)) (b:=u1 128) λ_ _ _ _=>wb (a) ((128:UInt8))))] [(5,.bool (((a&&& (128:UInt8)).toNat:Int) != 0))] [] ?_);refine cB (((a&&& (128:UInt8)).toNat:Int) != 0) (λc=>?_) λc=>?_
 ·exact r0 [(1,.t (tv (av .shl 5 (.tmp 6) (.const (u6 1)) (u1 (a.toNat:Int)) (u6 1)) (λ_=>tJ 1 Dc))),(2,.t (tb (a:=u1 ((UInt8.ofNat (a.toNat*2^1)).toNat:Int)) (b:=u1 29) λ_ _ _ _=>kT ((UInt8.ofNat (a.toNat*2^1))) ((29:UInt8))))] [(2,u1 (((UInt8.ofNat (a.toNat*2^1))^^^(29:UInt8)).toNat:Int))] [2] (ak (u1 (((UInt8.ofNat (a.toNat*2^1))^^^(29:UInt8)).toNat:Int)) ab.zero (by exact I8 As) [] [] [])
 exact r0 [(1,.t (tv (av .shl 5 (.tmp 9) (.const (u6 1)) (u1 (a.toNat:Int)) (u6 1)) (λ_=>tJ 1 Dc)))] [(2,u1 ((UInt8.ofNat (a.toNat*2^1)).toNat:Int))] [2] (ak (u1 ((UInt8.ofNat (a.toNat*2^1)).toNat:Int)) ab.zero (by exact I9 As) [] [] [])
theorem Jc(n:Int)(h0: -9223372036854775808≤n)(h1:n≤9223372036854775807):aa VB 218 #[i6 n] [] [] N0 (λ_=>iN (dx n)):=by
 have f:=Int.tmod_lt_of_pos n (show(0:Int)<255 by omega);have d:=Int.lt_tmod_of_pos n (show(0:Int)<255 by omega);refine fG Tryz.func218 λw e=>r0 [] [(2,i6 0)] [] (r0 [(1,.t (tv (av .rem 3 (.tmp 3) (.const (i6 255)) (i6 n) (i6 255)) (λ_=>I6 h0 h1)))] [(0,i6 (n.tmod 255))] [0] (r0 [] [(6,.bool (decide ((n.tmod 255)<0)))] [] ?_));refine cJ (decide ((n.tmod 255)<0)) (λc=>[(0,i6 (bif c then((n.tmod 255)+255) else(n.tmod 255)))]) N0 (λb=>?_) (λb=>?_) ?_
 ·have a:=of_decide_eq_true b;refine r0 [(1,aI (n.tmod 255) (255) Om)] [(0,i6 ((n.tmod 255)+255))] [0] ?_;exact cm Kr [] Kr
 ·have a:=of_decide_eq_false b;exact cm Kr [] Kr
 exact r0 [] [(2,i6 (bif decide ((n.tmod 255)<0) then((n.tmod 255)+255) else(n.tmod 255)))] [2] (ak (i6 (bif decide ((n.tmod 255)<0) then((n.tmod 255)+255) else(n.tmod 255))) ab.zero (by exact ALca (Value.int .i64) (I7 n)) [] [] [])
def fK:Nat→UInt8
 | 0=>1
 | k+1=>tw (fK k)
def gS:Nat→List UInt8
 | 0=>VA 255 0
 | k+1=>(gS k).set k (fK k)
def gT:Nat→List Nat
 | 0=>VA 256 0
 | k+1=>(gT k).set (fK k).toNat k
theorem Bt: ∀k,(gS k).length=255
 | 0=>VH ..
 | k+1=>by rw[gS,VK];exact Bt k
theorem Bu: ∀k,(gT k).length=256
 | 0=>VH ..
 | k+1=>by rw[gT,VK];exact Bu k
theorem Jd:gS 255=aO:=by decide+kernel
theorem Je:gT 255=aV:=by decide+kernel
theorem Jf(k:Nat):(fK k).toNat<256:=(fK k).toNat_lt
attribute [local irreducible] aO aV gS gT fK
theorem Jg:aa VB 142 #[] [] [] (λE=>[ob (E.y 0) (rB 255 aO++rN 256 aV).toArray 312]) (λE=>pt ((E.y 0)) 0):=by
 refine fG Tryz.func142 λw f=>r0 [] [(0,.pointer none)] [] (ra (λa=>[(1,pt (B1 a) 0)]) (λa=>[ob (B1 a) (rB 255 (VA 255 0)++rN 256 (VA 256 0)).toArray 312]) λa=>r0 [] [(2,u1 1)] [] (r0 [] [(6,i6 0)] [] ?_));refine lq (λk=>k≤255) (λk=>[(2,u1 ((fK k).toNat:Int)),(6,iN k)]) (λk L=>L.set 0 (ob (B1 a) (rB 255 (gS k)++rN 256 (gT k)).toArray 312)) (λk=>255-k) 0 Om Kr (by rw[show gS 0=VA 255 0 by unfold gS;rfl,show gT 0=VA 256 0 by unfold gT;rfl];kernel_rfl) (λk e=>?_);have g:=Jf k;refine r0 [] [(7,.bool (decide ((k:Int)<255)))] [] ?_;refine b0 (k:Int) 255 (λd b=>?_) λd b=>?_
 ·exact r0 [] [(3,iN k)] [] (rs [(5,iA 310 .i64 (B1 a) 0 255 1 k),(6,wM (A:=[]) (C:=(rN 256 (gT k):List Value)) 0 (B1 a) k 312 (u1 ((fK k).toNat:Int)) (rB 255 (gS k)++rN 256 (gT k)) (rB 255 ((gS k).set k (fK k))++rN 256 (gT k)) rfl rfl rfl (jk Om) (lP (Bt ..)))] 0 (ob (B1 a) (rB 255 ((gS k).set k (fK k))++rN 256 (gT k)).toArray 312) (rs [(5,iA 296 .u8 (B1 a) 255 256 1 ((fK k).toNat)),(6,wM (A:=(rB 255 ((gS k).set k (fK k)):List Value)) (C:=[]) 0 (B1 a) ((fK k).toNat) 312 (iN k) (rB 255 ((gS k).set k (fK k))++rN 256 (gT k)) (rB 255 ((gS k).set k (fK k))++rN 256 ((gT k).set ((fK k).toNat) k)) (by rw[VD]) (by rw[VD]) jZ (jk Om) (GX (Bu ..)))] 0 (ob (B1 a) (rB 255 ((gS k).set k (fK k))++rN 256 ((gT k).set ((fK k).toNat) k)).toArray 312) (r0 [(1,.c [] [] (Ja (fK k)))] [(2,u1 ((tw (fK k)).toNat:Int))] [2] (r0 [(0,ad k 1)] [(6,iN (k+1))] [6] (le (k+1) Om Om Kr [0] (by rw[show gS (k+1)=(gS k).set k (fK k) by rw[gS],show gT (k+1)=(gT k).set (fK k).toNat k by rw[gT]];kernel_rfl))))))
 obtain rfl:k=255:=by omega
 exact cl [ob (B1 a) (rB 255 aO++rN 256 aV).toArray 312] (by rw[Jd,Je];kernel_rfl) (lx (r0 [] [(0,pt (B1 a) 0)] [0] (lf (.l [(a 1).y 0] [] []) [0] [] [])))
theorem tS(g:Nat)(n:Int)(h0: -9223372036854775808≤n)(h1:n≤9223372036854775807):aa VB 182 #[pt g 0,i6 n] [ob g (rB 255 aO++rN 256 aV).toArray 312] [] N0 (λ_=>u1 ((aO.getD (dx n) 0).toNat:Int)):=by
 have b:=w7 n;exact fG Tryz.func182 λw a=>r0 [] [(4,u1 0)] [] (r0 [(2,.c [] [] (Jc n Om Om)),(5,iA 310 .i64 g 0 255 1 (dx n)),(6,rM (A:=[]) (C:=(rN 256 aV:List Value)) 0 g (dx n) 312 (rB 255 aO++rN 256 aV) rfl rfl (nt Om))] [(4,u1 ((aO.getD (dx n) 0).toNat:Int))] [4] (lf ab.zero [] [(0,0)] []))
theorem py(a:UInt8):aV.getD a.toNat 0<255:=qL a.toNat a.toNat_lt
theorem Bv{m:Nat}(h:m<255):aO.getD m 0=UInt8.ofNat (gE m):=by
 unfold aO gE;rw[VJ,VJ,Ww];have a:m<tL.length:=by rw[IU];exact h
 rw[VU a];rfl
theorem Bw{a:UInt8}(h:((a.toNat:Int)==0)=false):a.toNat≠0:=by have:=ne_of_beq_false h;omega
theorem tT{a:UInt8}(h:((a.toNat:Int)==0)=true):a=0:=by
 have b:=eq_of_beq h;exact UInt8.toNat_inj.1 (by show a.toNat=0;omega)
theorem Jh{a b:UInt8}(h:(((a.toNat:Int)==0)||((b.toNat:Int)==0))=true):Value.int .u8 0= .int .u8 ((gm a b).toNat:Int):=by
 rcases WD _ _▸h with c | c
 ·rw[tT c,lW];rfl
 ·rw[tT c,nB];rfl
theorem Ji{a b:UInt8}(h:(((a.toNat:Int)==0)||((b.toNat:Int)==0))=false):Value.int .u8 ((aO.getD (dx (((aV.getD a.toNat 0+aV.getD b.toNat 0:Nat)):Int)) 0).toNat:Int)= .int .u8 ((gm a b).toNat:Int):=by
 rw[WU] at h;have c:=Bw h.1;have d:=Bw h.2;rw[Bv (w7 _)];unfold gm dc;rw[ALifn Om,show dx (((aV.getD a.toNat 0+aV.getD b.toNat 0:Nat)):Int)=(gL a.toNat+gL b.toNat)%255 by unfold dx gL;omega]
theorem pz(g:Nat)(a b:UInt8):aa VB 217 #[pt g 0,u1 (a.toNat:Int),u1 (b.toNat:Int)] [ob g (rB 255 aO++rN 256 aV).toArray 312] [] N0 (λ_=>u1 ((gm a b).toNat:Int)):=by
 have i:=a.toNat_lt;have j:=b.toNat_lt;have e:=py a;have f:=py b;refine fG Tryz.func217 λw h=>r0 [] [(6,u1 0)] [] (r0 [] [(12,.bool (((a.toNat:Int)==0)||((b.toNat:Int)==0)))] [] ?_);refine cB (((a.toNat:Int)==0)||((b.toNat:Int)==0)) (λd=>?_) λd=>?_
 ·exact r0 [] [(6,u1 0)] [6] (ak (u1 0) ab.zero (by exact Jh As) [] [(0,0)] [])
 exact r0 [(5,iA 296 .u8 g 255 256 1 a.toNat),(6,rM (A:=(rB 255 aO:List Value)) (C:=[]) 0 g a.toNat 312 (rB 255 aO++rN 256 aV) (by rw[VD]) jZ (qn Om)),(11,iA 296 .u8 g 255 256 1 b.toNat),(12,rM (A:=(rB 255 aO:List Value)) (C:=[]) 0 g b.toNat 312 (rB 255 aO++rN 256 aV) (by rw[VD]) jZ (qn Om)),(13,ad (aV.getD a.toNat 0) (aV.getD b.toNat 0)),(14,.c [0] [] (tS g (((aV.getD a.toNat 0)+(aV.getD b.toNat 0):Nat):Int) Om Om))] [(6,u1 ((aO.getD (dx (((aV.getD a.toNat 0)+(aV.getD b.toNat 0):Nat):Int)) 0).toNat:Int))] [6] (ak (u1 ((aO.getD (dx (((aV.getD a.toNat 0)+(aV.getD b.toNat 0):Nat):Int)) 0).toNat:Int)) ab.zero (by exact Ji As) [] [(0,0)] [])
def bJ(a b:UInt8):UInt8:=(bif (b.toNat:Int)==0 then(0:UInt8) else(bif (a.toNat:Int)==0 then(0:UInt8) else aO.getD (dx (((aV.getD a.toNat 0:Nat):Int)-((aV.getD b.toNat 0:Nat):Int))) 0))
def fC(b:UInt8):Int:=(bif (b.toNat:Int)==0 then 16 else 0)
theorem Bx(g:Nat)(a b:UInt8):aa VB 257 #[pt g 0,u1 (a.toNat:Int),u1 (b.toNat:Int)] [ob g (rB 255 aO++rN 256 aV).toArray 312] [] N0 (λ_=> .tuple #[u1 ((bJ a b).toNat:Int),i6 (fC b)]):=by
 have l:=a.toNat_lt;have m:=b.toNat_lt;have i:=py a;have j:=py b;refine fG Tryz.func257 λw k=>r0 [] [(6,u1 0),(7,i6 0)] [] (r0 [] [(8,.bool ((b.toNat:Int)==0))] [] ?_);refine cO (b.toNat:Int) 0 (λd e=>?_) λd e=>?_
 ·exact r0 [] [(6,u1 0),(7,i6 16)] [6,7] (ak (.tuple #[u1 0,i6 16]) ab.zero (by((try simp only[bJ,fC]);(repeat (first | rw[d] | rw[ALct])))<;>rfl) [] [(0,0)] [])
 refine r0 [] [(11,.bool ((a.toNat:Int)==0))] [] ?_;refine cO (a.toNat:Int) 0 (λh f=>?_) λh f=>?_
 ·exact r0 [] [(6,u1 0),(7,i6 0)] [6,7] (ak (.tuple #[u1 0,i6 0]) ab.zero (by((try simp only[bJ,fC]);(repeat (first | rw[d] | rw[h] | rw[ALct] | rw[ALcf])))<;>rfl) [] [(0,0)] [])
 exact r0 [(5,iA 296 .u8 g 255 256 1 a.toNat),(6,rM (A:=(rB 255 aO:List Value)) (C:=[]) 0 g a.toNat 312 (rB 255 aO++rN 256 aV) (by rw[VD]) jZ (qn Om)),(11,iA 296 .u8 g 255 256 1 b.toNat),(12,rM (A:=(rB 255 aO:List Value)) (C:=[]) 0 g b.toNat 312 (rB 255 aO++rN 256 aV) (by rw[VD]) jZ (qn Om)),(13,sI ((aV.getD a.toNat 0:Nat):Int) (((aV.getD b.toNat 0:Nat):Int)) Om),(14,.c [0] [] (tS g (((aV.getD a.toNat 0:Nat):Int)-((aV.getD b.toNat 0:Nat):Int)) Om Om))] [(6,u1 ((aO.getD (dx (((aV.getD a.toNat 0:Nat):Int)-((aV.getD b.toNat 0:Nat):Int))) 0).toNat:Int)),(7,i6 0)] [6,7] (ak (.tuple #[u1 ((aO.getD (dx (((aV.getD a.toNat 0:Nat):Int)-((aV.getD b.toNat 0:Nat):Int))) 0).toNat:Int),i6 0]) ab.zero (by((try simp only[bJ,fC]);(repeat (first | rw[d] | rw[h] | rw[ALcf])))<;>rfl) [] [(0,0)] [])
theorem Jj(g:Nat)(b:UInt8):aa VB 232 #[pt g 0,u1 (b.toNat:Int)] [ob g (rB 255 aO++rN 256 aV).toArray 312] [] N0 (λ_=> .tuple #[u1 ((bJ (1:UInt8) b).toNat:Int),i6 (fC b)]):=by
 exact fG Tryz.func232 λw a=>r0 [] [(4,u1 0),(5,i6 0)] [] (r0 [(2,.c [0] [] (Bx g (1:UInt8) b))] [(4,u1 ((bJ (1:UInt8) b).toNat:Int)),(5,i6 (fC b))] [4,5] (lf ab.zero [] [(0,0)] []))
def gv(a:UInt8):Nat:=(bif (a.toNat:Int)==0 then 0 else aV.getD a.toNat 0)
def lX(a:UInt8):Int:=(bif (a.toNat:Int)==0 then 16 else 0)
theorem Jk(g:Nat)(a:UInt8):aa VB 274 #[pt g 0,u1 (a.toNat:Int)] [ob g (rB 255 aO++rN 256 aV).toArray 312] [] N0 (λ_=> .tuple #[iN (gv a),i6 (lX a)]):=by
 have e:=a.toNat_lt;refine fG Tryz.func274 λw d=>r0 [] [(4,i6 0),(5,i6 0)] [] (r0 [] [(7,.bool ((a.toNat:Int)==0))] [] ?_);refine cO (a.toNat:Int) 0 (λc b=>?_) λc b=>?_
 ·exact r0 [] [(4,i6 0),(5,i6 16)] [4,5] (ak (.tuple #[i6 0,i6 16]) ab.zero (by((try simp only[gv,lX]);(repeat (first | rw[c] | rw[ALct])))<;>rfl) [] [(0,0)] [])
 exact r0 [(4,iA 296 .u8 g 255 256 1 a.toNat),(5,rM (A:=(rB 255 aO:List Value)) (C:=[]) 0 g a.toNat 312 (rB 255 aO++rN 256 aV) (by rw[VD]) jZ (qn Om))] [(4,iN (aV.getD a.toNat 0)),(5,i6 0)] [4,5] (ak (.tuple #[iN (aV.getD a.toNat 0),i6 0]) ab.zero (by((try simp only[gv,lX]);(repeat (first | rw[c] | rw[ALcf])))<;>rfl) [] [(0,0)] [])
theorem Jl(g:Nat)(a:UInt8)(n:Int):aa VB 181 #[pt g 0,u1 (a.toNat:Int),i6 n] [] [] (λE=>[ob (E.y 0) #[i6 n] 3,ob (E.y 1) #[pt g 0] 239,ob (E.y 2) #[u1 (a.toNat:Int)] 5]) (λE=> .func (.func 216) #[] #[pt ((E.y 0)) 0,pt ((E.y 1)) 0,pt ((E.y 2)) 0]):=by
 exact fG Tryz.func181 λw c=>ra (λb=>[(3,pt (B0 b) 0),(4,pt (B1 b) 0),(5,pt (B2 b) 0),(6,.nilFunc)]) (λb=>[ob (B0 b) #[pt g 0] 239,ob (B1 b) #[u1 (a.toNat:Int)] 5,ob (B2 b) #[i6 n] 3]) λb=>r0 [] [(6,.func (.func 216) #[] #[pt (B2 b) 0,pt (B0 b) 0,pt (B1 b) 0])] [6] (lf (.l [(b 2).y 0,(b 0).y 0,(b 1).y 0] [] []) [2,0,1] [] [])
def j0(a:UInt8):Nat→UInt8
 | 0=>1
 | k+1=>gm (j0 a k) a
theorem Jm(h f e g:Nat)(a:UInt8):eX 5 VB 216 #[pt h 0,pt f 0,pt e 0] (λ(x:Nat×UInt8)=>#[i6 (x.1:Int),u1 (x.2.toNat:Int)]) ((VL 4).map λk=>(k,j0 a k)) (V6 [[(h,.cells #[i6 4] 3 (0,0))],[(f,.cells #[pt g 0] 239 (0,0))],[(e,.cells #[u1 (a.toNat:Int)] 5 (0,0))],[(g,.cells (rB 255 aO++rN 256 aV).toArray 312 (0,0))]]):=by
 refine gi (KO:=[[(h,.cells #[i6 4] 3 (0,0))],[(f,.cells #[pt g 0] 239 (0,0))],[(e,.cells #[u1 (a.toNat:Int)] 5 (0,0))],[(g,.cells (rB 255 aO++rN 256 aV).toArray 312 (0,0))]]) Tryz.func216 (λs v u A y j q p=>?_);refine r0 [] [(5,u1 1)] [] (r0 [(0,.l 0)] [(8,i6 4),(9,i6 0)] [] ?_);refine jD (λk=>k≤4) (λk=>[(5,u1 ((j0 a k).toNat:Int)),(9,iN k)]) (λ_ L=>L) (λk=>4-k) (λk=>k) 0 Om p Kr Kr (λk w z r d=>?_);refine r0 [] [(10,.bool (decide ((k:Int)<4)))] [] ?_;refine b0 (k:Int) 4 (λo i=>?_) λo i=>?_
 ·refine r0 [] [(6,iN k)] [] ?_;refine iy j q d 3 N0 (λ_=>[(12,.func (.yield s) #[] #[]),(13,iN k),(14,u1 ((j0 a k).toNat:Int))]) [] (λ_ L=>L) N0 [0,1,2,3] (oa Om) (λt m n b=>?_);refine cF _ rfl (r0 [(0,.l 1),(2,.l 2),(3,.c [3] [] (pz g (j0 a k) a))] [(5,u1 ((gm (j0 a k) a).toNat:Int))] [5] (r0 [(0,ad k 1)] [(9,iN (k+1))] [9] ?_));exact ij (k+1) Om b Om Kr [0,1,2,3] Kr
 obtain rfl:k=4:=by omega
 refine jE ?_;exact ku j d Vm [] [0,1,2,3]
end
end E
def xs(n:Nat)(f:Nat→UInt8):UInt8:=
 match n with
 | 0=>0
 | n+1=>xs n f^^^f n
theorem By(n:Nat)(f:Nat→UInt8):xs (n+1) f=xs n f^^^f n:=rfl
theorem w8{n:Nat}{f g:Nat→UInt8}(h: ∀i,i<n→f i=g i):xs n f=xs n g:=by
 induction n with
 | zero=>rfl
 | succ n ih=>rw[xs,xs,ih (λi a=>h i Om),h n Om]
theorem ou{n:Nat}{f:Nat→UInt8}(h: ∀i,i<n→f i=0):xs n f=0:=by
 induction n with
 | zero=>rfl
 | succ n ih=>rw[xs,ih (λi a=>h i Om),h n Om,VW]
theorem Jn(n:Nat)(f g:Nat→UInt8):xs n (λi=>f i^^^g i)=xs n f^^^xs n g:=by
 induction n with
 | zero=>exact(Wm (a:=0)).symm
 | succ n ih=>rw[xs,xs,xs,ih,x4]
theorem Jo(n d:Nat)(f:Nat→UInt8)(h: ∀i,n≤i→f i=0):xs (n+d) f=xs n f:=by
 induction d with
 | zero=>rfl
 | succ d ih=>rw[←Xp,xs,ih,h (n+d) Om,VW]
theorem tV{n m:Nat}(a:n≤m)(f:Nat→UInt8)(h: ∀i,n≤i→f i=0):xs m f=xs n f:=by
 have:=Jo n (m-n) f h;rwa [show n+(m-n)=m from by omega] at this
def conv(f g:Nat→UInt8)(n:Nat):UInt8:=xs (n+1) (λi=>gm (f i) (g (n-i)))
theorem Jp{f a g b:Nat→UInt8}{n:Nat}(h: ∀i,i≤n→f i=a i)(c: ∀i,i≤n→g i=b i):conv f g n=conv a b n:=
 w8 (λi d=>by rw[h i Om,c (n-i) Om])
theorem Jq(f g h:Nat→UInt8)(n:Nat):conv (λi=>f i^^^g i) h n=conv f h n^^^conv g h n:=by
 unfold conv
 rw[←Jn];exact w8 (λi _=>Bp _ _ _)
theorem Bz(f g:Nat→UInt8)(M N:Nat)(hf: ∀i,M≤i→f i=0)(a: ∀i,N≤i→g i=0)(n:Nat)(h:M+N≤n+1):conv f g n=0:=by
 refine ou (λi _=>?_);by_cases b:M≤i
 ·rw[hf i b,lW]
 ·rw[a (n-i) Om,nB]
theorem Jr(f g:Nat→UInt8)(M N:Nat)(hf: ∀i,M<i→f i=0)(b: ∀i,N<i→g i=0):conv f g (M+N)=gm (f M) (g N):=by
 unfold conv
 have a:xs (M+N+1) (λi=>gm (f i) (g (M+N-i)))=xs (M+1) (λi=>gm (f i) (g (M+N-i))):=
  tV Om _ (λi c=>by rw[hf i Om,lW])
 rw[a,xs,ou (λi c=>by rw[b (M+N-i) Om,nB]),Wn,show M+N-M=N from by omega]
def pw(x:UInt8):Nat→UInt8
 | 0=>1
 | n+1=>gm (pw x n) x
def ev(f:Nat→UInt8)(N:Nat)(x:UInt8):UInt8:=xs N (λi=>gm (f i) (pw x i))
def co(p:List UInt8)(i:Nat):UInt8:=p.getD i 0
theorem xa{p:List UInt8}{i:Nat}(h:i<p.length):co p i=p[i]:=by simp [co,h]
theorem lY{p:List UInt8}{i:Nat}(h:p.length≤i):co p i=0:=by simp [co,h]
def tl(p:List UInt8):Nat→Nat
 | 0=>0
 | k+1=>if co p k=0 then tl p k else k+1
def a2(p:List UInt8):Nat:=tl p p.length
theorem Js(p:List UInt8)(k:Nat):tl p k≤k:=by
 induction k with
 | zero=>exact VS 0
 | succ k ih=>rw[tl];split<;>omega
theorem Jt(p:List UInt8)(k:Nat): ∀i,tl p k≤i→i<k→co p i=0:=by
 induction k with
 | zero=>intro i _ h;omega
 | succ k ih=>
  intro i a d;rw[tl] at a;by_cases b:co p k=0
  ·rw[ALifp b] at a;by_cases c:i=k
   ·rw[c];exact b
   ·exact ih i a Om
  ·rw[ALifn b] at a;omega
theorem Ju(p:List UInt8)(k:Nat): ∀t,tl p k=t+1→co p t≠0:=by
 induction k with
 | zero=>intro t h;rw[tl] at h;omega
 | succ k ih=>
  intro t h;rw[tl] at h;by_cases a:co p k=0
  ·rw[ALifp a] at h;exact ih t h
  ·rw[ALifn a] at h;obtain rfl:k=t:=by omega
   exact a
theorem qN(p:List UInt8):a2 p≤p.length:=Js p _
theorem j4(p:List UInt8){i:Nat}(h:a2 p≤i):co p i=0:=by
 by_cases a:i<p.length
 ·exact Jt p _ i h a
 ·exact lY Om
theorem ow(p:List UInt8){t:Nat}(h:a2 p=t+1):co p t≠0:=Ju p _ t h
theorem qO{p:List UInt8}{n:Nat}(h0: ∀i,n≤i→co p i=0)(h1:n=0∨co p (n-1)≠0):a2 p=n:=by
 rcases Nat.lt_trichotomy (a2 p) n with h | h | h
 ·rcases h1 with h1 | h1
  ·omega
  ·exact absurd (j4 p (show a2 p≤n-1 by omega)) h1
 ·exact h
 ·have:=ow p (t:=a2 p-1) Om;exact absurd (h0 _ Om) this
theorem BA{p q:List UInt8}(h: ∀i,co p i=co q i):a2 p=a2 q:=by
 refine qO (λi b=>by rw[h];exact j4 q b) ?_;by_cases a:a2 q=0
 ·exact .inl a
 ·exact .inr (by rw[h];exact ow q Om)
theorem Jv{p:List UInt8}{n:Nat}(h0: ∀i,n≤i→co p i=0):a2 p≤n:=by
 apply WA;intro h;exact ow p (t:=a2 p-1) Om (h0 _ Om)
def ay(p:List UInt8):List UInt8:=p.take (a2 p)
theorem lZ(p:List UInt8):(ay p).length=a2 p:=by unfold ay;rw[VP];have:=qN p;omega
theorem nC(p:List UInt8)(i:Nat):co (ay p) i=co p i:=by
 by_cases h:i<a2 p
 ·unfold co ay;rw[VJ,VJ,WH h]
 ·rw[j4 p Om,lY (by rw[lZ];omega)]
theorem BB(p:List UInt8):a2 (ay p)=a2 p:=BA (nC p)
theorem qP{p q:List UInt8}(c:p.length=q.length)(h: ∀i,i<p.length→co p i=co q i):p=q:=by
 refine Xf c λi a b=>?_;have:=h i a;rwa [xa a,xa b] at this
theorem Jw{p q:List UInt8}(h: ∀i,co p i=co q i):ay p=ay q:=
 qP (by rw[lZ,lZ,BA h]) λi _=>by rw[nC,nC,h]
def fY(n:Nat)(f:Nat→UInt8):List UInt8:=(VL n).map f
theorem jq(n:Nat)(f:Nat→UInt8):(fY n f).length=n:=by simp [fY]
theorem l0(n:Nat)(f:Nat→UInt8)(i:Nat):co (fY n f) i=if i<n then f i else 0:=by
 by_cases h:i<n
 ·rw[ALifp h,xa (by rw[jq];exact h)];simp [fY]
 ·rw[ALifn h,lY (by rw[jq];omega)]
theorem Jy{n:Nat}{f:Nat→UInt8}(h: ∀i,n≤i→f i=0)(i:Nat):co (fY n f) i=f i:=by
 rw[l0];split
 ·rfl
 ·exact(h i Om).symm
theorem xb(n:Nat)(f g:Nat→UInt8)(k:Nat)(v:UInt8)(b: ∀i,i<n→g i=if i=k then v else f i):(fY n f).set k v=fY n g:=by
 refine Xf (by rw[VK,jq,jq]) λi a c=>?_;rw[VK,jq] at a;rw[List.getElem_set];simp only[fY,List.getElem_map,List.getElem_range];rw[b i a];by_cases e:k=i
 ·rw[ALifp e,ALifp e.symm]
 ·rw[ALifn e,ALifn (Ne.symm e)]
def gU(p q:List UInt8):List UInt8:=ay (fY (a2 p+a2 q) (conv (co p) (co q)))
theorem xd(p q:List UInt8)(i:Nat):co (gU p q) i=conv (co p) (co q) i:=by
 unfold gU;rw[nC,Jy];intro i a;exact Bz _ _ (a2 p) (a2 q) (λ_ h=>j4 p h) (λ_ h=>j4 q h) i Om
def mV(p:List UInt8)(x:UInt8):UInt8:=ev (co p) p.length x
theorem Jz(p q:List UInt8):a2 (gU p q)=if a2 p=0∨a2 q=0 then 0 else a2 p+a2 q-1:=by
 split
 ·rename_i h;refine qO (λi _=>?_) (.inl rfl);rw[xd];rcases h with h | h
  ·exact ou (λj _=>by rw[j4 p Om,lW])
  ·exact ou (λj _=>by rw[j4 q Om,nB])
 ·rename_i h;refine qO (λi a=>?_) (.inr ?_)
  ·rw[xd];exact Bz _ _ (a2 p) (a2 q) (λ_ h=>j4 p h) (λ_ h=>j4 q h) i Om
  ·rw[xd,show a2 p+a2 q-1-1=(a2 p-1)+(a2 q-1) from by omega,
    Jr _ _ _ _ (λi a=>j4 p Om) (λi a=>j4 q Om)]
   exact Br _ _ (ow p Om) (ow q Om)
theorem JA(r:UInt8):a2 [r,1]=2:=qO (λi a=>lY (show 2≤i from a)) (.inr (show(1:UInt8)≠0 by decide))
theorem JB(a c:UInt8):a=c^^^(a^^^c):=by rw[Xi a c,←WB,Wm,Wn]
theorem JC(p q:List UInt8):(gU p q).length=a2 (gU p q):=by
 have h:a2 (gU p q)=a2 (fY (a2 p+a2 q) (conv (co p) (co q))):=by unfold gU;rw[BB]
 rw[h];unfold gU;rw[lZ]
def gV(rs:List UInt8):Nat→List UInt8
 | 0=>[1]
 | k+1=>gU (gV rs k) [co rs k,1]
def JD(rs:List UInt8):List UInt8:=gV rs rs.length
theorem BC(rs:List UInt8)(k:Nat):a2 (gV rs k)=k+1:=by
 induction k with
 | zero=>exact qO (λi a=>lY (show 1≤i by omega)) (.inr (show(1:UInt8)≠0 by decide))
 | succ k ih=>rw[gV,Jz,ih,JA,ALifn Om];omega
theorem JE(rs:List UInt8)(k:Nat):(gV rs k).length=k+1:=by
 cases k with
 | zero=>rfl
 | succ k=>rw[gV,JC];exact BC rs (k+1)
def ox(q:List UInt8)(d:Nat)(t:UInt8)(o:List UInt8)(i:Nat):List UInt8:=fY o.length λj=>if i-d≤j∧j≤i then co o j^^^gm (gm (co o i) t) (co q (j-(i-d))) else co o j
theorem JF(q:List UInt8)(d:Nat)(t:UInt8)(o:List UInt8)(i:Nat):(ox q d t o i).length=o.length:=jq _ _
def bW(p q:List UInt8)(d:Nat)(t:UInt8):Nat→List UInt8
 | 0=>p
 | k+1=>ox q d t (bW p q d t k) (p.length-1-k)
theorem qQ(p q:List UInt8)(d:Nat)(t:UInt8)(k:Nat):(bW p q d t k).length=p.length:=by
 induction k with
 | zero=>rfl
 | succ k ih=>rw[bW,JF,ih]
def dV(p q:List UInt8)(t:UInt8):List UInt8:=ay (bW p q (a2 q-1) t (p.length-(a2 q-1)))
theorem JG{q o:List UInt8}{d:Nat}{t:UInt8}{i:Nat}(l:a2 q=d+1)(k:d≤i)(m:i<o.length)(j:Nat):
  co (ox q d t o i) j=co o j^^^conv (λa=>if a=i-d then gm (co o i) t else 0) (co q) j:=by
 have g:conv (λa=>if a=i-d then gm (co o i) t else 0) (co q) j=if i-d≤j then gm (gm (co o i) t) (co q (j-(i-d))) else 0:=by
  unfold conv
  by_cases h:i-d≤j
  ·rw[ALifp h];have b:xs (j+1) (λa=>gm (if a=i-d then gm (co o i) t else 0) (co q (j-a)))=xs (i-d+1) (λa=>gm (if a=i-d then gm (co o i) t else 0) (co q (j-a))):=
    tV Om _ λa c=>by
     show gm (if a=i-d then gm (co o i) t else 0) (co q (j-a))=0;rw[ALifn Om,lW]
   rw[b,By,ou (λa c=>by
    show gm (if a=i-d then gm (co o i) t else 0) (co q (j-a))=0;rw[ALifn Om,lW]),ALifp rfl,Wn]
  ·rw[ALifn h];exact ou λa c=>by
    show gm (if a=i-d then gm (co o i) t else 0) (co q (j-a))=0;rw[ALifn Om,lW]
 rw[g];unfold ox;rw[l0];by_cases e:j<o.length
 ·rw[ALifp e];by_cases b:i-d≤j
  ·rw[ALifp b];by_cases f:j≤i
   ·rw[ALifp ⟨b,f⟩]
   ·rw[ALifn Om,j4 q Om,nB,VW]
  ·rw[ALifn Om,ALifn b,VW]
 ·rw[ALifn e,lY (p:=o) Om]
  split
  ·rw[j4 q Om,nB];rfl
  ·rfl
theorem JH{p q:List UInt8}{d:Nat}{t:UInt8}(g:a2 q=d+1)(ht:gm (co q d) t=1)(k:Nat)(r:k≤p.length-d):
  (∃s:Nat→UInt8,(∀i,p.length≤i→s i=0)∧∀j,co p j=co (bW p q d t k) j^^^conv s (co q) j)∧∀j,p.length-k≤j→co (bW p q d t k) j=0:=by
 induction k with
 | zero=>exact⟨⟨λ_=>0,λ_ _=>rfl,λj=>by
   rw[show conv (λ_=>0) (co q) j=0 from ou λi _=>lW _,VW];rfl⟩,λj l=>lY (by rw[qQ];omega)⟩
 | succ k ih=>
  obtain⟨⟨s,b,m⟩,n⟩:=ih Om;have u:=qQ p q d t k;have e:=λj=>JG (q:=q) (o:=bW p q d t k) (d:=d) (t:=t) (i:=p.length-1-k) g Om Om j;refine⟨⟨λa=>s a^^^(if a=p.length-1-k-d then gm (co (bW p q d t k) (p.length-1-k)) t else 0),λi h=>by
   show s i^^^(if i=p.length-1-k-d then gm (co (bW p q d t k) (p.length-1-k)) t else 0)=0;rw[b i h,ALifn Om];rfl,λj=>?_⟩,λj l=>?_⟩
  ·rw[Jq,bW,e j,m j,WB]
   congr 1
   exact JB _ _
  ·rw[bW];unfold ox;rw[l0];by_cases c:j<(bW p q d t k).length
   ·rw[ALifp c];by_cases f:p.length-1-k=j
    ·subst f;rw[ALifp Om,show p.length-1-k-(p.length-1-k-d)=d from by omega,Bn,k5 t,ht,Bq,Wm]
    ·rw[ALifn Om];exact n j Om
   ·rw[ALifn c]
theorem JI{p q:List UInt8}{t:UInt8}(h0:0<a2 q)(ht:gm (co q (a2 q-1)) t=1):
  (∃s:Nat→UInt8,(∀i,p.length≤i→s i=0)∧∀j,co p j=co (dV p q t) j^^^conv s (co q) j)∧a2 (dV p q t)<a2 q:=by
 obtain⟨a,b⟩:=JH (p:=p) (q:=q) (d:=a2 q-1) (t:=t) Om ht (p.length-(a2 q-1)) (VS _);refine⟨?_,?_⟩
 ·obtain⟨s,c,f⟩:=a;exact⟨s,c,λj=>by rw[f j];unfold dV;rw[nC]⟩
 ·have g:a2 (dV p q t)≤a2 q-1:=Jv λi h=>by
   unfold dV;rw[nC];by_cases e:p.length≤a2 q-1
   ·exact lY (by rw[qQ];omega)
   ·exact b i Om
  omega
theorem JJ(p q:List UInt8)(t:UInt8):a2 (dV p q t)=(dV p q t).length:=by unfold dV;rw[BB,lZ]

theorem BD(n:Nat)(f:Nat→UInt8)(h: ∀i,i<n→f i=0):fY n f=VA n 0:=by
 refine qP (by rw[jq,VH]) λi a=>?_;rw[jq] at a;rw[l0,ALifp a,h i a];simp [co,a]
theorem tX{n:Nat}{f g:Nat→UInt8}(h: ∀i,i<n→f i=g i):fY n f=fY n g:=by
 unfold fY;exact Wp λi a=>h i (List.mem_range.1 a)
theorem JK(p:List UInt8):fY p.length (co p)=p:=qP (jq _ _) λi a=>by rw[jq] at a;rw[l0,ALifp a]
def nE(p q:List UInt8)(i t:Nat):UInt8:=xs i λa=>if a≤t then gm (co p a) (co q (t-a)) else 0
def oy(p q:List UInt8)(i j t:Nat):UInt8:=nE p q i t^^^(if i≤t∧t<i+j then gm (co p i) (co q (t-i)) else 0)
theorem xe(p q:List UInt8)(i t:Nat):oy p q i 0 t=nE p q i t:=by
 unfold oy;rw[ALifn Om,VW]
theorem JL{p q:List UInt8}(i t:Nat):oy p q i q.length t=nE p q (i+1) t:=by
 unfold oy nE;rw[By]
 congr 1
 by_cases h:i≤t
 ·rw[ALifp h];by_cases a:t<i+q.length
  ·rw[ALifp ⟨h,a⟩]
  ·rw[ALifn Om,lY (p:=q) Om,nB]
 ·rw[ALifn Om,ALifn h]
theorem JM{p q:List UInt8}(t:Nat):nE p q p.length t=conv (co p) (co q) t:=by
 unfold nE conv
 have c: ∀a,(t+1≤a∨p.length≤a)→(if a≤t then gm (co p a) (co q (t-a)) else 0)=0:=λa e=>by
  by_cases h:a≤t
  ·rw[ALifp h,lY (p:=p) Om,lW]
  ·rw[ALifn h]
 have d:xs (t+1) (λa=>gm (co p a) (co q (t-a)))=xs (t+1) λa=>if a≤t then gm (co p a) (co q (t-a)) else 0:=w8 λi b=>by rw[ALifp Om]
 rw[d];rcases Nat.le_total (t+1) p.length with h | h
 ·exact tV h _ λi b=>c i (.inl b)
 ·exact(tV h _ λi b=>c i (.inr b)).symm
def eE(p q:List UInt8)(i j:Nat):List UInt8:=fY (p.length+q.length) (oy p q i j)
theorem BE(p q:List UInt8)(i j:Nat):(eE p q i j).length=p.length+q.length:=jq _ _
theorem JN(p q:List UInt8):eE p q 0 0=VA (p.length+q.length) 0:=BD _ _ λi _=>by rw[xe];rfl
theorem JO(p q:List UInt8)(i:Nat):eE p q i q.length=eE p q (i+1) 0:=tX λt _=>by rw[JL,xe]
theorem JP{p q:List UInt8}{i j:Nat}(h:i+j<p.length+q.length):co (eE p q i j) (i+j)=nE p q i (i+j):=by
 unfold eE;rw[l0,ALifp h];unfold oy;rw[ALifn Om,VW]
theorem JQ{p q:List UInt8}{i j:Nat}:(eE p q i j).set (i+j) (nE p q i (i+j)^^^gm (co p i) (co q j))=eE p q i (j+1):=
 xb _ _ _ _ _ λt _=>by
  unfold oy;by_cases e:t=i+j
  ·subst e;rw[ALifp Om,ALifp rfl,WK]
  ·rw[ALifn e];by_cases h:i≤t∧t<i+j
   ·rw[ALifp Om,ALifp h]
   ·rw[ALifn Om,ALifn h]
theorem JR(p q:List UInt8):ay (eE (ay p) (ay q) (a2 p) 0)=gU p q:=by
 unfold gU eE;rw[lZ,lZ];refine Jw λt=>?_;rw[l0,l0]
 split
 ·have h:=JM (p:=ay p) (q:=ay q) t;rw[lZ] at h;rw[xe,h];exact Jp (λi _=>nC p i) (λi _=>nC q i)
 ·rfl
def fb(q:List UInt8)(a:UInt8)(o:List UInt8)(z j:Nat):List UInt8:=fY o.length λx=>if z≤x∧x<z+j then co o x^^^gm a (co q (x-z)) else co o x
theorem JS(q:List UInt8)(a:UInt8)(o:List UInt8)(z j:Nat):(fb q a o z j).length=o.length:=jq _ _
theorem JT(q:List UInt8)(a:UInt8)(o:List UInt8)(z:Nat):fb q a o z 0=o:=by
 unfold fb;rw[tX (g:=co o) λi _=>ALifn Om];exact JK o
theorem JU{q:List UInt8}{a:UInt8}{o:List UInt8}{z j:Nat}(h:z+j<o.length):co (fb q a o z j) (z+j)=co o (z+j):=by
 unfold fb;rw[l0,ALifp h,ALifn Om]
theorem JV{q:List UInt8}{a:UInt8}{o:List UInt8}{z j:Nat}:(fb q a o z j).set (z+j) (co o (z+j)^^^gm a (co q j))=fb q a o z (j+1):=
 xb _ _ _ _ _ λt _=>by
  by_cases e:t=z+j
  ·subst e;rw[ALifp Om,ALifp rfl,WK]
  ·rw[ALifn e];by_cases h:z≤t∧t<z+j
   ·rw[ALifp Om,ALifp h]
   ·rw[ALifn Om,ALifn h]
theorem JW{q:List UInt8}{t:UInt8}{o:List UInt8}{d i:Nat}(h:d≤i):fb q (gm (co o i) t) o (i-d) (d+1)=ox q d t o i:=by
 unfold fb ox;refine tX λx _=>?_;by_cases a:i-d≤x∧x<i-d+(d+1)
 ·rw[ALifp a,ALifp Om]
 ·rw[ALifn a,ALifn Om]
def hv(p:List UInt8)(x:UInt8):Nat→UInt8
 | 0=>0
 | j+1=>gm (hv p x j) x^^^co p (p.length-1-j)
theorem JX(p:List UInt8)(x:UInt8)(j:Nat)(e:j≤p.length):gm (hv p x j) (pw x (p.length-j))^^^ev (co p) (p.length-j) x=mV p x:=by
 induction j with
 | zero=>rw[hv,lW,Wn,Wd];rfl
 | succ j ih=>
  rw[←ih Om,hv,Bp];obtain⟨m,d⟩: ∃m,p.length-(j+1)=m:=⟨_,rfl⟩;have b:p.length-j=m+1:=by omega
  have c:p.length-1-j=m:=by omega
  have a:ev (co p) (m+1) x=ev (co p) m x^^^gm (co p m) (pw x m):=rfl;rw[d,b,c,a,pw,Bn,k5 x,WB,Xi (gm (co p m) (pw x m))]
theorem JY(p:List UInt8)(x:UInt8):hv p x p.length=mV p x:=by
 have h:=JX p x p.length (VS _);rw[Wz,pw,Bq,show ev (co p) 0 x=0 from rfl,VW] at h;exact h
namespace E
section
open Go Go.Shelf Go.RowKit
def kB:Kd VB UInt8:=⟨eB,[u1 0],191,5,0,1,λ_=>rfl,rfl,λ_=>rfl,dU.mk' Kr Kr rfl⟩
def oz:Value→Bool
 | .slice none _ _=>true
 | _=>false
theorem JZ{i:Nat}{w:World}{α:Type}{en:α→List Value}{v:Value}{xs:List α}{bs:aw}(h:aH en v xs bs):(av .eql 191 (.tmp i) (.const (.slice none 0 0)) v (.slice none 0 0)).run VB w= .ok (.bool (oz v)) w:=by
 obtain⟨a,r,rfl⟩:=h.2;cases a<;>kernel_rfl
theorem tY{α:Type}{en:α→List Value}{v:Value}{xs:List α}{bs:aw}(h:aH en v xs bs)(h1:oz v=true):xs=[]:=by
 rcases h.1 with⟨a,_⟩ | ⟨g,b,d,t,e,c,rfl,_⟩
 ·exact a
 ·cases h1
theorem BF(v:Value)(xs:List UInt8)(g:xs.length≤1000000):aa VB 233 #[v] [.p (aH eB v xs)] [] (λE=>[bt (E.val 0) xs]) (λE=>(E.val 0)):=by
 refine fO Tryz.func233 0 rfl λd a=>fG Tryz.func233 λw f=>r0 [] [(2,.slice none 0 0)] [] (r0 [(1,.t (tv (av .eql 191 (.tmp 3) (.const (.slice none 0 0)) (v) (.slice none 0 0)) (λ_=>JZ a)))] [(4,.bool (oz v))] [] ?_);refine cB (oz v) (λe=>?_) λe=>?_
 ·exact r0 [] [(2,.slice none 0 0)] [2] (cz kB (lf (.l [] [] [.slice none 0 0]) [1] [(0,0)] [] (hf:=by(try rewrite [tY a As]);kernel_rfl)))
 exact rr (λb=>[(0,.m (qw 1 eB ([u1 0]) 5)),(2,.m (lQ 1 0 oi (.slice (some ⟨(b 0).y 0,0,none⟩) 0 0) (v) (xs:=[]) (ys:=xs) (.c d) (cP a.1) oh (λ_=>rfl) (by simp only[LL];omega)))]) (λb=>[(2,(b 2).val 0)]) [2] (λb L=>L++[bt ((b 2).val 0) (([])++xs)]) λb=>lf (.l [] [] [(b 2).val 0]) [1] [(0,0)] [] (hf:=by(try rewrite [tY a As]);kernel_rfl)
theorem xf{P:Program}{T:TypeId}{x y:Operand}{w:World}{a:Int}{k:Nat}(h0: -9223372036854775807≤a-(k:Int))(h1:a-(k:Int)≤9223372036854775807):(av .sub T x y (.int .i64 (a-(k:Int))) (.int .i64 1)).run P w= .ok (.int .i64 (a-((k+1:Nat):Int))) w:=by
 have h:=p7 (P:=P) (T:=T) (x:=x) (y:=y) (w:=w) (a:=a-(k:Int)) (b:=1) Om Om;rw[show a-(k:Int)-1=a-((k+1:Nat):Int) by omega] at h;exact h
theorem J0{P:Program}{T:TypeId}{x y:Operand}{w:World}{k:Nat}(h:k<9223372036854775807):(av .add T x y (.int .i64 ((k:Int)-1)) (.int .i64 1)).run P w= .ok (.int .i64 (k:Int)) w:=by
 have h:=p6 (P:=P) (T:=T) (x:=x) (y:=y) (w:=w) (a:=(k:Int)-1) (b:=1) Om Om;rw[show(k:Int)-1+1=k by omega] at h;exact h
theorem J1{xs:List UInt8}:tl xs (xs.length-0)=a2 xs:=rfl
theorem J2{xs:List UInt8}{k:Nat}(ht:tl xs (xs.length-k)=a2 xs)(a:0≤((xs.length:Nat):Int)-1-(k:Int))(h:(((xs.getD (xs.length-1-k) 0).toNat:Int)==0)=true):tl xs (xs.length-(k+1))=a2 xs:=by
 rw[show xs.length-k=(xs.length-1-k)+1 by omega,tl,ALifp (show Go.Proofs.YtbcodenfkijdnaaGreat.co xs (xs.length-1-k)=0 from tT h)] at ht;rw[←ht]
 congr 1
 omega
theorem J3{xs:List UInt8}{k:Nat}(ht:tl xs (xs.length-k)=a2 xs)(c:0≤((xs.length:Nat):Int)-1-(k:Int))(h:(((xs.getD (xs.length-1-k) 0).toNat:Int)==0)=false):Value.int .i64 (((xs.length:Nat):Int)-1-(k:Int))= .int .i64 (((a2 xs:Nat):Int)-1):=by
 have b:Go.Proofs.YtbcodenfkijdnaaGreat.co xs (xs.length-1-k)≠0:=λe=>by
  have a:xs.getD (xs.length-1-k) 0=0:=e;rw[a] at h;cases h
 rw[show xs.length-k=(xs.length-1-k)+1 by omega,tl,ALifn b] at ht;exact ALca (Value.int .i64) Om
theorem J4{xs:List UInt8}{k:Nat}(ht:tl xs (xs.length-k)=a2 xs)(a:k≤xs.length)(b: ¬0≤((xs.length:Nat):Int)-1-(k:Int)):Value.int .i64 (((xs.length:Nat):Int)-1-(k:Int))= .int .i64 (((a2 xs:Nat):Int)-1):=by
 rw[show xs.length-k=0 by omega] at ht;rw[←ht];exact ALca (Value.int .i64) (by show _=((0:Nat):Int)-1;omega)
attribute [local irreducible] a2
theorem BG(v:Value)(xs:List UInt8)(l:xs.length≤1000000):aa VB 231 #[v] [.p (aH eB v xs)] [] N0 (λ_=>i6 (((a2 xs:Nat):Int)-1)):=by
 refine fO Tryz.func231 0 rfl λg a=>fG Tryz.func231 λw j=>r0 [] [(2,i6 0)] [] (r0 [(1,eD a.1 0),(2,sI (xs.length:Int) (1) Om)] [(3,i6 ((xs.length:Int)-1))] [] ?_);refine lq (λk=>k≤xs.length∧(tl xs (xs.length-k)=a2 xs)) (λk=>[(3,i6 (((xs.length:Nat):Int)-1-((k:Nat):Int)))]) (λ_ L=>L) (λk=>xs.length-k) 0 ⟨by omega,J1⟩ (by rw[show((xs.length:Nat):Int)-1-((0:Nat):Int)=(xs.length:Int)-1 by omega];kernel_rfl) Kr (λk ⟨i,f⟩=>?_);cases b:(decide (0≤(((xs.length:Nat):Int)-1-((k:Nat):Int))))
 case true=>
  have c:=of_decide_eq_true b;refine r0 [(1,.t (tk (show Value.bool (decide (0≤(((xs.length:Nat):Int)-1-((k:Nat):Int))))= .bool true from ALca Value.bool b))),(4,.t (tk (show i6 (((xs.length:Nat):Int)-1-((k:Nat):Int))=iN (xs.length-1-k) from ALca (Value.int .i64) Om))),(5,fa a.1 0 (xs.length-1-k) 1),(6,iE kB a.1 0 (xs.length-1-k) 0)] [(15,.bool (((xs.getD (xs.length-1-k) 0).toNat:Int)==0))] [] ?_;refine cO ((xs.getD (xs.length-1-k) 0).toNat:Int) 0 (λh e=>?_) λh e=>?_
  ·exact r0 [(1,.t (tv (av .sub 3 (.tmp 16) (.const (i6 1)) (i6 (((xs.length:Nat):Int)-1-((k:Nat):Int))) (i6 1)) (λ_=>xf Om Om)))] [(3,i6 (((xs.length:Nat):Int)-1-((k+1:Nat):Int)))] [3] (le (k+1) ⟨by omega,J2 f As As⟩ Om Kr [0] Kr)
  exact lx (r0 [] [(2,i6 (((xs.length:Nat):Int)-1-((k:Nat):Int)))] [2] (ak (i6 (((xs.length:Nat):Int)-1-((k:Nat):Int))) ab.zero (by exact J3 f As As) [] [(0,0)] []))
 have c:=of_decide_eq_false b;exact rF [(1,.t (tk (show Value.bool (decide (0≤(((xs.length:Nat):Int)-1-((k:Nat):Int))))= .bool false from ALca Value.bool b))),(3,.d),(4,.d),(5,.d),(6,.d),(7,.d)] 15 (lx (r0 [] [(2,i6 (((xs.length:Nat):Int)-1-((k:Nat):Int)))] [2] (ak (i6 (((xs.length:Nat):Int)-1-((k:Nat):Int))) ab.zero (by exact J4 f As As) [] [(0,0)] [])))
theorem J5(v:Value)(xs:List UInt8)(n:Nat)(a:n≤xs.length)(b:xs.length≤1000000):aa VB 233 #[gD v 0 n 1] [.p (aH eB v xs)] [] (λE=>[bt (E.val 0) (xs.take n)]) (λE=>E.val 0):=
 aa.at (BF (gD v 0 n 1) (xs.take n) (by rw[VP];omega)) (bM (λ_ h=>aH.take (en:=eB) (k:=1) (λ_=>rfl) h a) λ_ h=>h)
theorem tZ(v:Value)(xs:List UInt8)(g:xs.length≤1000000):aa VB 234 #[v] [.p (aH eB v xs)] [] (λE=>[bt (E.val 0) (ay xs)]) (λE=>(E.val 0)):=by
 have e:=qN xs;exact fO Tryz.func234 0 rfl λa b=>fG Tryz.func234 λw f=>r0 [] [(2,.slice none 0 0)] [] (rr (λ_=>[(2,.c [0] [] (aa.at (rd':=[.c a]) (BG v xs Om) (ei b (λ_ h=>h)))),(3,.t (tv (av .add 3 (.tmp 5) (.const (i6 1)) (i6 (((a2 xs:Nat):Int)-1)) (i6 1)) (λ_=>J0 Om))),(4,.m (AZ 0 (.c a) (a2 xs) 1 (cP b) Om)),(5,.c [0] [1] (aa.at (rd':=[.c a]) (J5 v xs (a2 xs) Om Om) (ei b (λ_ h=>h))))]) (λd=>[(2,(d 5).val 0)]) [2] (λd L=>L++[bt ((d 5).val 0) ((xs).take ((a2 xs)))]) λd=>lf (.l [] [] [((d 5).val 0),(d 5).val 0]) [1] [(0,0)] [] (hf:=by kernel_rfl))
attribute [local irreducible] ay
theorem J6{p q:List UInt8}{i j:Nat}(h:i+j<p.length+q.length):eE p q i (j+1)=(eE p q i j).set (i+j) ((eE p q i j).getD (i+j) 0^^^gm (p.getD i 0) (q.getD j 0)):=by
 rw[←JQ,←JP h];rfl
attribute [local irreducible] eE
theorem J7(g:Nat)(v u:Value)(p q:List UInt8)(hp:p.length≤50000)(J:q.length≤50000):aa VB 219 #[pt g 0,v,u] [ob g (rB 255 aO++rN 256 aV).toArray 312,.p (aH eB v p),.p (aH eB u q)] [] (λE=>[bt (E.val 0) (gU p q)]) (λE=>(E.val 0)):=by
 refine fO Tryz.func219 1 rfl λm x=>fO Tryz.func219 2 rfl λn y=>fG Tryz.func219 λw I=>?_;have s:=lZ p;have C:=lZ q;have G:=qN p;have H:=qN q;refine r0 [] [(6,.slice none 0 0)] [] (rr (λd=>[(1,.c [1] [3] (aa.at (rd':=[.c m]) (tZ v p Om) (ei x (λ_ h=>h)))),(3,.c [2] [4] (aa.at (rd':=[.c n]) (tZ u q Om) (ei y (λ_ h=>h))))]) (λd=>[(1,((d 1).val 0)),(2,((d 3).val 0))]) [1,2] (λd L=>L++[bt ((d 1).val 0) (ay p),bt ((d 3).val 0) (ay q)]) λd=>rr (λ_=>[(1,e8 kB ((d 1).val 0) (ay p) 3),(3,e8 kB ((d 3).val 0) (ay q) 4),(4,ad ((ay p).length) ((ay q).length)),(5,qI kB 5 (((ay p).length)+((ay q).length)))]) (λf=>[(7,.slice (some ⟨(f 5).y 0,0,none⟩) (((ay p).length)+((ay q).length)) (((ay p).length)+((ay q).length)))]) [] (λf L=>L++[bt (.slice (some ⟨(f 5).y 0,0,none⟩) (((ay p).length)+((ay q).length)) (((ay p).length)+((ay q).length))) (VA (((ay p).length)+((ay q).length)) 0)]) λf=>r0 [(1,e8 kB ((d 1).val 0) (ay p) 3)] [(22,((d 1).val 0)),(23,iN ((ay p).length)),(24,i6 0)] [] ?_);refine lq (λi=>i≤(ay p).length) (λi=>[(24,iN i)]) (λi L=>L.set 5 (bt (.slice (some ⟨(f 5).y 0,0,none⟩) (((ay p).length)+((ay q).length)) (((ay p).length)+((ay q).length))) (eE (ay p) (ay q) i 0))) (λi=>((ay p).length)-i) 0 Om Kr (by rw[JN];kernel_rfl) (λi B=>?_);refine r0 [] [(25,.bool (decide ((i:Int)<(((ay p).length:Nat):Int))))] [] ?_;refine b0 (i:Int) (((ay p).length:Nat):Int) (λA o=>?_) λA o=>?_
 ·refine r0 [(1,cH kB ((d 1).val 0) (ay p) 3 i),(2,eP kB ((d 1).val 0) (ay p) 3 i 0)] [(8,iN i),(9,u1 (((ay p).getD i 0).toNat:Int))] [] (r0 [(1,e8 kB ((d 3).val 0) (ay q) 4)] [(29,((d 3).val 0)),(30,iN ((ay q).length)),(31,i6 0)] [] ?_);refine lq (λj=>j≤(ay q).length) (λj=>[(31,iN j)]) (λj L=>L.set 5 (bt (.slice (some ⟨(f 5).y 0,0,none⟩) (((ay p).length)+((ay q).length)) (((ay p).length)+((ay q).length))) (eE (ay p) (ay q) i j))) (λj=>((ay q).length)-j) 0 Om Kr Kr (λj z=>?_);have F:=BE (ay p) (ay q) i j;refine r0 [] [(32,.bool (decide ((j:Int)<(((ay q).length:Nat):Int))))] [] ?_;refine b0 (j:Int) (((ay q).length:Nat):Int) (λr k=>?_) λr k=>?_
  ·exact r0 [(1,cH kB ((d 3).val 0) (ay q) 4 j),(2,eP kB ((d 3).val 0) (ay q) 4 j 0)] [(10,iN j),(11,u1 (((ay q).getD j 0).toNat:Int))] [] (rs [(3,ad i j),(4,cH kB (.slice (some ⟨(f 5).y 0,0,none⟩) (((ay p).length)+((ay q).length)) (((ay p).length)+((ay q).length))) (eE (ay p) (ay q) i j) 5 (i+j)),(5,eP kB (.slice (some ⟨(f 5).y 0,0,none⟩) (((ay p).length)+((ay q).length)) (((ay p).length)+((ay q).length))) (eE (ay p) (ay q) i j) 5 (i+j) 0),(9,.c [0] [] (pz g ((ay p).getD i 0) ((ay q).getD j 0))),(10,.t (tb (a:=u1 (((eE (ay p) (ay q) i j).getD (i+j) 0).toNat:Int)) (b:=u1 ((gm ((ay p).getD i 0) ((ay q).getD j 0)).toNat:Int)) λ_ _ _ _=>kT ((eE (ay p) (ay q) i j).getD (i+j) 0) ((gm ((ay p).getD i 0) ((ay q).getD j 0))))),(11,cH kB (.slice (some ⟨(f 5).y 0,0,none⟩) (((ay p).length)+((ay q).length)) (((ay p).length)+((ay q).length))) (eE (ay p) (ay q) i j) 5 (i+j)),(12,qC kB (.slice (some ⟨(f 5).y 0,0,none⟩) (((ay p).length)+((ay q).length)) (((ay p).length)+((ay q).length))) (eE (ay p) (ay q) i j) 5 (i+j) 0 (((eE (ay p) (ay q) i j).getD (i+j) 0)^^^(gm ((ay p).getD i 0) ((ay q).getD j 0))) (u1 ((((eE (ay p) (ay q) i j).getD (i+j) 0)^^^(gm ((ay p).getD i 0) ((ay q).getD j 0))).toNat:Int)) Kr)] 5 (bt (.slice (some ⟨(f 5).y 0,0,none⟩) (((ay p).length)+((ay q).length)) (((ay p).length)+((ay q).length))) ((eE (ay p) (ay q) i j).set (i+j) (((eE (ay p) (ay q) i j).getD (i+j) 0)^^^(gm ((ay p).getD i 0) ((ay q).getD j 0))))) (r0 [(0,ad j 1)] [(31,iN (j+1))] [31] (le (j+1) Om Om Kr [0,1,2,3,4,5] (by rw[J6 Om];kernel_rfl))))
  obtain rfl:j=(ay q).length:=by omega
  exact lx (r0 [(0,ad i 1)] [(24,iN (i+1))] [24] (le (i+1) Om Om Kr [0,1,2,3,4,5] (by rw[←JO (ay p) (ay q) i];kernel_rfl)))
 obtain rfl:i=(ay p).length:=by omega
 have D:=BE (ay p) (ay q) (ay p).length 0;exact lx (rr (λ_=>[(1,.c [5] [6] (aa.at (rd':=[bt (.slice (some ⟨(f 5).y 0,0,none⟩) (((ay p).length)+((ay q).length)) (((ay p).length)+((ay q).length))) (eE (ay p) (ay q) ((ay p).length) 0)]) (tZ (.slice (some ⟨(f 5).y 0,0,none⟩) (((ay p).length)+((ay q).length)) (((ay p).length)+((ay q).length))) (eE (ay p) (ay q) ((ay p).length) 0) Om) (bM (λ_ h=>ar.sq h) (λ_ h=>h))))]) (λe=>[(6,((e 1).val 0))]) [6] (λe L=>L++[bt ((e 1).val 0) (ay (eE (ay p) (ay q) ((ay p).length) 0))]) λe=>lf (.l [] [] [((e 1).val 0),(e 1).val 0]) [6] [(0,0),(1,1),(2,2)] [] (hf:=by rw[←JR,←s];kernel_rfl))
theorem J8{q:List UInt8}{a:UInt8}{o:List UInt8}{z j:Nat}(h:z+j<o.length):fb q a o z (j+1)=(fb q a o z j).set (z+j) ((fb q a o z j).getD (z+j) 0^^^gm a (q.getD j 0)):=by
 rw[←JV,←JU h];rfl
theorem J9{p q:List UInt8}{d k:Nat}{t:UInt8}(h:d≤p.length-1-k):bW p q d t (k+1)=fb q (gm ((bW p q d t k).getD (p.length-1-k) 0) t) (bW p q d t k) (p.length-1-k-d) (d+1):=(JW h).symm
theorem BH{b:UInt8}(h:b≠0):(fC b != 0)=false:=by
 unfold fC;rw[show((b.toNat:Int)==0)=false from beq_false_of_ne λe=>h (UInt8.toNat_inj.1 (by show b.toNat=0;omega))];rfl
attribute [local irreducible] bW fb
theorem Ka(g:Nat)(v u:Value)(p q:List UInt8)(d:Nat)(t:UInt8)(hp:p.length≤50000)(N:q.length≤50000)(B:a2 q=d+1)(I:d≤p.length)(ht:bJ 1 (q.getD d 0)=t):aa VB 203 #[pt g 0,v,u] [ob g (rB 255 aO++rN 256 aV).toArray 312,.p (aH eB v p),.p (aH eB u q)] [] (λE=>[bt (E.val 0) (dV p q t)]) (λE=> .tuple #[(E.val 0),i6 0]):=by
 refine fO Tryz.func203 1 rfl λo y=>fO Tryz.func203 2 rfl λr i=>fG Tryz.func203 λw M=>?_;have K:=qN q;have A:q.getD d 0≠0:=ow q B;refine r0 [] [(6,.slice none 0 0),(7,i6 0)] [] (rr (λJ=>[(1,.c [2] [] (aa.at (rd':=[.c r]) (BG u q Om) (ei i (λ_ h=>h)))),(2,.t (tk (show i6 (((a2 q:Nat):Int)-1)=iN d from ALca (Value.int .i64) Om)))]) (λ_=>[(8,iN d)]) [] (λ_ L=>L) λJ=>rF [(1,.t (tk (show Value.bool (decide ((d:Int)<0))= .bool false from ALca Value.bool (by exact bh Om))))] 18 (r0 [(3,fa i.1 2 d 1),(4,iE kB i.1 2 d 0),(5,.c [0] [] (Jj g (q.getD d 0))),(9,.t (tk (show u1 ((bJ (1:UInt8) (q.getD d 0)).toNat:Int)=u1 (t.toNat:Int) from ALca (λz:UInt8=>Value.int .u8 (z.toNat:Int)) ht)))] [(9,u1 (t.toNat:Int)),(10,i6 (fC (q.getD d 0)))] [] (rF [(1,.t (tk (show Value.bool ((fC (q.getD d 0)) != 0)= .bool false from ALca Value.bool (by exact BH A))))] 29 (rr (λ_=>[(1,.c [1] [3] (aa.at (rd':=[.c o]) (BF v p Om) (ei y (λ_ h=>h))))]) (λe=>[(11,((e 1).val 0))]) [] (λe L=>L++[bt ((e 1).val 0) p]) λe=>r0 [(1,e8 kB ((e 1).val 0) p 3),(2,sI (p.length:Int) (1) Om)] [(12,i6 ((p.length:Int)-1))] [] ?_))));refine lq (λk=>k≤p.length-d) (λk=>[(12,i6 (((p.length:Nat):Int)-1-((k:Nat):Int)))]) (λk L=>L.set 3 (bt ((e 1).val 0) (bW p q d t k))) (λk=>(p.length-d)-k) 0 Om (by rw[show((p.length:Nat):Int)-1-((0:Nat):Int)=(p.length:Int)-1 by omega];kernel_rfl) Kr (λk F=>?_);have H:=qQ p q d t k;refine r0 [] [(38,.bool (decide ((d:Int)≤(((p.length:Nat):Int)-1-((k:Nat):Int)))))] [] ?_;refine om (d:Int) (((p.length:Nat):Int)-1-((k:Nat):Int)) (λs m=>?_) λs m=>?_
 ·refine r0 [(2,.t (tk (show i6 (((p.length:Nat):Int)-1-((k:Nat):Int))=iN (p.length-1-k) from ALca (Value.int .i64) Om))),(3,cH kB ((e 1).val 0) (bW p q d t k) 3 (p.length-1-k)),(4,eP kB ((e 1).val 0) (bW p q d t k) 3 (p.length-1-k) 0),(6,.c [0] [] (pz g ((bW p q d t k).getD (p.length-1-k) 0) t))] [(13,u1 ((gm ((bW p q d t k).getD (p.length-1-k) 0) t).toNat:Int))] [] (r0 [(1,ad d 1)] [(49,iN (d+1)),(50,i6 0)] [] ?_);refine lq (λj=>j≤d+1) (λj=>[(50,iN j)]) (λj L=>L.set 3 (bt ((e 1).val 0) (fb q (gm ((bW p q d t k).getD (p.length-1-k) 0) t) (bW p q d t k) (p.length-1-k-d) j))) (λj=>(d+1)-j) 0 Om Kr (by rw[JT];kernel_rfl) (λj C=>?_);have D:=JS q (gm ((bW p q d t k).getD (p.length-1-k) 0) t) (bW p q d t k) (p.length-1-k-d) j;refine r0 [] [(51,.bool (decide ((j:Int)<((d+1:Nat):Int))))] [] ?_;refine b0 (j:Int) ((d+1:Nat):Int) (λx n=>?_) λx n=>?_
  ·exact r0 [] [(14,iN j)] [] (rs [(1,.t (tk (show i6 (((p.length:Nat):Int)-1-((k:Nat):Int))=iN (p.length-1-k) from ALca (Value.int .i64) Om))),(3,.t (tb (a:=iN (p.length-1-k)) (b:=iN d) λ_ _ _ _=>k4 (a:=p.length-1-k) (b:=d) Om Om)),(5,ad ((p.length-1-k)-d) j),(6,cH kB ((e 1).val 0) (fb q (gm ((bW p q d t k).getD (p.length-1-k) 0) t) (bW p q d t k) (p.length-1-k-d) j) 3 (((p.length-1-k)-d)+j)),(7,eP kB ((e 1).val 0) (fb q (gm ((bW p q d t k).getD (p.length-1-k) 0) t) (bW p q d t k) (p.length-1-k-d) j) 3 (((p.length-1-k)-d)+j) 0),(12,fa i.1 2 j 1),(13,iE kB i.1 2 j 0),(14,.c [0] [] (pz g (gm ((bW p q d t k).getD (p.length-1-k) 0) t) (q.getD j 0))),(15,.t (tb (a:=u1 (((fb q (gm ((bW p q d t k).getD (p.length-1-k) 0) t) (bW p q d t k) (p.length-1-k-d) j).getD (((p.length-1-k)-d)+j) 0).toNat:Int)) (b:=u1 ((gm (gm ((bW p q d t k).getD (p.length-1-k) 0) t) (q.getD j 0)).toNat:Int)) λ_ _ _ _=>kT ((fb q (gm ((bW p q d t k).getD (p.length-1-k) 0) t) (bW p q d t k) (p.length-1-k-d) j).getD (((p.length-1-k)-d)+j) 0) ((gm (gm ((bW p q d t k).getD (p.length-1-k) 0) t) (q.getD j 0))))),(16,cH kB ((e 1).val 0) (fb q (gm ((bW p q d t k).getD (p.length-1-k) 0) t) (bW p q d t k) (p.length-1-k-d) j) 3 (((p.length-1-k)-d)+j)),(17,qC kB ((e 1).val 0) (fb q (gm ((bW p q d t k).getD (p.length-1-k) 0) t) (bW p q d t k) (p.length-1-k-d) j) 3 (((p.length-1-k)-d)+j) 0 (((fb q (gm ((bW p q d t k).getD (p.length-1-k) 0) t) (bW p q d t k) (p.length-1-k-d) j).getD (((p.length-1-k)-d)+j) 0)^^^(gm (gm ((bW p q d t k).getD (p.length-1-k) 0) t) (q.getD j 0))) (u1 ((((fb q (gm ((bW p q d t k).getD (p.length-1-k) 0) t) (bW p q d t k) (p.length-1-k-d) j).getD (((p.length-1-k)-d)+j) 0)^^^(gm (gm ((bW p q d t k).getD (p.length-1-k) 0) t) (q.getD j 0))).toNat:Int)) Kr)] 3 (bt ((e 1).val 0) ((fb q (gm ((bW p q d t k).getD (p.length-1-k) 0) t) (bW p q d t k) (p.length-1-k-d) j).set (((p.length-1-k)-d)+j) (((fb q (gm ((bW p q d t k).getD (p.length-1-k) 0) t) (bW p q d t k) (p.length-1-k-d) j).getD (((p.length-1-k)-d)+j) 0)^^^(gm (gm ((bW p q d t k).getD (p.length-1-k) 0) t) (q.getD j 0))))) (r0 [(0,ad j 1)] [(50,iN (j+1))] [50] (le (j+1) Om Om Kr [0,1,2,3] (by rw[J8 Om];kernel_rfl))))
  obtain rfl:j=d+1:=by omega
  exact lx (r0 [(1,.t (tv (av .sub 3 (.tmp 39) (.const (i6 1)) (i6 (((p.length:Nat):Int)-1-((k:Nat):Int))) (i6 1)) (λ_=>xf Om Om)))] [(12,i6 (((p.length:Nat):Int)-1-((k+1:Nat):Int)))] [12] (le (k+1) Om Om Kr [0,1,2,3] (by rw[J9 Om];kernel_rfl)))
 obtain rfl:k=p.length-d:=by omega
 have G:=qQ p q d t (p.length-d);exact lx (rr (λ_=>[(1,.c [3] [4] (aa.at (rd':=[bt ((e 1).val 0) (bW p q d t (p.length-d))]) (tZ ((e 1).val 0) (bW p q d t (p.length-d)) Om) (bM (λ_ h=>ar.sq h) (λ_ h=>h))))]) (λf=>[(6,((f 1).val 0)),(7,i6 0)]) [6,7] (λf L=>L++[bt ((f 1).val 0) (ay (bW p q d t (p.length-d)))]) λf=>lf (.l [] [] [((f 1).val 0),(f 1).val 0]) [4] [(0,0),(1,1),(2,2)] [] (hf:=by rw[show dV p q t=ay (bW p q d t (p.length-d)) by unfold dV;rw[B,Nat.add_sub_cancel]];kernel_rfl))
end
section
open Go Go.Shelf Go.RowKit
theorem Kb(g:Nat)(v:Value)(xs:List UInt8)(z:xs.length≤1000000)(bs:aw)(h:dJ eB v xs bs):eX 5 VB 289 #[pt g 0] (λ(x:Nat×UInt8)=>#[i6 (x.1:Int),u1 (x.2.toNat:Int)]) ((VL xs.length).map λj=>(xs.length-1-j,xs.getD (xs.length-1-j) 0)) (V6 [[(g,.cells #[v] 191 (0,0))],bs]):=by
 refine gi (KO:=[[(g,.cells #[v] 191 (0,0))],bs]) Tryz.func289 (λo q p y u d m i=>?_);refine r0 [(0,.l 0),(1,eD h 1),(2,sI (xs.length:Int) (1) Om)] [(3,i6 ((xs.length:Int)-1))] [] ?_;refine jD (λk=>k≤xs.length) (λk=>[(3,i6 (((xs.length:Nat):Int)-1-((k:Nat):Int)))]) (λ_ L=>L) (λk=>xs.length-k) (λk=>k) 0 Om i (by rw[show((xs.length:Nat):Int)-1-((0:Nat):Int)=(xs.length:Int)-1 by omega];kernel_rfl) Kr (λk r w n b=>?_);refine r0 [] [(8,.bool (decide (0≤(((xs.length:Nat):Int)-1-((k:Nat):Int)))))] [] ?_;refine om 0 (((xs.length:Nat):Int)-1-((k:Nat):Int)) (λf c=>?_) λf c=>?_
 ·refine iy d m b 6 (λ_=>[(1,.t (tk (show i6 (((xs.length:Nat):Int)-1-((k:Nat):Int))=iN (xs.length-1-k) from ALca (Value.int .i64) Om))),(2,.l 0),(3,.t (tk (show i6 (((xs.length:Nat):Int)-1-((k:Nat):Int))=iN (xs.length-1-k) from ALca (Value.int .i64) Om))),(4,fa h 1 (xs.length-1-k) 1),(5,iE kB h 1 (xs.length-1-k) 0)]) (λ_=>[(11,.func (.yield o) #[] #[]),(12,iN (xs.length-1-k)),(16,u1 ((xs.getD (xs.length-1-k) 0).toNat:Int))]) [] (λ_ L=>L) N0 [0,1] (oa Om) (λA s e a=>?_);refine cF _ rfl (r0 [(1,.t (tv (av .sub 3 (.tmp 9) (.const (i6 1)) (i6 (((xs.length:Nat):Int)-1-((k:Nat):Int))) (i6 1)) (λ_=>xf Om Om)))] [(3,i6 (((xs.length:Nat):Int)-1-((k+1:Nat):Int)))] [3] ?_);exact ij (k+1) Om a Om Kr [0,1] Kr
 refine jE ?_;exact ku d b (by rw[Wb,V3];omega) [] [0,1]
theorem Kc(v:Value)(xs:List UInt8):aa VB 286 #[v] [.p (aH eB v xs)] [] (λE=>[ob (E.y 0) #[v] 191]) (λE=> .func (.func 289) #[] #[pt ((E.y 0)) 0]):=by
 exact fO Tryz.func286 0 rfl λb d=>fG Tryz.func286 λw e=>rr (λ_=>[(0,A1 1 0 (.c b) v (λ_ _=>aH.cells d))]) (λa=>[(1,pt (B0 a) 0),(2,.nilFunc)]) [] (λa L=>L++[ob (B0 a) #[v] 191]) λa=>r0 [] [(2,.func (.func 289) #[] #[pt (B0 a) 0])] [2] (lf (.l [(a 0).y 0] [] []) [1] [(0,0)] [])
theorem Ke(g:Nat)(v:Value)(p:List UInt8)(x:UInt8)(hp:p.length≤50000):aa VB 275 #[pt g 0,v,u1 (x.toNat:Int)] [ob g (rB 255 aO++rN 256 aV).toArray 312,.p (aH eB v p)] [] N0 (λ_=>u1 ((mV p x).toNat:Int)):=by
 refine fO Tryz.func275 1 rfl λd m=>fG Tryz.func275 λw A=>ra (λe=>[(3,pt (B0 e) 0),(5,pt (B1 e) 0),(6,u1 0)]) (λe=>[ob (B0 e) #[pt g 0] 239,ob (B1 e) #[u1 (x.toNat:Int)] 5]) λe=>rr (λ_=>[(1,.s 4)]) (λf=>[(7,pt (B0 f) 0)]) [] (λf L=>L++[ob (B0 f) #[u1 0] 5]) λf=>rr (λ_=>[(1,.c [1] [5] (aa.at (rd':=[.c d]) (Kc v p) (ei m (λ_ h=>h))))]) (λi=>[(11,.func (.func 289) #[] #[pt ((B1 i)) 0])]) [] (λi L=>L++[ob (B1 i) #[v] 191]) λi=>?_;refine ny (encs:=λ(x:Nat×UInt8)=>#[i6 (x.1:Int),u1 (x.2.toNat:Int)]) (xs:=(VL p.length).map λj=>(p.length-1-j,p.getD (p.length-1-j) 0)) (KO:=[[((B1 i),.cells #[v] 191 (0,0))],d]) (Kb (B1 i) v p Om d m.1) (enters_of Tryz.func289 Kr rfl) (λj=>j≤p.length) (λj L=>L.set 4 (ob (B0 f) #[u1 ((hv p x j).toNat:Int)] 5)) [5,1] Om Kr (λB j C r y n k=>?_) (λq k=>?_)
 ·obtain⟨o,rfl⟩:=nn n;refine r0 [] [(9,u1 ((p.getD (p.length-1-j) 0).toNat:Int))] [] ?_;refine ag [5,1] (λu z=>?_);exact rs [(0,.l 2),(1,.l 4),(2,.l 3),(3,.c [0] [] (pz g (hv p x j) x)),(5,.t (tb (a:=u1 ((gm (hv p x j) x).toNat:Int)) (b:=u1 ((p.getD (p.length-1-j) 0).toNat:Int)) λ_ _ _ _=>kT ((gm (hv p x j) x)) ((p.getD (p.length-1-j) 0)))),(6,.s 4)] 4 (ob (B0 f) #[u1 (((gm (hv p x j) x)^^^(p.getD (p.length-1-j) 0)).toNat:Int)] 5) (ne _ ⟨Om,rfl⟩ [0,1,2,3,4,5] Kr)
 refine cl [ob g (rB 255 aO++rN 256 aV).toArray 312,.c d,ob (B0 e) #[pt g 0] 239,ob (B1 e) #[u1 (x.toNat:Int)] 5,ob (B0 f) #[u1 ((hv p x p.length).toNat:Int)] 5,ob (B1 i) #[v] 191] (by rw[Wb,V3];kernel_rfl) ?_;simp only[Wb,V3] at k;exact r0 [(0,.l 4)] [(6,u1 ((hv p x p.length).toNat:Int))] [6] (ak (u1 ((hv p x p.length).toNat:Int)) ab.zero (by rw[JY]) [] [(0,0),(1,1)] [])
attribute [local irreducible] gU
theorem Kf(g:Nat)(v:Value)(rs:List UInt8)(r:rs.length≤100):aa VB 183 #[pt g 0,v] [ob g (rB 255 aO++rN 256 aV).toArray 312,.p (aH eB v rs)] [] (λE=>[bt (E.val 0) (gV rs rs.length)]) (λE=>(E.val 0)):=by
 refine fO Tryz.func183 1 rfl λi d=>fG Tryz.func183 λw q=>r0 [] [(4,.slice none 0 0)] [] (rr (λ_=>[(0,gH kB 2 1 [(1:UInt8)])]) (λe=>[(5,.slice (some ⟨(e 0).y 0,0,none⟩) 1 1)]) [] (λe L=>L++[bt (.slice (some ⟨(e 0).y 0,0,none⟩) 1 1) ([(1:UInt8)])]) λe=>r0 [(1,eD d.1 1)] [(9,v),(10,iN rs.length),(11,i6 0)] [] ?_);refine mP (λk _=>k≤rs.length) (λk a=>[(11,iN k),(5,a)]) (λk a L=>L.set 2 (bt a (gV rs k))) (λk _=>rs.length-k) 0 (.slice (some ⟨(e 0).y 0,0,none⟩) 1 1) Om Kr Kr (λk a m=>?_);have o:=JE rs k;have n:([rs.getD k 0,(1:UInt8)]:List UInt8).length=2:=rfl;refine r0 [] [(12,.bool (decide ((k:Int)<(rs.length:Int))))] [] ?_;refine b0 (k:Int) (rs.length:Int) (λj f=>?_) λj f=>?_
 ·exact r0 [(0,fa d.1 1 k 1),(1,iE kB d.1 1 k 0)] [(7,u1 ((rs.getD k 0).toNat:Int))] [] (rr (λb=>[(3,gH kB 3 2 [rs.getD k 0,(1:UInt8)]),(4,.c [0,2,3] [4] (aa.at (rd':=[ob g (rB 255 aO++rN 256 aV).toArray 312,bt a (gV rs k),bt (.slice (some ⟨(b 3).y 0,0,none⟩) 2 2) ([rs.getD k 0,(1:UInt8)])]) (J7 g a (.slice (some ⟨(b 3).y 0,0,none⟩) 2 2) (gV rs k) ([rs.getD k 0,(1:UInt8)]) Om Om) (aK (bM (λ_ h=>ar.sq h) (bM (λ_ h=>ar.sq h) (λ_ h=>h))))))]) (λb=>[(5,((b 4).val 0))]) [5] (λb L=>L++[bt (.slice (some ⟨(b 3).y 0,0,none⟩) 2 2) ([rs.getD k 0,(1:UInt8)]),bt ((b 4).val 0) (gU (gV rs k) ([rs.getD k 0,(1:UInt8)]))]) λb=>r0 [(0,ad k 1)] [(11,iN (k+1))] [11] (kY (k+1) ((b 4).val 0) Om Om Kr [0,1,4] Kr))
 obtain rfl:rs.length=k:=by omega
 refine kZ ?_;exact r0 [] [(4,a)] [4] (lf (.l [] [] [a]) [2] [(0,0),(1,1)] [])
end
end E
theorem ua(i:Nat):(pw 2 i).toNat=gE (i%255):=by
 induction i with
 | zero=>decide+kernel
 | succ i ih=>
  rw[pw,kv,ih];have a:(2:UInt8).toNat=gE 1:=by decide+kernel
  rw[a,qM _ _ (V5 _ Om) (by decide+kernel)];have b:gL (gE 1)=1:=by decide+kernel
  rw[b]
  congr 1
  omega
theorem BI: ∀i,i<255→gL (gE i)=i:=by decide+kernel
theorem Kg{i j:Nat}(b:i<255)(c:j<255)(h:pw 2 i=pw 2 j):i=j:=by
 have a:=ALca UInt8.toNat h;rw[ua,ua,VN b,VN c] at a;rw[←BI i b,←BI j c,a]
theorem Kh{x:UInt8}(h:x≠0):pw 2 (gL x.toNat)=x:=by
 have f:x.toNat≠0:=λe=>h (UInt8.toNat_inj.1 e);have b: ∀a,a<256→a≠0→gL a<255∧gE (gL a)=a:=by decide+kernel
 obtain⟨c,d⟩:=b x.toNat x.toNat_lt f;apply UInt8.toNat_inj.1;rw[ua,VN c,d]
theorem Ki{x:UInt8}(h:x≠0):gL x.toNat<255:=by
 have c:x.toNat≠0:=λe=>h (UInt8.toNat_inj.1 e);have b: ∀a,a<256→a≠0→gL a<255:=by decide+kernel
 exact b x.toNat x.toNat_lt c
structure Vd where
 A:Nat
 place:Int
 val:UInt8
deriving DecidableEq
def hit(s:Nat→UInt8)(i:Nat):Bool:=s 0 != 0&&s 1==gm (s 0) (pw 2 i)&&s 2==gm (s 1) (pw 2 i)&&s 3==gm (s 2) (pw 2 i)
theorem pA(s:Nat→UInt8)(i:Nat):hit s i=true↔s 0≠0∧s 1=gm (s 0) (pw 2 i)∧s 2=gm (s 1) (pw 2 i)∧s 3=gm (s 2) (pw 2 i):=by
 unfold hit;simp only[VI,bne_iff_ne,beq_iff_eq,and_assoc]
theorem BJ{a x y:UInt8}(d:a≠0)(h:gm a x=gm a y):x=y:=by
 have c:gm a (x^^^y)=0:=by rw[Bo,h,Wm]
 apply Wy;intro b;exact Br _ _ d (λe=>b (UInt8.xor_eq_zero_iff.1 e)) c
theorem BK{s:Nat→UInt8}{i j:Nat}(d:i<255)(e:j<255)(h1:hit s i=true)(h2:hit s j=true):i=j:=by
 obtain⟨a,b,_⟩:=(pA s i).1 h1;obtain⟨_,c,_⟩:=(pA s j).1 h2;exact Kg d e (BJ a (b.symm.trans c))
def k6(s:Nat→UInt8):Nat→Option Nat
 | 0=>none
 | k+1=>match k6 s k with
  | some i=>some i
  | none=>if hit s k then some k else none
theorem BL{s:Nat→UInt8}{k:Nat}:k6 s k=none↔∀i,i<k→hit s i=false:=by
 induction k with
 | zero=>exact⟨λ_ i b=>by omega,λ_=>rfl⟩
 | succ k ih=>
  rw[k6];cases h:k6 s k with
  | some i=>
   refine⟨λh=>(by cases h),λa=>?_⟩;have:=ih.2 λi b=>a i Om;rw[h] at this;cases this
  | none=>
   by_cases a:hit s k=true
   ·simp only[a,if_true];exact⟨λh=>(by cases h),λc=>by rw[c k Om] at a;cases a⟩
   ·simp only[a];refine⟨λ_ i b=>?_,λ_=>rfl⟩;by_cases e:i=k
    ·subst e;simpa using a
    ·exact(ih.1 h) i Om
theorem BM{s:Nat→UInt8}{k i:Nat}(g:k≤255)(e:i<k)(h:hit s i=true):k6 s k=some i:=by
 cases d:k6 s k with
 | none=>rw[BL.1 d i e] at h;cases h
 | some j=>
  have c: ∀k,k6 s k=some j→j<k∧hit s j=true:=λk=>by
   induction k with
   | zero=>intro h;cases h
   | succ k ih=>
    intro h;rw[k6] at h;cases a:k6 s k with
    | some l=>
     rw[a] at h;obtain rfl:=Option.some.inj h;have:=ih a;exact⟨by omega,this.2⟩
    | none=>
     rw[a] at h;by_cases b:hit s k=true
     ·simp only[b,if_true] at h;obtain rfl:=Option.some.inj h;exact⟨by omega,b⟩
     ·simp only[b] at h;cases h
  obtain⟨f,a⟩:=c k d;rw[BK Om Om a h]
def mW(s:Nat→UInt8):Prop:=s 0=0∧s 1=0∧s 2=0∧s 3=0
instance (s:Nat→UInt8):Decidable (mW s):=by unfold mW;exact inferInstance
def fZ(s:Nat→UInt8):Vd:=if mW s then⟨0, -1,0⟩ else match k6 s 39 with
 | some i=>if 35<i then⟨2,i,s 0⟩ else⟨1,i,s 0⟩
 | none=>⟨3, -1,0⟩
theorem Kj{s:Nat→UInt8}(h:mW s):fZ s=⟨0, -1,0⟩:=ALifp h
theorem BN{s:Nat→UInt8}{i:Nat}(h:hit s i=true): ¬mW s:=λa=>((pA s i).1 h).1 a.1
theorem Kk{s:Nat→UInt8}{i:Nat}(a:i≤35)(h:hit s i=true):fZ s=⟨1,i,s 0⟩:=by
 unfold fZ;rw[ALifn (BN h),BM Om (show i<39 by omega) h];exact ALifn Om
theorem Kl{s:Nat→UInt8}{i:Nat}(h1:35<i)(a:i<39)(h:hit s i=true):fZ s=⟨2,i,s 0⟩:=by
 unfold fZ;rw[ALifn (BN h),BM Om a h];exact ALifp h1
theorem xg{s:Nat→UInt8}(h0: ¬mW s)(h: ∀i,i<39→hit s i=false):fZ s=⟨3, -1,0⟩:=by
 unfold fZ;rw[ALifn h0,BL.2 h]
theorem Km{s:Nat→UInt8}{r:UInt8}(h0:s 0≠0)(c:gm r (s 0)=s 1)(a:r≠0)(h2:s 2=gm (s 1) r)(b:s 3=gm (s 2) r):hit s (gL r.toNat)=true:=by
 rw[pA,Kh a];exact⟨h0,by rw[←c,k5],h2,b⟩
theorem BO{s:Nat→UInt8}{r:UInt8}(k:gm r (s 0)=s 1)(h:r=0∨s 2≠gm (s 1) r∨s 3≠gm (s 2) r)(i:Nat):hit s i=false:=by
 cases j:hit s i with
 | false=>rfl
 | true=>
  exfalso;obtain⟨b,c,d,f⟩:=(pA s i).1 j;have e:r=pw 2 i:=BJ b (by rw[k5,k,c]);subst e;rcases h with h | h | h
  ·have a:=ua i;rw[h] at a;have g: ∀m,m<255→gE m≠0:=by decide+kernel
   exact g (i%255) (V5 _ Om) a.symm
  ·exact h d
  ·exact h f
def Vn:List UInt8:=JD [1,2,4,8]
theorem Kn:Vn=[64,120,54,15,1]:=by decide+kernel
def gi(x:UInt8):UInt8:=UInt8.ofNat (mU 1 x.toNat)
theorem Ko(x:UInt8):(gi x).toNat=mU 1 x.toNat:=by unfold gi;rw[Wc];exact VN (Bl _ _)
theorem Kp{x:UInt8}(h:x≠0):gm x (gi x)=1:=by
 rw[k5];apply UInt8.toNat_inj.1;rw[kv,Ko,Bm _ _ Om x.toNat_lt (λe=>h (UInt8.toNat_inj.1 e))];rfl
def BP(d v:List UInt8):List UInt8:=VA 4 0++d++v
def mX(d v:List UInt8):List UInt8:=dV (BP d v) Vn (gi (co Vn (a2 Vn-1)))
def iG(d v:List UInt8):List UInt8:=fY 4 (co (mX d v))
theorem jG(d v:List UInt8):(iG d v).length=4:=jq _ _
theorem qR:a2 Vn=5:=by
 have h:=BC [1,2,4,8] 4;exact h
theorem Kq:Vn.length=5:=by rw[Kn];rfl
theorem BQ(d v:List UInt8):(mX d v).length≤4:=by
 have h:=(JI (p:=BP d v) (q:=Vn) (t:=gi (co Vn (a2 Vn-1))) (by rw[qR];omega) (Kp (ow Vn (t:=a2 Vn-1) (by rw[qR])))).2;rw[JJ,qR] at h;exact Nat.le_of_lt_succ h
theorem Ks(d v:List UInt8):mX d v++(VA 4 (0:UInt8)).drop (mX d v).length=iG d v:=by
 have c:=BQ d v;refine qP (by rw[jG];simp;omega) λi b=>?_;have a:i<4:=by simp at b;omega
 unfold iG;rw[l0,ALifp a];unfold co;rw[VJ,VJ];by_cases h:i<(mX d v).length
 ·rw[Wg h]
 ·rw[VO Om,VQ (l:=mX d v) Om,List.getElem?_drop];rw[show(mX d v).length+(i-(mX d v).length)=i by omega,List.getElem?_replicate,ALifp a];rfl
def xh(w v:List UInt8)(j:Nat):UInt8:=mV (w++v) (pw 2 j)
def aZ(w v:List UInt8):List UInt8:=fY 4 (xh w v)
theorem xi(w v:List UInt8):(aZ w v).length=4:=jq _ _
def kx(w v:List UInt8)(k:Nat):List UInt8:=fY 4 λj=>if j<k then xh w v j else 0
theorem xj(w v:List UInt8)(k:Nat):(kx w v k).length=4:=jq _ _
theorem Kt(w v:List UInt8):kx w v 0=VA 4 0:=BD _ _ λi _=>ALifn Om
theorem Ku(w v:List UInt8):kx w v 4=aZ w v:=tX λi a=>ALifp a
theorem Kv(w v:List UInt8)(k:Nat):(kx w v k).set k (xh w v k)=kx w v (k+1):=
 xb _ _ _ _ _ λi _=>by
  by_cases e:i=k
  ·subst e;rw[ALifp Om,ALifp rfl]
  ·rw[ALifn e];by_cases h:i<k
   ·rw[ALifp Om,ALifp h]
   ·rw[ALifn Om,ALifn h]
def gd(x y:UInt8):UInt8:=UInt8.ofNat (mU x.toNat y.toNat)
theorem Kw(x y:UInt8):(gd x y).toNat=mU x.toNat y.toNat:=by unfold gd;rw[Wc];exact VN (Bl _ _)
theorem BR(x:UInt8){y:UInt8}(a:y≠0):gm (gd x y) y=x:=by
 apply UInt8.toNat_inj.1;rw[kv,Kw,Bm _ _ x.toNat_lt y.toNat_lt (λe=>a (UInt8.toNat_inj.1 e))]
theorem Kx{s:Nat→UInt8}(h:(((fZ s).A:Int)==1)=true): ∃i:Nat,i≤35∧(fZ s).place=(i:Int):=by
 unfold fZ at h⊢;by_cases c:mW s
 ·rw[ALifp c] at h;cases h
 ·rw[ALifn c] at h⊢;cases b:k6 s 39 with
  | none=>rw[b] at h;cases h
  | some i=>
   rw[b] at h;by_cases a:35<i
   ·simp only[ALifp a] at h;cases h
   ·exact⟨i,by omega,by simp only[ALifn a]⟩
def gI(d v:List UInt8):List UInt8:=bif ((fZ (co (aZ d v))).A:Int)==1 then(d.set (fZ (co (aZ d v))).place.toNat ((d.getD (fZ (co (aZ d v))).place.toNat 0)^^^(fZ (co (aZ d v))).val)).drop 4 else d.drop 4
namespace E
section
open Go Go.Shelf Go.RowKit
attribute [local irreducible] a2 ay gV gU dV aO aV
def jr:Nat→List UInt8
 | 0=>[]
 | k+1=>jr k++[j0 (aO.getD (dx 1) 0) k]
theorem xk: ∀k,(jr k).length=k
 | 0=>rfl
 | k+1=>by rw[jr,VE,xk k];rfl
theorem Ky:gV (jr 4) (jr 4).length=Vn:=by decide+kernel
theorem Kz(g:Nat):aa VB 141 #[pt g 0] [ob g (rB 255 aO++rN 256 aV).toArray 312] [] (λE=>[ob (E.y 0) #[pt g 0,(E.val 0)] 309,bt (E.val 0) Vn]) (λE=>pt ((E.y 0)) 0):=by
 refine fG Tryz.func141 λw cs=>r0 [] [(2,.pointer none)] [] (ra (λq2=>[(3,pt (B0 q2) 0)]) (λq2=>[ob (B0 q2) #[.slice none 0 0] 191]) λq2=>rr (λ_=>[(2,.c [0] [] (tS g 1 Om Om)),(3,.c [] [2,3,4] (Jl g (aO.getD (dx 1) 0) 4))]) (λq3=>[(9,.func (.func 216) #[] #[pt ((B3 q3)) 0,pt (((q3 3).y 1)) 0,pt (((q3 3).y 2)) 0])]) [] (λq3 L=>L++[ob (B3 q3) #[i6 4] 3,ob ((q3 3).y 1) #[pt g 0] 239,ob ((q3 3).y 2) #[u1 ((aO.getD (dx 1) 0).toNat:Int)] 5]) λq3=>cz kB (cz kB ?_))
 refine H8 (encs:=λ(x:Nat×UInt8)=>#[i6 (x.1:Int),u1 (x.2.toNat:Int)]) (xs:=(VL 4).map λk=>(k,j0 (aO.getD (dx 1) 0) k)) (KO:=[[((B3 q3),.cells #[i6 4] 3 (0,0))],[(((q3 3).y 1),.cells #[pt g 0] 239 (0,0))],[(((q3 3).y 2),.cells #[u1 ((aO.getD (dx 1) 0).toNat:Int)] 5 (0,0))],[(g,.cells (rB 255 aO++rN 256 aV).toArray 312 (0,0))]]) (Jm (B3 q3) ((q3 3).y 1) ((q3 3).y 2) g (aO.getD (dx 1) 0)) (enters_of Tryz.func216 Kr rfl) (λj _=>j≤4) (λj vC3_0 L=>(L.set 1 (ob (B0 q2) #[vC3_0] 191)).set 6 (bt vC3_0 (jr j))) [2,3,4,0] (.slice none 0 0) Om Kr (λlR j vC3_0 xE R1 W1 hxE hk5=>?_) (λD4 vC3_0 hk5=>?_)
 ·obtain⟨hkb6,rfl⟩:=nn hxE
  have hpl:=xk j
  refine r0 [] [(5,u1 ((j0 (aO.getD (dx 1) 0) j).toNat:Int))] [] ?_
  refine ag [2,3,4,0] (λR2 W2=>?_)
  exact rr (λq8=>[(0,.l 1),(2,.m (bs 7 1)),(3,fp kB (vC3_0) (jr j) 6 7 ([(j0 (aO.getD (dx 1) 0) j)])),(4,.m (fz 1 6 (bt ((q8 3).val 0) ((jr j)++([(j0 (aO.getD (dx 1) 0) j)]))) ((q8 3).val 0) λbs h=>ar.one ((λ_ h=>h) bs h)))]) N0 [] (λq8 L=>(L.set 1 (ob (B0 q2) #[(q8 3).val 0] 191)).set 6 (bt ((q8 3).val 0) ((jr j)++([(j0 (aO.getD (dx 1) 0) j)])))++[ob (B2 q8) #[u1 ((j0 (aO.getD (dx 1) 0) j).toNat:Int)] 5]) λq8=>ne _ ⟨(q8 3).val 0,Om,rfl⟩ [0,1,2,3,4,5,6] Kr
 have hpe:=xk 4
 exact rr (λq9=>[(2,.l 1),(3,.c [0,6] [7] (aa.at (rd':=[ob g (rB 255 aO++rN 256 aV).toArray 312,bt vC3_0 (jr 4)]) (Kf g vC3_0 (jr 4) Om) (aK (bM (λ_ h=>ar.sq h) (λ_ h=>h))))),(4,IA (v:= .agg #[pt g 0,((q9 3).val 0)]) 7 (bt ((q9 3).val 0) (gV (jr 4) (jr 4).length)) (Instr.build 309 #[(0,pt g 0),(1,((q9 3).val 0))]) (λbs h w=>by obtain⟨a5,c5,e5⟩:=ar.form h;rw[e5];kernel_rfl))]) (λq9=>[(2,pt (B5 q9) 0)]) [2] (λq9 L=>L++[bt ((q9 3).val 0) (gV (jr 4) (jr 4).length),ob (B5 q9) #[pt g 0,((q9 3).val 0)] 309]) λq9=>lf (.l [(q9 5).y 0] [] [((q9 3).val 0)]) [8,7] [(0,0)] [] (hf:=by rw[←Ky];kernel_rfl)
def tG:UInt8:=bJ 1 (Vn.getD 4 0)
theorem KA:tG=Go.Proofs.YtbcodenfkijdnaaGreat.gi (Go.Proofs.YtbcodenfkijdnaaGreat.co Vn (a2 Vn-1)):=by
 rw[qR];decide+kernel
theorem BS(d v:List UInt8):dV ((VA 4 0++d)++v) Vn tG=mX d v:=by rw[KA];rfl
theorem KB:Vn.length=5:=Kq
attribute [local irreducible] Vn
end
section
open Go Go.Shelf Go.RowKit
attribute [local irreducible] a2 ay gV gU dV aO aV Vn
attribute [local irreducible] mV
theorem KC{k:Nat}(h:k<4):aO.getD (dx (k:Int)) 0=Go.Proofs.YtbcodenfkijdnaaGreat.pw 2 k:=by
 have: ∀k:Nat,k<4→aO.getD (dx (k:Int)) 0=Go.Proofs.YtbcodenfkijdnaaGreat.pw 2 k:=by decide+kernel
 exact this k h
theorem KD{w v:List UInt8}{k:Nat}(h:k<4):kx w v (k+1)=(kx w v k).set k (mV (w++v) (aO.getD (dx (k:Int)) 0)):=by
 rw[←Kv,KC h];rfl
attribute [local irreducible] kx
theorem KE(j g:Nat)(u:Value)(d v:List UInt8)(f:d.length=36)(hv:v.length=3):aa VB 256 #[pt j 0,.agg (rB 36 d).toArray,.agg (rB 3 v).toArray] [ob j #[pt g 0,u] 309,ob g (rB 255 aO++rN 256 aV).toArray 312,.p (aH eB u Vn)] [] N0 (λ_=> .agg (rB 4 (aZ d v)).toArray):=by
 refine fO Tryz.func256 2 rfl λi t=>fG Tryz.func256 λw x=>?_;have r:(([]++d)++v).length=39:=by rw[WC,VE,f,hv]
 refine ra (λa=>[(4,pt (B0 a) 0),(5,pt (B1 a) 0),(6,pt (B2 a) 0)]) (λa=>[ob (B0 a) (rB 36 d).toArray 371,ob (B1 a) (rB 3 v).toArray 262,ob (B2 a) (rB 4 (VA 4 0)).toArray 268]) λa=>ra (λe=>[(7,pt (B0 e) 0)]) (λe=>[ob (B0 e) (rB 4 (VA 4 0)).toArray 268]) λe=>rr (λb=>[(0,.m (qw 7 eB ([u1 0]) 5)),(1,aS 371 (B0 a) 36 1),(2,.m (lQ 7 3 oi (.slice (some ⟨(b 0).y 0,0,none⟩) 0 0) (.slice (some ⟨(a 0).y 0,0,none⟩) 36 36) (xs:=[]) (ys:=d) (ob (B0 a) (rB 36 d).toArray 371) (λ_ h=>by rw[show _=_ from h];exact ot (λ_=>rfl) f) oh (λ_=>rfl) (by simp only[LL,xj,f,hv];omega))),(3,aS 262 (B1 a) 3 1),(4,.m (lQ 7 4 oi ((b 2).val 0) (.slice (some ⟨(a 1).y 0,0,none⟩) 3 3) (xs:=[]++d) (ys:=v) (ob (B1 a) (rB 3 v).toArray 262) (λ_ h=>by rw[show _=_ from h];exact ot (λ_=>rfl) hv) oh (λ_=>rfl) (by simp only[LL,xj,f,hv];omega)))]) (λb=>[(8,(b 4).val 0)]) [] (λb L=>L++[bt ((b 4).val 0) (([]++d)++v)]) λb=>r0 [] [(15,i6 0)] [] ?_;refine lq (λk=>k≤4) (λk=>[(15,iN k)]) (λk L=>L.set 6 (ob (B0 e) (rB 4 (kx d v k)).toArray 268)) (λk=>4-k) 0 Om Kr (by rw[Kt];kernel_rfl) (λk q=>?_);refine r0 [] [(16,.bool (decide ((k:Int)<4)))] [] ?_;refine b0 (k:Int) 4 (λo n=>?_) λo n=>?_
 ·exact r0 [] [(9,iN k)] [] (rs [(4,.l 0),(9,.l 0),(11,.c [1] [] (tS g (k:Int) Om Om)),(12,.c [1,7] [] (aa.at (rd':=[ob g (rB 255 aO++rN 256 aV).toArray 312,bt ((b 4).val 0) (([]++d)++v)]) (Ke g ((b 4).val 0) (([]++d)++v) (aO.getD (dx (k:Int)) 0) Om) (aK (bM (λ_ h=>ar.sq h) (λ_ h=>h))))),(13,iA 268 .i64 (B0 e) 0 4 1 k),(14,wD 6 (B0 e) k 268 (u1 ((mV (([]++d)++v) (aO.getD (dx (k:Int)) 0)).toNat:Int)) (rB 4 (kx d v k)) (rB 4 ((kx d v k).set k (mV (([]++d)++v) (aO.getD (dx (k:Int)) 0)))) (jk Om) (lP (xj ..)))] 6 (ob (B0 e) (rB 4 ((kx d v k).set k (mV (([]++d)++v) (aO.getD (dx (k:Int)) 0)))).toArray 268) (r0 [(0,ad k 1)] [(15,iN (k+1))] [15] (le (k+1) Om Om Kr [0,1,2,3,4,5,6,7] (by rw[KD Om];kernel_rfl))))
 obtain rfl:k=4:=by omega
 exact cl [ob j #[pt g 0,u] 309,ob g (rB 255 aO++rN 256 aV).toArray 312,.c i,ob (B0 a) (rB 36 d).toArray 371,ob (B1 a) (rB 3 v).toArray 262,ob (B2 a) (rB 4 (VA 4 0)).toArray 268,ob (B0 e) (rB 4 (aZ d v)).toArray 268,bt ((b 4).val 0) (([]++d)++v)] (by rw[Ku];kernel_rfl) (lx (rs [(0,.l 6),(1,.s 5)] 5 (ob (B2 a) (rB 4 (aZ d v)).toArray 268) (lf ab.zero [] [(0,0),(1,1),(2,2)] [5])))
theorem xl:aa VB 273 #[] [] [] N0 (λ_=> .agg #[i6 3,i6 (-1),u1 0]):=by
 exact fG Tryz.func273 λw b=>ra (λa=>[(0,pt (B0 a) 0)]) (λa=>[ob (B0 a) #[i6 0,i6 0,u1 0] 368]) λa=>rs [(1,.s 0)] 0 (ob (B0 a) #[i6 3,i6 (-1),u1 0] 368) (lf ab.zero [] [] [0])
end
section
open Go Go.Shelf Go.RowKit
attribute [local irreducible] a2 ay gV gU dV aO aV Vn
theorem KF(g:Nat)(v u:Value)(p G:List UInt8)(t:UInt8)(c:a2 G=5)(a:G.length=5)(ht:bJ 1 (G.getD 4 0)=t)(hp:p.length≤50000)(b:4≤p.length):aa VB 203 #[pt g 0,v,u] [ob g (rB 255 aO++rN 256 aV).toArray 312,.p (aH eB v p),.p (aH eB u G)] [] (λE=>[bt (E.val 0) (dV p G t)]) (λE=> .tuple #[(E.val 0),i6 0]):=
 Ka g v u p G 4 t hp (by rw[a];decide) c b ht
theorem KG(f g:Nat)(u:Value)(d v G:List UInt8)(t:UInt8)(k:d.length=32)(hv:v.length=3)(q:a2 G=5)(i:G.length=5)(ht:bJ 1 (G.getD 4 0)=t)(x:(dV ((VA 4 0++d)++v) G t).length≤4)(r:List UInt8)(z:dV ((VA 4 0++d)++v) G t++(VA 4 (0:UInt8)).drop (dV ((VA 4 0++d)++v) G t).length=r):aa VB 161 #[pt f 0,.agg (rB 32 d).toArray,.agg (rB 3 v).toArray] [ob f #[pt g 0,u] 309,ob g (rB 255 aO++rN 256 aV).toArray 312,.p (aH eB u G)] [] N0 (λ_=> .agg (rB 4 r).toArray):=by
 refine fO Tryz.func161 2 rfl λn o=>fG Tryz.func161 λw A=>?_;have y:((VA 4 (0:UInt8)++d)++v).length=39:=by rw[VE,VE,VH,k,hv]
 exact ra (λa=>[(4,pt (B0 a) 0),(5,pt (B1 a) 0),(6,pt (B2 a) 0)]) (λa=>[ob (B0 a) (rB 32 d).toArray 267,ob (B1 a) (rB 3 v).toArray 262,ob (B2 a) (rB 4 (VA 4 0)).toArray 268]) λa=>ra (λj=>[(7,pt (B0 j) 0)]) (λj=>[ob (B0 j) (rB 4 (VA 4 0)).toArray 268]) λj=>rr (λb=>[(0,qI kB 7 4),(1,aS 267 (B0 a) 32 1),(2,.m (lQ 7 3 oi (.slice (some ⟨(b 0).y 0,0,none⟩) 4 4) (.slice (some ⟨(a 0).y 0,0,none⟩) 32 32) (xs:=VA 4 0) (ys:=d) (ob (B0 a) (rB 32 d).toArray 267) (λ_ h=>by rw[show _=_ from h];exact ot (λ_=>rfl) k) oh (λ_=>rfl) (by simp only[LL,k,hv,i];omega))),(3,aS 262 (B1 a) 3 1),(4,.m (lQ 7 4 oi ((b 2).val 0) (.slice (some ⟨(a 1).y 0,0,none⟩) 3 3) (xs:=(VA 4 0)++d) (ys:=v) (ob (B1 a) (rB 3 v).toArray 262) (λ_ h=>by rw[show _=_ from h];exact ot (λ_=>rfl) hv) oh (λ_=>rfl) (by simp only[LL,k,hv,i];omega)))]) (λb=>[(8,(b 4).val 0)]) [] (λb L=>L++[bt ((b 4).val 0) (((VA 4 0)++d)++v)]) λb=>rr (λe=>[(0,.v (pt f 0)),(1,.v (pt f 0)),(2,.v (pt f 0)),(3,.m (ld 0 (pt g 0))),(4,.v ((b 4).val 0)),(5,.v (pt f 0)),(6,.v (pt f 0)),(7,.v (pt f 1)),(8,.m (ld 0 (u))),(9,.c [1,7,2] [8] (aa.at (rd':=[ob g (rB 255 aO++rN 256 aV).toArray 312,bt ((b 4).val 0) (((VA 4 0)++d)++v),.c n]) (KF g ((b 4).val 0) u ((((VA 4 0)++d)++v)) G t q i ht Om Om) (aK (bM (λ_ h=>ar.sq h) (ei o (λ_ h=>h)))))),(10,.v (.tuple #[(e 9).val 0,i6 0])),(11,.v ((e 9).val 0)),(12,.v (i6 0)),(13,.v ((e 9).val 0)),(14,.v (i6 0))]) (λe=>[(9,(e 9).val 0),(10,i6 0)]) [] (λe L=>L++[bt ((e 9).val 0) (dV ((((VA 4 0)++d)++v)) (G) t)]) λe=>rT [] 30 (rs [(0,aS 268 (B0 j) 4 1),(2,.m (tK kB 6 (B0 j) 0 4 4 (rB 4 (VA 4 0)).toArray (rB 4 ((VA 4 0).take 0++(dV ((((VA 4 0)++d)++v)) (G) t)++(VA 4 0).drop (0+((dV ((((VA 4 0)++d)++v)) (G) t).length)))).toArray 268 191 191 8 (bt ((e 9).val 0) (dV ((((VA 4 0)++d)++v)) (G) t)) ((e 9).val 0) (dV ((((VA 4 0)++d)++v)) (G) t) (λ_ h=>ar.src h) Om (by rw[VG,jZ];omega) (ALca WN (qt (d:=0) (λ_=>rfl) VH rfl Om))))] 6 (ob (B0 j) (rB 4 ((VA 4 0).take 0++(dV ((((VA 4 0)++d)++v)) (G) t)++(VA 4 0).drop (0+((dV ((((VA 4 0)++d)++v)) (G) t).length)))).toArray 268) (rs [(0,.l 6),(1,.s 5)] 5 (ob (B2 a) (rB 4 ((VA 4 0).take 0++(dV ((((VA 4 0)++d)++v)) (G) t)++(VA 4 0).drop (0+((dV ((((VA 4 0)++d)++v)) (G) t).length)))).toArray 268) (ak (.agg (rB 4 ((VA 4 0).take 0++(dV ((((VA 4 0)++d)++v)) (G) t)++(VA 4 0).drop (0+((dV ((((VA 4 0)++d)++v)) (G) t).length)))).toArray) ab.zero (by rw[VV,Xm,WC,z]) [] [(0,0),(1,1),(2,2)] [5])))
theorem KH(a g:Nat)(u:Value)(d v:List UInt8)(b:d.length=32)(hv:v.length=3):aa VB 161 #[.pointer (some ⟨a,0,none⟩),.agg (rB 32 d).toArray,.agg (rB 3 v).toArray] [ob a #[.pointer (some ⟨g,0,none⟩),u] 309,ob g (rB 255 aO++rN 256 aV).toArray 312,.p (aH eB u Vn)] [] N0 (λ_=> .agg (rB 4 (iG d v)).toArray):=
 KG a g u d v Vn tG b hv qR KB rfl (by rw[BS];exact BQ d v) (iG d v) (by rw[BS];exact Ks d v)
theorem KJ{P:Program}{T:TypeId}{x y:Operand}{w:World}{k:Nat}(h:k<9223372036854775807):(av .sub T x y (.int .i64 ((k+1:Nat):Int)) (.int .i64 1)).run P w= .ok (.int .i64 (k:Int)) w:=k4 (a:=k+1) (b:=1) Om Om
def fc(s:List UInt8):Nat:=(fZ (Go.Proofs.YtbcodenfkijdnaaGreat.co s)).A
def cQ(s:List UInt8):Int:=(fZ (Go.Proofs.YtbcodenfkijdnaaGreat.co s)).place
def eJ(s:List UInt8):UInt8:=(fZ (Go.Proofs.YtbcodenfkijdnaaGreat.co s)).val
def nF(s:List UInt8):Value:= .agg #[.int .i64 ((fc s:Nat):Int),.int .i64 (cQ s),.int .u8 ((eJ s).toNat:Int)]
theorem pB{s:List UInt8}{k:Nat}{p:Int}{v:UInt8}(h:fZ (Go.Proofs.YtbcodenfkijdnaaGreat.co s)=⟨k,p,v⟩):Value.agg #[.int .i64 (k:Int),.int .i64 p,.int .u8 (v.toNat:Int)]=nF s:=by
 unfold nF fc cQ eJ;rw[h]
theorem ub{b:UInt8}(h:b≠0):((b.toNat:Int)==0)=false:=beq_false_of_ne λe=>h (UInt8.toNat_inj.1 (by show b.toNat=0;omega))
theorem BT(a:UInt8){b:UInt8}(h:b≠0):bJ a b=Go.Proofs.YtbcodenfkijdnaaGreat.gd a b:=by
 unfold bJ Go.Proofs.YtbcodenfkijdnaaGreat.gd mU;rw[ub h,ALcf];by_cases c:a=0
 ·subst c;rfl
 ·have d:a.toNat≠0:=λe=>c (UInt8.toNat_inj.1 e);have f:=py a;have g:=py b;rw[ub c,ALcf,ALifn d,Bv (w7 _)]
  congr 2
  unfold dx gL;omega
theorem BU{s:List UInt8}(hs:s.length=4):decide (s=VA 4 0)=decide (mW (Go.Proofs.YtbcodenfkijdnaaGreat.co s)):=by
 rw[decide_eq_decide]
 constructor
 ·rintro rfl;exact⟨rfl,rfl,rfl,rfl⟩
 ·rintro ⟨a,b,c,d⟩;refine qP (by rw[hs,VH]) λi e=>?_;rw[hs] at e;have:i=0∨i=1∨i=2∨i=3:=by omega
  rcases this with rfl | rfl | rfl | rfl
  ·exact a
  ·exact b
  ·exact c
  ·exact d
theorem KK{s:List UInt8}(hs:s.length=4)(h:decide (s=VA 4 0)=true):Value.agg #[.int .i64 0,.int .i64 (-1),.int .u8 0]=nF s:=
 pB (k:=0) (p:= -1) (v:=0) (Kj (of_decide_eq_true (BU hs▸h)))
theorem xm{s:List UInt8}(hs:s.length=4)(h:decide (s=VA 4 0)=false): ¬mW (Go.Proofs.YtbcodenfkijdnaaGreat.co s):=of_decide_eq_false (BU hs▸h)
theorem BV{s:List UInt8}(h:((fC (s.getD 0 0) != 0)||(((bJ (s.getD 1 0) (s.getD 0 0)).toNat:Int)==0))=false):Go.Proofs.YtbcodenfkijdnaaGreat.co s 0≠0∧gm (bJ (s.getD 1 0) (s.getD 0 0)) (Go.Proofs.YtbcodenfkijdnaaGreat.co s 0)=Go.Proofs.YtbcodenfkijdnaaGreat.co s 1∧bJ (s.getD 1 0) (s.getD 0 0)≠0:=by
 rw[WU] at h;have a:s.getD 0 0≠0:=λe=>by rw[e] at h;exact absurd h.1 Dc
 refine⟨a,?_,λe=>by rw[e] at h;exact absurd h.2 Dc⟩;rw[BT _ a];exact BR (s.getD 1 0) a
theorem KL{s:List UInt8}(hs:s.length=4)(b:decide (s=VA 4 0)=false)(h:((fC (s.getD 0 0) != 0)||(((bJ (s.getD 1 0) (s.getD 0 0)).toNat:Int)==0))=true):Value.agg #[.int .i64 3,.int .i64 (-1),.int .u8 0]=nF s:=by
 refine pB (k:=3) (p:= -1) (v:=0) (xg (xm hs b) λi _=>?_);by_cases a:s.getD 0 0=0
 ·cases c:hit (Go.Proofs.YtbcodenfkijdnaaGreat.co s) i with
  | false=>rfl
  | true=>exact absurd a ((pA _ _).1 c).1
 ·rw[BH a,Ws] at h;refine BO (r:=bJ (s.getD 1 0) (s.getD 0 0)) ?_ (.inl (tT h)) i;rw[BT _ a];exact BR (s.getD 1 0) a
def rR(s:List UInt8):UInt8:=bJ (s.getD 1 0) (s.getD 0 0)
theorem KM{s:List UInt8}{k:Nat}(b: ∀j,j<k→s.getD (j+1) 0=gm (s.getD j 0) (rR s))(h:((s.getD (k+1) 0).toNat:Int)=((gm (s.getD k 0) (bJ (s.getD 1 0) (s.getD 0 0))).toNat:Int)): ∀j,j<k+1→s.getD (j+1) 0=gm (s.getD j 0) (rR s):=by
 intro j c;rcases VZ j k with a | a
 ·exact b j a
 ·obtain rfl:j=k:=by omega
  exact UInt8.toNat_inj.1 (Int.ofNat.inj h)
theorem KN{s:List UInt8}{k:Nat}(hs:s.length=4)(d:decide (s=VA 4 0)=false)(f:((fC (s.getD 0 0) != 0)||(((bJ (s.getD 1 0) (s.getD 0 0)).toNat:Int)==0))=false)(l:((k+1:Nat):Int)<4)(h:((s.getD (k+1) 0).toNat:Int)≠((gm (s.getD k 0) (bJ (s.getD 1 0) (s.getD 0 0))).toNat:Int)):Value.agg #[.int .i64 3,.int .i64 (-1),.int .u8 0]=nF s:=by
 obtain⟨g,c,j⟩:=BV f;have a:s.getD (k+1) 0≠gm (s.getD k 0) (bJ (s.getD 1 0) (s.getD 0 0)):=λe=>h (by rw[e]);refine pB (k:=3) (p:= -1) (v:=0) (xg (xm hs d) λi _=>BO c ?_ i);have b:k=0∨k=1∨k=2:=by omega
 rcases b with rfl | rfl | rfl
 ·exact absurd (c.symm.trans (k5 _ _)) a
 ·exact .inr (.inl a)
 ·exact .inr (.inr a)
theorem xn{s:List UInt8}{k:Nat}(e:((fC (s.getD 0 0) != 0)||(((bJ (s.getD 1 0) (s.getD 0 0)).toNat:Int)==0))=false)(g:k≤3)(f:4≤((k+1:Nat):Int))(b: ∀j,j<k→s.getD (j+1) 0=gm (s.getD j 0) (rR s)):hit (Go.Proofs.YtbcodenfkijdnaaGreat.co s) (gL (rR s).toNat)=true∧gv (bJ (s.getD 1 0) (s.getD 0 0))=gL (rR s).toNat∧(lX (bJ (s.getD 1 0) (s.getD 0 0)) != 0)=false∧gL (rR s).toNat<255:=by
 obtain⟨c,d,a⟩:=BV e;obtain rfl:k=3:=by omega
 refine⟨Km c d a (b 1 Om) (b 2 Om),?_,?_,Ki a⟩
 ·unfold gv;rw[ub a];rfl
 ·unfold lX;rw[ub a];rfl
theorem KP{s:List UInt8}{k:Nat}(hs:s.length=4)(f:decide (s=VA 4 0)=false)(l:((fC (s.getD 0 0) != 0)||(((bJ (s.getD 1 0) (s.getD 0 0)).toNat:Int)==0))=false)(o:k≤3)(a:4≤((k+1:Nat):Int))(m: ∀j,j<k→s.getD (j+1) 0=gm (s.getD j 0) (rR s))(h:((lX (bJ (s.getD 1 0) (s.getD 0 0)) != 0)||decide (39≤((gv (bJ (s.getD 1 0) (s.getD 0 0)):Nat):Int)))=true):Value.agg #[.int .i64 3,.int .i64 (-1),.int .u8 0]=nF s:=by
 obtain⟨b,c,d,e⟩:=xn l o a m;rw[d,Ws,c] at h;have g:=of_decide_eq_true h;refine pB (k:=3) (p:= -1) (v:=0) (xg (xm hs f) λi q=>?_);cases n:hit (Go.Proofs.YtbcodenfkijdnaaGreat.co s) i with
 | false=>rfl
 | true=>have:=BK e Om b n;omega
theorem KQ{s:List UInt8}{k:Nat}(g:((fC (s.getD 0 0) != 0)||(((bJ (s.getD 1 0) (s.getD 0 0)).toNat:Int)==0))=false)(l:k≤3)(c:4≤((k+1:Nat):Int))(i: ∀j,j<k→s.getD (j+1) 0=gm (s.getD j 0) (rR s))(h:((lX (bJ (s.getD 1 0) (s.getD 0 0)) != 0)||decide (39≤((gv (bJ (s.getD 1 0) (s.getD 0 0)):Nat):Int)))=false)(a:36≤((gv (bJ (s.getD 1 0) (s.getD 0 0)):Nat):Int)):Value.agg #[.int .i64 2,.int .i64 ((gv (bJ (s.getD 1 0) (s.getD 0 0)):Nat):Int),.int .u8 ((s.getD 0 0).toNat:Int)]=nF s:=by
 obtain⟨d,e,f,m⟩:=xn g l c i;rw[f,Ws] at h;have b:=of_decide_eq_false h;rw[e] at b a⊢;exact pB (k:=2) (Kl Om Om d)
theorem KR{s:List UInt8}{k:Nat}(e:((fC (s.getD 0 0) != 0)||(((bJ (s.getD 1 0) (s.getD 0 0)).toNat:Int)==0))=false)(g:k≤3)(b:4≤((k+1:Nat):Int))(f: ∀j,j<k→s.getD (j+1) 0=gm (s.getD j 0) (rR s))(a:((gv (bJ (s.getD 1 0) (s.getD 0 0)):Nat):Int)<36):Value.agg #[.int .i64 1,.int .i64 ((gv (bJ (s.getD 1 0) (s.getD 0 0)):Nat):Int),.int .u8 ((s.getD 0 0).toNat:Int)]=nF s:=by
 obtain⟨c,d,h,i⟩:=xn e g b f;rw[d] at a⊢;exact pB (k:=1) (Kk Om c)
theorem KS(b g:Nat)(u:Value)(s:List UInt8)(hs:s.length=4):aa VB 255 #[pt b 0,.agg (rB 4 s).toArray] [ob b #[pt g 0,u] 309,ob g (rB 255 aO++rN 256 aV).toArray 312,.p (aH eB u Vn)] [] N0 (λ_=> .agg #[iN (fc s),i6 (cQ s),u1 ((eJ s).toNat:Int)]):=by
 refine fO Tryz.func255 2 rfl λy B=>fG Tryz.func255 λw G=>ra (λa=>[(3,pt (B0 a) 0),(4,pt (B1 a) 0)]) (λa=>[ob (B0 a) (rB 4 s).toArray 268,ob (B1 a) #[i6 0,i6 0,u1 0] 368]) λa=>r0 [(0,.l 3),(2,.t (iC 268 λ_ _ _=>wj (xs:=rB 4 s) (ys:=rB 4 (VA 4 0)) Kr (ji hs VH)))] [(11,.bool (decide (s=VA 4 0)))] [] ?_;refine cB (decide (s=VA 4 0)) (λz=>?_) λz=>?_
 ·exact rr (λ_=>[(1,.s 4)]) N0 [] (λ_ L=>L.set 4 (ob (B1 a) #[i6 0,i6 (-1),u1 0] 368)) λH=>ak (.agg #[i6 0,i6 (-1),u1 0]) ab.zero (by exact KK hs As) [] [(0,0),(1,1),(2,2)] [4]
 refine r0 [(0,.v (pt b 0)),(1,.v (pt b 0)),(2,.v (pt b 0)),(3,.m (ld 0 (pt g 0))),(4,.v (pt (B0 a) 1)),(5,.m (ld 3 (u1 ((s.getD 1 0).toNat:Int)))),(6,.v (pt (B0 a) 0)),(7,.m (ld 3 (u1 ((s.getD 0 0).toNat:Int)))),(8,.c [1] [] (Bx g (s.getD 1 0) (s.getD 0 0))),(9,.v (.tuple #[u1 ((bJ (s.getD 1 0) (s.getD 0 0)).toNat:Int),i6 (fC (s.getD 0 0))])),(10,.v (u1 ((bJ (s.getD 1 0) (s.getD 0 0)).toNat:Int))),(11,.v (i6 (fC (s.getD 0 0)))),(12,.v (u1 ((bJ (s.getD 1 0) (s.getD 0 0)).toNat:Int))),(13,.v (i6 (fC (s.getD 0 0))))] [(5,u1 ((bJ (s.getD 1 0) (s.getD 0 0)).toNat:Int)),(6,i6 (fC (s.getD 0 0)))] [] (r0 [] [(30,.bool (((fC (s.getD 0 0)) != 0)||(((bJ (s.getD 1 0) (s.getD 0 0)).toNat:Int)==0)))] [] ?_);refine cB (((fC (s.getD 0 0)) != 0)||(((bJ (s.getD 1 0) (s.getD 0 0)).toNat:Int)==0)) (λA=>?_) λA=>?_
 ·exact rr (λ_=>[(0,.c [] [] (xl)),(1,.s 4)]) N0 [] (λ_ L=>L.set 4 (ob (B1 a) #[i6 3,i6 (-1),u1 0] 368)) λI=>ak (.agg #[i6 3,i6 (-1),u1 0]) ab.zero (by exact KL hs As As) [] [(0,0),(1,1),(2,2)] [4]
 refine r0 [] [(7,i6 1)] [] ?_;refine lq (λk=>k≤3∧(∀j,j<k→s.getD (j+1) 0=gm (s.getD j 0) (rR s))) (λk=>[(7,iN (k+1))]) (λ_ L=>L) (λk=>3-k) 0 ⟨by omega,λ_ h=>absurd h (Xk _)⟩ Kr Kr (λk ⟨x,i⟩=>?_);refine r0 [] [(33,.bool (decide (((k+1:Nat):Int)<4)))] [] ?_;refine b0 ((k+1:Nat):Int) 4 (λn d=>?_) λn d=>?_
 ·refine r0 [(0,.v (iN (k+1))),(1,iA 268 .i64 (B0 a) 0 4 1 (k+1)),(2,rD 3 (B0 a) (k+1) 268 (rB 4 s) (nt Om)),(3,.v (pt b 0)),(4,.v (pt b 0)),(5,.v (pt b 0)),(6,.m (ld 0 (pt g 0))),(7,.v (iN (k+1))),(8,.t (tv (av .sub 3 (.tmp 43) (.const (i6 1)) (iN (k+1)) (i6 1)) (λ_=>KJ Om))),(9,iA 268 .i64 (B0 a) 0 4 1 k),(10,rD 3 (B0 a) k 268 (rB 4 s) (nt Om)),(11,.v (u1 ((bJ (s.getD 1 0) (s.getD 0 0)).toNat:Int))),(12,.c [1] [] (pz g (s.getD k 0) (bJ (s.getD 1 0) (s.getD 0 0)))),(13,.v (.bool (((s.getD (k+1) 0).toNat:Int) != ((gm (s.getD k 0) (bJ (s.getD 1 0) (s.getD 0 0))).toNat:Int))))] [(49,.bool (((s.getD (k+1) 0).toNat:Int) != ((gm (s.getD k 0) (bJ (s.getD 1 0) (s.getD 0 0))).toNat:Int)))] [] ?_;refine lU ((s.getD (k+1) 0).toNat:Int) ((gm (s.getD k 0) (bJ (s.getD 1 0) (s.getD 0 0))).toNat:Int) (λo e=>?_) λo e=>?_
  ·exact rr (λ_=>[(0,.c [] [] (xl)),(1,.s 4)]) N0 [] (λ_ L=>L.set 4 (ob (B1 a) #[i6 3,i6 (-1),u1 0] 368)) λC=>ak (.agg #[i6 3,i6 (-1),u1 0]) ab.zero (by exact KN hs As As As As) [] [(0,0),(1,1),(2,2)] [4]
  exact r0 [(1,ad (k+1) 1)] [(7,iN ((k+1)+1))] [7] (le (k+1) ⟨by omega,KM i As⟩ Om Kr [0,1,2,3,4] Kr)
 refine lx (r0 [(3,.l 0),(5,.c [1] [] (Jk g (bJ (s.getD 1 0) (s.getD 0 0))))] [(8,iN (gv (bJ (s.getD 1 0) (s.getD 0 0)))),(6,i6 (lX (bJ (s.getD 1 0) (s.getD 0 0))))] [6] (r0 [] [(60,.bool (((lX (bJ (s.getD 1 0) (s.getD 0 0))) != 0)||(decide (39≤(((gv (bJ (s.getD 1 0) (s.getD 0 0))):Nat):Int)))))] [] ?_));refine cB (((lX (bJ (s.getD 1 0) (s.getD 0 0))) != 0)||(decide (39≤(((gv (bJ (s.getD 1 0) (s.getD 0 0))):Nat):Int)))) (λq=>?_) λq=>?_
 ·exact rr (λ_=>[(0,.c [] [] (xl)),(1,.s 4)]) N0 [] (λ_ L=>L.set 4 (ob (B1 a) #[i6 3,i6 (-1),u1 0] 368)) λD=>ak (.agg #[i6 3,i6 (-1),u1 0]) ab.zero (by exact KP hs As As Om As i As) [] [(0,0),(1,1),(2,2)] [4]
 refine r0 [] [(68,.bool (decide (36≤(((gv (bJ (s.getD 1 0) (s.getD 0 0))):Nat):Int))))] [] ?_;refine om 36 (((gv (bJ (s.getD 1 0) (s.getD 0 0))):Nat):Int) (λr f=>?_) λr f=>?_
 ·exact rr (λ_=>[(2,.l 3),(4,.s 4)]) N0 [] (λ_ L=>L.set 4 (ob (B1 a) #[i6 2,iN (gv (bJ (s.getD 1 0) (s.getD 0 0))),u1 ((s.getD 0 0).toNat:Int)] 368)) λF=>ak (.agg #[i6 2,iN (gv (bJ (s.getD 1 0) (s.getD 0 0))),u1 ((s.getD 0 0).toNat:Int)]) ab.zero (by exact KQ As Om As i As As) [] [(0,0),(1,1),(2,2)] [4]
 exact rs [(2,.l 3),(4,.s 4)] 4 (ob (B1 a) #[i6 1,iN (gv (bJ (s.getD 1 0) (s.getD 0 0))),u1 ((s.getD 0 0).toNat:Int)] 368) (ak (.agg #[i6 1,iN (gv (bJ (s.getD 1 0) (s.getD 0 0))),u1 ((s.getD 0 0).toNat:Int)]) ab.zero (by exact KR As Om As i As) [] [(0,0),(1,1),(2,2)] [4])
end
section
open Go Go.Shelf Go.RowKit
attribute [local irreducible] a2 ay gV gU dV aO aV Vn aZ
theorem BW{s:List UInt8}(h:(((fc s:Nat):Int)==1)=true):(cQ s).toNat<36∧cQ s=(((cQ s).toNat:Nat):Int):=by
 obtain⟨i,b,a⟩:=Kx (s:=Go.Proofs.YtbcodenfkijdnaaGreat.co s) h;have:cQ s=(i:Int):=a;omega
theorem KT{d v:List UInt8}(a:d.length=36):((bif ((fc (aZ d v):Nat):Int)==1 then d.set ((cQ (aZ d v)).toNat) ((d.getD ((cQ (aZ d v)).toNat) 0)^^^(eJ (aZ d v))) else d).drop 4).take 32=gI d v:=by
 unfold gI fc cQ eJ;cases ((fZ (Go.Proofs.YtbcodenfkijdnaaGreat.co (aZ d v))).A:Int)==1
 ·rw[ALcf,ALcf,WL (by rw[V7,a];decide)]
 ·rw[ALct,ALct,WL (by rw[V7,VK,a];decide)]
theorem KU(i g:Nat)(u:Value)(d v:List UInt8)(j:d.length=36)(hv:v.length=3):aa VB 229 #[pt i 0,.agg (rB 36 d).toArray,.agg (rB 3 v).toArray] [ob i #[pt g 0,u] 309,ob g (rB 255 aO++rN 256 aV).toArray 312,.p (aH eB u Vn)] [] N0 (λ_=> .tuple #[.agg (rB 32 (gI d v)).toArray,.agg #[iN (fc (aZ d v)),i6 (cQ (aZ d v)),u1 ((eJ (aZ d v)).toNat:Int)]]):=by
 refine fO Tryz.func229 2 rfl λf n=>fG Tryz.func229 λw x=>ra (λe=>[(4,pt (B0 e) 0),(5,pt (B1 e) 0),(6,pt (B2 e) 0),(7,pt (B3 e) 0)]) (λe=>[ob (B0 e) (rB 36 d).toArray 371,ob (B1 e) (rB 3 v).toArray 262,ob (B2 e) (rB 32 (VA 32 0)).toArray 267,ob (B3 e) #[i6 0,i6 0,u1 0] 368]) λe=>rr (λk=>[(2,.l 3),(3,.l 4),(4,.c [0,1,2] [] (aa.at (rd':=[ob i #[pt g 0,u] 309,ob g (rB 255 aO++rN 256 aV).toArray 312,.c f]) (KE i g u d v (by(simp only[LL,xi,j,hv];done)) (by(simp only[LL,xi,j,hv];done))) (aK (aK (ei n (λ_ h=>h)))))),(5,.c [0,1,2] [] (aa.at (rd':=[ob i #[pt g 0,u] 309,ob g (rB 255 aO++rN 256 aV).toArray 312,.c f]) (KS i g u (aZ d v) (by(simp only[LL,xi,j,hv];done))) (aK (aK (ei n (λ_ h=>h)))))),(7,.s 7)]) (λk=>[(8,pt (B6 k) 0)]) [] (λk L=>L++[ob (B6 k) #[iN (fc (aZ d v)),i6 (cQ (aZ d v)),u1 ((eJ (aZ d v)).toNat:Int)] 368]) λk=>r0 [(1,.l 7)] [(17,.bool (((fc (aZ d v):Nat):Int)==1))] [] ?_;refine cJ (((fc (aZ d v):Nat):Int)==1) N0 (λc=>[ob i #[pt g 0,u] 309,ob g (rB 255 aO++rN 256 aV).toArray 312,.c f,ob (B0 e) (rB 36 (bif c then d.set ((cQ (aZ d v)).toNat) ((d.getD ((cQ (aZ d v)).toNat) 0)^^^(eJ (aZ d v))) else d)).toArray 371,ob (B1 e) (rB 3 v).toArray 262,ob (B2 e) (rB 32 (VA 32 0)).toArray 267,ob (B3 e) #[i6 0,i6 0,u1 0] 368,ob (B6 k) #[iN (fc (aZ d v)),i6 (cQ (aZ d v)),u1 ((eJ (aZ d v)).toNat:Int)] 368]) (λq=>?_) (λq=>?_) ?_
 ·have o:=eq_of_beq q;have r:=BW As;refine rs [(1,.m (lt 7 (B6 k) 1 #[iN (fc (aZ d v)),i6 (cQ (aZ d v)),u1 ((eJ (aZ d v)).toNat:Int)] 368 (ALca (λz:Int=>some (Value.int .i64 z)) (BW As).2))),(2,iA 371 .i64 (B0 e) 0 36 1 ((cQ (aZ d v)).toNat)),(3,rD 3 (B0 e) ((cQ (aZ d v)).toNat) 371 (rB 36 d) (nt Om)),(5,.l 7),(6,.t (tb (a:=u1 ((d.getD ((cQ (aZ d v)).toNat) 0).toNat:Int)) (b:=u1 ((eJ (aZ d v)).toNat:Int)) λ_ _ _ _=>kT (d.getD ((cQ (aZ d v)).toNat) 0) ((eJ (aZ d v))))),(7,iA 371 .i64 (B0 e) 0 36 1 ((cQ (aZ d v)).toNat)),(8,wD 3 (B0 e) ((cQ (aZ d v)).toNat) 371 (u1 (((d.getD ((cQ (aZ d v)).toNat) 0)^^^(eJ (aZ d v))).toNat:Int)) (rB 36 d) (rB 36 (d.set ((cQ (aZ d v)).toNat) ((d.getD ((cQ (aZ d v)).toNat) 0)^^^(eJ (aZ d v))))) (jk Om) (lP j))] 3 (ob (B0 e) (rB 36 (d.set ((cQ (aZ d v)).toNat) ((d.getD ((cQ (aZ d v)).toNat) 0)^^^(eJ (aZ d v))))).toArray 371) ?_;exact cm Kr [0,1,2,3,4,5,6,7] Kr
 ·have o:=ne_of_beq_false q;exact cm Kr [0,1,2,3,4,5,6,7] Kr
 exact rr (λ_=>[(0,aL 371 (B0 e) 36 1 4),(1,.t (tv (Instr.arrayAt 267 (.slice (some ⟨(e 0).y 0,4*1,none⟩) 32 32)) (λ_=>run_arrayAt _ 267 5 32 _ _ _ Tryz.underlying267 Om))),(2,.m (lg 3 (B0 e) (4*1) (rB 36 (bif ((fc (aZ d v):Nat):Int)==1 then d.set ((cQ (aZ d v)).toNat) ((d.getD ((cQ (aZ d v)).toNat) 0)^^^(eJ (aZ d v))) else d)).toArray 371 (rB 32 (((bif ((fc (aZ d v):Nat):Int)==1 then d.set ((cQ (aZ d v)).toNat) ((d.getD ((cQ (aZ d v)).toNat) 0)^^^(eJ (aZ d v))) else d).drop 4).take 32)) (wm (λ_=>rfl) (H4 (by rw[VK];exact j) j) Om))),(3,.l 7),(4,.s 5),(5,.s 6)]) N0 [] (λ_ L=>(L.set 5 (ob (B2 e) (rB 32 (((bif ((fc (aZ d v):Nat):Int)==1 then d.set ((cQ (aZ d v)).toNat) ((d.getD ((cQ (aZ d v)).toNat) 0)^^^(eJ (aZ d v))) else d).drop 4).take 32)).toArray 267)).set 6 (ob (B3 e) #[iN (fc (aZ d v)),i6 (cQ (aZ d v)),u1 ((eJ (aZ d v)).toNat:Int)] 368)) λy=>ak (.tuple #[.agg (rB 32 (((bif ((fc (aZ d v):Nat):Int)==1 then d.set ((cQ (aZ d v)).toNat) ((d.getD ((cQ (aZ d v)).toNat) 0)^^^(eJ (aZ d v))) else d).drop 4).take 32)).toArray,.agg #[iN (fc (aZ d v)),i6 (cQ (aZ d v)),u1 ((eJ (aZ d v)).toNat:Int)]]) ab.zero (by rw[KT j]) [] [(0,0),(1,1),(2,2)] [5,6]
end
section
open Go Go.Shelf Go.RowKit
attribute [local irreducible] pc bC
theorem xp(g i:Nat)(x:UInt8)(cl:List UInt8)(a:List Int)(d:i<74)(b:cl.length=74)(ht:a.length=256):aa VB 179 #[pt g 0,iN i,u1 (x.toNat:Int)] [ob g (rB 74 cl++rI 256 a).toArray 298] [0] (λ_=>[ob g (rB 74 (cl.set i x)++rI 256 (a.set x.toNat (i:Int))).toArray 298]) (λ_=> .tuple #[]):=by
 have e:=x.toNat_lt;refine fG Tryz.func179 λw c=>rs [(0,.v (pt g 0)),(1,.v (iN i)),(2,.v (pt g 0)),(3,.v (u1 (x.toNat:Int))),(4,.v (u1 (x.toNat:Int))),(5,.v (iN i)),(6,.v (pt g 0)),(7,.v (pt g 0)),(8,iA 295 .i64 g 0 74 1 i),(9,wM (A:=[]) (R:=rB 74 cl) (C:=(rI 256 a:List Value)) 0 g i 298 (u1 (x.toNat:Int)) (rB 74 cl++rI 256 a) (rB 74 (cl.set i x)++rI 256 a) rfl rfl rfl (jk Om) (lP b)),(10,.v (pt g 0)),(11,.v (pt g 74)),(12,iA 296 .u8 g 74 256 1 x.toNat),(13,wM (A:=(rB 74 (cl.set i x):List Value)) (R:=rI 256 a) (C:=[]) 0 g x.toNat 298 (iN i) (rB 74 (cl.set i x)++rI 256 a) (rB 74 (cl.set i x)++rI 256 (a.set x.toNat (i:Int))) (by rw[VD]) (by rw[VD]) jZ (jk Om) (wh ht))] 0 (ob g (rB 74 (cl.set i x)++rI 256 (a.set x.toNat (i:Int))).toArray 298) ?_;exact eo ab.zero [0] [] []
def xc(cl:List UInt8)(d:Nat):Nat→UInt8
 | 0=>0
 | k+1=>xc cl d k^^^cl.getD ((bC d).getD k 0) 0
theorem BX{d j:Nat}(h:j<(bC d).length):(bC d).getD j 0<64:=by
 have a:(bC d).getD j 0∈bC d:=by
  rw[VJ,VU h];exact Xb h
 unfold bC at a⊢;have:=(FZ 64 0 d _ a).2.1;omega
def bN(d:Nat)(a p:Int)(cl:List UInt8):UInt8:=(bif (p%2)==1 then(bif (a%2)==1 then(xc cl d ((bC d).length))^^^(cl.getD 72 0) else(xc cl d ((bC d).length)))^^^(cl.getD 73 0) else(bif (a%2)==1 then(xc cl d ((bC d).length))^^^(cl.getD 72 0) else(xc cl d ((bC d).length))))
theorem BY(g d:Nat)(a p:Int)(cl:List UInt8)(m:List Int)(I:d<18446744073709551616)(H:cl.length=74)(ht:m.length=256):aa VB 157 #[pt g 0,u6 (d:Int),i6 a,i6 p] [ob g (rB 74 cl++rI 256 m).toArray 298] [] N0 (λ_=>u1 ((bN d a p cl).toNat:Int)):=by
 refine fG Tryz.func157 λw G=>ra (λk=>[(4,pt (B0 k) 0),(8,u1 0)]) (λk=>[ob (B0 k) #[pt g 0] 235]) λk=>rr (λ_=>[(1,.s 2)]) (λe=>[(9,pt (B0 e) 0)]) [] (λe L=>L++[ob (B0 e) #[u1 0] 5]) λe=>rr (λ_=>[(1,.c [] [3] (Ba d))]) (λn=>[(12,.func (.func 172) #[] #[pt ((B1 n)) 0])]) [] (λn L=>L++[ob (B1 n) #[u6 (d:Int)] 44]) λn=>?_;refine AN (encs:=λ(i:Nat)=>#[iN i]) (xs:=bC d) (XO:=[((B1 n),.cells #[u6 (d:Int)] 44 (0,0))]) (KO:=[]) (A9 (B1 n) d Om) (enters_of Tryz.func172 Kr rfl) (λj=>j≤(bC d).length) (λj L=>L.set 2 (ob (B0 e) #[u1 ((xc cl d j).toNat:Int)] 5)) [ob g (rB 74 cl++rI 256 m).toArray 298,ob (B0 k) #[pt g 0] 235,ob (B0 e) #[u1 0] 5] [0,1,2,3] [3] [] Om Kr (λJ j K z D v u=>?_) (λy u=>?_)
 ·obtain⟨r,rfl⟩:=qj 0 v;have x:=BX r;refine r0 [] [(10,iN ((bC d).getD j 0))] [] ?_;refine ag [] (λB F=>?_);exact rs [(0,.l 2),(1,.l 1),(5,iA 295 .i64 g 0 74 1 ((bC d).getD j 0)),(6,rM (A:=[]) (R:=rB 74 cl) (C:=(rI 256 m:List Value)) 0 g ((bC d).getD j 0) 298 (rB 74 cl++rI 256 m) rfl rfl (nt Om)),(7,.t (tb (a:=u1 ((xc cl d j).toNat:Int)) (b:=u1 ((cl.getD ((bC d).getD j 0) 0).toNat:Int)) λ_ _ _ _=>kT ((xc cl d j)) (cl.getD ((bC d).getD j 0) 0))),(8,.s 2)] 2 (ob (B0 e) #[u1 (((xc cl d j)^^^(cl.getD ((bC d).getD j 0) 0)).toNat:Int)] 5) (ne _ ⟨Om,rfl⟩ [0,1,2] Kr)
 refine r0 [(1,.t (tv (av .and 3 (.tmp 22) (.const (i6 1)) (i6 a) (i6 1)) (λ_=>lV a 1 2 Dc Dc Dc Dc)))] [(24,.bool ((a%2)==1))] [] ?_;refine cJ ((a%2)==1) N0 (λc=>[ob g (rB 74 cl++rI 256 m).toArray 298,ob (B0 k) #[pt g 0] 235,ob (B0 e) #[u1 ((bif c then(xc cl d ((bC d).length))^^^(cl.getD 72 0) else(xc cl d ((bC d).length))).toNat:Int)] 5]) (λf=>?_) (λf=>?_) ?_
 ·have o:=eq_of_beq f;refine rs [(0,.l 2),(1,.l 1),(5,.l 0),(6,.t (tb (a:=u1 ((xc cl d ((bC d).length)).toNat:Int)) (b:=u1 ((cl.getD 72 0).toNat:Int)) λ_ _ _ _=>kT ((xc cl d ((bC d).length))) (cl.getD 72 0))),(7,.s 2)] 2 (ob (B0 e) #[u1 (((xc cl d ((bC d).length))^^^(cl.getD 72 0)).toNat:Int)] 5) ?_;exact cm Kr [0,1,2] Kr
 ·have o:=ne_of_beq_false f;exact cm Kr [0,1,2] Kr
 refine r0 [(1,.t (tv (av .and 3 (.tmp 32) (.const (i6 1)) (i6 p) (i6 1)) (λ_=>lV p 1 2 Dc Dc Dc Dc)))] [(34,.bool ((p%2)==1))] [] ?_;refine cJ ((p%2)==1) N0 (λc=>[ob g (rB 74 cl++rI 256 m).toArray 298,ob (B0 k) #[pt g 0] 235,ob (B0 e) #[u1 ((bif c then(bif (a%2)==1 then(xc cl d ((bC d).length))^^^(cl.getD 72 0) else(xc cl d ((bC d).length)))^^^(cl.getD 73 0) else(bif (a%2)==1 then(xc cl d ((bC d).length))^^^(cl.getD 72 0) else(xc cl d ((bC d).length)))).toNat:Int)] 5]) (λh=>?_) (λh=>?_) ?_
 ·have q:=eq_of_beq h;refine rs [(0,.l 2),(1,.l 1),(5,.l 0),(6,.t (tb (a:=u1 ((bif (a%2)==1 then(xc cl d ((bC d).length))^^^(cl.getD 72 0) else(xc cl d ((bC d).length))).toNat:Int)) (b:=u1 ((cl.getD 73 0).toNat:Int)) λ_ _ _ _=>kT ((bif (a%2)==1 then(xc cl d ((bC d).length))^^^(cl.getD 72 0) else(xc cl d ((bC d).length)))) (cl.getD 73 0))),(7,.s 2)] 2 (ob (B0 e) #[u1 (((bif (a%2)==1 then(xc cl d ((bC d).length))^^^(cl.getD 72 0) else(xc cl d ((bC d).length)))^^^(cl.getD 73 0)).toNat:Int)] 5) ?_;exact cm Kr [0,1,2] Kr
 ·have q:=ne_of_beq_false h;exact cm Kr [0,1,2] Kr
 exact r0 [(0,.l 2)] [(8,u1 ((bif (p%2)==1 then(bif (a%2)==1 then(xc cl d ((bC d).length))^^^(cl.getD 72 0) else(xc cl d ((bC d).length)))^^^(cl.getD 73 0) else(bif (a%2)==1 then(xc cl d ((bC d).length))^^^(cl.getD 72 0) else(xc cl d ((bC d).length)))).toNat:Int))] [8] (lf ab.zero [] [(0,0)] [])
theorem KW(g d:Nat)(k:UInt8)(a p:Int)(cl:List UInt8)(e:List Int)(i:d<18446744073709551616)(f:cl.length=74)(ht:e.length=256):aa VB 254 #[pt g 0,u6 (d:Int),u1 (k.toNat:Int),i6 a,i6 p] [ob g (rB 74 cl++rI 256 e).toArray 298] [] N0 (λ_=>u1 (((bN d a p cl)^^^k).toNat:Int)):=by
 exact fG Tryz.func254 λw h=>r0 [] [(10,u1 0)] [] (r0 [(4,.c [0] [] (BY g d a p cl e Om (by(simp only[LL,f,ht];done)) (by(simp only[LL,f,ht];done)))),(6,.t (tb (a:=u1 ((bN d a p cl).toNat:Int)) (b:=u1 (k.toNat:Int)) λ_ _ _ _=>kT ((bN d a p cl)) (k)))] [(10,u1 (((bN d a p cl)^^^k).toNat:Int))] [10] (lf ab.zero [] [(0,0)] []))
def du(k:UInt8)(a:List Int):Int:=(bif (k.toNat:Int)==0 then 0 else(bif (a.getD k.toNat 0)==(-1) then 4 else(bif (a.getD k.toNat 0)==72 then 3 else(bif (a.getD k.toNat 0)==73 then 2 else 1))))
def di(k:UInt8)(a:List Int):Int:=(bif (k.toNat:Int)==0 then(-1) else(bif (a.getD k.toNat 0)==(-1) then(-1) else(bif (a.getD k.toNat 0)==72 then(-1) else(bif (a.getD k.toNat 0)==73 then(-1) else(a.getD k.toNat 0)))))
theorem KX(g:Nat)(k:UInt8)(cl:List UInt8)(a:List Int)(m:cl.length=74)(ht:a.length=256):aa VB 253 #[pt g 0,u1 (k.toNat:Int)] [ob g (rB 74 cl++rI 256 a).toArray 298] [] N0 (λ_=> .tuple #[i6 (du k a),i6 (di k a)]):=by
 have n:=k.toNat_lt;refine fG Tryz.func253 λw l=>r0 [] [(4,i6 0),(5,i6 0)] [] (r0 [] [(8,.bool ((k.toNat:Int)==0))] [] ?_);refine cO (k.toNat:Int) 0 (λd i=>?_) λd i=>?_
 ·exact r0 [] [(4,i6 0),(5,i6 (-1))] [4,5] (ak (.tuple #[i6 0,i6 (-1)]) ab.zero (by((try simp only[du,di]);(repeat (first | rw[d] | rw[ALct])))<;>rfl) [] [(0,0)] [])
 refine r0 [(4,iA 296 .u8 g 74 256 1 k.toNat),(5,rM (A:=(rB 74 cl:List Value)) (R:=rI 256 a) (C:=[]) 0 g k.toNat 298 (rB 74 cl++rI 256 a) (by rw[VD]) jZ (z7 Om))] [(6,i6 (a.getD k.toNat 0))] [] (r0 [] [(16,.bool ((a.getD k.toNat 0)==(-1)))] [] ?_);refine cO (a.getD k.toNat 0) (-1) (λh j=>?_) λh j=>?_
 ·exact r0 [] [(4,i6 4),(5,i6 (-1))] [4,5] (ak (.tuple #[i6 4,i6 (-1)]) ab.zero (by((try simp only[du,di]);(repeat (first | rw[d] | rw[h] | rw[ALct] | rw[ALcf])))<;>rfl) [] [(0,0)] [])
 refine r0 [] [(19,.bool ((a.getD k.toNat 0)==72))] [] ?_;refine cO (a.getD k.toNat 0) 72 (λb e=>?_) λb e=>?_
 ·exact r0 [] [(4,i6 3),(5,i6 (-1))] [4,5] (ak (.tuple #[i6 3,i6 (-1)]) ab.zero (by((try simp only[du,di]);(repeat (first | rw[d] | rw[h] | rw[b] | rw[ALct] | rw[ALcf])))<;>rfl) [] [(0,0)] [])
 refine r0 [] [(22,.bool ((a.getD k.toNat 0)==73))] [] ?_;refine cO (a.getD k.toNat 0) 73 (λc f=>?_) λc f=>?_
 ·exact r0 [] [(4,i6 2),(5,i6 (-1))] [4,5] (ak (.tuple #[i6 2,i6 (-1)]) ab.zero (by((try simp only[du,di]);(repeat (first | rw[d] | rw[h] | rw[b] | rw[c] | rw[ALct] | rw[ALcf])))<;>rfl) [] [(0,0)] [])
 exact r0 [] [(4,i6 1),(5,i6 (a.getD k.toNat 0))] [4,5] (ak (.tuple #[i6 1,i6 (a.getD k.toNat 0)]) ab.zero (by((try simp only[du,di]);(repeat (first | rw[d] | rw[h] | rw[b] | rw[c] | rw[ALcf])))<;>rfl) [] [(0,0)] [])
theorem KY{b:List Int}{K:UInt8}(hp: ∀k:UInt8,(du k b==1)=true→0≤di k b)(h:((du K b==1)&&decide (di K b<64))=true):0≤di K b∧di K b<64∧1*2^(di K b).toNat<18446744073709551616:=by
 rw[VI] at h;have c:=hp K h.1;have d:=of_decide_eq_true h.2;refine⟨c,d,?_⟩;rw[Nat.one_mul];exact Xa (Nat.pow_lt_pow_right (a:=2) Om (show(di K b).toNat<64 by omega)) Dc
def gb(d:Nat)(k:UInt8)(a:Int)(cl:List UInt8)(b:List Int):Nat:=(bif ((du ((bN d a 0 cl)^^^k) b)==1)&&(decide ((di ((bN d a 0 cl)^^^k) b)<64)) then d^^^(1*2^(di (bN d a 0 cl^^^k) b).toNat) else d)
theorem KZ(g d:Nat)(k:UInt8)(a:Int)(cl:List UInt8)(b:List Int)(i:d<18446744073709551616)(e:cl.length=74)(ht:b.length=256)(hp: ∀k:UInt8,(du k b==1)=true→0≤di k b):aa VB 227 #[pt g 0,u6 (d:Int),u1 (k.toNat:Int),i6 a] [ob g (rB 74 cl++rI 256 b).toArray 298] [] N0 (λ_=> .tuple #[u6 (((gb d k a cl b):Nat):Int),i6 (du ((bN d a 0 cl)^^^k) b),i6 (di ((bN d a 0 cl)^^^k) b)]):=by
 refine fG Tryz.func227 λw j=>r0 [] [(8,u6 0),(9,i6 0),(10,i6 0)] [] (r0 [(0,.v (pt g 0)),(1,.v (pt g 0)),(2,.v (u6 (d:Int))),(3,.v (u1 (k.toNat:Int))),(4,.v (i6 a)),(5,.c [0] [] (KW g d k a 0 cl b Om (by(simp only[LL,e,ht];done)) (by(simp only[LL,e,ht];done)))),(6,.c [0] [] (KX g ((bN d a 0 cl)^^^k) cl b (by(simp only[LL,e,ht];done)) (by(simp only[LL,e,ht];done)))),(7,.v (.tuple #[i6 (du ((bN d a 0 cl)^^^k) b),i6 (di ((bN d a 0 cl)^^^k) b)])),(8,.v (i6 (du ((bN d a 0 cl)^^^k) b))),(9,.v (i6 (di ((bN d a 0 cl)^^^k) b))),(10,.v (i6 (du ((bN d a 0 cl)^^^k) b))),(11,.v (i6 (di ((bN d a 0 cl)^^^k) b)))] [(9,i6 (du ((bN d a 0 cl)^^^k) b)),(10,i6 (di ((bN d a 0 cl)^^^k) b))] [9,10] (r0 [] [(26,.bool (((du ((bN d a 0 cl)^^^k) b)==1)&&(decide ((di ((bN d a 0 cl)^^^k) b)<64))))] [] ?_));refine cJ (((du ((bN d a 0 cl)^^^k) b)==1)&&(decide ((di ((bN d a 0 cl)^^^k) b)<64))) (λc=>[(1,u6 (((bif c then d^^^(1*2^(di (bN d a 0 cl^^^k) b).toNat) else d):Nat):Int))]) (λ_=>[ob g (rB 74 cl++rI 256 b).toArray 298]) (λf=>?_) (λf=>?_) ?_
 ·have h:=KY hp f;refine r0 [(1,.t (tk (show i6 (di ((bN d a 0 cl)^^^k) b)=iN ((di (bN d a 0 cl^^^k) b).toNat) from ALca (Value.int .i64) Om))),(2,.t (tv (convert 3 201 (iN ((di (bN d a 0 cl^^^k) b).toNat))) (λ_=>mK Tryz.underlying3 Tryz.underlying201 Om))),(3,.t (tv (av .shl 44 (.const (u6 1)) (.tmp 29) (u6 1) (u6 (((di (bN d a 0 cl^^^k) b).toNat:Nat):Int))) (λ_=>sY (a:=1) (di (bN d a 0 cl^^^k) b).toNat Om h.2.2))),(4,.t (tv (av .xor 44 (.tmp 27) (.tmp 30) (u6 (d:Int)) (u6 ((1*2^(di (bN d a 0 cl^^^k) b).toNat:Nat):Int))) (λ_=>GJ i h.2.2)))] [(1,u6 ((d^^^(1*2^(di (bN d a 0 cl^^^k) b).toNat):Nat):Int))] [1] ?_;exact cm Kr [0] Kr
 ·exact cm Kr [0] Kr
 exact r0 [] [(8,u6 (((bif ((du ((bN d a 0 cl)^^^k) b)==1)&&(decide ((di ((bN d a 0 cl)^^^k) b)<64)) then d^^^(1*2^(di (bN d a 0 cl^^^k) b).toNat) else d):Nat):Int)),(9,i6 (du ((bN d a 0 cl)^^^k) b)),(10,i6 (di ((bN d a 0 cl)^^^k) b))] [8,9,10] (lf ab.zero [] [(0,0)] [])
end
section
open Go Go.Shelf Go.RowKit
def iH:Nat→List Int
 | 0=>VA 256 0
 | k+1=>(iH k).set k (-1)
def jH:Nat→List UInt8
 | 0=>VA 74 0
 | k+1=>(jH k).set (64+k) (UInt8.ofNat (1*2^k))
def jI:Nat→List Int
 | 0=>iH 256
 | k+1=>(jI k).set (UInt8.ofNat (1*2^k)).toNat ((64+k:Nat):Int)
def jJ:Nat→List UInt8
 | 0=>jH 8
 | k+1=>(jJ k).set k (UInt8.ofNat ((ch 3 256).getD k 0))
def jL:Nat→List Int
 | 0=>jI 8
 | k+1=>(jL k).set (UInt8.ofNat ((ch 3 256).getD k 0)).toNat ((k:Nat):Int)
def p5(k:Nat):Nat:=bif decide (k<8) then 56+k else 64+k
def bD:Nat→List UInt8
 | 0=>jJ 56
 | k+1=>(bD k).set (p5 k) (UInt8.ofNat ((ch 5 256).getD k 0))
def bQ:Nat→List Int
 | 0=>jL 56
 | k+1=>(bQ k).set (UInt8.ofNat ((ch 5 256).getD k 0)).toNat ((p5 k:Nat):Int)
theorem mY: ∀k,(iH k).length=256
 | 0=>VH ..
 | k+1=>by rw[iH,VK];exact mY k
theorem nG: ∀k,(jH k).length=74
 | 0=>VH ..
 | k+1=>by rw[jH,VK];exact nG k
theorem nH: ∀k,(jI k).length=256
 | 0=>mY 256
 | k+1=>by rw[jI,VK];exact nH k
theorem nI: ∀k,(jJ k).length=74
 | 0=>nG 8
 | k+1=>by rw[jJ,VK];exact nI k
theorem nJ: ∀k,(jL k).length=256
 | 0=>nH 8
 | k+1=>by rw[jL,VK];exact nJ k
theorem jt: ∀k,(bD k).length=74
 | 0=>nI 56
 | k+1=>by rw[bD,VK];exact jt k
theorem ju: ∀k,(bQ k).length=256
 | 0=>nJ 56
 | k+1=>by rw[bQ,VK];exact ju k
theorem xq:(ch 3 256).length=56:=by decide+kernel
theorem K0:(ch 5 256).length=56:=by decide+kernel
def b5(k:Nat):Nat:=bif decide (k≤8) then 56+k else 64+k
theorem K1{i:Nat}(h:i≤10):(bif ((b5 i:Nat):Int)==64 then 72 else b5 i)=p5 i:=by
 have: ∀i,i≤10→(bif ((b5 i:Nat):Int)==64 then 72 else b5 i)=p5 i:=by decide
 exact this i h
theorem K2{i:Nat}:(p5 i=56+i∧i<8)∨(p5 i=64+i∧8≤i):=by
 unfold p5;rcases VZ i 8 with h | h
 ·exact .inl ⟨by rw[cx h];rfl,h⟩
 ·exact .inr ⟨by rw[bh Om];rfl,h⟩
theorem K3{i:Nat}(h:i<10):b5 (i+1)=p5 i+1:=by
 have: ∀i,i<10→b5 (i+1)=p5 i+1:=by decide
 exact this i h
attribute [local irreducible] iH jH jI jJ jL bD bQ ch
theorem K4:aa VB 140 #[] [] [] (λE=>[ob (E.y 0) (rB 74 (bD 10)++rI 256 (bQ 10)).toArray 298]) (λE=>pt ((E.y 0)) 0):=by
 refine fG Tryz.func140 λw V=>r0 [] [(0,.pointer none)] [] (rr (λ_=>[(3,.s 1)]) (λe=>[(1,pt (B2 e) 0)]) [] (λe L=>L++[ob (B1 e) (rB 74 (VA 74 0)++rN 256 (VA 256 0)).toArray 298,ob (B2 e) #[pt (B1 e) 0] 235]) λe=>r0 [] [(9,i6 0)] [] ?_);refine lq (λk=>k≤256) (λk=>[(9,iN k)]) (λk L=>L.set 0 (ob (B1 e) (rB 74 (VA 74 0)++rI 256 (iH k)).toArray 298)) (λk=>256-k) 0 Om Kr (by rw[show iH 0=VA 256 0 by unfold iH;rfl];kernel_rfl) (λk Q=>?_);refine r0 [] [(10,.bool (decide ((k:Int)<256)))] [] ?_;refine b0 (k:Int) 256 (λO x=>?_) λO x=>?_
 ·exact r0 [] [(2,iN k)] [] (rs [(0,.l 1),(4,iA 296 .i64 (B1 e) 74 256 1 k),(5,wM (A:=(rB 74 (VA 74 0):List Value)) (R:=rI 256 (iH k)) (C:=[]) 0 (B1 e) k 298 (i6 (-1)) (rB 74 (VA 74 0)++rI 256 (iH k)) (rB 74 (VA 74 0)++rI 256 ((iH k).set k (-1))) (by rw[VD]) (by rw[VD]) jZ (jk Om) (wh (mY ..)))] 0 (ob (B1 e) (rB 74 (VA 74 0)++rI 256 ((iH k).set k (-1))).toArray 298) (r0 [(0,ad k 1)] [(9,iN (k+1))] [9] (le (k+1) Om Om Kr [0,1] (by rw[show iH (k+1)=(iH k).set k (-1) by rw[iH]];kernel_rfl))))
 obtain rfl:k=256:=by omega
 refine lx (r0 [] [(18,i6 0)] [] ?_);refine lq (λm=>m≤8) (λm=>[(18,iN m)]) (λm L=>L.set 0 (ob (B1 e) (rB 74 (jH m)++rI 256 (jI m)).toArray 298)) (λm=>8-m) 0 Om Kr (by rw[show jH 0=VA 74 0 by unfold jH;rfl,show jI 0=iH 256 by unfold jI;rfl];kernel_rfl) (λm G=>?_);refine r0 [] [(19,.bool (decide ((m:Int)<8)))] [] ?_;refine b0 (m:Int) 8 (λy n=>?_) λy n=>?_
 ·exact r0 [] [(3,iN m)] [] (rs [(0,.l 1),(2,ad 64 m),(4,.t (tv (convert 3 201 (iN m)) (λ_=>mK Tryz.underlying3 Tryz.underlying201 Om))),(5,.t (tv (av .shl 5 (.const (u1 1)) (.tmp 25) (u1 1) (u6 (m:Int))) (λ_=>tJ (a:=1) m Om))),(6,.c [0] [0] (xp (B1 e) (64+m) (UInt8.ofNat (1*2^m)) (jH m) (jI m) Om (by(simp only[LL,mY,nG,nH,nI,nJ,jt,ju];done)) (by(simp only[LL,mY,nG,nH,nI,nJ,jt,ju];done))))] 0 (ob (B1 e) (rB 74 ((jH m).set (64+m) (UInt8.ofNat (1*2^m)))++rI 256 ((jI m).set (UInt8.ofNat (1*2^m)).toNat ((64+m):Int))).toArray 298) (r0 [(0,ad m 1)] [(18,iN (m+1))] [18] (le (m+1) Om Om Kr [0,1] (by rw[show jH (m+1)=(jH m).set (64+m) (UInt8.ofNat (1*2^m)) by rw[jH],show jI (m+1)=(jI m).set (UInt8.ofNat (1*2^m)).toNat ((64+m:Nat):Int) by rw[jI]];kernel_rfl))))
 obtain rfl:m=8:=by omega
 refine lx (rr (λ_=>[(1,.s 2)]) (λf=>[(4,pt (B0 f) 0)]) [] (λf L=>L++[ob (B0 f) #[i6 0] 3]) λf=>rr (λ_=>[(0,.c [] [3,4] (Bg 8 3))]) (λb=>[(29,.func (.func 214) #[] #[pt ((B0 b)) 0,pt (((b 0).y 1)) 0])]) [] (λb L=>L++[ob (B0 b) #[i6 3] 3,ob ((b 0).y 1) #[i6 8] 3]) λb=>?_);refine ny (encs:=λ(i:Nat)=>#[u1 ((UInt8.ofNat i).toNat:Int)]) (xs:=ch 3 256) (KO:=[[((B0 b),.cells #[i6 3] 3 (0,0))],[(((b 0).y 1),.cells #[i6 8] 3 (0,0))]]) (IQ (B0 b) ((b 0).y 1)) (enters_of Tryz.func214 Kr rfl) (λj=>j≤(ch 3 256).length) (λj L=>(L.set 0 (ob (B1 e) (rB 74 (jJ j)++rI 256 (jL j)).toArray 298)).set 2 (ob (B0 f) #[iN j] 3)) [3,4] Om (by rw[show jJ 0=jH 8 by unfold jJ;rfl,show jL 0=jI 8 by unfold jL;rfl];kernel_rfl) (λT j U J M h q=>?_) (λI q=>?_)
 ·obtain⟨D,rfl⟩:=qj 0 h;have B:=xq;refine r0 [] [(5,u1 ((UInt8.ofNat ((ch 3 256).getD j 0)).toNat:Int))] [] ?_;refine ag [3,4] (λK N=>?_);exact rs [(0,.l 1),(1,.l 2),(3,.c [0] [0] (xp (B1 e) j (UInt8.ofNat ((ch 3 256).getD j 0)) (jJ j) (jL j) Om (by(simp only[LL,mY,nG,nH,nI,nJ,jt,ju];done)) (by(simp only[LL,mY,nG,nH,nI,nJ,jt,ju];done))))] 0 (ob (B1 e) (rB 74 ((jJ j).set j (UInt8.ofNat ((ch 3 256).getD j 0)))++rI 256 ((jL j).set (UInt8.ofNat ((ch 3 256).getD j 0)).toNat (j:Int))).toArray 298) (rs [(0,.l 2),(1,ad j 1),(2,.s 2)] 2 (ob (B0 f) #[iN (j+1)] 3) (ne _ ⟨Om,rfl⟩ [0,1,2,3,4] (by rw[show jJ (j+1)=(jJ j).set j (UInt8.ofNat ((ch 3 256).getD j 0)) by rw[jJ],show jL (j+1)=(jL j).set (UInt8.ofNat ((ch 3 256).getD j 0)).toNat ((j:Nat):Int) by rw[jL]];kernel_rfl)))
 have B:=xq;refine rr (λ_=>[(0,.c [] [5,6] (Bg 8 5))]) (λd=>[(37,.func (.func 214) #[] #[pt ((B0 d)) 0,pt (((d 0).y 1)) 0])]) [] (λd L=>L++[ob (B0 d) #[i6 5] 3,ob ((d 0).y 1) #[i6 8] 3]) λd=>?_;refine AO (encs:=λ(i:Nat)=>#[u1 ((UInt8.ofNat i).toNat:Int)]) (xs:=ch 5 256) (KO:=[[((B0 d),.cells #[i6 5] 3 (0,0))],[(((d 0).y 1),.cells #[i6 8] 3 (0,0))]]) (IS (B0 d) ((d 0).y 1)) (enters_of Tryz.func214 Kr rfl) (λi=>i≤(ch 5 256).length∧(i≤10)) (λi L=>(L.set 0 (ob (B1 e) (rB 74 (bD i)++rI 256 (bQ i)).toArray 298)).set 2 (ob (B0 f) #[iN (b5 i)] 3)) (λc _=>(c=Code.exit 6)) (λ_ _ L=>(L.set 0 (ob (B1 e) (rB 74 (bD 10)++rI 256 (bQ 10)).toArray 298)).set 2 (ob (B0 f) #[i6 74] 3)) [5,6] ⟨by omega,Om⟩ (by rw[show bD 0=jJ 56 by unfold bD;rfl,show bQ 0=jL 56 by unfold bQ;rfl,←xq];kernel_rfl) (λT i U J M h ⟨r,u⟩=>?_) (λv ⟨r,u⟩=>?_) λv c i u P=>?_
 ·obtain⟨F,rfl⟩:=qj 0 h;refine r0 [] [(6,u1 ((UInt8.ofNat ((ch 5 256).getD i 0)).toNat:Int))] [] ?_;refine ag [5,6] (λK N=>?_);refine r0 [(0,.l 2)] [(40,.bool (((b5 i:Nat):Int)==64))] [] ?_;refine cJ (((b5 i:Nat):Int)==64) N0 (λc=>[ob (B1 e) (rB 74 (bD i)++rI 256 (bQ i)).toArray 298,ob (B2 e) #[pt (B1 e) 0] 235,ob (B0 f) #[iN (bif c then 72 else b5 i)] 3,ob (B0 b) #[i6 3] 3,ob ((b 0).y 1) #[i6 8] 3,ob (B0 d) #[i6 5] 3,ob ((d 0).y 1) #[i6 8] 3]) (λg=>?_) (λg=>?_) ?_
  ·have o:=eq_of_beq g;refine rs [(0,.s 2)] 2 (ob (B0 f) #[i6 72] 3) ?_;exact cm Kr [0,1,2,3,4,5,6] Kr
  ·have o:=ne_of_beq_false g;exact cm Kr [0,1,2,3,4,5,6] Kr
  have H:=K1 u;have S:=K2 (i:=i);refine cl [ob (B1 e) (rB 74 (bD i)++rI 256 (bQ i)).toArray 298,ob (B2 e) #[pt (B1 e) 0] 235,ob (B0 f) #[iN (p5 i)] 3,ob (B0 b) #[i6 3] 3,ob ((b 0).y 1) #[i6 8] 3,ob (B0 d) #[i6 5] 3,ob ((d 0).y 1) #[i6 8] 3] (by rewrite [←H];kernel_rfl) (r0 [(0,.l 2)] [(42,.bool (((p5 i:Nat):Int)==74))] [] ?_);refine cO ((p5 i:Nat):Int) 74 (λz p=>?_) λz p=>?_
  ·exact nx 6 _ ⟨rfl,rfl⟩ [0,1,2,3,4,5,6] (by clear H;obtain rfl:i=10:=Om;kernel_rfl)
  exact rs [(0,.l 1),(1,.l 2),(3,.c [0] [0] (xp (B1 e) (p5 i) (UInt8.ofNat ((ch 5 256).getD i 0)) (bD i) (bQ i) Om (by(simp only[LL,mY,nG,nH,nI,nJ,jt,ju];done)) (by(simp only[LL,mY,nG,nH,nI,nJ,jt,ju];done))))] 0 (ob (B1 e) (rB 74 ((bD i).set (p5 i) (UInt8.ofNat ((ch 5 256).getD i 0)))++rI 256 ((bQ i).set (UInt8.ofNat ((ch 5 256).getD i 0)).toNat ((p5 i):Int))).toArray 298) (rs [(0,.l 2),(1,ad (p5 i) 1),(2,.s 2)] 2 (ob (B0 f) #[iN ((p5 i)+1)] 3) (ne _ ⟨⟨by omega,Om⟩,rfl⟩ [0,1,2,3,4,5,6] (by rw[show bD (i+1)=(bD i).set (p5 i) (UInt8.ofNat ((ch 5 256).getD i 0)) by rw[bD],show bQ (i+1)=(bQ i).set (UInt8.ofNat ((ch 5 256).getD i 0)).toNat ((p5 i:Nat):Int) by rw[bQ],K3 (i:=i) Om];kernel_rfl)))
 ·exact absurd u (by rw[K0];decide)
 obtain rfl:=P;exact r0 [(0,.l 1)] [(0,pt (B1 e) 0)] [0] (lf (.l [(e 1).y 0] [] []) [0] [] [])
end
section
open Go Go.Shelf Go.RowKit
attribute [local irreducible] pc bC
def fe(b:Bool):Int:=(bif b then 1 else 0)
theorem BZ(b:Bool):aa VB 158 #[.bool b] [] [] N0 (λ_=>i6 (fe b)):=by
 refine fG Tryz.func158 λw c=>r0 [] [(2,i6 0)] [] (r0 [] [(3,.bool b)] [] ?_);refine cB (b) (λa=>?_) λa=>?_
 ·exact r0 [] [(2,i6 1)] [2] (ak (i6 1) ab.zero (by((try simp only[fe]);(repeat (first | rw[a] | rw[ALct])))<;>rfl) [] [] [])
 exact r0 [] [(2,i6 0)] [2] (ak (i6 0) ab.zero (by((try simp only[fe]);(repeat (first | rw[a] | rw[ALcf])))<;>rfl) [] [] [])
theorem K5(x:Int)(h0: -9223372036854775808≤x)(h1:x≤9223372036854775807):aa VB 173 #[i6 x] [] [] N0 (λ_=> .agg (rB 3 ([aN x,aN (x/256),(aN (x/65536))&&& (127:UInt8)])).toArray):=by
 exact fG Tryz.func173 λw f=>ra (λe=>[(2,pt (B0 e) 0)]) (λe=>[ob (B0 e) (rB 3 (VA 3 0)).toArray 262]) λe=>rs [(1,.t (tc (k:= .i64) (l:= .u8) (a:=i6 x) λ_ _ _ c d=>n2 c d)),(3,.t (tv (av .shr 3 (.tmp 5) (.const (u6 8)) (i6 x) (u6 8)) (λ_=>ie 8 Dc))),(4,.t (tc (k:= .i64) (l:= .u8) (a:=i6 (x/256)) λ_ _ _ c d=>n2 c d)),(6,.t (tv (av .shr 3 (.tmp 8) (.const (u6 16)) (i6 x) (u6 16)) (λ_=>ie 16 Dc))),(7,.t (tc (k:= .i64) (l:= .u8) (a:=i6 (x/65536)) λ_ _ _ c d=>n2 c d)),(8,.t (tb (a:=u1 ((aN (x/65536)).toNat:Int)) (b:=u1 127) λ_ _ _ _=>wb (aN (x/65536)) ((127:UInt8)))),(10,.s 0)] 0 (ob (B0 e) (rB 3 ([aN x,aN (x/256),(aN (x/65536))&&& (127:UInt8)])).toArray 262) (lf ab.zero [] [] [0])
def dy(x:Int)(b:Bool):List UInt8:=(bif b then([aN x,aN (x/256),(aN (x/65536))&&& (127:UInt8)]).set 2 (((aN (x/65536))&&& (127:UInt8))||| (128:UInt8)) else[aN x,aN (x/256),(aN (x/65536))&&& (127:UInt8)])
theorem B8(x:Int)(h0: -9223372036854775808≤x)(h1:x≤9223372036854775807)(b:Bool):aa VB 159 #[i6 x,.bool b] [] [] N0 (λ_=> .agg (rB 3 (dy x b)).toArray):=by
 refine fG Tryz.func159 λw g=>ra (λe=>[(4,pt (B0 e) 0)]) (λe=>[ob (B0 e) (rB 3 (VA 3 0)).toArray 262]) λe=>rr (λ_=>[(1,.c [] [] (K5 x Om Om)),(3,.s 1)]) (λd=>[(5,pt (B2 d) 0)]) [] (λd L=>L++[ob (B2 d) (rB 3 ([aN x,aN (x/256),(aN (x/65536))&&& (127:UInt8)])).toArray 262]) λd=>r0 [] [(8,.bool b)] [] ?_;refine cJ (b) N0 (λc=>[ob (B0 e) (rB 3 (VA 3 0)).toArray 262,ob (B2 d) (rB 3 (bif c then([aN x,aN (x/256),(aN (x/65536))&&& (127:UInt8)]).set 2 (((aN (x/65536))&&& (127:UInt8))||| (128:UInt8)) else[aN x,aN (x/256),(aN (x/65536))&&& (127:UInt8)])).toArray 262]) (λf=>?_) (λf=>?_) ?_
 ·refine rr (λ_=>[(1,.l 1),(2,.t (tb (a:=u1 (((aN (x/65536))&&& (127:UInt8)).toNat:Int)) (b:=u1 128) λ_ _ _ _=>GK ((aN (x/65536))&&& (127:UInt8)) ((128:UInt8)))),(4,.m (sw 1 (B2 d) 2 262 (u1 ((((aN (x/65536))&&& (127:UInt8))||| (128:UInt8)).toNat:Int)) (rB 3 ([aN x,aN (x/256),(aN (x/65536))&&& (127:UInt8)])).toArray (rB 3 (([aN x,aN (x/256),(aN (x/65536))&&& (127:UInt8)]).set 2 (((aN (x/65536))&&& (127:UInt8))||| (128:UInt8)))).toArray (lP (show([aN x,aN (x/256),(aN (x/65536))&&& (127:UInt8)]).length=3 by rfl)) (jk Dc)))]) N0 [] (λ_ L=>L.set 1 (ob (B2 d) (rB 3 (([aN x,aN (x/256),(aN (x/65536))&&& (127:UInt8)]).set 2 (((aN (x/65536))&&& (127:UInt8))||| (128:UInt8)))).toArray 262)) λh=>?_;exact cm Kr [0,1] Kr
 ·exact cm Kr [0,1] Kr
 exact rs [(0,.l 1),(1,.s 0)] 0 (ob (B0 e) (rB 3 (bif b then([aN x,aN (x/256),(aN (x/65536))&&& (127:UInt8)]).set 2 (((aN (x/65536))&&& (127:UInt8))||| (128:UInt8)) else[aN x,aN (x/256),(aN (x/65536))&&& (127:UInt8)])).toArray 262) (lf ab.zero [] [] [0])
theorem K6{P:Program}{w:World}{S T:TypeId}(a:P.underlying S=some (.int .i64))(b:P.underlying T=some (.int .u32)){c:Nat}(d:c<4294967296):(convert S T (.int .i64 (c:Int))).run P w= .ok (.int .u32 (c:Int)) w:=by
 have h:IntKind.u32.wrap (c:Int)=(c:Int):=by rw[WX];omega
 simp only[convert,V0,run_underlying a,run_underlying b,VM,Conv.intToInt,h,V1]
theorem K7{P:Program}{T:TypeId}{y z:Operand}{w:World}(x:Int):(av .and T y z (.int .i64 x) (.int .i64 8388607)).run P w= .ok (.int .i64 (((x%8388608).toNat:Nat):Int)) w:=by
 have h:=lV (P:=P) (T:=T) (y:=y) (z:=z) (w:=w) x 23 8388608 Dc Dc Dc Dc;rw[show(((x%8388608).toNat:Nat):Int)=x%((8388608:Nat):Int) by omega];exact h
theorem uc(x:Int):aa VB 153 #[i6 x] [] [] N0 (λ_=>iN (pc ((x%8388608).toNat)%2)):=by
 exact fG Tryz.func153 λw a=>r0 [] [(2,i6 0)] [] (r0 [(1,.t (tv (av .and 3 (.tmp 3) (.const (i6 8388607)) (i6 x) (i6 8388607)) (λ_=>K7 x))),(2,.t (tv (convert 3 329 (iN ((x%8388608).toNat))) (λ_=>K6 Tryz.underlying3 Tryz.underlying329 Om))),(3,.c [] [] (IK ((x%8388608).toNat) Om))] [(2,iN (pc ((x%8388608).toNat)%2))] [2] (lf ab.zero [] [] []))
def jv(x:Nat):Nat→List UInt8
 | 0=>[]
 | k+1=>jv x k++[UInt8.ofNat (x/256^k)]
theorem mZ(x k:Nat):(jv x k).length=k:=by
 induction k with
 | zero=>rfl
 | succ k ih=>rw[jv,VE,ih];rfl
theorem K8(x k:Nat):x/256^(k+1)=x/256^k/2^8:=by rw[WT,V2]
theorem K9(x:Nat)(n:x<18446744073709551616):aa VB 156 #[u6 (x:Int)] [] [] (λE=>[bt (E.val 0) (jv x 8)]) (λE=>(E.val 0)):=by
 refine fG Tryz.func156 λw j=>r0 [] [(2,.slice none 0 0)] [] (r0 [] [(3,.slice none 0 0)] [] (r0 [] [(4,i6 0)] [] (cz kB ?_)));refine mP (λk _=>k≤8) (λk b=>[(0,u6 ((x/256^k:Nat):Int)),(4,iN k),(3,b)]) (λk b L=>L.set 0 (bt b (jv x k))) (λk _=>8-k) 0 (.slice none 0 0) Om (by rw[WS,W7];kernel_rfl) Kr (λk b h=>?_);have i:=mZ x k;refine r0 [] [(5,.bool (decide ((k:Int)<8)))] [] ?_;refine b0 (k:Int) 8 (λe d=>?_) λe d=>?_
 ·exact rr (λ_=>[(2,.t (tc (k:= .u64) (l:= .u8) (a:=u6 ((x/256^k:Nat):Int)) λ_ _ _ f g=>sZ f g)),(3,.m (bs 1 1)),(4,fp kB (b) (jv x k) 0 1 ([UInt8.ofNat (x/256^k)]))]) (λc=>[(3,(c 4).val 0)]) [3] (λc L=>L.set 0 (bt ((c 4).val 0) ((jv x k)++([UInt8.ofNat (x/256^k)])))++[ob (B3 c) #[u1 ((UInt8.ofNat (x/256^k)).toNat:Int)] 5]) λc=>r0 [(1,.t (tv (av .shr 44 (.tmp 11) (.const (u6 8)) (u6 ((x/256^k:Nat):Int)) (u6 8)) (λ_=>sX 8 Dc)))] [(0,u6 ((x/256^k/2^8:Nat):Int))] [0] (r0 [(0,ad k 1)] [(4,iN (k+1))] [4] (kY (k+1) ((c 4).val 0) Om Om (by rw[K8 x k];kernel_rfl) [0] Kr))
 obtain rfl:k=8:=by omega
 refine kZ ?_;exact r0 [] [(2,b)] [2] (lf (.l [] [] [b]) [0] [] [])
end
end E
section
open Go Go.Shelf Go.RowKit
def a1(xs:List UInt8)(off:Nat):Nat→Nat
 | 0=>0
 | k+1=>a1 xs off k||| (xs.getD (off+k) 0).toNat*2^(8*k)
theorem ue{b:UInt8}{k:Nat}(d:k<8):b.toNat*2^(8*k)<18446744073709551616:=by
 have c:=b.toNat_lt;have a:2^(8*k)≤2^56:=Wo Dc Om
 calc b.toNat*2^(8*k)≤255*2^56:=WI Om a
  _<18446744073709551616:=by decide
theorem Lb(xs:List UInt8)(off k:Nat):a1 xs off k<2^(8*k):=by
 induction k with
 | zero=>simp [a1]
 | succ k ih=>
  have a:=(xs.getD (off+k) 0).toNat_lt;unfold a1;refine Nat.or_lt_two_pow (Xa ih (Wo Dc Om)) ?_;rw[show 8*(k+1)=8+8*k by omega,Nat.pow_add];exact Nat.mul_lt_mul_of_pos_right Om (Nat.pow_pos Dc)
theorem qS(xs:List UInt8)(off:Nat){k:Nat}(c:k≤8):a1 xs off k<18446744073709551616:=by
 have a:=Lb xs off k;have b:2^(8*k)≤2^64:=Wo Dc Om;have:(2:Nat)^64=18446744073709551616:=by decide
 omega
def cp(N:Nat)(f:Nat→UInt8)(n:Nat):List UInt8:=(VL N).map λi=>if i<n then f i else 0
theorem l7(N:Nat)(f:Nat→UInt8)(n:Nat):(cp N f n).length=N:=by unfold cp;rw[Wb,V3]
theorem Lc{N:Nat}{f:Nat→UInt8}{n:Nat}(h:n<N):(cp N f n).set n (f n)=cp N f (n+1):=by
 apply Wx;intro i;rw[List.getElem?_set];rcases VZ i N with a | a
 ·unfold cp;simp only[Wb,V3,Ww,WW a,VT];by_cases e:n=i
  ·subst e;rw[ALifp rfl,ALifp h,ALifp Om]
  ·rw[ALifn e];by_cases b:i<n
   ·rw[ALifp b,ALifp Om]
   ·rw[ALifn b,ALifn Om]
 ·rw[VQ (l:=cp N f (n+1)) (by rw[l7];exact a),VQ (l:=cp N f n) (by rw[l7];exact a),l7];rw[ALifn Om]
theorem Ld(N:Nat)(f:Nat→UInt8):cp N f 0=VA N 0:=by
 apply Wx;intro i;rcases VZ i N with a | a
 ·unfold cp;simp [a]
 ·rw[VQ (by rw[l7];exact a),VQ (by simpa using a)]
end
namespace E
section
open Go Go.Shelf Go.RowKit
theorem xr(ys:List UInt8)(k:Nat):a1 ys 0 (k+1)=a1 ys 0 k||| (ys.getD k 0).toNat*2^(8*k):=by rw[a1,VV]
theorem Lf(ys:List UInt8)(o k:Nat):a1 ys o (k+1)=a1 ys o k||| (ys.getD (o+k) 0).toNat*2^(8*k):=rfl
theorem B9(ys:List UInt8)(o:Nat):a1 ys o 0=0:=rfl
theorem Lh{P:Program}{T:TypeId}{x y:Operand}{w:World}{ys:List UInt8}{k:Nat}(a:k<8):(av .or T x y (.int .u64 ((a1 ys 0 k:Nat):Int)) (.int .u64 (((ys.getD k 0).toNat*2^(8*k):Nat):Int))).run P w= .ok (.int .u64 ((a1 ys 0 (k+1):Nat):Int)) w:=by
 rw[xr];exact zZ (qS _ _ Om) (ue a)
theorem Li{P:Program}{T:TypeId}{x y:Operand}{w:World}{ys:List UInt8}{o k:Nat}(a:k<8):(av .or T x y (.int .u64 ((a1 ys o k:Nat):Int)) (.int .u64 (((ys.getD (o+k) 0).toNat*2^(8*k):Nat):Int))).run P w= .ok (.int .u64 ((a1 ys o (k+1):Nat):Int)) w:=by
 rw[Lf];exact zZ (qS _ _ Om) (ue a)
attribute [local irreducible] a1
theorem Lj(v:Value)(ys:List UInt8)(j:ys.length=8):aa VB 228 #[v] [.p (aH eB v ys)] [] N0 (λ_=>u6 ((a1 ys 0 8:Nat):Int)):=by
 refine fO Tryz.func228 0 rfl λd b=>fG Tryz.func228 λw i=>r0 [] [(2,u6 0)] [] (r0 [] [(3,u6 0)] [] (r0 [(1,eD b.1 0)] [(6,v),(7,iN ys.length),(8,i6 0)] [] ?_));refine lq (λk=>k≤8) (λk=>[(3,u6 ((a1 ys 0 k:Nat):Int)),(8,iN k)]) (λ_ L=>L) (λk=>8-k) 0 Om (by rw[B9];kernel_rfl) Kr (λk h=>?_);refine r0 [] [(9,.bool (decide ((k:Int)<(ys.length:Int))))] [] ?_;refine b0 (k:Int) (ys.length:Int) (λe c=>?_) λe c=>?_
 ·exact r0 [(1,fa b.1 0 k 1),(2,iE kB b.1 0 k 0)] [(4,iN k),(5,u1 ((ys.getD k 0).toNat:Int))] [] (r0 [(2,.t (tc (k:= .u8) (l:= .u64) (a:=u1 ((ys.getD k 0).toNat:Int)) λ_ _ _ f g=>z0 f g)),(4,ml 8 k),(5,.t (tv (convert 3 201 (iN (8*k))) (λ_=>mK Tryz.underlying3 Tryz.underlying201 Om))),(6,.t (tv (av .shl 44 (.tmp 15) (.tmp 18) (u6 ((ys.getD k 0).toNat:Int)) (u6 ((8*k:Nat):Int))) (λ_=>sY (8*k) Om (ue Om)))),(7,.t (tv (av .or 44 (.tmp 13) (.tmp 19) (u6 ((a1 ys 0 k:Nat):Int)) (u6 (((ys.getD k 0).toNat*2^(8*k):Nat):Int))) (λ_=>Lh Om)))] [(3,u6 ((a1 ys 0 (k+1):Nat):Int))] [3] (r0 [(0,ad k 1)] [(8,iN (k+1))] [8] (le (k+1) Om Om Kr [0] Kr)))
 obtain rfl:k=8:=by omega
 exact lx (r0 [] [(2,u6 ((a1 ys 0 8:Nat):Int))] [2] (lf ab.zero [] [(0,0)] []))
theorem Ll(l:List UInt8)(i:l.length=64)(q:Nat)(j:q<8):aa VB 201 #[.agg (rB 64 l).toArray,iN q] [] [] N0 (λ_=>u6 ((a1 l (8*q) 8:Nat):Int)):=by
 refine fG Tryz.func201 λw h=>ra (λb=>[(2,pt (B0 b) 0),(4,u6 0)]) (λb=>[ob (B0 b) (rB 64 l).toArray 43]) λb=>r0 [] [(5,u6 0)] [] (r0 [] [(7,i6 0)] [] ?_);refine lq (λk=>k≤8) (λk=>[(5,u6 ((a1 l (8*q) k:Nat):Int)),(7,iN k)]) (λ_ L=>L) (λk=>8-k) 0 Om (by rw[B9];kernel_rfl) Kr (λk g=>?_);refine r0 [] [(8,.bool (decide ((k:Int)<8)))] [] ?_;refine b0 (k:Int) 8 (λd c=>?_) λd c=>?_
 ·exact r0 [] [(6,iN k)] [] (r0 [(0,.v (u6 ((a1 l (8*q) k:Nat):Int))),(1,.v (iN q)),(2,ml 8 q),(3,.v (iN k)),(4,ad (8*q) k),(5,iA 43 .i64 (B0 b) 0 64 1 ((8*q)+k)),(6,rD 0 (B0 b) ((8*q)+k) 43 (rB 64 l) (nt Om)),(7,.t (tc (k:= .u8) (l:= .u64) (a:=u1 ((l.getD ((8*q)+k) 0).toNat:Int)) λ_ _ _ e f=>z0 e f)),(8,.v (iN k)),(9,ml 8 k),(10,.t (tv (convert 3 201 (iN (8*k))) (λ_=>mK Tryz.underlying3 Tryz.underlying201 Om))),(11,.t (tv (av .shl 44 (.tmp 17) (.tmp 20) (u6 ((l.getD ((8*q)+k) 0).toNat:Int)) (u6 ((8*k:Nat):Int))) (λ_=>sY (8*k) Om (ue Om)))),(12,.t (tv (av .or 44 (.tmp 10) (.tmp 21) (u6 ((a1 l (8*q) k:Nat):Int)) (u6 (((l.getD (8*q+k) 0).toNat*2^(8*k):Nat):Int))) (λ_=>Li Om))),(13,.v (u6 ((a1 l (8*q) (k+1):Nat):Int)))] [(5,u6 ((a1 l (8*q) (k+1):Nat):Int))] [5] (r0 [(0,ad k 1)] [(7,iN (k+1))] [7] (le (k+1) Om Om Kr [0] Kr)))
 obtain rfl:k=8:=by omega
 exact lx (r0 [] [(4,u6 ((a1 l (8*q) 8:Nat):Int))] [4] (lf ab.zero [] [] []))
theorem Lm(b:Nat)(l:List UInt8)(o:l.length=64):eX 5 VB 200 #[pt b 0] (λ(x:Nat×Nat)=>#[i6 (x.1:Int),u6 (x.2:Int)]) ((VL 8).map λk=>(k,a1 l (8*k) 8)) (V6 [[(b,.cells (rB 64 l).toArray 43 (0,0))]]):=by
 refine gi (KO:=[[(b,.cells (rB 64 l).toArray 43 (0,0))]]) Tryz.func200 (λp r q v t f m j=>?_);refine r0 [] [(4,i6 0)] [] ?_;refine jD (λk=>k≤8) (λk=>[(4,iN k)]) (λ_ L=>L) (λk=>8-k) (λk=>k) 0 Om j Kr Kr (λk s u n d=>?_);refine r0 [] [(5,.bool (decide ((k:Int)<8)))] [] ?_;refine b0 (k:Int) 8 (λi e=>?_) λi e=>?_
 ·refine r0 [] [(3,iN k)] [] ?_;refine iy f m d 5 (λ_=>[(2,.l 0),(4,.c [] [] (Ll l (by(simp only[LL,o];done)) k Om))]) (λ_=>[(7,.func (.yield p) #[] #[]),(8,iN k),(11,u6 ((a1 l (8*k) 8:Nat):Int))]) [] (λ_ L=>L) N0 [0] (oa Om) (λw g h a=>?_);refine cF _ rfl (r0 [(0,ad k 1)] [(4,iN (k+1))] [4] ?_);exact ij (k+1) Om a Om Kr [0] Kr
 obtain rfl:k=8:=by omega
 refine jE ?_;exact ku f d Vm [] [0]
theorem Ln(l:List UInt8)(c:l.length=64):aa VB 154 #[.agg (rB 64 l).toArray] [] [] (λE=>[ob (E.y 0) (rB 64 l).toArray 43]) (λE=> .func (.func 200) #[] #[pt ((E.y 0)) 0]):=by
 exact fG Tryz.func154 λw b=>ra (λa=>[(1,pt (B0 a) 0),(2,.nilFunc)]) (λa=>[ob (B0 a) (rB 64 l).toArray 43]) λa=>r0 [] [(2,.func (.func 200) #[] #[pt (B0 a) 0])] [2] (lf (.l [(a 0).y 0] [] []) [0] [] [])
theorem Lp(l:List UInt8)(c:l.length=64):aa VB 160 #[.agg (rB 64 l).toArray] [] [] (λE=>[ob (E.y 0) (rB 64 l).toArray 43]) (λE=> .func (.func 202) #[] #[pt ((E.y 0)) 0]):=by
 exact fG Tryz.func160 λw b=>ra (λa=>[(1,pt (B0 a) 0),(2,.nilFunc)]) (λa=>[ob (B0 a) (rB 64 l).toArray 43]) λa=>r0 [] [(2,.func (.func 202) #[] #[pt (B0 a) 0])] [2] (lf (.l [(a 0).y 0] [] []) [0] [] [])
theorem Lq(b:Nat)(l:List UInt8)(o:l.length=64):eX 5 VB 202 #[pt b 0] (λ(x:Nat×List UInt8)=>#[i6 (x.1:Int),.agg (rB 32 x.2).toArray]) ((VL 2).map λk=>(k,(l.drop (32*k)).take 32)) (V6 [[(b,.cells (rB 64 l).toArray 43 (0,0))]]):=by
 refine gi (KO:=[[(b,.cells (rB 64 l).toArray 43 (0,0))]]) Tryz.func202 (λp r q w u e j i=>?_);refine r0 [] [(4,i6 0)] [] ?_;refine jD (λk=>k≤2) (λk=>[(4,iN k)]) (λ_ L=>L) (λk=>2-k) (λk=>k) 0 Om i Kr Kr (λk s v n c=>?_);refine r0 [] [(5,.bool (decide ((k:Int)<2)))] [] ?_;refine b0 (k:Int) 2 (λh d=>?_) λh d=>?_
 ·refine r0 [] [(3,iN k)] [] ?_;refine iy e j c 7 (λ_=>[(3,ml 32 k),(4,aL 43 b 64 1 (32*k)),(5,.t (tv (Instr.arrayAt 267 (.slice (some ⟨b,(32*k)*1,none⟩) (64-(32*k)) (64-(32*k)))) (λ_=>run_arrayAt _ 267 5 32 _ _ _ Tryz.underlying267 Om))),(6,.m (lg 0 b ((32*k)*1) (rB 64 l).toArray 43 (rB 32 ((l.drop (32*k)).take 32)) (wm (λ_=>rfl) o Om)))]) (λ_=>[(7,.func (.yield p) #[] #[]),(8,iN k),(13,.agg (rB 32 ((l.drop (32*k)).take 32)).toArray)]) [] (λ_ L=>L) N0 [0] (oa Om) (λy f g a=>?_);refine cF _ rfl (r0 [(0,ad k 1)] [(4,iN (k+1))] [4] ?_);exact ij (k+1) Om a Om Kr [0] Kr
 obtain rfl:k=2:=by omega
 refine jE ?_;exact ku e c Vm [] [0]
end
section
open Go Go.Shelf Go.RowKit
theorem oA(m:Int):aa VB 71 #[i6 m] [] [] N0 (λ_=> .bool ((m==1)||(m==2))):=by
 exact fG Tryz.func71 λw a=>r0 [] [(2,.bool false)] [] (r0 [] [(2,.bool ((m==1)||(m==2)))] [2] (lf ab.zero [] [] []))
theorem uf:aa VB 75 #[i6 1] [] [] N0 (λ_=>i6 9):=by
 exact fG Tryz.func75 λw a=>r0 [] [(2,i6 0)] [] (r0 [] [(3,i6 1)] [] (rT [] 4 (r0 [] [(2,i6 9)] [2] (ak (i6 9) ab.zero Vm [] [] []))))
theorem ug:aa VB 75 #[i6 2] [] [] N0 (λ_=>i6 36):=by
 exact fG Tryz.func75 λw a=>r0 [] [(2,i6 0)] [] (r0 [] [(3,i6 2)] [] (rF [] 4 (rT [] 6 (r0 [] [(2,i6 36)] [2] (ak (i6 36) ab.zero Vm [] [] [])))))
theorem xu:aa VB 192 #[i6 1] [] [] N0 (λ_=>i6 8):=by
 refine fG Tryz.func192 λw f=>r0 [] [(2,i6 0)] [] (r0 [(1,.c [] [] (oA 1))] [(5,.bool (!((1==1)||(1==2))))] [] ?_);have e:(!((1==1)||(1==2)))=false:=by decide
 exact cF (!((1==1)||(1==2))) e (r0 [(1,.c [] [] (uf)),(2,.t (tb (a:=i6 72) (b:=i6 9) λ_ _ _ _=>og (a:=72) (d:=9) Dc Om))] [(2,iN (72/9))] [2] (ak (iN (72/9)) ab.zero Vm [] [] []))
theorem xv:aa VB 192 #[i6 2] [] [] N0 (λ_=>i6 2):=by
 refine fG Tryz.func192 λw f=>r0 [] [(2,i6 0)] [] (r0 [(1,.c [] [] (oA 2))] [(5,.bool (!((2==1)||(2==2))))] [] ?_);have e:(!((2==1)||(2==2)))=false:=by decide
 exact cF (!((2==1)||(2==2))) e (r0 [(1,.c [] [] (ug)),(2,.t (tb (a:=i6 72) (b:=i6 36) λ_ _ _ _=>og (a:=72) (d:=36) Dc Om))] [(2,iN (72/36))] [2] (ak (iN (72/36)) ab.zero Vm [] [] []))
theorem Ca{α:Type}{en:α→List Value}{d:α}{a l m c N:Nat}{ys:List α}{t:TypeId}(h1: ∀x,(en x).length=1)(h:ys.length=N)(b:l+m≤N):dJ en (.slice (some ⟨a,l*1,none⟩) m c) ((ys.drop l).take m) [(a,.cells ((cG en d N ys).toArray) t (0,0))]:=
 .inr ⟨a,l*1,_,t,(0,0),c,by rw[show((ys.drop l).take m).length=m by rw[VP,V7];omega],by simp,Ah (d:=d) h1 h b⟩
theorem Cb(xs:List UInt8)(d:xs.length=72)(q:Nat)(g:q<8):aa VB 194 #[.agg (rB 72 xs).toArray,i6 1,iN q] [] [] (λE=>[bt (E.val 0) ((xs.drop (9*q)).take 9)]) (λE=>(E.val 0)):=by
 refine fG Tryz.func194 λw f=>ra (λa=>[(3,pt (B0 a) 0),(6,.slice none 0 0)]) (λa=>[ob (B0 a) (rB 72 xs).toArray 217]) λa=>r0 [(5,.c [] [] (xu))] [(15,.bool ((decide ((q:Int)<0))||(decide (8≤(q:Int)))))] [] ?_;have e:((decide ((q:Int)<0))||(decide (8≤(q:Int))))=false:=by rw[bh Om,bh Om];rfl
 exact cF ((decide ((q:Int)<0))||(decide (8≤(q:Int)))) e (r0 [(1,.c [] [] (uf))] [(7,i6 9)] [] (rr (λb=>[(0,.m (qw 1 eB ([u1 0]) 5)),(3,ml 9 q),(6,ml 9 q),(8,ad (9*q) 9),(9,aM 217 (B0 a) 72 1 (9*q) 9),(10,.m (lQ 1 0 oi (.slice (some ⟨(b 0).y 0,0,none⟩) 0 0) (.slice (some ⟨(a 0).y 0,(9*q)*1,none⟩) 9 (72-(9*q))) (xs:=[]) (ys:=(xs.drop (9*q)).take 9) (ob (B0 a) (rB 72 xs).toArray 217) (λ_ h=>by rw[show _=_ from h];exact Ca (λ_=>rfl) d Om) oh (λ_=>rfl) (by simp only[LL,d];omega)))]) (λb=>[(6,(b 10).val 0)]) [6] (λb L=>L++[bt ((b 10).val 0) ([]++((xs.drop (9*q)).take 9))]) λb=>lf (.l [] [] [(b 10).val 0]) [1] [] [] (hf:=by kernel_rfl)))
theorem Cc(xs:List UInt8)(d:xs.length=72)(q:Nat)(g:q<2):aa VB 194 #[.agg (rB 72 xs).toArray,i6 2,iN q] [] [] (λE=>[bt (E.val 0) ((xs.drop (36*q)).take 36)]) (λE=>(E.val 0)):=by
 refine fG Tryz.func194 λw f=>ra (λa=>[(3,pt (B0 a) 0),(6,.slice none 0 0)]) (λa=>[ob (B0 a) (rB 72 xs).toArray 217]) λa=>r0 [(5,.c [] [] (xv))] [(15,.bool ((decide ((q:Int)<0))||(decide (2≤(q:Int)))))] [] ?_;have e:((decide ((q:Int)<0))||(decide (2≤(q:Int))))=false:=by rw[bh Om,bh Om];rfl
 exact cF ((decide ((q:Int)<0))||(decide (2≤(q:Int)))) e (r0 [(1,.c [] [] (ug))] [(7,i6 36)] [] (rr (λb=>[(0,.m (qw 1 eB ([u1 0]) 5)),(3,ml 36 q),(6,ml 36 q),(8,ad (36*q) 36),(9,aM 217 (B0 a) 72 1 (36*q) 36),(10,.m (lQ 1 0 oi (.slice (some ⟨(b 0).y 0,0,none⟩) 0 0) (.slice (some ⟨(a 0).y 0,(36*q)*1,none⟩) 36 (72-(36*q))) (xs:=[]) (ys:=(xs.drop (36*q)).take 36) (ob (B0 a) (rB 72 xs).toArray 217) (λ_ h=>by rw[show _=_ from h];exact Ca (λ_=>rfl) d Om) oh (λ_=>rfl) (by simp only[LL,d];omega)))]) (λb=>[(6,(b 10).val 0)]) [6] (λb L=>L++[bt ((b 10).val 0) ([]++((xs.drop (36*q)).take 36))]) λb=>lf (.l [] [] [(b 10).val 0]) [1] [] [] (hf:=by kernel_rfl)))
theorem Lr(xs ys:List UInt8)(v:Value)(g:xs.length=72)(q:Nat)(j:q<8)(h:ys.length=9):aa VB 155 #[.agg (rB 72 xs).toArray,i6 1,iN q,v] [.p (aH eB v ys)] [] N0 (λ_=> .agg (rB 72 (xs.take (9*q)++ys++xs.drop ((9*q)+ys.length))).toArray):=by
 refine fO Tryz.func155 0 rfl λe b=>fG Tryz.func155 λw i=>ra (λa=>[(4,pt (B0 a) 0),(8,pt (B1 a) 0)]) (λa=>[ob (B0 a) (rB 72 xs).toArray 217,ob (B1 a) (rB 72 (VA 72 0)).toArray 217]) λa=>r0 [(1,.c [] [] (uf))] [(9,i6 9)] [] (r0 [(5,.c [] [] (xu)),(10,eD b.1 0),] [(25,.bool (((decide (0≤(q:Int)))&&(decide ((q:Int)<8)))&&((ys.length:Int)==9)))] [] ?_);have f:(((decide (0≤(q:Int)))&&(decide ((q:Int)<8)))&&((ys.length:Int)==9))=true:=by rw[cx Om,cx Om];simp [h]
 exact cT (((decide (0≤(q:Int)))&&(decide ((q:Int)<8)))&&((ys.length:Int)==9)) f (rs [(2,ml 9 q),(3,aL 217 (B0 a) 72 1 (9*q)),(5,.m (tK kB 1 (B0 a) ((9*q)*1) (72-(9*q)) (72-(9*q)) (rB 72 xs).toArray (rB 72 (xs.take (9*q)++ys++xs.drop ((9*q)+ys.length))).toArray 217 191 191 0 (.c e) v ys (cP b.1) Om (by rw[VG,jZ];omega) (by rw[VY];exact ALca WN (qt (d:=0) (λ_=>rfl) g rfl Om))))] 1 (ob (B0 a) (rB 72 (xs.take (9*q)++ys++xs.drop ((9*q)+ys.length))).toArray 217) (rs [(0,.l 1),(1,.s 2)] 2 (ob (B1 a) (rB 72 (xs.take (9*q)++ys++xs.drop ((9*q)+ys.length))).toArray 217) (lf ab.zero [] [(0,0)] [2])))
theorem Ls(xs ys:List UInt8)(v:Value)(g:xs.length=72)(q:Nat)(j:q<2)(h:ys.length=36):aa VB 155 #[.agg (rB 72 xs).toArray,i6 2,iN q,v] [.p (aH eB v ys)] [] N0 (λ_=> .agg (rB 72 (xs.take (36*q)++ys++xs.drop ((36*q)+ys.length))).toArray):=by
 refine fO Tryz.func155 0 rfl λe b=>fG Tryz.func155 λw i=>ra (λa=>[(4,pt (B0 a) 0),(8,pt (B1 a) 0)]) (λa=>[ob (B0 a) (rB 72 xs).toArray 217,ob (B1 a) (rB 72 (VA 72 0)).toArray 217]) λa=>r0 [(1,.c [] [] (ug))] [(9,i6 36)] [] (r0 [(5,.c [] [] (xv)),(10,eD b.1 0),] [(25,.bool (((decide (0≤(q:Int)))&&(decide ((q:Int)<2)))&&((ys.length:Int)==36)))] [] ?_);have f:(((decide (0≤(q:Int)))&&(decide ((q:Int)<2)))&&((ys.length:Int)==36))=true:=by rw[cx Om,cx Om];simp [h]
 exact cT (((decide (0≤(q:Int)))&&(decide ((q:Int)<2)))&&((ys.length:Int)==36)) f (rs [(2,ml 36 q),(3,aL 217 (B0 a) 72 1 (36*q)),(5,.m (tK kB 1 (B0 a) ((36*q)*1) (72-(36*q)) (72-(36*q)) (rB 72 xs).toArray (rB 72 (xs.take (36*q)++ys++xs.drop ((36*q)+ys.length))).toArray 217 191 191 0 (.c e) v ys (cP b.1) Om (by rw[VG,jZ];omega) (by rw[VY];exact ALca WN (qt (d:=0) (λ_=>rfl) g rfl Om))))] 1 (ob (B0 a) (rB 72 (xs.take (36*q)++ys++xs.drop ((36*q)+ys.length))).toArray 217) (rs [(0,.l 1),(1,.s 2)] 2 (ob (B1 a) (rB 72 (xs.take (36*q)++ys++xs.drop ((36*q)+ys.length))).toArray 217) (lf ab.zero [] [(0,0)] [2])))
end
section
open Go Go.Shelf Go.RowKit
def jw(a:List Nat)(i:Nat):UInt8:=UInt8.ofNat (a.getD (i/8) 0/2^(8*(i%8)))
theorem Lt{a:List Nat}{k j:Nat}(b:j<8):jw a (8*k+j)=UInt8.ofNat (a.getD k 0/2^(8*j)):=by
 unfold jw;rw[show(8*k+j)/8=k by omega,show(8*k+j)%8=j by omega]
attribute [local irreducible] cp
theorem Lu(b:List Nat)(x:b.length=8)(v: ∀i,b.getD i 0<18446744073709551616):aa VB 196 #[.agg (rW 8 b).toArray] [] [] N0 (λ_=> .agg (rB 64 (cp 64 (jw b) (8*8))).toArray):=by
 refine fG Tryz.func196 λw u=>ra (λd=>[(1,pt (B0 d) 0),(2,pt (B1 d) 0)]) (λd=>[ob (B0 d) (rW 8 b).toArray 320,ob (B1 d) (rB 64 z6).toArray 43]) λd=>ra (λc=>[(3,pt (B0 c) 0)]) (λc=>[ob (B0 c) (rB 64 z6).toArray 43]) λc=>r0 [(0,.l 0)] [(7,.agg (rW 8 b).toArray),(8,i6 0)] [] ?_;refine lq (λk=>k≤8) (λk=>[(8,iN k)]) (λk L=>L.set 2 (ob (B0 c) (rB 64 (cp 64 (jw b) (8*k))).toArray 43)) (λk=>8-k) 0 Om Kr (by rw[Xr,Ld];kernel_rfl) (λk q=>?_);refine r0 [] [(9,.bool (decide ((k:Int)<8)))] [] ?_;refine b0 (k:Int) 8 (λm g=>?_) λm g=>?_
 ·refine r0 [(1,.t (tv (Instr.index 320 (.agg (rW 8 b).toArray) (iN k)) (λ_=>F6 (n:=8) (e:=44) Tryz.underlying320 Om (λ_=>by kernel_rfl) Kr (GV Om))))] [(4,iN k),(5,u6 ((b.getD k 0:Nat):Int))] [] (r0 [] [(12,i6 0)] [] ?_);refine lq (λj=>j≤8) (λj=>[(12,iN j)]) (λj L=>L.set 2 (ob (B0 c) (rB 64 (cp 64 (jw b) (8*k+j))).toArray 43)) (λj=>8-j) 0 Om Kr Kr (λj r=>?_);refine r0 [] [(13,.bool (decide ((j:Int)<8)))] [] ?_;refine b0 (j:Int) 8 (λh f=>?_) λh f=>?_
  ·exact r0 [] [(6,iN j)] [] (rs [(1,ml 8 k),(3,ad (8*k) j),(6,ml 8 j),(7,.t (tv (convert 3 201 (iN (8*j))) (λ_=>mK Tryz.underlying3 Tryz.underlying201 Om))),(8,.t (tv (av .shr 44 (.tmp 19) (.tmp 22) (u6 ((b.getD k 0:Nat):Int)) (u6 ((8*j:Nat):Int))) (λ_=>sX (8*j) Om))),(9,.t (tc (k:= .u64) (l:= .u8) (a:=u6 ((b.getD k 0/2^(8*j):Nat):Int)) λ_ _ _ o p=>sZ o p)),(10,iA 43 .i64 (B0 c) 0 64 1 ((8*k)+j)),(11,wD 2 (B0 c) ((8*k)+j) 43 (u1 ((UInt8.ofNat (b.getD k 0/2^(8*j))).toNat:Int)) (rB 64 (cp 64 (jw b) (8*k+j))) (rB 64 ((cp 64 (jw b) (8*k+j)).set ((8*k)+j) (UInt8.ofNat (b.getD k 0/2^(8*j))))) (jk Om) (lP (l7 ..)))] 2 (ob (B0 c) (rB 64 ((cp 64 (jw b) (8*k+j)).set ((8*k)+j) (UInt8.ofNat (b.getD k 0/2^(8*j))))).toArray 43) (r0 [(0,ad j 1)] [(12,iN (j+1))] [12] (le (j+1) Om Om Kr [0,1,2] (by rw[←Xp,←Lc Om,Lt Om];kernel_rfl))))
  obtain rfl:j=8:=by omega
  exact lx (r0 [(0,ad k 1)] [(8,iN (k+1))] [8] (le (k+1) Om Om Kr [0,1,2] Kr))
 obtain rfl:k=8:=by omega
 exact lx (rs [(0,.l 2),(1,.s 1)] 1 (ob (B1 d) (rB 64 (cp 64 (jw b) (8*8))).toArray 43) (lf ab.zero [] [] [1]))
end
section
open Go Go.Shelf Go.RowKit
attribute [local irreducible] bD bQ Vn aO aV
theorem Lv:aa VB 115 #[] [] [] (λE=>[ob (E.y 0) #[pt ((E.y 1)) 0,pt ((E.y 2)) 0] 242,ob (E.y 1) (rB 74 (bD 10)++rI 256 (bQ 10)).toArray 298,ob (E.y 2) #[pt ((E.y 3)) 0,(E.val 0)] 309,ob (E.y 3) (rB 255 aO++rN 256 aV).toArray 312,bt (E.val 0) Vn]) (λE=>pt ((E.y 0)) 0):=by
 exact fG Tryz.func115 λw b=>r0 [] [(0,.pointer none)] [] (rr (λa=>[(0,.c [] [0] (K4)),(1,.c [] [1] (Jg)),(2,.c [1] [2,3] (Kz (B1 a)))]) (λa=>[(0,pt (B4 a) 0)]) [0] (λa L=>L++[ob (B0 a) (rB 74 (bD 10)++rI 256 (bQ 10)).toArray 298,ob (B1 a) (rB 255 aO++rN 256 aV).toArray 312,ob (B2 a) #[pt ((B1 a)) 0,((a 2).val 0)] 309,bt ((a 2).val 0) Vn,ob (B4 a) #[pt ((B0 a)) 0,pt ((B2 a)) 0] 242]) λa=>lf (.l [(a 4).y 0,(B0 a),(B2 a),(B1 a)] [] [((a 2).val 0)]) [4,0,2,1,3] [] [])
end
end E
end Go.Proofs.YtbcodenfkijdnaaGreat
