/- WholeLog, in 6 texts: part 2. For every input; no condition. -/
import Derived.Test.YtbcodenfkijdnaaGreatPg1
import Derived.WalkKit
import Derived.Sort.CutIn
import Derived.IntWalk
import Derived.Laws.BitsAllLaws
set_option linter.unusedVariables false
set_option linter.unusedSimpArgs false
set_option maxRecDepth 100000
namespace Go.Proofs.YtbcodenfkijdnaaGreat
open List renaming replicate→UZ,not_mem_nil→U1,append_nil→U2,length_append→U3,mem_cons→U4,size_toArray→U5,length_replicate→U6,getD_eq_getElem?_getD→U8,length_set→U9,range→Va,getElem?_append_right→Ve,length_take→Vf,getElem?_eq_none→Vg,getElem?_eq_getElem→Vk,getElem?_toArray→Vn,length_range→Vt,flatten→Vw,length_drop→Vx,mem_append→Vz,length_map→VA,getElem?_append_left→VF,append_assoc→VG,map_congr_left→VO,mem_singleton→VR,getElem?_map→VU,ext_getElem?→VV,nil_append→V0,drop_eq_getElem_cons→V3,getElem?_take_of_lt→V4,take_of_length_le→V8,take_append_drop→V9,toArray→Wb,mem_cons_of_mem→Wc,mem_of_getElem?→Wd,mem_append_left→We,getElem_of_mem→Wi,getElem?_range→Wj,replicate_zero→Wl,mem_cons_self→Wn,getElem_mem→Wv,flatten_nil→Wx,ext_getElem→Wz,take_zero→WH,any→WJ,length→WL
open Go.Proofs.Tryz renaming prog→U0
open Bool renaming and_eq_true→U7,false_eq_true→VP,false_or→VQ,or_eq_true→V1,or_eq_false_iff→Wh,noConfusion→Ww
open Go.Result renaming andThen_ok→Vb
open Nat renaming mod_eq_of_lt→Vc,eq_of_beq_eq_true→Vh,le_refl→Vi,zero_add→Vl,mul_one→Vo,lt_or_ge→Vp,div_div_eq_div_mul→Vs,mod_lt→Vv,beq→Vy,sub_zero→VC,add_zero→VE,blt_eq→VH,blt→VI,beq_refl→VJ,le_of_ble_eq_true→VK,pow_le_pow_right→VN,lt_of_le_of_lt→VS,sub_self→VX,le_of_not_lt→VY,mul_le_mul→V5,add_sub_cancel_left→V7,pow_zero→Wf,pow_succ→Wg,ble→Wm,div_one→Wq,lt_of_lt_of_le→Wu,lt_succ_self→WA,strongRecOn→WD,not_lt_zero→WE,min_eq_left→WI,add_assoc→WK,mul_zero→WM,le_trans→WN
open Option renaming map_some→Vj,getD_some→VT,bind_some→Wo
open UInt8 renaming xor_zero→Vm,toNat_ofNat'→VB,xor_self→VL,zero_xor→VM,xor_assoc→VZ,ofNat_toNat→Ws,toNat_xor→Wy,xor_comm→WC
open Go.Sem renaming run_bind→Vq,run_pure→Vr
open Int renaming toNat_natCast→Vu,eq_ofNat_of_zero_le→V6,natCast_nonneg→Wt,natCast_emod→WB,emod_nonneg→WG
open Classical renaming choose→VD,byContradiction→VW,choose_spec→V2
open Go.IntKind renaming wrap_u32→Wk,wrap_u8→Wp
namespace E
section
open Go.RowKit Go.Shelf Go
section
variable (P:Program)
def wi(o:Oper)(ρ:Operand→Value):Value:=match (execOp ρ o).run P default with
 | .ok (.value v) _=>v
 | _=>undef
def HJ(c x y:Operand)(ρ:Operand→Value):Value:=match ρ c,x,y with
 | .bool E,_,.const (.bool false)=>(match ρ x with | .bool X=> .bool (E&&X) | _=>undef)
 | .bool E,_,_=>(match ρ y with | .bool Y=> .bool (E||Y) | _=>undef)
 | _,_,_=>undef
end
def sY(P:Program)(b:Bool)(xs ys:List Value):TD:=λo ρ=>match o.op with
 | .binOp d T x y _=>[sE d (match b with | true=> .neq | false=> .eql),sE (ρ x) (.agg xs.toArray),sE (ρ y) (.agg ys.toArray),sE (dz P T,P.eqGuardType P.depth T,(iZ P 8 T).map λc=>eo c xs&&eo c ys) (true,false,some true)]
 | _=>[sB false]
theorem HK{P:Program}{xs ys:List Value}:TD.ok P (sY P false xs ys) (.bool (eU xs ys)):=by
 intro o ρ b w;unfold sY at b
 split at b
 ·rename_i i T x y q c;simp only[U4,U1,or_false,forall_eq_or_imp,forall_eq,sE] at b;obtain⟨rfl,d,e,g⟩:=b;exact(v8 (P:=P) T (λx y w=>vU (x:=x) (y:=y) (w:=w) g rfl)) o ρ (by simp only[sT,c,U4,U1,or_false,forall_eq_or_imp,forall_eq,sE];exact⟨trivial,trivial,d,e⟩) w
 ·exact(bu b).elim
theorem HL{P:Program}{xs ys:List Value}:TD.ok P (sY P true xs ys) (.bool (!eU xs ys)):=by
 intro o ρ b w;unfold sY at b
 split at b
 ·rename_i i T x y q c;simp only[U4,U1,or_false,forall_eq_or_imp,forall_eq,sE] at b;obtain⟨rfl,d,e,g⟩:=b;exact(v8 (P:=P) T (λx y w=>iu (x:=x) (y:=y) (w:=w) g rfl)) o ρ (by simp only[sT,c,U4,U1,or_false,forall_eq_or_imp,forall_eq,sE];exact⟨trivial,trivial,d,e⟩) w
 ·exact(bu b).elim
def HN(P:Program)(o:Oper)(ρ:Operand→Value):bY P:=match o.op with
 | .binOp .eql _ x y _=>(match mv (ρ x),mv (ρ y) with | some xs,some ys=> .t (val:= .bool (eU xs ys)) ⟨_,HK⟩ | _,_=> .d undef)
 | .binOp .neq _ x y _=>(match mv (ρ x),mv (ρ y) with | some xs,some ys=> .t (val:= .bool (!eU xs ys)) ⟨_,HL⟩ | _,_=> .d undef)
 | _=> .d undef
inductive b6 (P:Program):Type 1
 | l (p:Nat)
 | e
 | s (p:Nat)
 | d
 | v (v:Value)
 | t {val:Value} (d:TH P val)
 | u {val:Value} (d:TD) (j:Nat) (E b:Bool) (h:E=b→TD.ok P d val)
 | m {val:ab→Value} (d:MH P val)
 | c {f:FuncId} {args:Array Value} {rd:ah} {O:List Nat} {wt:ab→ah} {v:ab→Value} (ps qs:List Nat) (h:aa P f args rd O wt v)
section
variable {P:Program}
def Ah(P:Program)(T:TypeId):Nat:=((P.info? T).map (·.size)).getD 0
def HO(P:Program)(p:Nat)(T:TypeId)(x:Value)(C:cb):bY P:=match C p,kc x with
 | some (.c [(_,.cells cs _ _)]),some (_,b)=>(match dz P T with
  | true=> .m (ls p ((cs.toList.drop b).take (Ah P T)))
  | false=> .m (ld p (cs.getD b undef)))
 | _,_=> .d undef
def HP(P:Program)(p:Nat)(T:TypeId):bY P:=match dz P T with
 | true=> .m (ss p)
 | false=> .m (st p)
def b6.hint(o:Oper)(ρ:Operand→Value)(C:cb):b6 P→bY P
 | .l p=>(match o.op with | .load T x=>HO P p T (ρ x) C | _=> .d undef)
 | .s p=>(match o.op with | .store T _ _=>HP P p T | _=> .d undef)
 | .e=>HN P o ρ
 | .d=> .d (.bool false)
 | .v x=> .v x
 | .t x=> .t x
 | .u x j E b h=> .u x j E b h
 | .m x=> .m x
 | .c g i h=> .c g i h
def Ai(o:Oper)(ρ:Operand→Value)(p:Nat):bY P:=match o.op with
 | .pick c x y=> .k (HJ c x y ρ)
 | .alloc _=> .m (al p)
 | .box _ _=> .m (bx p)
 | _=> .v (wi P o ρ)
def sZ(p:Nat):Wr→Nat
 | []=>p
 | x::r=>sZ (match Wm p x.1 with | true=>x.1+1 | false=>p) r
def qm(L:List Oper)(a:Sl)(c:List (List Nat))(η:bt):List Oper→List (Nat×b6 P)→Nat→List Value→cb→Nat→List (bY P)
 | [],_,_,_,_,_=>[]
 | o::os,[],k,b,C,p=>
  (λρ=>(λh=>h::qm L a c η os [] (k+1) (b++[h.val (η k)]) (kC C (h.wt o ρ C (η k))) (sZ p (h.wt o ρ C (η k)))) (Ai o ρ p)) (pZ L a (c.getD k []) b)
 | o::os,(j,x)::r,k,b,C,p=>match Vy j k with
  | true=>(λρ=>(λh=>h::qm L a c η os r (k+1) (b++[h.val (η k)]) (kC C (h.wt o ρ C (η k))) (sZ p (h.wt o ρ C (η k)))) (x.hint o ρ C)) (pZ L a (c.getD k []) b)
  | false=>(λρ=>(λh=>h::qm L a c η os ((j,x)::r) (k+1) (b++[h.val (η k)]) (kC C (h.wt o ρ C (η k))) (sZ p (h.wt o ρ C (η k)))) (Ai o ρ p)) (pZ L a (c.getD k []) b)
end
inductive It where
 | c (x:Code)
 | b (id:Nat)
 | x (id:Nat)
section
variable (F:Fence) (n:Nat) (P:Program) (Q:Exit→Act→World→Prop)
def cV:List It→Exit→Act→World→Prop
 | []=>Q
 | .c x::S=>Exit.then (x.wpIn F n P (cV S)) (cV S)
 | .b d::S=>Exit.inBlock d (cV S)
 | .x d::S=>Exit.then (cV S (.exit d)) (cV S)
end
def lH(id:Nat):List It→Option (List It)
 | []=>none
 | .c _::S=>lH id S
 | .x _::S=>lH id S
 | .b j::S=>match Vy j id with
  | true=>some S
  | false=>lH id S
def c0:Nat→List It→List It
 | 0,S=>S
 | n+1,S=>match S with
  | .c (.seq x y)::S=>c0 n (.c x:: .c y::S)
  | .c (.block d x)::S=>c0 n (.c x:: .b d::S)
  | .c .skip::S=>c0 n S
  | .c (.label _)::S=>c0 n S
  | .b _::S=>c0 n S
  | .c (.exit d)::S=>c0 n (.x d::S)
  | .x d::S=>(match lH d S with
   | some e=>c0 n e
   | none=> .x d::S)
  | S=>S
abbrev nf(S:List It):List It:=c0 1000 S
section
variable {F:Fence} {n:Nat} {P:Program} {Q:Exit→Act→World→Prop} {a:Act} {w:World}
theorem s0{id:Nat}: ∀{S g:List It},lH id S=some g→cV F n P Q g .normal a w→cV F n P Q S (.exit id) a w
 | .c _::S,g,h,d=>s0 (S:=S) h d
 | .x _::S,g,h,d=>s0 (S:=S) h d
 | .b j::S,g,h,d=>by
  unfold lH at h;show if id=j then cV F n P Q S .normal a w else cV F n P Q S (.exit id) a w
  split at h
  ·rename_i i;cases h;rw[ALifp (Vh i).symm];exact d
  ·rename_i i;rw[ALifn (λe=>by rw[e,VJ] at i;cases i)];exact s0 h d
theorem qn{id:Nat}: ∀{S:List It},lH id S=none→Q (.exit id) a w→cV F n P Q S (.exit id) a w
 | [],_,d=>d
 | .c _::S,h,d=>qn (S:=S) h d
 | .x _::S,h,d=>qn (S:=S) h d
 | .b j::S,h,d=>by
  unfold lH at h;show if id=j then cV F n P Q S .normal a w else cV F n P Q S (.exit id) a w
  split at h
  ·cases h
  ·rename_i g;rw[ALifn (λe=>by rw[e,VJ] at g;cases g)];exact qn h d
theorem gz: ∀{S:List It},Q .ret a w→cV F n P Q S .ret a w
 | [],h=>h
 | .c _::S,h=>gz (S:=S) h
 | .b _::S,h=>gz (S:=S) h
 | .x _::S,h=>gz (S:=S) h
theorem dm: ∀(m:Nat) (S:List It),cV F n P Q (c0 m S) .normal a w→cV F n P Q S .normal a w
 | 0,_,h=>h
 | m+1,S,h=>by
  unfold c0 at h
  split at h
  ·exact wpIn_seq (dm m _ h)
  ·exact wpIn_block (dm m _ h)
  ·exact wpIn_skip (dm m _ h)
  ·exact wpIn_label (dm m _ h)
  ·rename_i b;exact(dm m b h:cV F n P Q b .normal a w)
  ·rename_i c b;exact wpIn_exit (dm m (.x c::b) h:cV F n P Q b (.exit c) a w)
  ·split at h
   ·rename_i d;exact s0 d (dm m _ h)
   ·exact h
  ·exact h
end
structure Go (F:Fence) (n:Nat) (P:Program) (R:List Nat) (base:World) (Q:Exit→Act→World→Prop) (S:List It) (a:Sl) (L:ah) (Ds:List Nat):Prop where
 out: ∀b W,Fr a Ds b→aF R base (L++Ds.map mk) W→cV F n P Q S .normal b W
def UH(S:List It):It:=match nf S with | x::_=>x | []=> .b 0
def bP(S:List It):List It:=match nf S with | _::S=>S | []=>[]
def aw(S:List It):List Oper:=match nf S with | .c (.region _ L _)::_=>L.toList | _=>[]
def eK(S:List It):Bool:=match nf S with | .c (.region _ _ d)::_=>d | _=>false
def kN(S:List It):Bool:=match nf S with | .c (.region _ _ _)::_=>true | _=>false
def ke(a:Sl)(S:List It):Option Bool:=match nf S with
 | .c (.cond c _ _)::_=>(match a.ev c with | .bool E=>some E | _=>none)
 | _=>none
def kf(a:Sl)(S:List It):Bool:=match nf S with
 | .c (.cond (.tmp i) _ _)::_=>a.kn i
 | _=>true
def mB(S:List It):List It:=match nf S with | .c (.cond _ x _)::S=> .c x::S | _=>[]
def mC(S:List It):List It:=match nf S with | .c (.cond _ _ y)::S=> .c y::S | _=>[]
def fC(S:List It):Code:=match nf S with | .c (.loop x)::_=>x | _=> .skip
def mD(S:List It):Bool:=match nf S with | .c (.loop _)::_=>true | _=>false
def ed:List Nat→Fe→Fe
 | [],e=>e
 | d::ds,e=>ed ds (e.filter λx=> !Vy x.1 d)
def lI(L:List Oper)(e b:Fe)(dr:List Nat):Bool:=L.all λo=>match o.dst with
 | none=>true
 | some d=>(lk b d).isSome||dr.contains d||(lk e d).isNone
def kg(L:List Oper)(a:Sl)(t:dE)(η:bt)(i:Nat):Option Value:=match fl i L 0 with
 | some j=>(match VI i a.sz&&(t.cds j).all λc=>p4 c.2 (t.vs η c.1) with
  | true=>some (t.vs η j)
  | false=>none)
 | none=>none
theorem pa{e b:Fe}{i:Nat}:lk (e++b) i=match lk e i with | some v=>some v | none=>lk b i:=by
 induction e with
 | nil=>rfl
 | cons x r ih=>
  obtain⟨j,v⟩:=x;show(match Vy j i with | true=>some v | false=>lk (r++b) i)=match (match Vy j i with | true=>some v | false=>lk r i) with | some v=>some v | none=>lk b i
  cases Vy j i
  ·exact ih
  ·rfl
theorem wj{p:Nat→Bool}: ∀{e:Fe} {i:Nat},lk (e.filter λx=>p x.1) i=if p i then lk e i else none
 | [],i=>by split<;>rfl
 | (j,v)::r,i=>by
  rw[List.filter_cons];have ih:=wj (p:=p) (e:=r) (i:=i);by_cases c:j=i
  ·subst c;cases d:p j with
   | true=>simp [lk]
   | false=>
    rw[d] at ih;simp only[VP,if_false] at ih⊢;exact ih
  ·have b:Vy j i=false:=by
    cases h:Vy j i with
    | false=>rfl
    | true=>exact absurd (Vh h) c
   cases d:p j with
   | true=>simp only[if_true,lk,b,ih]
   | false=>simp only[VP,if_false,lk,b,ih]
theorem Aj: ∀{ds:List Nat} {e:Fe} {i:Nat} {v:Value},lk (ed ds e) i=some v→lk e i=some v∧i∉ds
 | [],_,_,_,h=>⟨h,by simp⟩
 | d::ds,e,i,v,h=>by
  obtain⟨b,g⟩:=Aj (ds:=ds) h;rw[wj (p:=λi=> !Vy i d)] at b
  split at b
  ·rename_i j;refine⟨b,λc=>?_⟩;rcases List.mem_cons.1 c with rfl | c
   ·simp [VJ] at j
   ·exact g c
  ·cases b
theorem Al{e:Fe}{i:Nat}{v:Value}(h:lk e i=some v):(i,v)∈e:=by
 induction e with
 | nil=>cases h
 | cons x r ih=>
  obtain⟨j,u⟩:=x;unfold lk at h
  split at h
  ·rename_i b;cases h;rw[Vh b];exact Wn
  ·exact Wc _ (ih h)
theorem Am{xs:Nat→Value}: ∀(l:List Oper) (k:Nat) (b:Act),(bl xs l k b).tmps.size=b.tmps.size
 | [],_,_=>rfl
 | o::os,k,b=>by rw[bl,Am os,vy]
theorem Ao(b:Act)(x:Option Tmp)(v:Value):(b.put x v).defers=b.defers:=by cases x<;>rfl
theorem Ap{xs:Nat→Value}: ∀(l:List Oper) (k:Nat) (b:Act),(bl xs l k b).defers=b.defers
 | [],_,_=>rfl
 | o::os,k,b=>by rw[bl,Ap os,Ao]
section
variable {F:Fence} {n:Nat} {P:Program} {R:List Nat} {base:World} {Q:Exit→Act→World→Prop} {S:List It} {a:Sl} {sz:Nat} {es:Fe} {L:ah} {Ds:List Nat}
def jM(S:List It)(a:Sl)(b:ah)(hs:bt→List (Nat×b6 P))(η:bt):List (bY P):=qm (aw S) a (iW (eK S) (aw S)) η (aw S) (hs η) 0 [] (λp=>b[p]?) b.length
def tR(S:List It)(a:Sl)(b:ah)(m:Nat)(hs:bt→List (Nat×b6 P)):dE:=sj (aw S) a (iW (eK S) (aw S)) (pY (aw S) []) b m (jM S a b hs)
abbrev mR(Le:bt→ah→ah)(L:ah):Nat:=(Le (λ_=>ab.zero) L).length
theorem Aq(h:kN S=true): ∃id d,nf S= .c (.region id (aw S).toArray d)::bP S∧eK S=d:=by
 unfold kN at h;unfold aw bP eK
 split at h
 ·rename_i id b d g e;rw[e];exact⟨id,d,rfl,rfl⟩
 ·cases h
theorem HQ{b:Bool}{v:Value}(h:p4 b v=true):v= .bool b:=by
 unfold p4 at h
 split at h
 ·rw[eq_of_beq h]
 ·cases h
theorem Fr.region{b:Act}(r:Fr a Ds b){LL:List Oper}{t:dE}{η:bt}{xs:Nat→Value}{e:Fe}{dr:List Nat}(N: ∀i,i<LL.length→t.Is η i (xs i))(I:e.map (λx=>kg LL a t η x.1)=e.map λx=>some x.2)(H:lI LL a.e e dr=true):
  Fr ⟨a.sz,e++ed dr a.e⟩ Ds (bl xs LL 0 b):=by
 refine⟨(Am _ _ _).trans r.size,λi v h=>?_,(Ap _ _ _).trans r.defers⟩;have B:=sd (xs:=xs) i LL 0 b;show(bl xs LL 0 b).eval (.tmp i)=v;rw[B];simp only[pa] at h;cases m:lk e i with
 | some u=>
  rw[m] at h;cases h;have J:=Al m;have d:kg LL a t η i=some v:=by
   obtain⟨q,M,D⟩:=Wi J;have:=ALca (λz=>z[q]?) I;simpa [M,D] using this
  unfold kg at d;cases l:fl i LL 0 with
  | none=>rw[l] at d;cases d
  | some j=>
   rw[l] at d;simp only at d⊢
   split at d
   ·rename_i y;rw[U7] at y;rw[r.size,ALifp (VH▸y.1)];cases d;rcases N j (zx l) with⟨_,g⟩ | ⟨g,_⟩
    ·exact g
    ·exact absurd (λc A=>HQ (List.all_eq_true.1 y.2 c A)) g
   ·cases d
 | none=>
  rw[m] at h;simp only at h;obtain⟨g,G⟩:=Aj h;cases l:fl i LL 0 with
  | none=>exact r.get i v g
  | some j=>
   exfalso;have k:=(sk l).2;rw[VC] at k;cases C:LL[j]? with
   | none=>rw[C] at k;cases k
   | some o=>
    rw[C] at k;have s:=List.all_eq_true.1 H o (Wd C);rw[show o.dst=some i from k] at s;simp only[m,g,Option.isSome_none,Option.isNone_some,Bool.or_false,VQ] at s;exact G (by simpa using s)
theorem rr[hF:jI F](hs:bt→List (Nat×b6 P))(e:bt→Fe)(dr:List Nat)(Le:bt→ah→ah)(C: ∀η,Go F n P R base Q (bP S) ⟨sz,e η++ed dr es⟩ (Le η L) Ds)
  (D:P.follows .mixedOrders=true:=by kernel_rfl)
  (c: ∀η,(kN S,(e4 (aw S) ⟨sz,es⟩ (tR S ⟨sz,es⟩ L (mR Le L) hs) η 0 (aw S) (jM S ⟨sz,es⟩ L hs η)).map a9.lhs,lE (eK S) (aw S) (λk=>(iW (eK S) (aw S)).getD k []),(Va (mR Le L)).map (λp=>(tR S ⟨sz,es⟩ L (mR Le L) hs).at η p (aw S).length),(e η).map (λx=>kg (aw S) ⟨sz,es⟩ (tR S ⟨sz,es⟩ L (mR Le L) hs) η x.1),lI (aw S) es (e η) dr)=
   (true,(e4 (aw S) ⟨sz,es⟩ (tR S ⟨sz,es⟩ L (mR Le L) hs) η 0 (aw S) (jM S ⟨sz,es⟩ L hs η)).map a9.rhs,true,(Le η L).map some,(e η).map (λx=>some x.2),true):=by intro _;kernel_rfl):Go F n P R base Q S ⟨sz,es⟩ L Ds:=by
 have i:=ALca (λx=>x.1) (c λ_=>ab.zero);have j:=λη=>ALca (λx=>x.2.1) (c η);have l:=ALca (λx=>x.2.2.1) (c λ_=>ab.zero);have m:=λη=>ALca (λx=>x.2.2.2.1) (c η);have o:=λη=>ALca (λx=>x.2.2.2.2.1) (c η);have q:=λη=>ALca (λx=>x.2.2.2.2.2) (c η);simp only at i j l m o q;obtain⟨H,d,A,B⟩:=Aq i;subst B;refine⟨λb W r z=>dm 1000 S ?_⟩;rw[show c0 1000 S=_ from A];show(Code.region H (aw S).toArray (eK S)).wpIn F n P (cV F n P Q (bP S)) b W;obtain⟨y,s,u⟩:=z.seg;refine FZ (t:=tR S ⟨sz,es⟩ L (mR Le L) hs) (R:=y) (base:=W) D (zz r j) hF.free l u (λη=>Le η L) m ?_;intro η xs I G g;exact(C η).out _ _ (r.region G (o η) (q η)) (s.out.whole g.out)
end
end
section
open Go.RowKit Go.Shelf Go
section
variable {F:Fence} {n:Nat} {P:Program} {R:List Nat} {base:World} {Q:Exit→Act→World→Prop} {S:List It} {a:Sl} {sz:Nat} {es:Fe} {L:ah} {Ds:List Nat}
abbrev i6(x:Int):Value:= .int .i64 x
abbrev u6(x:Int):Value:= .int .u64 x
abbrev u1(x:Int):Value:= .int .u8 x
abbrev pt(g o:Nat):Value:= .pointer (some ⟨g,o,none⟩)
abbrev iN(n:Nat):Value:=i6 (n:Int)
abbrev N0.{u,v} {α:Type u} {β:Type v}:α→List β:=λ_=>[]
theorem HR{α:Type}{xs ys:List α}{n:Nat}{b:Bool}(h1:xs.length=n)(h2:ys.length=n):(bif b then xs else ys).length=n:=by cases b;exact h2;exact h1
theorem Ar{E:Bool}(h:ke a S=some E)(g:kf a S=true): ∃c x y d,nf S= .c (.cond c x y)::d∧mB S= .c x::d∧mC S= .c y::d∧(∀{b:Act},Fr a Ds b→b.eval c= .bool E):=by
 unfold ke at h;unfold kf at g;unfold mB mC
 split at h
 ·rename_i c x y d e;rw[e] at g⊢
  split at h
  ·rename_i m j;cases h;refine⟨c,x,y,d,rfl,rfl,rfl,λ{b} k=>?_⟩;rw[k.ev λi l=>by subst l;exact g];exact j
  ·cases h
 ·cases h
theorem cB(E:Bool)(ht:E=true→Go F n P R base Q (mB S) ⟨sz,es⟩ L Ds)(hf:E=false→Go F n P R base Q (mC S) ⟨sz,es⟩ L Ds)(i:(ke ⟨sz,es⟩ S,kf ⟨sz,es⟩ S)=(some E,true):=by kernel_rfl):Go F n P R base Q S ⟨sz,es⟩ L Ds:=by
 obtain⟨c,x,y,o,j,k,l,m⟩:=Ar (Ds:=Ds) (ALca (·.1) i) (ALca (·.2) i);refine⟨λb W d g=>dm 1000 S ?_⟩;rw[show c0 1000 S=_ from j];exact wpIn_cond_split (m d) (λe=>by have:=(ht e).out b W d g;rw[k] at this;exact this) (λe=>by have:=(hf e).out b W d g;rw[l] at this;exact this)
theorem cT(E:Bool)(b:E=true)(ht:Go F n P R base Q (mB S) ⟨sz,es⟩ L Ds)(c:(ke ⟨sz,es⟩ S,kf ⟨sz,es⟩ S)=(some E,true):=by kernel_rfl):Go F n P R base Q S ⟨sz,es⟩ L Ds:=cB E (λ_=>ht) (λh=>by rw[b] at h;cases h) c
theorem cF(E:Bool)(b:E=false)(hf:Go F n P R base Q (mC S) ⟨sz,es⟩ L Ds)(c:(ke ⟨sz,es⟩ S,kf ⟨sz,es⟩ S)=(some E,true):=by kernel_rfl):Go F n P R base Q S ⟨sz,es⟩ L Ds:=cB E (λh=>by rw[b] at h;cases h) (λ_=>hf) c
theorem b4(x y:Int)(ht:(decide (x<y))=true→x<y→Go F n P R base Q (mB S) ⟨sz,es⟩ L Ds)(hf:(decide (x<y))=false→y≤x→Go F n P R base Q (mC S) ⟨sz,es⟩ L Ds)(b:(ke ⟨sz,es⟩ S,kf ⟨sz,es⟩ S)=(some (decide (x<y)),true):=by kernel_rfl):Go F n P R base Q S ⟨sz,es⟩ L Ds:=
 cB _ (λh=>ht h (of_decide_eq_true h)) (λh=>hf h (Int.not_lt.1 (of_decide_eq_false h))) b
theorem n7(x y:Int)(ht:(decide (x≤y))=true→x≤y→Go F n P R base Q (mB S) ⟨sz,es⟩ L Ds)(hf:(decide (x≤y))=false→y<x→Go F n P R base Q (mC S) ⟨sz,es⟩ L Ds)(b:(ke ⟨sz,es⟩ S,kf ⟨sz,es⟩ S)=(some (decide (x≤y)),true):=by kernel_rfl):Go F n P R base Q S ⟨sz,es⟩ L Ds:=
 cB _ (λh=>ht h (of_decide_eq_true h)) (λh=>hf h (Int.not_le.1 (of_decide_eq_false h))) b
theorem cD(x y:Int)(ht:(x==y)=true→x=y→Go F n P R base Q (mB S) ⟨sz,es⟩ L Ds)(hf:(x==y)=false→x≠y→Go F n P R base Q (mC S) ⟨sz,es⟩ L Ds)(b:(ke ⟨sz,es⟩ S,kf ⟨sz,es⟩ S)=(some (x==y),true):=by kernel_rfl):Go F n P R base Q S ⟨sz,es⟩ L Ds:=
 cB _ (λh=>ht h (eq_of_beq h)) (λh=>hf h (ne_of_beq_false h)) b
theorem mE(x y:Int)(ht:(!(x==y))=true→x≠y→Go F n P R base Q (mB S) ⟨sz,es⟩ L Ds)(hf:(!(x==y))=false→x=y→Go F n P R base Q (mC S) ⟨sz,es⟩ L Ds)(b:(ke ⟨sz,es⟩ S,kf ⟨sz,es⟩ S)=(some (!(x==y)),true):=by kernel_rfl):Go F n P R base Q S ⟨sz,es⟩ L Ds:=
 cB _ (λh=>ht h (λe=>by subst e;simp at h)) (λh=>hf h (by simpa using h)) b
theorem Fr.told{b:Act}(d:Fr a Ds b){c:Fe}(g:(c.map λx=>lk a.e x.1)=c.map λx=>some x.2):Fr ⟨a.sz,c⟩ Ds b:=by
 refine⟨d.size,λi v h=>?_,d.defers⟩;obtain⟨q,j,e⟩:=Wi (Al h);have:=ALca (λz=>z[q]?) g;exact d.get i v (by simpa [j,e] using this)
theorem aF.under{L':ah}{W:World}(e:aF R base (L++Ds.map mk) W)(h: ∀{b:List Nat},aF b W L W→aF b W L' W):aF R base (L'++Ds.map mk) W:=by
 obtain⟨b,c,d⟩:=e.seg;exact c.out.whole (h d.out)
theorem cl(L':ah)(b:L=L')(c:Go F n P R base Q S ⟨sz,es⟩ L' Ds):Go F n P R base Q S ⟨sz,es⟩ L Ds:=by subst b;exact c
theorem cw(k:Nat)(x y:aB)(h: ∀bs,x.sat bs→y.sat bs)(e:Go F n P R base Q S ⟨sz,es⟩ (L.set k y) Ds)(i:L[k]? =some x:=by kernel_rfl):Go F n P R base Q S ⟨sz,es⟩ L Ds:=
 ⟨λb W d c=>e.out b W d (c.under λg=>g.weak k i h)⟩
theorem ck(k:Nat)(T:av→Prop)(m: ∀bs,T bs→Go F n P R base Q S ⟨sz,es⟩ (L.set k (.c bs)) Ds)(h:L[k]? =some (.p T):=by kernel_rfl):Go F n P R base Q S ⟨sz,es⟩ L Ds:=by
 refine⟨λb W l i=>?_⟩;obtain⟨o,d,e⟩:=i.seg;obtain⟨bs,j,g⟩:=e.out.open k h;exact(m bs j).out b W l (d.out.whole g)
theorem cn{α:Type}(en:α→List Value)(z:List Value)(T:TypeId)(e:Go F n P R base Q S ⟨sz,es⟩ (L++[.p (ao en z T (.slice none 0 0) ([]:List α))]) Ds):Go F n P R base Q S ⟨sz,es⟩ L Ds:=
 ⟨λb W d c=>e.out b W d (c.under λh=>h.nilS en z T)⟩
end
def wk:List Oper→List Nat
 | []=>[]
 | o::os=>match o.dst with
  | some d=>d::wk os
  | none=>wk os
def jN:Code→List Nat
 | .region _ L _=>wk L.toList
 | .seq x y=>jN x++jN y
 | .cond _ x y=>jN x++jN y
 | .block _ x=>jN x
 | .loop x=>jN x
 | .scope x=>jN x
 | .rangeFunc _ b x y=>b.toList++(jN x++jN y)
 | _=>[]
def hZ(S:List It)(e:Fe):Fe:=(λb=>e.filter λx=> !WJ b (Vy x.1)) (jN (fC S))
section
variable (F:Fence) (n:Nat) (P:Program) (R:List Nat) (base:World) {κ:Type}
def At(I:κ→Prop)(e:κ→Fe)(L:κ→ah)(D:κ→List Nat)(m:κ→Nat)(sz:Nat)(st:Fe)(j:Nat)(b:Act)(W:World):Prop:=∃k,I k∧m k<j∧Fr ⟨sz,e k++st⟩ (D k) b∧aF R base (L k++(D k).map mk) W
def qo(Q:Exit→Act→World→Prop)(S:List It)(I:κ→Prop)(e:κ→Fe)(L:κ→ah)(D:κ→List Nat)(m:κ→Nat)(sz:Nat)(st:Fe)(j:Nat):Exit→Act→World→Prop
 | .normal,b,W=>At R base I e L D m sz st j b W
 | e,b,W=>cV F n P Q S e b W
end
section
variable {F:Fence} {n:Nat} {P:Program} {R:List Nat} {base:World} {Q:Exit→Act→World→Prop} {S:List It} {a:Sl} {sz:Nat} {es:Fe} {L:ah} {Ds:List Nat} {κ:Type}
theorem ki{J:Nat→Prop}(h: ∃j,J j): ∃j,J j∧∀i,i<j→¬J i:=by
 classical
 obtain⟨j,k⟩:=h
 induction j using WD with
 | _ j ih=>
  by_cases b: ∃i,i<j∧J i
  ·obtain⟨i,c,d⟩:=b;exact ih i c d
  ·exact⟨j,k,λi g e=>b ⟨i,g,e⟩⟩
theorem s4(h:mD S=true):nf S= .c (.loop (fC S))::bP S:=by
 unfold mD at h;unfold fC bP
 split at h
 ·rename_i x b e;rw[e]
 ·cases h
theorem Fr.stay{b:Act}(d:Fr a Ds b){c:Fe}(j:(c.map λx=>lk a.e x.1)=c.map λx=>some x.2):Fr ⟨a.sz,c++hZ S a.e⟩ Ds b:=by
 have g:=d.told j;refine⟨d.size,λi v h=>?_,d.defers⟩;simp only[pa] at h;cases e:lk c i with
 | none=>
  rw[e] at h;simp only at h;unfold hZ at h;rw[wj (p:=λi=> !WJ (jN (fC S)) (Vy i))] at h
  split at h
  ·exact d.get i v h
  ·cases h
 | some u=>rw[e] at h;cases h;exact g.get i v e
theorem lp(I:κ→Prop)(e:κ→Fe)(g:κ→ah)(D:κ→List Nat)(m:κ→Nat)(d:κ)(h0:I d)(l:((e d).map λx=>lk es x.1)=(e d).map λx=>some x.2)(z:L=g d)(u:Ds=D d)
  (N: ∀k,I k→Go F n P R base (qo F n P R base Q (bP S) I e g D m sz (hZ S es) (m k)) [.c (fC S)] ⟨sz,e k++hZ S es⟩ (g k) (D k)) (A:mD S=true):Go F n P R base Q S ⟨sz,es⟩ L Ds:=by
 classical
 subst z u;refine⟨λb W B q=>dm 1000 S ?_⟩;rw[show c0 1000 S=_ from s4 A];show(Code.loop (fC S)).wpIn F n P (cV F n P Q (bP S)) b W
 let J:Nat→Act→World→Prop:=At R base I e g D m sz (hZ S es)
 let μ:Act→World→Nat:=λb W=>if h: ∃j,J j b W then VD (ki h) else 0
 have t: ∀b W,(∃j,J j b W)→J (μ b W) b W∧∀i,i<μ b W→¬J i b W:=by
  intro b W h;have e:μ b W=VD (ki h):=dif_pos h;rw[e];exact V2 (ki h)
 refine wpIn_loop (λb W=>∃j,J j b W) μ ⟨m d+1,d,h0,WA _,Fr.stay (a:=⟨sz,es⟩) B l,q⟩ λb W y=>?_;obtain⟨k,G,M,C,q⟩:=(t b W y).1;refine wpIn_mono (show(fC S).wpIn F n P _ b W from(N k G).out b W C q) λe s r l=>?_;cases e with
 | normal=>
  have o:J (m k) s r:=l;exact⟨⟨_,o⟩,VS (VY λH=>(t s r ⟨_,o⟩).2 _ H o) M⟩
 | _=>exact l
def iw(S c:List It):Option (List It):=match nf S with
 | .x b::S'=>(match lH b S' with
  | none=>some (.x b::c)
  | some _=>none)
 | _=>none
theorem s5{c:Exit→Act→World→Prop}{d g:List It}{b:Act}{W:World}(h1:iw S d=some g)(j:cV F n P Q g .normal b W)(i: ∀id,c (.exit id) b W=cV F n P Q d (.exit id) b W):cV F n P c S .normal b W:=by
 refine dm 1000 S ?_;unfold iw at h1
 split at h1
 ·rename_i id l e;rw[show c0 1000 S=_ from e]
  split at h1
  ·rename_i k;cases h1;exact qn k (by rw[i];exact j)
  ·cases h1
 ·cases h1
theorem wm{I:κ→Prop}{e:κ→Fe}{k:κ→ah}{D:κ→List Nat}{m:κ→Nat}{c:List It}{d:Nat}{st:Fe}{j:Nat}(i:Go F n P R base Q ((iw S c).getD []) ⟨sz,es⟩ L Ds)(o:(iw S c).isSome=true:=by kernel_rfl):Go F n P R base (qo F n P R base Q c I e k D m d st j) S ⟨sz,es⟩ L Ds:=by
 obtain⟨r,g⟩:=Option.isSome_iff_exists.1 o;rw[g] at i;exact⟨λb W q l=>s5 g (i.out b W q l) λ_=>rfl⟩
class Rt (Q:Exit→Act→World→Prop) (Q0:outParam (Exit→Act→World→Prop)):Prop where
 out: ∀b W,Q0 .ret b W→Q .ret b W
instance {Q:Exit→Act→World→Prop}:Rt Q Q:=⟨λ_ _ h=>h⟩
def s6(F:Fence)(n:Nat)(P:Program)(R:List Nat)(base:World)(Q:Exit→Act→World→Prop)(S:List It)(I:Nat→Prop)(e:Nat→Fe)(c:Nat→ah)(m:Nat→Nat)(b:List Nat)(sz:Nat)(st:Fe)(j:Nat):Exit→Act→World→Prop:=qo (κ:=Nat) F n P R base Q S I e c (λ_=>b) m sz st j
theorem lq(I:Nat→Prop)(e:Nat→Fe)(d:Nat→ah→ah)(m:Nat→Nat)(b:Nat)(h0:I b)(j:((e b).map λx=>lk es x.1)=(e b).map λx=>some x.2)(g:L=d b L)
  (l: ∀(k:Nat),I k→Go F n P R base (s6 F n P R base Q (bP S) I e (λk=>d k L) m Ds sz (hZ S es) (m k)) [.c (fC S)] ⟨sz,e k++hZ S es⟩ (d k L) Ds) (i:mD S=true:=by kernel_rfl):Go F n P R base Q S ⟨sz,es⟩ L Ds:=
 lp (κ:=Nat) I e (λx=>d x L) (λ_=>Ds) m b h0 j g rfl (λx=>l x) i
theorem le{I:Nat→Prop}{e:Nat→Fe}{l:Nat→ah}{m:Nat→Nat}{o:List It}{d:Nat}{st:Fe}{c:List Nat}{j:Nat}(k:Nat)(r:I k)(A:m k<j)(z:((e k++st).map λx=>lk es x.1)=(e k++st).map λx=>some x.2)(i:List Nat)(s:(cZ (i.map λp=>[p]).flatten,(i.map λp=>[p]).map λg=>g.map λp=>L[p]?)=(true,((l k).map λx=>[x]).map λN=>N.map some))(u:(nf S).isEmpty=true:=by kernel_rfl)(B:sz=d:=by rfl)(q:Ds=c:=by rfl):
  Go F n P R base (s6 F n P R base Q o I e l m c d st j) S ⟨sz,es⟩ L Ds:=by
 subst B q;refine⟨λb W y t=>dm 1000 S ?_⟩;rw[show c0 1000 S=[] from List.isEmpty_iff.1 u];exact⟨k,r,A,Fr.told (a:=⟨sz,es⟩) y z,t.under λh=>h.pick i _ s⟩
theorem lx{I:Nat→Prop}{e:Nat→Fe}{g:Nat→ah}{m:Nat→Nat}{c:List It}{d:Nat}{st:Fe}{b:List Nat}{j:Nat}(k:Go F n P R base Q ((iw S c).getD []) ⟨sz,es⟩ L Ds)(i:(iw S c).isSome=true:=by kernel_rfl):Go F n P R base (s6 F n P R base Q c I e g m b d st j) S ⟨sz,es⟩ L Ds:=wm k i
instance {F:Fence} {n:Nat} {P:Program} {R:List Nat} {base:World} {Q Q0:Exit→Act→World→Prop} {I:Nat→Prop} {e:Nat→Fe} {LI:Nat→ah} {m:Nat→Nat} {S0:List It} {sz0:Nat} {st:Fe} {Ds0:List Nat} {j:Nat} [h:Rt Q Q0]:Rt (s6 F n P R base Q S0 I e LI m Ds0 sz0 st j) Q0:=⟨λb W hq=>gz (S:=S0) (h.out b W hq)⟩
def s7(F:Fence)(n:Nat)(P:Program)(R:List Nat)(base:World)(Q:Exit→Act→World→Prop)(S:List It)(I:Nat→Value→Prop)(e:Nat→Value→Fe)(c:Nat→Value→ah)(m:Nat→Value→Nat)(b:List Nat)(sz:Nat)(st:Fe)(j:Nat):Exit→Act→World→Prop:=qo (κ:=Nat×Value) F n P R base Q S (λx=>I x.1 x.2) (λx=>e x.1 x.2) (λx=>c x.1 x.2) (λ_=>b) (λx=>m x.1 x.2) sz st j
theorem mF(I:Nat→Value→Prop)(e:Nat→Value→Fe)(g:Nat→Value→ah→ah)(m:Nat→Value→Nat)(b:Nat)(d:Value)(h0:I b d)(l:((e b d).map λx=>lk es x.1)=(e b d).map λx=>some x.2)(i:L=g b d L)
  (o: ∀(k:Nat) (u:Value),I k u→Go F n P R base (s7 F n P R base Q (bP S) I e (λk u=>g k u L) m Ds sz (hZ S es) (m k u)) [.c (fC S)] ⟨sz,e k u++hZ S es⟩ (g k u L) Ds) (j:mD S=true:=by kernel_rfl):Go F n P R base Q S ⟨sz,es⟩ L Ds:=
 lp (κ:=Nat×Value) (λx=>I x.1 x.2) (λx=>e x.1 x.2) (λx=>g x.1 x.2 L) (λ_=>Ds) (λx=>m x.1 x.2) (b,d) h0 l i rfl (λx=>o x.1 x.2) j
theorem kO{I:Nat→Value→Prop}{e:Nat→Value→Fe}{l:Nat→Value→ah}{m:Nat→Value→Nat}{o:List It}{d:Nat}{st:Fe}{c:List Nat}{j:Nat}(k:Nat)(u:Value)(r:I k u)(B:m k u<j)(A:((e k u++st).map λx=>lk es x.1)=(e k u++st).map λx=>some x.2)(i:List Nat)(s:(cZ (i.map λp=>[p]).flatten,(i.map λp=>[p]).map λg=>g.map λp=>L[p]?)=(true,((l k u).map λx=>[x]).map λN=>N.map some))(y:(nf S).isEmpty=true:=by kernel_rfl)(C:sz=d:=by rfl)(q:Ds=c:=by rfl):
  Go F n P R base (s7 F n P R base Q o I e l m c d st j) S ⟨sz,es⟩ L Ds:=by
 subst C q;refine⟨λb W z t=>dm 1000 S ?_⟩;rw[show c0 1000 S=[] from List.isEmpty_iff.1 y];exact⟨(k,u),r,B,Fr.told (a:=⟨sz,es⟩) z A,t.under λh=>h.pick i _ s⟩
theorem kP{I:Nat→Value→Prop}{e:Nat→Value→Fe}{g:Nat→Value→ah}{m:Nat→Value→Nat}{c:List It}{d:Nat}{st:Fe}{b:List Nat}{j:Nat}(k:Go F n P R base Q ((iw S c).getD []) ⟨sz,es⟩ L Ds)(i:(iw S c).isSome=true:=by kernel_rfl):Go F n P R base (s7 F n P R base Q c I e g m b d st j) S ⟨sz,es⟩ L Ds:=wm k i
instance {F:Fence} {n:Nat} {P:Program} {R:List Nat} {base:World} {Q Q0:Exit→Act→World→Prop} {I:Nat→Value→Prop} {e:Nat→Value→Fe} {LI:Nat→Value→ah} {m:Nat→Value→Nat} {S0:List It} {sz0:Nat} {st:Fe} {Ds0:List Nat} {j:Nat} [h:Rt Q Q0]:Rt (s7 F n P R base Q S0 I e LI m Ds0 sz0 st j) Q0:=⟨λb W hq=>gz (S:=S0) (h.out b W hq)⟩
def US(F:Fence)(n:Nat)(P:Program)(R:List Nat)(base:World)(Q:Exit→Act→World→Prop)(S:List It)(I:Nat→Value→Value→Prop)(e:Nat→Value→Value→Fe)(c:Nat→Value→Value→ah)(m:Nat→Value→Value→Nat)(b:List Nat)(sz:Nat)(st:Fe)(j:Nat):Exit→Act→World→Prop:=qo (κ:=Nat×Value×Value) F n P R base Q S (λx=>I x.1 x.2.1 x.2.2) (λx=>e x.1 x.2.1 x.2.2) (λx=>c x.1 x.2.1 x.2.2) (λ_=>b) (λx=>m x.1 x.2.1 x.2.2) sz st j
instance {F:Fence} {n:Nat} {P:Program} {R:List Nat} {base:World} {Q Q0:Exit→Act→World→Prop} {I:Nat→Value→Value→Prop} {e:Nat→Value→Value→Fe} {LI:Nat→Value→Value→ah} {m:Nat→Value→Value→Nat} {S0:List It} {sz0:Nat} {st:Fe} {Ds0:List Nat} {j:Nat} [h:Rt Q Q0]:Rt (US F n P R base Q S0 I e LI m Ds0 sz0 st j) Q0:=⟨λb W hq=>gz (S:=S0) (h.out b W hq)⟩
def UT(F:Fence)(n:Nat)(P:Program)(R:List Nat)(base:World)(Q:Exit→Act→World→Prop)(S:List It)(I:Nat→Value→Value→Value→Prop)(e:Nat→Value→Value→Value→Fe)(c:Nat→Value→Value→Value→ah)(m:Nat→Value→Value→Value→Nat)(b:List Nat)(sz:Nat)(st:Fe)(j:Nat):Exit→Act→World→Prop:=qo (κ:=Nat×Value×Value×Value) F n P R base Q S (λx=>I x.1 x.2.1 x.2.2.1 x.2.2.2) (λx=>e x.1 x.2.1 x.2.2.1 x.2.2.2) (λx=>c x.1 x.2.1 x.2.2.1 x.2.2.2) (λ_=>b) (λx=>m x.1 x.2.1 x.2.2.1 x.2.2.2) sz st j
instance {F:Fence} {n:Nat} {P:Program} {R:List Nat} {base:World} {Q Q0:Exit→Act→World→Prop} {I:Nat→Value→Value→Value→Prop} {e:Nat→Value→Value→Value→Fe} {LI:Nat→Value→Value→Value→ah} {m:Nat→Value→Value→Value→Nat} {S0:List It} {sz0:Nat} {st:Fe} {Ds0:List Nat} {j:Nat} [h:Rt Q Q0]:Rt (UT F n P R base Q S0 I e LI m Ds0 sz0 st j) Q0:=⟨λb W hq=>gz (S:=S0) (h.out b W hq)⟩
def UU(F:Fence)(n:Nat)(P:Program)(R:List Nat)(base:World)(Q:Exit→Act→World→Prop)(S:List It)(I:Nat→List Nat→Prop)(e:Nat→List Nat→Fe)(b:Nat→List Nat→ah)(m:Nat→List Nat→Nat)(sz:Nat)(st:Fe)(j:Nat):Exit→Act→World→Prop:=qo (κ:=Nat×List Nat) F n P R base Q S (λx=>I x.1 x.2) (λx=>e x.1 x.2) (λx=>b x.1 x.2) (λx=>x.2) (λx=>m x.1 x.2) sz st j
instance {F:Fence} {n:Nat} {P:Program} {R:List Nat} {base:World} {Q Q0:Exit→Act→World→Prop} {I:Nat→List Nat→Prop} {e:Nat→List Nat→Fe} {LI:Nat→List Nat→ah} {m:Nat→List Nat→Nat} {S0:List It} {sz0:Nat} {st:Fe} {j:Nat} [h:Rt Q Q0]:Rt (UU F n P R base Q S0 I e LI m sz0 st j) Q0:=⟨λb W hq=>gz (S:=S0) (h.out b W hq)⟩
def s8(F:Fence)(n:Nat)(P:Program)(R:List Nat)(base:World)(Q:Exit→Act→World→Prop)(S:List It)(I:Nat→Value→List Nat→Prop)(e:Nat→Value→List Nat→Fe)(b:Nat→Value→List Nat→ah)(m:Nat→Value→List Nat→Nat)(sz:Nat)(st:Fe)(j:Nat):Exit→Act→World→Prop:=qo (κ:=Nat×Value×List Nat) F n P R base Q S (λx=>I x.1 x.2.1 x.2.2) (λx=>e x.1 x.2.1 x.2.2) (λx=>b x.1 x.2.1 x.2.2) (λx=>x.2.2) (λx=>m x.1 x.2.1 x.2.2) sz st j
theorem HS(I:Nat→Value→List Nat→Prop)(e:Nat→Value→List Nat→Fe)(i:Nat→Value→List Nat→ah→ah)(m:Nat→Value→List Nat→Nat)(d:Nat)(g:Value)(b:List Nat)(h0:I d g b)(q:((e d g b).map λx=>lk es x.1)=(e d g b).map λx=>some x.2)(l:L=i d g b L)(j:Ds=b)
  (r: ∀(k:Nat) (u:Value) (E:List Nat),I k u E→Go F n P R base (s8 F n P R base Q (bP S) I e (λk u E=>i k u E L) m sz (hZ S es) (m k u E)) [.c (fC S)] ⟨sz,e k u E++hZ S es⟩ (i k u E L) E) (o:mD S=true:=by kernel_rfl):Go F n P R base Q S ⟨sz,es⟩ L Ds:=
 lp (κ:=Nat×Value×List Nat) (λx=>I x.1 x.2.1 x.2.2) (λx=>e x.1 x.2.1 x.2.2) (λx=>i x.1 x.2.1 x.2.2 L) (λx=>x.2.2) (λx=>m x.1 x.2.1 x.2.2) (d,g,b) h0 q l j (λx=>r x.1 x.2.1 x.2.2) o
theorem Au{I:Nat→Value→List Nat→Prop}{e:Nat→Value→List Nat→Fe}{i:Nat→Value→List Nat→ah}{m:Nat→Value→List Nat→Nat}{l:List It}{c:Nat}{st:Fe}{j:Nat}(k:Nat)(u:Value)(E:List Nat)(q:I k u E)(A:m k u E<j)(z:((e k u E++st).map λx=>lk es x.1)=(e k u E++st).map λx=>some x.2)(d:List Nat)(r:(cZ (d.map λp=>[p]).flatten,(d.map λp=>[p]).map λg=>g.map λp=>L[p]?)=(true,((i k u E).map λx=>[x]).map λN=>N.map some))(t:(nf S).isEmpty=true:=by kernel_rfl)(B:sz=c:=by rfl)(o:Ds=E:=by rfl):
  Go F n P R base (s8 F n P R base Q l I e i m c st j) S ⟨sz,es⟩ L Ds:=by
 subst B o;refine⟨λb W y s=>dm 1000 S ?_⟩;rw[show c0 1000 S=[] from List.isEmpty_iff.1 t];exact⟨(k,u,Ds),q,A,Fr.told (a:=⟨sz,es⟩) y z,s.under λh=>h.pick d _ r⟩
theorem HT{I:Nat→Value→List Nat→Prop}{e:Nat→Value→List Nat→Fe}{d:Nat→Value→List Nat→ah}{m:Nat→Value→List Nat→Nat}{b:List It}{c:Nat}{st:Fe}{j:Nat}(i:Go F n P R base Q ((iw S b).getD []) ⟨sz,es⟩ L Ds)(g:(iw S b).isSome=true:=by kernel_rfl):Go F n P R base (s8 F n P R base Q b I e d m c st j) S ⟨sz,es⟩ L Ds:=wm i g
instance {F:Fence} {n:Nat} {P:Program} {R:List Nat} {base:World} {Q Q0:Exit→Act→World→Prop} {I:Nat→Value→List Nat→Prop} {e:Nat→Value→List Nat→Fe} {LI:Nat→Value→List Nat→ah} {m:Nat→Value→List Nat→Nat} {S0:List It} {sz0:Nat} {st:Fe} {j:Nat} [h:Rt Q Q0]:Rt (s8 F n P R base Q S0 I e LI m sz0 st j) Q0:=⟨λb W hq=>gz (S:=S0) (h.out b W hq)⟩
def UW(F:Fence)(n:Nat)(P:Program)(R:List Nat)(base:World)(Q:Exit→Act→World→Prop)(S:List It)(I:Nat→Value→Value→List Nat→Prop)(e:Nat→Value→Value→List Nat→Fe)(b:Nat→Value→Value→List Nat→ah)(m:Nat→Value→Value→List Nat→Nat)(sz:Nat)(st:Fe)(j:Nat):Exit→Act→World→Prop:=qo (κ:=Nat×Value×Value×List Nat) F n P R base Q S (λx=>I x.1 x.2.1 x.2.2.1 x.2.2.2) (λx=>e x.1 x.2.1 x.2.2.1 x.2.2.2) (λx=>b x.1 x.2.1 x.2.2.1 x.2.2.2) (λx=>x.2.2.2) (λx=>m x.1 x.2.1 x.2.2.1 x.2.2.2) sz st j
instance {F:Fence} {n:Nat} {P:Program} {R:List Nat} {base:World} {Q Q0:Exit→Act→World→Prop} {I:Nat→Value→Value→List Nat→Prop} {e:Nat→Value→Value→List Nat→Fe} {LI:Nat→Value→Value→List Nat→ah} {m:Nat→Value→Value→List Nat→Nat} {S0:List It} {sz0:Nat} {st:Fe} {j:Nat} [h:Rt Q Q0]:Rt (UW F n P R base Q S0 I e LI m sz0 st j) Q0:=⟨λb W hq=>gz (S:=S0) (h.out b W hq)⟩
end
section
variable {F:Fence} {n:Nat} {P:Program} {R:List Nat} {base:World} {Q:Exit→Act→World→Prop} {S:List It} {a:Sl} {sz:Nat} {es:Fe} {L:ah} {Ds:List Nat}
def jQ(F:Fence)(n:Nat)(P:Program)(R:List Nat)(base:World)(Q:Exit→Act→World→Prop)(S:List It)(c:Sl)(L':ah)(Ds:List Nat):Exit→Act→World→Prop
 | .normal,b,W=>Fr c Ds b∧aF R base (L'++Ds.map mk) W
 | e,b,W=>cV F n P Q S e b W
def s9(S:List It):Code:=match nf S with | .c (.cond _ x _)::_=>x | _=> .skip
def ta(S:List It):Code:=match nf S with | .c (.cond _ _ y)::_=>y | _=> .skip
def wo(S:List It)(e:Fe):Fe:=(λb=>e.filter λx=> !WJ b (Vy x.1)) (jN (s9 S)++jN (ta S))
theorem cJ(E:Bool)(l:Bool→Fe)(L':Bool→ah)(ht:E=true→Go F n P R base (jQ F n P R base Q (bP S) ⟨sz,l true++wo S es⟩ (L' true) Ds) [.c (s9 S)] ⟨sz,es⟩ L Ds)(hf:E=false→Go F n P R base (jQ F n P R base Q (bP S) ⟨sz,l false++wo S es⟩ (L' false) Ds) [.c (ta S)] ⟨sz,es⟩ L Ds)
  (m:Go F n P R base Q (bP S) ⟨sz,l E++wo S es⟩ (L' E) Ds) (r:(ke ⟨sz,es⟩ S,kf ⟨sz,es⟩ S)=(some E,true):=by kernel_rfl):Go F n P R base Q S ⟨sz,es⟩ L Ds:=by
 obtain⟨c,x,y,s,g,A,B,o⟩:=Ar (Ds:=Ds) (ALca (·.1) r) (ALca (·.2) r);have u:s9 S=x:=by unfold s9;rw[g]
 have z:ta S=y:=by unfold ta;rw[g]
 have t:bP S=s:=by unfold bP;rw[g]
 rw[u] at ht;rw[z] at hf;rw[t] at ht hf m;refine⟨λb W i q=>dm 1000 S ?_⟩;rw[show c0 1000 S=_ from g];cases E with
 | true=>exact wpIn_cond (o i) (wpIn_mono (show x.wpIn F n P _ b W from(ht rfl).out b W i q) λe k j d=>by
   cases e with
   | normal=>exact m.out k j d.1 d.2
   | _=>exact d)
 | false=>exact wpIn_cond (o i) (wpIn_mono (show y.wpIn F n P _ b W from(hf rfl).out b W i q) λe k j d=>by
   cases e with
   | normal=>exact m.out k j d.1 d.2
   | _=>exact d)
theorem cm{i:List It}{d:Sl}{L':ah}{c:List Nat}(q:(d.e.map λx=>lk es x.1)=d.e.map λx=>some x.2)(e:List Nat)(k:(cZ (e.map λp=>[p]).flatten,(e.map λp=>[p]).map λg=>g.map λp=>L[p]?)=(true,(L'.map λx=>[x]).map λN=>N.map some))(m:(nf S).isEmpty=true:=by kernel_rfl)(r:sz=d.sz:=by rfl)(j:Ds=c:=by rfl):Go F n P R base (jQ F n P R base Q i d L' c) S ⟨sz,es⟩ L Ds:=by
 subst j;refine⟨λb W o l=>dm 1000 S ?_⟩;rw[show c0 1000 S=[] from List.isEmpty_iff.1 m];have h:=o.told q;exact⟨⟨h.size.trans r,h.get,h.defers⟩,l.under λh=>h.pick e _ k⟩
theorem r0[hF:jI F](hs:List (Nat×b6 P))(b:Fe)(dr:List Nat)(d:Go F n P R base Q (bP S) ⟨sz,b++ed dr es⟩ L Ds)
 (e:P.follows .mixedOrders=true:=by kernel_rfl)
 (c: ∀η,(kN S,(e4 (aw S) ⟨sz,es⟩ (tR S ⟨sz,es⟩ L L.length λ_=>hs) η 0 (aw S) (jM S ⟨sz,es⟩ L (λ_=>hs) η)).map a9.lhs,lE (eK S) (aw S) (λk=>(iW (eK S) (aw S)).getD k []),(Va L.length).map (λp=>(tR S ⟨sz,es⟩ L L.length λ_=>hs).at η p (aw S).length),b.map (λx=>kg (aw S) ⟨sz,es⟩ (tR S ⟨sz,es⟩ L L.length λ_=>hs) η x.1),lI (aw S) es b dr)=
  (true,(e4 (aw S) ⟨sz,es⟩ (tR S ⟨sz,es⟩ L L.length λ_=>hs) η 0 (aw S) (jM S ⟨sz,es⟩ L (λ_=>hs) η)).map a9.rhs,true,L.map some,b.map (λx=>some x.2),true):=by intro _;kernel_rfl):Go F n P R base Q S ⟨sz,es⟩ L Ds:=rr (λ_=>hs) (λ_=>b) dr (λ_ L=>L) (λ_=>d) e c
theorem rF[hF:jI F](hs:List (Nat×b6 P))(k:Nat)(d:Go F n P R base Q (mC (bP S)) ⟨sz,[(k,Value.bool false)]++ed [] es⟩ L Ds)(e:P.follows .mixedOrders=true:=by kernel_rfl)(c: ∀η,(kN S,(e4 (aw S) ⟨sz,es⟩ (tR S ⟨sz,es⟩ L L.length λ_=>hs) η 0 (aw S) (jM S ⟨sz,es⟩ L (λ_=>hs) η)).map a9.lhs,lE (eK S) (aw S) (λk=>(iW (eK S) (aw S)).getD k []),(Va L.length).map (λp=>(tR S ⟨sz,es⟩ L L.length λ_=>hs).at η p (aw S).length),[(k,Value.bool false)].map (λx=>kg (aw S) ⟨sz,es⟩ (tR S ⟨sz,es⟩ L L.length λ_=>hs) η x.1),lI (aw S) es [(k,Value.bool false)] [])=(true,(e4 (aw S) ⟨sz,es⟩ (tR S ⟨sz,es⟩ L L.length λ_=>hs) η 0 (aw S) (jM S ⟨sz,es⟩ L (λ_=>hs) η)).map a9.rhs,true,L.map some,[(k,Value.bool false)].map (λx=>some x.2),true):=by intro _;kernel_rfl)(b:(ke ⟨sz,[(k,Value.bool false)]++ed [] es⟩ (bP S),kf ⟨sz,[(k,Value.bool false)]++ed [] es⟩ (bP S))=(some false,true):=by kernel_rfl):Go F n P R base Q S ⟨sz,es⟩ L Ds:=r0 hs [(k,Value.bool false)] [] (cF false rfl d b) e c
theorem rT[hF:jI F](hs:List (Nat×b6 P))(k:Nat)(d:Go F n P R base Q (mB (bP S)) ⟨sz,[(k,Value.bool true)]++ed [] es⟩ L Ds)(e:P.follows .mixedOrders=true:=by kernel_rfl)(c: ∀η,(kN S,(e4 (aw S) ⟨sz,es⟩ (tR S ⟨sz,es⟩ L L.length λ_=>hs) η 0 (aw S) (jM S ⟨sz,es⟩ L (λ_=>hs) η)).map a9.lhs,lE (eK S) (aw S) (λk=>(iW (eK S) (aw S)).getD k []),(Va L.length).map (λp=>(tR S ⟨sz,es⟩ L L.length λ_=>hs).at η p (aw S).length),[(k,Value.bool true)].map (λx=>kg (aw S) ⟨sz,es⟩ (tR S ⟨sz,es⟩ L L.length λ_=>hs) η x.1),lI (aw S) es [(k,Value.bool true)] [])=(true,(e4 (aw S) ⟨sz,es⟩ (tR S ⟨sz,es⟩ L L.length λ_=>hs) η 0 (aw S) (jM S ⟨sz,es⟩ L (λ_=>hs) η)).map a9.rhs,true,L.map some,[(k,Value.bool true)].map (λx=>some x.2),true):=by intro _;kernel_rfl)(b:(ke ⟨sz,[(k,Value.bool true)]++ed [] es⟩ (bP S),kf ⟨sz,[(k,Value.bool true)]++ed [] es⟩ (bP S))=(some true,true):=by kernel_rfl):Go F n P R base Q S ⟨sz,es⟩ L Ds:=r0 hs [(k,Value.bool true)] [] (cT true rfl d b) e c
theorem ra[hF:jI F](b:bt→Fe)(A:bt→ah)(d: ∀η,Go F n P R base Q (bP S) ⟨sz,b η++ed [] es⟩ (L++A η) Ds)(e:P.follows .mixedOrders=true:=by kernel_rfl)(c: ∀η,(kN S,(e4 (aw S) ⟨sz,es⟩ (tR S ⟨sz,es⟩ L (mR (λη L=>L++A η) L) (λ_=>([]:List (Nat×b6 P)))) η 0 (aw S) (jM S ⟨sz,es⟩ L (λ_=>([]:List (Nat×b6 P))) η)).map a9.lhs,lE (eK S) (aw S) (λk=>(iW (eK S) (aw S)).getD k []),(Va (mR (λη L=>L++A η) L)).map (λp=>(tR S ⟨sz,es⟩ L (mR (λη L=>L++A η) L) (λ_=>([]:List (Nat×b6 P)))).at η p (aw S).length),(b η).map (λx=>kg (aw S) ⟨sz,es⟩ (tR S ⟨sz,es⟩ L (mR (λη L=>L++A η) L) (λ_=>([]:List (Nat×b6 P)))) η x.1),lI (aw S) es (b η) [])=(true,(e4 (aw S) ⟨sz,es⟩ (tR S ⟨sz,es⟩ L (mR (λη L=>L++A η) L) (λ_=>([]:List (Nat×b6 P)))) η 0 (aw S) (jM S ⟨sz,es⟩ L (λ_=>([]:List (Nat×b6 P))) η)).map a9.rhs,true,(L++A η).map some,(b η).map (λx=>some x.2),true):=by intro _;kernel_rfl):Go F n P R base Q S ⟨sz,es⟩ L Ds:=rr (λ_=>[]) b [] (λη L=>L++A η) d e c
theorem rs[hF:jI F](hs:List (Nat×b6 P))(k:Nat)(X:aB)(c:Go F n P R base Q (bP S) ⟨sz,[]++ed [] es⟩ (L.set k X) Ds)(d:P.follows .mixedOrders=true:=by kernel_rfl)(b: ∀η,(kN S,(e4 (aw S) ⟨sz,es⟩ (tR S ⟨sz,es⟩ L (mR (λ_ L=>L.set k X) L) (λ_=>hs)) η 0 (aw S) (jM S ⟨sz,es⟩ L (λ_=>hs) η)).map a9.lhs,lE (eK S) (aw S) (λk=>(iW (eK S) (aw S)).getD k []),(Va (mR (λ_ L=>L.set k X) L)).map (λp=>(tR S ⟨sz,es⟩ L (mR (λ_ L=>L.set k X) L) (λ_=>hs)).at η p (aw S).length),([]:Fe).map (λx=>kg (aw S) ⟨sz,es⟩ (tR S ⟨sz,es⟩ L (mR (λ_ L=>L.set k X) L) (λ_=>hs)) η x.1),lI (aw S) es ([]:Fe) [])=(true,(e4 (aw S) ⟨sz,es⟩ (tR S ⟨sz,es⟩ L (mR (λ_ L=>L.set k X) L) (λ_=>hs)) η 0 (aw S) (jM S ⟨sz,es⟩ L (λ_=>hs) η)).map a9.rhs,true,(L.set k X).map some,([]:Fe).map (λx=>some x.2),true):=by intro _;kernel_rfl):Go F n P R base Q S ⟨sz,es⟩ L Ds:=rr (λ_=>hs) (λ_=>[]) [] (λ_ L=>L.set k X) (λ_=>c) d b
end
def nk:Nat→List Value→Fe
 | _,[]=>[]
 | k,v::r=>(k,v)::nk (k+1) r
theorem qp: ∀{l:List Value} {k i:Nat} {v:Value},lk (nk k l) i=some v→k≤i∧l[i-k]? =some v
 | [],_,_,_,h=>by cases h
 | u::r,k,i,v,h=>by
  unfold nk lk at h
  split at h
  ·rename_i c;cases h;rw[Vh c,VX];exact⟨Vi _,rfl⟩
  ·obtain⟨d,b⟩:=qp h;refine⟨by omega,?_⟩;rw[show i-k=(i-(k+1))+1 by omega,List.getElem?_cons_succ];exact b
def jO(fn:Func):Code:=fn.body.getD .skip
section
variable {P:Program} {f:FuncId} {fn:Func} {args:Array Value} {rd:ah} {O:List Nat} {wt:ab→ah} {v:ab→Value}
def fQ(P:Program)(fn:Func)(rd:ah)(O:List Nat)(wt:ab→ah)(v:ab→Value)(cs:List av)(w:World):Exit→Act→World→Prop:=λe b W=>
 bk rd cs→eb cs.flatten w→bodyPostM Fence.wide 6 P fn (Ab O wt v cs w) e b W
theorem fE(hf:P.funcs[f]? =some fn)(h: ∀w cs,Go Fence.wide 6 P (bJ cs.flatten) w (fQ P fn rd O wt v cs w) [.c (jO fn)] ⟨fn.ntmps,nk 0 args.toList⟩ rd [])(r:Enters P f:=by exact enters_of As Kr rfl)
  (k:(fn.body.isSome,Wm args.size fn.ntmps)=(true,true):=by kernel_rfl):aa P f args rd O wt v:=by
 refine⟨r,λw cs m l=>?_⟩;obtain⟨c,j⟩:=Option.isSome_iff_exists.1 (ALca (·.1) k);have u:args.size≤fn.ntmps:=VK (ALca (·.2) k);refine(callsIn_wide (n:=6)).1 ?_;refine callsIn_of_wp_marks hf j trivial ?_ rfl;have g:=(h w cs).out {tmps:=args++Array.replicate (fn.ntmps-args.size) undef,defers:=[]} w ⟨by simp;omega,λi v t=>?_,rfl⟩ (by simpa using aF.start m l)
 ·rw[show jO fn=c by unfold jO;rw[j];rfl] at g;exact wpIn_mono (show c.wpIn Fence.wide 6 P _ _ _ from g) λe b W s=>s m l
 ·obtain⟨_,d⟩:=qp t;rw[VC] at d;have o:i<args.toList.length:=(List.getElem?_eq_some_iff.1 d).1;have q:args[i]? =some v:=by rw[←Array.getElem?_toList];exact d
  rw[Array.getD_eq_getD_getElem?,Array.getElem?_append_left (by simpa using o),q];rfl
theorem fG(hf:P.funcs[f]? =some fn)(h: ∀w cs,Go Fence.wide 6 P (bJ cs.flatten) w (fQ P fn rd O wt v cs w) [.c (jO fn)] ⟨fn.ntmps,nk 0 args.toList⟩ rd [])(e:(fn.name== "runtime.NumGoroutine")=false:=by kernel_rfl)
  (b:(fn.body.isSome,Wm args.size fn.ntmps)=(true,true):=by kernel_rfl):aa P f args rd O wt v:=by
 obtain⟨c,d⟩:=Option.isSome_iff_exists.1 (congrArg (·.1) b);exact fE hf h (enters_of hf e d) b
theorem fN{fn:Func}(hf:P.funcs[f]? =some fn)(e:(fn.name== "runtime.NumGoroutine")=false:=by kernel_rfl)(b:fn.body.isSome=true:=by kernel_rfl):Enters P f:=by
 obtain⟨c,d⟩:=Option.isSome_iff_exists.1 b;exact enters_of hf e d
theorem fO{fn:Func}(hf:P.funcs[f]? =some fn)(i:Nat){Q:av→Prop}(d:rd[i]? =some (.p Q))(h: ∀bs,Q bs→aa P f args (rd.set i (.c bs)) O wt v)(e:(fn.name== "runtime.NumGoroutine")=false:=by kernel_rfl)(b:fn.body.isSome=true:=by kernel_rfl):aa P f args rd O wt v:=aa.ro i d h (fN hf e b)
instance {F:Fence} {n:Nat} {R:List Nat} {base:World} {Q Q0:Exit→Act→World→Prop} {S0:List It} {a':Sl} {L':ah} {Ds:List Nat} [h:Rt Q Q0]:Rt (jQ F n P R base Q S0 a' L' Ds) Q0:=⟨λb W hq=>gz (S:=S0) (h.out b W hq)⟩
def jc(P:Program)(L:ah)(e:Fe):List ResultVar→List Nat→List (RV P)
 | [],_=>[]
 | .tmp i::rs,b=> .t ((lk e i).getD undef)::jc P L e rs b
 | .cell _ T::rs,k::b=>(match L[k]? with
  | some (.c [(_,.cells cs _ _)])=>(match dz P T with
   | true=> .s (cs.toList.take (Ah P T)) k
   | false=> .c (cs.getD 0 undef) k)
  | _=> .t undef)::jc P L e rs b
 | .cell _ _::rs,[]=> .t undef::jc P L e rs []
def ft(P:Program)(L:ah)(e:Fe):List ResultVar→List (RV P)→List a9
 | [],[]=>[]
 | .tmp i::rs,.t v::vs=>sE (lk e i) (some v)::ft P L e rs vs
 | .cell p T::rs,.c v k::vs=>(match L[k]? with
  | some (.c [(g,.cells cs _ (0,0))])=>[sE (lk e p) (some (m6 g 0)),sE cs[0]? (some v),sE (λw=>(isAgg T).run P w) (λw=> .ok false w)]
  | _=>[sB false])++ft P L e rs vs
 | .cell p T::rs,.s l k::vs=>(match L[k]? with
  | some (.c [(g,.cells cs _ (0,0))])=>[sE (lk e p) (some (m6 g 0)),sE ((cs.toList.drop 0).take l.length) l,sB (dz P T),sE ((P.info? T).map (·.size)) (some l.length)]
  | _=>[sB false])++ft P L e rs vs
 | _,_=>[sB false]
theorem td{a:Sl}{Ds:List Nat}{b:Act}(j:Fr a Ds b){L:ah}{M:ah}: ∀{rs:List ResultVar} {vs:List (RV P)},(∀x∈ft P L a.e rs vs,x.2.1=x.2.2)→∀x∈fo P (L) b.tmps rs vs,x.2.1=x.2.2
 | [],[],_=>λx o=>by simp [fo] at o
 | [],_::_,h=>(bu (by simpa [ft] using h)).elim
 | .tmp i::rs,[],h=>(bu (by simpa [ft] using h)).elim
 | .cell p T::rs,[],h=>(bu (by simpa [ft] using h)).elim
 | .tmp i::rs,.t v::vs,h=>by
  simp only[ft,U4,forall_eq_or_imp,sE] at h;simp only[fo,U4,forall_eq_or_imp,sE];exact⟨j.get i v h.1,td (M:=M) j h.2⟩
 | .tmp i::rs,.c v k::vs,h=>(bu (by simpa only[ft] using h)).elim
 | .tmp i::rs,.s l k::vs,h=>(bu (by simpa only[ft] using h)).elim
 | .cell p T::rs,.t v::vs,h=>(bu (by simpa only[ft] using h)).elim
 | .cell p T::rs,.c v k::vs,h=>by
  simp only[ft] at h;simp only[fo]
  split at h
  ·rename_i g cs q m;simp only[Vz,U4,U1,or_false,or_imp,forall_and,forall_eq,sE] at h;simp only[m,Vz,U4,U1,or_false,or_imp,forall_and,forall_eq,sE];exact⟨⟨j.get p _ h.1.1,h.1.2⟩,td (M:=M) j h.2⟩
  ·exact(bu λe d=>h e (We _ d)).elim
 | .cell p T::rs,.s l k::vs,h=>by
  simp only[ft] at h;simp only[fo]
  split at h
  ·rename_i g cs q m;simp only[Vz,U4,U1,or_false,or_imp,forall_and,forall_eq,sE,sB] at h;simp only[m,Vz,U4,U1,or_false,or_imp,forall_and,forall_eq,sE,sB];exact⟨⟨j.get p _ h.1.1,h.1.2⟩,td (M:=M) j h.2⟩
  ·exact(bu λe d=>h e (We _ d)).elim
section
variable {a:Sl} {sz:Nat} {es:Fe} {L:ah} {S:List It} {Ds:List Nat} {cs:List av} {w:World} {Q:Exit→Act→World→Prop}
theorem Av{b:Act}{W:World}(j:Fr a Ds b)(e:aF (bJ cs.flatten) w (L++Ds.map mk) W)(l:bk rd cs)(k:eb cs.flatten w)(vs:List (RV P))(E:ab)(g:List Nat)(c:List (Nat×Nat))(hv:m9 vs=v E)
  (s:(ft P L a.e fn.results.toList vs).map a9.lhs=(ft P L a.e fn.results.toList vs).map a9.rhs)
  (hf:(cZ (g++c.map (·.2)),g.map (λp=>L[p]?),c.map (λx=>L[x.2]?),c.all (λx=>o8 rd[x.1]?),(Va rd.length).all λi=>O.contains i||c.any λx=>x.1==i)=(true,(wt E).map some,c.map (λx=>rd[x.1]?),true,true)):
  LeavesInM Fence.wide 6 P fn b.tmps (Ab O wt v cs w) b.defers .returning W:=by
 obtain⟨u,m,o⟩:=e.seg;rw[j.defers];have d:=td (M:=L) j (a9.all s);refine zH m o vs ?_ λy e=>?_
 ·exact VO λx t=>by
   obtain⟨T,z,A⟩:=x;have:=d _ t;simp only at this;unfold a9.lhs a9.rhs;rw[this]
 ·obtain⟨q,d,r⟩:=e.fin2 (R:=[]) l k O (wt E) g c hf;exact⟨E,q,by rw[hv],d,r⟩
def qq(S:List It):Bool:=match nf S with | .c .ret::_=>true | _=>false
theorem ak[hR:Rt Q (fQ P fn rd O wt v cs w)](u:Value)(E:ab)(q:u=v E)(g:List Nat)(c:List (Nat×Nat))(rs:List Nat)(hv:m9 (jc P L es fn.results.toList rs)=u:=by kernel_rfl)
  (o:(ft P L es fn.results.toList (jc P L es fn.results.toList rs)).map a9.lhs=(ft P L es fn.results.toList (jc P L es fn.results.toList rs)).map a9.rhs:=by kernel_rfl)
  (hf:(cZ (g++c.map (·.2)),g.map (λp=>L[p]?),c.map (λx=>L[x.2]?),c.all (λx=>o8 rd[x.1]?),(Va rd.length).all λi=>O.contains i||c.any λx=>x.1==i)=(true,(wt E).map some,c.map (λx=>rd[x.1]?),true,true):=by kernel_rfl)
  (d:qq S=true:=by kernel_rfl):Go Fence.wide 6 P (bJ cs.flatten) w Q S ⟨sz,es⟩ L Ds:=by
 refine⟨λb W m l=>dm 1000 S ?_⟩;unfold qq at d
 split at d
 ·rename_i r e;rw[show c0 1000 S=_ from e];exact wpIn_ret (gz (hR.out b W λk j=>Av m l k j _ E g c (hv.trans q) o hf))
 ·cases d
theorem lf[hR:Rt Q (fQ P fn rd O wt v cs w)](E:ab)(c:List Nat)(b:List (Nat×Nat))(rs:List Nat)(hv:m9 (jc P L es fn.results.toList rs)=v E:=by kernel_rfl)
 (e:(ft P L es fn.results.toList (jc P L es fn.results.toList rs)).map a9.lhs=(ft P L es fn.results.toList (jc P L es fn.results.toList rs)).map a9.rhs:=by kernel_rfl)
 (hf:(cZ (c++b.map (·.2)),c.map (λp=>L[p]?),b.map (λx=>L[x.2]?),b.all (λx=>o8 rd[x.1]?),(Va rd.length).all λi=>O.contains i||b.any λx=>x.1==i)=(true,(wt E).map some,b.map (λx=>rd[x.1]?),true,true):=by kernel_rfl)
 (d:qq S=true:=by kernel_rfl):Go Fence.wide 6 P (bJ cs.flatten) w Q S ⟨sz,es⟩ L Ds:=ak (v E) E rfl c b rs hv e hf d
theorem HU(u:Value)(E:ab)(o:u=v E)(d:List Nat)(c:List (Nat×Nat))(rs:List Nat)(hv:m9 (jc P L es fn.results.toList rs)=u:=by kernel_rfl)
  (m:(ft P L es fn.results.toList (jc P L es fn.results.toList rs)).map a9.lhs=(ft P L es fn.results.toList (jc P L es fn.results.toList rs)).map a9.rhs:=by kernel_rfl)
  (hf:(cZ (d++c.map (·.2)),d.map (λp=>L[p]?),c.map (λx=>L[x.2]?),c.all (λx=>o8 rd[x.1]?),(Va rd.length).all λi=>O.contains i||c.any λx=>x.1==i)=(true,(wt E).map some,c.map (λx=>rd[x.1]?),true,true):=by kernel_rfl)
  (k:(nf S).isEmpty=true:=by kernel_rfl):Go Fence.wide 6 P (bJ cs.flatten) w (fQ P fn rd O wt v cs w) S ⟨sz,es⟩ L Ds:=by
 refine⟨λb W l j=>dm 1000 S ?_⟩;rw[show c0 1000 S=[] from List.isEmpty_iff.1 k];exact λg e=>Av l j g e _ E d c (hv.trans o) m hf
theorem eh(E:ab)(c:List Nat)(b:List (Nat×Nat))(rs:List Nat)(hv:m9 (jc P L es fn.results.toList rs)=v E:=by kernel_rfl)
  (e:(ft P L es fn.results.toList (jc P L es fn.results.toList rs)).map a9.lhs=(ft P L es fn.results.toList (jc P L es fn.results.toList rs)).map a9.rhs:=by kernel_rfl)
  (hf:(cZ (c++b.map (·.2)),c.map (λp=>L[p]?),b.map (λx=>L[x.2]?),b.all (λx=>o8 rd[x.1]?),(Va rd.length).all λi=>O.contains i||b.any λx=>x.1==i)=(true,(wt E).map some,b.map (λx=>rd[x.1]?),true,true):=by kernel_rfl)
  (d:(nf S).isEmpty=true:=by kernel_rfl):Go Fence.wide 6 P (bJ cs.flatten) w (fQ P fn rd O wt v cs w) S ⟨sz,es⟩ L Ds:=
 HU (v E) E rfl c b rs hv e hf d
end
end
end
section
open Go.RowKit Go.Shelf Go
structure Kd (P:Program) (α:Type) where
 en:α→List Value
 z:List Value
 TS:TypeId
 T:TypeId
 d:α
 k:Nat
 hk: ∀y,(en y).length=k
 hz:k=z.length
 h1: ∀y,(en y).all (·.oneCell')=true
 hT:dS P TS T z
theorem Kd.one{P:Program}{α:Type}(K:Kd P α): ∀y,∀u∈K.en y,u.oneCell'=true:=λy=>List.all_eq_true.1 (K.h1 y)
theorem Kd.lz{P:Program}{α:Type}(K:Kd P α): ∀y,(K.en y).length=K.z.length:=λy=>(K.hk y).trans K.hz
section
variable {P:Program} {α:Type}
abbrev sl(K:Kd P α)(v:Value)(xs:List α):aB:= .p (ao K.en K.z K.T v xs)
theorem Kd.cell(K:Kd P α){a:α}{f:Nat}(hf:f<K.k):(K.en a)[f]? =some ((K.en a).getD f undef):=by
 have h:f<(K.en a).length:=by rw[K.hk];exact hf
 rw[U8,Vk h];rfl
theorem Kd.part(K:Kd P α){a:α}{f n:Nat}(hf:f+n≤K.k):(((K.en a).drop f).take n).length=n∧((K.en a).drop f).take (((K.en a).drop f).take n).length=((K.en a).drop f).take n:=by
 have h:(((K.en a).drop f).take n).length=n:=by rw[Vf,Vx,K.hk];omega
 exact⟨h,by rw[h]⟩
section
variable (K:Kd P α) (v:Value) (xs:List α) (p:Nat)
def ew:b6 P:= .m (G6 p (sl K v xs) λ_ h=>h)
def cp(i:Nat)(b:i<xs.length:=by omega):b6 P:= .m (G8 p (sl K v xs) i K.k (λ_ h=>h) b)
def te(off f:Nat)(b:0<xs.length:=by omega):b6 P:= .m (Ha p (sl K v xs) off f (λ_ h=>h) b)
def eL(i f:Nat)(b:i<xs.length:=by omega)(hf:f<K.k:=by decide):b6 P:= .m (Hc (d:=K.d) p (sl K v xs) i K.k f (λ_ h=>h) K.hk b hf (K.cell hf))
def nm(i f n:Nat)(b:i<xs.length:=by omega)(hf:f+n≤K.k:=by decide):b6 P:= .m (He (d:=K.d) p (sl K v xs) i K.k f (λ_ h=>h) K.hk b (by rw[(K.part hf).1];exact hf) (K.part hf).2)
def HV(l:Nat)(b:l≤xs.length:=by omega):b6 P:= .m (Hw p (sl K v xs) l K.k (λ_ h=>h) b)
def qt(i:Nat)(a:α)(b:i<xs.length:=by omega):b6 P:= .m (Hi (T:=K.T) (v:=v) (xs:=xs) (en:=K.en) (z:=K.z) p i K.k a K.hk b)
def qu(i f:Nat)(a:α)(u:Value)(c:K.en a=(K.en (xs.getD i K.d)).set f u)(b:i<xs.length:=by omega)(hf:f<K.k:=by decide):b6 P:= .m (Hg (T:=K.T) (v:=v) (xs:=xs) (en:=K.en) (z:=K.z) (d:=K.d) (a:=a) (u:=u) p i K.k f K.hk b hf c)
def eX(q:Nat)(ys:List α)(b:xs.length+ys.length≤1000000:=by simp only[List.length_append,List.length_cons,List.length_nil,List.length_replicate,List.length_take,List.length_drop,List.length_set];omega):b6 P:= .m (Hr (xs:=xs) (ys:=ys) p q K.hT v K.one K.lz b)
end
section
variable {en:α→List Value} {v:Value} {xs:List α} {bs:av} (h:dF en v xs bs) (p:Nat)
def ey:b6 P:= .m (HC p (.c bs) (cP h))
def e7(i k:Nat)(b:i<xs.length:=by omega):b6 P:= .m (HE p (.c bs) i k (cP h) b)
end
section
variable (K:Kd P α) {v:Value} {xs:List α} {bs:av} (h:dF K.en v xs bs) (p:Nat)
def iz(i f:Nat)(b:i<xs.length:=by omega)(hf:f<K.k:=by decide):b6 P:= .m (HG (d:=K.d) p (.c bs) i K.k f (cP h) K.hk b hf (K.cell hf))
def mG(i f n:Nat)(b:i<xs.length:=by omega)(hf:f+n≤K.k:=by decide):b6 P:= .m (HI (d:=K.d) p (.c bs) i K.k f (cP h) K.hk b (by rw[(K.part hf).1];exact hf) (K.part hf).2)
end
def ad(a b:Nat)(h:a+b<9223372036854775808:=by omega):b6 P:= .t (tb (a:=i6 a) (b:=i6 b) λ_ _ _ _=>Gz h)
def aI(a b:Int)(h0: -9223372036854775808≤a+b:=by omega)(h1:a+b≤9223372036854775807:=by omega):b6 P:= .t (tb (a:=i6 a) (b:=i6 b) λ_ _ _ _=>pT h0 h1)
def sI(a b:Int)(h0: -9223372036854775808≤a-b:=by omega)(h1:a-b≤9223372036854775807:=by omega):b6 P:= .t (tb (a:=i6 a) (b:=i6 b) λ_ _ _ _=>pU h0 h1)
def ml(a b:Nat)(h:a*b<9223372036854775808:=by omega):b6 P:= .t (tb (a:=i6 a) (b:=i6 b) λ_ _ _ _=>Gy h)
end
section
variable {F:Fence} {n:Nat} {P:Program} {R:List Nat} {base:World} {Q:Exit→Act→World→Prop} {S:List It} {sz:Nat} {es:Fe} {L:ah} {Ds:List Nat}
theorem cz{α:Type}(K:Kd P α)(b:Go F n P R base Q S ⟨sz,es⟩ (L++[sl K (.slice none 0 0) []]) Ds):Go F n P R base Q S ⟨sz,es⟩ L Ds:=cn K.en K.z K.T b
end
end
section
open Go.RowKit Go.Shelf Go
def gb:List Nat→List Value→Fe
 | p::ps,v::vs=>gb ps vs++[(p,v)]
 | _,_=>[]
theorem qv(b:List Nat)(vs:List Value)(t:Array Value):gK t b.toArray vs.toArray=(b.zip vs).foldl (λt x=>t.setIfInBounds x.1 x.2) t:=by
 unfold gK;rw[List.zip_toArray,List.foldl_toArray]
theorem Aw(p:Nat)(b:List Nat)(v:Value)(vs:List Value)(t:Array Value):gK t (p::b).toArray (v::vs).toArray=gK (t.setIfInBounds p v) b.toArray vs.toArray:=by
 rw[qv,qv];rfl
theorem tf: ∀(b:List Nat) (vs:List Value) (t:Array Value) (i:Nat),b.length=vs.length→(∀p∈b,p<t.size)→
  (gK t b.toArray vs.toArray).getD i undef=match lk (gb b vs) i with | some v=>v | none=>t.getD i undef
 | [],[],t,i,_,_=>by rw[qv];rfl
 | p::b,v::vs,t,i,k,g=>by
  rw[Aw,tf b vs _ i (by simpa using k) (λq m=>by rw[Array.size_setIfInBounds];exact g q (Wc _ m))];show _=match lk (gb b vs++[(p,v)]) i with | some v=>v | none=>t.getD i undef
  rw[pa];cases lk (gb b vs) i with
  | some u=>rfl
  | none=>
   simp only;have f:=g p Wn;show _=match (match Vy p i with | true=>some v | false=>none) with | some v=>v | none=>t.getD i undef
   cases c:Vy p i with
   | true=>
    obtain rfl:=Vh c;simp [f]
   | false=>
    have d:p≠i:=λe=>by rw[e,VJ] at c;cases c
    simp [Array.getD_eq_getD_getElem?,d]
 | [],_::_,_,_,h,_=>by simp at h
 | _::_,[],_,_,h,_=>by simp at h
theorem th: ∀(b:List Nat) (vs:List Value) (t:Array Value),(gK t b.toArray vs.toArray).size=t.size
 | [],_,t=>by rw[qv];rfl
 | p::b,[],t=>by rw[qv];rfl
 | p::b,v::vs,t=>by
  rw[Aw,th,Array.size_setIfInBounds]
def fD(S:List It):Operand:=match nf S with | .c (.rangeFunc g _ _ _)::_=>g | _=> .const undef
def b7(S:List It):List Nat:=match nf S with | .c (.rangeFunc _ ps _ _)::_=>ps.toList | _=>[]
def jd(S:List It):Code:=match nf S with | .c (.rangeFunc _ _ x _)::_=>x | _=> .skip
def kj(S:List It):Code:=match nf S with | .c (.rangeFunc _ _ _ y)::_=>y | _=> .skip
def mH(S:List It):Bool:=match nf S with | .c (.rangeFunc _ _ _ _)::_=>true | _=>false
theorem wq{S:List It}(h:mH S=true):nf S= .c (.rangeFunc (fD S) (b7 S).toArray (jd S) (kj S))::bP S:=by
 unfold mH at h;unfold fD b7 jd kj bP
 split at h
 ·rename_i g d x y b e;rw[e]
 ·cases h
structure Xt where
 c:Code
 i:Nat
 L:ah
section
variable {F:Fence} {n:Nat} {P:Program} {R:List Nat} {base:World} {Q:Exit→Act→World→Prop} {S:List It} {a:Sl} {sz:Nat} {es:Fe} {L:ah} {Ds:List Nat}
def n8(F:Fence)(n:Nat)(P:Program)(R:List Nat)(base:World)(sz:Nat)(KO:av)(Q:List Nat→World→Exit→Act→World→Prop)(c:Code):Exit→Act→World→Prop
 | .normal,b,W=>∃e,aF R base e W∧iq KO e∧∀f d,aF f d e d→c.wpIn F n P (Q f d) b d
 | _,_,_=>False
theorem ag{KO:List av}{e:List Nat→World→Exit→Act→World→Prop}{c:Code}(i:List Nat)(s: ∀d g,Go F n P d g (e d g) [.c c] ⟨sz,es⟩ L [])(r:i.map (λp=>L[p]?)=KO.map (λo=>some (.c o)):=by kernel_rfl)(m:(nf S).isEmpty=true:=by kernel_rfl):
  Go F n P R base (n8 F n P R base sz KO.flatten e c) S ⟨sz,es⟩ L []:=by
 refine⟨λb W q k=>dm 1000 S ?_⟩;rw[show c0 1000 S=[] from List.isEmpty_iff.1 m];exact⟨L,by simpa using k,o9 i r,λd f h=>(s d f).out b f q (by simpa using h)⟩
theorem aF.left{M:ah}{W:World}(h:aF R base (L++M) W):aF R base L W:=by
 obtain⟨e,d,b⟩:=h.conc;obtain⟨f,es,rfl,c,g⟩:=nb d;rw[List.flatten_append] at b;exact aF.ofS c (b.sub (List.sublist_append_left _ _))
theorem ne{Rel:ah→Prop}{d:Code→ah→Prop}(L':ah)(i:Rel L')(c:List Nat)(e:(cZ (c.map λp=>[p]).flatten,(c.map λp=>[p]).map λg=>g.map λp=>L[p]?)=(true,(L'.map λx=>[x]).map λN=>N.map some))(h:(nf S).isEmpty=true:=by kernel_rfl):Go F n P R base (kH R base Rel d) S ⟨sz,es⟩ L Ds:=by
 refine⟨λb W k f=>dm 1000 S ?_⟩;rw[show c0 1000 S=[] from List.isEmpty_iff.1 h];exact⟨L',f.left.pick c L' e,i⟩
theorem nr{Rel:ah→Prop}{f:Code→ah→Prop}(L':ah)(k:f .ret L')(d:List Nat)(h:(cZ (d.map λp=>[p]).flatten,(d.map λp=>[p]).map λg=>g.map λp=>L[p]?)=(true,(L'.map λx=>[x]).map λN=>N.map some))(c:qq S=true:=by kernel_rfl):Go F n P R base (kH R base Rel f) S ⟨sz,es⟩ L Ds:=by
 refine⟨λb W o i=>dm 1000 S ?_⟩;unfold qq at c
 split at c
 ·rename_i m e;rw[show c0 1000 S=_ from e];exact wpIn_ret (gz ⟨L',i.left.pick d L' h,k⟩)
 ·cases c
def Ax(S:List It):Option Nat:=match nf S with
 | .x b::S'=>(match lH b S' with | none=>some b | some _=>none)
 | _=>none
theorem nx{Rel:ah→Prop}{f:Code→ah→Prop}(id:Nat)(L':ah)(m:f (.exit id) L')(d:List Nat)(h:(cZ (d.map λp=>[p]).flatten,(d.map λp=>[p]).map λg=>g.map λp=>L[p]?)=(true,(L'.map λx=>[x]).map λN=>N.map some))(c:Ax S=some id:=by kernel_rfl):Go F n P R base (kH R base Rel f) S ⟨sz,es⟩ L Ds:=by
 refine⟨λb W q i=>dm 1000 S ?_⟩;unfold Ax at c
 split at c
 ·rename_i j o e;rw[show c0 1000 S=_ from e]
  split at c
  ·rename_i k;cases c;exact qn k ⟨L',i.left.pick d L' h,m⟩
  ·cases c
 ·cases c
theorem rf{α:Type}{gf:Nat}{lb:Array Value}{encs:α→Array Value}{xs:List α}{KO:List av}(hit:eT 5 P gf lb encs xs KO.flatten)(eg:Enters P gf)(Rel:Nat→ah→Prop)(I:Code→Nat→ah→Prop)(s:List Nat)(h0:Rel 0 L)
  (T: ∀i L',Rel i L'→iq KO.flatten L') (U: ∀c i L',I c i L'→iq KO.flatten L') (B: ∀x,(encs x).size=(b7 S).length)
  (f: ∀(l i:Nat) (x:α) (L':ah) (H:List Nat) (w:World),xs[i]? =some x→Rel i L'→Go (Fence.wide.inRound l) 4 P H w (n8 (Fence.wide.inRound l) 4 P H w sz KO.flatten (λM z=>kH M z (Rel (i+1)) λc=>I c (i+1)) (kj S)) [.c (jd S)] ⟨sz,gb (b7 S) (encs x).toList++es⟩ L' [])
  (q: ∀(D:Nat) (L':ah),Rel xs.length L'→Go Fence.wide 6 P R base Q (bP S) ⟨sz,es⟩ L' (D::Ds))
  (r: ∀(D:Nat) (c:Code) (i:Nat) (L':ah),i<xs.length→I c (i+1) L'→Go Fence.wide 6 P R base Q (.c c::bP S) ⟨sz,es⟩ L' (D::Ds))
  (K:(mH S,(⟨sz,es⟩:Sl).ev (fD S),(b7 S).all (VI · sz),cZ (s.map λp=>[p]).flatten,(s.map λp=>[p]).map λg=>g.map λp=>L[p]?)=(true,.func (.func gf) #[] lb,true,true,((KO.map aB.c).map λx=>[x]).map λN=>N.map some):=by kernel_rfl)
  (A:(match fD S with | .tmp i=>(lk es i).isSome | _=>true)=true:=by kernel_rfl):Go Fence.wide 6 P R base Q S ⟨sz,es⟩ L Ds:=by
 have c1:=ALca (λx=>x.1) K;have c2:=ALca (λx=>x.2.1) K;have c3:=ALca (λx=>x.2.2.1) K;have c4:=ALca (λx=>x.2.2.2) K;simp only at c1 c2 c3 c4;refine⟨λb W d hO=>dm 1000 S ?_⟩;rw[show c0 1000 S=_ from wq c1];show(Code.rangeFunc (fD S) (b7 S).toArray (jd S) (kj S)).wpIn Fence.wide 6 P (cV Fence.wide 6 P Q (bP S)) b W;obtain⟨H,OC,OW⟩:=hO.seg;have hg:b.eval (fD S)= .func (.func gf) #[] lb:=by
  rw[d.ev λi Y=>by rw[Y] at A;exact A];exact c2
 have hnd:KO.flatten.Pairwise λx y=>x.1≠y.1:=by
  exact aF.ndC (Os:=KO) (R:=H) (base:=W) (W:=W) (OW.out.pick s _ c4)
 refine Gl (n:=6) Om hg eg hit Rel I OW h0 T U hnd (λx=>by rw[B x];simp) ?_ ?_ ?_
 ·intro l i x L' M w hx C V;have h:=f l i x L' M w hx C;have hsz:(encs x).toList.length=(b7 S).length:=by rw[Array.length_toList];exact B x
  have Z: ∀p∈b7 S,p<b.tmps.size:=λp hp=>by rw[d.size];exact VH▸List.all_eq_true.1 c3 p hp
  have X:Fr ⟨sz,gb (b7 S) (encs x).toList++es⟩ [] {tmps:=gK b.tmps (b7 S).toArray (encs x),defers:=[]}:=by
   have ee:encs x=(encs x).toList.toArray:=by simp
   refine⟨?_,λi v G=>?_,rfl⟩
   ·show(gK b.tmps (b7 S).toArray (encs x)).size=sz;rw[ee,th];exact d.size
   ·show(gK b.tmps (b7 S).toArray (encs x)).getD i undef=v;rw[ee,tf _ _ _ i hsz.symm Z];simp only[pa] at G;cases h1:lk (gb (b7 S) (encs x).toList) i with
    | some u=>rw[h1] at G;cases G;rfl
    | none=>rw[h1] at G;exact d.get i v G
  refine wpIn_mono (show(jd S).wpIn (Fence.wide.inRound l) 4 P _ _ w from h.out _ w X (by simpa using V.out)) λe a' Wa hq=>?_;cases e with
  | normal=>
   obtain⟨La,q1,q2,q3⟩:=hq;exact⟨La,q1,q2,λO W3 h3=>q3 O W3 h3.out⟩
  | _=>exact hq
 ·intro D L' z C o;obtain⟨O,k,m⟩:=iX.markE OC.out o.out;exact(q D L' C).out _ z ⟨d.size,d.get,by show jr D::b.defers=_;rw[d.defers];rfl⟩ (k.out.whole m.out)
 ·intro D c i L' z Y C o;obtain⟨O,k,m⟩:=iX.markE OC.out o.out;exact(r D c i L' Y C).out _ z ⟨d.size,d.get,by show jr D::b.defers=_;rw[d.defers];rfl⟩ (k.out.whole m.out)
theorem HW{α:Type}{gf:Nat}{lb:Array Value}{encs:α→Array Value}{xs:List α}{KO:List av}{XO:av}(hit:o1 5 P gf lb encs xs KO.flatten XO)(eg:Enters P gf)(Rel:Nat→ah→Prop)(I:Code→Nat→ah→Prop)(LG:ah)(qs s:List Nat)(M:(cZ (qs.map λp=>[p]).flatten,(qs.map λp=>[p]).map λg=>g.map λp=>L[p]?)=(true,((LG++[aB.c XO]).map λx=>[x]).map λN=>N.map some))(h0:Rel 0 LG)
  (U: ∀i L',Rel i L'→iq KO.flatten L') (V: ∀c i L',I c i L'→iq KO.flatten L') (B: ∀x,(encs x).size=(b7 S).length)
  (f: ∀(l i:Nat) (x:α) (L':ah) (H:List Nat) (w:World),xs[i]? =some x→Rel i L'→Go (Fence.wide.inRound l) 4 P H w (n8 (Fence.wide.inRound l) 4 P H w sz KO.flatten (λO z=>kH O z (Rel (i+1)) λc=>I c (i+1)) (kj S)) [.c (jd S)] ⟨sz,gb (b7 S) (encs x).toList++es⟩ L' [])
  (q: ∀(D:Nat) (L':ah),Rel xs.length L'→Go Fence.wide 6 P R base Q (bP S) ⟨sz,es⟩ L' (D::Ds))
  (r: ∀(D:Nat) (c:Code) (i:Nat) (L':ah),i<xs.length→I c (i+1) L'→Go Fence.wide 6 P R base Q (.c c::bP S) ⟨sz,es⟩ L' (D::Ds))
  (K:(mH S,(⟨sz,es⟩:Sl).ev (fD S),(b7 S).all (VI · sz),cZ (s.map λp=>[p]).flatten,(s.map λp=>[p]).map λg=>g.map λp=>L[p]?)=(true,.func (.func gf) #[] lb,true,true,(((KO++[XO]).map aB.c).map λx=>[x]).map λN=>N.map some):=by kernel_rfl)
  (A:(match fD S with | .tmp i=>(lk es i).isSome | _=>true)=true:=by kernel_rfl):Go Fence.wide 6 P R base Q S ⟨sz,es⟩ L Ds:=by
 have c1:=ALca (λx=>x.1) K;have c2:=ALca (λx=>x.2.1) K;have c3:=ALca (λx=>x.2.2.1) K;have c4:=ALca (λx=>x.2.2.2) K;simp only at c1 c2 c3 c4;refine⟨λb W d hO=>dm 1000 S ?_⟩;rw[show c0 1000 S=_ from wq c1];show(Code.rangeFunc (fD S) (b7 S).toArray (jd S) (kj S)).wpIn Fence.wide 6 P (cV Fence.wide 6 P Q (bP S)) b W;obtain⟨H,OC,OW⟩:=hO.seg;have hg:b.eval (fD S)= .func (.func gf) #[] lb:=by
  rw[d.ev λi Z=>by rw[Z] at A;exact A];exact c2
 have hnd:(KO.flatten++XO).Pairwise λx y=>x.1≠y.1:=by
  have h9:=aF.ndC (Os:=KO++[XO]) (R:=H) (base:=W) (W:=W) (OW.out.pick s _ c4);simpa using h9
 refine zL (n:=6) Om hg eg hit Rel I (Lib.hid (OW.out.pick qs _ M)) h0 U V hnd (λx=>by rw[B x];simp) ?_ ?_ ?_
 ·intro l i x L' O w hx C X;have h:=f l i x L' O w hx C;have hsz:(encs x).toList.length=(b7 S).length:=by rw[Array.length_toList];exact B x
  have hlt: ∀p∈b7 S,p<b.tmps.size:=λp hp=>by rw[d.size];exact VH▸List.all_eq_true.1 c3 p hp
  have Y:Fr ⟨sz,gb (b7 S) (encs x).toList++es⟩ [] {tmps:=gK b.tmps (b7 S).toArray (encs x),defers:=[]}:=by
   have ee:encs x=(encs x).toList.toArray:=by simp
   refine⟨?_,λi v G=>?_,rfl⟩
   ·show(gK b.tmps (b7 S).toArray (encs x)).size=sz;rw[ee,th];exact d.size
   ·show(gK b.tmps (b7 S).toArray (encs x)).getD i undef=v;rw[ee,tf _ _ _ i hsz.symm hlt];simp only[pa] at G;cases h1:lk (gb (b7 S) (encs x).toList) i with
    | some u=>rw[h1] at G;cases G;rfl
    | none=>rw[h1] at G;exact d.get i v G
  refine wpIn_mono (show(jd S).wpIn (Fence.wide.inRound l) 4 P _ _ w from h.out _ w Y (by simpa using X.out)) λe a' Wa M=>?_;cases e with
  | normal=>
   obtain⟨La,q1,q2,q3⟩:=M;exact⟨La,q1,q2,λT W3 h3=>q3 T W3 h3.out⟩
  | _=>exact M
 ·intro D L' z C o;obtain⟨T,k,m⟩:=iX.markE OC.out o.out;exact(q D L' C).out _ z ⟨d.size,d.get,by show jr D::b.defers=_;rw[d.defers];rfl⟩ (k.out.whole m.out)
 ·intro D c i L' z Z C o;obtain⟨T,k,m⟩:=iX.markE OC.out o.out;exact(r D c i L' Z C).out _ z ⟨d.size,d.get,by show jr D::b.defers=_;rw[d.defers];rfl⟩ (k.out.whole m.out)
theorem n9{α:Type}{gf:Nat}{lb:Array Value}{encs:α→Array Value}{xs:List α}{KO:List av}(hit:eT 5 P gf lb encs xs KO.flatten)(w:Enters P gf)(I:Nat→Prop)(f:Nat→ah→ah)(b:List Nat)(h0:I 0)(z:L=f 0 L)
  (d: ∀(l i:Nat) (x:α) (k:List Nat) (m:World),xs[i]? =some x→I i→Go (Fence.wide.inRound l) 4 P k m (n8 (Fence.wide.inRound l) 4 P k m sz KO.flatten (λu v=>kH u v (λL'=>I (i+1)∧L'=f (i+1) L) λ_ _=>False) (kj S)) [.c (jd S)] ⟨sz,gb (b7 S) (encs x).toList++es⟩ (f i L) [])
  (e: ∀(D:Nat),I xs.length→Go Fence.wide 6 P R base Q (bP S) ⟨sz,es⟩ (f xs.length L) (D::Ds))
  (y: ∀i,b.map (λp=>(f i L)[p]?)=KO.map λo=>some (.c o):=by intros;kernel_rfl) (s: ∀x,(encs x).size=(b7 S).length:=by intro _;kernel_rfl)
  (A:(mH S,(⟨sz,es⟩:Sl).ev (fD S),(b7 S).all (VI · sz),cZ (b.map λp=>[p]).flatten,(b.map λp=>[p]).map λg=>g.map λp=>L[p]?)=(true,.func (.func gf) #[] lb,true,true,((KO.map aB.c).map λx=>[x]).map λN=>N.map some):=by kernel_rfl)
  (r:(match fD S with | .tmp i=>(lk es i).isSome | _=>true)=true:=by kernel_rfl):Go Fence.wide 6 P R base Q S ⟨sz,es⟩ L Ds:=by
 refine rf hit w (λi L'=>I i∧L'=f i L) (λ_ _ _=>False) b ⟨h0,z⟩ (λi L' h=>?_) (λ_ _ _ h=>h.elim) s (λl i x L' k m B h=>?_) (λD L' h=>?_) (λ_ _ _ _ _ h=>h.elim) A r
 ·obtain⟨q,rfl⟩:=h;exact o9 b (y i)
 ·obtain⟨q,rfl⟩:=h;exact d l i x k m B q
 ·obtain⟨q,rfl⟩:=h;exact e D q
theorem Ay{α:Type}{gf:Nat}{lb:Array Value}{encs:α→Array Value}{xs:List α}{KO:List av}{XO:av}(hit:o1 5 P gf lb encs xs KO.flatten XO)(z:Enters P gf)(I:Nat→Prop)(f:Nat→ah→ah)(b:ah)(qs v k:List Nat)(h0:I 0)(B:b=f 0 b)
  (d: ∀(l i:Nat) (x:α) (m:List Nat) (q:World),xs[i]? =some x→I i→Go (Fence.wide.inRound l) 4 P m q (n8 (Fence.wide.inRound l) 4 P m q sz KO.flatten (λw y=>kH w y (λL'=>I (i+1)∧L'=f (i+1) b) λ_ _=>False) (kj S)) [.c (jd S)] ⟨sz,gb (b7 S) (encs x).toList++es⟩ (f i b) [])
  (e: ∀(D:Nat),I xs.length→Go Fence.wide 6 P R base Q (bP S) ⟨sz,es⟩ (f xs.length b) (D::Ds))
  (A: ∀i,k.map (λp=>(f i b)[p]?)=KO.map λo=>some (.c o):=by intros;kernel_rfl) (u: ∀x,(encs x).size=(b7 S).length:=by intro _;kernel_rfl)
  (C:(mH S,(⟨sz,es⟩:Sl).ev (fD S),(b7 S).all (VI · sz),cZ (v.map λp=>[p]).flatten,(v.map λp=>[p]).map λg=>g.map λp=>L[p]?)=(true,.func (.func gf) #[] lb,true,true,(((KO++[XO]).map aB.c).map λx=>[x]).map λN=>N.map some):=by kernel_rfl)
  (G:(cZ (qs.map λp=>[p]).flatten,(qs.map λp=>[p]).map λg=>g.map λp=>L[p]?)=(true,((b++[aB.c XO]).map λx=>[x]).map λN=>N.map some):=by kernel_rfl)
  (s:(match fD S with | .tmp i=>(lk es i).isSome | _=>true)=true:=by kernel_rfl):Go Fence.wide 6 P R base Q S ⟨sz,es⟩ L Ds:=by
 refine HW hit z (λi L'=>I i∧L'=f i b) (λ_ _ _=>False) b qs v G ⟨h0,B⟩ (λi L' h=>?_) (λ_ _ _ h=>h.elim) u (λl i x L' m q H h=>?_) (λD L' h=>?_) (λ_ _ _ _ _ h=>h.elim) C s
 ·obtain⟨r,rfl⟩:=h;exact o9 k (A i)
 ·obtain⟨r,rfl⟩:=h;exact d l i x m q H r
 ·obtain⟨r,rfl⟩:=h;exact e D r
theorem wu{α:Type}{gf:Nat}{lb:Array Value}{encs:α→Array Value}{xs:List α}{KO:List av}(hit:eT 5 P gf lb encs xs KO.flatten)(z:Enters P gf)(I:Nat→Value→Prop)(f:Nat→Value→ah→ah)(b:List Nat)(v:Value)(h0:I 0 v)(B:L=f 0 v L)
  (d: ∀(l i:Nat) (u:Value) (x:α) (k:List Nat) (m:World),xs[i]? =some x→I i u→Go (Fence.wide.inRound l) 4 P k m (n8 (Fence.wide.inRound l) 4 P k m sz KO.flatten (λw y=>kH w y (λL'=>∃u:Value,I (i+1) u∧L'=f (i+1) u L) λ_ _=>False) (kj S)) [.c (jd S)] ⟨sz,gb (b7 S) (encs x).toList++es⟩ (f i u L) [])
  (e: ∀(D:Nat) (u:Value),I xs.length u→Go Fence.wide 6 P R base Q (bP S) ⟨sz,es⟩ (f xs.length u L) (D::Ds))
  (A: ∀i (u:Value),b.map (λp=>(f i u L)[p]?)=KO.map λo=>some (.c o):=by intros;kernel_rfl) (s: ∀x,(encs x).size=(b7 S).length:=by intro _;kernel_rfl)
  (C:(mH S,(⟨sz,es⟩:Sl).ev (fD S),(b7 S).all (VI · sz),cZ (b.map λp=>[p]).flatten,(b.map λp=>[p]).map λg=>g.map λp=>L[p]?)=(true,.func (.func gf) #[] lb,true,true,((KO.map aB.c).map λx=>[x]).map λN=>N.map some):=by kernel_rfl)
  (r:(match fD S with | .tmp i=>(lk es i).isSome | _=>true)=true:=by kernel_rfl):Go Fence.wide 6 P R base Q S ⟨sz,es⟩ L Ds:=by
 refine rf hit z (λi L'=>∃u:Value,I i u∧L'=f i u L) (λ_ _ _=>False) b ⟨v,h0,B⟩ (λi L' h=>?_) (λ_ _ _ h=>h.elim) s (λl i x L' k m G h=>?_) (λD L' h=>?_) (λ_ _ _ _ _ h=>h.elim) C r
 ·obtain⟨u,q,rfl⟩:=h;exact o9 b (A i u)
 ·obtain⟨u,q,rfl⟩:=h;exact d l i u x k m G q
 ·obtain⟨u,q,rfl⟩:=h;exact e D u q
theorem Az{α:Type}{gf:Nat}{lb:Array Value}{encs:α→Array Value}{xs:List α}{KO:List av}(hit:eT 5 P gf lb encs xs KO.flatten)(A:Enters P gf)(I:Nat→Prop)(m:Nat→ah→ah)(X:Code→Nat→Prop)(q:Code→Nat→ah→ah)(b:List Nat)(h0:I 0)(C:L=m 0 L)
  (d: ∀(l i:Nat) (x:α) (r:List Nat) (s:World),xs[i]? =some x→I i→Go (Fence.wide.inRound l) 4 P r s (n8 (Fence.wide.inRound l) 4 P r s sz KO.flatten (λy z=>kH y z (λL'=>I (i+1)∧L'=m (i+1) L) (λc L'=>X c (i+1)∧L'=q c (i+1) L)) (kj S)) [.c (jd S)] ⟨sz,gb (b7 S) (encs x).toList++es⟩ (m i L) [])
  (f: ∀(D:Nat),I xs.length→Go Fence.wide 6 P R base Q (bP S) ⟨sz,es⟩ (m xs.length L) (D::Ds))
  (k: ∀(D:Nat) (c:Code) (i:Nat),i<xs.length→X c (i+1)→Go Fence.wide 6 P R base Q (.c c::bP S) ⟨sz,es⟩ (q c (i+1) L) (D::Ds))
  (B: ∀i,b.map (λp=>(m i L)[p]?)=KO.map λo=>some (.c o):=by intros;kernel_rfl) (u: ∀c i,X c i→b.map (λp=>(q c i L)[p]?)=KO.map λo=>some (.c o):=by intros;kernel_rfl) (w: ∀x,(encs x).size=(b7 S).length:=by intro _;kernel_rfl)
  (G:(mH S,(⟨sz,es⟩:Sl).ev (fD S),(b7 S).all (VI · sz),cZ (b.map λp=>[p]).flatten,(b.map λp=>[p]).map λg=>g.map λp=>L[p]?)=(true,.func (.func gf) #[] lb,true,true,((KO.map aB.c).map λx=>[x]).map λN=>N.map some):=by kernel_rfl)
  (v:(match fD S with | .tmp i=>(lk es i).isSome | _=>true)=true:=by kernel_rfl):Go Fence.wide 6 P R base Q S ⟨sz,es⟩ L Ds:=by
 refine rf hit A (λi L'=>I i∧L'=m i L) (λc i L'=>X c i∧L'=q c i L) b ⟨h0,C⟩ (λi L' h=>?_) (λc i L' h=>?_) w (λl i x L' r s K h=>?_) (λD L' h=>?_) (λD c i L' H h=>?_) G v
 ·obtain⟨e,rfl⟩:=h;exact o9 b (B i)
 ·obtain⟨e,rfl⟩:=h;exact o9 b (u c i e)
 ·obtain⟨e,rfl⟩:=h;exact d l i x r s K e
 ·obtain⟨e,rfl⟩:=h;exact f D e
 ·obtain⟨e,rfl⟩:=h;exact k D c i H e
end
end
section
open Go.RowKit Go.Shelf Go
def wv(k:Nat)(L:List Oper):Bool:=L.all λo=>match o.guard with | none=>true | some (j,_)=>VI j k
section
variable {F:Fence} {n:Nat} {P:Program} {L:List Oper} {Q:Exit→Act→World→Prop} {a:Act} {t:dE} {R:List Nat} {base:World}
theorem AA{LL:List Oper}{k:Nat}{o:Oper}{c:Array Value}(h:match o.guard with | none=>true=true | some (j,_)=>VI j k=true):Region.wanted o (yielded LL.toArray c)=Region.wanted o (yielded (LL.take k).toArray c):=by
 unfold Region.wanted;cases e:o.guard with
 | none=>rfl
 | some f=>
  obtain⟨j,b⟩:=f;rw[e] at h;have d:j<k:=VH▸h;have:yielded LL.toArray c j=yielded (LL.take k).toArray c j:=by
   unfold yielded;rw[Vn,Vn,List.getElem?_take,ALifp d]
  simp only[this]
theorem AB{LL:List Oper}{N:Nat}(B:LL.take N=L)(m:wv N L=true)(h:iU F n P L Q a t)(A:Fence.free F)(r:lC L=true)(s: ∀k,k<L.length→∀j∈t.D k,j<k)
  (g: ∀xs w',fS L a t R base (λ_=>true) xs w'→wpListIn F n P LL.toArray Q (LL.drop N) (bl xs L 0 a) w'):
  ∀(d k:Nat) (xs:Nat→Value) (w':World),k+d=L.length→fS L a t R base (λi=>decide (i<k)) xs w'→wpListIn F n P LL.toArray Q (L.drop k++LL.drop N) (bl xs L 0 a) w'
 | 0,k,xs,w',D,u=>by
  obtain rfl:k=L.length:=by omega
  rw[List.drop_length,V0];exact g xs w' (u.congr (λi x=>by simpa using x) (λ_ _=>rfl))
 | d+1,k,xs,w',D,u=>by
  have b:k<L.length:=by omega
  rw[V3 b,List.cons_append];have q:L[k]? =some L[k]:=Vk b;have c:=sh h (S:=λi=>decide (i<k)) (xs:=xs) (w':=w') (k:=k) (o:=L[k]) b q (by simp) (λj p=>⟨by have:=s k b j p;omega,by simpa using s k b j p⟩)
   (λi x G j p=>by
    have H:=s i x j p;have I:i<k:=by simpa using G
    exact⟨by omega,by simp;omega⟩) u
   (λv f=>wpListIn F n P LL.toArray Q (L.drop (k+1)++LL.drop N) ((bl xs L 0 a).put L[k].dst v) f) (λv f w=>by
    rw[pQ v _ 0 a k _ r q,Vl];refine AB B m h A r s g d (k+1) _ f Om (w.congr (λj p=>?_) (λ_ _=>rfl));show(if j=k then true else decide (j<k))=decide (j<k+1);by_cases e:j=k
    ·subst e;simp
    ·rw[ALifn e,decide_eq_decide];omega) A
  have z:Region.wanted L[k] (yielded LL.toArray (bl xs L 0 a).tmps)=Region.wanted L[k] (yielded L.toArray (bl xs L 0 a).tmps):=by
   rw[AA (k:=N),B];have:=List.all_eq_true.1 m L[k] (Wv b);revert this;cases L[k].guard with
   | none=>exact λh=>h
   | some K=>exact λh=>h
  unfold wpListIn;rw[z]
  split
  ·rename_i y;rw[ALifp y] at c;exact Oper.wpIn_mono (λC f ⟨v,e,h⟩=>by rw[e];exact h) c
  ·rename_i y;rw[ALifn y] at c;exact c
theorem AD{LL:List Oper}{N:Nat}(T:LL.take N=L)(G:wv N L=true)(U:N<LL.length)(hs:Region.sinkB .any LL.toArray N=true)(h:iU F n P L Q a t)(hF:Fence.free F)(hc:Region.chainB .any LL.toArray N=true)(hb:mj .any LL.toArray N=true)(V:mj .any LL.toArray 0=true)(hsl:lC L=true)(hD:sb .any LL.toArray N t.D=true)
  (C: ∀xs w',fS L a t R base (λ_=>true) xs w'→wpListIn F n P LL.toArray Q (LL.drop N) (bl xs L 0 a) w'):
  ∀(c g:Nat) (b:Array Bool) (xs:Nat→Value) (w':World),gv b N=c→c+(LL.length-N)≤g→HeadInv .any LL.toArray N b→
   (∀i,i<N→b.getD i false=true→∀j∈t.D i,b.getD j false=true)→fS L a t R base (λi=>b.getD i false) xs w'→wpAnyIn F n P .any LL.toArray Q g b (bl xs L 0 a) w'
 | 0,g,b,xs,w',w,hf,p,hk,hI=>by
  have hN:L.length=N:=by rw[←T,Vf];omega
  have m:=vx N w;have u: ∀i,i<N→b.getD i false=true:=by
   intro i x;have q:i<b.size:=by rw[p.size,U5];omega
   have:=m i x;simp [q] at this⊢;exact this
  exact vt hc hb (LL.length-N) N g b _ w' (by rw[U5];omega) (Vi _) Om p.size m u p.tail (by simpa using C xs w' (hI.congr (λi x=>u i Om) (λ_ _=>rfl)))
 | c+1,g,b,xs,w',w,hf,p,hk,hI=>by
  have hN:L.length=N:=by rw[←T,Vf];omega
  obtain⟨f,rfl⟩: ∃f,g=f+1:=⟨g-1,by omega⟩;have hun: ∃i,i<N∧b.getD i true=false:=by
   apply VW;intro hno;have m: ∀i,i<N→b.getD i true=true:=λi x=>by
    cases I:b.getD i true with
    | true=>rfl
    | false=>exact(hno ⟨i,x,I⟩).elim
   have: ∀k,k≤N→gv b k=0:=by
    intro k
    induction k with
    | zero=>intro _;rfl
    | succ k ih=>intro h;unfold gv;rw[ih Om,m k Om];rfl
   rw[this N (Vi _)] at w;omega
  obtain⟨i0,W,hu0⟩:=hun;have some:Region.ready .any LL.toArray b=[]→∀d i,i=d→i<N→b.getD i true=true:=by
   intro y d
   induction d using WD with
   | _ d ih=>
    rintro i rfl x;cases I:b.getD i true with
    | true=>rfl
    | false=>
     exfalso;have D:i<LL.toArray.size:=by rw[U5];omega
     have Z:LL.toArray[i]? =some LL.toArray[i]:=Array.getElem?_eq_getElem D;have hB:=List.all_eq_true.1 V i (List.mem_range.2 D);rw[Z] at hB;simp only[V1,decide_eq_true_eq,Vj,VT,WE,false_or] at hB;have:i∈Region.ready .any LL.toArray b:=mem_ready.2 ⟨I,_,Z,λe he hbd=>by
      have q:=Array.all_eq_true'.1 hB e he;rw[hbd] at q;have h3:e.on<i:=by simpa using q
      have M:=ih e.on h3 e.on rfl Om;have h5:e.on<b.size:=by rw[p.size,U5];omega
      rw[Array.getD_eq_getD_getElem?,Array.getElem?_eq_getElem h5] at M⊢;exact M⟩
     rw[y] at this;cases this
  refine⟨λy=>(by have:=some y i0 i0 rfl W;rw[hu0] at this;cases this),λi x=>?_⟩;have z:i<N:=by
   rcases Vp i N with s | s
   ·exact s
   ·exact(tail_waits hs hc (by rw[U5];exact U) p _ i0 rfl W hu0 i s x).elim
  obtain⟨I,o,ho,m⟩:=mem_ready.1 x;have K:L[i]? =Option.some o:=by rw[←T,V4 z,←Vn];exact ho
  have H: ∀j∈t.D i,j<N∧b.getD j false=true:=by
   intro j r;have s:=List.all_eq_true.1 (List.all_eq_true.1 hD i (List.mem_range.2 z)) j r;rw[ho] at s;simp only[Vj,VT,U7,decide_eq_true_eq] at s;refine⟨s.1,?_⟩;obtain⟨e,he,q⟩:=Array.any_eq_true'.1 s.2;simp only[U7,V1,beq_iff_eq,decide_eq_true_eq] at q;have h3:=m e he q.1;rcases q.2 with M | ⟨M,h5⟩
   ·rw[←M];exact h3
   ·exact hk e.on M h3 j (by simpa using h5)
  have O: ∀i,i<N→∀j∈t.D i,j<N:=by
   intro i x j r;have s:=List.all_eq_true.1 (List.all_eq_true.1 hD i (List.mem_range.2 x)) j r;simp only[U7,decide_eq_true_eq] at s;exact s.1
  have hSi:b.getD i false=false:=by
   have q:i<b.size:=by rw[p.size,U5];omega
   simp [q] at I⊢;exact I
  have A:=sh h (S:=λi=>b.getD i false) (xs:=xs) (w':=w') (k:=i) (o:=o) Om K hSi (λj r=>⟨by have:=(H j r).1;omega,(H j r).2⟩) (λi' hi' hs j r=>⟨by have:=O i' Om j r;omega,hk i' Om hs j r⟩) hI
   (λv B=>wpAnyIn F n P .any LL.toArray Q f (b.setIfInBounds i true) ((bl xs L 0 a).put o.dst v) B) (λv B hI2=>by
    rw[pQ v _ 0 a i o hsl K,Vl];refine AD T G U hs h hF hc hb V hsl hD C c f _ _ B (by have:=vw I N z;omega) Om (p.set x z) ?_ (hI2.congr (λj r=>?_) (λ_ _=>rfl))
    ·intro j r Y j' X;by_cases e:j=i
     ·subst e;exact getD_set_true (H j' X).2
     ·rw[getD_set_ne false (Ne.symm e)] at Y;exact getD_set_true (hk j r Y j' X)
    ·show(if j=i then true else b.getD j false)=_;by_cases e:j=i
     ·subst e;have q:j<b.size:=by rw[p.size,U5];omega
      simp [q]
     ·rw[ALifn e,getD_set_ne false (Ne.symm e)]) hF
  have hwa:Region.wanted o (yielded LL.toArray (bl xs L 0 a).tmps)=Region.wanted o (yielded L.toArray (bl xs L 0 a).tmps):=by
   rw[AA (k:=N),T];have:=List.all_eq_true.1 G o (Wd K);revert this;cases o.guard with
   | none=>exact λh=>h
   | some jb=>exact λh=>h
  unfold wpOpIn;simp only[ho];rw[hwa]
  split
  ·rename_i hw;rw[ALifp hw] at A;exact Oper.wpIn_mono (λa'' B ⟨v,e,h⟩=>by rw[e];exact h) A
  ·rename_i hw;rw[ALifn hw] at A;exact A
def tj(d:Bool)(LL:List Oper)(N:Nat)(D:Nat→List Nat):Bool:=wv N (LL.take N)&&(if d then(Region.sinkB .any LL.toArray N&&decide (N<LL.length))&&Region.chainB .any LL.toArray N&&mj .any LL.toArray N&&mj .any LL.toArray 0&&lC (LL.take N)&&sb .any LL.toArray N D else lE false (LL.take N) D)
theorem HX{w:World}(I:Hid (aF R base t.L0 w))(Le:bt→ah)(r: ∀η,(Va t.m).map (λp=>t.at η p L.length)=(Le η).map some):
  (∀xs w',fS L a t R base (λ_=>true) xs w'→∃η,(∀i,i<L.length→t.Is η i (xs i))∧aF R base (Le η) w')∧fS L a t R base (λ_=>false) (jq L a) w∧bl (jq L a) L 0 a=a:=by
 refine⟨?_,?_,vv _ 0 a λi o d T K=>by
  unfold jq;rw[Vl,T,Wo,K]⟩
 ·intro xs w' ⟨η,c,f,_,s⟩;refine⟨η,λi M=>f i M rfl,?_⟩;have O:(Le η).length=t.m:=by
   have:=ALca WL (r η);simpa using this.symm
  have B: ∀p,p<t.m→t.at η p L.length=(Le η)[p]? :=by
   intro p U;have:=ALca (λl=>l[p]?) (r η);simp only[VU,Wj U,Vj] at this;cases G:(Le η)[p]? with
   | none=>rw[G] at this;cases this
   | some x=>rw[G] at this;simpa using this
  exact⟨c,by rw[O];exact s.congr B⟩
 ·have C: ∀(H:Nat→Wr) (p N:Nat),cY t.L0 H (λ_=>false) p N=t.L0[p]? :=by
   intro H p N
   induction N with
   | zero=>rfl
   | succ N ih=>rw[se (.inl rfl),ih]
  obtain⟨c,m⟩:=I.out;refine⟨λ_=>ab.zero,λp=>if p<t.L0.length then c p else[],λi _ V=>absurd V Bool.false_ne_true,λ_ _ _=>rfl,?_⟩;have e:(λp=>cY t.L0 (t.wr λ_=>ab.zero) (λ_=>false) p L.length)=λp=>t.L0[p]? :=by funext p;exact C _ _ _
  rw[e];have g: ∀p,((p<t.L0.length)∧(if p<t.L0.length then c p else[])=c p)∨(¬p<t.L0.length∧(if p<t.L0.length then c p else[])=[]):=λp=>by
   by_cases h:p<t.L0.length
   ·exact .inl ⟨h,ALifp h⟩
   ·exact .inr ⟨h,ALifn h⟩
  refine⟨λp _ x y=>?_,λp _ y=>?_,λp _ z k=>?_,λp _=>?_,λp q _ _ D z k u v=>?_,λp _ z k=>?_,m.os,m.tape,m.output,m.size,m.far⟩
  ·rcases g p with⟨f,b⟩ | ⟨f,b⟩
   ·rw[b];exact m.sat p f x y
   ·exact absurd (List.getElem?_eq_some_iff.1 y).1 f
  ·rcases g p with⟨f,b⟩ | ⟨f,b⟩
   ·rw[b];exact m.nil p f y
   ·exact b
  ·rcases g p with⟨f,b⟩ | ⟨f,b⟩
   ·rw[b] at k;exact m.obj p f z k
   ·rw[b] at k;simp at k
  ·rcases g p with⟨f,b⟩ | ⟨f,b⟩
   ·rw[b];exact m.inn p f
   ·rw[b];exact List.Pairwise.nil
  ·rcases g p with⟨f,b⟩ | ⟨f,b⟩
   ·rw[b] at k;rcases g q with⟨s,A⟩ | ⟨s,A⟩
    ·rw[A] at v;exact m.nd p q f s D z k u v
    ·rw[A] at v;simp at v
   ·rw[b] at k;simp at k
  ·rcases g p with⟨f,b⟩ | ⟨f,b⟩
   ·rw[b] at k;exact m.lo p f z k
   ·rw[b] at k;simp at k
end
end
section
open Go.RowKit Go.Shelf Go
section
variable {F:Fence} {n:Nat} {P:Program} {R:List Nat} {base:World} {Q:Exit→Act→World→Prop} {S:List It} {sz:Nat} {es:Fe} {L:ah} {Ds:List Nat}
def nn(N:Nat)(S:List It)(a:Sl)(b:ah)(hs:bt→List (Nat×b6 P))(η:bt):List (bY P):=qm ((aw S).take N) a (iW (eK S) ((aw S).take N)) η ((aw S).take N) (hs η) 0 [] (λp=>b[p]?) b.length
def tP(N:Nat)(S:List It)(a:Sl)(b:ah)(m:Nat)(hs:bt→List (Nat×b6 P)):dE:=sj ((aw S).take N) a (iW (eK S) ((aw S).take N)) (pY ((aw S).take N) []) b m (nn N S a b hs)
theorem AE[hF:jI F](hm:P.follows .mixedOrders=true)(N:Nat)(hs:bt→List (Nat×b6 P))(z:bt→Fe)(dr:List Nat)(Le:bt→ah→ah)
  (G: ∀η b W,Fr ⟨sz,z η++ed dr es⟩ Ds b→aF R base (Le η L++Ds.map mk) W→wpListIn F n P (aw S).toArray (cV F n P Q (bP S)) ((aw S).drop N) b W)
  (m: ∀η,((kN S,true),(e4 ((aw S).take N) ⟨sz,es⟩ (tP N S ⟨sz,es⟩ L (mR Le L) hs) η 0 ((aw S).take N) (nn N S ⟨sz,es⟩ L hs η)).map a9.lhs,tj (eK S) (aw S) N (λk=>(iW (eK S) ((aw S).take N)).getD k []),(Va (mR Le L)).map (λp=>(tP N S ⟨sz,es⟩ L (mR Le L) hs).at η p ((aw S).take N).length),(z η).map (λx=>kg ((aw S).take N) ⟨sz,es⟩ (tP N S ⟨sz,es⟩ L (mR Le L) hs) η x.1),lI ((aw S).take N) es (z η) dr)=
   ((true,true),(e4 ((aw S).take N) ⟨sz,es⟩ (tP N S ⟨sz,es⟩ L (mR Le L) hs) η 0 ((aw S).take N) (nn N S ⟨sz,es⟩ L hs η)).map a9.rhs,true,(Le η L).map some,(z η).map (λx=>some x.2),true)):Go F n P R base Q S ⟨sz,es⟩ L Ds:=by
 have K:=ALca (λx=>x.1.1) (m λ_=>ab.zero);have o:=λη=>ALca (λx=>x.2.1) (m η);have f:=ALca (λx=>x.2.2.1) (m λ_=>ab.zero);have q:=λη=>ALca (λx=>x.2.2.2.1) (m η);have r:=λη=>ALca (λx=>x.2.2.2.2.1) (m η);have B:=λη=>ALca (λx=>x.2.2.2.2.2) (m η);simp only at K o f q r B;obtain⟨id,d,Z,hd⟩:=Aq K;subst hd;refine⟨λb W M Y=>dm 1000 S ?_⟩;rw[show c0 1000 S=_ from Z];show(Code.region id (aw S).toArray (eK S)).wpIn F n P (cV F n P Q (bP S)) b W;obtain⟨I,U,V⟩:=Y.seg;obtain⟨c,y⟩: ∃c,(aw S).take N=c:=⟨_,rfl⟩;unfold tP nn at o q r;unfold tj at f;obtain⟨d,D⟩: ∃d,eK S=d:=⟨_,rfl⟩;rw[y] at o f q r B;rw[D] at o f q r⊢;rw[U7] at f;have u:=zz (F:=F) (n:=n) (Q:=cV F n P Q (bP S)) M o;obtain⟨s1,O,T⟩:=HX (a:=b) (t:=sj c ⟨sz,es⟩ (iW d c) (pY c []) L (mR Le L) _) (R:=I) (base:=W) V (λη=>Le η L) q;have g: ∀xs A,fS c b (sj c ⟨sz,es⟩ (iW d c) (pY c []) L (mR Le L) _) I W (λ_=>true) xs A→wpListIn F n P (aw S).toArray (cV F n P Q (bP S)) ((aw S).drop N) (bl xs c 0 b) A:=λxs A X=>by
  obtain⟨η,hx,C⟩:=s1 xs A X;exact G η _ _ (M.region hx (r η) (B η)) (U.out.whole C)
 cases d with
 | false=>
  have h:=f.2;unfold lE at h;simp only[VP,if_false,U7] at h;refine wpIn_region_lit ?_;have s:=AB (LL:=aw S) (N:=N) y f.1 u hF.free h.1 (λk G j hj=>by simpa using List.all_eq_true.1 (List.all_eq_true.1 h.2 k (List.mem_range.2 G)) j hj) g c.length 0 (jq c b) W Om (O.congr (λi _=>by simp) (λ_ _=>rfl));rw[T,List.drop_zero,←y,V9] at s;exact s
 | true=>
  have h:=f.2;simp only[if_true,U7,decide_eq_true_eq] at h;obtain⟨⟨⟨⟨⟨⟨q1,q2⟩,q3⟩,q4⟩,q5⟩,q6⟩,q7⟩:=h;refine wpIn_region_any hm ?_;have H: ∀k,gv (Array.replicate (aw S).length false) k≤k:=by
   intro k
   induction k with
   | zero=>exact Vi _
   | succ k ih=>unfold gv;split<;>omega
  have s:=AD (LL:=aw S) (N:=N) y f.1 q2 q1 u hF.free q3 q4 q5 q6 q7 g _ (aw S).toArray.size (Array.replicate (aw S).length false) (jq c b) W.drew rfl (by rw[U5];have:=H N;omega)
   ⟨by simp,λj oj _ v e _ _=>(by rw[getD_replicate_false] at v;exact Ww v),λt _ w=>(by rw[U5] at w;simp [w])⟩ (λi _ v=>(by rw[getD_replicate_false] at v;exact Ww v))
   (O.drew.congr (λi _=>(getD_replicate_false _ _).symm) (λ_ _=>rfl))
  rw[T] at s;simpa using s
def tm(LL:List Oper)(e:Fe)(o:Oper):Bool:=match o.guard with
 | none=>true
 | some (j,g)=>(match ((LL[j]?).bind (·.dst)).bind (lk e) with
  | some (.bool c)=>c==g
  | _=>false)
def oa(e:Fe):Operand→Bool
 | .tmp i=>(lk e i).isSome
 | _=>true
def nq(P:Program)(sz:Nat)(e:Fe)(o:Oper):Value×List a9:=match o.op with
 | .pick c x y=>(match (⟨sz,e⟩:Sl).ev c with
  | .bool b=>((⟨sz,e⟩:Sl).ev (match b with | true=>x | false=>y),[sB (oa e c&&oa e (match b with | true=>x | false=>y))])
  | _=>(undef,[sB false]))
 | _=>(match pW o.op with
  | some l=>(wi P o (⟨sz,e⟩:Sl).ev,[sB (lB o&&l.all (oa e)),sE (λw=>(execOp (⟨sz,e⟩:Sl).ev o).run P w) (λw=> .ok (.value (wi P o (⟨sz,e⟩:Sl).ev)) w)])
  | none=>(undef,[sB false]))
def h8(P:Program)(LL:List Oper)(sz:Nat):List Oper→Fe→Fe×List a9
 | [],e=>(e,[])
 | o::os,e=>match o.dst with
  | some d=>((h8 P LL sz os ((d,(nq P sz e o).1)::e)).1,sB (tm LL e o)::sB (VI d sz)::((nq P sz e o).2++(h8 P LL sz os ((d,(nq P sz e o).1)::e)).2))
  | none=>([],[sB false])
theorem Fr.put{b:Act}(c:Fr ⟨sz,es⟩ Ds b){d:Nat}(m:d<sz)(v:Value):Fr ⟨sz,(d,v)::es⟩ Ds (b.put (some d) v):=by
 refine⟨(vy _ _ _).trans c.size,λi u h=>?_,(Ao _ _ _).trans c.defers⟩;have k:b.tmps.size=sz:=c.size;show(b.tmps.setIfInBounds d v).getD i undef=u;unfold lk at h
 split at h
 ·rename_i f;cases h;rw[Vh f] at m⊢;simp [k,m]
 ·rename_i f;have g:d≠i:=λe=>by rw[e,VJ] at f;cases f
  have:=c.get i u h;simp only[Array.getD_eq_getD_getElem?] at this⊢;rw[Array.getElem?_setIfInBounds,ALifn g];exact this
theorem mI{b:Act}(c:Fr ⟨sz,es⟩ Ds b){x:Operand}(h:oa es x=true):b.eval x=(⟨sz,es⟩:Sl).ev x:=c.ev λi d=>by subst d;exact h
theorem HY[hF:jI F]{b:Act}{W:World}{o:Oper}{K:Act→World→Prop}{k:Exit→Act→World→Prop}(g:Fr ⟨sz,es⟩ Ds b)(d: ∀q∈(nq P sz es o).2,q.2.1=q.2.2)(r:K (b.put o.dst (nq P sz es o).1) W):o.wpIn F n P b W K k:=by
 refine Oper.wpIn_mono (λm z ⟨v,e,h⟩=>by rw[e];exact h) (oW (K:=λv w=>K (b.put o.dst v) w) (v:=(nq P sz es o).1) hF.free (w':=W) ?_ ?_ r)
 ·unfold nq at d
  split at d
  ·rename_i c x y f;unfold lB;rw[f]
  ·split at d
   ·simp only[U4,U1,or_false,forall_eq_or_imp,forall_eq,sB,U7] at d;exact d.1.1
   ·exact(bu d).elim
 ·unfold nq at d⊢
  split at d
  ·rename_i c x y f;simp only at d⊢
   split at d
   ·rename_i E p;simp only[U4,U1,or_false,forall_eq,sB,U7] at d;have i:=(mI g d.1).trans p;cases E with
    | true=>exact oT f i (mI g d.2)
    | false=>exact oT f i (mI g d.2)
   ·exact(bu d).elim
  ·split at d
   ·rename_i l s;simp only[U4,U1,or_false,forall_eq_or_imp,forall_eq,sE,sB,U7] at d;rw[y9 s λx u=>mI g (List.all_eq_true.1 d.1.2 x u)];exact congrFun d.2 W
   ·exact(bu d).elim
theorem wx{LL:List Oper}{o:Oper}{b:Act}(f:Fr ⟨sz,es⟩ Ds b)(h1:tm LL es o=true):Region.wanted o (yielded LL.toArray b.tmps)=true:=by
 unfold tm at h1;unfold Region.wanted;cases k:o.guard with
 | none=>rfl
 | some s=>
  obtain⟨j,g⟩:=s;rw[k] at h1;simp only at h1⊢
  split at h1
  ·rename_i c i;obtain⟨q,p,m⟩:=Option.bind_eq_some_iff.1 i;have e:=f.get q _ m;have d:q<b.tmps.size:=by
    rcases Vp q b.tmps.size with h | h
    ·exact h
    ·rw[Array.getD_eq_getD_getElem?,Array.getElem?_eq_none h] at e;cases e
   have r:yielded LL.toArray b.tmps j=some c:=by
    unfold yielded;rw[Vn,p];simp only[Wo];rw[Array.getD_eq_getD_getElem?,Array.getElem?_eq_getElem d] at e;rw[Array.getElem?_eq_getElem d];simp only[VT] at e;rw[e]
   rw[r,eq_of_beq h1];simp
  ·cases h1
theorem qw[hF:jI F]{LL:List Oper}{W:World}{i:Exit→Act→World→Prop}: ∀{os:List Oper} {es:Fe} {b:Act},Fr ⟨sz,es⟩ Ds b→(∀q∈(h8 P LL sz os es).2,q.2.1=q.2.2)→(∀k,Fr ⟨sz,(h8 P LL sz os es).1⟩ Ds k→i .normal k W)→wpListIn F n P LL.toArray i os b W
 | [],es,b,e,_,f=>f b e
 | o::os,es,b,e,c,f=>by
  unfold h8 at c f;cases g:o.dst with
  | none=>rw[g] at c;exact(bu c).elim
  | some d=>
   rw[g] at c f;simp only[U4,Vz,forall_eq_or_imp,sB] at c;obtain⟨p,r,m⟩:=c;have s:=wx (LL:=LL) e p;unfold wpListIn;rw[ALifp s];refine HY (F:=F) e (λq h=>m q (.inl h)) ?_;rw[g];exact qw (e.put (VH▸r) _) (λq h=>m q (.inr h)) f
def qx:Nat→List It→Fe→Bool
 | 0,_,_=>false
 | k+1,S,e=>match nf S with
  | .c .ret::_=>true
  | .c (.cond c x y)::S'=>oa e c&&(match (⟨0,e⟩:Sl).ev c with
   | .bool b=>qx k (.c (match b with | true=>x | false=>y)::S') e
   | _=>false)
  | _=>false
theorem wy: ∀(k:Nat) {S:List It} {b:Act} {W:World},qx k S es=true→Fr ⟨sz,es⟩ Ds b→Q .ret b W→cV F n P Q S .normal b W
 | 0,_,_,_,h,_,_=>by cases h
 | k+1,S,b,W,h,i,g=>by
  unfold qx at h;refine dm 1000 S ?_
  split at h
  ·rename_i o e;rw[show c0 1000 S=_ from e];exact wpIn_ret (gz g)
  ·rename_i c x y o e;rw[show c0 1000 S=_ from e];rw[U7] at h;obtain⟨p,d⟩:=h
   split at d
   ·rename_i E q;have m:=(mI i p).trans q;have f:=wy k d i g;cases E with
    | true=>exact wpIn_cond m f
    | false=>exact wpIn_cond m f
   ·cases d
  ·cases h
def qy(P:Program)(fn:Func)(J Jx:Nat→(Nat→Prop)→World→Prop)(KO:av)(W0:World)(N:Nat):Exit→Act→World→Prop:=
 bodyPostM Fence.wide 5 P fn λe b=>(∃v,e= .returned v)∧((∃L,fp J KO W0 L N b)∨∃i,i<N∧∃c,Jx (i+1) c b)
def wz{α:Type}(P:Program)(l:Nat)(J Jx:Nat→(Nat→Prop)→World→Prop)(KO:av)(W0:World)(encs:α→Array Value)(xs:List α):Prop:=
 ∀(L:av) (j:Nat) (x:α) (wr:World),xs[j]? =some x→fp J KO W0 L j wr→YieldAt Fence.wide 4 P l (encs x) wr λe b=>(e= .returned (.bool true)∧fp J KO W0 L (j+1) b)∨(e= .returned (.bool false)∧∃c,Jx (j+1) c b)
section
variable {α:Type} {gf:Nat} {fn:Func} {lb:Array Value} {encs:α→Array Value} {xs:List α} {KO:List av} {J Jx:Nat→(Nat→Prop)→World→Prop} {W0:World} {l j:Nat}
theorem gi(hf:P.funcs[gf]? =some fn)(h: ∀l J Jx W0 R,fZ J→wz P l J Jx KO.flatten W0 encs xs→Hid (fj J KO W0 0 R W0)→Go Fence.wide 5 P R W0 (qy P fn J Jx KO.flatten W0 xs.length) [.c (jO fn)] ⟨fn.ntmps,nk 0 (.func (.yield l) #[] #[]::lb.toList)⟩ (KO.map .c) [])
  (f:(fn.body.isSome,Wm (lb.size+1) fn.ntmps)=(true,true):=by kernel_rfl):eT 5 P gf lb encs xs KO.flatten:=by
 refine Gm λl J Jx W q s k=>?_;obtain⟨R,p,r⟩:=iv.start (iv.zero k.out);obtain⟨c,e⟩:=Option.isSome_iff_exists.1 (ALca (·.1) f);have w:lb.size+1≤fn.ntmps:=VK (ALca (·.2) f);refine callsIn_of_wp_marks hf e trivial ?_ rfl;have g:(#[Value.func (.yield l) #[] #[]]++lb).size=lb.size+1:=by simp;omega
 have d:=(h l J Jx W R q s.out p).out {tmps:=(#[Value.func (.yield l) #[] #[]]++lb)++Array.replicate (fn.ntmps-(#[Value.func (.yield l) #[] #[]]++lb).size) undef,defers:=[]} W ⟨by rw[Array.size_append,g,Array.size_replicate];show _=fn.ntmps;omega,λi v u=>?_,rfl⟩ (by simpa using r.out)
 ·rw[show jO fn=c by unfold jO;rw[e];rfl] at d;exact d
 ·obtain⟨_,b⟩:=qp u;rw[VC] at b;have m:i<lb.size+1:=by have:=(List.getElem?_eq_some_iff.1 b).1;simpa using this
  have o:(#[Value.func (.yield l) #[] #[]]++lb)[i]? =some v:=by rw[←Array.getElem?_toList];simpa using b
  rw[Array.getD_eq_getD_getElem?,Array.getElem?_append_left (by rw[g];exact m),o];rfl
theorem gG{XO:av}(hf:P.funcs[gf]? =some fn)(h: ∀l J Jx W0 R,fZ J→wz P l J Jx KO.flatten W0 encs xs→Hid (fj J KO W0 0 R W0)→Go Fence.wide 5 P R W0 (qy P fn J Jx KO.flatten W0 xs.length) [.c (jO fn)] ⟨fn.ntmps,nk 0 (.func (.yield l) #[] #[]::lb.toList)⟩ (KO.map .c++[aB.c XO]) [])
  (f:(fn.body.isSome,Wm (lb.size+1) fn.ntmps)=(true,true):=by kernel_rfl):o1 5 P gf lb encs xs KO.flatten XO:=by
 refine Gn λl J Jx W q s k=>?_;obtain⟨R,p,r⟩:=iv.start (LE:=[aB.c XO]) ⟨[XO],⟨rfl,trivial⟩,by simpa using k.out⟩;obtain⟨c,e⟩:=Option.isSome_iff_exists.1 (ALca (·.1) f);have w:lb.size+1≤fn.ntmps:=VK (ALca (·.2) f);refine callsIn_of_wp_marks hf e trivial ?_ rfl;have g:(#[Value.func (.yield l) #[] #[]]++lb).size=lb.size+1:=by simp;omega
 have d:=(h l J Jx W R q s.out p).out {tmps:=(#[Value.func (.yield l) #[] #[]]++lb)++Array.replicate (fn.ntmps-(#[Value.func (.yield l) #[] #[]]++lb).size) undef,defers:=[]} W ⟨by rw[Array.size_append,g,Array.size_replicate];show _=fn.ntmps;omega,λi v u=>?_,rfl⟩ (by simpa using r.out)
 ·rw[show jO fn=c by unfold jO;rw[e];rfl] at d;exact d
 ·obtain⟨_,b⟩:=qp u;rw[VC] at b;have m:i<lb.size+1:=by have:=(List.getElem?_eq_some_iff.1 b).1;simpa using this
  have o:(#[Value.func (.yield l) #[] #[]]++lb)[i]? =some v:=by rw[←Array.getElem?_toList];simpa using b
  rw[Array.getD_eq_getD_getElem?,Array.getElem?_append_left (by rw[g];exact m),o];rfl
theorem wA(W:World):aF (bJ ([]:List av).flatten) W [] W:=aF.start (cs:=[]) trivial ⟨λ_ h=>by simp at h,List.Pairwise.nil⟩
theorem AF{N:Nat}{b:Act}{W:World}{KO:av}(c:fn.results.toList=[])(e:b.defers=[])(h:(∃L,fp J KO W0 L N W)∨∃i,i<N∧∃d,Jx (i+1) d W):qy P fn J Jx KO W0 N .ret b W:=by
 show LeavesInM Fence.wide 5 P fn b.tmps _ b.defers .returning W;rw[e];exact Gk (Lib.hid (wA W)) [] (by rw[c];rfl) λ_=>⟨⟨_,rfl⟩,h⟩
def AG(S:List It)(N:Nat):Option Oper:=(aw S)[N]?
def iB(S:List It)(N:Nat):Nat:=match AG S N with | some o=>o.dst.getD 0 | none=>0
def tn(S:List It)(N l sz:Nat)(e:Fe)(vs:List Value):Bool×Option (List Value)×Option Value:=match AG S N with
 | some o=>(match o.op with
  | .call ⟨.value x,b,_⟩=>(tm (aw S) e o&&oa e x&&b.toList.all (oa e)&&o.dst.isSome&&VI (o.dst.getD 0) sz,some (b.toList.map (⟨sz,e⟩:Sl).ev),some ((⟨sz,e⟩:Sl).ev x))
  | _=>(false,none,none))
 | none=>(false,none,none)
theorem iy[hR:Rt Q (qy P fn J Jx KO.flatten W0 xs.length)](hJ:fZ J)(hY:wz P l J Jx KO.flatten W0 encs xs)(hI:Hid (fj J KO W0 j R base))(N:Nat)(hs:bt→List (Nat×b6 P))(h:bt→Fe)(dr:List Nat)(Le:bt→ah→ah)(LE:bt→ah)(ps:List Nat){x:α}(hx:xs[j]? =some x)
  (hk: ∀η H r,Hid (fj J KO W0 (j+1) H r)→Go Fence.wide 5 P H r Q (bP S) ⟨sz,(h8 P (aw S) sz ((aw S).drop (N+1)) ((iB S N,.bool true)::(h η++ed dr es))).1⟩ (KO.map .c++LE η) [])
  (he: ∀η,((kN S,true),(e4 ((aw S).take N) ⟨sz,es⟩ (tP N S ⟨sz,es⟩ L (mR Le L) hs) η 0 ((aw S).take N) (nn N S ⟨sz,es⟩ L hs η)).map a9.lhs,tj (eK S) (aw S) N (λk=>(iW (eK S) ((aw S).take N)).getD k []),(Va (mR Le L)).map (λp=>(tP N S ⟨sz,es⟩ L (mR Le L) hs).at η p ((aw S).take N).length),(h η).map (λx=>kg ((aw S).take N) ⟨sz,es⟩ (tP N S ⟨sz,es⟩ L (mR Le L) hs) η x.1),lI ((aw S).take N) es (h η) dr)=
   ((true,true),(e4 ((aw S).take N) ⟨sz,es⟩ (tP N S ⟨sz,es⟩ L (mR Le L) hs) η 0 ((aw S).take N) (nn N S ⟨sz,es⟩ L hs η)).map a9.rhs,true,(Le η L).map some,(h η).map (λx=>some x.2),true):=by intro _;kernel_rfl)
  (K: ∀η,(tn S N l sz (h η++ed dr es) (encs x).toList,(h8 P (aw S) sz ((aw S).drop (N+1)) ((iB S N,.bool true)::(h η++ed dr es))).2.map a9.lhs,(h8 P (aw S) sz ((aw S).drop (N+1)) ((iB S N,.bool false)::(h η++ed dr es))).2.map a9.lhs,qx 10 (bP S) (h8 P (aw S) sz ((aw S).drop (N+1)) ((iB S N,.bool false)::(h η++ed dr es))).1)=
   ((true,some (encs x).toList,some (.func (.yield l) #[] #[])),(h8 P (aw S) sz ((aw S).drop (N+1)) ((iB S N,.bool true)::(h η++ed dr es))).2.map a9.rhs,(h8 P (aw S) sz ((aw S).drop (N+1)) ((iB S N,.bool false)::(h η++ed dr es))).2.map a9.rhs,true):=by intro _;kernel_rfl)
  (hp: ∀η,(cZ (ps.map λp=>[p]).flatten,(ps.map λp=>[p]).map λg=>g.map λp=>(Le η L)[p]?)=(true,((KO.map aB.c++LE η).map λx=>[x]).map λN=>N.map some):=by intro _;kernel_rfl) (D:fn.results.toList=[]:=by kernel_rfl) (hm:P.follows .mixedOrders=true:=by kernel_rfl):Go Fence.wide 5 P R base Q S ⟨sz,es⟩ L []:=by
 refine AE hm N hs h dr Le (λη b W A hO=>?_) he;have f:=ALca (λx=>x.1) (K η);have u:=ALca (λx=>x.2.1) (K η);have v:=ALca (λx=>x.2.2.1) (K η);have w:=ALca (λx=>x.2.2.2) (K η);simp only at f u v w;have hO':aF R base (KO.map .c++LE η) W:=aF.pick (by simpa using hO) ps _ (hp η);obtain⟨ds,hds,hIS⟩:=fj.step hI hJ hO';obtain⟨V,z,O,U,G,m⟩:=hY ds.flatten j x W hx hIS;unfold tn at f
 split at f
 ·rename_i o ho
  split at f
  ·rename_i xo M ats C;simp only[Prod.mk.injEq,U7,Option.some.injEq] at f;obtain⟨⟨⟨⟨⟨g1,g2⟩,g3⟩,g4⟩,I⟩,g6,g7⟩:=f;obtain⟨d,B⟩:=Option.isSome_iff_exists.1 g4;have y:iB S N=d:=by unfold iB;rw[ho];simp [B]
   have hdr:(aw S).drop N=o::(aw S).drop (N+1):=by
    obtain⟨hlt,e⟩:=List.getElem?_eq_some_iff.1 (show(aw S)[N]? =some o from ho);rw[V3 hlt,e]
   rw[hdr];have hw:Region.wanted o (yielded (aw S).toArray b.tmps)=true:=wx A g1;unfold wpListIn;rw[ALifp hw];have hxo:b.eval xo= .func (.yield l) #[] #[]:=(mI A g2).trans g7;have hag:M.map b.eval=encs x:=by
    apply Array.toList_inj.1;rw[Array.toList_map,←g6];exact VO λq hq=>mI A (List.all_eq_true.1 g3 q hq)
   have s:(execOp b.eval o).run P W= .ok (.round l V z O U) W:=by
    unfold execOp;simp only[C,resolve,hxo,Deferred.ofValue,Vq,Vr,Vb,invoke];rw[hag];simpa using G
   unfold Oper.wpIn;refine⟨λ_ _=>trivial,?_⟩;rw[Oper.semAt_plain Fence.wide _ o (λc hc=>by rw[C] at hc;cases hc),s,Oper.uponIn_round];refine⟨λ_=>by omega,m.mono ?_⟩;rintro e r (⟨rfl,X⟩ | ⟨rfl,O',X⟩)
   ·rw[y] at u;obtain⟨H,Z,hO3⟩:=iv.start (J:=J) (Os:=KO) (W0:=W0) (LE:=LE η) (j:=j+1) ⟨ds,hds,X⟩;have h4:=hk η H r Z;rw[y] at h4;show wpListIn Fence.wide 5 P (aw S).toArray _ ((aw S).drop (N+1)) (b.put o.dst (.bool true)) r;rw[B];have Y:d<sz:=by rw[B] at I;exact VH▸I
    exact qw (A.put Y _) (a9.all u) λT i=>h4.out T r i (by simpa using hO3.out)
   ·rw[y] at v w;show wpListIn Fence.wide 5 P (aw S).toArray _ ((aw S).drop (N+1)) (b.put o.dst (.bool false)) r;rw[B];have Y:d<sz:=by rw[B] at I;exact VH▸I
    exact qw (A.put Y _) (a9.all v) λT i=>wy 10 w i (hR.out T r (AF D (by rw[i.defers];rfl) (.inr ⟨j,(List.getElem?_eq_some_iff.1 hx).1,O',X⟩)))
  ·simp at f
 ·simp at f
theorem kk(k:fZ J)(i:Hid (fj J KO W0 j R base))(r:j=xs.length)(LE:ah)(f:List Nat)
  (hp:(cZ (f.map λp=>[p]).flatten,(f.map λp=>[p]).map λg=>g.map λp=>L[p]?)=(true,((KO.map aB.c++LE).map λx=>[x]).map λN=>N.map some):=by kernel_rfl) (d:fn.results.toList=[]:=by kernel_rfl) (o:(nf S).isEmpty=true:=by kernel_rfl):Go Fence.wide 5 P R base (qy P fn J Jx KO.flatten W0 xs.length) S ⟨sz,es⟩ L []:=by
 refine⟨λb W q m=>dm 1000 S ?_⟩;have e:aF R base (KO.map .c++LE) W:=aF.pick (by simpa using m) f _ hp;have h:=iv.leaf (fj.step i k e);rw[show c0 1000 S=[] from List.isEmpty_iff.1 o];exact AF d (by rw[q.defers];rfl) (.inl (by rw[←r];exact h))
end
section
variable {J:Nat→(Nat→Prop)→World→Prop} {KO:List av} {W0:World}
def AH(J:Nat→(Nat→Prop)→World→Prop)(KO:List av)(W0:World)(I:Nat→Prop)(e:Nat→Fe)(d:Nat→ah)(m c:Nat→Nat)(sz:Nat)(st:Fe)(i:Nat)(b:Act)(W:World):Prop:=∃(k:Nat) (R:List Nat) (base:World),I k∧Hid (fj J KO W0 (c k) R base)∧m k<i∧Fr ⟨sz,e k++st⟩ [] b∧aF R base (d k) W
def tp(P:Program)(J:Nat→(Nat→Prop)→World→Prop)(KO:List av)(W0:World)(Q:Exit→Act→World→Prop)(S:List It)(I:Nat→Prop)(e:Nat→Fe)(d:Nat→ah)(m c:Nat→Nat)(sz:Nat)(st:Fe)(i:Nat):Exit→Act→World→Prop
 | .normal,b,W=>AH J KO W0 I e d m c sz st i b W
 | x,b,W=>cV Fence.wide 5 P Q S x b W
theorem jv(I:Nat→Prop)(e:Nat→Fe)(p:Nat→ah→ah)(m c:Nat→Nat)(f:Nat)(h0:I f)(z:Hid (fj J KO W0 (c f) R base))(r:((e f).map λx=>lk es x.1)=(e f).map λx=>some x.2)(A:L=p f L)
  (M: ∀(k:Nat) (q:List Nat) (d:World),I k→Hid (fj J KO W0 (c k) q d)→Go Fence.wide 5 P q d (tp P J KO W0 Q (bP S) I e (λk=>p k L) m c sz (hZ S es) (m k)) [.c (fC S)] ⟨sz,e k++hZ S es⟩ (p k L) []) (B:mD S=true:=by kernel_rfl):Go Fence.wide 5 P R base Q S ⟨sz,es⟩ L []:=by
 classical
 refine⟨λb W C s=>dm 1000 S ?_⟩;rw[show c0 1000 S=_ from s4 B];show(Code.loop (fC S)).wpIn Fence.wide 5 P (cV Fence.wide 5 P Q (bP S)) b W
 let g:Nat→Act→World→Prop:=AH J KO W0 I e (λk=>p k L) m c sz (hZ S es)
 let μ:Act→World→Nat:=λb W=>if h: ∃j,g j b W then VD (ki h) else 0
 have w: ∀b W,(∃j,g j b W)→g (μ b W) b W∧∀i,i<μ b W→¬g i b W:=by
  intro b W h;have e:μ b W=VD (ki h):=dif_pos h;rw[e];exact V2 (ki h)
 refine wpIn_loop (λb W=>∃j,g j b W) μ ⟨m f+1,f,R,base,h0,z,WA _,Fr.stay (a:=⟨sz,es⟩) C r,by have h:=s;rw[A] at h;simpa using h⟩ λb W o=>?_;obtain⟨k,q,d,G,y,K,D,s⟩:=(w b W o).1;refine wpIn_mono (show(fC S).wpIn Fence.wide 5 P _ b W from(M k q d G y).out b W D (by simpa using s)) λe v u r=>?_;cases e with
 | normal=>
  have o:g (m k) v u:=r;exact⟨⟨_,o⟩,VS (VY λH=>(w v u ⟨_,o⟩).2 _ H o) K⟩
 | _=>exact r
theorem ia{I:Nat→Prop}{e:Nat→Fe}{h:Nat→ah}{m c:Nat→Nat}{o:List It}{d:Nat}{st:Fe}{i:Nat}(k:Nat)(q:I k)(hC:Hid (fj J KO W0 (c k) R base))(y:m k<i)(w:((e k++st).map λx=>lk es x.1)=(e k++st).map λx=>some x.2)(f:List Nat)(r:(cZ (f.map λp=>[p]).flatten,(f.map λp=>[p]).map λg=>g.map λp=>L[p]?)=(true,((h k).map λx=>[x]).map λN=>N.map some))(u:(nf S).isEmpty=true:=by kernel_rfl)(z:sz=d:=by rfl):
  Go Fence.wide 5 P R base (tp P J KO W0 Q o I e h m c d st i) S ⟨sz,es⟩ L []:=by
 subst z;refine⟨λb W v s=>dm 1000 S ?_⟩;rw[show c0 1000 S=[] from List.isEmpty_iff.1 u];exact⟨k,R,base,q,hC,y,Fr.told (a:=⟨sz,es⟩) v w,aF.pick (by simpa using s) f _ r⟩
theorem jw{I:Nat→Prop}{e:Nat→Fe}{k:Nat→ah}{m c:Nat→Nat}{d:List It}{f:Nat}{st:Fe}{i:Nat}(h:Go Fence.wide 5 P R base Q ((iw S d).getD []) ⟨sz,es⟩ L [])(p:(iw S d).isSome=true:=by kernel_rfl):Go Fence.wide 5 P R base (tp P J KO W0 Q d I e k m c f st i) S ⟨sz,es⟩ L []:=by
 obtain⟨r,g⟩:=Option.isSome_iff_exists.1 p;rw[g] at h;exact⟨λb W q o=>s5 g (h.out b W q o) λ_=>rfl⟩
instance {P:Program} {J:Nat→(Nat→Prop)→World→Prop} {KO:List av} {W0:World} {Q Q0:Exit→Act→World→Prop} {I:Nat→Prop} {e:Nat→Fe} {LI:Nat→ah} {m c:Nat→Nat} {S0:List It} {sz0:Nat} {st:Fe} {i:Nat} [h:Rt Q Q0]:Rt (tp P J KO W0 Q S0 I e LI m c sz0 st i) Q0:=⟨λb W hq=>gz (S:=S0) (h.out b W hq)⟩
def UX(J:Nat→(Nat→Prop)→World→Prop)(KO:List av)(W0:World)(I:Nat→Value→Prop)(e:Nat→Value→Fe)(d:Nat→Value→ah)(m c:Nat→Value→Nat)(sz:Nat)(st:Fe)(i:Nat)(b:Act)(W:World):Prop:=∃(k:Nat) (u:Value) (R:List Nat) (base:World),I k u∧Hid (fj J KO W0 (c k u) R base)∧m k u<i∧Fr ⟨sz,e k u++st⟩ [] b∧aF R base (d k u) W
def UY(P:Program)(J:Nat→(Nat→Prop)→World→Prop)(KO:List av)(W0:World)(Q:Exit→Act→World→Prop)(S:List It)(I:Nat→Value→Prop)(e:Nat→Value→Fe)(d:Nat→Value→ah)(m c:Nat→Value→Nat)(sz:Nat)(st:Fe)(i:Nat):Exit→Act→World→Prop
 | .normal,b,W=>UX J KO W0 I e d m c sz st i b W
 | x,b,W=>cV Fence.wide 5 P Q S x b W
instance {P:Program} {J:Nat→(Nat→Prop)→World→Prop} {KO:List av} {W0:World} {Q Q0:Exit→Act→World→Prop} {I:Nat→Value→Prop} {e:Nat→Value→Fe} {LI:Nat→Value→ah} {m c:Nat→Value→Nat} {S0:List It} {sz0:Nat} {st:Fe} {i:Nat} [h:Rt Q Q0]:Rt (UY P J KO W0 Q S0 I e LI m c sz0 st i) Q0:=⟨λb W hq=>gz (S:=S0) (h.out b W hq)⟩
end
end
end
section
open Go.RowKit Go.Shelf Go
theorem fu{P:Program}{T:TypeId}{x y:Operand}{w:World}{yk:IntKind}{a:Int}(n:Nat)(b:n≤64)(h0: -9223372036854775808≤a*2^n)(h1:a*2^n≤9223372036854775807):(au .shl T x y (.int .i64 a) (.int yk (n:Int))).run P w= .ok (.int .i64 (a*2^n)) w:=by
 have e:IntKind.i64.wrap (a*2^n)=a*2^n:=IntWalk.i64_in _ Om;unfold au;simp only[Vq,eqGuard_shl,Vr,Vb,binOp_shl,shift_shl_i64 _ _ _ (Wt n) Om,Vu,e]
theorem HZ(a b k:Nat)(g:a%2^k=0)(j:b<2^k)(h:a+b<9223372036854775808):bits .or .i64 (a:Int) (b:Int)=((a+b:Nat):Int):=by
 have d: ∀c:Nat,c<9223372036854775808→(BitVec.ofInt 64 (c:Int)).toNat=c:=by
  intro c l;rw[BitVec.ofInt_natCast,BitVec.toNat_ofNat];exact Vc Om
 show IntKind.i64.wrap ((BitVec.ofInt 64 (a:Int)||| BitVec.ofInt 64 (b:Int)).toNat:Int)=_;rw[BitVec.toNat_or,d a Om,d b Om];have e:a||| b=a+b:=by
  have f:=Nat.div_add_mod a (2^k);rw[g,VE] at f;rw[←f];exact(Nat.two_pow_add_eq_or_of_lt j (a/2^k)).symm
 rw[e];exact IntWalk.i64_in _ Om
theorem qz{P:Program}{T:TypeId}{x y:Operand}{w:World}{a b:Int}(k M:Nat)(d:2^k=M)(h0:0≤a)(f:a%(M:Int)=0)(c:0≤b)(g:b<(M:Int))(h:a+b<9223372036854775808):(au .or T x y (.int .i64 a) (.int .i64 b)).run P w= .ok (.int .i64 (a+b)) w:=by
 obtain⟨m,rfl⟩:=V6 h0;obtain⟨n,rfl⟩:=V6 c;have e:=HZ m n k (by rw[d];omega) (by rw[d];omega) Om;rw[show((m:Int)+(n:Int))=((m+n:Nat):Int) by omega,←e];rfl
theorem H0(x:Int)(k:Nat)(c:k≤64):(((x%18446744073709551616).toNat%2^k:Nat):Int)=x%((2^k:Nat):Int):=by
 have b:((2^k:Nat):Int)∣18446744073709551616:=by
  have h:2^k∣18446744073709551616:=(show(18446744073709551616:Nat)=2^64 by decide)▸Nat.pow_dvd_pow 2 c;exact Int.natCast_dvd_natCast.2 h
 rw[WB,Int.toNat_of_nonneg (WG _ Dc),Int.emod_emod_of_dvd _ b]
theorem H2(x:Int)(k m:Nat)(b:2^k=m)(d:k≤62)(h1:0<m)(h2:m≤4611686018427387904):bits .and .i64 x ((m-1:Nat):Int)=x%(m:Int):=by
 show IntKind.i64.wrap ((BitVec.ofInt 64 x&&& BitVec.ofInt 64 ((m-1:Nat):Int)).toNat:Int)=_;have e:(BitVec.ofInt 64 ((m-1:Nat):Int)).toNat=2^k-1:=by
  rw[BitVec.ofInt_natCast,BitVec.toNat_ofNat,b];exact Vc Om
 have c:=H0 x k Om;rw[b] at c;rw[BitVec.toNat_and,e,Nat.and_two_pow_sub_one_eq_mod,BitVec.toNat_ofInt,b];rw[show(x%((2^64:Nat):Int))=x%18446744073709551616 from rfl,c];have f:0≤x%(m:Int):=WG _ Om;have g:x%(m:Int)<(m:Int):=Int.emod_lt_of_pos _ Om;exact IntWalk.i64_in _ Om
theorem lJ{P:Program}{T:TypeId}{y z:Operand}{w:World}(x:Int)(k m:Nat)(c:2^k=m)(b:k≤62)(h1:0<m)(h2:m≤4611686018427387904):(au .and T y z (.int .i64 x) (.int .i64 ((m-1:Nat):Int))).run P w= .ok (.int .i64 (x%(m:Int))) w:=by
 rw[←H2 x k m c b h1 h2];rfl
section
variable {P:Program} {T:TypeId} {x y:Operand} {w:World}
theorem AJ{a b:Nat}(c:a<18446744073709551616)(d:b<18446744073709551616):(au .and T x y (.int .u64 (a:Int)) (.int .u64 (b:Int))).run P w= .ok (.int .u64 ((a&&& b:Nat):Int)) w:=by
 rw[←u64_and_nat a b c d];rfl
theorem H3{a b:Nat}(c:a<4294967296)(d:b<4294967296):(au .and T x y (.int .u32 (a:Int)) (.int .u32 (b:Int))).run P w= .ok (.int .u32 ((a&&& b:Nat):Int)) w:=by
 rw[←u32_and_nat a b c d];rfl
theorem H4{a b:Nat}(c:a<256)(d:b<256):(au .and T x y (.int .u8 (a:Int)) (.int .u8 (b:Int))).run P w= .ok (.int .u8 ((a&&& b:Nat):Int)) w:=by
 rw[←u8_and_nat a b c d];rfl
theorem H5{a b:Nat}(h:b≤a)(d:a<18446744073709551616):(au .sub T x y (.int .u64 (a:Int)) (.int .u64 (b:Int))).run P w= .ok (.int .u64 ((a-b:Nat):Int)) w:=by
 have c:IntKind.u64.wrap ((a:Int)-b)=((a-b:Nat):Int):=by rw[IntKind.wrap_u64];omega
 rw[←c];rfl
theorem H6{a b:Nat}(h:b≤a)(d:a<4294967296):(au .sub T x y (.int .u32 (a:Int)) (.int .u32 (b:Int))).run P w= .ok (.int .u32 ((a-b:Nat):Int)) w:=by
 have c:IntKind.u32.wrap ((a:Int)-b)=((a-b:Nat):Int):=by rw[Wk];omega
 rw[←c];rfl
theorem H7{a b:Nat}(h:b≤a)(d:a<256):(au .sub T x y (.int .u8 (a:Int)) (.int .u8 (b:Int))).run P w= .ok (.int .u8 ((a-b:Nat):Int)) w:=by
 have c:IntKind.u8.wrap ((a:Int)-b)=((a-b:Nat):Int):=by rw[Wp];omega
 rw[←c];rfl
theorem AK{a:Nat}(c:a<18446744073709551616):(au .and T x y (.int .u64 (a:Int)) (.int .u64 1)).run P w= .ok (.int .u64 ((a%2:Nat):Int)) w:=by
 have h:=AJ (P:=P) (T:=T) (x:=x) (y:=y) (w:=w) (a:=a) (b:=1) c Om;rwa [Nat.and_one_is_mod] at h
theorem AM{a:Nat}:(au .and T x y (.int .i64 (a:Int)) (.int .i64 1)).run P w= .ok (.int .i64 ((a%2:Nat):Int)) w:=by
 have h:=lJ (P:=P) (T:=T) (y:=x) (z:=y) (w:=w) (a:Int) 1 2 Dc Dc Dc Dc;exact h
end
section
variable {P:Program} {T:TypeId} {x y:Operand} {w:World}
theorem tq{yk:IntKind}{a:UInt8}(n:Nat)(b:n≤8):(au .shl T x y (.int .u8 (a.toNat:Int)) (.int yk (n:Int))).run P w= .ok (.int .u8 ((UInt8.ofNat (a.toNat*2^n)).toNat:Int)) w:=by
 have e:IntKind.u8.wrap ((a.toNat:Int)*2^n)=((UInt8.ofNat (a.toNat*2^n)).toNat:Int):=by
  rw[VB,Wp,WB,Int.natCast_mul,Int.natCast_pow];rfl
 rw[←e];generalize (a.toNat:Int)=A;unfold au;simp only[Vq,eqGuard_shl,Vr,Vb,binOp_shl,shift_shl_u8 _ _ _ (Wt n) Om,Vu]
end
theorem kQ{P:Program}{T:TypeId}{x y:Operand}{w:World}{a b:Nat}(h:b≤a)(c:a≤9223372036854775807):(au .sub T x y (.int .i64 (a:Int)) (.int .i64 (b:Int))).run P w= .ok (.int .i64 ((a-b:Nat):Int)) w:=by
 rw[show((a-b:Nat):Int)=(a:Int)-(b:Int) by omega];exact pU Om Om
section
variable {A R R' C cs cs':List Value} {a i:Nat} {v:Value}
theorem H8(e:cs=A++(R++C))(hA:A.length=a)(h:R.toArray[i]? =some v):cs.toArray[a+i*1]? =some v:=by
 rw[Vn] at h⊢;rw[e,Vo,Ve Om,show a+i-A.length=i by omega,VF (List.getElem?_eq_some_iff.1 h).1];exact h
theorem H9(e:cs=A++(R++C))(hA:A.length=a)(b:i<R.toArray.size):a+i*1<cs.toArray.size:=by
 rw[U5] at b⊢;rw[e,U3,U3];omega
theorem Ia(e:cs=A++(R++C))(c:cs'=A++(R'++C))(hA:A.length=a)(b:i<R.toArray.size)(h:R.toArray.setIfInBounds i v=R'.toArray):cs.toArray.setIfInBounds (a+i*1) v=cs'.toArray:=by
 rw[U5] at b;rw[List.setIfInBounds_toArray] at h⊢;have d:R.set i v=R':=ALca Array.toList h;rw[e,c,Vo,List.set_append_right _ _ Om,show a+i-A.length=i by omega,List.set_append_left _ _ b,d]
end
theorem jP{n:Nat}{xs:List UInt8}:(rB n xs).length=n:=(nZ (k:=1) λ_=>rfl).trans (Vo n)
theorem Ib{P:Program}{T:TypeId}{w:World}{K:IntKind}{g off k s N:Nat}(b:(P.underlying T,P.arrayLen T,ir P (P.elem T))=(some (.array N (P.elem T)),N,some s))(d:k<N):(Instr.indexAt T (.pointer (some ⟨g,off,none⟩)) (.int K (k:Int))).run P w= .ok (.pointer (some ⟨g,off+k*s,none⟩)) w:=by
 have c:P.arrayLen T=N:=ALca (·.2.1) b;rw[run_indexAt_array w T _ K (k:Int) (by rw[c];exact ALca (·.1) b),c,ALifp Om,ng (ALca (·.2.2) b),Vb,Vu,add_lit]
section
variable {P:Program} {A R R' C cs':List Value} {a:Nat} {v:Value}
def iA(T:TypeId)(K:IntKind)(g off N s k:Nat)(c:k<N:=by omega)(b:(P.underlying T,P.arrayLen T,ir P (P.elem T))=(some (.array N (P.elem T)),N,some s):=by kernel_rfl):b6 P:= .t (tv (Instr.indexAt T (.pointer (some ⟨g,off,none⟩)) (.int K (k:Int))) λ_=>Ib b c)
def rM(p g i:Nat)(t:TypeId)(cs:List Value)(e:cs=A++(R++C))(hA:A.length=a)(h:R.toArray[i]? =some v):b6 P:= .m (lt p g (a+i*1) cs.toArray t (H8 e hA h))
def wM(p g i:Nat)(t:TypeId)(v:Value)(cs cs':List Value)(e:cs=A++(R++C))(c:cs'=A++(R'++C))(hA:A.length=a)(b:i<R.toArray.size)(h:R.toArray.setIfInBounds i v=R'.toArray):b6 P:= .m (sw p g (a+i*1) t v cs.toArray cs'.toArray (Ia e c hA b h) (H9 e hA b))
def rD(p g i:Nat)(t:TypeId)(R:List Value)(h:R.toArray[i]? =some v):b6 P:= .m (lt p g (0+i*1) R.toArray t (by rw[Vl,Vo];exact h))
def wD(p g i:Nat)(t:TypeId)(v:Value)(R R':List Value)(b:i<R.toArray.size)(h:R.toArray.setIfInBounds i v=R'.toArray):b6 P:= .m (sw p g (0+i*1) t v R.toArray R'.toArray (by rw[Vl,Vo];exact h) (by rw[Vl,Vo];exact b))
end
def aS{P:Program}(T:TypeId)(g N s:Nat)(h:0<N:=by decide)(b:(P.underlying T,P.arrayLen T,ir P (P.elem T))=(some (.array N (P.elem T)),N,some s):=by kernel_rfl):b6 P:= .t (tv (Instr.sliceAt T (.pointer (some ⟨g,0,none⟩)) none none none) λ_=>GC b h)
def aL{P:Program}(T:TypeId)(g N s l:Nat)(h:l<N:=by omega)(b:(P.underlying T,P.arrayLen T,ir P (P.elem T))=(some (.array N (P.elem T)),N,some s):=by kernel_rfl):b6 P:= .t (tv (Instr.sliceAt T (.pointer (some ⟨g,0,none⟩)) (some (.int .i64 (l:Int))) none none) λ_=>GB b h)
def aM{P:Program}(T:TypeId)(g N s l m:Nat)(h:l+m≤N:=by omega)(h1:l<N:=by omega)(b:(P.underlying T,P.arrayLen T,ir P (P.elem T))=(some (.array N (P.elem T)),N,some s):=by kernel_rfl):b6 P:= .t (tv (Instr.sliceAt T (.pointer (some ⟨g,0,none⟩)) (some (.int .i64 (l:Int))) (some (.int .i64 ((l+m:Nat):Int))) none) λ_=>GW b h h1)
end
section
open Go.RowKit Go.Shelf Go
section
variable {α:Type} {P:Program} {en:α→List Value} {z:List Value} {T:TypeId} {v:Value} {xs:List α} {bs:av}
theorem aJ.take{k:Nat}(G: ∀y,(en y).length=k)(h:aJ en v xs bs){m:Nat}(H:m≤xs.length):aJ en (gx v 0 m k) (xs.take m) bs:=by
 obtain⟨s,a,r,rfl⟩:=h;have d:(xs.take m).length=m:=by rw[Vf];omega
 have C: ∃f,gx (.slice a xs.length (xs.length+r)) 0 m k= .slice f m (xs.length+r)∧(∀g b,a=some ⟨g,b,none⟩→f=some ⟨g,b,none⟩):=by
  simp only[gx,sliced,VC,Nat.zero_mul];refine⟨_,rfl,λg b B=>?_⟩;subst B
  split
  ·rfl
  ·simp only[Vj];unfold Addr.add
   split<;>simp_all
 obtain⟨f,n,o⟩:=C;rw[n];refine⟨?_,f,xs.length-m+r,by rw[d];congr 1;omega⟩;by_cases e:m=0
 ·subst e;exact .inl ⟨WH,_,_,rfl⟩
 ·obtain⟨g,b,l,t,p,c,u,w,x⟩:=s.some (i:=0) Om;injection u with q D F;refine .inr ⟨g,b,l,t,p,_,by rw[o _ _ q,d],w,?_⟩;have A:aj en xs=aj en (xs.take m)++aj en (xs.drop m):=by rw[←jL,V9]
  have j:=ALca (λy=>y.take (aj en (xs.take m)).length) x;rw[List.take_take,A,U3,WI (Nat.le_add_right _ _),List.take_left] at j;exact j
def wB(P:Program)(p:Nat)(x:aB)(v:Value)(m s:Nat)(o:Oper)(ρ:Operand→Value)(_:cb):MD:=match o.op with
 | .slice T a none (some b) none=>⟨[(p,x)],λ_=>[],[sE (ρ a) v,sE (ρ b) (.int .i64 (m:Int)),sE (P.underlying T,ir P (P.elem T)) (some (.slice (P.elem T)),some s)]⟩
 | _=>MD.bad
theorem Ic(p:Nat)(x:aB)(m s:Nat)(h: ∀bs,x.sat bs→aJ en v xs bs)(u:m≤xs.length):MD.ok P (λ_=>gx v 0 m s) (wB P p x v m s) []:=by
 intro o ρ C d w c g;unfold wB at d g⊢
 split at d
 ·rename_i f a b e;simp only[e] at g⊢;simp only[U4,U1,or_false,forall_eq_or_imp,forall_eq,sE] at d;obtain⟨n,q,j⟩:=d;obtain⟨l,h2⟩:=g.ent;obtain⟨i,r,rfl⟩:=(h _ l).2;have k:P.underlying f=some (.slice (P.elem f)):=ALca (·.1) j;have t:(Instr.sliceAt f (.slice i xs.length (xs.length+r)) none (some (.int .i64 (m:Int))) none).run P w= .ok (sliced i 0 m (xs.length+r) s) w:=by
   rw[run_sliceAt_slice (h:=k),run_slice_h (ht:=k) (kh:= .i64) (h:=(m:Int)) (h0:=by omega) (h2:=by omega),ng (ALca (·.2) j)];simp only[Vb,Vu]
  refine⟨ab.zero,λ_=>[],w,.inl ?_,λx h=>by simp at h,by simpa using a8.refl w⟩;unfold execOp;simp only[e,n,Vj,Option.map_none,q,Vq,t,Vb,Vr,gx]
 ·exact(bu d).elim
def AN(p:Nat)(x:aB)(m s:Nat)(h: ∀bs,x.sat bs→aJ en v xs bs)(a:m≤xs.length):MH P (λ_=>gx v 0 m s):=⟨[],wB P p x v m s,Ic p x m s h a⟩
end
theorem AO{z:List Value}: ∀{n i:Nat},i<n*z.length→((UZ n z).flatten)[i]? =z[i%z.length]?
 | 0,i,h=>by omega
 | n+1,i,h=>by
  rw[List.replicate_succ,List.flatten_cons];rcases Vp i z.length with a | a
  ·rw[VF a,Vc a]
  ·rw[Ve a,AO (n:=n) (by rw[Nat.succ_mul] at h;omega),Nat.mod_eq_sub_mod a]
theorem Ie{z:List Value}(n:Nat):madeCells z.toArray (n*z.length)=((UZ n z).flatten).toArray:=by
 apply Array.ext';apply VV;intro i;rw[Array.getElem?_toList];unfold madeCells;rw[Array.getElem?_map];rcases Vp i (n*z.length) with a | a
 ·rw[Array.getElem?_range,ALifp a,AO a,Vj];have c:0<z.length:=Nat.pos_of_ne_zero λe=>by rw[e,WM] at a;omega
  have b:i%z.length<z.length:=Vv _ c;rw[Vk b];simp [b]
 ·rw[Array.getElem?_range,ALifn Om,Vg (by simp;exact a)];rfl
section
variable {α:Type} {P:Program}
def wE(P:Program)(en:α→List Value)(z:List Value)(a:TypeId)(d:α)(T:TypeId)(p n:Nat)(o:Oper)(ρ:Operand→Value)(_:cb):MD:=
 ⟨[],λE=>[(p,.p (ao en z a (.slice (some ⟨E.y 0,0,none⟩) n n) (UZ n d)))],[sE (λw=>(execOp ρ o).run P w) (λw=>(vS (Instr.makeSlice T (.int .i64 (n:Int)) (.int .i64 (n:Int)))).run P w)]⟩
theorem Ig(K:Kd P α)(p n:Nat)(h:K.en K.d=K.z)(l:n≤1000000):MD.ok P (λE=> .slice (some ⟨E.y 0,0,none⟩) n n) (wE P K.en K.z K.T K.d K.TS p n) []:=by
 intro o ρ C a w c g;simp only[wE,VR,forall_eq,sE] at a g⊢;obtain⟨q,⟨i,f,k,r,m,d,b⟩,s⟩:=K.hT;have e:=run_make (P:=P) K.TS K.T i f q k r .i64 .i64 (n:Int) (n:Int) Om (Int.le_refl _) (by have:=V5 b l;omega) Om (w:=w);rw[Vu,m,show f.cells=K.z.toArray by rw[←d],Ie] at e;have a:=congrFun a w;have j:aj K.en (UZ n K.d)=(UZ n K.z).flatten:=by unfold aj;rw[List.flatMap_replicate,h]
 refine⟨ab.of w.heap.size,λ_=>[(w.heap.size,.cells ((UZ n K.z).flatten).toArray K.T (0,0))],_,.inl (a.trans (kG e)),?_,by simpa using a8.alloc w (.cells ((UZ n K.z).flatten).toArray K.T (0,0))⟩;refine .inr ⟨w.heap.size,0,by rw[U6];rfl,?_⟩;rw[j];unfold bA;rw[Wl,Wx,U2]
def qA(K:Kd P α)(p n:Nat)(b:n≤1000000:=by omega)(a:K.en K.d=K.z:=by rfl):b6 P:= .m ⟨[],wE P K.en K.z K.T K.d K.TS p n,Ig K p n a b⟩
end
theorem aJ.cells{α:Type}{en:α→List Value}{v:Value}{xs:List α}{bs:av}(h:aJ en v xs bs):v.cells=#[v]:=by
 obtain⟨a,r,rfl⟩:=h.2;rfl
def wF(P:Program)(p q:Nat)(x:aB)(v:Value)(o:Oper)(ρ:Operand→Value)(_:cb):MD:=match o.op with
 | .box T a=>⟨[(q,x)],λE=>[(p,ob (E.y 0) #[v] T)],[sE (ρ a) v]⟩
 | _=>MD.bad
theorem Ih{P:Program}(p q:Nat)(x:aB)(v:Value)(hv: ∀bs,x.sat bs→v.cells=#[v]):MD.ok P (λE=> .pointer (some ⟨E.y 0,0,none⟩)) (wF P p q x v) []:=by
 intro o ρ C b w c e;unfold wF at b e⊢
 split at b
 ·rename_i T a d;simp only[d] at e⊢;simp only[U4,U1,or_false,forall_eq,sE] at b;have f:x.sat (c q):=e.sat (q,x) (by simp);have g:=hv _ f;refine⟨ab.of w.heap.size,λ_=>[(w.heap.size,.cells #[v] T (0,0))],_,.inl ?_,λy h=>?_,by simpa using a8.alloc w (.cells #[v] T)⟩
  ·unfold execOp;simp only[d,b,Vq,show(Instr.box T v).run P w= .ok (.pointer (some ⟨w.heap.size,0,none⟩)) (w.alloc (.cells v.cells T)) from rfl,g,Vb,Vr];rfl
  ·rw[List.mem_singleton.1 h];rfl
 ·exact(bu b).elim
def AP{P:Program}(p q:Nat)(x:aB)(v:Value)(hv: ∀bs,x.sat bs→v.cells=#[v]):b6 P:= .m ⟨[],wF P p q x v,Ih p q x v hv⟩
def wG{α:Type}(P:Program)(K:Kd P α)(p n:Nat)(ys:List α)(o:Oper)(ρ:Operand→Value)(_:cb):MD:=
 ⟨[],λE=>[(p,.p (ao K.en K.z K.T (.slice (some ⟨E.y 0,0,none⟩) n n) ys))],[sE (λw=>(execOp ρ o).run P w) (λw=> .ok (.value (.slice (some ⟨w.heap.size,0,none⟩) n n)) (w.alloc (.cells (aj K.en ys).toArray K.T))),sE ys.length n]⟩
theorem Ii{α:Type}{P:Program}(K:Kd P α)(p n:Nat)(ys:List α):MD.ok P (λE=> .slice (some ⟨E.y 0,0,none⟩) n n) (wG P K p n ys) []:=by
 intro o ρ C a w c b;simp only[wG,U4,U1,or_false,forall_eq_or_imp,forall_eq,sE] at a b⊢;obtain⟨a,rfl⟩:=a;refine⟨ab.of w.heap.size,λ_=>[(w.heap.size,.cells (aj K.en ys).toArray K.T (0,0))],_,.inl (congrFun a w),?_,by simpa using a8.alloc w (.cells (aj K.en ys).toArray K.T (0,0))⟩;refine .inr ⟨w.heap.size,0,rfl,?_⟩;unfold bA;rw[Wl,Wx,U2]
def gA{α:Type}{P:Program}(K:Kd P α)(p n:Nat)(ys:List α):b6 P:= .m ⟨[],wG P K p n ys,Ii K p n ys⟩
def wH(P:Program)(q:Nat)(x:aB)(s:Sem Value)(o:Oper)(ρ:Operand→Value)(_:cb):MD:=⟨[(q,x)],λ_=>[],[sE (λw=>(execOp ρ o).run P w) (λw=>(vS s).run P w)]⟩
theorem Ik{P:Program}{v:Value}(q:Nat)(x:aB)(s:Sem Value)(h: ∀bs,x.sat bs→∀w,s.run P w= .ok v w):MD.ok P (λ_=>v) (wH P q x s) []:=by
 intro o ρ C b w c a;simp only[wH,VR,forall_eq,sE] at b a⊢;have d:x.sat (c q):=a.sat (q,x) (by simp);exact⟨ab.zero,λ_=>[],w,.inl ((congrFun b w).trans (kG (h _ d w))),λy h=>by simp at h,by simpa using a8.refl w⟩
def Il{P:Program}{v:Value}(q:Nat)(x:aB)(s:Sem Value)(h: ∀bs,x.sat bs→∀w,s.run P w= .ok v w):b6 P:= .m ⟨[],wH P q x s,Ik q x s h⟩
theorem Im{P:Program}(w:World)(T U TY b:TypeId)(A:Addr)(e d:Nat)(a:Option Addr)(c:Nat)(g:P.underlying T=some (.slice b)){i:TypeInfo}(f:P.info? b=some i):
  (Builtin.copy_ #[T,U] TY #[.slice (some A) e d,.slice a 0 c]).run P w= .ok (goInt 0) w:=by
 cases a<;>simp [Builtin.copy_,run_underlying g,Builtin.lenOf,Builtin.firstCells,sizeOf,typeInfo,f,storeCells,loadCells,loadCellsFrom]
theorem a8.same{w:World}{g:Nat}{o:Obj}(h:w.heap[g]? =some o):a8 [g] [(g,o)] w w:=a8.put rfl rfl rfl rfl h (λ_ _=>rfl)
section
variable {α:Type} {P:Program}
def wI(P:Program)(p g off b a:Nat)(cs cs':Array Value)(t T U TY:TypeId)(q:Nat)(x:aB)(u:Value)(o:Oper)(ρ:Operand→Value)(_:cb):MD:=⟨[(p,ob g cs t),(q,x)],λ_=>[(p,ob g cs' t)],[sE (λw=>(execOp ρ o).run P w) (λw=>(Gx T U TY (.slice (some ⟨g,off,none⟩) b a) u).run P w)]⟩
theorem Io(K:Kd P α)(L:K.k=1)(p g off f l:Nat)(cs cs':Array Value)(t U TY:TypeId)(q:Nat)(x:aB)(u:Value)(ys:List α)(Y: ∀bs,x.sat bs→dF K.en u ys bs)(R:ys.length≤f)(hf:off+ys.length≤cs.size)(I:(cs.toList.take off++aj K.en ys++cs.toList.drop (off+(aj K.en ys).length)).toArray=cs'):
  MD.ok P (λ_=> .int .i64 (ys.length:Int)) (wI P p g off f l cs cs' t K.TS U TY q x u) [p]:=by
 intro o ρ C B w c m;simp only[wI,VR,forall_eq,sE] at B m⊢;have S:=m.has;obtain⟨r,W⟩:=m.two;obtain⟨b,s⟩:=r.one;obtain⟨N,⟨i,zv,J,hz,G,hzc,Q⟩,h0⟩:=K.hT;have D:(aj K.en ys).length=ys.length:=by rw[fq (n:=ys.length) (k:=1) (λy=>(K.hk y).trans L) rfl,Vo]
 rcases Y _ W with⟨rfl,a,h,rfl⟩ | ⟨H,d,j,t2,O,h,rfl,V,F⟩
 ·have e:cs'=cs:=by
   rw[←I];apply Array.ext';simp [aj]
  subst e;refine⟨ab.zero,λ_=>[(g,.cells cs' t (0,0))],w,.inl ((congrFun B w).trans (kG (Im w K.TS U TY K.T ⟨g,off,none⟩ f l a h N J))),rfl,by simpa [b,bJ] using a8.same s⟩
 ·have A:w.heap[H]? =some (.cells j t2 O):=S.obj _ (List.mem_flatMap.2 ⟨(q,x),by simp,V⟩);have M:=run_copy_row (P:=P) w K.TS U TY K.T g off f l ⟨H,d,none⟩ ys.length h cs t (aj K.en ys) N (by rw[J,Vj,G,←K.hz,L]) s (by rw[D];exact(WI R).symm) (nY A F) (by rw[D];exact hf) (by
   intro v X;obtain⟨y,_,Z⟩:=List.mem_flatMap.1 X;exact K.one y v Z)
  rw[I,D] at M;exact⟨ab.zero,λ_=>[(g,.cells cs' t (0,0))],_,.inl ((congrFun B w).trans (kG M)),rfl,by simpa [b,bJ] using a8.setRow cs' s⟩
def ts(K:Kd P α)(p g off a b:Nat)(cs cs':Array Value)(t U TY:TypeId)(q:Nat)(x:aB)(u:Value)(ys:List α)(f: ∀bs,x.sat bs→dF K.en u ys bs)(d:ys.length≤a)(hf:off+ys.length≤cs.size)(c:(cs.toList.take off++aj K.en ys++cs.toList.drop (off+(aj K.en ys).length)).toArray=cs')(e:K.k=1:=by rfl):MH P (λ_=> .int .i64 (ys.length:Int)):=⟨[p],wI P p g off a b cs cs' t K.TS U TY q x u,Io K e p g off a b cs cs' t U TY q x u ys f d hf c⟩
theorem oc{en:α→List Value}{d:α}{a m c:Nat}{ys:List α}{t:TypeId}(h1: ∀x,(en x).length=1)(h:ys.length=m):dF en (.slice (some ⟨a,0,none⟩) m c) ys [(a,.cells ((cv en d m ys).toArray) t (0,0))]:=
 .inr ⟨a,0,_,t,(0,0),c,by rw[h],by simp,zX (d:=d) h⟩
end
end
section
open Go.RowKit Go.Shelf Go
section
variable {α:Type} {P:Program} {en:α→List Value} {v:Value} {xs:List α}
def wJ(P:Program)(p:Nat)(x:aB)(v:Value)(n:Nat)(o:Oper)(ρ:Operand→Value)(_:cb):MD:=match o.op with
 | .sliceToArrayPointer T a=>⟨[(p,x)],λ_=>[],[sE (ρ a) v,sE (P.underlying T) (some (.array n (P.elem T)))]⟩
 | _=>MD.bad
theorem Ip(p:Nat)(x:aB)(n:Nat)(h: ∀j,x.sat j→dF en v xs j)(h0:0<n)(A:n≤xs.length):MD.ok P (λ_=>eV v 0) (wJ P p x v n) []:=by
 intro o ρ C b w c f;unfold wJ at b f⊢
 split at b
 ·rename_i T a d;simp only[d] at f⊢;simp only[U4,U1,or_false,forall_eq_or_imp,forall_eq,sE] at b;obtain⟨m,l⟩:=b;obtain⟨k,y⟩:=f.ent;obtain⟨g,q,s,t,u,r,rfl,_⟩:=(h _ k).some (i:=0) Om;refine⟨ab.zero,λ_=>[],w,.inl ?_,λx h=>by simp at h,by simpa using a8.refl w⟩;unfold execOp;simp only[d,m,Vq,run_arrayAt w T (P.elem T) n _ _ _ l Om,Vb,Vr,eV,add_lit,VE]
 ·exact(bu b).elim
def AQ(p:Nat)(x:aB)(n:Nat)(h: ∀a,x.sat a→dF en v xs a)(h0:0<n)(b:n≤xs.length):MH P (λ_=>eV v 0):=⟨[],wJ P p x v n,Ip p x n h h0 b⟩
theorem Iq(p:Nat)(x:aB)(n:Nat)(l:List Value)(h: ∀i,x.sat i→dF en v xs i)(u:aj en xs=l)(h0:0<xs.length)(y:l.length=n):MD.ok P (λ_=> .agg l.toArray) (mA P p x v 0 n) []:=by
 intro o ρ C b w c f;unfold mA at b f⊢
 split at b
 ·rename_i B a d;simp only[d] at f⊢;simp only[U4,U1,or_false,forall_eq_or_imp,forall_eq,sE,sB] at b;obtain⟨k,s,A⟩:=b;obtain⟨m,q⟩:=f.ent;obtain⟨g,H,F,t,G,D,rfl,r,j⟩:=(h _ m).some h0;refine⟨ab.zero,λ_=>[],w,.inl ?_,λx h=>by simp at h,by simpa using a8.refl w⟩;unfold execOp;simp only[eV,add_lit,VE] at k;rw[u] at j;simp only[d,k,Instr.loadAt,Instr.sureAddr,Vq,Vr,Vb,Ag (q.obj _ r) j s (by rw[A,y])]
 ·exact(bu b).elim
def AR(p:Nat)(x:aB)(n:Nat)(l:List Value)(h: ∀a,x.sat a→dF en v xs a)(b:aj en xs=l)(h0:0<xs.length)(c:l.length=n):MH P (λ_=> .agg l.toArray):=⟨[],mA P p x v 0 n,Iq p x n l h b h0 c⟩
theorem AS{d:α}{n:Nat}(a: ∀x,(en x).length=1)(h:xs.length=n):(cv en d n xs).length=n:=by rw[kd h,fq a h,Vo]
end
section
variable {α:Type} {P:Program} {en:α→List Value} {z:List Value} {e:TypeId} {xs ys:List α}
theorem Ir{T' TY:TypeId}(H:dS P T' e z)(d: ∀y,(en y).length=z.length)(h1: ∀y,∀u∈en y,u.oneCell'=true){w:World}{g:Nat}{cs:Array Value}{t:TypeId}(I:w.heap[g]? =some (.cells cs t (0,0)))
  (q:(cs.toList.drop 0).take (aj en xs).length=aj en xs) {A:Addr} {c:Nat} (Q:0<ys.length) (f: ∀j u,(aj en ys)[j]? =some u→w.cell? (A.add j)=some u) (n:xs.length+ys.length≤1000000):
  ∃D k w',(Builtin.append_ #[T',T'] TY #[.slice (some ⟨g,0,none⟩) xs.length xs.length,.slice (some A) ys.length c]).run P w= .ok D w'∧ao en z e D (xs++ys) k∧a8 [] k w w':=by
 obtain⟨N,⟨i,B,K,O,C,m,p⟩,G⟩:=H;have s:0<B.cells.size:=by rw[←Array.length_toList,m];exact G
 have L:(aj en ys).length=ys.length*i.size:=by rw[C];exact fq d rfl
 have M:(aj en xs).length=xs.length*i.size:=by rw[C];exact fq d rfl
 have o:(xs.length+ys.length)*i.bytes≤140737488355328:=WN (V5 n p) Dc;have l:=nY (news:=aj en xs) I (off:=0) q;have h:=run_append_grow (P:=P) w T' TY e i B N K O ⟨g,0,none⟩ xs.length xs.length (aj en xs) M l A ys.length c (aj en ys) L f Om Om (growslice_fits Om o);have J:=grownCap_ge w (xs.length+ys.length) xs.length e;have F:(aj en xs).toArray++(aj en ys).toArray++Builtin.zeroCells B.cells (grownCap w (xs.length+ys.length) xs.length e-(xs.length+ys.length))=bA (aj en (xs++ys)) z (grownCap w (xs.length+ys.length) xs.length e-(xs.length+ys.length)):=by
  apply Array.toList_inj.1;unfold bA;simp only[Array.toList_append,vQ _ _ s,m,jL]
 rw[F] at h;refine⟨_,_,_,h,.inr ⟨w.heap.size,grownCap w (xs.length+ys.length) xs.length e-(xs.length+ys.length),by rw[U3];congr 1;omega,rfl⟩,?_⟩;have a:=(Below.refl w.heap.size w.drew).alloc (Vi _) (.cells (bA (aj en (xs++ys)) z (grownCap w (xs.length+ys.length) xs.length e-(xs.length+ys.length))) e);exact⟨a.os,a.tape,a.output,a.size,λx r=>by obtain rfl:=List.mem_singleton.1 r;exact World.alloc_heap_new w.drew _,λx r=>by obtain rfl:=List.mem_singleton.1 r;exact .inr (Vi _),List.pairwise_singleton _ _,λb n _=>a.block b n⟩
def wK(P:Program)(p a q:Nat)(T':TypeId)(g n:Nat)(cs:Array Value)(t:TypeId)(u:Value)(b:aB)(y:ab→aB)(o:Oper)(ρ:Operand→Value)(C:cb):MD:=
 ⟨[(a,ob g cs t),(q,b)],λE=>[(p,y E)],[sE (λw=>(execOp ρ o).run P w) (λw=>(qc T' o.type (.slice (some ⟨g,0,none⟩) n n) u).run P w)]⟩
theorem Iu{T':TypeId}(p m q g n:Nat)(cs:Array Value)(t:TypeId)(H:dS P T' e z)(u:Value)(r:aB)(l: ∀s,r.sat s→dF en u ys s)(a: ∀y,(en y).length=z.length)(h1: ∀y,∀u∈en y,u.oneCell'=true)(K:xs.length=n)(i:(cs.toList.drop 0).take (aj en xs).length=aj en xs)(B:0<ys.length)(I:xs.length+ys.length≤1000000):
  MD.ok P (λE=>E.val 0) (wK P p m q T' g n cs t u r (λE=> .p (ao en z e (E.val 0) (xs++ys)))) []:=by
 subst K;intro o ρ C A w c b;simp only[wK,U4,U1,or_false,forall_eq,sE] at A b⊢;have L:c m=[(g,.cells cs t (0,0))]:=b.sat (m,ob g cs t) (by simp);have M:dF en u ys (c q):=l _ (b.sat (q,r) (by simp));have d:=b.has;simp only[List.flatMap_cons,List.flatMap_nil,U2] at d;have J:w.heap[g]? =some (.cells cs t (0,0)):=d.obj (g,.cells cs t (0,0)) (by rw[L];simp);have j:eb (c q) w:=⟨λx l=>d.obj x (List.mem_append_right _ l),(List.pairwise_append.1 d.nd).2.1⟩;rcases M with⟨rfl,_⟩ | ⟨U,Q,F,V,T,D,rfl,h,G⟩
 ·simp at B
 ·obtain⟨R,f,S,N,O,k⟩:=Ir (TY:=o.type) (c:=D) H a h1 J i B (nY (j.obj _ h) G) I;exact⟨ab.ov R,λ_=>f,S,.inl ((congrFun A w).trans (sP N)),O,by simpa using k⟩
def Iv{T':TypeId}(p f q g n:Nat)(cs:Array Value)(t:TypeId)(h:dS P T' e z)(u:Value)(c:aB)(k: ∀d,c.sat d→dF en u ys d)(h1: ∀y,∀u∈en y,u.oneCell'=true)(a: ∀y,(en y).length=z.length)(j:xs.length=n)(b:(cs.toList.drop 0).take (aj en xs).length=aj en xs)(l:0<ys.length)(i:xs.length+ys.length≤1000000):MH P (λE=>E.val 0):=
 ⟨[],wK P p f q T' g n cs t u c (λE=> .p (ao en z e (E.val 0) (xs++ys))),Iu p f q g n cs t h u c k a h1 j b l i⟩
def Iw(K:Kd P α)(p j q g n:Nat)(cs:Array Value)(t:TypeId)(xs ys:List α)(u:Value)(c:aB)(h: ∀b,c.sat b→dF K.en u ys b)(f:xs.length=n)(a:(cs.toList.drop 0).take (aj K.en xs).length=aj K.en xs)(i:0<ys.length)(d:xs.length+ys.length≤1000000):MH P (λE=>E.val 0):=Iv (xs:=xs) p j q g n cs t K.hT u c h K.one K.lz f a i d
end
end
section
open Go.RowKit Go.Shelf Go
def bw(x:Nat):Nat→Nat
 | 0=>x
 | k+1=>bw x k&&& (bw x k-1)
theorem qB(x:Nat): ∀k,bw x k≤x
 | 0=>Vi _
 | k+1=>WN Nat.and_le_left (qB x k)
theorem pb{x:Nat}(c:x<18446744073709551616){k:Nat}(h:pc (bw x k)+k=pc x)(h0:((bw x k:Nat):Int)≠0):pc (bw x (k+1))+(k+1)=pc x∧k<pc x:=by
 have a:=qB x k;have b:=FK (bw x k) Om Om;show pc (bw x k&&& (bw x k-1))+(k+1)=pc x∧_;omega
theorem wL{x k:Nat}(h:pc (bw x k)+k=pc x)(h0:((bw x k:Nat):Int)=0):k=pc x:=by
 have a:bw x k=0:=by omega
 rw[a,FG] at h;omega
attribute [local irreducible] pc
theorem qC(x:Nat)(m:x<18446744073709551616):aa U0 171 #[u6 (x:Int)] [] [] N0 (λ_=>iN (pc x)):=by
 refine fG Tryz.func171 λw l=>r0 [] [(2,i6 0)] [] (r0 [] [(3,i6 0)] [] ?_);refine lq (λk=>k≤pc x∧(pc (bw x k)+k=pc x)) (λk=>[(0,u6 ((bw x k:Nat):Int)),(3,iN k)]) (λ_ L=>L) (λk=>(pc x)-k) 0 ⟨by omega,(VE (pc x))⟩ Kr Kr (λk ⟨g,d⟩=>?_);have f:=qB x k;have j:=vr x;refine r0 [] [(5,.bool (((bw x k:Nat):Int) != 0))] [] ?_;refine mE ((bw x k:Nat):Int) 0 (λe c=>?_) λe c=>?_
 ·refine r0 [(2,.t (tv (au .sub 44 (.tmp 7) (.const (u6 1)) (u6 ((bw x k:Nat):Int)) (u6 1)) (λ_=>H5 (b:=1) Om Om))),(3,.t (tv (au .and 44 (.tmp 6) (.tmp 8) (u6 ((bw x k:Nat):Int)) (u6 ((bw x k-1:Nat):Int))) (λ_=>AJ (a:=bw x k) (b:=bw x k-1) Om Om)))] [(0,u6 ((bw x (k+1):Nat):Int))] [0] (r0 [(1,ad k 1)] [(3,iN (k+1))] [3] ?_);have i:=pb Om d As;exact le (k+1) ⟨by omega,(pb Om d As).1⟩ Om Kr [] Kr
 have h:=wL d As;obtain rfl:k=pc x:=by omega
 exact lx (r0 [] [(2,iN (pc x))] [2] (lf ab.zero [] [] []))
theorem Iy(x:Nat)(m:x<4294967296):aa U0 230 #[.int .u32 (x:Int)] [] [] N0 (λ_=>iN (pc x)):=by
 refine fG Tryz.func230 λw l=>r0 [] [(2,i6 0)] [] (r0 [] [(3,i6 0)] [] ?_);refine lq (λk=>k≤pc x∧(pc (bw x k)+k=pc x)) (λk=>[(0,.int .u32 ((bw x k:Nat):Int)),(3,iN k)]) (λ_ L=>L) (λk=>(pc x)-k) 0 ⟨by omega,(VE (pc x))⟩ Kr Kr (λk ⟨g,d⟩=>?_);have f:=qB x k;have j:=vr x;refine r0 [] [(5,.bool (((bw x k:Nat):Int) != 0))] [] ?_;refine mE ((bw x k:Nat):Int) 0 (λe c=>?_) λe c=>?_
 ·refine r0 [(2,.t (tv (au .sub 329 (.tmp 7) (.const (.int .u32 1)) (.int .u32 ((bw x k:Nat):Int)) (.int .u32 1)) (λ_=>H6 (b:=1) Om Om))),(3,.t (tv (au .and 329 (.tmp 6) (.tmp 8) (.int .u32 ((bw x k:Nat):Int)) (.int .u32 ((bw x k-1:Nat):Int))) (λ_=>H3 (a:=bw x k) (b:=bw x k-1) Om Om)))] [(0,.int .u32 ((bw x (k+1):Nat):Int))] [0] (r0 [(1,ad k 1)] [(3,iN (k+1))] [3] ?_);have i:=pb Om d As;exact le (k+1) ⟨by omega,(pb Om d As).1⟩ Om Kr [] Kr
 have h:=wL d As;obtain rfl:k=pc x:=by omega
 exact lx (r0 [] [(2,iN (pc x))] [2] (lf ab.zero [] [] []))
theorem AT(x:Nat)(m:x<256):aa U0 251 #[u1 (x:Int)] [] [] N0 (λ_=>iN (pc x)):=by
 refine fG Tryz.func251 λw l=>r0 [] [(2,i6 0)] [] (r0 [] [(3,i6 0)] [] ?_);refine lq (λk=>k≤pc x∧(pc (bw x k)+k=pc x)) (λk=>[(0,u1 ((bw x k:Nat):Int)),(3,iN k)]) (λ_ L=>L) (λk=>(pc x)-k) 0 ⟨by omega,(VE (pc x))⟩ Kr Kr (λk ⟨g,d⟩=>?_);have f:=qB x k;have j:=vr x;refine r0 [] [(5,.bool (((bw x k:Nat):Int) != 0))] [] ?_;refine mE ((bw x k:Nat):Int) 0 (λe c=>?_) λe c=>?_
 ·refine r0 [(2,.t (tv (au .sub 5 (.tmp 7) (.const (u1 1)) (u1 ((bw x k:Nat):Int)) (u1 1)) (λ_=>H7 (b:=1) Om Om))),(3,.t (tv (au .and 5 (.tmp 6) (.tmp 8) (u1 ((bw x k:Nat):Int)) (u1 ((bw x k-1:Nat):Int))) (λ_=>H4 (a:=bw x k) (b:=bw x k-1) Om Om)))] [(0,u1 ((bw x (k+1):Nat):Int))] [0] (r0 [(1,ad k 1)] [(3,iN (k+1))] [3] ?_);have i:=pb Om d As;exact le (k+1) ⟨by omega,(pb Om d As).1⟩ Om Kr [] Kr
 have h:=wL d As;obtain rfl:k=pc x:=by omega
 exact lx (r0 [] [(2,iN (pc x))] [2] (lf ab.zero [] [] []))
theorem AU:aa U0 215 #[] [] [] N0 (λ_=>i6 8):=by
 exact fG Tryz.func215 λw a=>r0 [] [(0,i6 0)] [] (r0 [(1,.t (tv (Op.unary .xor (u1 0)) (λ_=>rfl))),(2,.c [] [] (AT 255 Om))] [(0,iN (pc 255))] [0] (ak (iN (pc 255)) ab.zero Kr [] [] []))
theorem Iz(x:Nat)(d:x<4294967296):aa U0 199 #[.int .u32 (x:Int)] [] [] N0 (λ_=>iN (pc x%2)):=by
 exact fG Tryz.func199 λw b=>r0 [] [(2,i6 0)] [] (r0 [(1,.c [] [] (Iy x Om)),(2,.t (tv (au .and 3 (.tmp 4) (.const (i6 1)) (iN (pc x)) (i6 1)) (λ_=>AM (a:=pc x))))] [(2,iN (pc x%2))] [2] (lf ab.zero [] [] []))
def on(x k:Nat):Nat:=(fP k 0 x).length
theorem pd: ∀(k i x:Nat),fP (k+1) i x=fP k i x++(bif x/2^k%2==1 then[i+k] else[])
 | 0,i,x=>by
  show(if x%2=1 then i::fP 0 (i+1) (x/2) else fP 0 (i+1) (x/2))=[]++_;rw[Wf,Wq];by_cases h:x%2=1
  ·rw[ALifp h,h];rfl
  ·rw[ALifn h,show(x%2==1)=false from beq_false_of_ne h];rfl
 | k+1,i,x=>by
  have e:=pd k (i+1) (x/2);rw[Vs,Nat.mul_comm,←Wg,show i+1+k=i+(k+1) by omega] at e;show(if x%2=1 then i::fP (k+1) (i+1) (x/2) else fP (k+1) (i+1) (x/2))=(if x%2=1 then i::fP k (i+1) (x/2) else fP k (i+1) (x/2))++_;rw[e];by_cases h:x%2=1
  ·rw[ALifp h,ALifp h];rfl
  ·rw[ALifn h,ALifn h]
theorem AV(x k:Nat): ∀d,∃t,fP (k+d) 0 x=fP k 0 x++t
 | 0=>⟨[],(U2 _).symm⟩
 | d+1=>by
  obtain⟨t,h⟩:=AV x k d;exact⟨_,by rw[show k+(d+1)=k+d+1 from rfl,pd,h,VG]⟩
theorem IA{x k:Nat}(h:(((x/2^k%2:Nat):Int)==1)=true):on x (k+1)=on x k+1:=by
 have a:x/2^k%2=1:=by have:=eq_of_beq h;omega
 unfold on;rw[pd,a,U3];rfl
theorem IB{x k:Nat}(h:(((x/2^k%2:Nat):Int)==1)=false):on x (k+1)=on x k:=by
 have a:(x/2^k%2==1)=false:=by have:=ne_of_beq_false h;exact beq_false_of_ne Om
 unfold on;rw[pd,a,U3];rfl
theorem IC{x k:Nat}(c:k<64)(h:(((x/2^k%2:Nat):Int)==1)=true):(bB x)[on x k]? =some k:=by
 have b:x/2^k%2=1:=by have:=eq_of_beq h;omega
 obtain⟨t,e⟩:=AV x (k+1) (64-(k+1));have a:=pd k 0 x;rw[b] at a;rw[show k+1+(64-(k+1))=64 by omega,a,VG] at e;show(fP 64 0 x)[(fP k 0 x).length]? =_;rw[e,Ve (Vi _),VX];show some (0+k)=_;rw[Vl]
theorem ID{x k:Nat}(e:k≤64)(c:((x/2^k:Nat):Int)=0):on x k=(bB x).length:=by
 have h:x/2^k=0:=Int.ofNat.inj c;have b: ∀d,fP (k+d) 0 x=fP k 0 x:=by
  intro d
  induction d with
  | zero=>rfl
  | succ d ih=>
   rw[show k+(d+1)=k+d+1 from rfl,pd,ih,Nat.pow_add,←Vs,h,Nat.zero_div];exact U2 _
 have a:=b (64-k);rw[show k+(64-k)=64 by omega] at a;exact ALca WL a.symm
theorem AW{x:Nat}(k:Nat):x/2^(k+1)=x/2^k/2^1:=by rw[Wg,←Vs]
theorem wN{x k:Nat}(b:x<18446744073709551616)(a:k≤64)(h:((x/2^k:Nat):Int)≠0):k<64:=by
 refine Nat.lt_of_le_of_ne a λe=>?_;subst e;exact h (by have:x/2^64=0:=Nat.div_eq_of_lt b;omega)
theorem AX(g x:Nat)(h:x<18446744073709551616):o1 5 U0 172 #[pt g 0] (λ(i:Nat)=>#[iN i]) (bB x) (Vw []) [(g,.cells #[u6 (x:Int)] 44 (0,0))]:=by
 refine gG (KO:=[]) Tryz.func172 (λw z y D B n u r=>?_);refine r0 [] [(3,i6 0)] [] ?_;refine jv (λk=>k≤64) (λk=>[(3,iN k)]) (λk L=>L.set 0 (ob g #[u6 ((x/2^k:Nat):Int)] 44)) (λk=>64-k) (λk=>on x k) 0 Om r Kr (by rw[Wf,Wq];kernel_rfl) (λk A C v a=>?_);have c:x/2^k<18446744073709551616:=VS (Nat.div_le_self _ _) h;refine r0 [(0,.l 0)] [(5,.bool (((x/2^k:Nat):Int) != 0))] [] ?_;refine mE ((x/2^k:Nat):Int) 0 (λq j=>?_) λq j=>?_
 ·cases f:(((x/2^k%2:Nat):Int)==1)
  case true=>
   have m:=eq_of_beq f;refine iy n u a 6 (λ_=>[(0,.l 0),(1,.t (tv (au .and 44 (.tmp 8) (.const (u6 1)) (u6 ((x/2^k:Nat):Int)) (u6 1)) (λ_=>AK c))),(2,.t (tk (show Value.bool (((x/2^k%2:Nat):Int)==1)= .bool true from ALca Value.bool f)))]) (λ_=>[(11,.bool true),(12,.func (.yield w) #[] #[]),(13,iN k)]) [] (λ_ L=>L) (λ_=>[ob g #[u6 ((x/2^k:Nat):Int)] 44]) [0] (IC (wN h Om As) As) (λF o p b=>?_);refine cF _ rfl (rs [(0,.l 0),(1,.t (tv (au .shr 44 (.tmp 17) (.const (u6 1)) (u6 ((x/2^k:Nat):Int)) (u6 1)) (λ_=>sC 1 Dc))),(2,.s 0)] 0 (ob g #[u6 ((x/2^k/2^1:Nat):Int)] 44) (r0 [(1,ad k 1)] [(3,iN (k+1))] [3] ?_));have e:=wN h Om As;exact ia (k+1) Om (by(rw[IA As]);exact b) Om Kr [0] (by rw[AW (x:=x) k];kernel_rfl)
  have m:=ne_of_beq_false f;refine rF [(0,.l 0),(1,.t (tv (au .and 44 (.tmp 8) (.const (u6 1)) (u6 ((x/2^k:Nat):Int)) (u6 1)) (λ_=>AK c))),(2,.t (tk (show Value.bool (((x/2^k%2:Nat):Int)==1)= .bool false from ALca Value.bool f))),(4,.d),(5,.d),(6,.d),(7,.d)] 16 (rs [(0,.l 0),(1,.t (tv (au .shr 44 (.tmp 17) (.const (u6 1)) (u6 ((x/2^k:Nat):Int)) (u6 1)) (λ_=>sC 1 Dc))),(2,.s 0)] 0 (ob g #[u6 ((x/2^k/2^1:Nat):Int)] 44) (r0 [(1,ad k 1)] [(3,iN (k+1))] [3] ?_));have e:=wN h Om As;exact ia (k+1) Om (by(rw[IB As]);exact a) Om Kr [0] (by rw[AW (x:=x) k];kernel_rfl)
 refine jw ?_;exact kk n a (by exact ID Om As) [ob g #[u6 ((x/2^k:Nat):Int)] 44] [0]
theorem AY(x:Nat):aa U0 132 #[u6 (x:Int)] [] [] (λE=>[ob (E.y 0) #[u6 (x:Int)] 44]) (λE=> .func (.func 172) #[] #[pt ((E.y 0)) 0]):=by
 exact fG Tryz.func132 λw b=>ra (λa=>[(1,pt (B0 a) 0),(2,.nilFunc)]) (λa=>[ob (B0 a) #[u6 (x:Int)] 44]) λa=>r0 [] [(2,.func (.func 172) #[] #[pt (B0 a) 0])] [2] (lf (.l [(a 0).y 0] [] []) [0] [] [])
end
section
open Go.RowKit Go.Shelf Go
attribute [local irreducible] pc
def ch(k:Nat):Nat→List Nat
 | 0=>[]
 | j+1=>ch k j++(bif ((pc j:Nat):Int)==((k:Nat):Int) then[j] else[])
theorem AZ{k j:Nat}(h:(((pc j:Nat):Int)==((k:Nat):Int))=true):(ch k (j+1)).length=(ch k j).length+1:=by
 show(ch k j++_).length=_;rw[h,U3];rfl
theorem A0{k j:Nat}(h:(((pc j:Nat):Int)==((k:Nat):Int))=false):(ch k (j+1)).length=(ch k j).length:=by
 show(ch k j++_).length=_;rw[h,U3];rfl
theorem A1(k j:Nat): ∀d,∃t,ch k (j+d)=ch k j++t
 | 0=>⟨[],(U2 _).symm⟩
 | d+1=>by
  obtain⟨t,h⟩:=A1 k j d;exact⟨_,by show ch k (j+d)++_=_;rw[h,VG]⟩
theorem A2{k j n:Nat}(a:j<n)(h:(((pc j:Nat):Int)==((k:Nat):Int))=true):(ch k n)[(ch k j).length]? =some j:=by
 obtain⟨t,e⟩:=A1 k (j+1) (n-(j+1));rw[show j+1+(n-(j+1))=n by omega,show ch k (j+1)=ch k j++[j] by show ch k j++_=_;rw[h];rfl,VG] at e;rw[e,Ve (Vi _),VX];rfl
theorem A3{P:Program}{T:TypeId}{x y:Operand}{w:World}:(au .shl T x y (.int .u64 1) (.int .u64 8)).run P w= .ok (.int .u64 256) w:=sD (a:=1) (yk:= .u64) 8 Dc Dc
theorem IE(g b:Nat):eT 5 U0 214 #[pt g 0,pt b 0] (λ(i:Nat)=>#[u1 ((UInt8.ofNat i).toNat:Int)]) (ch 3 256) (Vw [[(g,.cells #[i6 3] 3 (0,0))],[(b,.cells #[i6 8] 3 (0,0))]]):=by
 refine gi (KO:=[[(g,.cells #[i6 3] 3 (0,0))],[(b,.cells #[i6 8] 3 (0,0))]]) Tryz.func214 (λv y x C A n s r=>?_);refine rF [(0,.l 0),(3,.l 0),(4,.l 1),(8,.l 1),(9,.c [] [] (AU))] 17 (r0 [(0,.l 1),(1,.t (tv (convert 3 201 (i6 8)) (λ_=>mz Tryz.underlying3 Tryz.underlying201 (c:=8) Om))),(2,.t (tv (au .shl 44 (.const (u6 1)) (.tmp 19) (u6 1) (u6 8)) (λ_=>A3)))] [(20,u6 256),(21,u6 0)] [] ?_);refine jv (λk=>k≤256) (λk=>[(21,u6 (k:Int))]) (λ_ L=>L) (λk=>256-k) (λk=>(ch 3 k).length) 0 Om r Kr Kr (λk z B u f=>?_);refine r0 [] [(22,.bool (decide ((k:Int)<256)))] [] ?_;refine b4 (k:Int) 256 (λq m=>?_) λq m=>?_
 ·refine r0 [] [(4,u6 (k:Int))] [] ?_;cases e:((((pc k):Nat):Int)==3)
  case true=>
   have h:=eq_of_beq e;refine iy n s f 8 (λ_=>[(1,.c [] [] (qC k Om)),(2,.l 0),(3,.t (tk (show Value.bool ((((pc k):Nat):Int)==3)= .bool true from ALca Value.bool e))),(7,.t (tv (convert 44 5 (u6 (k:Int))) (λ_=>sF Tryz.underlying44 Tryz.underlying5)))]) (λ_=>[(28,.bool true),(29,.func (.yield v) #[] #[]),(31,u1 ((UInt8.ofNat k).toNat:Int))]) [] (λ_ L=>L) N0 [0,1] (A2 Om As) (λw o p j=>?_);refine cF _ rfl (r0 [(0,.t (tb (a:=u6 (k:Int)) (b:=u6 1) λ_ _ _ _=>sN (a:=k) (b:=1) Om))] [(21,u6 ((k+1:Nat):Int))] [21] ?_);exact ia (k+1) Om (by(rw[AZ As]);exact j) Om Kr [0,1] Kr
  have h:=ne_of_beq_false e;refine rF [(1,.c [] [] (qC k Om)),(2,.l 0),(3,.t (tk (show Value.bool ((((pc k):Nat):Int)==3)= .bool false from ALca Value.bool e))),(5,.d),(6,.d),(7,.d),(8,.d),(9,.d)] 34 (r0 [(0,.t (tb (a:=u6 (k:Int)) (b:=u6 1) λ_ _ _ _=>sN (a:=k) (b:=1) Om))] [(21,u6 ((k+1:Nat):Int))] [21] ?_);exact ia (k+1) Om (by(rw[A0 As]);exact f) Om Kr [0,1] Kr
 obtain rfl:k=256:=by omega
 refine jw ?_;exact kk n f a7 [] [0,1]
theorem IF(g b:Nat):eT 5 U0 214 #[pt g 0,pt b 0] (λ(i:Nat)=>#[u1 ((UInt8.ofNat i).toNat:Int)]) (ch 5 256) (Vw [[(g,.cells #[i6 5] 3 (0,0))],[(b,.cells #[i6 8] 3 (0,0))]]):=by
 refine gi (KO:=[[(g,.cells #[i6 5] 3 (0,0))],[(b,.cells #[i6 8] 3 (0,0))]]) Tryz.func214 (λv y x C A n s r=>?_);refine rF [(0,.l 0),(3,.l 0),(4,.l 1),(8,.l 1),(9,.c [] [] (AU))] 17 (r0 [(0,.l 1),(1,.t (tv (convert 3 201 (i6 8)) (λ_=>mz Tryz.underlying3 Tryz.underlying201 (c:=8) Om))),(2,.t (tv (au .shl 44 (.const (u6 1)) (.tmp 19) (u6 1) (u6 8)) (λ_=>A3)))] [(20,u6 256),(21,u6 0)] [] ?_);refine jv (λk=>k≤256) (λk=>[(21,u6 (k:Int))]) (λ_ L=>L) (λk=>256-k) (λk=>(ch 5 k).length) 0 Om r Kr Kr (λk z B u f=>?_);refine r0 [] [(22,.bool (decide ((k:Int)<256)))] [] ?_;refine b4 (k:Int) 256 (λq m=>?_) λq m=>?_
 ·refine r0 [] [(4,u6 (k:Int))] [] ?_;cases e:((((pc k):Nat):Int)==5)
  case true=>
   have h:=eq_of_beq e;refine iy n s f 8 (λ_=>[(1,.c [] [] (qC k Om)),(2,.l 0),(3,.t (tk (show Value.bool ((((pc k):Nat):Int)==5)= .bool true from ALca Value.bool e))),(7,.t (tv (convert 44 5 (u6 (k:Int))) (λ_=>sF Tryz.underlying44 Tryz.underlying5)))]) (λ_=>[(28,.bool true),(29,.func (.yield v) #[] #[]),(31,u1 ((UInt8.ofNat k).toNat:Int))]) [] (λ_ L=>L) N0 [0,1] (A2 Om As) (λw o p j=>?_);refine cF _ rfl (r0 [(0,.t (tb (a:=u6 (k:Int)) (b:=u6 1) λ_ _ _ _=>sN (a:=k) (b:=1) Om))] [(21,u6 ((k+1:Nat):Int))] [21] ?_);exact ia (k+1) Om (by(rw[AZ As]);exact j) Om Kr [0,1] Kr
  have h:=ne_of_beq_false e;refine rF [(1,.c [] [] (qC k Om)),(2,.l 0),(3,.t (tk (show Value.bool ((((pc k):Nat):Int)==5)= .bool false from ALca Value.bool e))),(5,.d),(6,.d),(7,.d),(8,.d),(9,.d)] 34 (r0 [(0,.t (tb (a:=u6 (k:Int)) (b:=u6 1) λ_ _ _ _=>sN (a:=k) (b:=1) Om))] [(21,u6 ((k+1:Nat):Int))] [21] ?_);exact ia (k+1) Om (by(rw[A0 As]);exact f) Om Kr [0,1] Kr
 obtain rfl:k=256:=by omega
 refine jw ?_;exact kk n f a7 [] [0,1]
theorem A4(n k:Int):aa U0 180 #[i6 n,i6 k] [] [] (λE=>[ob (E.y 0) #[i6 k] 3,ob (E.y 1) #[i6 n] 3]) (λE=> .func (.func 214) #[] #[pt ((E.y 0)) 0,pt ((E.y 1)) 0]):=by
 exact fG Tryz.func180 λw b=>ra (λa=>[(2,pt (B0 a) 0),(3,pt (B1 a) 0),(4,.nilFunc)]) (λa=>[ob (B0 a) #[i6 n] 3,ob (B1 a) #[i6 k] 3]) λa=>r0 [] [(4,.func (.func 214) #[] #[pt (B1 a) 0,pt (B0 a) 0])] [4] (lf (.l [(a 1).y 0,(a 0).y 0] [] []) [1,0] [] [])
end
end E
def xt(a:Nat):Nat:=(a*2)^^^(if a.testBit 7 then 285 else 0)
def tt:List Nat:=[1,2,4,8,16,32,64,128,29,58,116,232,205,135,19,38,76,152,45,90,180,117,234,201,143,3,6,12,24,48,96,192,157,39,78,156,37,74,148,53,106,212,181,119,238,193,159,35,70,140,5,10,20,40,80,160,93,186,105,210,185,111,222,161,95,190,97,194,153,47,94,188,101,202,137,15,30,60,120,240,253,231,211,187,107,214,177,127,254,225,223,163,91,182,113,226,217,175,67,134,17,34,68,136,13,26,52,104,208,189,103,206,129,31,62,124,248,237,199,147,59,118,236,197,151,51,102,204,133,23,46,92,184,109,218,169,79,158,33,66,132,21,42,84,168,77,154,41,82,164,85,170,73,146,57,114,228,213,183,115,230,209,191,99,198,145,63,126,252,229,215,179,123,246,241,255,227,219,171,75,150,49,98,196,149,55,110,220,165,87,174,65,130,25,50,100,200,141,7,14,28,56,112,224,221,167,83,166,81,162,89,178,121,242,249,239,195,155,43,86,172,69,138,9,18,36,72,144,61,122,244,245,247,243,251,235,203,139,11,22,44,88,176,125,250,233,207,131,27,54,108,216,173,71,142]
def aU:List Nat:=[0,0,1,25,2,50,26,198,3,223,51,238,27,104,199,75,4,100,224,14,52,141,239,129,28,193,105,248,200,8,76,113,5,138,101,47,225,36,15,33,53,147,142,218,240,18,130,69,29,181,194,125,106,39,249,185,201,154,9,120,77,228,114,166,6,191,139,98,102,221,48,253,226,152,37,179,16,145,34,136,54,208,148,206,143,150,219,189,241,210,19,92,131,56,70,64,30,66,182,163,195,72,126,110,107,58,40,84,250,133,186,61,202,94,155,159,10,21,121,43,78,212,229,172,115,243,167,87,7,112,192,247,140,128,99,13,103,74,222,237,49,197,254,24,227,165,153,119,38,184,180,124,17,68,146,217,35,32,137,46,55,63,209,91,149,188,207,205,144,135,151,178,220,252,190,97,242,86,211,171,20,42,93,158,132,60,57,83,71,109,65,162,31,45,67,216,183,123,164,118,196,23,73,236,127,12,111,246,108,161,59,82,41,157,85,170,251,96,134,177,187,204,62,90,203,89,95,176,156,169,160,81,11,245,22,235,122,117,44,215,79,174,213,233,230,231,173,232,116,214,244,234,168,80,88,175]
def gE(i:Nat):Nat:=tt.getD i 0
def gL(a:Nat):Nat:=aU.getD a 0
theorem wO: ∀a,a<256→a≠0→gE (gL a)=a:=by decide+kernel
theorem A5: ∀i,i<255→gL (gE i)=i:=by decide+kernel
theorem tu: ∀i,i<255→0<gE i∧gE i<256:=by decide+kernel
theorem qD: ∀i,i<256→gL i<255:=by decide+kernel
theorem IG: ∀i,i<255→xt (gE i)=gE ((i+1)%255):=by decide+kernel
theorem IH:tt.length=255:=by decide+kernel
def UM(a b:Nat):Nat:=if a=0∨b=0 then 0 else gE ((gL a+gL b)%255)
theorem II(a b:Nat):(a^^^b)*2=(a*2)^^^(b*2):=by
 have h:=@Nat.shiftLeft_xor_distrib 1 a b;simpa [Nat.shiftLeft_eq] using h
theorem IJ(a b i k:Nat):(if(a^^^b).testBit i then k else 0)=(if a.testBit i then k else 0)^^^(if b.testBit i then k else 0):=by
 rw[Nat.testBit_xor];cases a.testBit i<;>cases b.testBit i<;>simp
theorem IK(a b c d:Nat):(a^^^b)^^^(c^^^d)=(a^^^c)^^^(b^^^d):=by
 ac_rfl
theorem IL(a b:Nat):xt (a^^^b)=xt a^^^xt b:=by
 unfold xt;rw[II,IJ,IK]
theorem IM:xt 0=0:=by decide
theorem IN(a b:Nat):UM a b<256:=by
 unfold UM
 split
 ·omega
 ·exact(tu _ (Vv _ Om)).2
theorem IP(a b:Nat):UM a b=UM b a:=by
 unfold UM;rw[Nat.add_comm (gL a)];simp only[or_comm]
theorem tx(a:Nat):UM a 0=0:=by simp [UM]
theorem tz(a:Nat):UM 0 a=0:=by simp [UM]
theorem qE(i b:Nat)(a:i<255)(c:b≠0):UM (gE i) b=gE ((i+gL b)%255):=by
 have h:=tu i a;unfold UM;rw[ALifn Om,A5 i a]
theorem wP(a b:Nat)(c:a≠0)(d:b≠0):UM a b≠0:=by
 unfold UM;rw[ALifn Om];have:=(tu ((gL a+gL b)%255) (Vv _ Om)).1;omega
theorem A6(a b:Nat)(c:a≠0)(d:b≠0):gL (UM a b)=(gL a+gL b)%255:=by
 unfold UM;rw[ALifn Om,A5 _ (Vv _ Om)]
theorem IQ(a b c:Nat):UM (UM a b) c=UM a (UM b c):=by
 by_cases e:a=0
 ·subst e;simp [tz]
 by_cases d:b=0
 ·subst d;simp [tz,tx]
 by_cases f:c=0
 ·subst f;simp [tx]
 have i:=wP a b e d;have j:=wP b c d f;have g:UM (UM a b) c=gE ((gL (UM a b)+gL c)%255):=by rw[UM,ALifn Om]
 have h:UM a (UM b c)=gE ((gL a+gL (UM b c))%255):=by rw[UM,ALifn Om]
 rw[g,h,A6 a b e d,A6 b c d f]
 congr 1
 omega
theorem wQ(i b:Nat)(c:i+1<255):UM (gE (i+1)) b=xt (UM (gE i) b):=by
 by_cases a:b=0
 ·subst a;simp [tx,IM]
 ·rw[qE _ _ c a,qE _ _ Om a,IG _ (Vv _ Om)]
  congr 1
  omega
theorem A7:gE 0=1:=by decide
theorem tA(b:Nat)(a:b<256):UM 1 b=b:=by
 by_cases h:b=0
 ·subst h;rfl
 ·have:=qD b a;rw[←A7,qE 0 b Om h,Vl,Vc this,wO b a h]
theorem IS(i:Nat):i<255→∀b c,b<256→c<256→UM (gE i) (b^^^c)=UM (gE i) b^^^UM (gE i) c:=by
 induction i with
 | zero=>
  intro _ b c a d;have f:b^^^c<256:=Nat.xor_lt_two_pow (n:=8) a d;rw[A7,tA _ f,tA _ a,tA _ d]
 | succ i ih=>
  intro e b c a d;rw[wQ _ _ e,wQ _ _ e,wQ _ _ e,ih Om b c a d,IL]
theorem IT(a b c:Nat)(d:a<256)(e:b<256)(f:c<256):UM a (b^^^c)=UM a b^^^UM a c:=by
 by_cases h:a=0
 ·subst h;simp [tz]
 ·have:=qD a d;rw[←wO a d h];exact IS _ this b c e f
def UR(b i k:Nat):Nat:=if b/2^i%2=1 then k else 0
theorem UI(b i k:Nat)(a:k<256):UR b i k<256:=by unfold UR;split<;>omega
def mJ(x y:Nat):Nat:=if x=0 then 0 else gE ((gL x+255-gL y)%255)
theorem A8(x y:Nat):mJ x y<256:=by
 unfold mJ;split
 ·omega
 ·exact(tu _ (Vv _ Om)).2
theorem A9(x y:Nat)(lx:x<256)(ly:y<256)(a:y≠0):UM (mJ x y) y=x:=by
 unfold mJ;split
 ·rename_i h;rw[h,tz]
 ·rename_i h;have b:=qD x lx;have c:=qD y ly;rw[qE _ _ (Vv _ Om) a,show((gL x+255-gL y)%255+gL y)%255=gL x from by omega,wO x lx h]
def gm(a b:UInt8):UInt8:=UInt8.ofNat (UM a.toNat b.toNat)
theorem km(a b:UInt8):(gm a b).toNat=UM a.toNat b.toNat:=by
 unfold gm;rw[VB];exact Vc (IN _ _)
theorem kR(a b:UInt8):gm a b=gm b a:=by unfold gm;rw[IP]
theorem Ba(a b c:UInt8):gm (gm a b) c=gm a (gm b c):=by
 apply UInt8.toNat_inj.1;rw[km,km,km,km,IQ]
theorem Bb(a b c:UInt8):gm a (b^^^c)=gm a b^^^gm a c:=by
 apply UInt8.toNat_inj.1;rw[km,Wy,Wy,km,km,IT _ _ _ a.toNat_lt b.toNat_lt c.toNat_lt]
theorem Bc(a b c:UInt8):gm (b^^^c) a=gm b a^^^gm c a:=by rw[kR,Bb,kR a b,kR a c]
theorem nt(a:UInt8):gm a 0=0:=by unfold gm;rw[UInt8.toNat_zero,tx];rfl
theorem lK(a:UInt8):gm 0 a=0:=by rw[kR,nt]
theorem IU(a:UInt8):gm 1 a=a:=by
 apply UInt8.toNat_inj.1;rw[km,show(1:UInt8).toNat=1 from rfl,tA _ a.toNat_lt]
theorem Bd(a:UInt8):gm a 1=a:=by rw[kR,IU]
theorem Be(a b:UInt8)(d:a≠0)(f:b≠0):gm a b≠0:=by
 intro h;have c:=ALca UInt8.toNat h;rw[km] at c;exact wP _ _ (λe=>d (UInt8.toNat_inj.1 e)) (λe=>f (UInt8.toNat_inj.1 e)) c
theorem x4(a b c d:UInt8):(a^^^b)^^^(c^^^d)=(a^^^c)^^^(b^^^d):=by ac_rfl
namespace E
section
open Go.RowKit Go.Shelf Go
def aQ:List UInt8:=tt.map UInt8.ofNat
def dn(n:Int):Nat:=(n%255).toNat
theorem wR(n:Int):dn n<255:=by unfold dn;omega
theorem IV{P:Program}{T:TypeId}{x y:Operand}{w:World}{a:Int}(h0: -9223372036854775808≤a)(h1:a≤9223372036854775807):(au .rem T x y (.int .i64 a) (.int .i64 255)).run P w= .ok (.int .i64 (a.tmod 255)) w:=rfl
theorem IW(n:Int):(bif decide (n.tmod 255<0) then n.tmod 255+255 else n.tmod 255)=((dn n:Nat):Int):=by
 have h:=Int.tmod_eq_emod (a:=n) (b:=255);unfold dn;by_cases c:n.tmod 255<0
 ·rw[cS c,ALct];split at h<;>omega
 ·rw[bg c,ALcf];split at h<;>omega
def tw(a:UInt8):UInt8:=UInt8.ofNat (xt a.toNat)
theorem Bf: ∀n,n<256→(bif (((UInt8.ofNat n&&& 128).toNat:Int) != 0) then(UInt8.ofNat (n*2^1)^^^29) else UInt8.ofNat (n*2^1))=UInt8.ofNat (xt n):=by decide+kernel
theorem IX{a:UInt8}(h:(((a&&& 128).toNat:Int) != 0)=true):Value.int .u8 ((UInt8.ofNat (a.toNat*2^1)^^^29).toNat:Int)= .int .u8 ((tw a).toNat:Int):=by
 have b:=Bf a.toNat a.toNat_lt;rw[Ws,h] at b;exact ALca (λz:UInt8=>Value.int .u8 (z.toNat:Int)) b
theorem IY{a:UInt8}(h:(((a&&& 128).toNat:Int) != 0)=false):Value.int .u8 ((UInt8.ofNat (a.toNat*2^1)).toNat:Int)= .int .u8 ((tw a).toNat:Int):=by
 have b:=Bf a.toNat a.toNat_lt;rw[Ws,h] at b;exact ALca (λz:UInt8=>Value.int .u8 (z.toNat:Int)) b
theorem IZ(a:UInt8):aa U0 184 #[u1 (a.toNat:Int)] [] [] N0 (λ_=>u1 ((tw a).toNat:Int)):=by
 refine fG Tryz.func184 λw d=>r0 [] [(2,u1 0)] [] (r0 [(1,.t (tb (a:=u1 (a.toNat:Int)) (b:=u1 128) λ_ _ _ _=>vP (a) ((128:UInt8))))] [(5,.bool (((a&&& (128:UInt8)).toNat:Int) != 0))] [] ?_);refine cB (((a&&& (128:UInt8)).toNat:Int) != 0) (λc=>?_) λc=>?_
 ·exact r0 [(1,.t (tv (au .shl 5 (.tmp 6) (.const (u6 1)) (u1 (a.toNat:Int)) (u6 1)) (λ_=>tq 1 Dc))),(2,.t (tb (a:=u1 ((UInt8.ofNat (a.toNat*2^1)).toNat:Int)) (b:=u1 29) λ_ _ _ _=>kJ ((UInt8.ofNat (a.toNat*2^1))) ((29:UInt8))))] [(2,u1 (((UInt8.ofNat (a.toNat*2^1))^^^(29:UInt8)).toNat:Int))] [2] (ak (u1 (((UInt8.ofNat (a.toNat*2^1))^^^(29:UInt8)).toNat:Int)) ab.zero (by exact IX As) [] [] [])
 exact r0 [(1,.t (tv (au .shl 5 (.tmp 9) (.const (u6 1)) (u1 (a.toNat:Int)) (u6 1)) (λ_=>tq 1 Dc)))] [(2,u1 ((UInt8.ofNat (a.toNat*2^1)).toNat:Int))] [2] (ak (u1 ((UInt8.ofNat (a.toNat*2^1)).toNat:Int)) ab.zero (by exact IY As) [] [] [])
theorem I0(n:Int)(h0: -9223372036854775808≤n)(h1:n≤9223372036854775807):aa U0 218 #[i6 n] [] [] N0 (λ_=>iN (dn n)):=by
 have f:=Int.tmod_lt_of_pos n (show(0:Int)<255 by omega);have d:=Int.lt_tmod_of_pos n (show(0:Int)<255 by omega);refine fG Tryz.func218 λw e=>r0 [] [(2,i6 0)] [] (r0 [(1,.t (tv (au .rem 3 (.tmp 3) (.const (i6 255)) (i6 n) (i6 255)) (λ_=>IV h0 h1)))] [(0,i6 (n.tmod 255))] [0] (r0 [] [(6,.bool (decide ((n.tmod 255)<0)))] [] ?_));refine cJ (decide ((n.tmod 255)<0)) (λc=>[(0,i6 (bif c then((n.tmod 255)+255) else(n.tmod 255)))]) N0 (λb=>?_) (λb=>?_) ?_
 ·have a:=of_decide_eq_true b;refine r0 [(1,aI (n.tmod 255) (255) Om)] [(0,i6 ((n.tmod 255)+255))] [0] ?_;exact cm Kr [] Kr
 ·have a:=of_decide_eq_false b;exact cm Kr [] Kr
 exact r0 [] [(2,i6 (bif decide ((n.tmod 255)<0) then((n.tmod 255)+255) else(n.tmod 255)))] [2] (ak (i6 (bif decide ((n.tmod 255)<0) then((n.tmod 255)+255) else(n.tmod 255))) ab.zero (by exact ALca (Value.int .i64) (IW n)) [] [] [])
def fF:Nat→UInt8
 | 0=>1
 | k+1=>tw (fF k)
def gM:Nat→List UInt8
 | 0=>UZ 255 0
 | k+1=>(gM k).set k (fF k)
def gN:Nat→List Nat
 | 0=>UZ 256 0
 | k+1=>(gN k).set (fF k).toNat k
theorem Bg: ∀k,(gM k).length=255
 | 0=>U6 ..
 | k+1=>by rw[gM,U9];exact Bg k
theorem Bh: ∀k,(gN k).length=256
 | 0=>U6 ..
 | k+1=>by rw[gN,U9];exact Bh k
theorem I1:gM 255=aQ:=by decide+kernel
theorem I2:gN 255=aU:=by decide+kernel
theorem I3(k:Nat):(fF k).toNat<256:=(fF k).toNat_lt
attribute [local irreducible] aQ aU gM gN fF
theorem I4:aa U0 142 #[] [] [] (λE=>[ob (E.y 0) (rB 255 aQ++rN 256 aU).toArray 312]) (λE=>pt ((E.y 0)) 0):=by
 refine fG Tryz.func142 λw f=>r0 [] [(0,.pointer none)] [] (ra (λa=>[(1,pt (B1 a) 0)]) (λa=>[ob (B1 a) (rB 255 (UZ 255 0)++rN 256 (UZ 256 0)).toArray 312]) λa=>r0 [] [(2,u1 1)] [] (r0 [] [(6,i6 0)] [] ?_));refine lq (λk=>k≤255) (λk=>[(2,u1 ((fF k).toNat:Int)),(6,iN k)]) (λk L=>L.set 0 (ob (B1 a) (rB 255 (gM k)++rN 256 (gN k)).toArray 312)) (λk=>255-k) 0 Om Kr (by rw[show gM 0=UZ 255 0 by unfold gM;rfl,show gN 0=UZ 256 0 by unfold gN;rfl];kernel_rfl) (λk e=>?_);have g:=I3 k;refine r0 [] [(7,.bool (decide ((k:Int)<255)))] [] ?_;refine b4 (k:Int) 255 (λd b=>?_) λd b=>?_
 ·exact r0 [] [(3,iN k)] [] (rs [(5,iA 310 .i64 (B1 a) 0 255 1 k),(6,wM (A:=[]) (C:=(rN 256 (gN k):List Value)) 0 (B1 a) k 312 (u1 ((fF k).toNat:Int)) (rB 255 (gM k)++rN 256 (gN k)) (rB 255 ((gM k).set k (fF k))++rN 256 (gN k)) rfl rfl rfl (jt Om) (lF (Bg ..)))] 0 (ob (B1 a) (rB 255 ((gM k).set k (fF k))++rN 256 (gN k)).toArray 312) (rs [(5,iA 296 .u8 (B1 a) 255 256 1 ((fF k).toNat)),(6,wM (A:=(rB 255 ((gM k).set k (fF k)):List Value)) (C:=[]) 0 (B1 a) ((fF k).toNat) 312 (iN k) (rB 255 ((gM k).set k (fF k))++rN 256 (gN k)) (rB 255 ((gM k).set k (fF k))++rN 256 ((gN k).set ((fF k).toNat) k)) (by rw[U2]) (by rw[U2]) jP (jt Om) (GJ (Bh ..)))] 0 (ob (B1 a) (rB 255 ((gM k).set k (fF k))++rN 256 ((gN k).set ((fF k).toNat) k)).toArray 312) (r0 [(1,.c [] [] (IZ (fF k)))] [(2,u1 ((tw (fF k)).toNat:Int))] [2] (r0 [(0,ad k 1)] [(6,iN (k+1))] [6] (le (k+1) Om Om Kr [0] (by rw[show gM (k+1)=(gM k).set k (fF k) by rw[gM],show gN (k+1)=(gN k).set (fF k).toNat k by rw[gN]];kernel_rfl))))))
 obtain rfl:k=255:=by omega
 exact cl [ob (B1 a) (rB 255 aQ++rN 256 aU).toArray 312] (by rw[I1,I2];kernel_rfl) (lx (r0 [] [(0,pt (B1 a) 0)] [0] (lf (.l [(a 1).y 0] [] []) [0] [] [])))
theorem tB(g:Nat)(n:Int)(h0: -9223372036854775808≤n)(h1:n≤9223372036854775807):aa U0 182 #[pt g 0,i6 n] [ob g (rB 255 aQ++rN 256 aU).toArray 312] [] N0 (λ_=>u1 ((aQ.getD (dn n) 0).toNat:Int)):=by
 have b:=wR n;exact fG Tryz.func182 λw a=>r0 [] [(4,u1 0)] [] (r0 [(2,.c [] [] (I0 n Om Om)),(5,iA 310 .i64 g 0 255 1 (dn n)),(6,rM (A:=[]) (C:=(rN 256 aU:List Value)) 0 g (dn n) 312 (rB 255 aQ++rN 256 aU) rfl rfl (nh Om))] [(4,u1 ((aQ.getD (dn n) 0).toNat:Int))] [4] (lf ab.zero [] [(0,0)] []))
theorem pf(a:UInt8):aU.getD a.toNat 0<255:=qD a.toNat a.toNat_lt
theorem Bi{m:Nat}(h:m<255):aQ.getD m 0=UInt8.ofNat (gE m):=by
 unfold aQ gE;rw[U8,U8,VU];have a:m<tt.length:=by rw[IH];exact h
 rw[Vk a];rfl
theorem Bj{a:UInt8}(h:((a.toNat:Int)==0)=false):a.toNat≠0:=by have:=ne_of_beq_false h;omega
theorem tC{a:UInt8}(h:((a.toNat:Int)==0)=true):a=0:=by
 have b:=eq_of_beq h;exact UInt8.toNat_inj.1 (by show a.toNat=0;omega)
theorem I5{a b:UInt8}(h:(((a.toNat:Int)==0)||((b.toNat:Int)==0))=true):Value.int .u8 0= .int .u8 ((gm a b).toNat:Int):=by
 rcases V1 _ _▸h with c | c
 ·rw[tC c,lK];rfl
 ·rw[tC c,nt];rfl
theorem I6{a b:UInt8}(h:(((a.toNat:Int)==0)||((b.toNat:Int)==0))=false):Value.int .u8 ((aQ.getD (dn (((aU.getD a.toNat 0+aU.getD b.toNat 0:Nat)):Int)) 0).toNat:Int)= .int .u8 ((gm a b).toNat:Int):=by
 rw[Wh] at h;have c:=Bj h.1;have d:=Bj h.2;rw[Bi (wR _)];unfold gm UM;rw[ALifn Om,show dn (((aU.getD a.toNat 0+aU.getD b.toNat 0:Nat)):Int)=(gL a.toNat+gL b.toNat)%255 by unfold dn gL;omega]
theorem ph(g:Nat)(a b:UInt8):aa U0 217 #[pt g 0,u1 (a.toNat:Int),u1 (b.toNat:Int)] [ob g (rB 255 aQ++rN 256 aU).toArray 312] [] N0 (λ_=>u1 ((gm a b).toNat:Int)):=by
 have i:=a.toNat_lt;have j:=b.toNat_lt;have e:=pf a;have f:=pf b;refine fG Tryz.func217 λw h=>r0 [] [(6,u1 0)] [] (r0 [] [(12,.bool (((a.toNat:Int)==0)||((b.toNat:Int)==0)))] [] ?_);refine cB (((a.toNat:Int)==0)||((b.toNat:Int)==0)) (λd=>?_) λd=>?_
 ·exact r0 [] [(6,u1 0)] [6] (ak (u1 0) ab.zero (by exact I5 As) [] [(0,0)] [])
 exact r0 [(5,iA 296 .u8 g 255 256 1 a.toNat),(6,rM (A:=(rB 255 aQ:List Value)) (C:=[]) 0 g a.toNat 312 (rB 255 aQ++rN 256 aU) (by rw[U2]) jP (qe Om)),(11,iA 296 .u8 g 255 256 1 b.toNat),(12,rM (A:=(rB 255 aQ:List Value)) (C:=[]) 0 g b.toNat 312 (rB 255 aQ++rN 256 aU) (by rw[U2]) jP (qe Om)),(13,ad (aU.getD a.toNat 0) (aU.getD b.toNat 0)),(14,.c [0] [] (tB g (((aU.getD a.toNat 0)+(aU.getD b.toNat 0):Nat):Int) Om Om))] [(6,u1 ((aQ.getD (dn (((aU.getD a.toNat 0)+(aU.getD b.toNat 0):Nat):Int)) 0).toNat:Int))] [6] (ak (u1 ((aQ.getD (dn (((aU.getD a.toNat 0)+(aU.getD b.toNat 0):Nat):Int)) 0).toNat:Int)) ab.zero (by exact I6 As) [] [(0,0)] [])
def bK(a b:UInt8):UInt8:=(bif (b.toNat:Int)==0 then(0:UInt8) else(bif (a.toNat:Int)==0 then(0:UInt8) else aQ.getD (dn (((aU.getD a.toNat 0:Nat):Int)-((aU.getD b.toNat 0:Nat):Int))) 0))
def fv(b:UInt8):Int:=(bif (b.toNat:Int)==0 then 16 else 0)
theorem Bl(g:Nat)(a b:UInt8):aa U0 257 #[pt g 0,u1 (a.toNat:Int),u1 (b.toNat:Int)] [ob g (rB 255 aQ++rN 256 aU).toArray 312] [] N0 (λ_=> .tuple #[u1 ((bK a b).toNat:Int),i6 (fv b)]):=by
 have l:=a.toNat_lt;have m:=b.toNat_lt;have i:=pf a;have j:=pf b;refine fG Tryz.func257 λw k=>r0 [] [(6,u1 0),(7,i6 0)] [] (r0 [] [(8,.bool ((b.toNat:Int)==0))] [] ?_);refine cD (b.toNat:Int) 0 (λd e=>?_) λd e=>?_
 ·exact r0 [] [(6,u1 0),(7,i6 16)] [6,7] (ak (.tuple #[u1 0,i6 16]) ab.zero (by((try simp only[bK,fv]);(repeat (first | rw[d] | rw[ALct])))<;>rfl) [] [(0,0)] [])
 refine r0 [] [(11,.bool ((a.toNat:Int)==0))] [] ?_;refine cD (a.toNat:Int) 0 (λh f=>?_) λh f=>?_
 ·exact r0 [] [(6,u1 0),(7,i6 0)] [6,7] (ak (.tuple #[u1 0,i6 0]) ab.zero (by((try simp only[bK,fv]);(repeat (first | rw[d] | rw[h] | rw[ALct] | rw[ALcf])))<;>rfl) [] [(0,0)] [])
 exact r0 [(5,iA 296 .u8 g 255 256 1 a.toNat),(6,rM (A:=(rB 255 aQ:List Value)) (C:=[]) 0 g a.toNat 312 (rB 255 aQ++rN 256 aU) (by rw[U2]) jP (qe Om)),(11,iA 296 .u8 g 255 256 1 b.toNat),(12,rM (A:=(rB 255 aQ:List Value)) (C:=[]) 0 g b.toNat 312 (rB 255 aQ++rN 256 aU) (by rw[U2]) jP (qe Om)),(13,sI ((aU.getD a.toNat 0:Nat):Int) (((aU.getD b.toNat 0:Nat):Int)) Om),(14,.c [0] [] (tB g (((aU.getD a.toNat 0:Nat):Int)-((aU.getD b.toNat 0:Nat):Int)) Om Om))] [(6,u1 ((aQ.getD (dn (((aU.getD a.toNat 0:Nat):Int)-((aU.getD b.toNat 0:Nat):Int))) 0).toNat:Int)),(7,i6 0)] [6,7] (ak (.tuple #[u1 ((aQ.getD (dn (((aU.getD a.toNat 0:Nat):Int)-((aU.getD b.toNat 0:Nat):Int))) 0).toNat:Int),i6 0]) ab.zero (by((try simp only[bK,fv]);(repeat (first | rw[d] | rw[h] | rw[ALcf])))<;>rfl) [] [(0,0)] [])
theorem I7(g:Nat)(b:UInt8):aa U0 232 #[pt g 0,u1 (b.toNat:Int)] [ob g (rB 255 aQ++rN 256 aU).toArray 312] [] N0 (λ_=> .tuple #[u1 ((bK (1:UInt8) b).toNat:Int),i6 (fv b)]):=by
 exact fG Tryz.func232 λw a=>r0 [] [(4,u1 0),(5,i6 0)] [] (r0 [(2,.c [0] [] (Bl g (1:UInt8) b))] [(4,u1 ((bK (1:UInt8) b).toNat:Int)),(5,i6 (fv b))] [4,5] (lf ab.zero [] [(0,0)] []))
def gh(a:UInt8):Nat:=(bif (a.toNat:Int)==0 then 0 else aU.getD a.toNat 0)
def lL(a:UInt8):Int:=(bif (a.toNat:Int)==0 then 16 else 0)
theorem I8(g:Nat)(a:UInt8):aa U0 274 #[pt g 0,u1 (a.toNat:Int)] [ob g (rB 255 aQ++rN 256 aU).toArray 312] [] N0 (λ_=> .tuple #[iN (gh a),i6 (lL a)]):=by
 have e:=a.toNat_lt;refine fG Tryz.func274 λw d=>r0 [] [(4,i6 0),(5,i6 0)] [] (r0 [] [(7,.bool ((a.toNat:Int)==0))] [] ?_);refine cD (a.toNat:Int) 0 (λc b=>?_) λc b=>?_
 ·exact r0 [] [(4,i6 0),(5,i6 16)] [4,5] (ak (.tuple #[i6 0,i6 16]) ab.zero (by((try simp only[gh,lL]);(repeat (first | rw[c] | rw[ALct])))<;>rfl) [] [(0,0)] [])
 exact r0 [(4,iA 296 .u8 g 255 256 1 a.toNat),(5,rM (A:=(rB 255 aQ:List Value)) (C:=[]) 0 g a.toNat 312 (rB 255 aQ++rN 256 aU) (by rw[U2]) jP (qe Om))] [(4,iN (aU.getD a.toNat 0)),(5,i6 0)] [4,5] (ak (.tuple #[iN (aU.getD a.toNat 0),i6 0]) ab.zero (by((try simp only[gh,lL]);(repeat (first | rw[c] | rw[ALcf])))<;>rfl) [] [(0,0)] [])
theorem I9(g:Nat)(a:UInt8)(n:Int):aa U0 181 #[pt g 0,u1 (a.toNat:Int),i6 n] [] [] (λE=>[ob (E.y 0) #[i6 n] 3,ob (E.y 1) #[pt g 0] 239,ob (E.y 2) #[u1 (a.toNat:Int)] 5]) (λE=> .func (.func 216) #[] #[pt ((E.y 0)) 0,pt ((E.y 1)) 0,pt ((E.y 2)) 0]):=by
 exact fG Tryz.func181 λw c=>ra (λb=>[(3,pt (B0 b) 0),(4,pt (B1 b) 0),(5,pt (B2 b) 0),(6,.nilFunc)]) (λb=>[ob (B0 b) #[pt g 0] 239,ob (B1 b) #[u1 (a.toNat:Int)] 5,ob (B2 b) #[i6 n] 3]) λb=>r0 [] [(6,.func (.func 216) #[] #[pt (B2 b) 0,pt (B0 b) 0,pt (B1 b) 0])] [6] (lf (.l [(b 2).y 0,(b 0).y 0,(b 1).y 0] [] []) [2,0,1] [] [])
def jR(a:UInt8):Nat→UInt8
 | 0=>1
 | k+1=>gm (jR a k) a
theorem Ja(h f e g:Nat)(a:UInt8):eT 5 U0 216 #[pt h 0,pt f 0,pt e 0] (λ(x:Nat×UInt8)=>#[i6 (x.1:Int),u1 (x.2.toNat:Int)]) ((Va 4).map λk=>(k,jR a k)) (Vw [[(h,.cells #[i6 4] 3 (0,0))],[(f,.cells #[pt g 0] 239 (0,0))],[(e,.cells #[u1 (a.toNat:Int)] 5 (0,0))],[(g,.cells (rB 255 aQ++rN 256 aU).toArray 312 (0,0))]]):=by
 refine gi (KO:=[[(h,.cells #[i6 4] 3 (0,0))],[(f,.cells #[pt g 0] 239 (0,0))],[(e,.cells #[u1 (a.toNat:Int)] 5 (0,0))],[(g,.cells (rB 255 aQ++rN 256 aU).toArray 312 (0,0))]]) Tryz.func216 (λs v u A y j q p=>?_);refine r0 [] [(5,u1 1)] [] (r0 [(0,.l 0)] [(8,i6 4),(9,i6 0)] [] ?_);refine jv (λk=>k≤4) (λk=>[(5,u1 ((jR a k).toNat:Int)),(9,iN k)]) (λ_ L=>L) (λk=>4-k) (λk=>k) 0 Om p Kr Kr (λk w z r d=>?_);refine r0 [] [(10,.bool (decide ((k:Int)<4)))] [] ?_;refine b4 (k:Int) 4 (λo i=>?_) λo i=>?_
 ·refine r0 [] [(6,iN k)] [] ?_;refine iy j q d 3 N0 (λ_=>[(12,.func (.yield s) #[] #[]),(13,iN k),(14,u1 ((jR a k).toNat:Int))]) [] (λ_ L=>L) N0 [0,1,2,3] (nX Om) (λt m n b=>?_);refine cF _ rfl (r0 [(0,.l 1),(2,.l 2),(3,.c [3] [] (ph g (jR a k) a))] [(5,u1 ((gm (jR a k) a).toNat:Int))] [5] (r0 [(0,ad k 1)] [(9,iN (k+1))] [9] ?_));exact ia (k+1) Om b Om Kr [0,1,2,3] Kr
 obtain rfl:k=4:=by omega
 refine jw ?_;exact kk j d a7 [] [0,1,2,3]
end
end E
def xs(n:Nat)(f:Nat→UInt8):UInt8:=
 match n with
 | 0=>0
 | n+1=>xs n f^^^f n
theorem Bm(n:Nat)(f:Nat→UInt8):xs (n+1) f=xs n f^^^f n:=rfl
theorem wS{n:Nat}{f g:Nat→UInt8}(h: ∀i,i<n→f i=g i):xs n f=xs n g:=by
 induction n with
 | zero=>rfl
 | succ n ih=>rw[xs,xs,ih (λi a=>h i Om),h n Om]
theorem od{n:Nat}{f:Nat→UInt8}(h: ∀i,i<n→f i=0):xs n f=0:=by
 induction n with
 | zero=>rfl
 | succ n ih=>rw[xs,ih (λi a=>h i Om),h n Om,Vm]
theorem Jc(n:Nat)(f g:Nat→UInt8):xs n (λi=>f i^^^g i)=xs n f^^^xs n g:=by
 induction n with
 | zero=>exact(VL (a:=0)).symm
 | succ n ih=>rw[xs,xs,xs,ih,x4]
theorem Jd(n d:Nat)(f:Nat→UInt8)(h: ∀i,n≤i→f i=0):xs (n+d) f=xs n f:=by
 induction d with
 | zero=>rfl
 | succ d ih=>rw[←WK,xs,ih,h (n+d) Om,Vm]
theorem tD{n m:Nat}(a:n≤m)(f:Nat→UInt8)(h: ∀i,n≤i→f i=0):xs m f=xs n f:=by
 have:=Jd n (m-n) f h;rwa [show n+(m-n)=m from by omega] at this
def conv(f g:Nat→UInt8)(n:Nat):UInt8:=xs (n+1) (λi=>gm (f i) (g (n-i)))
theorem Je{f a g b:Nat→UInt8}{n:Nat}(h: ∀i,i≤n→f i=a i)(c: ∀i,i≤n→g i=b i):conv f g n=conv a b n:=
 wS (λi d=>by rw[h i Om,c (n-i) Om])
theorem Jf(f g h:Nat→UInt8)(n:Nat):conv (λi=>f i^^^g i) h n=conv f h n^^^conv g h n:=by
 unfold conv
 rw[←Jc];exact wS (λi _=>Bc _ _ _)
theorem Bn(f g:Nat→UInt8)(M N:Nat)(hf: ∀i,M≤i→f i=0)(a: ∀i,N≤i→g i=0)(n:Nat)(h:M+N≤n+1):conv f g n=0:=by
 refine od (λi _=>?_);by_cases b:M≤i
 ·rw[hf i b,lK]
 ·rw[a (n-i) Om,nt]
theorem Jg(f g:Nat→UInt8)(M N:Nat)(hf: ∀i,M<i→f i=0)(b: ∀i,N<i→g i=0):conv f g (M+N)=gm (f M) (g N):=by
 unfold conv
 have a:xs (M+N+1) (λi=>gm (f i) (g (M+N-i)))=xs (M+1) (λi=>gm (f i) (g (M+N-i))):=
  tD Om _ (λi c=>by rw[hf i Om,lK])
 rw[a,xs,od (λi c=>by rw[b (M+N-i) Om,nt]),VM,show M+N-M=N from by omega]
def pw(x:UInt8):Nat→UInt8
 | 0=>1
 | n+1=>gm (pw x n) x
def ev(f:Nat→UInt8)(N:Nat)(x:UInt8):UInt8:=xs N (λi=>gm (f i) (pw x i))
def co(p:List UInt8)(i:Nat):UInt8:=p.getD i 0
theorem wT{p:List UInt8}{i:Nat}(h:i<p.length):co p i=p[i]:=by simp [co,h]
theorem lM{p:List UInt8}{i:Nat}(h:p.length≤i):co p i=0:=by simp [co,h]
def tl(p:List UInt8):Nat→Nat
 | 0=>0
 | k+1=>if co p k=0 then tl p k else k+1
def a4(p:List UInt8):Nat:=tl p p.length
theorem Jh(p:List UInt8)(k:Nat):tl p k≤k:=by
 induction k with
 | zero=>exact Vi 0
 | succ k ih=>rw[tl];split<;>omega
theorem Ji(p:List UInt8)(k:Nat): ∀i,tl p k≤i→i<k→co p i=0:=by
 induction k with
 | zero=>intro i _ h;omega
 | succ k ih=>
  intro i a d;rw[tl] at a;by_cases b:co p k=0
  ·rw[ALifp b] at a;by_cases c:i=k
   ·rw[c];exact b
   ·exact ih i a Om
  ·rw[ALifn b] at a;omega
theorem Jj(p:List UInt8)(k:Nat): ∀t,tl p k=t+1→co p t≠0:=by
 induction k with
 | zero=>intro t h;rw[tl] at h;omega
 | succ k ih=>
  intro t h;rw[tl] at h;by_cases a:co p k=0
  ·rw[ALifp a] at h;exact ih t h
  ·rw[ALifn a] at h;obtain rfl:k=t:=by omega
   exact a
theorem qF(p:List UInt8):a4 p≤p.length:=Jh p _
theorem jS(p:List UInt8){i:Nat}(h:a4 p≤i):co p i=0:=by
 by_cases a:i<p.length
 ·exact Ji p _ i h a
 ·exact lM Om
theorem oe(p:List UInt8){t:Nat}(h:a4 p=t+1):co p t≠0:=Jj p _ t h
theorem qG{p:List UInt8}{n:Nat}(h0: ∀i,n≤i→co p i=0)(h1:n=0∨co p (n-1)≠0):a4 p=n:=by
 rcases Nat.lt_trichotomy (a4 p) n with h | h | h
 ·rcases h1 with h1 | h1
  ·omega
  ·exact absurd (jS p (show a4 p≤n-1 by omega)) h1
 ·exact h
 ·have:=oe p (t:=a4 p-1) Om;exact absurd (h0 _ Om) this
theorem Bo{p q:List UInt8}(h: ∀i,co p i=co q i):a4 p=a4 q:=by
 refine qG (λi b=>by rw[h];exact jS q b) ?_;by_cases a:a4 q=0
 ·exact .inl a
 ·exact .inr (by rw[h];exact oe q Om)
theorem Jk{p:List UInt8}{n:Nat}(h0: ∀i,n≤i→co p i=0):a4 p≤n:=by
 apply VY;intro h;exact oe p (t:=a4 p-1) Om (h0 _ Om)
def ax(p:List UInt8):List UInt8:=p.take (a4 p)
theorem lN(p:List UInt8):(ax p).length=a4 p:=by unfold ax;rw[Vf];have:=qF p;omega
theorem nu(p:List UInt8)(i:Nat):co (ax p) i=co p i:=by
 by_cases h:i<a4 p
 ·unfold co ax;rw[U8,U8,V4 h]
 ·rw[jS p Om,lM (by rw[lN];omega)]
theorem Bp(p:List UInt8):a4 (ax p)=a4 p:=Bo (nu p)
theorem qH{p q:List UInt8}(c:p.length=q.length)(h: ∀i,i<p.length→co p i=co q i):p=q:=by
 refine Wz c λi a b=>?_;have:=h i a;rwa [wT a,wT b] at this
theorem Jl{p q:List UInt8}(h: ∀i,co p i=co q i):ax p=ax q:=
 qH (by rw[lN,lN,Bo h]) λi _=>by rw[nu,nu,h]
def fT(n:Nat)(f:Nat→UInt8):List UInt8:=(Va n).map f
theorem je(n:Nat)(f:Nat→UInt8):(fT n f).length=n:=by simp [fT]
theorem lO(n:Nat)(f:Nat→UInt8)(i:Nat):co (fT n f) i=if i<n then f i else 0:=by
 by_cases h:i<n
 ·rw[ALifp h,wT (by rw[je];exact h)];simp [fT]
 ·rw[ALifn h,lM (by rw[je];omega)]
theorem Jm{n:Nat}{f:Nat→UInt8}(h: ∀i,n≤i→f i=0)(i:Nat):co (fT n f) i=f i:=by
 rw[lO];split
 ·rfl
 ·exact(h i Om).symm
theorem wU(n:Nat)(f g:Nat→UInt8)(k:Nat)(v:UInt8)(b: ∀i,i<n→g i=if i=k then v else f i):(fT n f).set k v=fT n g:=by
 refine Wz (by rw[U9,je,je]) λi a c=>?_;rw[U9,je] at a;rw[List.getElem_set];simp only[fT,List.getElem_map,List.getElem_range];rw[b i a];by_cases e:k=i
 ·rw[ALifp e,ALifp e.symm]
 ·rw[ALifn e,ALifn (Ne.symm e)]
def gO(p q:List UInt8):List UInt8:=ax (fT (a4 p+a4 q) (conv (co p) (co q)))
theorem wV(p q:List UInt8)(i:Nat):co (gO p q) i=conv (co p) (co q) i:=by
 unfold gO;rw[nu,Jm];intro i a;exact Bn _ _ (a4 p) (a4 q) (λ_ h=>jS p h) (λ_ h=>jS q h) i Om
def mK(p:List UInt8)(x:UInt8):UInt8:=ev (co p) p.length x
theorem Jn(p q:List UInt8):a4 (gO p q)=if a4 p=0∨a4 q=0 then 0 else a4 p+a4 q-1:=by
 split
 ·rename_i h;refine qG (λi _=>?_) (.inl rfl);rw[wV];rcases h with h | h
  ·exact od (λj _=>by rw[jS p Om,lK])
  ·exact od (λj _=>by rw[jS q Om,nt])
 ·rename_i h;refine qG (λi a=>?_) (.inr ?_)
  ·rw[wV];exact Bn _ _ (a4 p) (a4 q) (λ_ h=>jS p h) (λ_ h=>jS q h) i Om
  ·rw[wV,show a4 p+a4 q-1-1=(a4 p-1)+(a4 q-1) from by omega,
    Jg _ _ _ _ (λi a=>jS p Om) (λi a=>jS q Om)]
   exact Be _ _ (oe p Om) (oe q Om)
theorem Jo(r:UInt8):a4 [r,1]=2:=qG (λi a=>lM (show 2≤i from a)) (.inr (show(1:UInt8)≠0 by decide))
theorem Jp(a c:UInt8):a=c^^^(a^^^c):=by rw[WC a c,←VZ,VL,VM]
theorem Jq(p q:List UInt8):(gO p q).length=a4 (gO p q):=by
 have h:a4 (gO p q)=a4 (fT (a4 p+a4 q) (conv (co p) (co q))):=by unfold gO;rw[Bp]
 rw[h];unfold gO;rw[lN]
def gP(rs:List UInt8):Nat→List UInt8
 | 0=>[1]
 | k+1=>gO (gP rs k) [co rs k,1]
def Jr(rs:List UInt8):List UInt8:=gP rs rs.length
theorem Bq(rs:List UInt8)(k:Nat):a4 (gP rs k)=k+1:=by
 induction k with
 | zero=>exact qG (λi a=>lM (show 1≤i by omega)) (.inr (show(1:UInt8)≠0 by decide))
 | succ k ih=>rw[gP,Jn,ih,Jo,ALifn Om];omega
theorem Js(rs:List UInt8)(k:Nat):(gP rs k).length=k+1:=by
 cases k with
 | zero=>rfl
 | succ k=>rw[gP,Jq];exact Bq rs (k+1)
def og(q:List UInt8)(d:Nat)(t:UInt8)(o:List UInt8)(i:Nat):List UInt8:=fT o.length λj=>if i-d≤j∧j≤i then co o j^^^gm (gm (co o i) t) (co q (j-(i-d))) else co o j
theorem Jt(q:List UInt8)(d:Nat)(t:UInt8)(o:List UInt8)(i:Nat):(og q d t o i).length=o.length:=je _ _
def bX(p q:List UInt8)(d:Nat)(t:UInt8):Nat→List UInt8
 | 0=>p
 | k+1=>og q d t (bX p q d t k) (p.length-1-k)
theorem qI(p q:List UInt8)(d:Nat)(t:UInt8)(k:Nat):(bX p q d t k).length=p.length:=by
 induction k with
 | zero=>rfl
 | succ k ih=>rw[bX,Jt,ih]
def dT(p q:List UInt8)(t:UInt8):List UInt8:=ax (bX p q (a4 q-1) t (p.length-(a4 q-1)))
theorem Ju{q o:List UInt8}{d:Nat}{t:UInt8}{i:Nat}(l:a4 q=d+1)(k:d≤i)(m:i<o.length)(j:Nat):
  co (og q d t o i) j=co o j^^^conv (λa=>if a=i-d then gm (co o i) t else 0) (co q) j:=by
 have g:conv (λa=>if a=i-d then gm (co o i) t else 0) (co q) j=if i-d≤j then gm (gm (co o i) t) (co q (j-(i-d))) else 0:=by
  unfold conv
  by_cases h:i-d≤j
  ·rw[ALifp h];have b:xs (j+1) (λa=>gm (if a=i-d then gm (co o i) t else 0) (co q (j-a)))=xs (i-d+1) (λa=>gm (if a=i-d then gm (co o i) t else 0) (co q (j-a))):=
    tD Om _ λa c=>by
     show gm (if a=i-d then gm (co o i) t else 0) (co q (j-a))=0;rw[ALifn Om,lK]
   rw[b,Bm,od (λa c=>by
    show gm (if a=i-d then gm (co o i) t else 0) (co q (j-a))=0;rw[ALifn Om,lK]),ALifp rfl,VM]
  ·rw[ALifn h];exact od λa c=>by
    show gm (if a=i-d then gm (co o i) t else 0) (co q (j-a))=0;rw[ALifn Om,lK]
 rw[g];unfold og;rw[lO];by_cases e:j<o.length
 ·rw[ALifp e];by_cases b:i-d≤j
  ·rw[ALifp b];by_cases f:j≤i
   ·rw[ALifp ⟨b,f⟩]
   ·rw[ALifn Om,jS q Om,nt,Vm]
  ·rw[ALifn Om,ALifn b,Vm]
 ·rw[ALifn e,lM (p:=o) Om]
  split
  ·rw[jS q Om,nt];rfl
  ·rfl
theorem Jv{p q:List UInt8}{d:Nat}{t:UInt8}(g:a4 q=d+1)(ht:gm (co q d) t=1)(k:Nat)(r:k≤p.length-d):
  (∃s:Nat→UInt8,(∀i,p.length≤i→s i=0)∧∀j,co p j=co (bX p q d t k) j^^^conv s (co q) j)∧∀j,p.length-k≤j→co (bX p q d t k) j=0:=by
 induction k with
 | zero=>exact⟨⟨λ_=>0,λ_ _=>rfl,λj=>by
   rw[show conv (λ_=>0) (co q) j=0 from od λi _=>lK _,Vm];rfl⟩,λj l=>lM (by rw[qI];omega)⟩
 | succ k ih=>
  obtain⟨⟨s,b,m⟩,n⟩:=ih Om;have u:=qI p q d t k;have e:=λj=>Ju (q:=q) (o:=bX p q d t k) (d:=d) (t:=t) (i:=p.length-1-k) g Om Om j;refine⟨⟨λa=>s a^^^(if a=p.length-1-k-d then gm (co (bX p q d t k) (p.length-1-k)) t else 0),λi h=>by
   show s i^^^(if i=p.length-1-k-d then gm (co (bX p q d t k) (p.length-1-k)) t else 0)=0;rw[b i h,ALifn Om];rfl,λj=>?_⟩,λj l=>?_⟩
  ·rw[Jf,bX,e j,m j,VZ]
   congr 1
   exact Jp _ _
  ·rw[bX];unfold og;rw[lO];by_cases c:j<(bX p q d t k).length
   ·rw[ALifp c];by_cases f:p.length-1-k=j
    ·subst f;rw[ALifp Om,show p.length-1-k-(p.length-1-k-d)=d from by omega,Ba,kR t,ht,Bd,VL]
    ·rw[ALifn Om];exact n j Om
   ·rw[ALifn c]
theorem Jw{p q:List UInt8}{t:UInt8}(h0:0<a4 q)(ht:gm (co q (a4 q-1)) t=1):
  (∃s:Nat→UInt8,(∀i,p.length≤i→s i=0)∧∀j,co p j=co (dT p q t) j^^^conv s (co q) j)∧a4 (dT p q t)<a4 q:=by
 obtain⟨a,b⟩:=Jv (p:=p) (q:=q) (d:=a4 q-1) (t:=t) Om ht (p.length-(a4 q-1)) (Vi _);refine⟨?_,?_⟩
 ·obtain⟨s,c,f⟩:=a;exact⟨s,c,λj=>by rw[f j];unfold dT;rw[nu]⟩
 ·have g:a4 (dT p q t)≤a4 q-1:=Jk λi h=>by
   unfold dT;rw[nu];by_cases e:p.length≤a4 q-1
   ·exact lM (by rw[qI];omega)
   ·exact b i Om
  omega
theorem Jy(p q:List UInt8)(t:UInt8):a4 (dT p q t)=(dT p q t).length:=by unfold dT;rw[Bp,lN]

theorem Br(n:Nat)(f:Nat→UInt8)(h: ∀i,i<n→f i=0):fT n f=UZ n 0:=by
 refine qH (by rw[je,U6]) λi a=>?_;rw[je] at a;rw[lO,ALifp a,h i a];simp [co,a]
theorem tE{n:Nat}{f g:Nat→UInt8}(h: ∀i,i<n→f i=g i):fT n f=fT n g:=by
 unfold fT;exact VO λi a=>h i (List.mem_range.1 a)
theorem Jz(p:List UInt8):fT p.length (co p)=p:=qH (je _ _) λi a=>by rw[je] at a;rw[lO,ALifp a]
def nv(p q:List UInt8)(i t:Nat):UInt8:=xs i λa=>if a≤t then gm (co p a) (co q (t-a)) else 0
def oh(p q:List UInt8)(i j t:Nat):UInt8:=nv p q i t^^^(if i≤t∧t<i+j then gm (co p i) (co q (t-i)) else 0)
theorem wW(p q:List UInt8)(i t:Nat):oh p q i 0 t=nv p q i t:=by
 unfold oh;rw[ALifn Om,Vm]
theorem JA{p q:List UInt8}(i t:Nat):oh p q i q.length t=nv p q (i+1) t:=by
 unfold oh nv;rw[Bm]
 congr 1
 by_cases h:i≤t
 ·rw[ALifp h];by_cases a:t<i+q.length
  ·rw[ALifp ⟨h,a⟩]
  ·rw[ALifn Om,lM (p:=q) Om,nt]
 ·rw[ALifn Om,ALifn h]
theorem JB{p q:List UInt8}(t:Nat):nv p q p.length t=conv (co p) (co q) t:=by
 unfold nv conv
 have c: ∀a,(t+1≤a∨p.length≤a)→(if a≤t then gm (co p a) (co q (t-a)) else 0)=0:=λa e=>by
  by_cases h:a≤t
  ·rw[ALifp h,lM (p:=p) Om,lK]
  ·rw[ALifn h]
 have d:xs (t+1) (λa=>gm (co p a) (co q (t-a)))=xs (t+1) λa=>if a≤t then gm (co p a) (co q (t-a)) else 0:=wS λi b=>by rw[ALifp Om]
 rw[d];rcases Nat.le_total (t+1) p.length with h | h
 ·exact tD h _ λi b=>c i (.inl b)
 ·exact(tD h _ λi b=>c i (.inr b)).symm
def ez(p q:List UInt8)(i j:Nat):List UInt8:=fT (p.length+q.length) (oh p q i j)
theorem Bs(p q:List UInt8)(i j:Nat):(ez p q i j).length=p.length+q.length:=je _ _
theorem JC(p q:List UInt8):ez p q 0 0=UZ (p.length+q.length) 0:=Br _ _ λi _=>by rw[wW];rfl
theorem JD(p q:List UInt8)(i:Nat):ez p q i q.length=ez p q (i+1) 0:=tE λt _=>by rw[JA,wW]
theorem JE{p q:List UInt8}{i j:Nat}(h:i+j<p.length+q.length):co (ez p q i j) (i+j)=nv p q i (i+j):=by
 unfold ez;rw[lO,ALifp h];unfold oh;rw[ALifn Om,Vm]
theorem JF{p q:List UInt8}{i j:Nat}:(ez p q i j).set (i+j) (nv p q i (i+j)^^^gm (co p i) (co q j))=ez p q i (j+1):=
 wU _ _ _ _ _ λt _=>by
  unfold oh;by_cases e:t=i+j
  ·subst e;rw[ALifp Om,ALifp rfl,V7]
  ·rw[ALifn e];by_cases h:i≤t∧t<i+j
   ·rw[ALifp Om,ALifp h]
   ·rw[ALifn Om,ALifn h]
theorem JG(p q:List UInt8):ax (ez (ax p) (ax q) (a4 p) 0)=gO p q:=by
 unfold gO ez;rw[lN,lN];refine Jl λt=>?_;rw[lO,lO]
 split
 ·have h:=JB (p:=ax p) (q:=ax q) t;rw[lN] at h;rw[wW,h];exact Je (λi _=>nu p i) (λi _=>nu q i)
 ·rfl
def e8(q:List UInt8)(a:UInt8)(o:List UInt8)(z j:Nat):List UInt8:=fT o.length λx=>if z≤x∧x<z+j then co o x^^^gm a (co q (x-z)) else co o x
theorem JH(q:List UInt8)(a:UInt8)(o:List UInt8)(z j:Nat):(e8 q a o z j).length=o.length:=je _ _
theorem JI(q:List UInt8)(a:UInt8)(o:List UInt8)(z:Nat):e8 q a o z 0=o:=by
 unfold e8;rw[tE (g:=co o) λi _=>ALifn Om];exact Jz o
theorem JJ{q:List UInt8}{a:UInt8}{o:List UInt8}{z j:Nat}(h:z+j<o.length):co (e8 q a o z j) (z+j)=co o (z+j):=by
 unfold e8;rw[lO,ALifp h,ALifn Om]
theorem JK{q:List UInt8}{a:UInt8}{o:List UInt8}{z j:Nat}:(e8 q a o z j).set (z+j) (co o (z+j)^^^gm a (co q j))=e8 q a o z (j+1):=
 wU _ _ _ _ _ λt _=>by
  by_cases e:t=z+j
  ·subst e;rw[ALifp Om,ALifp rfl,V7]
  ·rw[ALifn e];by_cases h:z≤t∧t<z+j
   ·rw[ALifp Om,ALifp h]
   ·rw[ALifn Om,ALifn h]
theorem JL{q:List UInt8}{t:UInt8}{o:List UInt8}{d i:Nat}(h:d≤i):e8 q (gm (co o i) t) o (i-d) (d+1)=og q d t o i:=by
 unfold e8 og;refine tE λx _=>?_;by_cases a:i-d≤x∧x<i-d+(d+1)
 ·rw[ALifp a,ALifp Om]
 ·rw[ALifn a,ALifn Om]
def hv(p:List UInt8)(x:UInt8):Nat→UInt8
 | 0=>0
 | j+1=>gm (hv p x j) x^^^co p (p.length-1-j)
theorem JM(p:List UInt8)(x:UInt8)(j:Nat)(e:j≤p.length):gm (hv p x j) (pw x (p.length-j))^^^ev (co p) (p.length-j) x=mK p x:=by
 induction j with
 | zero=>rw[hv,lK,VM,VC];rfl
 | succ j ih=>
  rw[←ih Om,hv,Bc];obtain⟨m,d⟩: ∃m,p.length-(j+1)=m:=⟨_,rfl⟩;have b:p.length-j=m+1:=by omega
  have c:p.length-1-j=m:=by omega
  have a:ev (co p) (m+1) x=ev (co p) m x^^^gm (co p m) (pw x m):=rfl;rw[d,b,c,a,pw,Ba,kR x,VZ,WC (gm (co p m) (pw x m))]
theorem JN(p:List UInt8)(x:UInt8):hv p x p.length=mK p x:=by
 have h:=JM p x p.length (Vi _);rw[VX,pw,Bd,show ev (co p) 0 x=0 from rfl,Vm] at h;exact h
namespace E
section
open Go.RowKit Go.Shelf Go
def kB:Kd U0 UInt8:=⟨eB,[u1 0],191,5,0,1,λ_=>rfl,rfl,λ_=>rfl,dS.mk' Kr Kr rfl⟩
def oi:Value→Bool
 | .slice none _ _=>true
 | _=>false
theorem JO{i:Nat}{w:World}{α:Type}{en:α→List Value}{v:Value}{xs:List α}{bs:av}(h:aJ en v xs bs):(au .eql 191 (.tmp i) (.const (.slice none 0 0)) v (.slice none 0 0)).run U0 w= .ok (.bool (oi v)) w:=by
 obtain⟨a,r,rfl⟩:=h.2;cases a<;>kernel_rfl
theorem tF{α:Type}{en:α→List Value}{v:Value}{xs:List α}{bs:av}(h:aJ en v xs bs)(h1:oi v=true):xs=[]:=by
 rcases h.1 with⟨a,_⟩ | ⟨g,b,d,t,e,c,rfl,_⟩
 ·exact a
 ·cases h1
theorem Bt(v:Value)(xs:List UInt8)(g:xs.length≤1000000):aa U0 233 #[v] [.p (aJ eB v xs)] [] (λE=>[br (E.val 0) xs]) (λE=>(E.val 0)):=by
 refine fO Tryz.func233 0 rfl λd a=>fG Tryz.func233 λw f=>r0 [] [(2,.slice none 0 0)] [] (r0 [(1,.t (tv (au .eql 191 (.tmp 3) (.const (.slice none 0 0)) (v) (.slice none 0 0)) (λ_=>JO a)))] [(4,.bool (oi v))] [] ?_);refine cB (oi v) (λe=>?_) λe=>?_
 ·exact r0 [] [(2,.slice none 0 0)] [2] (cz kB (lf (.l [] [] [.slice none 0 0]) [1] [(0,0)] [] (hf:=by(try rewrite [tF a As]);kernel_rfl)))
 exact rr (λb=>[(0,.m (ql 1 eB ([u1 0]) 5)),(2,.m (lG 1 0 n4 (.slice (some ⟨(b 0).y 0,0,none⟩) 0 0) (v) (xs:=[]) (ys:=xs) (.c d) (cP a.1) n2 (λ_=>rfl) (by simp only[LL];omega)))]) (λb=>[(2,(b 2).val 0)]) [2] (λb L=>L++[br ((b 2).val 0) (([])++xs)]) λb=>lf (.l [] [] [(b 2).val 0]) [1] [(0,0)] [] (hf:=by(try rewrite [tF a As]);kernel_rfl)
theorem wX{P:Program}{T:TypeId}{x y:Operand}{w:World}{a:Int}{k:Nat}(h0: -9223372036854775807≤a-(k:Int))(h1:a-(k:Int)≤9223372036854775807):(au .sub T x y (.int .i64 (a-(k:Int))) (.int .i64 1)).run P w= .ok (.int .i64 (a-((k+1:Nat):Int))) w:=by
 have h:=pU (P:=P) (T:=T) (x:=x) (y:=y) (w:=w) (a:=a-(k:Int)) (b:=1) Om Om;rw[show a-(k:Int)-1=a-((k+1:Nat):Int) by omega] at h;exact h
theorem JP{P:Program}{T:TypeId}{x y:Operand}{w:World}{k:Nat}(h:k<9223372036854775807):(au .add T x y (.int .i64 ((k:Int)-1)) (.int .i64 1)).run P w= .ok (.int .i64 (k:Int)) w:=by
 have h:=pT (P:=P) (T:=T) (x:=x) (y:=y) (w:=w) (a:=(k:Int)-1) (b:=1) Om Om;rw[show(k:Int)-1+1=k by omega] at h;exact h
theorem JQ{xs:List UInt8}:tl xs (xs.length-0)=a4 xs:=rfl
theorem JR{xs:List UInt8}{k:Nat}(ht:tl xs (xs.length-k)=a4 xs)(a:0≤((xs.length:Nat):Int)-1-(k:Int))(h:(((xs.getD (xs.length-1-k) 0).toNat:Int)==0)=true):tl xs (xs.length-(k+1))=a4 xs:=by
 rw[show xs.length-k=(xs.length-1-k)+1 by omega,tl,ALifp (show Go.Proofs.YtbcodenfkijdnaaGreat.co xs (xs.length-1-k)=0 from tC h)] at ht;rw[←ht]
 congr 1
 omega
theorem JS{xs:List UInt8}{k:Nat}(ht:tl xs (xs.length-k)=a4 xs)(c:0≤((xs.length:Nat):Int)-1-(k:Int))(h:(((xs.getD (xs.length-1-k) 0).toNat:Int)==0)=false):Value.int .i64 (((xs.length:Nat):Int)-1-(k:Int))= .int .i64 (((a4 xs:Nat):Int)-1):=by
 have b:Go.Proofs.YtbcodenfkijdnaaGreat.co xs (xs.length-1-k)≠0:=λe=>by
  have a:xs.getD (xs.length-1-k) 0=0:=e;rw[a] at h;cases h
 rw[show xs.length-k=(xs.length-1-k)+1 by omega,tl,ALifn b] at ht;exact ALca (Value.int .i64) Om
theorem JT{xs:List UInt8}{k:Nat}(ht:tl xs (xs.length-k)=a4 xs)(a:k≤xs.length)(b: ¬0≤((xs.length:Nat):Int)-1-(k:Int)):Value.int .i64 (((xs.length:Nat):Int)-1-(k:Int))= .int .i64 (((a4 xs:Nat):Int)-1):=by
 rw[show xs.length-k=0 by omega] at ht;rw[←ht];exact ALca (Value.int .i64) (by show _=((0:Nat):Int)-1;omega)
attribute [local irreducible] a4
theorem Bu(v:Value)(xs:List UInt8)(l:xs.length≤1000000):aa U0 231 #[v] [.p (aJ eB v xs)] [] N0 (λ_=>i6 (((a4 xs:Nat):Int)-1)):=by
 refine fO Tryz.func231 0 rfl λg a=>fG Tryz.func231 λw j=>r0 [] [(2,i6 0)] [] (r0 [(1,ey a.1 0),(2,sI (xs.length:Int) (1) Om)] [(3,i6 ((xs.length:Int)-1))] [] ?_);refine lq (λk=>k≤xs.length∧(tl xs (xs.length-k)=a4 xs)) (λk=>[(3,i6 (((xs.length:Nat):Int)-1-((k:Nat):Int)))]) (λ_ L=>L) (λk=>xs.length-k) 0 ⟨by omega,JQ⟩ (by rw[show((xs.length:Nat):Int)-1-((0:Nat):Int)=(xs.length:Int)-1 by omega];kernel_rfl) Kr (λk ⟨i,f⟩=>?_);cases b:(decide (0≤(((xs.length:Nat):Int)-1-((k:Nat):Int))))
 case true=>
  have c:=of_decide_eq_true b;refine r0 [(1,.t (tk (show Value.bool (decide (0≤(((xs.length:Nat):Int)-1-((k:Nat):Int))))= .bool true from ALca Value.bool b))),(4,.t (tk (show i6 (((xs.length:Nat):Int)-1-((k:Nat):Int))=iN (xs.length-1-k) from ALca (Value.int .i64) Om))),(5,e7 a.1 0 (xs.length-1-k) 1),(6,iz kB a.1 0 (xs.length-1-k) 0)] [(15,.bool (((xs.getD (xs.length-1-k) 0).toNat:Int)==0))] [] ?_;refine cD ((xs.getD (xs.length-1-k) 0).toNat:Int) 0 (λh e=>?_) λh e=>?_
  ·exact r0 [(1,.t (tv (au .sub 3 (.tmp 16) (.const (i6 1)) (i6 (((xs.length:Nat):Int)-1-((k:Nat):Int))) (i6 1)) (λ_=>wX Om Om)))] [(3,i6 (((xs.length:Nat):Int)-1-((k+1:Nat):Int)))] [3] (le (k+1) ⟨by omega,JR f As As⟩ Om Kr [0] Kr)
  exact lx (r0 [] [(2,i6 (((xs.length:Nat):Int)-1-((k:Nat):Int)))] [2] (ak (i6 (((xs.length:Nat):Int)-1-((k:Nat):Int))) ab.zero (by exact JS f As As) [] [(0,0)] []))
 have c:=of_decide_eq_false b;exact rF [(1,.t (tk (show Value.bool (decide (0≤(((xs.length:Nat):Int)-1-((k:Nat):Int))))= .bool false from ALca Value.bool b))),(3,.d),(4,.d),(5,.d),(6,.d),(7,.d)] 15 (lx (r0 [] [(2,i6 (((xs.length:Nat):Int)-1-((k:Nat):Int)))] [2] (ak (i6 (((xs.length:Nat):Int)-1-((k:Nat):Int))) ab.zero (by exact JT f As As) [] [(0,0)] [])))
theorem JU(v:Value)(xs:List UInt8)(n:Nat)(a:n≤xs.length)(b:xs.length≤1000000):aa U0 233 #[gx v 0 n 1] [.p (aJ eB v xs)] [] (λE=>[br (E.val 0) (xs.take n)]) (λE=>E.val 0):=
 aa.at (Bt (gx v 0 n 1) (xs.take n) (by rw[Vf];omega)) (bN (λ_ h=>aJ.take (en:=eB) (k:=1) (λ_=>rfl) h a) λ_ h=>h)
theorem tH(v:Value)(xs:List UInt8)(g:xs.length≤1000000):aa U0 234 #[v] [.p (aJ eB v xs)] [] (λE=>[br (E.val 0) (ax xs)]) (λE=>(E.val 0)):=by
 have e:=qF xs;exact fO Tryz.func234 0 rfl λa b=>fG Tryz.func234 λw f=>r0 [] [(2,.slice none 0 0)] [] (rr (λ_=>[(2,.c [0] [] (aa.at (rd':=[.c a]) (Bu v xs Om) (ec b (λ_ h=>h)))),(3,.t (tv (au .add 3 (.tmp 5) (.const (i6 1)) (i6 (((a4 xs:Nat):Int)-1)) (i6 1)) (λ_=>JP Om))),(4,.m (AN 0 (.c a) (a4 xs) 1 (cP b) Om)),(5,.c [0] [1] (aa.at (rd':=[.c a]) (JU v xs (a4 xs) Om Om) (ec b (λ_ h=>h))))]) (λd=>[(2,(d 5).val 0)]) [2] (λd L=>L++[br ((d 5).val 0) ((xs).take ((a4 xs)))]) λd=>lf (.l [] [] [((d 5).val 0),(d 5).val 0]) [1] [(0,0)] [] (hf:=by kernel_rfl))
attribute [local irreducible] ax
theorem JV{p q:List UInt8}{i j:Nat}(h:i+j<p.length+q.length):ez p q i (j+1)=(ez p q i j).set (i+j) ((ez p q i j).getD (i+j) 0^^^gm (p.getD i 0) (q.getD j 0)):=by
 rw[←JF,←JE h];rfl
attribute [local irreducible] ez
theorem JW(g:Nat)(v u:Value)(p q:List UInt8)(hp:p.length≤50000)(J:q.length≤50000):aa U0 219 #[pt g 0,v,u] [ob g (rB 255 aQ++rN 256 aU).toArray 312,.p (aJ eB v p),.p (aJ eB u q)] [] (λE=>[br (E.val 0) (gO p q)]) (λE=>(E.val 0)):=by
 refine fO Tryz.func219 1 rfl λm x=>fO Tryz.func219 2 rfl λn y=>fG Tryz.func219 λw I=>?_;have s:=lN p;have C:=lN q;have G:=qF p;have H:=qF q;refine r0 [] [(6,.slice none 0 0)] [] (rr (λd=>[(1,.c [1] [3] (aa.at (rd':=[.c m]) (tH v p Om) (ec x (λ_ h=>h)))),(3,.c [2] [4] (aa.at (rd':=[.c n]) (tH u q Om) (ec y (λ_ h=>h))))]) (λd=>[(1,((d 1).val 0)),(2,((d 3).val 0))]) [1,2] (λd L=>L++[br ((d 1).val 0) (ax p),br ((d 3).val 0) (ax q)]) λd=>rr (λ_=>[(1,ew kB ((d 1).val 0) (ax p) 3),(3,ew kB ((d 3).val 0) (ax q) 4),(4,ad ((ax p).length) ((ax q).length)),(5,qA kB 5 (((ax p).length)+((ax q).length)))]) (λf=>[(7,.slice (some ⟨(f 5).y 0,0,none⟩) (((ax p).length)+((ax q).length)) (((ax p).length)+((ax q).length)))]) [] (λf L=>L++[br (.slice (some ⟨(f 5).y 0,0,none⟩) (((ax p).length)+((ax q).length)) (((ax p).length)+((ax q).length))) (UZ (((ax p).length)+((ax q).length)) 0)]) λf=>r0 [(1,ew kB ((d 1).val 0) (ax p) 3)] [(22,((d 1).val 0)),(23,iN ((ax p).length)),(24,i6 0)] [] ?_);refine lq (λi=>i≤(ax p).length) (λi=>[(24,iN i)]) (λi L=>L.set 5 (br (.slice (some ⟨(f 5).y 0,0,none⟩) (((ax p).length)+((ax q).length)) (((ax p).length)+((ax q).length))) (ez (ax p) (ax q) i 0))) (λi=>((ax p).length)-i) 0 Om Kr (by rw[JC];kernel_rfl) (λi B=>?_);refine r0 [] [(25,.bool (decide ((i:Int)<(((ax p).length:Nat):Int))))] [] ?_;refine b4 (i:Int) (((ax p).length:Nat):Int) (λA o=>?_) λA o=>?_
 ·refine r0 [(1,cp kB ((d 1).val 0) (ax p) 3 i),(2,eL kB ((d 1).val 0) (ax p) 3 i 0)] [(8,iN i),(9,u1 (((ax p).getD i 0).toNat:Int))] [] (r0 [(1,ew kB ((d 3).val 0) (ax q) 4)] [(29,((d 3).val 0)),(30,iN ((ax q).length)),(31,i6 0)] [] ?_);refine lq (λj=>j≤(ax q).length) (λj=>[(31,iN j)]) (λj L=>L.set 5 (br (.slice (some ⟨(f 5).y 0,0,none⟩) (((ax p).length)+((ax q).length)) (((ax p).length)+((ax q).length))) (ez (ax p) (ax q) i j))) (λj=>((ax q).length)-j) 0 Om Kr Kr (λj z=>?_);have F:=Bs (ax p) (ax q) i j;refine r0 [] [(32,.bool (decide ((j:Int)<(((ax q).length:Nat):Int))))] [] ?_;refine b4 (j:Int) (((ax q).length:Nat):Int) (λr k=>?_) λr k=>?_
  ·exact r0 [(1,cp kB ((d 3).val 0) (ax q) 4 j),(2,eL kB ((d 3).val 0) (ax q) 4 j 0)] [(10,iN j),(11,u1 (((ax q).getD j 0).toNat:Int))] [] (rs [(3,ad i j),(4,cp kB (.slice (some ⟨(f 5).y 0,0,none⟩) (((ax p).length)+((ax q).length)) (((ax p).length)+((ax q).length))) (ez (ax p) (ax q) i j) 5 (i+j)),(5,eL kB (.slice (some ⟨(f 5).y 0,0,none⟩) (((ax p).length)+((ax q).length)) (((ax p).length)+((ax q).length))) (ez (ax p) (ax q) i j) 5 (i+j) 0),(9,.c [0] [] (ph g ((ax p).getD i 0) ((ax q).getD j 0))),(10,.t (tb (a:=u1 (((ez (ax p) (ax q) i j).getD (i+j) 0).toNat:Int)) (b:=u1 ((gm ((ax p).getD i 0) ((ax q).getD j 0)).toNat:Int)) λ_ _ _ _=>kJ ((ez (ax p) (ax q) i j).getD (i+j) 0) ((gm ((ax p).getD i 0) ((ax q).getD j 0))))),(11,cp kB (.slice (some ⟨(f 5).y 0,0,none⟩) (((ax p).length)+((ax q).length)) (((ax p).length)+((ax q).length))) (ez (ax p) (ax q) i j) 5 (i+j)),(12,qu kB (.slice (some ⟨(f 5).y 0,0,none⟩) (((ax p).length)+((ax q).length)) (((ax p).length)+((ax q).length))) (ez (ax p) (ax q) i j) 5 (i+j) 0 (((ez (ax p) (ax q) i j).getD (i+j) 0)^^^(gm ((ax p).getD i 0) ((ax q).getD j 0))) (u1 ((((ez (ax p) (ax q) i j).getD (i+j) 0)^^^(gm ((ax p).getD i 0) ((ax q).getD j 0))).toNat:Int)) Kr)] 5 (br (.slice (some ⟨(f 5).y 0,0,none⟩) (((ax p).length)+((ax q).length)) (((ax p).length)+((ax q).length))) ((ez (ax p) (ax q) i j).set (i+j) (((ez (ax p) (ax q) i j).getD (i+j) 0)^^^(gm ((ax p).getD i 0) ((ax q).getD j 0))))) (r0 [(0,ad j 1)] [(31,iN (j+1))] [31] (le (j+1) Om Om Kr [0,1,2,3,4,5] (by rw[JV Om];kernel_rfl))))
  obtain rfl:j=(ax q).length:=by omega
  exact lx (r0 [(0,ad i 1)] [(24,iN (i+1))] [24] (le (i+1) Om Om Kr [0,1,2,3,4,5] (by rw[←JD (ax p) (ax q) i];kernel_rfl)))
 obtain rfl:i=(ax p).length:=by omega
 have D:=Bs (ax p) (ax q) (ax p).length 0;exact lx (rr (λ_=>[(1,.c [5] [6] (aa.at (rd':=[br (.slice (some ⟨(f 5).y 0,0,none⟩) (((ax p).length)+((ax q).length)) (((ax p).length)+((ax q).length))) (ez (ax p) (ax q) ((ax p).length) 0)]) (tH (.slice (some ⟨(f 5).y 0,0,none⟩) (((ax p).length)+((ax q).length)) (((ax p).length)+((ax q).length))) (ez (ax p) (ax q) ((ax p).length) 0) Om) (bN (λ_ h=>ao.sq h) (λ_ h=>h))))]) (λe=>[(6,((e 1).val 0))]) [6] (λe L=>L++[br ((e 1).val 0) (ax (ez (ax p) (ax q) ((ax p).length) 0))]) λe=>lf (.l [] [] [((e 1).val 0),(e 1).val 0]) [6] [(0,0),(1,1),(2,2)] [] (hf:=by rw[←JG,←s];kernel_rfl))
theorem JX{q:List UInt8}{a:UInt8}{o:List UInt8}{z j:Nat}(h:z+j<o.length):e8 q a o z (j+1)=(e8 q a o z j).set (z+j) ((e8 q a o z j).getD (z+j) 0^^^gm a (q.getD j 0)):=by
 rw[←JK,←JJ h];rfl
theorem JY{p q:List UInt8}{d k:Nat}{t:UInt8}(h:d≤p.length-1-k):bX p q d t (k+1)=e8 q (gm ((bX p q d t k).getD (p.length-1-k) 0) t) (bX p q d t k) (p.length-1-k-d) (d+1):=(JL h).symm
theorem Bv{b:UInt8}(h:b≠0):(fv b != 0)=false:=by
 unfold fv;rw[show((b.toNat:Int)==0)=false from beq_false_of_ne λe=>h (UInt8.toNat_inj.1 (by show b.toNat=0;omega))];rfl
attribute [local irreducible] bX e8
theorem JZ(g:Nat)(v u:Value)(p q:List UInt8)(d:Nat)(t:UInt8)(hp:p.length≤50000)(N:q.length≤50000)(B:a4 q=d+1)(I:d≤p.length)(ht:bK 1 (q.getD d 0)=t):aa U0 203 #[pt g 0,v,u] [ob g (rB 255 aQ++rN 256 aU).toArray 312,.p (aJ eB v p),.p (aJ eB u q)] [] (λE=>[br (E.val 0) (dT p q t)]) (λE=> .tuple #[(E.val 0),i6 0]):=by
 refine fO Tryz.func203 1 rfl λo y=>fO Tryz.func203 2 rfl λr i=>fG Tryz.func203 λw M=>?_;have K:=qF q;have A:q.getD d 0≠0:=oe q B;refine r0 [] [(6,.slice none 0 0),(7,i6 0)] [] (rr (λJ=>[(1,.c [2] [] (aa.at (rd':=[.c r]) (Bu u q Om) (ec i (λ_ h=>h)))),(2,.t (tk (show i6 (((a4 q:Nat):Int)-1)=iN d from ALca (Value.int .i64) Om)))]) (λ_=>[(8,iN d)]) [] (λ_ L=>L) λJ=>rF [(1,.t (tk (show Value.bool (decide ((d:Int)<0))= .bool false from ALca Value.bool (by exact bg Om))))] 18 (r0 [(3,e7 i.1 2 d 1),(4,iz kB i.1 2 d 0),(5,.c [0] [] (I7 g (q.getD d 0))),(9,.t (tk (show u1 ((bK (1:UInt8) (q.getD d 0)).toNat:Int)=u1 (t.toNat:Int) from ALca (λz:UInt8=>Value.int .u8 (z.toNat:Int)) ht)))] [(9,u1 (t.toNat:Int)),(10,i6 (fv (q.getD d 0)))] [] (rF [(1,.t (tk (show Value.bool ((fv (q.getD d 0)) != 0)= .bool false from ALca Value.bool (by exact Bv A))))] 29 (rr (λ_=>[(1,.c [1] [3] (aa.at (rd':=[.c o]) (Bt v p Om) (ec y (λ_ h=>h))))]) (λe=>[(11,((e 1).val 0))]) [] (λe L=>L++[br ((e 1).val 0) p]) λe=>r0 [(1,ew kB ((e 1).val 0) p 3),(2,sI (p.length:Int) (1) Om)] [(12,i6 ((p.length:Int)-1))] [] ?_))));refine lq (λk=>k≤p.length-d) (λk=>[(12,i6 (((p.length:Nat):Int)-1-((k:Nat):Int)))]) (λk L=>L.set 3 (br ((e 1).val 0) (bX p q d t k))) (λk=>(p.length-d)-k) 0 Om (by rw[show((p.length:Nat):Int)-1-((0:Nat):Int)=(p.length:Int)-1 by omega];kernel_rfl) Kr (λk F=>?_);have H:=qI p q d t k;refine r0 [] [(38,.bool (decide ((d:Int)≤(((p.length:Nat):Int)-1-((k:Nat):Int)))))] [] ?_;refine n7 (d:Int) (((p.length:Nat):Int)-1-((k:Nat):Int)) (λs m=>?_) λs m=>?_
 ·refine r0 [(2,.t (tk (show i6 (((p.length:Nat):Int)-1-((k:Nat):Int))=iN (p.length-1-k) from ALca (Value.int .i64) Om))),(3,cp kB ((e 1).val 0) (bX p q d t k) 3 (p.length-1-k)),(4,eL kB ((e 1).val 0) (bX p q d t k) 3 (p.length-1-k) 0),(6,.c [0] [] (ph g ((bX p q d t k).getD (p.length-1-k) 0) t))] [(13,u1 ((gm ((bX p q d t k).getD (p.length-1-k) 0) t).toNat:Int))] [] (r0 [(1,ad d 1)] [(49,iN (d+1)),(50,i6 0)] [] ?_);refine lq (λj=>j≤d+1) (λj=>[(50,iN j)]) (λj L=>L.set 3 (br ((e 1).val 0) (e8 q (gm ((bX p q d t k).getD (p.length-1-k) 0) t) (bX p q d t k) (p.length-1-k-d) j))) (λj=>(d+1)-j) 0 Om Kr (by rw[JI];kernel_rfl) (λj C=>?_);have D:=JH q (gm ((bX p q d t k).getD (p.length-1-k) 0) t) (bX p q d t k) (p.length-1-k-d) j;refine r0 [] [(51,.bool (decide ((j:Int)<((d+1:Nat):Int))))] [] ?_;refine b4 (j:Int) ((d+1:Nat):Int) (λx n=>?_) λx n=>?_
  ·exact r0 [] [(14,iN j)] [] (rs [(1,.t (tk (show i6 (((p.length:Nat):Int)-1-((k:Nat):Int))=iN (p.length-1-k) from ALca (Value.int .i64) Om))),(3,.t (tb (a:=iN (p.length-1-k)) (b:=iN d) λ_ _ _ _=>kQ (a:=p.length-1-k) (b:=d) Om Om)),(5,ad ((p.length-1-k)-d) j),(6,cp kB ((e 1).val 0) (e8 q (gm ((bX p q d t k).getD (p.length-1-k) 0) t) (bX p q d t k) (p.length-1-k-d) j) 3 (((p.length-1-k)-d)+j)),(7,eL kB ((e 1).val 0) (e8 q (gm ((bX p q d t k).getD (p.length-1-k) 0) t) (bX p q d t k) (p.length-1-k-d) j) 3 (((p.length-1-k)-d)+j) 0),(12,e7 i.1 2 j 1),(13,iz kB i.1 2 j 0),(14,.c [0] [] (ph g (gm ((bX p q d t k).getD (p.length-1-k) 0) t) (q.getD j 0))),(15,.t (tb (a:=u1 (((e8 q (gm ((bX p q d t k).getD (p.length-1-k) 0) t) (bX p q d t k) (p.length-1-k-d) j).getD (((p.length-1-k)-d)+j) 0).toNat:Int)) (b:=u1 ((gm (gm ((bX p q d t k).getD (p.length-1-k) 0) t) (q.getD j 0)).toNat:Int)) λ_ _ _ _=>kJ ((e8 q (gm ((bX p q d t k).getD (p.length-1-k) 0) t) (bX p q d t k) (p.length-1-k-d) j).getD (((p.length-1-k)-d)+j) 0) ((gm (gm ((bX p q d t k).getD (p.length-1-k) 0) t) (q.getD j 0))))),(16,cp kB ((e 1).val 0) (e8 q (gm ((bX p q d t k).getD (p.length-1-k) 0) t) (bX p q d t k) (p.length-1-k-d) j) 3 (((p.length-1-k)-d)+j)),(17,qu kB ((e 1).val 0) (e8 q (gm ((bX p q d t k).getD (p.length-1-k) 0) t) (bX p q d t k) (p.length-1-k-d) j) 3 (((p.length-1-k)-d)+j) 0 (((e8 q (gm ((bX p q d t k).getD (p.length-1-k) 0) t) (bX p q d t k) (p.length-1-k-d) j).getD (((p.length-1-k)-d)+j) 0)^^^(gm (gm ((bX p q d t k).getD (p.length-1-k) 0) t) (q.getD j 0))) (u1 ((((e8 q (gm ((bX p q d t k).getD (p.length-1-k) 0) t) (bX p q d t k) (p.length-1-k-d) j).getD (((p.length-1-k)-d)+j) 0)^^^(gm (gm ((bX p q d t k).getD (p.length-1-k) 0) t) (q.getD j 0))).toNat:Int)) Kr)] 3 (br ((e 1).val 0) ((e8 q (gm ((bX p q d t k).getD (p.length-1-k) 0) t) (bX p q d t k) (p.length-1-k-d) j).set (((p.length-1-k)-d)+j) (((e8 q (gm ((bX p q d t k).getD (p.length-1-k) 0) t) (bX p q d t k) (p.length-1-k-d) j).getD (((p.length-1-k)-d)+j) 0)^^^(gm (gm ((bX p q d t k).getD (p.length-1-k) 0) t) (q.getD j 0))))) (r0 [(0,ad j 1)] [(50,iN (j+1))] [50] (le (j+1) Om Om Kr [0,1,2,3] (by rw[JX Om];kernel_rfl))))
  obtain rfl:j=d+1:=by omega
  exact lx (r0 [(1,.t (tv (au .sub 3 (.tmp 39) (.const (i6 1)) (i6 (((p.length:Nat):Int)-1-((k:Nat):Int))) (i6 1)) (λ_=>wX Om Om)))] [(12,i6 (((p.length:Nat):Int)-1-((k+1:Nat):Int)))] [12] (le (k+1) Om Om Kr [0,1,2,3] (by rw[JY Om];kernel_rfl)))
 obtain rfl:k=p.length-d:=by omega
 have G:=qI p q d t (p.length-d);exact lx (rr (λ_=>[(1,.c [3] [4] (aa.at (rd':=[br ((e 1).val 0) (bX p q d t (p.length-d))]) (tH ((e 1).val 0) (bX p q d t (p.length-d)) Om) (bN (λ_ h=>ao.sq h) (λ_ h=>h))))]) (λf=>[(6,((f 1).val 0)),(7,i6 0)]) [6,7] (λf L=>L++[br ((f 1).val 0) (ax (bX p q d t (p.length-d)))]) λf=>lf (.l [] [] [((f 1).val 0),(f 1).val 0]) [4] [(0,0),(1,1),(2,2)] [] (hf:=by rw[show dT p q t=ax (bX p q d t (p.length-d)) by unfold dT;rw[B,Nat.add_sub_cancel]];kernel_rfl))
end
section
open Go.RowKit Go.Shelf Go
theorem J0(g:Nat)(v:Value)(xs:List UInt8)(z:xs.length≤1000000)(bs:av)(h:dF eB v xs bs):eT 5 U0 289 #[pt g 0] (λ(x:Nat×UInt8)=>#[i6 (x.1:Int),u1 (x.2.toNat:Int)]) ((Va xs.length).map λj=>(xs.length-1-j,xs.getD (xs.length-1-j) 0)) (Vw [[(g,.cells #[v] 191 (0,0))],bs]):=by
 refine gi (KO:=[[(g,.cells #[v] 191 (0,0))],bs]) Tryz.func289 (λo q p y u d m i=>?_);refine r0 [(0,.l 0),(1,ey h 1),(2,sI (xs.length:Int) (1) Om)] [(3,i6 ((xs.length:Int)-1))] [] ?_;refine jv (λk=>k≤xs.length) (λk=>[(3,i6 (((xs.length:Nat):Int)-1-((k:Nat):Int)))]) (λ_ L=>L) (λk=>xs.length-k) (λk=>k) 0 Om i (by rw[show((xs.length:Nat):Int)-1-((0:Nat):Int)=(xs.length:Int)-1 by omega];kernel_rfl) Kr (λk r w n b=>?_);refine r0 [] [(8,.bool (decide (0≤(((xs.length:Nat):Int)-1-((k:Nat):Int)))))] [] ?_;refine n7 0 (((xs.length:Nat):Int)-1-((k:Nat):Int)) (λf c=>?_) λf c=>?_
 ·refine iy d m b 6 (λ_=>[(1,.t (tk (show i6 (((xs.length:Nat):Int)-1-((k:Nat):Int))=iN (xs.length-1-k) from ALca (Value.int .i64) Om))),(2,.l 0),(3,.t (tk (show i6 (((xs.length:Nat):Int)-1-((k:Nat):Int))=iN (xs.length-1-k) from ALca (Value.int .i64) Om))),(4,e7 h 1 (xs.length-1-k) 1),(5,iz kB h 1 (xs.length-1-k) 0)]) (λ_=>[(11,.func (.yield o) #[] #[]),(12,iN (xs.length-1-k)),(16,u1 ((xs.getD (xs.length-1-k) 0).toNat:Int))]) [] (λ_ L=>L) N0 [0,1] (nX Om) (λA s e a=>?_);refine cF _ rfl (r0 [(1,.t (tv (au .sub 3 (.tmp 9) (.const (i6 1)) (i6 (((xs.length:Nat):Int)-1-((k:Nat):Int))) (i6 1)) (λ_=>wX Om Om)))] [(3,i6 (((xs.length:Nat):Int)-1-((k+1:Nat):Int)))] [3] ?_);exact ia (k+1) Om a Om Kr [0,1] Kr
 refine jw ?_;exact kk d b (by rw[VA,Vt];omega) [] [0,1]
theorem J1(v:Value)(xs:List UInt8):aa U0 286 #[v] [.p (aJ eB v xs)] [] (λE=>[ob (E.y 0) #[v] 191]) (λE=> .func (.func 289) #[] #[pt ((E.y 0)) 0]):=by
 exact fO Tryz.func286 0 rfl λb d=>fG Tryz.func286 λw e=>rr (λ_=>[(0,AP 1 0 (.c b) v (λ_ _=>aJ.cells d))]) (λa=>[(1,pt (B0 a) 0),(2,.nilFunc)]) [] (λa L=>L++[ob (B0 a) #[v] 191]) λa=>r0 [] [(2,.func (.func 289) #[] #[pt (B0 a) 0])] [2] (lf (.l [(a 0).y 0] [] []) [1] [(0,0)] [])
theorem J2(g:Nat)(v:Value)(p:List UInt8)(x:UInt8)(hp:p.length≤50000):aa U0 275 #[pt g 0,v,u1 (x.toNat:Int)] [ob g (rB 255 aQ++rN 256 aU).toArray 312,.p (aJ eB v p)] [] N0 (λ_=>u1 ((mK p x).toNat:Int)):=by
 refine fO Tryz.func275 1 rfl λd m=>fG Tryz.func275 λw A=>ra (λe=>[(3,pt (B0 e) 0),(5,pt (B1 e) 0),(6,u1 0)]) (λe=>[ob (B0 e) #[pt g 0] 239,ob (B1 e) #[u1 (x.toNat:Int)] 5]) λe=>rr (λ_=>[(1,.s 4)]) (λf=>[(7,pt (B0 f) 0)]) [] (λf L=>L++[ob (B0 f) #[u1 0] 5]) λf=>rr (λ_=>[(1,.c [1] [5] (aa.at (rd':=[.c d]) (J1 v p) (ec m (λ_ h=>h))))]) (λi=>[(11,.func (.func 289) #[] #[pt ((B1 i)) 0])]) [] (λi L=>L++[ob (B1 i) #[v] 191]) λi=>?_;refine n9 (encs:=λ(x:Nat×UInt8)=>#[i6 (x.1:Int),u1 (x.2.toNat:Int)]) (xs:=(Va p.length).map λj=>(p.length-1-j,p.getD (p.length-1-j) 0)) (KO:=[[((B1 i),.cells #[v] 191 (0,0))],d]) (J0 (B1 i) v p Om d m.1) (enters_of Tryz.func289 Kr rfl) (λj=>j≤p.length) (λj L=>L.set 4 (ob (B0 f) #[u1 ((hv p x j).toNat:Int)] 5)) [5,1] Om Kr (λB j C r y n k=>?_) (λq k=>?_)
 ·obtain⟨o,rfl⟩:=nc n;refine r0 [] [(9,u1 ((p.getD (p.length-1-j) 0).toNat:Int))] [] ?_;refine ag [5,1] (λu z=>?_);exact rs [(0,.l 2),(1,.l 4),(2,.l 3),(3,.c [0] [] (ph g (hv p x j) x)),(5,.t (tb (a:=u1 ((gm (hv p x j) x).toNat:Int)) (b:=u1 ((p.getD (p.length-1-j) 0).toNat:Int)) λ_ _ _ _=>kJ ((gm (hv p x j) x)) ((p.getD (p.length-1-j) 0)))),(6,.s 4)] 4 (ob (B0 f) #[u1 (((gm (hv p x j) x)^^^(p.getD (p.length-1-j) 0)).toNat:Int)] 5) (ne _ ⟨Om,rfl⟩ [0,1,2,3,4,5] Kr)
 refine cl [ob g (rB 255 aQ++rN 256 aU).toArray 312,.c d,ob (B0 e) #[pt g 0] 239,ob (B1 e) #[u1 (x.toNat:Int)] 5,ob (B0 f) #[u1 ((hv p x p.length).toNat:Int)] 5,ob (B1 i) #[v] 191] (by rw[VA,Vt];kernel_rfl) ?_;simp only[VA,Vt] at k;exact r0 [(0,.l 4)] [(6,u1 ((hv p x p.length).toNat:Int))] [6] (ak (u1 ((hv p x p.length).toNat:Int)) ab.zero (by rw[JN]) [] [(0,0),(1,1)] [])
attribute [local irreducible] gO
theorem J3(g:Nat)(v:Value)(rs:List UInt8)(r:rs.length≤100):aa U0 183 #[pt g 0,v] [ob g (rB 255 aQ++rN 256 aU).toArray 312,.p (aJ eB v rs)] [] (λE=>[br (E.val 0) (gP rs rs.length)]) (λE=>(E.val 0)):=by
 refine fO Tryz.func183 1 rfl λi d=>fG Tryz.func183 λw q=>r0 [] [(4,.slice none 0 0)] [] (rr (λ_=>[(0,gA kB 2 1 [(1:UInt8)])]) (λe=>[(5,.slice (some ⟨(e 0).y 0,0,none⟩) 1 1)]) [] (λe L=>L++[br (.slice (some ⟨(e 0).y 0,0,none⟩) 1 1) ([(1:UInt8)])]) λe=>r0 [(1,ey d.1 1)] [(9,v),(10,iN rs.length),(11,i6 0)] [] ?_);refine mF (λk _=>k≤rs.length) (λk a=>[(11,iN k),(5,a)]) (λk a L=>L.set 2 (br a (gP rs k))) (λk _=>rs.length-k) 0 (.slice (some ⟨(e 0).y 0,0,none⟩) 1 1) Om Kr Kr (λk a m=>?_);have o:=Js rs k;have n:([rs.getD k 0,(1:UInt8)]:List UInt8).length=2:=rfl;refine r0 [] [(12,.bool (decide ((k:Int)<(rs.length:Int))))] [] ?_;refine b4 (k:Int) (rs.length:Int) (λj f=>?_) λj f=>?_
 ·exact r0 [(0,e7 d.1 1 k 1),(1,iz kB d.1 1 k 0)] [(7,u1 ((rs.getD k 0).toNat:Int))] [] (rr (λb=>[(3,gA kB 3 2 [rs.getD k 0,(1:UInt8)]),(4,.c [0,2,3] [4] (aa.at (rd':=[ob g (rB 255 aQ++rN 256 aU).toArray 312,br a (gP rs k),br (.slice (some ⟨(b 3).y 0,0,none⟩) 2 2) ([rs.getD k 0,(1:UInt8)])]) (JW g a (.slice (some ⟨(b 3).y 0,0,none⟩) 2 2) (gP rs k) ([rs.getD k 0,(1:UInt8)]) Om Om) (aN (bN (λ_ h=>ao.sq h) (bN (λ_ h=>ao.sq h) (λ_ h=>h))))))]) (λb=>[(5,((b 4).val 0))]) [5] (λb L=>L++[br (.slice (some ⟨(b 3).y 0,0,none⟩) 2 2) ([rs.getD k 0,(1:UInt8)]),br ((b 4).val 0) (gO (gP rs k) ([rs.getD k 0,(1:UInt8)]))]) λb=>r0 [(0,ad k 1)] [(11,iN (k+1))] [11] (kO (k+1) ((b 4).val 0) Om Om Kr [0,1,4] Kr))
 obtain rfl:rs.length=k:=by omega
 refine kP ?_;exact r0 [] [(4,a)] [4] (lf (.l [] [] [a]) [2] [(0,0),(1,1)] [])
end
end E
theorem tI(i:Nat):(pw 2 i).toNat=gE (i%255):=by
 induction i with
 | zero=>decide+kernel
 | succ i ih=>
  rw[pw,km,ih];have a:(2:UInt8).toNat=gE 1:=by decide+kernel
  rw[a,qE _ _ (Vv _ Om) (by decide+kernel)];have b:gL (gE 1)=1:=by decide+kernel
  rw[b]
  congr 1
  omega
theorem Bw: ∀i,i<255→gL (gE i)=i:=by decide+kernel
theorem J4{i j:Nat}(b:i<255)(c:j<255)(h:pw 2 i=pw 2 j):i=j:=by
 have a:=ALca UInt8.toNat h;rw[tI,tI,Vc b,Vc c] at a;rw[←Bw i b,←Bw j c,a]
theorem J5{x:UInt8}(h:x≠0):pw 2 (gL x.toNat)=x:=by
 have f:x.toNat≠0:=λe=>h (UInt8.toNat_inj.1 e);have b: ∀a,a<256→a≠0→gL a<255∧gE (gL a)=a:=by decide+kernel
 obtain⟨c,d⟩:=b x.toNat x.toNat_lt f;apply UInt8.toNat_inj.1;rw[tI,Vc c,d]
theorem J6{x:UInt8}(h:x≠0):gL x.toNat<255:=by
 have c:x.toNat≠0:=λe=>h (UInt8.toNat_inj.1 e);have b: ∀a,a<256→a≠0→gL a<255:=by decide+kernel
 exact b x.toNat x.toNat_lt c
structure Vd where
 A:Nat
 place:Int
 val:UInt8
deriving DecidableEq
def hit(s:Nat→UInt8)(i:Nat):Bool:=s 0 != 0&&s 1==gm (s 0) (pw 2 i)&&s 2==gm (s 1) (pw 2 i)&&s 3==gm (s 2) (pw 2 i)
theorem pj(s:Nat→UInt8)(i:Nat):hit s i=true↔s 0≠0∧s 1=gm (s 0) (pw 2 i)∧s 2=gm (s 1) (pw 2 i)∧s 3=gm (s 2) (pw 2 i):=by
 unfold hit;simp only[U7,bne_iff_ne,beq_iff_eq,and_assoc]
theorem Bx{a x y:UInt8}(d:a≠0)(h:gm a x=gm a y):x=y:=by
 have c:gm a (x^^^y)=0:=by rw[Bb,h,VL]
 apply VW;intro b;exact Be _ _ d (λe=>b (UInt8.xor_eq_zero_iff.1 e)) c
theorem By{s:Nat→UInt8}{i j:Nat}(d:i<255)(e:j<255)(h1:hit s i=true)(h2:hit s j=true):i=j:=by
 obtain⟨a,b,_⟩:=(pj s i).1 h1;obtain⟨_,c,_⟩:=(pj s j).1 h2;exact J4 d e (Bx a (b.symm.trans c))
def kS(s:Nat→UInt8):Nat→Option Nat
 | 0=>none
 | k+1=>match kS s k with
  | some i=>some i
  | none=>if hit s k then some k else none
theorem Bz{s:Nat→UInt8}{k:Nat}:kS s k=none↔∀i,i<k→hit s i=false:=by
 induction k with
 | zero=>exact⟨λ_ i b=>by omega,λ_=>rfl⟩
 | succ k ih=>
  rw[kS];cases h:kS s k with
  | some i=>
   refine⟨λh=>(by cases h),λa=>?_⟩;have:=ih.2 λi b=>a i Om;rw[h] at this;cases this
  | none=>
   by_cases a:hit s k=true
   ·simp only[a,if_true];exact⟨λh=>(by cases h),λc=>by rw[c k Om] at a;cases a⟩
   ·simp only[a];refine⟨λ_ i b=>?_,λ_=>rfl⟩;by_cases e:i=k
    ·subst e;simpa using a
    ·exact(ih.1 h) i Om
theorem BA{s:Nat→UInt8}{k i:Nat}(g:k≤255)(e:i<k)(h:hit s i=true):kS s k=some i:=by
 cases d:kS s k with
 | none=>rw[Bz.1 d i e] at h;cases h
 | some j=>
  have c: ∀k,kS s k=some j→j<k∧hit s j=true:=λk=>by
   induction k with
   | zero=>intro h;cases h
   | succ k ih=>
    intro h;rw[kS] at h;cases a:kS s k with
    | some l=>
     rw[a] at h;obtain rfl:=Option.some.inj h;have:=ih a;exact⟨by omega,this.2⟩
    | none=>
     rw[a] at h;by_cases b:hit s k=true
     ·simp only[b,if_true] at h;obtain rfl:=Option.some.inj h;exact⟨by omega,b⟩
     ·simp only[b] at h;cases h
  obtain⟨f,a⟩:=c k d;rw[By Om Om a h]
def mL(s:Nat→UInt8):Prop:=s 0=0∧s 1=0∧s 2=0∧s 3=0
instance (s:Nat→UInt8):Decidable (mL s):=by unfold mL;exact inferInstance
def fU(s:Nat→UInt8):Vd:=if mL s then⟨0, -1,0⟩ else match kS s 39 with
 | some i=>if 35<i then⟨2,i,s 0⟩ else⟨1,i,s 0⟩
 | none=>⟨3, -1,0⟩
theorem J7{s:Nat→UInt8}(h:mL s):fU s=⟨0, -1,0⟩:=ALifp h
theorem BB{s:Nat→UInt8}{i:Nat}(h:hit s i=true): ¬mL s:=λa=>((pj s i).1 h).1 a.1
theorem J8{s:Nat→UInt8}{i:Nat}(a:i≤35)(h:hit s i=true):fU s=⟨1,i,s 0⟩:=by
 unfold fU;rw[ALifn (BB h),BA Om (show i<39 by omega) h];exact ALifn Om
theorem J9{s:Nat→UInt8}{i:Nat}(h1:35<i)(a:i<39)(h:hit s i=true):fU s=⟨2,i,s 0⟩:=by
 unfold fU;rw[ALifn (BB h),BA Om a h];exact ALifp h1
theorem wY{s:Nat→UInt8}(h0: ¬mL s)(h: ∀i,i<39→hit s i=false):fU s=⟨3, -1,0⟩:=by
 unfold fU;rw[ALifn h0,Bz.2 h]
theorem Ka{s:Nat→UInt8}{r:UInt8}(h0:s 0≠0)(c:gm r (s 0)=s 1)(a:r≠0)(h2:s 2=gm (s 1) r)(b:s 3=gm (s 2) r):hit s (gL r.toNat)=true:=by
 rw[pj,J5 a];exact⟨h0,by rw[←c,kR],h2,b⟩
theorem BC{s:Nat→UInt8}{r:UInt8}(k:gm r (s 0)=s 1)(h:r=0∨s 2≠gm (s 1) r∨s 3≠gm (s 2) r)(i:Nat):hit s i=false:=by
 cases j:hit s i with
 | false=>rfl
 | true=>
  exfalso;obtain⟨b,c,d,f⟩:=(pj s i).1 j;have e:r=pw 2 i:=Bx b (by rw[kR,k,c]);subst e;rcases h with h | h | h
  ·have a:=tI i;rw[h] at a;have g: ∀m,m<255→gE m≠0:=by decide+kernel
   exact g (i%255) (Vv _ Om) a.symm
  ·exact h d
  ·exact h f
def cQ:List UInt8:=Jr [1,2,4,8]
theorem Kb:cQ=[64,120,54,15,1]:=by decide+kernel
def gi(x:UInt8):UInt8:=UInt8.ofNat (mJ 1 x.toNat)
theorem Kc(x:UInt8):(gi x).toNat=mJ 1 x.toNat:=by unfold gi;rw[VB];exact Vc (A8 _ _)
theorem Ke{x:UInt8}(h:x≠0):gm x (gi x)=1:=by
 rw[kR];apply UInt8.toNat_inj.1;rw[km,Kc,A9 _ _ Om x.toNat_lt (λe=>h (UInt8.toNat_inj.1 e))];rfl
def BD(d v:List UInt8):List UInt8:=UZ 4 0++d++v
def mM(d v:List UInt8):List UInt8:=dT (BD d v) cQ (gi (co cQ (a4 cQ-1)))
def iC(d v:List UInt8):List UInt8:=fT 4 (co (mM d v))
theorem jx(d v:List UInt8):(iC d v).length=4:=je _ _
theorem qJ:a4 cQ=5:=by
 have h:=Bq [1,2,4,8] 4;exact h
theorem Kf:cQ.length=5:=by rw[Kb];rfl
theorem BE(d v:List UInt8):(mM d v).length≤4:=by
 have h:=(Jw (p:=BD d v) (q:=cQ) (t:=gi (co cQ (a4 cQ-1))) (by rw[qJ];omega) (Ke (oe cQ (t:=a4 cQ-1) (by rw[qJ])))).2;rw[Jy,qJ] at h;exact Nat.le_of_lt_succ h
theorem Kg(d v:List UInt8):mM d v++(UZ 4 (0:UInt8)).drop (mM d v).length=iC d v:=by
 have c:=BE d v;refine qH (by rw[jx];simp;omega) λi b=>?_;have a:i<4:=by simp at b;omega
 unfold iC;rw[lO,ALifp a];unfold co;rw[U8,U8];by_cases h:i<(mM d v).length
 ·rw[VF h]
 ·rw[Ve Om,Vg (l:=mM d v) Om,List.getElem?_drop];rw[show(mM d v).length+(i-(mM d v).length)=i by omega,List.getElem?_replicate,ALifp a];rfl
def wZ(w v:List UInt8)(j:Nat):UInt8:=mK (w++v) (pw 2 j)
def aY(w v:List UInt8):List UInt8:=fT 4 (wZ w v)
theorem w0(w v:List UInt8):(aY w v).length=4:=je _ _
def ko(w v:List UInt8)(k:Nat):List UInt8:=fT 4 λj=>if j<k then wZ w v j else 0
theorem w1(w v:List UInt8)(k:Nat):(ko w v k).length=4:=je _ _
theorem Kh(w v:List UInt8):ko w v 0=UZ 4 0:=Br _ _ λi _=>ALifn Om
theorem Ki(w v:List UInt8):ko w v 4=aY w v:=tE λi a=>ALifp a
theorem Kj(w v:List UInt8)(k:Nat):(ko w v k).set k (wZ w v k)=ko w v (k+1):=
 wU _ _ _ _ _ λi _=>by
  by_cases e:i=k
  ·subst e;rw[ALifp Om,ALifp rfl]
  ·rw[ALifn e];by_cases h:i<k
   ·rw[ALifp Om,ALifp h]
   ·rw[ALifn Om,ALifn h]
def gd(x y:UInt8):UInt8:=UInt8.ofNat (mJ x.toNat y.toNat)
theorem Kk(x y:UInt8):(gd x y).toNat=mJ x.toNat y.toNat:=by unfold gd;rw[VB];exact Vc (A8 _ _)
theorem BF(x:UInt8){y:UInt8}(a:y≠0):gm (gd x y) y=x:=by
 apply UInt8.toNat_inj.1;rw[km,Kk,A9 _ _ x.toNat_lt y.toNat_lt (λe=>a (UInt8.toNat_inj.1 e))]
theorem Kl{s:Nat→UInt8}(h:(((fU s).A:Int)==1)=true): ∃i:Nat,i≤35∧(fU s).place=(i:Int):=by
 unfold fU at h⊢;by_cases c:mL s
 ·rw[ALifp c] at h;cases h
 ·rw[ALifn c] at h⊢;cases b:kS s 39 with
  | none=>rw[b] at h;cases h
  | some i=>
   rw[b] at h;by_cases a:35<i
   ·simp only[ALifp a] at h;cases h
   ·exact⟨i,by omega,by simp only[ALifn a]⟩
def gB(d v:List UInt8):List UInt8:=bif ((fU (co (aY d v))).A:Int)==1 then(d.set (fU (co (aY d v))).place.toNat ((d.getD (fU (co (aY d v))).place.toNat 0)^^^(fU (co (aY d v))).val)).drop 4 else d.drop 4
namespace E
section
open Go.RowKit Go.Shelf Go
attribute [local irreducible] a4 ax gP gO dT aQ aU
def jf:Nat→List UInt8
 | 0=>[]
 | k+1=>jf k++[jR (aQ.getD (dn 1) 0) k]
theorem w2: ∀k,(jf k).length=k
 | 0=>rfl
 | k+1=>by rw[jf,U3,w2 k];rfl
theorem Km:gP (jf 4) (jf 4).length=cQ:=by decide+kernel
theorem Kn(g:Nat):aa U0 141 #[pt g 0] [ob g (rB 255 aQ++rN 256 aU).toArray 312] [] (λE=>[ob (E.y 0) #[pt g 0,(E.val 0)] 309,br (E.val 0) cQ]) (λE=>pt ((E.y 0)) 0):=by
 refine fG Tryz.func141 λw cs=>r0 [] [(2,.pointer none)] [] (ra (λq2=>[(3,pt (B0 q2) 0)]) (λq2=>[ob (B0 q2) #[.slice none 0 0] 191]) λq2=>rr (λ_=>[(2,.c [0] [] (tB g 1 Om Om)),(3,.c [] [2,3,4] (I9 g (aQ.getD (dn 1) 0) 4))]) (λq3=>[(9,.func (.func 216) #[] #[pt ((B3 q3)) 0,pt (((q3 3).y 1)) 0,pt (((q3 3).y 2)) 0])]) [] (λq3 L=>L++[ob (B3 q3) #[i6 4] 3,ob ((q3 3).y 1) #[pt g 0] 239,ob ((q3 3).y 2) #[u1 ((aQ.getD (dn 1) 0).toNat:Int)] 5]) λq3=>cz kB (cz kB ?_))
 refine wu (encs:=λ(x:Nat×UInt8)=>#[i6 (x.1:Int),u1 (x.2.toNat:Int)]) (xs:=(Va 4).map λk=>(k,jR (aQ.getD (dn 1) 0) k)) (KO:=[[((B3 q3),.cells #[i6 4] 3 (0,0))],[(((q3 3).y 1),.cells #[pt g 0] 239 (0,0))],[(((q3 3).y 2),.cells #[u1 ((aQ.getD (dn 1) 0).toNat:Int)] 5 (0,0))],[(g,.cells (rB 255 aQ++rN 256 aU).toArray 312 (0,0))]]) (Ja (B3 q3) ((q3 3).y 1) ((q3 3).y 2) g (aQ.getD (dn 1) 0)) (enters_of Tryz.func216 Kr rfl) (λj _=>j≤4) (λj vC3_0 L=>(L.set 1 (ob (B0 q2) #[vC3_0] 191)).set 6 (br vC3_0 (jf j))) [2,3,4,0] (.slice none 0 0) Om Kr (λlR j vC3_0 xE R1 W1 hxE hk5=>?_) (λD4 vC3_0 hk5=>?_)
 ·obtain⟨hkb6,rfl⟩:=nc hxE
  have hpl:=w2 j
  refine r0 [] [(5,u1 ((jR (aQ.getD (dn 1) 0) j).toNat:Int))] [] ?_
  refine ag [2,3,4,0] (λR2 W2=>?_)
  exact rr (λq8=>[(0,.l 1),(2,.m (bs 7 1)),(3,eX kB (vC3_0) (jf j) 6 7 ([(jR (aQ.getD (dn 1) 0) j)])),(4,.m (e6 1 6 (br ((q8 3).val 0) ((jf j)++([(jR (aQ.getD (dn 1) 0) j)]))) ((q8 3).val 0) λbs h=>ao.one ((λ_ h=>h) bs h)))]) N0 [] (λq8 L=>(L.set 1 (ob (B0 q2) #[(q8 3).val 0] 191)).set 6 (br ((q8 3).val 0) ((jf j)++([(jR (aQ.getD (dn 1) 0) j)])))++[ob (B2 q8) #[u1 ((jR (aQ.getD (dn 1) 0) j).toNat:Int)] 5]) λq8=>ne _ ⟨(q8 3).val 0,Om,rfl⟩ [0,1,2,3,4,5,6] Kr
 have hpe:=w2 4
 exact rr (λq9=>[(2,.l 1),(3,.c [0,6] [7] (aa.at (rd':=[ob g (rB 255 aQ++rN 256 aU).toArray 312,br vC3_0 (jf 4)]) (J3 g vC3_0 (jf 4) Om) (aN (bN (λ_ h=>ao.sq h) (λ_ h=>h))))),(4,Il (v:= .agg #[pt g 0,((q9 3).val 0)]) 7 (br ((q9 3).val 0) (gP (jf 4) (jf 4).length)) (Instr.build 309 #[(0,pt g 0),(1,((q9 3).val 0))]) (λbs h w=>by obtain⟨a5,c5,e5⟩:=ao.form h;rw[e5];kernel_rfl))]) (λq9=>[(2,pt (B5 q9) 0)]) [2] (λq9 L=>L++[br ((q9 3).val 0) (gP (jf 4) (jf 4).length),ob (B5 q9) #[pt g 0,((q9 3).val 0)] 309]) λq9=>lf (.l [(q9 5).y 0] [] [((q9 3).val 0)]) [8,7] [(0,0)] [] (hf:=by rw[←Km];kernel_rfl)
def tG:UInt8:=bK 1 (cQ.getD 4 0)
theorem Ko:tG=Go.Proofs.YtbcodenfkijdnaaGreat.gi (Go.Proofs.YtbcodenfkijdnaaGreat.co cQ (a4 cQ-1)):=by
 rw[qJ];decide+kernel
theorem BG(d v:List UInt8):dT ((UZ 4 0++d)++v) cQ tG=mM d v:=by rw[Ko];rfl
theorem Kp:cQ.length=5:=Kf
attribute [local irreducible] cQ
end
section
open Go.RowKit Go.Shelf Go
attribute [local irreducible] a4 ax gP gO dT aQ aU cQ
attribute [local irreducible] mK
theorem Kq{k:Nat}(h:k<4):aQ.getD (dn (k:Int)) 0=Go.Proofs.YtbcodenfkijdnaaGreat.pw 2 k:=by
 have: ∀k:Nat,k<4→aQ.getD (dn (k:Int)) 0=Go.Proofs.YtbcodenfkijdnaaGreat.pw 2 k:=by decide+kernel
 exact this k h
theorem Ks{w v:List UInt8}{k:Nat}(h:k<4):ko w v (k+1)=(ko w v k).set k (mK (w++v) (aQ.getD (dn (k:Int)) 0)):=by
 rw[←Kj,Kq h];rfl
attribute [local irreducible] ko
theorem Kt(j g:Nat)(u:Value)(d v:List UInt8)(f:d.length=36)(hv:v.length=3):aa U0 256 #[pt j 0,.agg (rB 36 d).toArray,.agg (rB 3 v).toArray] [ob j #[pt g 0,u] 309,ob g (rB 255 aQ++rN 256 aU).toArray 312,.p (aJ eB u cQ)] [] N0 (λ_=> .agg (rB 4 (aY d v)).toArray):=by
 refine fO Tryz.func256 2 rfl λi t=>fG Tryz.func256 λw x=>?_;have r:(([]++d)++v).length=39:=by rw[V0,U3,f,hv]
 refine ra (λa=>[(4,pt (B0 a) 0),(5,pt (B1 a) 0),(6,pt (B2 a) 0)]) (λa=>[ob (B0 a) (rB 36 d).toArray 371,ob (B1 a) (rB 3 v).toArray 262,ob (B2 a) (rB 4 (UZ 4 0)).toArray 268]) λa=>ra (λe=>[(7,pt (B0 e) 0)]) (λe=>[ob (B0 e) (rB 4 (UZ 4 0)).toArray 268]) λe=>rr (λb=>[(0,.m (ql 7 eB ([u1 0]) 5)),(1,aS 371 (B0 a) 36 1),(2,.m (lG 7 3 n4 (.slice (some ⟨(b 0).y 0,0,none⟩) 0 0) (.slice (some ⟨(a 0).y 0,0,none⟩) 36 36) (xs:=[]) (ys:=d) (ob (B0 a) (rB 36 d).toArray 371) (λ_ h=>by rw[show _=_ from h];exact oc (λ_=>rfl) f) n2 (λ_=>rfl) (by simp only[LL,w1,f,hv];omega))),(3,aS 262 (B1 a) 3 1),(4,.m (lG 7 4 n4 ((b 2).val 0) (.slice (some ⟨(a 1).y 0,0,none⟩) 3 3) (xs:=[]++d) (ys:=v) (ob (B1 a) (rB 3 v).toArray 262) (λ_ h=>by rw[show _=_ from h];exact oc (λ_=>rfl) hv) n2 (λ_=>rfl) (by simp only[LL,w1,f,hv];omega)))]) (λb=>[(8,(b 4).val 0)]) [] (λb L=>L++[br ((b 4).val 0) (([]++d)++v)]) λb=>r0 [] [(15,i6 0)] [] ?_;refine lq (λk=>k≤4) (λk=>[(15,iN k)]) (λk L=>L.set 6 (ob (B0 e) (rB 4 (ko d v k)).toArray 268)) (λk=>4-k) 0 Om Kr (by rw[Kh];kernel_rfl) (λk q=>?_);refine r0 [] [(16,.bool (decide ((k:Int)<4)))] [] ?_;refine b4 (k:Int) 4 (λo n=>?_) λo n=>?_
 ·exact r0 [] [(9,iN k)] [] (rs [(4,.l 0),(9,.l 0),(11,.c [1] [] (tB g (k:Int) Om Om)),(12,.c [1,7] [] (aa.at (rd':=[ob g (rB 255 aQ++rN 256 aU).toArray 312,br ((b 4).val 0) (([]++d)++v)]) (J2 g ((b 4).val 0) (([]++d)++v) (aQ.getD (dn (k:Int)) 0) Om) (aN (bN (λ_ h=>ao.sq h) (λ_ h=>h))))),(13,iA 268 .i64 (B0 e) 0 4 1 k),(14,wD 6 (B0 e) k 268 (u1 ((mK (([]++d)++v) (aQ.getD (dn (k:Int)) 0)).toNat:Int)) (rB 4 (ko d v k)) (rB 4 ((ko d v k).set k (mK (([]++d)++v) (aQ.getD (dn (k:Int)) 0)))) (jt Om) (lF (w1 ..)))] 6 (ob (B0 e) (rB 4 ((ko d v k).set k (mK (([]++d)++v) (aQ.getD (dn (k:Int)) 0)))).toArray 268) (r0 [(0,ad k 1)] [(15,iN (k+1))] [15] (le (k+1) Om Om Kr [0,1,2,3,4,5,6,7] (by rw[Ks Om];kernel_rfl))))
 obtain rfl:k=4:=by omega
 exact cl [ob j #[pt g 0,u] 309,ob g (rB 255 aQ++rN 256 aU).toArray 312,.c i,ob (B0 a) (rB 36 d).toArray 371,ob (B1 a) (rB 3 v).toArray 262,ob (B2 a) (rB 4 (UZ 4 0)).toArray 268,ob (B0 e) (rB 4 (aY d v)).toArray 268,br ((b 4).val 0) (([]++d)++v)] (by rw[Ki];kernel_rfl) (lx (rs [(0,.l 6),(1,.s 5)] 5 (ob (B2 a) (rB 4 (aY d v)).toArray 268) (lf ab.zero [] [(0,0),(1,1),(2,2)] [5])))
theorem w3:aa U0 273 #[] [] [] N0 (λ_=> .agg #[i6 3,i6 (-1),u1 0]):=by
 exact fG Tryz.func273 λw b=>ra (λa=>[(0,pt (B0 a) 0)]) (λa=>[ob (B0 a) #[i6 0,i6 0,u1 0] 368]) λa=>rs [(1,.s 0)] 0 (ob (B0 a) #[i6 3,i6 (-1),u1 0] 368) (lf ab.zero [] [] [0])
end
section
open Go.RowKit Go.Shelf Go
attribute [local irreducible] a4 ax gP gO dT aQ aU cQ
theorem Ku(g:Nat)(v u:Value)(p G:List UInt8)(t:UInt8)(c:a4 G=5)(a:G.length=5)(ht:bK 1 (G.getD 4 0)=t)(hp:p.length≤50000)(b:4≤p.length):aa U0 203 #[pt g 0,v,u] [ob g (rB 255 aQ++rN 256 aU).toArray 312,.p (aJ eB v p),.p (aJ eB u G)] [] (λE=>[br (E.val 0) (dT p G t)]) (λE=> .tuple #[(E.val 0),i6 0]):=
 JZ g v u p G 4 t hp (by rw[a];decide) c b ht
theorem Kv(f g:Nat)(u:Value)(d v G:List UInt8)(t:UInt8)(k:d.length=32)(hv:v.length=3)(q:a4 G=5)(i:G.length=5)(ht:bK 1 (G.getD 4 0)=t)(x:(dT ((UZ 4 0++d)++v) G t).length≤4)(r:List UInt8)(z:dT ((UZ 4 0++d)++v) G t++(UZ 4 (0:UInt8)).drop (dT ((UZ 4 0++d)++v) G t).length=r):aa U0 161 #[pt f 0,.agg (rB 32 d).toArray,.agg (rB 3 v).toArray] [ob f #[pt g 0,u] 309,ob g (rB 255 aQ++rN 256 aU).toArray 312,.p (aJ eB u G)] [] N0 (λ_=> .agg (rB 4 r).toArray):=by
 refine fO Tryz.func161 2 rfl λn o=>fG Tryz.func161 λw A=>?_;have y:((UZ 4 (0:UInt8)++d)++v).length=39:=by rw[U3,U3,U6,k,hv]
 exact ra (λa=>[(4,pt (B0 a) 0),(5,pt (B1 a) 0),(6,pt (B2 a) 0)]) (λa=>[ob (B0 a) (rB 32 d).toArray 267,ob (B1 a) (rB 3 v).toArray 262,ob (B2 a) (rB 4 (UZ 4 0)).toArray 268]) λa=>ra (λj=>[(7,pt (B0 j) 0)]) (λj=>[ob (B0 j) (rB 4 (UZ 4 0)).toArray 268]) λj=>rr (λb=>[(0,qA kB 7 4),(1,aS 267 (B0 a) 32 1),(2,.m (lG 7 3 n4 (.slice (some ⟨(b 0).y 0,0,none⟩) 4 4) (.slice (some ⟨(a 0).y 0,0,none⟩) 32 32) (xs:=UZ 4 0) (ys:=d) (ob (B0 a) (rB 32 d).toArray 267) (λ_ h=>by rw[show _=_ from h];exact oc (λ_=>rfl) k) n2 (λ_=>rfl) (by simp only[LL,k,hv,i];omega))),(3,aS 262 (B1 a) 3 1),(4,.m (lG 7 4 n4 ((b 2).val 0) (.slice (some ⟨(a 1).y 0,0,none⟩) 3 3) (xs:=(UZ 4 0)++d) (ys:=v) (ob (B1 a) (rB 3 v).toArray 262) (λ_ h=>by rw[show _=_ from h];exact oc (λ_=>rfl) hv) n2 (λ_=>rfl) (by simp only[LL,k,hv,i];omega)))]) (λb=>[(8,(b 4).val 0)]) [] (λb L=>L++[br ((b 4).val 0) (((UZ 4 0)++d)++v)]) λb=>rr (λe=>[(0,.v (pt f 0)),(1,.v (pt f 0)),(2,.v (pt f 0)),(3,.m (ld 0 (pt g 0))),(4,.v ((b 4).val 0)),(5,.v (pt f 0)),(6,.v (pt f 0)),(7,.v (pt f 1)),(8,.m (ld 0 (u))),(9,.c [1,7,2] [8] (aa.at (rd':=[ob g (rB 255 aQ++rN 256 aU).toArray 312,br ((b 4).val 0) (((UZ 4 0)++d)++v),.c n]) (Ku g ((b 4).val 0) u ((((UZ 4 0)++d)++v)) G t q i ht Om Om) (aN (bN (λ_ h=>ao.sq h) (ec o (λ_ h=>h)))))),(10,.v (.tuple #[(e 9).val 0,i6 0])),(11,.v ((e 9).val 0)),(12,.v (i6 0)),(13,.v ((e 9).val 0)),(14,.v (i6 0))]) (λe=>[(9,(e 9).val 0),(10,i6 0)]) [] (λe L=>L++[br ((e 9).val 0) (dT ((((UZ 4 0)++d)++v)) (G) t)]) λe=>rT [] 30 (rs [(0,aS 268 (B0 j) 4 1),(2,.m (ts kB 6 (B0 j) 0 4 4 (rB 4 (UZ 4 0)).toArray (rB 4 ((UZ 4 0).take 0++(dT ((((UZ 4 0)++d)++v)) (G) t)++(UZ 4 0).drop (0+((dT ((((UZ 4 0)++d)++v)) (G) t).length)))).toArray 268 191 191 8 (br ((e 9).val 0) (dT ((((UZ 4 0)++d)++v)) (G) t)) ((e 9).val 0) (dT ((((UZ 4 0)++d)++v)) (G) t) (λ_ h=>ao.src h) Om (by rw[U5,jP];omega) (ALca Wb (qi (d:=0) (λ_=>rfl) U6 rfl Om))))] 6 (ob (B0 j) (rB 4 ((UZ 4 0).take 0++(dT ((((UZ 4 0)++d)++v)) (G) t)++(UZ 4 0).drop (0+((dT ((((UZ 4 0)++d)++v)) (G) t).length)))).toArray 268) (rs [(0,.l 6),(1,.s 5)] 5 (ob (B2 a) (rB 4 ((UZ 4 0).take 0++(dT ((((UZ 4 0)++d)++v)) (G) t)++(UZ 4 0).drop (0+((dT ((((UZ 4 0)++d)++v)) (G) t).length)))).toArray 268) (ak (.agg (rB 4 ((UZ 4 0).take 0++(dT ((((UZ 4 0)++d)++v)) (G) t)++(UZ 4 0).drop (0+((dT ((((UZ 4 0)++d)++v)) (G) t).length)))).toArray) ab.zero (by rw[Vl,WH,V0,z]) [] [(0,0),(1,1),(2,2)] [5])))
theorem Kw(a g:Nat)(u:Value)(d v:List UInt8)(b:d.length=32)(hv:v.length=3):aa U0 161 #[.pointer (some ⟨a,0,none⟩),.agg (rB 32 d).toArray,.agg (rB 3 v).toArray] [ob a #[.pointer (some ⟨g,0,none⟩),u] 309,ob g (rB 255 aQ++rN 256 aU).toArray 312,.p (aJ eB u cQ)] [] N0 (λ_=> .agg (rB 4 (iC d v)).toArray):=
 Kv a g u d v cQ tG b hv qJ Kp rfl (by rw[BG];exact BE d v) (iC d v) (by rw[BG];exact Kg d v)
theorem Kx{P:Program}{T:TypeId}{x y:Operand}{w:World}{k:Nat}(h:k<9223372036854775807):(au .sub T x y (.int .i64 ((k+1:Nat):Int)) (.int .i64 1)).run P w= .ok (.int .i64 (k:Int)) w:=kQ (a:=k+1) (b:=1) Om Om
def fa(s:List UInt8):Nat:=(fU (Go.Proofs.YtbcodenfkijdnaaGreat.co s)).A
def cE(s:List UInt8):Int:=(fU (Go.Proofs.YtbcodenfkijdnaaGreat.co s)).place
def eE(s:List UInt8):UInt8:=(fU (Go.Proofs.YtbcodenfkijdnaaGreat.co s)).val
def nw(s:List UInt8):Value:= .agg #[.int .i64 ((fa s:Nat):Int),.int .i64 (cE s),.int .u8 ((eE s).toNat:Int)]
theorem pn{s:List UInt8}{k:Nat}{p:Int}{v:UInt8}(h:fU (Go.Proofs.YtbcodenfkijdnaaGreat.co s)=⟨k,p,v⟩):Value.agg #[.int .i64 (k:Int),.int .i64 p,.int .u8 (v.toNat:Int)]=nw s:=by
 unfold nw fa cE eE;rw[h]
theorem tJ{b:UInt8}(h:b≠0):((b.toNat:Int)==0)=false:=beq_false_of_ne λe=>h (UInt8.toNat_inj.1 (by show b.toNat=0;omega))
theorem BH(a:UInt8){b:UInt8}(h:b≠0):bK a b=Go.Proofs.YtbcodenfkijdnaaGreat.gd a b:=by
 unfold bK Go.Proofs.YtbcodenfkijdnaaGreat.gd mJ;rw[tJ h,ALcf];by_cases c:a=0
 ·subst c;rfl
 ·have d:a.toNat≠0:=λe=>c (UInt8.toNat_inj.1 e);have f:=pf a;have g:=pf b;rw[tJ c,ALcf,ALifn d,Bi (wR _)]
  congr 2
  unfold dn gL;omega
theorem BI{s:List UInt8}(hs:s.length=4):decide (s=UZ 4 0)=decide (mL (Go.Proofs.YtbcodenfkijdnaaGreat.co s)):=by
 rw[decide_eq_decide]
 constructor
 ·rintro rfl;exact⟨rfl,rfl,rfl,rfl⟩
 ·rintro ⟨a,b,c,d⟩;refine qH (by rw[hs,U6]) λi e=>?_;rw[hs] at e;have:i=0∨i=1∨i=2∨i=3:=by omega
  rcases this with rfl | rfl | rfl | rfl
  ·exact a
  ·exact b
  ·exact c
  ·exact d
theorem Ky{s:List UInt8}(hs:s.length=4)(h:decide (s=UZ 4 0)=true):Value.agg #[.int .i64 0,.int .i64 (-1),.int .u8 0]=nw s:=
 pn (k:=0) (p:= -1) (v:=0) (J7 (of_decide_eq_true (BI hs▸h)))
theorem w4{s:List UInt8}(hs:s.length=4)(h:decide (s=UZ 4 0)=false): ¬mL (Go.Proofs.YtbcodenfkijdnaaGreat.co s):=of_decide_eq_false (BI hs▸h)
theorem BJ{s:List UInt8}(h:((fv (s.getD 0 0) != 0)||(((bK (s.getD 1 0) (s.getD 0 0)).toNat:Int)==0))=false):Go.Proofs.YtbcodenfkijdnaaGreat.co s 0≠0∧gm (bK (s.getD 1 0) (s.getD 0 0)) (Go.Proofs.YtbcodenfkijdnaaGreat.co s 0)=Go.Proofs.YtbcodenfkijdnaaGreat.co s 1∧bK (s.getD 1 0) (s.getD 0 0)≠0:=by
 rw[Wh] at h;have a:s.getD 0 0≠0:=λe=>by rw[e] at h;exact absurd h.1 Dc
 refine⟨a,?_,λe=>by rw[e] at h;exact absurd h.2 Dc⟩;rw[BH _ a];exact BF (s.getD 1 0) a
theorem Kz{s:List UInt8}(hs:s.length=4)(b:decide (s=UZ 4 0)=false)(h:((fv (s.getD 0 0) != 0)||(((bK (s.getD 1 0) (s.getD 0 0)).toNat:Int)==0))=true):Value.agg #[.int .i64 3,.int .i64 (-1),.int .u8 0]=nw s:=by
 refine pn (k:=3) (p:= -1) (v:=0) (wY (w4 hs b) λi _=>?_);by_cases a:s.getD 0 0=0
 ·cases c:hit (Go.Proofs.YtbcodenfkijdnaaGreat.co s) i with
  | false=>rfl
  | true=>exact absurd a ((pj _ _).1 c).1
 ·rw[Bv a,VQ] at h;refine BC (r:=bK (s.getD 1 0) (s.getD 0 0)) ?_ (.inl (tC h)) i;rw[BH _ a];exact BF (s.getD 1 0) a
def rR(s:List UInt8):UInt8:=bK (s.getD 1 0) (s.getD 0 0)
theorem KA{s:List UInt8}{k:Nat}(b: ∀j,j<k→s.getD (j+1) 0=gm (s.getD j 0) (rR s))(h:((s.getD (k+1) 0).toNat:Int)=((gm (s.getD k 0) (bK (s.getD 1 0) (s.getD 0 0))).toNat:Int)): ∀j,j<k+1→s.getD (j+1) 0=gm (s.getD j 0) (rR s):=by
 intro j c;rcases Vp j k with a | a
 ·exact b j a
 ·obtain rfl:j=k:=by omega
  exact UInt8.toNat_inj.1 (Int.ofNat.inj h)
theorem KB{s:List UInt8}{k:Nat}(hs:s.length=4)(d:decide (s=UZ 4 0)=false)(f:((fv (s.getD 0 0) != 0)||(((bK (s.getD 1 0) (s.getD 0 0)).toNat:Int)==0))=false)(l:((k+1:Nat):Int)<4)(h:((s.getD (k+1) 0).toNat:Int)≠((gm (s.getD k 0) (bK (s.getD 1 0) (s.getD 0 0))).toNat:Int)):Value.agg #[.int .i64 3,.int .i64 (-1),.int .u8 0]=nw s:=by
 obtain⟨g,c,j⟩:=BJ f;have a:s.getD (k+1) 0≠gm (s.getD k 0) (bK (s.getD 1 0) (s.getD 0 0)):=λe=>h (by rw[e]);refine pn (k:=3) (p:= -1) (v:=0) (wY (w4 hs d) λi _=>BC c ?_ i);have b:k=0∨k=1∨k=2:=by omega
 rcases b with rfl | rfl | rfl
 ·exact absurd (c.symm.trans (kR _ _)) a
 ·exact .inr (.inl a)
 ·exact .inr (.inr a)
theorem w5{s:List UInt8}{k:Nat}(e:((fv (s.getD 0 0) != 0)||(((bK (s.getD 1 0) (s.getD 0 0)).toNat:Int)==0))=false)(g:k≤3)(f:4≤((k+1:Nat):Int))(b: ∀j,j<k→s.getD (j+1) 0=gm (s.getD j 0) (rR s)):hit (Go.Proofs.YtbcodenfkijdnaaGreat.co s) (gL (rR s).toNat)=true∧gh (bK (s.getD 1 0) (s.getD 0 0))=gL (rR s).toNat∧(lL (bK (s.getD 1 0) (s.getD 0 0)) != 0)=false∧gL (rR s).toNat<255:=by
 obtain⟨c,d,a⟩:=BJ e;obtain rfl:k=3:=by omega
 refine⟨Ka c d a (b 1 Om) (b 2 Om),?_,?_,J6 a⟩
 ·unfold gh;rw[tJ a];rfl
 ·unfold lL;rw[tJ a];rfl
theorem KC{s:List UInt8}{k:Nat}(hs:s.length=4)(f:decide (s=UZ 4 0)=false)(l:((fv (s.getD 0 0) != 0)||(((bK (s.getD 1 0) (s.getD 0 0)).toNat:Int)==0))=false)(o:k≤3)(a:4≤((k+1:Nat):Int))(m: ∀j,j<k→s.getD (j+1) 0=gm (s.getD j 0) (rR s))(h:((lL (bK (s.getD 1 0) (s.getD 0 0)) != 0)||decide (39≤((gh (bK (s.getD 1 0) (s.getD 0 0)):Nat):Int)))=true):Value.agg #[.int .i64 3,.int .i64 (-1),.int .u8 0]=nw s:=by
 obtain⟨b,c,d,e⟩:=w5 l o a m;rw[d,VQ,c] at h;have g:=of_decide_eq_true h;refine pn (k:=3) (p:= -1) (v:=0) (wY (w4 hs f) λi q=>?_);cases n:hit (Go.Proofs.YtbcodenfkijdnaaGreat.co s) i with
 | false=>rfl
 | true=>have:=By e Om b n;omega
theorem KD{s:List UInt8}{k:Nat}(g:((fv (s.getD 0 0) != 0)||(((bK (s.getD 1 0) (s.getD 0 0)).toNat:Int)==0))=false)(l:k≤3)(c:4≤((k+1:Nat):Int))(i: ∀j,j<k→s.getD (j+1) 0=gm (s.getD j 0) (rR s))(h:((lL (bK (s.getD 1 0) (s.getD 0 0)) != 0)||decide (39≤((gh (bK (s.getD 1 0) (s.getD 0 0)):Nat):Int)))=false)(a:36≤((gh (bK (s.getD 1 0) (s.getD 0 0)):Nat):Int)):Value.agg #[.int .i64 2,.int .i64 ((gh (bK (s.getD 1 0) (s.getD 0 0)):Nat):Int),.int .u8 ((s.getD 0 0).toNat:Int)]=nw s:=by
 obtain⟨d,e,f,m⟩:=w5 g l c i;rw[f,VQ] at h;have b:=of_decide_eq_false h;rw[e] at b a⊢;exact pn (k:=2) (J9 Om Om d)
theorem KE{s:List UInt8}{k:Nat}(e:((fv (s.getD 0 0) != 0)||(((bK (s.getD 1 0) (s.getD 0 0)).toNat:Int)==0))=false)(g:k≤3)(b:4≤((k+1:Nat):Int))(f: ∀j,j<k→s.getD (j+1) 0=gm (s.getD j 0) (rR s))(a:((gh (bK (s.getD 1 0) (s.getD 0 0)):Nat):Int)<36):Value.agg #[.int .i64 1,.int .i64 ((gh (bK (s.getD 1 0) (s.getD 0 0)):Nat):Int),.int .u8 ((s.getD 0 0).toNat:Int)]=nw s:=by
 obtain⟨c,d,h,i⟩:=w5 e g b f;rw[d] at a⊢;exact pn (k:=1) (J8 Om c)
theorem KF(b g:Nat)(u:Value)(s:List UInt8)(hs:s.length=4):aa U0 255 #[pt b 0,.agg (rB 4 s).toArray] [ob b #[pt g 0,u] 309,ob g (rB 255 aQ++rN 256 aU).toArray 312,.p (aJ eB u cQ)] [] N0 (λ_=> .agg #[iN (fa s),i6 (cE s),u1 ((eE s).toNat:Int)]):=by
 refine fO Tryz.func255 2 rfl λy B=>fG Tryz.func255 λw G=>ra (λa=>[(3,pt (B0 a) 0),(4,pt (B1 a) 0)]) (λa=>[ob (B0 a) (rB 4 s).toArray 268,ob (B1 a) #[i6 0,i6 0,u1 0] 368]) λa=>r0 [(0,.l 3),(2,.t (gy 268 λ_ _ _=>vU (xs:=rB 4 s) (ys:=rB 4 (UZ 4 0)) Kr (ja hs U6)))] [(11,.bool (decide (s=UZ 4 0)))] [] ?_;refine cB (decide (s=UZ 4 0)) (λz=>?_) λz=>?_
 ·exact rr (λ_=>[(1,.s 4)]) N0 [] (λ_ L=>L.set 4 (ob (B1 a) #[i6 0,i6 (-1),u1 0] 368)) λH=>ak (.agg #[i6 0,i6 (-1),u1 0]) ab.zero (by exact Ky hs As) [] [(0,0),(1,1),(2,2)] [4]
 refine r0 [(0,.v (pt b 0)),(1,.v (pt b 0)),(2,.v (pt b 0)),(3,.m (ld 0 (pt g 0))),(4,.v (pt (B0 a) 1)),(5,.m (ld 3 (u1 ((s.getD 1 0).toNat:Int)))),(6,.v (pt (B0 a) 0)),(7,.m (ld 3 (u1 ((s.getD 0 0).toNat:Int)))),(8,.c [1] [] (Bl g (s.getD 1 0) (s.getD 0 0))),(9,.v (.tuple #[u1 ((bK (s.getD 1 0) (s.getD 0 0)).toNat:Int),i6 (fv (s.getD 0 0))])),(10,.v (u1 ((bK (s.getD 1 0) (s.getD 0 0)).toNat:Int))),(11,.v (i6 (fv (s.getD 0 0)))),(12,.v (u1 ((bK (s.getD 1 0) (s.getD 0 0)).toNat:Int))),(13,.v (i6 (fv (s.getD 0 0))))] [(5,u1 ((bK (s.getD 1 0) (s.getD 0 0)).toNat:Int)),(6,i6 (fv (s.getD 0 0)))] [] (r0 [] [(30,.bool (((fv (s.getD 0 0)) != 0)||(((bK (s.getD 1 0) (s.getD 0 0)).toNat:Int)==0)))] [] ?_);refine cB (((fv (s.getD 0 0)) != 0)||(((bK (s.getD 1 0) (s.getD 0 0)).toNat:Int)==0)) (λA=>?_) λA=>?_
 ·exact rr (λ_=>[(0,.c [] [] (w3)),(1,.s 4)]) N0 [] (λ_ L=>L.set 4 (ob (B1 a) #[i6 3,i6 (-1),u1 0] 368)) λI=>ak (.agg #[i6 3,i6 (-1),u1 0]) ab.zero (by exact Kz hs As As) [] [(0,0),(1,1),(2,2)] [4]
 refine r0 [] [(7,i6 1)] [] ?_;refine lq (λk=>k≤3∧(∀j,j<k→s.getD (j+1) 0=gm (s.getD j 0) (rR s))) (λk=>[(7,iN (k+1))]) (λ_ L=>L) (λk=>3-k) 0 ⟨by omega,λ_ h=>absurd h (WE _)⟩ Kr Kr (λk ⟨x,i⟩=>?_);refine r0 [] [(33,.bool (decide (((k+1:Nat):Int)<4)))] [] ?_;refine b4 ((k+1:Nat):Int) 4 (λn d=>?_) λn d=>?_
 ·refine r0 [(0,.v (iN (k+1))),(1,iA 268 .i64 (B0 a) 0 4 1 (k+1)),(2,rD 3 (B0 a) (k+1) 268 (rB 4 s) (nh Om)),(3,.v (pt b 0)),(4,.v (pt b 0)),(5,.v (pt b 0)),(6,.m (ld 0 (pt g 0))),(7,.v (iN (k+1))),(8,.t (tv (au .sub 3 (.tmp 43) (.const (i6 1)) (iN (k+1)) (i6 1)) (λ_=>Kx Om))),(9,iA 268 .i64 (B0 a) 0 4 1 k),(10,rD 3 (B0 a) k 268 (rB 4 s) (nh Om)),(11,.v (u1 ((bK (s.getD 1 0) (s.getD 0 0)).toNat:Int))),(12,.c [1] [] (ph g (s.getD k 0) (bK (s.getD 1 0) (s.getD 0 0)))),(13,.v (.bool (((s.getD (k+1) 0).toNat:Int) != ((gm (s.getD k 0) (bK (s.getD 1 0) (s.getD 0 0))).toNat:Int))))] [(49,.bool (((s.getD (k+1) 0).toNat:Int) != ((gm (s.getD k 0) (bK (s.getD 1 0) (s.getD 0 0))).toNat:Int)))] [] ?_;refine mE ((s.getD (k+1) 0).toNat:Int) ((gm (s.getD k 0) (bK (s.getD 1 0) (s.getD 0 0))).toNat:Int) (λo e=>?_) λo e=>?_
  ·exact rr (λ_=>[(0,.c [] [] (w3)),(1,.s 4)]) N0 [] (λ_ L=>L.set 4 (ob (B1 a) #[i6 3,i6 (-1),u1 0] 368)) λC=>ak (.agg #[i6 3,i6 (-1),u1 0]) ab.zero (by exact KB hs As As As As) [] [(0,0),(1,1),(2,2)] [4]
  exact r0 [(1,ad (k+1) 1)] [(7,iN ((k+1)+1))] [7] (le (k+1) ⟨by omega,KA i As⟩ Om Kr [0,1,2,3,4] Kr)
 refine lx (r0 [(3,.l 0),(5,.c [1] [] (I8 g (bK (s.getD 1 0) (s.getD 0 0))))] [(8,iN (gh (bK (s.getD 1 0) (s.getD 0 0)))),(6,i6 (lL (bK (s.getD 1 0) (s.getD 0 0))))] [6] (r0 [] [(60,.bool (((lL (bK (s.getD 1 0) (s.getD 0 0))) != 0)||(decide (39≤(((gh (bK (s.getD 1 0) (s.getD 0 0))):Nat):Int)))))] [] ?_));refine cB (((lL (bK (s.getD 1 0) (s.getD 0 0))) != 0)||(decide (39≤(((gh (bK (s.getD 1 0) (s.getD 0 0))):Nat):Int)))) (λq=>?_) λq=>?_
 ·exact rr (λ_=>[(0,.c [] [] (w3)),(1,.s 4)]) N0 [] (λ_ L=>L.set 4 (ob (B1 a) #[i6 3,i6 (-1),u1 0] 368)) λD=>ak (.agg #[i6 3,i6 (-1),u1 0]) ab.zero (by exact KC hs As As Om As i As) [] [(0,0),(1,1),(2,2)] [4]
 refine r0 [] [(68,.bool (decide (36≤(((gh (bK (s.getD 1 0) (s.getD 0 0))):Nat):Int))))] [] ?_;refine n7 36 (((gh (bK (s.getD 1 0) (s.getD 0 0))):Nat):Int) (λr f=>?_) λr f=>?_
 ·exact rr (λ_=>[(2,.l 3),(4,.s 4)]) N0 [] (λ_ L=>L.set 4 (ob (B1 a) #[i6 2,iN (gh (bK (s.getD 1 0) (s.getD 0 0))),u1 ((s.getD 0 0).toNat:Int)] 368)) λF=>ak (.agg #[i6 2,iN (gh (bK (s.getD 1 0) (s.getD 0 0))),u1 ((s.getD 0 0).toNat:Int)]) ab.zero (by exact KD As Om As i As As) [] [(0,0),(1,1),(2,2)] [4]
 exact rs [(2,.l 3),(4,.s 4)] 4 (ob (B1 a) #[i6 1,iN (gh (bK (s.getD 1 0) (s.getD 0 0))),u1 ((s.getD 0 0).toNat:Int)] 368) (ak (.agg #[i6 1,iN (gh (bK (s.getD 1 0) (s.getD 0 0))),u1 ((s.getD 0 0).toNat:Int)]) ab.zero (by exact KE As Om As i As) [] [(0,0),(1,1),(2,2)] [4])
end
section
open Go.RowKit Go.Shelf Go
attribute [local irreducible] a4 ax gP gO dT aQ aU cQ aY
theorem BK{s:List UInt8}(h:(((fa s:Nat):Int)==1)=true):(cE s).toNat<36∧cE s=(((cE s).toNat:Nat):Int):=by
 obtain⟨i,b,a⟩:=Kl (s:=Go.Proofs.YtbcodenfkijdnaaGreat.co s) h;have:cE s=(i:Int):=a;omega
theorem KG{d v:List UInt8}(a:d.length=36):((bif ((fa (aY d v):Nat):Int)==1 then d.set ((cE (aY d v)).toNat) ((d.getD ((cE (aY d v)).toNat) 0)^^^(eE (aY d v))) else d).drop 4).take 32=gB d v:=by
 unfold gB fa cE eE;cases ((fU (Go.Proofs.YtbcodenfkijdnaaGreat.co (aY d v))).A:Int)==1
 ·rw[ALcf,ALcf,V8 (by rw[Vx,a];decide)]
 ·rw[ALct,ALct,V8 (by rw[Vx,U9,a];decide)]
theorem KH(i g:Nat)(u:Value)(d v:List UInt8)(j:d.length=36)(hv:v.length=3):aa U0 229 #[pt i 0,.agg (rB 36 d).toArray,.agg (rB 3 v).toArray] [ob i #[pt g 0,u] 309,ob g (rB 255 aQ++rN 256 aU).toArray 312,.p (aJ eB u cQ)] [] N0 (λ_=> .tuple #[.agg (rB 32 (gB d v)).toArray,.agg #[iN (fa (aY d v)),i6 (cE (aY d v)),u1 ((eE (aY d v)).toNat:Int)]]):=by
 refine fO Tryz.func229 2 rfl λf n=>fG Tryz.func229 λw x=>ra (λe=>[(4,pt (B0 e) 0),(5,pt (B1 e) 0),(6,pt (B2 e) 0),(7,pt (B3 e) 0)]) (λe=>[ob (B0 e) (rB 36 d).toArray 371,ob (B1 e) (rB 3 v).toArray 262,ob (B2 e) (rB 32 (UZ 32 0)).toArray 267,ob (B3 e) #[i6 0,i6 0,u1 0] 368]) λe=>rr (λk=>[(2,.l 3),(3,.l 4),(4,.c [0,1,2] [] (aa.at (rd':=[ob i #[pt g 0,u] 309,ob g (rB 255 aQ++rN 256 aU).toArray 312,.c f]) (Kt i g u d v (by(simp only[LL,w0,j,hv];done)) (by(simp only[LL,w0,j,hv];done))) (aN (aN (ec n (λ_ h=>h)))))),(5,.c [0,1,2] [] (aa.at (rd':=[ob i #[pt g 0,u] 309,ob g (rB 255 aQ++rN 256 aU).toArray 312,.c f]) (KF i g u (aY d v) (by(simp only[LL,w0,j,hv];done))) (aN (aN (ec n (λ_ h=>h)))))),(7,.s 7)]) (λk=>[(8,pt (B6 k) 0)]) [] (λk L=>L++[ob (B6 k) #[iN (fa (aY d v)),i6 (cE (aY d v)),u1 ((eE (aY d v)).toNat:Int)] 368]) λk=>r0 [(1,.l 7)] [(17,.bool (((fa (aY d v):Nat):Int)==1))] [] ?_;refine cJ (((fa (aY d v):Nat):Int)==1) N0 (λc=>[ob i #[pt g 0,u] 309,ob g (rB 255 aQ++rN 256 aU).toArray 312,.c f,ob (B0 e) (rB 36 (bif c then d.set ((cE (aY d v)).toNat) ((d.getD ((cE (aY d v)).toNat) 0)^^^(eE (aY d v))) else d)).toArray 371,ob (B1 e) (rB 3 v).toArray 262,ob (B2 e) (rB 32 (UZ 32 0)).toArray 267,ob (B3 e) #[i6 0,i6 0,u1 0] 368,ob (B6 k) #[iN (fa (aY d v)),i6 (cE (aY d v)),u1 ((eE (aY d v)).toNat:Int)] 368]) (λq=>?_) (λq=>?_) ?_
 ·have o:=eq_of_beq q;have r:=BK As;refine rs [(1,.m (lt 7 (B6 k) 1 #[iN (fa (aY d v)),i6 (cE (aY d v)),u1 ((eE (aY d v)).toNat:Int)] 368 (ALca (λz:Int=>some (Value.int .i64 z)) (BK As).2))),(2,iA 371 .i64 (B0 e) 0 36 1 ((cE (aY d v)).toNat)),(3,rD 3 (B0 e) ((cE (aY d v)).toNat) 371 (rB 36 d) (nh Om)),(5,.l 7),(6,.t (tb (a:=u1 ((d.getD ((cE (aY d v)).toNat) 0).toNat:Int)) (b:=u1 ((eE (aY d v)).toNat:Int)) λ_ _ _ _=>kJ (d.getD ((cE (aY d v)).toNat) 0) ((eE (aY d v))))),(7,iA 371 .i64 (B0 e) 0 36 1 ((cE (aY d v)).toNat)),(8,wD 3 (B0 e) ((cE (aY d v)).toNat) 371 (u1 (((d.getD ((cE (aY d v)).toNat) 0)^^^(eE (aY d v))).toNat:Int)) (rB 36 d) (rB 36 (d.set ((cE (aY d v)).toNat) ((d.getD ((cE (aY d v)).toNat) 0)^^^(eE (aY d v))))) (jt Om) (lF j))] 3 (ob (B0 e) (rB 36 (d.set ((cE (aY d v)).toNat) ((d.getD ((cE (aY d v)).toNat) 0)^^^(eE (aY d v))))).toArray 371) ?_;exact cm Kr [0,1,2,3,4,5,6,7] Kr
 ·have o:=ne_of_beq_false q;exact cm Kr [0,1,2,3,4,5,6,7] Kr
 exact rr (λ_=>[(0,aL 371 (B0 e) 36 1 4),(1,.t (tv (Instr.arrayAt 267 (.slice (some ⟨(e 0).y 0,4*1,none⟩) 32 32)) (λ_=>run_arrayAt _ 267 5 32 _ _ _ Tryz.underlying267 Om))),(2,.m (lg 3 (B0 e) (4*1) (rB 36 (bif ((fa (aY d v):Nat):Int)==1 then d.set ((cE (aY d v)).toNat) ((d.getD ((cE (aY d v)).toNat) 0)^^^(eE (aY d v))) else d)).toArray 371 (rB 32 (((bif ((fa (aY d v):Nat):Int)==1 then d.set ((cE (aY d v)).toNat) ((d.getD ((cE (aY d v)).toNat) 0)^^^(eE (aY d v))) else d).drop 4).take 32)) (vW (λ_=>rfl) (HR (by rw[U9];exact j) j) Om))),(3,.l 7),(4,.s 5),(5,.s 6)]) N0 [] (λ_ L=>(L.set 5 (ob (B2 e) (rB 32 (((bif ((fa (aY d v):Nat):Int)==1 then d.set ((cE (aY d v)).toNat) ((d.getD ((cE (aY d v)).toNat) 0)^^^(eE (aY d v))) else d).drop 4).take 32)).toArray 267)).set 6 (ob (B3 e) #[iN (fa (aY d v)),i6 (cE (aY d v)),u1 ((eE (aY d v)).toNat:Int)] 368)) λy=>ak (.tuple #[.agg (rB 32 (((bif ((fa (aY d v):Nat):Int)==1 then d.set ((cE (aY d v)).toNat) ((d.getD ((cE (aY d v)).toNat) 0)^^^(eE (aY d v))) else d).drop 4).take 32)).toArray,.agg #[iN (fa (aY d v)),i6 (cE (aY d v)),u1 ((eE (aY d v)).toNat:Int)]]) ab.zero (by rw[KG j]) [] [(0,0),(1,1),(2,2)] [5,6]
end
section
open Go.RowKit Go.Shelf Go
attribute [local irreducible] pc bB
theorem w6(g i:Nat)(x:UInt8)(cl:List UInt8)(a:List Int)(d:i<74)(b:cl.length=74)(ht:a.length=256):aa U0 179 #[pt g 0,iN i,u1 (x.toNat:Int)] [ob g (rB 74 cl++rI 256 a).toArray 298] [0] (λ_=>[ob g (rB 74 (cl.set i x)++rI 256 (a.set x.toNat (i:Int))).toArray 298]) (λ_=> .tuple #[]):=by
 have e:=x.toNat_lt;refine fG Tryz.func179 λw c=>rs [(0,.v (pt g 0)),(1,.v (iN i)),(2,.v (pt g 0)),(3,.v (u1 (x.toNat:Int))),(4,.v (u1 (x.toNat:Int))),(5,.v (iN i)),(6,.v (pt g 0)),(7,.v (pt g 0)),(8,iA 295 .i64 g 0 74 1 i),(9,wM (A:=[]) (R:=rB 74 cl) (C:=(rI 256 a:List Value)) 0 g i 298 (u1 (x.toNat:Int)) (rB 74 cl++rI 256 a) (rB 74 (cl.set i x)++rI 256 a) rfl rfl rfl (jt Om) (lF b)),(10,.v (pt g 0)),(11,.v (pt g 74)),(12,iA 296 .u8 g 74 256 1 x.toNat),(13,wM (A:=(rB 74 (cl.set i x):List Value)) (R:=rI 256 a) (C:=[]) 0 g x.toNat 298 (iN i) (rB 74 (cl.set i x)++rI 256 a) (rB 74 (cl.set i x)++rI 256 (a.set x.toNat (i:Int))) (by rw[U2]) (by rw[U2]) jP (jt Om) (zR ht))] 0 (ob g (rB 74 (cl.set i x)++rI 256 (a.set x.toNat (i:Int))).toArray 298) ?_;exact eh ab.zero [0] [] []
def xc(cl:List UInt8)(d:Nat):Nat→UInt8
 | 0=>0
 | k+1=>xc cl d k^^^cl.getD ((bB d).getD k 0) 0
theorem BL{d j:Nat}(h:j<(bB d).length):(bB d).getD j 0<64:=by
 have a:(bB d).getD j 0∈bB d:=by
  rw[U8,Vk h];exact Wv h
 unfold bB at a⊢;have:=(FL 64 0 d _ a).2.1;omega
def bO(d:Nat)(a p:Int)(cl:List UInt8):UInt8:=(bif (p%2)==1 then(bif (a%2)==1 then(xc cl d ((bB d).length))^^^(cl.getD 72 0) else(xc cl d ((bB d).length)))^^^(cl.getD 73 0) else(bif (a%2)==1 then(xc cl d ((bB d).length))^^^(cl.getD 72 0) else(xc cl d ((bB d).length))))
theorem BM(g d:Nat)(a p:Int)(cl:List UInt8)(m:List Int)(I:d<18446744073709551616)(H:cl.length=74)(ht:m.length=256):aa U0 157 #[pt g 0,u6 (d:Int),i6 a,i6 p] [ob g (rB 74 cl++rI 256 m).toArray 298] [] N0 (λ_=>u1 ((bO d a p cl).toNat:Int)):=by
 refine fG Tryz.func157 λw G=>ra (λk=>[(4,pt (B0 k) 0),(8,u1 0)]) (λk=>[ob (B0 k) #[pt g 0] 235]) λk=>rr (λ_=>[(1,.s 2)]) (λe=>[(9,pt (B0 e) 0)]) [] (λe L=>L++[ob (B0 e) #[u1 0] 5]) λe=>rr (λ_=>[(1,.c [] [3] (AY d))]) (λn=>[(12,.func (.func 172) #[] #[pt ((B1 n)) 0])]) [] (λn L=>L++[ob (B1 n) #[u6 (d:Int)] 44]) λn=>?_;refine Ay (encs:=λ(i:Nat)=>#[iN i]) (xs:=bB d) (XO:=[((B1 n),.cells #[u6 (d:Int)] 44 (0,0))]) (KO:=[]) (AX (B1 n) d Om) (enters_of Tryz.func172 Kr rfl) (λj=>j≤(bB d).length) (λj L=>L.set 2 (ob (B0 e) #[u1 ((xc cl d j).toNat:Int)] 5)) [ob g (rB 74 cl++rI 256 m).toArray 298,ob (B0 k) #[pt g 0] 235,ob (B0 e) #[u1 0] 5] [0,1,2,3] [3] [] Om Kr (λJ j K z D v u=>?_) (λy u=>?_)
 ·obtain⟨r,rfl⟩:=o2 0 v;have x:=BL r;refine r0 [] [(10,iN ((bB d).getD j 0))] [] ?_;refine ag [] (λB F=>?_);exact rs [(0,.l 2),(1,.l 1),(5,iA 295 .i64 g 0 74 1 ((bB d).getD j 0)),(6,rM (A:=[]) (R:=rB 74 cl) (C:=(rI 256 m:List Value)) 0 g ((bB d).getD j 0) 298 (rB 74 cl++rI 256 m) rfl rfl (nh Om)),(7,.t (tb (a:=u1 ((xc cl d j).toNat:Int)) (b:=u1 ((cl.getD ((bB d).getD j 0) 0).toNat:Int)) λ_ _ _ _=>kJ ((xc cl d j)) (cl.getD ((bB d).getD j 0) 0))),(8,.s 2)] 2 (ob (B0 e) #[u1 (((xc cl d j)^^^(cl.getD ((bB d).getD j 0) 0)).toNat:Int)] 5) (ne _ ⟨Om,rfl⟩ [0,1,2] Kr)
 refine r0 [(1,.t (tv (au .and 3 (.tmp 22) (.const (i6 1)) (i6 a) (i6 1)) (λ_=>lJ a 1 2 Dc Dc Dc Dc)))] [(24,.bool ((a%2)==1))] [] ?_;refine cJ ((a%2)==1) N0 (λc=>[ob g (rB 74 cl++rI 256 m).toArray 298,ob (B0 k) #[pt g 0] 235,ob (B0 e) #[u1 ((bif c then(xc cl d ((bB d).length))^^^(cl.getD 72 0) else(xc cl d ((bB d).length))).toNat:Int)] 5]) (λf=>?_) (λf=>?_) ?_
 ·have o:=eq_of_beq f;refine rs [(0,.l 2),(1,.l 1),(5,.l 0),(6,.t (tb (a:=u1 ((xc cl d ((bB d).length)).toNat:Int)) (b:=u1 ((cl.getD 72 0).toNat:Int)) λ_ _ _ _=>kJ ((xc cl d ((bB d).length))) (cl.getD 72 0))),(7,.s 2)] 2 (ob (B0 e) #[u1 (((xc cl d ((bB d).length))^^^(cl.getD 72 0)).toNat:Int)] 5) ?_;exact cm Kr [0,1,2] Kr
 ·have o:=ne_of_beq_false f;exact cm Kr [0,1,2] Kr
 refine r0 [(1,.t (tv (au .and 3 (.tmp 32) (.const (i6 1)) (i6 p) (i6 1)) (λ_=>lJ p 1 2 Dc Dc Dc Dc)))] [(34,.bool ((p%2)==1))] [] ?_;refine cJ ((p%2)==1) N0 (λc=>[ob g (rB 74 cl++rI 256 m).toArray 298,ob (B0 k) #[pt g 0] 235,ob (B0 e) #[u1 ((bif c then(bif (a%2)==1 then(xc cl d ((bB d).length))^^^(cl.getD 72 0) else(xc cl d ((bB d).length)))^^^(cl.getD 73 0) else(bif (a%2)==1 then(xc cl d ((bB d).length))^^^(cl.getD 72 0) else(xc cl d ((bB d).length)))).toNat:Int)] 5]) (λh=>?_) (λh=>?_) ?_
 ·have q:=eq_of_beq h;refine rs [(0,.l 2),(1,.l 1),(5,.l 0),(6,.t (tb (a:=u1 ((bif (a%2)==1 then(xc cl d ((bB d).length))^^^(cl.getD 72 0) else(xc cl d ((bB d).length))).toNat:Int)) (b:=u1 ((cl.getD 73 0).toNat:Int)) λ_ _ _ _=>kJ ((bif (a%2)==1 then(xc cl d ((bB d).length))^^^(cl.getD 72 0) else(xc cl d ((bB d).length)))) (cl.getD 73 0))),(7,.s 2)] 2 (ob (B0 e) #[u1 (((bif (a%2)==1 then(xc cl d ((bB d).length))^^^(cl.getD 72 0) else(xc cl d ((bB d).length)))^^^(cl.getD 73 0)).toNat:Int)] 5) ?_;exact cm Kr [0,1,2] Kr
 ·have q:=ne_of_beq_false h;exact cm Kr [0,1,2] Kr
 exact r0 [(0,.l 2)] [(8,u1 ((bif (p%2)==1 then(bif (a%2)==1 then(xc cl d ((bB d).length))^^^(cl.getD 72 0) else(xc cl d ((bB d).length)))^^^(cl.getD 73 0) else(bif (a%2)==1 then(xc cl d ((bB d).length))^^^(cl.getD 72 0) else(xc cl d ((bB d).length)))).toNat:Int))] [8] (lf ab.zero [] [(0,0)] [])
theorem KJ(g d:Nat)(k:UInt8)(a p:Int)(cl:List UInt8)(e:List Int)(i:d<18446744073709551616)(f:cl.length=74)(ht:e.length=256):aa U0 254 #[pt g 0,u6 (d:Int),u1 (k.toNat:Int),i6 a,i6 p] [ob g (rB 74 cl++rI 256 e).toArray 298] [] N0 (λ_=>u1 (((bO d a p cl)^^^k).toNat:Int)):=by
 exact fG Tryz.func254 λw h=>r0 [] [(10,u1 0)] [] (r0 [(4,.c [0] [] (BM g d a p cl e Om (by(simp only[LL,f,ht];done)) (by(simp only[LL,f,ht];done)))),(6,.t (tb (a:=u1 ((bO d a p cl).toNat:Int)) (b:=u1 (k.toNat:Int)) λ_ _ _ _=>kJ ((bO d a p cl)) (k)))] [(10,u1 (((bO d a p cl)^^^k).toNat:Int))] [10] (lf ab.zero [] [(0,0)] []))
def dj(k:UInt8)(a:List Int):Int:=(bif (k.toNat:Int)==0 then 0 else(bif (a.getD k.toNat 0)==(-1) then 4 else(bif (a.getD k.toNat 0)==72 then 3 else(bif (a.getD k.toNat 0)==73 then 2 else 1))))
def db(k:UInt8)(a:List Int):Int:=(bif (k.toNat:Int)==0 then(-1) else(bif (a.getD k.toNat 0)==(-1) then(-1) else(bif (a.getD k.toNat 0)==72 then(-1) else(bif (a.getD k.toNat 0)==73 then(-1) else(a.getD k.toNat 0)))))
theorem KK(g:Nat)(k:UInt8)(cl:List UInt8)(a:List Int)(m:cl.length=74)(ht:a.length=256):aa U0 253 #[pt g 0,u1 (k.toNat:Int)] [ob g (rB 74 cl++rI 256 a).toArray 298] [] N0 (λ_=> .tuple #[i6 (dj k a),i6 (db k a)]):=by
 have n:=k.toNat_lt;refine fG Tryz.func253 λw l=>r0 [] [(4,i6 0),(5,i6 0)] [] (r0 [] [(8,.bool ((k.toNat:Int)==0))] [] ?_);refine cD (k.toNat:Int) 0 (λd i=>?_) λd i=>?_
 ·exact r0 [] [(4,i6 0),(5,i6 (-1))] [4,5] (ak (.tuple #[i6 0,i6 (-1)]) ab.zero (by((try simp only[dj,db]);(repeat (first | rw[d] | rw[ALct])))<;>rfl) [] [(0,0)] [])
 refine r0 [(4,iA 296 .u8 g 74 256 1 k.toNat),(5,rM (A:=(rB 74 cl:List Value)) (R:=rI 256 a) (C:=[]) 0 g k.toNat 298 (rB 74 cl++rI 256 a) (by rw[U2]) jP (GH Om))] [(6,i6 (a.getD k.toNat 0))] [] (r0 [] [(16,.bool ((a.getD k.toNat 0)==(-1)))] [] ?_);refine cD (a.getD k.toNat 0) (-1) (λh j=>?_) λh j=>?_
 ·exact r0 [] [(4,i6 4),(5,i6 (-1))] [4,5] (ak (.tuple #[i6 4,i6 (-1)]) ab.zero (by((try simp only[dj,db]);(repeat (first | rw[d] | rw[h] | rw[ALct] | rw[ALcf])))<;>rfl) [] [(0,0)] [])
 refine r0 [] [(19,.bool ((a.getD k.toNat 0)==72))] [] ?_;refine cD (a.getD k.toNat 0) 72 (λb e=>?_) λb e=>?_
 ·exact r0 [] [(4,i6 3),(5,i6 (-1))] [4,5] (ak (.tuple #[i6 3,i6 (-1)]) ab.zero (by((try simp only[dj,db]);(repeat (first | rw[d] | rw[h] | rw[b] | rw[ALct] | rw[ALcf])))<;>rfl) [] [(0,0)] [])
 refine r0 [] [(22,.bool ((a.getD k.toNat 0)==73))] [] ?_;refine cD (a.getD k.toNat 0) 73 (λc f=>?_) λc f=>?_
 ·exact r0 [] [(4,i6 2),(5,i6 (-1))] [4,5] (ak (.tuple #[i6 2,i6 (-1)]) ab.zero (by((try simp only[dj,db]);(repeat (first | rw[d] | rw[h] | rw[b] | rw[c] | rw[ALct] | rw[ALcf])))<;>rfl) [] [(0,0)] [])
 exact r0 [] [(4,i6 1),(5,i6 (a.getD k.toNat 0))] [4,5] (ak (.tuple #[i6 1,i6 (a.getD k.toNat 0)]) ab.zero (by((try simp only[dj,db]);(repeat (first | rw[d] | rw[h] | rw[b] | rw[c] | rw[ALcf])))<;>rfl) [] [(0,0)] [])
theorem KL{b:List Int}{K:UInt8}(hp: ∀k:UInt8,(dj k b==1)=true→0≤db k b)(h:((dj K b==1)&&decide (db K b<64))=true):0≤db K b∧db K b<64∧1*2^(db K b).toNat<18446744073709551616:=by
 rw[U7] at h;have c:=hp K h.1;have d:=of_decide_eq_true h.2;refine⟨c,d,?_⟩;rw[Nat.one_mul];exact Wu (Nat.pow_lt_pow_right (a:=2) Om (show(db K b).toNat<64 by omega)) Dc
def fV(d:Nat)(k:UInt8)(a:Int)(cl:List UInt8)(b:List Int):Nat:=(bif ((dj ((bO d a 0 cl)^^^k) b)==1)&&(decide ((db ((bO d a 0 cl)^^^k) b)<64)) then d^^^(1*2^(db (bO d a 0 cl^^^k) b).toNat) else d)
theorem KM(g d:Nat)(k:UInt8)(a:Int)(cl:List UInt8)(b:List Int)(i:d<18446744073709551616)(e:cl.length=74)(ht:b.length=256)(hp: ∀k:UInt8,(dj k b==1)=true→0≤db k b):aa U0 227 #[pt g 0,u6 (d:Int),u1 (k.toNat:Int),i6 a] [ob g (rB 74 cl++rI 256 b).toArray 298] [] N0 (λ_=> .tuple #[u6 (((fV d k a cl b):Nat):Int),i6 (dj ((bO d a 0 cl)^^^k) b),i6 (db ((bO d a 0 cl)^^^k) b)]):=by
 refine fG Tryz.func227 λw j=>r0 [] [(8,u6 0),(9,i6 0),(10,i6 0)] [] (r0 [(0,.v (pt g 0)),(1,.v (pt g 0)),(2,.v (u6 (d:Int))),(3,.v (u1 (k.toNat:Int))),(4,.v (i6 a)),(5,.c [0] [] (KJ g d k a 0 cl b Om (by(simp only[LL,e,ht];done)) (by(simp only[LL,e,ht];done)))),(6,.c [0] [] (KK g ((bO d a 0 cl)^^^k) cl b (by(simp only[LL,e,ht];done)) (by(simp only[LL,e,ht];done)))),(7,.v (.tuple #[i6 (dj ((bO d a 0 cl)^^^k) b),i6 (db ((bO d a 0 cl)^^^k) b)])),(8,.v (i6 (dj ((bO d a 0 cl)^^^k) b))),(9,.v (i6 (db ((bO d a 0 cl)^^^k) b))),(10,.v (i6 (dj ((bO d a 0 cl)^^^k) b))),(11,.v (i6 (db ((bO d a 0 cl)^^^k) b)))] [(9,i6 (dj ((bO d a 0 cl)^^^k) b)),(10,i6 (db ((bO d a 0 cl)^^^k) b))] [9,10] (r0 [] [(26,.bool (((dj ((bO d a 0 cl)^^^k) b)==1)&&(decide ((db ((bO d a 0 cl)^^^k) b)<64))))] [] ?_));refine cJ (((dj ((bO d a 0 cl)^^^k) b)==1)&&(decide ((db ((bO d a 0 cl)^^^k) b)<64))) (λc=>[(1,u6 (((bif c then d^^^(1*2^(db (bO d a 0 cl^^^k) b).toNat) else d):Nat):Int))]) (λ_=>[ob g (rB 74 cl++rI 256 b).toArray 298]) (λf=>?_) (λf=>?_) ?_
 ·have h:=KL hp f;refine r0 [(1,.t (tk (show i6 (db ((bO d a 0 cl)^^^k) b)=iN ((db (bO d a 0 cl^^^k) b).toNat) from ALca (Value.int .i64) Om))),(2,.t (tv (convert 3 201 (iN ((db (bO d a 0 cl^^^k) b).toNat))) (λ_=>mz Tryz.underlying3 Tryz.underlying201 Om))),(3,.t (tv (au .shl 44 (.const (u6 1)) (.tmp 29) (u6 1) (u6 (((db (bO d a 0 cl^^^k) b).toNat:Nat):Int))) (λ_=>sD (a:=1) (db (bO d a 0 cl^^^k) b).toNat Om h.2.2))),(4,.t (tv (au .xor 44 (.tmp 27) (.tmp 30) (u6 (d:Int)) (u6 ((1*2^(db (bO d a 0 cl^^^k) b).toNat:Nat):Int))) (λ_=>Gv i h.2.2)))] [(1,u6 ((d^^^(1*2^(db (bO d a 0 cl^^^k) b).toNat):Nat):Int))] [1] ?_;exact cm Kr [0] Kr
 ·exact cm Kr [0] Kr
 exact r0 [] [(8,u6 (((bif ((dj ((bO d a 0 cl)^^^k) b)==1)&&(decide ((db ((bO d a 0 cl)^^^k) b)<64)) then d^^^(1*2^(db (bO d a 0 cl^^^k) b).toNat) else d):Nat):Int)),(9,i6 (dj ((bO d a 0 cl)^^^k) b)),(10,i6 (db ((bO d a 0 cl)^^^k) b))] [8,9,10] (lf ab.zero [] [(0,0)] [])
end
section
open Go.RowKit Go.Shelf Go
def iD:Nat→List Int
 | 0=>UZ 256 0
 | k+1=>(iD k).set k (-1)
def jy:Nat→List UInt8
 | 0=>UZ 74 0
 | k+1=>(jy k).set (64+k) (UInt8.ofNat (1*2^k))
def jz:Nat→List Int
 | 0=>iD 256
 | k+1=>(jz k).set (UInt8.ofNat (1*2^k)).toNat ((64+k:Nat):Int)
def jA:Nat→List UInt8
 | 0=>jy 8
 | k+1=>(jA k).set k (UInt8.ofNat ((ch 3 256).getD k 0))
def jB:Nat→List Int
 | 0=>jz 8
 | k+1=>(jB k).set (UInt8.ofNat ((ch 3 256).getD k 0)).toNat ((k:Nat):Int)
def p5(k:Nat):Nat:=bif decide (k<8) then 56+k else 64+k
def bC:Nat→List UInt8
 | 0=>jA 56
 | k+1=>(bC k).set (p5 k) (UInt8.ofNat ((ch 5 256).getD k 0))
def bQ:Nat→List Int
 | 0=>jB 56
 | k+1=>(bQ k).set (UInt8.ofNat ((ch 5 256).getD k 0)).toNat ((p5 k:Nat):Int)
theorem mN: ∀k,(iD k).length=256
 | 0=>U6 ..
 | k+1=>by rw[iD,U9];exact mN k
theorem ny: ∀k,(jy k).length=74
 | 0=>U6 ..
 | k+1=>by rw[jy,U9];exact ny k
theorem nz: ∀k,(jz k).length=256
 | 0=>mN 256
 | k+1=>by rw[jz,U9];exact nz k
theorem nA: ∀k,(jA k).length=74
 | 0=>ny 8
 | k+1=>by rw[jA,U9];exact nA k
theorem nB: ∀k,(jB k).length=256
 | 0=>nz 8
 | k+1=>by rw[jB,U9];exact nB k
theorem jg: ∀k,(bC k).length=74
 | 0=>nA 56
 | k+1=>by rw[bC,U9];exact jg k
theorem jh: ∀k,(bQ k).length=256
 | 0=>nB 56
 | k+1=>by rw[bQ,U9];exact jh k
theorem w7:(ch 3 256).length=56:=by decide+kernel
theorem KN:(ch 5 256).length=56:=by decide+kernel
def b5(k:Nat):Nat:=bif decide (k≤8) then 56+k else 64+k
theorem KP{i:Nat}(h:i≤10):(bif ((b5 i:Nat):Int)==64 then 72 else b5 i)=p5 i:=by
 have: ∀i,i≤10→(bif ((b5 i:Nat):Int)==64 then 72 else b5 i)=p5 i:=by decide
 exact this i h
theorem KQ{i:Nat}:(p5 i=56+i∧i<8)∨(p5 i=64+i∧8≤i):=by
 unfold p5;rcases Vp i 8 with h | h
 ·exact .inl ⟨by rw[cS h];rfl,h⟩
 ·exact .inr ⟨by rw[bg Om];rfl,h⟩
theorem KR{i:Nat}(h:i<10):b5 (i+1)=p5 i+1:=by
 have: ∀i,i<10→b5 (i+1)=p5 i+1:=by decide
 exact this i h
attribute [local irreducible] iD jy jz jA jB bC bQ ch
theorem KS:aa U0 140 #[] [] [] (λE=>[ob (E.y 0) (rB 74 (bC 10)++rI 256 (bQ 10)).toArray 298]) (λE=>pt ((E.y 0)) 0):=by
 refine fG Tryz.func140 λw V=>r0 [] [(0,.pointer none)] [] (rr (λ_=>[(3,.s 1)]) (λe=>[(1,pt (B2 e) 0)]) [] (λe L=>L++[ob (B1 e) (rB 74 (UZ 74 0)++rN 256 (UZ 256 0)).toArray 298,ob (B2 e) #[pt (B1 e) 0] 235]) λe=>r0 [] [(9,i6 0)] [] ?_);refine lq (λk=>k≤256) (λk=>[(9,iN k)]) (λk L=>L.set 0 (ob (B1 e) (rB 74 (UZ 74 0)++rI 256 (iD k)).toArray 298)) (λk=>256-k) 0 Om Kr (by rw[show iD 0=UZ 256 0 by unfold iD;rfl];kernel_rfl) (λk Q=>?_);refine r0 [] [(10,.bool (decide ((k:Int)<256)))] [] ?_;refine b4 (k:Int) 256 (λO x=>?_) λO x=>?_
 ·exact r0 [] [(2,iN k)] [] (rs [(0,.l 1),(4,iA 296 .i64 (B1 e) 74 256 1 k),(5,wM (A:=(rB 74 (UZ 74 0):List Value)) (R:=rI 256 (iD k)) (C:=[]) 0 (B1 e) k 298 (i6 (-1)) (rB 74 (UZ 74 0)++rI 256 (iD k)) (rB 74 (UZ 74 0)++rI 256 ((iD k).set k (-1))) (by rw[U2]) (by rw[U2]) jP (jt Om) (zR (mN ..)))] 0 (ob (B1 e) (rB 74 (UZ 74 0)++rI 256 ((iD k).set k (-1))).toArray 298) (r0 [(0,ad k 1)] [(9,iN (k+1))] [9] (le (k+1) Om Om Kr [0,1] (by rw[show iD (k+1)=(iD k).set k (-1) by rw[iD]];kernel_rfl))))
 obtain rfl:k=256:=by omega
 refine lx (r0 [] [(18,i6 0)] [] ?_);refine lq (λm=>m≤8) (λm=>[(18,iN m)]) (λm L=>L.set 0 (ob (B1 e) (rB 74 (jy m)++rI 256 (jz m)).toArray 298)) (λm=>8-m) 0 Om Kr (by rw[show jy 0=UZ 74 0 by unfold jy;rfl,show jz 0=iD 256 by unfold jz;rfl];kernel_rfl) (λm G=>?_);refine r0 [] [(19,.bool (decide ((m:Int)<8)))] [] ?_;refine b4 (m:Int) 8 (λy n=>?_) λy n=>?_
 ·exact r0 [] [(3,iN m)] [] (rs [(0,.l 1),(2,ad 64 m),(4,.t (tv (convert 3 201 (iN m)) (λ_=>mz Tryz.underlying3 Tryz.underlying201 Om))),(5,.t (tv (au .shl 5 (.const (u1 1)) (.tmp 25) (u1 1) (u6 (m:Int))) (λ_=>tq (a:=1) m Om))),(6,.c [0] [0] (w6 (B1 e) (64+m) (UInt8.ofNat (1*2^m)) (jy m) (jz m) Om (by(simp only[LL,mN,ny,nz,nA,nB,jg,jh];done)) (by(simp only[LL,mN,ny,nz,nA,nB,jg,jh];done))))] 0 (ob (B1 e) (rB 74 ((jy m).set (64+m) (UInt8.ofNat (1*2^m)))++rI 256 ((jz m).set (UInt8.ofNat (1*2^m)).toNat ((64+m):Int))).toArray 298) (r0 [(0,ad m 1)] [(18,iN (m+1))] [18] (le (m+1) Om Om Kr [0,1] (by rw[show jy (m+1)=(jy m).set (64+m) (UInt8.ofNat (1*2^m)) by rw[jy],show jz (m+1)=(jz m).set (UInt8.ofNat (1*2^m)).toNat ((64+m:Nat):Int) by rw[jz]];kernel_rfl))))
 obtain rfl:m=8:=by omega
 refine lx (rr (λ_=>[(1,.s 2)]) (λf=>[(4,pt (B0 f) 0)]) [] (λf L=>L++[ob (B0 f) #[i6 0] 3]) λf=>rr (λ_=>[(0,.c [] [3,4] (A4 8 3))]) (λb=>[(29,.func (.func 214) #[] #[pt ((B0 b)) 0,pt (((b 0).y 1)) 0])]) [] (λb L=>L++[ob (B0 b) #[i6 3] 3,ob ((b 0).y 1) #[i6 8] 3]) λb=>?_);refine n9 (encs:=λ(i:Nat)=>#[u1 ((UInt8.ofNat i).toNat:Int)]) (xs:=ch 3 256) (KO:=[[((B0 b),.cells #[i6 3] 3 (0,0))],[(((b 0).y 1),.cells #[i6 8] 3 (0,0))]]) (IE (B0 b) ((b 0).y 1)) (enters_of Tryz.func214 Kr rfl) (λj=>j≤(ch 3 256).length) (λj L=>(L.set 0 (ob (B1 e) (rB 74 (jA j)++rI 256 (jB j)).toArray 298)).set 2 (ob (B0 f) #[iN j] 3)) [3,4] Om (by rw[show jA 0=jy 8 by unfold jA;rfl,show jB 0=jz 8 by unfold jB;rfl];kernel_rfl) (λT j U J M h q=>?_) (λI q=>?_)
 ·obtain⟨D,rfl⟩:=o2 0 h;have B:=w7;refine r0 [] [(5,u1 ((UInt8.ofNat ((ch 3 256).getD j 0)).toNat:Int))] [] ?_;refine ag [3,4] (λK N=>?_);exact rs [(0,.l 1),(1,.l 2),(3,.c [0] [0] (w6 (B1 e) j (UInt8.ofNat ((ch 3 256).getD j 0)) (jA j) (jB j) Om (by(simp only[LL,mN,ny,nz,nA,nB,jg,jh];done)) (by(simp only[LL,mN,ny,nz,nA,nB,jg,jh];done))))] 0 (ob (B1 e) (rB 74 ((jA j).set j (UInt8.ofNat ((ch 3 256).getD j 0)))++rI 256 ((jB j).set (UInt8.ofNat ((ch 3 256).getD j 0)).toNat (j:Int))).toArray 298) (rs [(0,.l 2),(1,ad j 1),(2,.s 2)] 2 (ob (B0 f) #[iN (j+1)] 3) (ne _ ⟨Om,rfl⟩ [0,1,2,3,4] (by rw[show jA (j+1)=(jA j).set j (UInt8.ofNat ((ch 3 256).getD j 0)) by rw[jA],show jB (j+1)=(jB j).set (UInt8.ofNat ((ch 3 256).getD j 0)).toNat ((j:Nat):Int) by rw[jB]];kernel_rfl)))
 have B:=w7;refine rr (λ_=>[(0,.c [] [5,6] (A4 8 5))]) (λd=>[(37,.func (.func 214) #[] #[pt ((B0 d)) 0,pt (((d 0).y 1)) 0])]) [] (λd L=>L++[ob (B0 d) #[i6 5] 3,ob ((d 0).y 1) #[i6 8] 3]) λd=>?_;refine Az (encs:=λ(i:Nat)=>#[u1 ((UInt8.ofNat i).toNat:Int)]) (xs:=ch 5 256) (KO:=[[((B0 d),.cells #[i6 5] 3 (0,0))],[(((d 0).y 1),.cells #[i6 8] 3 (0,0))]]) (IF (B0 d) ((d 0).y 1)) (enters_of Tryz.func214 Kr rfl) (λi=>i≤(ch 5 256).length∧(i≤10)) (λi L=>(L.set 0 (ob (B1 e) (rB 74 (bC i)++rI 256 (bQ i)).toArray 298)).set 2 (ob (B0 f) #[iN (b5 i)] 3)) (λc _=>(c=Code.exit 6)) (λ_ _ L=>(L.set 0 (ob (B1 e) (rB 74 (bC 10)++rI 256 (bQ 10)).toArray 298)).set 2 (ob (B0 f) #[i6 74] 3)) [5,6] ⟨by omega,Om⟩ (by rw[show bC 0=jA 56 by unfold bC;rfl,show bQ 0=jB 56 by unfold bQ;rfl,←w7];kernel_rfl) (λT i U J M h ⟨r,u⟩=>?_) (λv ⟨r,u⟩=>?_) λv c i u P=>?_
 ·obtain⟨F,rfl⟩:=o2 0 h;refine r0 [] [(6,u1 ((UInt8.ofNat ((ch 5 256).getD i 0)).toNat:Int))] [] ?_;refine ag [5,6] (λK N=>?_);refine r0 [(0,.l 2)] [(40,.bool (((b5 i:Nat):Int)==64))] [] ?_;refine cJ (((b5 i:Nat):Int)==64) N0 (λc=>[ob (B1 e) (rB 74 (bC i)++rI 256 (bQ i)).toArray 298,ob (B2 e) #[pt (B1 e) 0] 235,ob (B0 f) #[iN (bif c then 72 else b5 i)] 3,ob (B0 b) #[i6 3] 3,ob ((b 0).y 1) #[i6 8] 3,ob (B0 d) #[i6 5] 3,ob ((d 0).y 1) #[i6 8] 3]) (λg=>?_) (λg=>?_) ?_
  ·have o:=eq_of_beq g;refine rs [(0,.s 2)] 2 (ob (B0 f) #[i6 72] 3) ?_;exact cm Kr [0,1,2,3,4,5,6] Kr
  ·have o:=ne_of_beq_false g;exact cm Kr [0,1,2,3,4,5,6] Kr
  have H:=KP u;have S:=KQ (i:=i);refine cl [ob (B1 e) (rB 74 (bC i)++rI 256 (bQ i)).toArray 298,ob (B2 e) #[pt (B1 e) 0] 235,ob (B0 f) #[iN (p5 i)] 3,ob (B0 b) #[i6 3] 3,ob ((b 0).y 1) #[i6 8] 3,ob (B0 d) #[i6 5] 3,ob ((d 0).y 1) #[i6 8] 3] (by rewrite [←H];kernel_rfl) (r0 [(0,.l 2)] [(42,.bool (((p5 i:Nat):Int)==74))] [] ?_);refine cD ((p5 i:Nat):Int) 74 (λz p=>?_) λz p=>?_
  ·exact nx 6 _ ⟨rfl,rfl⟩ [0,1,2,3,4,5,6] (by clear H;obtain rfl:i=10:=Om;kernel_rfl)
  exact rs [(0,.l 1),(1,.l 2),(3,.c [0] [0] (w6 (B1 e) (p5 i) (UInt8.ofNat ((ch 5 256).getD i 0)) (bC i) (bQ i) Om (by(simp only[LL,mN,ny,nz,nA,nB,jg,jh];done)) (by(simp only[LL,mN,ny,nz,nA,nB,jg,jh];done))))] 0 (ob (B1 e) (rB 74 ((bC i).set (p5 i) (UInt8.ofNat ((ch 5 256).getD i 0)))++rI 256 ((bQ i).set (UInt8.ofNat ((ch 5 256).getD i 0)).toNat ((p5 i):Int))).toArray 298) (rs [(0,.l 2),(1,ad (p5 i) 1),(2,.s 2)] 2 (ob (B0 f) #[iN ((p5 i)+1)] 3) (ne _ ⟨⟨by omega,Om⟩,rfl⟩ [0,1,2,3,4,5,6] (by rw[show bC (i+1)=(bC i).set (p5 i) (UInt8.ofNat ((ch 5 256).getD i 0)) by rw[bC],show bQ (i+1)=(bQ i).set (UInt8.ofNat ((ch 5 256).getD i 0)).toNat ((p5 i:Nat):Int) by rw[bQ],KR (i:=i) Om];kernel_rfl)))
 ·exact absurd u (by rw[KN];decide)
 obtain rfl:=P;exact r0 [(0,.l 1)] [(0,pt (B1 e) 0)] [0] (lf (.l [(e 1).y 0] [] []) [0] [] [])
end
section
open Go.RowKit Go.Shelf Go
attribute [local irreducible] pc bB
def fb(b:Bool):Int:=(bif b then 1 else 0)
theorem BN(b:Bool):aa U0 158 #[.bool b] [] [] N0 (λ_=>i6 (fb b)):=by
 refine fG Tryz.func158 λw c=>r0 [] [(2,i6 0)] [] (r0 [] [(3,.bool b)] [] ?_);refine cB (b) (λa=>?_) λa=>?_
 ·exact r0 [] [(2,i6 1)] [2] (ak (i6 1) ab.zero (by((try simp only[fb]);(repeat (first | rw[a] | rw[ALct])))<;>rfl) [] [] [])
 exact r0 [] [(2,i6 0)] [2] (ak (i6 0) ab.zero (by((try simp only[fb]);(repeat (first | rw[a] | rw[ALcf])))<;>rfl) [] [] [])
theorem KT(x:Int)(h0: -9223372036854775808≤x)(h1:x≤9223372036854775807):aa U0 173 #[i6 x] [] [] N0 (λ_=> .agg (rB 3 ([aP x,aP (x/256),(aP (x/65536))&&& (127:UInt8)])).toArray):=by
 exact fG Tryz.func173 λw f=>ra (λe=>[(2,pt (B0 e) 0)]) (λe=>[ob (B0 e) (rB 3 (UZ 3 0)).toArray 262]) λe=>rs [(1,.t (tc (k:= .i64) (l:= .u8) (a:=i6 x) λ_ _ _ c d=>nS c d)),(3,.t (tv (au .shr 3 (.tmp 5) (.const (u6 8)) (i6 x) (u6 8)) (λ_=>hP 8 Dc))),(4,.t (tc (k:= .i64) (l:= .u8) (a:=i6 (x/256)) λ_ _ _ c d=>nS c d)),(6,.t (tv (au .shr 3 (.tmp 8) (.const (u6 16)) (i6 x) (u6 16)) (λ_=>hP 16 Dc))),(7,.t (tc (k:= .i64) (l:= .u8) (a:=i6 (x/65536)) λ_ _ _ c d=>nS c d)),(8,.t (tb (a:=u1 ((aP (x/65536)).toNat:Int)) (b:=u1 127) λ_ _ _ _=>vP (aP (x/65536)) ((127:UInt8)))),(10,.s 0)] 0 (ob (B0 e) (rB 3 ([aP x,aP (x/256),(aP (x/65536))&&& (127:UInt8)])).toArray 262) (lf ab.zero [] [] [0])
def dp(x:Int)(b:Bool):List UInt8:=(bif b then([aP x,aP (x/256),(aP (x/65536))&&& (127:UInt8)]).set 2 (((aP (x/65536))&&& (127:UInt8))||| (128:UInt8)) else[aP x,aP (x/256),(aP (x/65536))&&& (127:UInt8)])
theorem BO(x:Int)(h0: -9223372036854775808≤x)(h1:x≤9223372036854775807)(b:Bool):aa U0 159 #[i6 x,.bool b] [] [] N0 (λ_=> .agg (rB 3 (dp x b)).toArray):=by
 refine fG Tryz.func159 λw g=>ra (λe=>[(4,pt (B0 e) 0)]) (λe=>[ob (B0 e) (rB 3 (UZ 3 0)).toArray 262]) λe=>rr (λ_=>[(1,.c [] [] (KT x Om Om)),(3,.s 1)]) (λd=>[(5,pt (B2 d) 0)]) [] (λd L=>L++[ob (B2 d) (rB 3 ([aP x,aP (x/256),(aP (x/65536))&&& (127:UInt8)])).toArray 262]) λd=>r0 [] [(8,.bool b)] [] ?_;refine cJ (b) N0 (λc=>[ob (B0 e) (rB 3 (UZ 3 0)).toArray 262,ob (B2 d) (rB 3 (bif c then([aP x,aP (x/256),(aP (x/65536))&&& (127:UInt8)]).set 2 (((aP (x/65536))&&& (127:UInt8))||| (128:UInt8)) else[aP x,aP (x/256),(aP (x/65536))&&& (127:UInt8)])).toArray 262]) (λf=>?_) (λf=>?_) ?_
 ·refine rr (λ_=>[(1,.l 1),(2,.t (tb (a:=u1 (((aP (x/65536))&&& (127:UInt8)).toNat:Int)) (b:=u1 128) λ_ _ _ _=>Gw ((aP (x/65536))&&& (127:UInt8)) ((128:UInt8)))),(4,.m (sw 1 (B2 d) 2 262 (u1 ((((aP (x/65536))&&& (127:UInt8))||| (128:UInt8)).toNat:Int)) (rB 3 ([aP x,aP (x/256),(aP (x/65536))&&& (127:UInt8)])).toArray (rB 3 (([aP x,aP (x/256),(aP (x/65536))&&& (127:UInt8)]).set 2 (((aP (x/65536))&&& (127:UInt8))||| (128:UInt8)))).toArray (lF (show([aP x,aP (x/256),(aP (x/65536))&&& (127:UInt8)]).length=3 by rfl)) (jt Dc)))]) N0 [] (λ_ L=>L.set 1 (ob (B2 d) (rB 3 (([aP x,aP (x/256),(aP (x/65536))&&& (127:UInt8)]).set 2 (((aP (x/65536))&&& (127:UInt8))||| (128:UInt8)))).toArray 262)) λh=>?_;exact cm Kr [0,1] Kr
 ·exact cm Kr [0,1] Kr
 exact rs [(0,.l 1),(1,.s 0)] 0 (ob (B0 e) (rB 3 (bif b then([aP x,aP (x/256),(aP (x/65536))&&& (127:UInt8)]).set 2 (((aP (x/65536))&&& (127:UInt8))||| (128:UInt8)) else[aP x,aP (x/256),(aP (x/65536))&&& (127:UInt8)])).toArray 262) (lf ab.zero [] [] [0])
theorem KU{P:Program}{w:World}{S T:TypeId}(a:P.underlying S=some (.int .i64))(b:P.underlying T=some (.int .u32)){c:Nat}(d:c<4294967296):(convert S T (.int .i64 (c:Int))).run P w= .ok (.int .u32 (c:Int)) w:=by
 have h:IntKind.u32.wrap (c:Int)=(c:Int):=by rw[Wk];omega
 simp only[convert,Vq,run_underlying a,run_underlying b,Vb,Conv.intToInt,h,Vr]
theorem KW{P:Program}{T:TypeId}{y z:Operand}{w:World}(x:Int):(au .and T y z (.int .i64 x) (.int .i64 8388607)).run P w= .ok (.int .i64 (((x%8388608).toNat:Nat):Int)) w:=by
 have h:=lJ (P:=P) (T:=T) (y:=y) (z:=z) (w:=w) x 23 8388608 Dc Dc Dc Dc;rw[show(((x%8388608).toNat:Nat):Int)=x%((8388608:Nat):Int) by omega];exact h
theorem tK(x:Int):aa U0 153 #[i6 x] [] [] N0 (λ_=>iN (pc ((x%8388608).toNat)%2)):=by
 exact fG Tryz.func153 λw a=>r0 [] [(2,i6 0)] [] (r0 [(1,.t (tv (au .and 3 (.tmp 3) (.const (i6 8388607)) (i6 x) (i6 8388607)) (λ_=>KW x))),(2,.t (tv (convert 3 329 (iN ((x%8388608).toNat))) (λ_=>KU Tryz.underlying3 Tryz.underlying329 Om))),(3,.c [] [] (Iz ((x%8388608).toNat) Om))] [(2,iN (pc ((x%8388608).toNat)%2))] [2] (lf ab.zero [] [] []))
def ji(x:Nat):Nat→List UInt8
 | 0=>[]
 | k+1=>ji x k++[UInt8.ofNat (x/256^k)]
theorem mO(x k:Nat):(ji x k).length=k:=by
 induction k with
 | zero=>rfl
 | succ k ih=>rw[ji,U3,ih];rfl
theorem KX(x k:Nat):x/256^(k+1)=x/256^k/2^8:=by rw[Wg,Vs]
theorem KY(x:Nat)(n:x<18446744073709551616):aa U0 156 #[u6 (x:Int)] [] [] (λE=>[br (E.val 0) (ji x 8)]) (λE=>(E.val 0)):=by
 refine fG Tryz.func156 λw j=>r0 [] [(2,.slice none 0 0)] [] (r0 [] [(3,.slice none 0 0)] [] (r0 [] [(4,i6 0)] [] (cz kB ?_)));refine mF (λk _=>k≤8) (λk b=>[(0,u6 ((x/256^k:Nat):Int)),(4,iN k),(3,b)]) (λk b L=>L.set 0 (br b (ji x k))) (λk _=>8-k) 0 (.slice none 0 0) Om (by rw[Wf,Wq];kernel_rfl) Kr (λk b h=>?_);have i:=mO x k;refine r0 [] [(5,.bool (decide ((k:Int)<8)))] [] ?_;refine b4 (k:Int) 8 (λe d=>?_) λe d=>?_
 ·exact rr (λ_=>[(2,.t (tc (k:= .u64) (l:= .u8) (a:=u6 ((x/256^k:Nat):Int)) λ_ _ _ f g=>sF f g)),(3,.m (bs 1 1)),(4,eX kB (b) (ji x k) 0 1 ([UInt8.ofNat (x/256^k)]))]) (λc=>[(3,(c 4).val 0)]) [3] (λc L=>L.set 0 (br ((c 4).val 0) ((ji x k)++([UInt8.ofNat (x/256^k)])))++[ob (B3 c) #[u1 ((UInt8.ofNat (x/256^k)).toNat:Int)] 5]) λc=>r0 [(1,.t (tv (au .shr 44 (.tmp 11) (.const (u6 8)) (u6 ((x/256^k:Nat):Int)) (u6 8)) (λ_=>sC 8 Dc)))] [(0,u6 ((x/256^k/2^8:Nat):Int))] [0] (r0 [(0,ad k 1)] [(4,iN (k+1))] [4] (kO (k+1) ((c 4).val 0) Om Om (by rw[KX x k];kernel_rfl) [0] Kr))
 obtain rfl:k=8:=by omega
 refine kP ?_;exact r0 [] [(2,b)] [2] (lf (.l [] [] [b]) [0] [] [])
end
end E
section
open Go.RowKit Go.Shelf Go
def aZ(xs:List UInt8)(off:Nat):Nat→Nat
 | 0=>0
 | k+1=>aZ xs off k||| (xs.getD (off+k) 0).toNat*2^(8*k)
theorem tL{b:UInt8}{k:Nat}(d:k<8):b.toNat*2^(8*k)<18446744073709551616:=by
 have c:=b.toNat_lt;have a:2^(8*k)≤2^56:=VN Dc Om
 calc b.toNat*2^(8*k)≤255*2^56:=V5 Om a
  _<18446744073709551616:=by decide
theorem KZ(xs:List UInt8)(off k:Nat):aZ xs off k<2^(8*k):=by
 induction k with
 | zero=>simp [aZ]
 | succ k ih=>
  have a:=(xs.getD (off+k) 0).toNat_lt;unfold aZ;refine Nat.or_lt_two_pow (Wu ih (VN Dc Om)) ?_;rw[show 8*(k+1)=8+8*k by omega,Nat.pow_add];exact Nat.mul_lt_mul_of_pos_right Om (Nat.pow_pos Dc)
theorem qK(xs:List UInt8)(off:Nat){k:Nat}(c:k≤8):aZ xs off k<18446744073709551616:=by
 have a:=KZ xs off k;have b:2^(8*k)≤2^64:=VN Dc Om;have:(2:Nat)^64=18446744073709551616:=by decide
 omega
def cc(N:Nat)(f:Nat→UInt8)(n:Nat):List UInt8:=(Va N).map λi=>if i<n then f i else 0
theorem lP(N:Nat)(f:Nat→UInt8)(n:Nat):(cc N f n).length=N:=by unfold cc;rw[VA,Vt]
theorem K0{N:Nat}{f:Nat→UInt8}{n:Nat}(h:n<N):(cc N f n).set n (f n)=cc N f (n+1):=by
 apply VV;intro i;rw[List.getElem?_set];rcases Vp i N with a | a
 ·unfold cc;simp only[VA,Vt,VU,Wj a,Vj];by_cases e:n=i
  ·subst e;rw[ALifp rfl,ALifp h,ALifp Om]
  ·rw[ALifn e];by_cases b:i<n
   ·rw[ALifp b,ALifp Om]
   ·rw[ALifn b,ALifn Om]
 ·rw[Vg (l:=cc N f (n+1)) (by rw[lP];exact a),Vg (l:=cc N f n) (by rw[lP];exact a),lP];rw[ALifn Om]
theorem K1(N:Nat)(f:Nat→UInt8):cc N f 0=UZ N 0:=by
 apply VV;intro i;rcases Vp i N with a | a
 ·unfold cc;simp [a]
 ·rw[Vg (by rw[lP];exact a),Vg (by simpa using a)]
end
namespace E
section
open Go.RowKit Go.Shelf Go
theorem w8(ys:List UInt8)(k:Nat):aZ ys 0 (k+1)=aZ ys 0 k||| (ys.getD k 0).toNat*2^(8*k):=by rw[aZ,Vl]
theorem K2(ys:List UInt8)(o k:Nat):aZ ys o (k+1)=aZ ys o k||| (ys.getD (o+k) 0).toNat*2^(8*k):=rfl
theorem BP(ys:List UInt8)(o:Nat):aZ ys o 0=0:=rfl
theorem K3{P:Program}{T:TypeId}{x y:Operand}{w:World}{ys:List UInt8}{k:Nat}(a:k<8):(au .or T x y (.int .u64 ((aZ ys 0 k:Nat):Int)) (.int .u64 (((ys.getD k 0).toNat*2^(8*k):Nat):Int))).run P w= .ok (.int .u64 ((aZ ys 0 (k+1):Nat):Int)) w:=by
 rw[w8];exact zM (qK _ _ Om) (tL a)
theorem K4{P:Program}{T:TypeId}{x y:Operand}{w:World}{ys:List UInt8}{o k:Nat}(a:k<8):(au .or T x y (.int .u64 ((aZ ys o k:Nat):Int)) (.int .u64 (((ys.getD (o+k) 0).toNat*2^(8*k):Nat):Int))).run P w= .ok (.int .u64 ((aZ ys o (k+1):Nat):Int)) w:=by
 rw[K2];exact zM (qK _ _ Om) (tL a)
attribute [local irreducible] aZ
theorem K5(v:Value)(ys:List UInt8)(j:ys.length=8):aa U0 228 #[v] [.p (aJ eB v ys)] [] N0 (λ_=>u6 ((aZ ys 0 8:Nat):Int)):=by
 refine fO Tryz.func228 0 rfl λd b=>fG Tryz.func228 λw i=>r0 [] [(2,u6 0)] [] (r0 [] [(3,u6 0)] [] (r0 [(1,ey b.1 0)] [(6,v),(7,iN ys.length),(8,i6 0)] [] ?_));refine lq (λk=>k≤8) (λk=>[(3,u6 ((aZ ys 0 k:Nat):Int)),(8,iN k)]) (λ_ L=>L) (λk=>8-k) 0 Om (by rw[BP];kernel_rfl) Kr (λk h=>?_);refine r0 [] [(9,.bool (decide ((k:Int)<(ys.length:Int))))] [] ?_;refine b4 (k:Int) (ys.length:Int) (λe c=>?_) λe c=>?_
 ·exact r0 [(1,e7 b.1 0 k 1),(2,iz kB b.1 0 k 0)] [(4,iN k),(5,u1 ((ys.getD k 0).toNat:Int))] [] (r0 [(2,.t (tc (k:= .u8) (l:= .u64) (a:=u1 ((ys.getD k 0).toNat:Int)) λ_ _ _ f g=>zN f g)),(4,ml 8 k),(5,.t (tv (convert 3 201 (iN (8*k))) (λ_=>mz Tryz.underlying3 Tryz.underlying201 Om))),(6,.t (tv (au .shl 44 (.tmp 15) (.tmp 18) (u6 ((ys.getD k 0).toNat:Int)) (u6 ((8*k:Nat):Int))) (λ_=>sD (8*k) Om (tL Om)))),(7,.t (tv (au .or 44 (.tmp 13) (.tmp 19) (u6 ((aZ ys 0 k:Nat):Int)) (u6 (((ys.getD k 0).toNat*2^(8*k):Nat):Int))) (λ_=>K3 Om)))] [(3,u6 ((aZ ys 0 (k+1):Nat):Int))] [3] (r0 [(0,ad k 1)] [(8,iN (k+1))] [8] (le (k+1) Om Om Kr [0] Kr)))
 obtain rfl:k=8:=by omega
 exact lx (r0 [] [(2,u6 ((aZ ys 0 8:Nat):Int))] [2] (lf ab.zero [] [(0,0)] []))
theorem K6(l:List UInt8)(i:l.length=64)(q:Nat)(j:q<8):aa U0 201 #[.agg (rB 64 l).toArray,iN q] [] [] N0 (λ_=>u6 ((aZ l (8*q) 8:Nat):Int)):=by
 refine fG Tryz.func201 λw h=>ra (λb=>[(2,pt (B0 b) 0),(4,u6 0)]) (λb=>[ob (B0 b) (rB 64 l).toArray 43]) λb=>r0 [] [(5,u6 0)] [] (r0 [] [(7,i6 0)] [] ?_);refine lq (λk=>k≤8) (λk=>[(5,u6 ((aZ l (8*q) k:Nat):Int)),(7,iN k)]) (λ_ L=>L) (λk=>8-k) 0 Om (by rw[BP];kernel_rfl) Kr (λk g=>?_);refine r0 [] [(8,.bool (decide ((k:Int)<8)))] [] ?_;refine b4 (k:Int) 8 (λd c=>?_) λd c=>?_
 ·exact r0 [] [(6,iN k)] [] (r0 [(0,.v (u6 ((aZ l (8*q) k:Nat):Int))),(1,.v (iN q)),(2,ml 8 q),(3,.v (iN k)),(4,ad (8*q) k),(5,iA 43 .i64 (B0 b) 0 64 1 ((8*q)+k)),(6,rD 0 (B0 b) ((8*q)+k) 43 (rB 64 l) (nh Om)),(7,.t (tc (k:= .u8) (l:= .u64) (a:=u1 ((l.getD ((8*q)+k) 0).toNat:Int)) λ_ _ _ e f=>zN e f)),(8,.v (iN k)),(9,ml 8 k),(10,.t (tv (convert 3 201 (iN (8*k))) (λ_=>mz Tryz.underlying3 Tryz.underlying201 Om))),(11,.t (tv (au .shl 44 (.tmp 17) (.tmp 20) (u6 ((l.getD ((8*q)+k) 0).toNat:Int)) (u6 ((8*k:Nat):Int))) (λ_=>sD (8*k) Om (tL Om)))),(12,.t (tv (au .or 44 (.tmp 10) (.tmp 21) (u6 ((aZ l (8*q) k:Nat):Int)) (u6 (((l.getD (8*q+k) 0).toNat*2^(8*k):Nat):Int))) (λ_=>K4 Om))),(13,.v (u6 ((aZ l (8*q) (k+1):Nat):Int)))] [(5,u6 ((aZ l (8*q) (k+1):Nat):Int))] [5] (r0 [(0,ad k 1)] [(7,iN (k+1))] [7] (le (k+1) Om Om Kr [0] Kr)))
 obtain rfl:k=8:=by omega
 exact lx (r0 [] [(4,u6 ((aZ l (8*q) 8:Nat):Int))] [4] (lf ab.zero [] [] []))
theorem K7(b:Nat)(l:List UInt8)(o:l.length=64):eT 5 U0 200 #[pt b 0] (λ(x:Nat×Nat)=>#[i6 (x.1:Int),u6 (x.2:Int)]) ((Va 8).map λk=>(k,aZ l (8*k) 8)) (Vw [[(b,.cells (rB 64 l).toArray 43 (0,0))]]):=by
 refine gi (KO:=[[(b,.cells (rB 64 l).toArray 43 (0,0))]]) Tryz.func200 (λp r q v t f m j=>?_);refine r0 [] [(4,i6 0)] [] ?_;refine jv (λk=>k≤8) (λk=>[(4,iN k)]) (λ_ L=>L) (λk=>8-k) (λk=>k) 0 Om j Kr Kr (λk s u n d=>?_);refine r0 [] [(5,.bool (decide ((k:Int)<8)))] [] ?_;refine b4 (k:Int) 8 (λi e=>?_) λi e=>?_
 ·refine r0 [] [(3,iN k)] [] ?_;refine iy f m d 5 (λ_=>[(2,.l 0),(4,.c [] [] (K6 l (by(simp only[LL,o];done)) k Om))]) (λ_=>[(7,.func (.yield p) #[] #[]),(8,iN k),(11,u6 ((aZ l (8*k) 8:Nat):Int))]) [] (λ_ L=>L) N0 [0] (nX Om) (λw g h a=>?_);refine cF _ rfl (r0 [(0,ad k 1)] [(4,iN (k+1))] [4] ?_);exact ia (k+1) Om a Om Kr [0] Kr
 obtain rfl:k=8:=by omega
 refine jw ?_;exact kk f d a7 [] [0]
theorem K8(l:List UInt8)(c:l.length=64):aa U0 154 #[.agg (rB 64 l).toArray] [] [] (λE=>[ob (E.y 0) (rB 64 l).toArray 43]) (λE=> .func (.func 200) #[] #[pt ((E.y 0)) 0]):=by
 exact fG Tryz.func154 λw b=>ra (λa=>[(1,pt (B0 a) 0),(2,.nilFunc)]) (λa=>[ob (B0 a) (rB 64 l).toArray 43]) λa=>r0 [] [(2,.func (.func 200) #[] #[pt (B0 a) 0])] [2] (lf (.l [(a 0).y 0] [] []) [0] [] [])
theorem K9(l:List UInt8)(c:l.length=64):aa U0 160 #[.agg (rB 64 l).toArray] [] [] (λE=>[ob (E.y 0) (rB 64 l).toArray 43]) (λE=> .func (.func 202) #[] #[pt ((E.y 0)) 0]):=by
 exact fG Tryz.func160 λw b=>ra (λa=>[(1,pt (B0 a) 0),(2,.nilFunc)]) (λa=>[ob (B0 a) (rB 64 l).toArray 43]) λa=>r0 [] [(2,.func (.func 202) #[] #[pt (B0 a) 0])] [2] (lf (.l [(a 0).y 0] [] []) [0] [] [])
theorem Lb(b:Nat)(l:List UInt8)(o:l.length=64):eT 5 U0 202 #[pt b 0] (λ(x:Nat×List UInt8)=>#[i6 (x.1:Int),.agg (rB 32 x.2).toArray]) ((Va 2).map λk=>(k,(l.drop (32*k)).take 32)) (Vw [[(b,.cells (rB 64 l).toArray 43 (0,0))]]):=by
 refine gi (KO:=[[(b,.cells (rB 64 l).toArray 43 (0,0))]]) Tryz.func202 (λp r q w u e j i=>?_);refine r0 [] [(4,i6 0)] [] ?_;refine jv (λk=>k≤2) (λk=>[(4,iN k)]) (λ_ L=>L) (λk=>2-k) (λk=>k) 0 Om i Kr Kr (λk s v n c=>?_);refine r0 [] [(5,.bool (decide ((k:Int)<2)))] [] ?_;refine b4 (k:Int) 2 (λh d=>?_) λh d=>?_
 ·refine r0 [] [(3,iN k)] [] ?_;refine iy e j c 7 (λ_=>[(3,ml 32 k),(4,aL 43 b 64 1 (32*k)),(5,.t (tv (Instr.arrayAt 267 (.slice (some ⟨b,(32*k)*1,none⟩) (64-(32*k)) (64-(32*k)))) (λ_=>run_arrayAt _ 267 5 32 _ _ _ Tryz.underlying267 Om))),(6,.m (lg 0 b ((32*k)*1) (rB 64 l).toArray 43 (rB 32 ((l.drop (32*k)).take 32)) (vW (λ_=>rfl) o Om)))]) (λ_=>[(7,.func (.yield p) #[] #[]),(8,iN k),(13,.agg (rB 32 ((l.drop (32*k)).take 32)).toArray)]) [] (λ_ L=>L) N0 [0] (nX Om) (λy f g a=>?_);refine cF _ rfl (r0 [(0,ad k 1)] [(4,iN (k+1))] [4] ?_);exact ia (k+1) Om a Om Kr [0] Kr
 obtain rfl:k=2:=by omega
 refine jw ?_;exact kk e c a7 [] [0]
end
section
open Go.RowKit Go.Shelf Go
theorem om(m:Int):aa U0 71 #[i6 m] [] [] N0 (λ_=> .bool ((m==1)||(m==2))):=by
 exact fG Tryz.func71 λw a=>r0 [] [(2,.bool false)] [] (r0 [] [(2,.bool ((m==1)||(m==2)))] [2] (lf ab.zero [] [] []))
theorem tM:aa U0 75 #[i6 1] [] [] N0 (λ_=>i6 9):=by
 exact fG Tryz.func75 λw a=>r0 [] [(2,i6 0)] [] (r0 [] [(3,i6 1)] [] (rT [] 4 (r0 [] [(2,i6 9)] [2] (ak (i6 9) ab.zero a7 [] [] []))))
theorem tN:aa U0 75 #[i6 2] [] [] N0 (λ_=>i6 36):=by
 exact fG Tryz.func75 λw a=>r0 [] [(2,i6 0)] [] (r0 [] [(3,i6 2)] [] (rF [] 4 (rT [] 6 (r0 [] [(2,i6 36)] [2] (ak (i6 36) ab.zero a7 [] [] [])))))
theorem xa:aa U0 192 #[i6 1] [] [] N0 (λ_=>i6 8):=by
 refine fG Tryz.func192 λw f=>r0 [] [(2,i6 0)] [] (r0 [(1,.c [] [] (om 1))] [(5,.bool (!((1==1)||(1==2))))] [] ?_);have e:(!((1==1)||(1==2)))=false:=by decide
 exact cF (!((1==1)||(1==2))) e (r0 [(1,.c [] [] (tM)),(2,.t (tb (a:=i6 72) (b:=i6 9) λ_ _ _ _=>n1 (a:=72) (d:=9) Dc Om))] [(2,iN (72/9))] [2] (ak (iN (72/9)) ab.zero a7 [] [] []))
theorem xb:aa U0 192 #[i6 2] [] [] N0 (λ_=>i6 2):=by
 refine fG Tryz.func192 λw f=>r0 [] [(2,i6 0)] [] (r0 [(1,.c [] [] (om 2))] [(5,.bool (!((2==1)||(2==2))))] [] ?_);have e:(!((2==1)||(2==2)))=false:=by decide
 exact cF (!((2==1)||(2==2))) e (r0 [(1,.c [] [] (tN)),(2,.t (tb (a:=i6 72) (b:=i6 36) λ_ _ _ _=>n1 (a:=72) (d:=36) Dc Om))] [(2,iN (72/36))] [2] (ak (iN (72/36)) ab.zero a7 [] [] []))
theorem BQ{α:Type}{en:α→List Value}{d:α}{a l m c N:Nat}{ys:List α}{t:TypeId}(h1: ∀x,(en x).length=1)(h:ys.length=N)(b:l+m≤N):dF en (.slice (some ⟨a,l*1,none⟩) m c) ((ys.drop l).take m) [(a,.cells ((cv en d N ys).toArray) t (0,0))]:=
 .inr ⟨a,l*1,_,t,(0,0),c,by rw[show((ys.drop l).take m).length=m by rw[Vf,Vx];omega],by simp,z0 (d:=d) h1 h b⟩
theorem BR(xs:List UInt8)(d:xs.length=72)(q:Nat)(g:q<8):aa U0 194 #[.agg (rB 72 xs).toArray,i6 1,iN q] [] [] (λE=>[br (E.val 0) ((xs.drop (9*q)).take 9)]) (λE=>(E.val 0)):=by
 refine fG Tryz.func194 λw f=>ra (λa=>[(3,pt (B0 a) 0),(6,.slice none 0 0)]) (λa=>[ob (B0 a) (rB 72 xs).toArray 217]) λa=>r0 [(5,.c [] [] (xa))] [(15,.bool ((decide ((q:Int)<0))||(decide (8≤(q:Int)))))] [] ?_;have e:((decide ((q:Int)<0))||(decide (8≤(q:Int))))=false:=by rw[bg Om,bg Om];rfl
 exact cF ((decide ((q:Int)<0))||(decide (8≤(q:Int)))) e (r0 [(1,.c [] [] (tM))] [(7,i6 9)] [] (rr (λb=>[(0,.m (ql 1 eB ([u1 0]) 5)),(3,ml 9 q),(6,ml 9 q),(8,ad (9*q) 9),(9,aM 217 (B0 a) 72 1 (9*q) 9),(10,.m (lG 1 0 n4 (.slice (some ⟨(b 0).y 0,0,none⟩) 0 0) (.slice (some ⟨(a 0).y 0,(9*q)*1,none⟩) 9 (72-(9*q))) (xs:=[]) (ys:=(xs.drop (9*q)).take 9) (ob (B0 a) (rB 72 xs).toArray 217) (λ_ h=>by rw[show _=_ from h];exact BQ (λ_=>rfl) d Om) n2 (λ_=>rfl) (by simp only[LL,d];omega)))]) (λb=>[(6,(b 10).val 0)]) [6] (λb L=>L++[br ((b 10).val 0) ([]++((xs.drop (9*q)).take 9))]) λb=>lf (.l [] [] [(b 10).val 0]) [1] [] [] (hf:=by kernel_rfl)))
theorem BS(xs:List UInt8)(d:xs.length=72)(q:Nat)(g:q<2):aa U0 194 #[.agg (rB 72 xs).toArray,i6 2,iN q] [] [] (λE=>[br (E.val 0) ((xs.drop (36*q)).take 36)]) (λE=>(E.val 0)):=by
 refine fG Tryz.func194 λw f=>ra (λa=>[(3,pt (B0 a) 0),(6,.slice none 0 0)]) (λa=>[ob (B0 a) (rB 72 xs).toArray 217]) λa=>r0 [(5,.c [] [] (xb))] [(15,.bool ((decide ((q:Int)<0))||(decide (2≤(q:Int)))))] [] ?_;have e:((decide ((q:Int)<0))||(decide (2≤(q:Int))))=false:=by rw[bg Om,bg Om];rfl
 exact cF ((decide ((q:Int)<0))||(decide (2≤(q:Int)))) e (r0 [(1,.c [] [] (tN))] [(7,i6 36)] [] (rr (λb=>[(0,.m (ql 1 eB ([u1 0]) 5)),(3,ml 36 q),(6,ml 36 q),(8,ad (36*q) 36),(9,aM 217 (B0 a) 72 1 (36*q) 36),(10,.m (lG 1 0 n4 (.slice (some ⟨(b 0).y 0,0,none⟩) 0 0) (.slice (some ⟨(a 0).y 0,(36*q)*1,none⟩) 36 (72-(36*q))) (xs:=[]) (ys:=(xs.drop (36*q)).take 36) (ob (B0 a) (rB 72 xs).toArray 217) (λ_ h=>by rw[show _=_ from h];exact BQ (λ_=>rfl) d Om) n2 (λ_=>rfl) (by simp only[LL,d];omega)))]) (λb=>[(6,(b 10).val 0)]) [6] (λb L=>L++[br ((b 10).val 0) ([]++((xs.drop (36*q)).take 36))]) λb=>lf (.l [] [] [(b 10).val 0]) [1] [] [] (hf:=by kernel_rfl)))
theorem Lc(xs ys:List UInt8)(v:Value)(g:xs.length=72)(q:Nat)(j:q<8)(h:ys.length=9):aa U0 155 #[.agg (rB 72 xs).toArray,i6 1,iN q,v] [.p (aJ eB v ys)] [] N0 (λ_=> .agg (rB 72 (xs.take (9*q)++ys++xs.drop ((9*q)+ys.length))).toArray):=by
 refine fO Tryz.func155 0 rfl λe b=>fG Tryz.func155 λw i=>ra (λa=>[(4,pt (B0 a) 0),(8,pt (B1 a) 0)]) (λa=>[ob (B0 a) (rB 72 xs).toArray 217,ob (B1 a) (rB 72 (UZ 72 0)).toArray 217]) λa=>r0 [(1,.c [] [] (tM))] [(9,i6 9)] [] (r0 [(5,.c [] [] (xa)),(10,ey b.1 0),] [(25,.bool (((decide (0≤(q:Int)))&&(decide ((q:Int)<8)))&&((ys.length:Int)==9)))] [] ?_);have f:(((decide (0≤(q:Int)))&&(decide ((q:Int)<8)))&&((ys.length:Int)==9))=true:=by rw[cS Om,cS Om];simp [h]
 exact cT (((decide (0≤(q:Int)))&&(decide ((q:Int)<8)))&&((ys.length:Int)==9)) f (rs [(2,ml 9 q),(3,aL 217 (B0 a) 72 1 (9*q)),(5,.m (ts kB 1 (B0 a) ((9*q)*1) (72-(9*q)) (72-(9*q)) (rB 72 xs).toArray (rB 72 (xs.take (9*q)++ys++xs.drop ((9*q)+ys.length))).toArray 217 191 191 0 (.c e) v ys (cP b.1) Om (by rw[U5,jP];omega) (by rw[Vo];exact ALca Wb (qi (d:=0) (λ_=>rfl) g rfl Om))))] 1 (ob (B0 a) (rB 72 (xs.take (9*q)++ys++xs.drop ((9*q)+ys.length))).toArray 217) (rs [(0,.l 1),(1,.s 2)] 2 (ob (B1 a) (rB 72 (xs.take (9*q)++ys++xs.drop ((9*q)+ys.length))).toArray 217) (lf ab.zero [] [(0,0)] [2])))
theorem Ld(xs ys:List UInt8)(v:Value)(g:xs.length=72)(q:Nat)(j:q<2)(h:ys.length=36):aa U0 155 #[.agg (rB 72 xs).toArray,i6 2,iN q,v] [.p (aJ eB v ys)] [] N0 (λ_=> .agg (rB 72 (xs.take (36*q)++ys++xs.drop ((36*q)+ys.length))).toArray):=by
 refine fO Tryz.func155 0 rfl λe b=>fG Tryz.func155 λw i=>ra (λa=>[(4,pt (B0 a) 0),(8,pt (B1 a) 0)]) (λa=>[ob (B0 a) (rB 72 xs).toArray 217,ob (B1 a) (rB 72 (UZ 72 0)).toArray 217]) λa=>r0 [(1,.c [] [] (tN))] [(9,i6 36)] [] (r0 [(5,.c [] [] (xb)),(10,ey b.1 0),] [(25,.bool (((decide (0≤(q:Int)))&&(decide ((q:Int)<2)))&&((ys.length:Int)==36)))] [] ?_);have f:(((decide (0≤(q:Int)))&&(decide ((q:Int)<2)))&&((ys.length:Int)==36))=true:=by rw[cS Om,cS Om];simp [h]
 exact cT (((decide (0≤(q:Int)))&&(decide ((q:Int)<2)))&&((ys.length:Int)==36)) f (rs [(2,ml 36 q),(3,aL 217 (B0 a) 72 1 (36*q)),(5,.m (ts kB 1 (B0 a) ((36*q)*1) (72-(36*q)) (72-(36*q)) (rB 72 xs).toArray (rB 72 (xs.take (36*q)++ys++xs.drop ((36*q)+ys.length))).toArray 217 191 191 0 (.c e) v ys (cP b.1) Om (by rw[U5,jP];omega) (by rw[Vo];exact ALca Wb (qi (d:=0) (λ_=>rfl) g rfl Om))))] 1 (ob (B0 a) (rB 72 (xs.take (36*q)++ys++xs.drop ((36*q)+ys.length))).toArray 217) (rs [(0,.l 1),(1,.s 2)] 2 (ob (B1 a) (rB 72 (xs.take (36*q)++ys++xs.drop ((36*q)+ys.length))).toArray 217) (lf ab.zero [] [(0,0)] [2])))
end
section
open Go.RowKit Go.Shelf Go
def jj(a:List Nat)(i:Nat):UInt8:=UInt8.ofNat (a.getD (i/8) 0/2^(8*(i%8)))
theorem Lf{a:List Nat}{k j:Nat}(b:j<8):jj a (8*k+j)=UInt8.ofNat (a.getD k 0/2^(8*j)):=by
 unfold jj;rw[show(8*k+j)/8=k by omega,show(8*k+j)%8=j by omega]
attribute [local irreducible] cc
theorem Lh(b:List Nat)(x:b.length=8)(v: ∀i,b.getD i 0<18446744073709551616):aa U0 196 #[.agg (rW 8 b).toArray] [] [] N0 (λ_=> .agg (rB 64 (cc 64 (jj b) (8*8))).toArray):=by
 refine fG Tryz.func196 λw u=>ra (λd=>[(1,pt (B0 d) 0),(2,pt (B1 d) 0)]) (λd=>[ob (B0 d) (rW 8 b).toArray 320,ob (B1 d) (rB 64 z6).toArray 43]) λd=>ra (λc=>[(3,pt (B0 c) 0)]) (λc=>[ob (B0 c) (rB 64 z6).toArray 43]) λc=>r0 [(0,.l 0)] [(7,.agg (rW 8 b).toArray),(8,i6 0)] [] ?_;refine lq (λk=>k≤8) (λk=>[(8,iN k)]) (λk L=>L.set 2 (ob (B0 c) (rB 64 (cc 64 (jj b) (8*k))).toArray 43)) (λk=>8-k) 0 Om Kr (by rw[WM,K1];kernel_rfl) (λk q=>?_);refine r0 [] [(9,.bool (decide ((k:Int)<8)))] [] ?_;refine b4 (k:Int) 8 (λm g=>?_) λm g=>?_
 ·refine r0 [(1,.t (tv (Instr.index 320 (.agg (rW 8 b).toArray) (iN k)) (λ_=>FT (n:=8) (e:=44) Tryz.underlying320 Om (λ_=>by kernel_rfl) Kr (GG Om))))] [(4,iN k),(5,u6 ((b.getD k 0:Nat):Int))] [] (r0 [] [(12,i6 0)] [] ?_);refine lq (λj=>j≤8) (λj=>[(12,iN j)]) (λj L=>L.set 2 (ob (B0 c) (rB 64 (cc 64 (jj b) (8*k+j))).toArray 43)) (λj=>8-j) 0 Om Kr Kr (λj r=>?_);refine r0 [] [(13,.bool (decide ((j:Int)<8)))] [] ?_;refine b4 (j:Int) 8 (λh f=>?_) λh f=>?_
  ·exact r0 [] [(6,iN j)] [] (rs [(1,ml 8 k),(3,ad (8*k) j),(6,ml 8 j),(7,.t (tv (convert 3 201 (iN (8*j))) (λ_=>mz Tryz.underlying3 Tryz.underlying201 Om))),(8,.t (tv (au .shr 44 (.tmp 19) (.tmp 22) (u6 ((b.getD k 0:Nat):Int)) (u6 ((8*j:Nat):Int))) (λ_=>sC (8*j) Om))),(9,.t (tc (k:= .u64) (l:= .u8) (a:=u6 ((b.getD k 0/2^(8*j):Nat):Int)) λ_ _ _ o p=>sF o p)),(10,iA 43 .i64 (B0 c) 0 64 1 ((8*k)+j)),(11,wD 2 (B0 c) ((8*k)+j) 43 (u1 ((UInt8.ofNat (b.getD k 0/2^(8*j))).toNat:Int)) (rB 64 (cc 64 (jj b) (8*k+j))) (rB 64 ((cc 64 (jj b) (8*k+j)).set ((8*k)+j) (UInt8.ofNat (b.getD k 0/2^(8*j))))) (jt Om) (lF (lP ..)))] 2 (ob (B0 c) (rB 64 ((cc 64 (jj b) (8*k+j)).set ((8*k)+j) (UInt8.ofNat (b.getD k 0/2^(8*j))))).toArray 43) (r0 [(0,ad j 1)] [(12,iN (j+1))] [12] (le (j+1) Om Om Kr [0,1,2] (by rw[←WK,←K0 Om,Lf Om];kernel_rfl))))
  obtain rfl:j=8:=by omega
  exact lx (r0 [(0,ad k 1)] [(8,iN (k+1))] [8] (le (k+1) Om Om Kr [0,1,2] Kr))
 obtain rfl:k=8:=by omega
 exact lx (rs [(0,.l 2),(1,.s 1)] 1 (ob (B1 d) (rB 64 (cc 64 (jj b) (8*8))).toArray 43) (lf ab.zero [] [] [1]))
end
section
open Go.RowKit Go.Shelf Go
attribute [local irreducible] bC bQ cQ aQ aU
theorem Li:aa U0 115 #[] [] [] (λE=>[ob (E.y 0) #[pt ((E.y 1)) 0,pt ((E.y 2)) 0] 242,ob (E.y 1) (rB 74 (bC 10)++rI 256 (bQ 10)).toArray 298,ob (E.y 2) #[pt ((E.y 3)) 0,(E.val 0)] 309,ob (E.y 3) (rB 255 aQ++rN 256 aU).toArray 312,br (E.val 0) cQ]) (λE=>pt ((E.y 0)) 0):=by
 exact fG Tryz.func115 λw b=>r0 [] [(0,.pointer none)] [] (rr (λa=>[(0,.c [] [0] (KS)),(1,.c [] [1] (I4)),(2,.c [1] [2,3] (Kn (B1 a)))]) (λa=>[(0,pt (B4 a) 0)]) [0] (λa L=>L++[ob (B0 a) (rB 74 (bC 10)++rI 256 (bQ 10)).toArray 298,ob (B1 a) (rB 255 aQ++rN 256 aU).toArray 312,ob (B2 a) #[pt ((B1 a)) 0,((a 2).val 0)] 309,br ((a 2).val 0) cQ,ob (B4 a) #[pt ((B0 a)) 0,pt ((B2 a)) 0] 242]) λa=>lf (.l [(a 4).y 0,(B0 a),(B2 a),(B1 a)] [] [((a 2).val 0)]) [4,0,2,1,3] [] [])
end
end E
end Go.Proofs.YtbcodenfkijdnaaGreat
