/- WholeModes, in 7 texts: part 2. For every input; no condition. -/
import Derived.Test.YtbcodenfkijdnaaGreatPm1
import Derived.WalkKit
import Derived.Sort.CutIn
import Derived.IntWalk
import Derived.Laws.BitsAllLaws
set_option linter.unusedVariables false
set_option linter.unusedSimpArgs false
set_option maxRecDepth 100000
namespace Go.Proofs.YtbcodenfkijdnaaGreat
open List renaming replicate→Zl,not_mem_nil→Zn,append_nil→Zo,length_append→Zp,mem_cons→Zq,getD_eq_getElem?_getD→Zr,length_replicate→Zs,length_set→Zu,range→Zv,size_toArray→Zw,getElem?_append_right→Zz,getElem?_eq_none→ZA,getElem?_eq_getElem→ZF,length_take→ZH,getElem?_toArray→ZI,length_range→ZN,flatten→ZR,mem_append→ZU,length_map→ZV,getElem?_append_left→Z0,getElem?_map→Z1,append_assoc→Z2,length_drop→Z5,map_congr_left→aac,getElem?_range→aad,mem_singleton→aag,ext_getElem?→aaj,nil_append→aam,drop_eq_getElem_cons→aaq,getElem?_take_of_lt→aar,take_of_length_le→aav,take_append_drop→aaw,mem_cons_of_mem→aax,mem_of_getElem?→aay,mem_append_left→aaz,getElem_of_mem→aaE,replicate_zero→aaG,mem_cons_self→aaI,getElem_mem→aaP,flatten_nil→aaR,ext_getElem→aaT,take_zero→aa0,any→aa2,length→aa4,filter→aa8
open Go.Proofs.Tryz renaming prog→Zm
open Bool renaming and_eq_true→Zt,false_eq_true→aae,false_or→aaf,or_eq_true→aan,or_eq_false_iff→aaD,noConfusion→aaQ
open Go.Result renaming andThen_ok→Zx
open Nat renaming mod_eq_of_lt→Zy,eq_of_beq_eq_true→ZB,le_refl→ZD,zero_add→ZG,lt_or_ge→ZJ,div_div_eq_div_mul→ZM,mul_one→ZP,mod_lt→ZQ,add_zero→ZS,beq→ZT,sub_zero→ZY,blt_eq→Z3,blt→Z4,beq_refl→Z7,sub_self→Z8,le_of_ble_eq_true→Z9,pow_le_pow_right→aab,lt_of_le_of_lt→aah,le_of_not_lt→aal,two_pow_add_eq_or_of_lt→aap,mul_le_mul→aas,add_sub_cancel_left→aau,pow_zero→aaA,mul_comm→aaB,pow_succ→aaC,ble→aaH,div_one→aaL,lt_of_lt_of_le→aaO,lt_succ_self→aaU,strongRecOn→aaX,not_lt_zero→aaY,min_eq_left→aa1,add_assoc→aa3,le_trans→aa5,add_comm→aa6,le_total→aa7
open UInt8 renaming xor_zero→ZC,toNat_ofNat'→ZW,zero_xor→ZX,xor_assoc→Z6,xor_self→aaa,ofNat_toNat→aaM,toNat_xor→aaS,xor_comm→aaW
open Option renaming map_some→ZE,getD_some→aai,bind_some→aaJ
open Go.Sem renaming run_bind→ZK,run_pure→ZL
open Int renaming toNat_natCast→ZO,eq_ofNat_of_zero_le→aat,natCast_nonneg→aaN,natCast_emod→aaV,emod_nonneg→aaZ
open Classical renaming choose→ZZ,byContradiction→aak,choose_spec→aao
open Go.IntKind renaming wrap_u32→aaF,wrap_u8→aaK
namespace E
section
open Go Go.RowKit Go.Shelf
section
variable (P:Program)
def yf(o:Oper)(ρ:Operand→Value):Value:=match (execOp ρ o).run P default with
 | .ok (.value v) _=>v
 | _=>undef
def KC(c x y:Operand)(ρ:Operand→Value):Value:=match ρ c,x,y with
 | .bool E,_,.const (.bool false)=>(match ρ x with | .bool X=> .bool (E&&X) | _=>undef)
 | .bool E,_,_=>(match ρ y with | .bool Y=> .bool (E||Y) | _=>undef)
 | _,_,_=>undef
end
def uQ(P:Program)(b:Bool)(xs ys:List Value):TD:=λo ρ=>match o.op with
 | .binOp d T x y _=>[sE d (match b with | true=> .neq | false=> .eql),sE (ρ x) (.agg xs.toArray),sE (ρ y) (.agg ys.toArray),sE (dH P T,P.eqGuardType P.depth T,(jO P 8 T).map λc=>eM c xs&&eM c ys) (true,false,some true)]
 | _=>[sB false]
theorem KD{P:Program}{xs ys:List Value}:TD.ok P (uQ P false xs ys) (.bool (fg xs ys)):=by
 intro o ρ b w;unfold uQ at b
 split at b
 ·rename_i i T x y q c;simp only[Zq,Zn,or_false,forall_eq_or_imp,forall_eq,sE] at b;obtain⟨rfl,d,e,g⟩:=b;exact(x8 (P:=P) T (λx y w=>uH (x:=x) (y:=y) (w:=w) g rfl)) o ρ (by simp only[uN,c,Zq,Zn,or_false,forall_eq_or_imp,forall_eq,sE];exact⟨trivial,trivial,d,e⟩) w
 ·exact(bG b).elim
theorem KE{P:Program}{xs ys:List Value}:TD.ok P (uQ P true xs ys) (.bool (!fg xs ys)):=by
 intro o ρ b w;unfold uQ at b
 split at b
 ·rename_i i T x y q c;simp only[Zq,Zn,or_false,forall_eq_or_imp,forall_eq,sE] at b;obtain⟨rfl,d,e,g⟩:=b;exact(x8 (P:=P) T (λx y w=>jg (x:=x) (y:=y) (w:=w) g rfl)) o ρ (by simp only[uN,c,Zq,Zn,or_false,forall_eq_or_imp,forall_eq,sE];exact⟨trivial,trivial,d,e⟩) w
 ·exact(bG b).elim
def KF(P:Program)(o:Oper)(ρ:Operand→Value):b0 P:=match o.op with
 | .binOp .eql _ x y _=>(match m3 (ρ x),m3 (ρ y) with | some xs,some ys=> .t (val:= .bool (fg xs ys)) ⟨_,KD⟩ | _,_=> .d undef)
 | .binOp .neq _ x y _=>(match m3 (ρ x),m3 (ρ y) with | some xs,some ys=> .t (val:= .bool (!fg xs ys)) ⟨_,KE⟩ | _,_=> .d undef)
 | _=> .d undef
inductive cd (P:Program):Type 1
 | l (p:Nat)
 | e
 | s (p:Nat)
 | d
 | v (v:Value)
 | t {val:Value} (d:TH P val)
 | u {val:Value} (d:TD) (j:Nat) (E b:Bool) (h:E=b→TD.ok P d val)
 | m {val:ab→Value} (d:MH P val)
 | c {f:FuncId} {args:Array Value} {rd:aj} {O:List Nat} {wt:ab→aj} {v:ab→Value} (ps qs:List Nat) (h:aa P f args rd O wt v)
section
variable {P:Program}
def Cx(P:Program)(T:TypeId):Nat:=((P.info? T).map (·.size)).getD 0
def KG(P:Program)(p:Nat)(T:TypeId)(x:Value)(C:cv):b0 P:=match C p,kW x with
 | some (.c [(_,.cells cs _ _)]),some (_,b)=>(match dH P T with
  | true=> .m (ls p ((cs.toList.drop b).take (Cx P T)))
  | false=> .m (ld p (cs.getD b undef)))
 | _,_=> .d undef
def KH(P:Program)(p:Nat)(T:TypeId):b0 P:=match dH P T with
 | true=> .m (ss p)
 | false=> .m (st p)
def cd.hint(o:Oper)(ρ:Operand→Value)(C:cv):cd P→b0 P
 | .l p=>(match o.op with | .load T x=>KG P p T (ρ x) C | _=> .d undef)
 | .s p=>(match o.op with | .store T _ _=>KH P p T | _=> .d undef)
 | .e=>KF P o ρ
 | .d=> .d (.bool false)
 | .v x=> .v x
 | .t x=> .t x
 | .u x j E b h=> .u x j E b h
 | .m x=> .m x
 | .c g i h=> .c g i h
def Cy(o:Oper)(ρ:Operand→Value)(p:Nat):b0 P:=match o.op with
 | .pick c x y=> .k (KC c x y ρ)
 | .alloc _=> .m (al p)
 | .box _ _=> .m (bx p)
 | _=> .v (yf P o ρ)
def uR(p:Nat):Wr→Nat
 | []=>p
 | x::r=>uR (match aaH p x.1 with | true=>x.1+1 | false=>p) r
def se(L:List Oper)(a:Sl)(c:List (List Nat))(η:bF):List Oper→List (Nat×cd P)→Nat→List Value→cv→Nat→List (b0 P)
 | [],_,_,_,_,_=>[]
 | o::os,[],k,b,C,p=>
  (λρ=>(λh=>h::se L a c η os [] (k+1) (b++[h.val (η k)]) (lQ C (h.wt o ρ C (η k))) (uR p (h.wt o ρ C (η k)))) (Cy o ρ p)) (rH L a (c.getD k []) b)
 | o::os,(j,x)::r,k,b,C,p=>match ZT j k with
  | true=>(λρ=>(λh=>h::se L a c η os r (k+1) (b++[h.val (η k)]) (lQ C (h.wt o ρ C (η k))) (uR p (h.wt o ρ C (η k)))) (x.hint o ρ C)) (rH L a (c.getD k []) b)
  | false=>(λρ=>(λh=>h::se L a c η os ((j,x)::r) (k+1) (b++[h.val (η k)]) (lQ C (h.wt o ρ C (η k))) (uR p (h.wt o ρ C (η k)))) (Cy o ρ p)) (rH L a (c.getD k []) b)
end
inductive It where
 | c (x:Code)
 | b (id:Nat)
 | x (id:Nat)
section
variable (F:Fence) (n:Nat) (P:Program) (Q:Exit→Act→World→Prop)
def dc:List It→Exit→Act→World→Prop
 | []=>Q
 | .c x::S=>Exit.then (x.wpIn F n P (dc S)) (dc S)
 | .b d::S=>Exit.inBlock d (dc S)
 | .x d::S=>Exit.then (dc S (.exit d)) (dc S)
end
def mE(id:Nat):List It→Option (List It)
 | []=>none
 | .c _::S=>mE id S
 | .x _::S=>mE id S
 | .b j::S=>match ZT j id with
  | true=>some S
  | false=>mE id S
def du:Nat→List It→List It
 | 0,S=>S
 | n+1,S=>match S with
  | .c (.seq x y)::S=>du n (.c x:: .c y::S)
  | .c (.block d x)::S=>du n (.c x:: .b d::S)
  | .c .skip::S=>du n S
  | .c (.label _)::S=>du n S
  | .b _::S=>du n S
  | .c (.exit d)::S=>du n (.x d::S)
  | .x d::S=>(match mE d S with
   | some e=>du n e
   | none=> .x d::S)
  | S=>S
abbrev nf(S:List It):List It:=du 1000 S
section
variable {F:Fence} {n:Nat} {P:Program} {Q:Exit→Act→World→Prop} {a:Act} {w:World}
theorem uS{id:Nat}: ∀{S g:List It},mE id S=some g→dc F n P Q g .normal a w→dc F n P Q S (.exit id) a w
 | .c _::S,g,h,d=>uS (S:=S) h d
 | .x _::S,g,h,d=>uS (S:=S) h d
 | .b j::S,g,h,d=>by
  unfold mE at h;show if id=j then dc F n P Q S .normal a w else dc F n P Q S (.exit id) a w
  split at h
  ·rename_i i;cases h;rw[ALifp (ZB i).symm];exact d
  ·rename_i i;rw[ALifn (λe=>by rw[e,Z7] at i;cases i)];exact uS h d
theorem sf{id:Nat}: ∀{S:List It},mE id S=none→Q (.exit id) a w→dc F n P Q S (.exit id) a w
 | [],_,d=>d
 | .c _::S,h,d=>sf (S:=S) h d
 | .x _::S,h,d=>sf (S:=S) h d
 | .b j::S,h,d=>by
  unfold mE at h;show if id=j then dc F n P Q S .normal a w else dc F n P Q S (.exit id) a w
  split at h
  ·cases h
  ·rename_i g;rw[ALifn (λe=>by rw[e,Z7] at g;cases g)];exact sf h d
theorem gZ: ∀{S:List It},Q .ret a w→dc F n P Q S .ret a w
 | [],h=>h
 | .c _::S,h=>gZ (S:=S) h
 | .b _::S,h=>gZ (S:=S) h
 | .x _::S,h=>gZ (S:=S) h
theorem dI: ∀(m:Nat) (S:List It),dc F n P Q (du m S) .normal a w→dc F n P Q S .normal a w
 | 0,_,h=>h
 | m+1,S,h=>by
  unfold du at h
  split at h
  ·exact wpIn_seq (dI m _ h)
  ·exact wpIn_block (dI m _ h)
  ·exact wpIn_skip (dI m _ h)
  ·exact wpIn_label (dI m _ h)
  ·rename_i b;exact(dI m b h:dc F n P Q b .normal a w)
  ·rename_i c b;exact wpIn_exit (dI m (.x c::b) h:dc F n P Q b (.exit c) a w)
  ·split at h
   ·rename_i d;exact uS d (dI m _ h)
   ·exact h
  ·exact h
end
structure Go (F:Fence) (n:Nat) (P:Program) (R:List Nat) (base:World) (Q:Exit→Act→World→Prop) (S:List It) (a:Sl) (L:aj) (Ds:List Nat):Prop where
 out: ∀b W,Fr a Ds b→aF R base (L++Ds.map mk) W→dc F n P Q S .normal b W
def Y3(S:List It):It:=match nf S with | x::_=>x | []=> .b 0
def bS(S:List It):List It:=match nf S with | _::S=>S | []=>[]
def ax(S:List It):List Oper:=match nf S with | .c (.region _ L _)::_=>L.toList | _=>[]
def e6(S:List It):Bool:=match nf S with | .c (.region _ _ d)::_=>d | _=>false
def l7(S:List It):Bool:=match nf S with | .c (.region _ _ _)::_=>true | _=>false
def kY(a:Sl)(S:List It):Option Bool:=match nf S with
 | .c (.cond c _ _)::_=>(match a.ev c with | .bool E=>some E | _=>none)
 | _=>none
def kZ(a:Sl)(S:List It):Bool:=match nf S with
 | .c (.cond (.tmp i) _ _)::_=>a.kn i
 | _=>true
def m7(S:List It):List It:=match nf S with | .c (.cond _ x _)::S=> .c x::S | _=>[]
def m8(S:List It):List It:=match nf S with | .c (.cond _ _ y)::S=> .c y::S | _=>[]
def gD(S:List It):Code:=match nf S with | .c (.loop x)::_=>x | _=> .skip
def n1(S:List It):Bool:=match nf S with | .c (.loop _)::_=>true | _=>false
def eE:List Nat→Fe→Fe
 | [],e=>e
 | d::ds,e=>eE ds (e.filter λx=> !ZT x.1 d)
def mF(L:List Oper)(e b:Fe)(dr:List Nat):Bool:=L.all λo=>match o.dst with
 | none=>true
 | some d=>(lk b d).isSome||dr.contains d||(lk e d).isNone
def k4(L:List Oper)(a:Sl)(t:dP)(η:bF)(i:Nat):Option Value:=match fK i L 0 with
 | some j=>(match Z4 i a.sz&&(t.cds j).all λc=>rJ c.2 (t.vs η c.1) with
  | true=>some (t.vs η j)
  | false=>none)
 | none=>none
theorem qa{e b:Fe}{i:Nat}:lk (e++b) i=match lk e i with | some v=>some v | none=>lk b i:=by
 induction e with
 | nil=>rfl
 | cons x r ih=>
  obtain⟨j,v⟩:=x;show(match ZT j i with | true=>some v | false=>lk (r++b) i)=match (match ZT j i with | true=>some v | false=>lk r i) with | some v=>some v | none=>lk b i
  cases ZT j i
  ·exact ih
  ·rfl
theorem yg{p:Nat→Bool}: ∀{e:Fe} {i:Nat},lk (e.filter λx=>p x.1) i=if p i then lk e i else none
 | [],i=>by split<;>rfl
 | (j,v)::r,i=>by
  rw[List.filter_cons];have ih:=yg (p:=p) (e:=r) (i:=i);by_cases c:j=i
  ·subst c;cases d:p j with
   | true=>simp [lk]
   | false=>
    rw[d] at ih;simp only[aae,if_false] at ih⊢;exact ih
  ·have b:ZT j i=false:=by
    cases h:ZT j i with
    | false=>rfl
    | true=>exact absurd (ZB h) c
   cases d:p j with
   | true=>simp only[if_true,lk,b,ih]
   | false=>simp only[aae,if_false,lk,b,ih]
theorem Cz: ∀{ds:List Nat} {e:Fe} {i:Nat} {v:Value},lk (eE ds e) i=some v→lk e i=some v∧i∉ds
 | [],_,_,_,h=>⟨h,by simp⟩
 | d::ds,e,i,v,h=>by
  obtain⟨b,g⟩:=Cz (ds:=ds) h;rw[yg (p:=λi=> !ZT i d)] at b
  split at b
  ·rename_i j;refine⟨b,λc=>?_⟩;rcases List.mem_cons.1 c with rfl | c
   ·simp [Z7] at j
   ·exact g c
  ·cases b
theorem CA{e:Fe}{i:Nat}{v:Value}(h:lk e i=some v):(i,v)∈e:=by
 induction e with
 | nil=>cases h
 | cons x r ih=>
  obtain⟨j,u⟩:=x;unfold lk at h
  split at h
  ·rename_i b;cases h;rw[ZB b];exact aaI
  ·exact aax _ (ih h)
theorem CB{xs:Nat→Value}: ∀(l:List Oper) (k:Nat) (b:Act),(br xs l k b).tmps.size=b.tmps.size
 | [],_,_=>rfl
 | o::os,k,b=>by rw[br,CB os,xw]
theorem CC(b:Act)(x:Option Tmp)(v:Value):(b.put x v).defers=b.defers:=by cases x<;>rfl
theorem CD{xs:Nat→Value}: ∀(l:List Oper) (k:Nat) (b:Act),(br xs l k b).defers=b.defers
 | [],_,_=>rfl
 | o::os,k,b=>by rw[br,CD os,CC]
section
variable {F:Fence} {n:Nat} {P:Program} {R:List Nat} {base:World} {Q:Exit→Act→World→Prop} {S:List It} {a:Sl} {sz:Nat} {es:Fe} {L:aj} {Ds:List Nat}
def kz(S:List It)(a:Sl)(b:aj)(hs:bF→List (Nat×cd P))(η:bF):List (b0 P):=se (ax S) a (jL (e6 S) (ax S)) η (ax S) (hs η) 0 [] (λp=>b[p]?) b.length
def tR(S:List It)(a:Sl)(b:aj)(m:Nat)(hs:bF→List (Nat×cd P)):dP:=um (ax S) a (jL (e6 S) (ax S)) (rG (ax S) []) b m (kz S a b hs)
abbrev mR(Le:bF→aj→aj)(L:aj):Nat:=(Le (λ_=>ab.zero) L).length
theorem CE(h:l7 S=true): ∃id d,nf S= .c (.region id (ax S).toArray d)::bS S∧e6 S=d:=by
 unfold l7 at h;unfold ax bS e6
 split at h
 ·rename_i id b d g e;rw[e];exact⟨id,d,rfl,rfl⟩
 ·cases h
theorem KJ{b:Bool}{v:Value}(h:rJ b v=true):v= .bool b:=by
 unfold rJ at h
 split at h
 ·rw[eq_of_beq h]
 ·cases h
theorem Fr.region{b:Act}(r:Fr a Ds b){LL:List Oper}{t:dP}{η:bF}{xs:Nat→Value}{e:Fe}{dr:List Nat}(N: ∀i,i<LL.length→t.Is η i (xs i))(I:e.map (λx=>k4 LL a t η x.1)=e.map λx=>some x.2)(H:mF LL a.e e dr=true):
  Fr ⟨a.sz,e++eE dr a.e⟩ Ds (br xs LL 0 b):=by
 refine⟨(CB _ _ _).trans r.size,λi v h=>?_,(CD _ _ _).trans r.defers⟩;have B:=ug (xs:=xs) i LL 0 b;show(br xs LL 0 b).eval (.tmp i)=v;rw[B];simp only[qa] at h;cases m:lk e i with
 | some u=>
  rw[m] at h;cases h;have J:=CA m;have d:k4 LL a t η i=some v:=by
   obtain⟨q,M,D⟩:=aaE J;have:=ALca (λz=>z[q]?) I;simpa [M,D] using this
  unfold k4 at d;cases l:fK i LL 0 with
  | none=>rw[l] at d;cases d
  | some j=>
   rw[l] at d;simp only at d⊢
   split at d
   ·rename_i y;rw[Zt] at y;rw[r.size,ALifp (Z3▸y.1)];cases d;rcases N j (BI l) with⟨_,g⟩ | ⟨g,_⟩
    ·exact g
    ·exact absurd (λc A=>KJ (List.all_eq_true.1 y.2 c A)) g
   ·cases d
 | none=>
  rw[m] at h;simp only at h;obtain⟨g,G⟩:=Cz h;cases l:fK i LL 0 with
  | none=>exact r.get i v g
  | some j=>
   exfalso;have k:=(uq l).2;rw[ZY] at k;cases C:LL[j]? with
   | none=>rw[C] at k;cases k
   | some o=>
    rw[C] at k;have s:=List.all_eq_true.1 H o (aay C);rw[show o.dst=some i from k] at s;simp only[m,g,Option.isSome_none,Option.isNone_some,Bool.or_false,aaf] at s;exact G (by simpa using s)
theorem rr[hF:kv F](hs:bF→List (Nat×cd P))(e:bF→Fe)(dr:List Nat)(Le:bF→aj→aj)(C: ∀η,Go F n P R base Q (bS S) ⟨sz,e η++eE dr es⟩ (Le η L) Ds)
  (D:P.follows .mixedOrders=true:=by kernel_rfl)
  (c: ∀η,(l7 S,(fq (ax S) ⟨sz,es⟩ (tR S ⟨sz,es⟩ L (mR Le L) hs) η 0 (ax S) (kz S ⟨sz,es⟩ L hs η)).map a9.lhs,mB (e6 S) (ax S) (λk=>(jL (e6 S) (ax S)).getD k []),(Zv (mR Le L)).map (λp=>(tR S ⟨sz,es⟩ L (mR Le L) hs).at η p (ax S).length),(e η).map (λx=>k4 (ax S) ⟨sz,es⟩ (tR S ⟨sz,es⟩ L (mR Le L) hs) η x.1),mF (ax S) es (e η) dr)=
   (true,(fq (ax S) ⟨sz,es⟩ (tR S ⟨sz,es⟩ L (mR Le L) hs) η 0 (ax S) (kz S ⟨sz,es⟩ L hs η)).map a9.rhs,true,(Le η L).map some,(e η).map (λx=>some x.2),true):=by intro _;kernel_rfl):Go F n P R base Q S ⟨sz,es⟩ L Ds:=by
 have i:=ALca (λx=>x.1) (c λ_=>ab.zero);have j:=λη=>ALca (λx=>x.2.1) (c η);have l:=ALca (λx=>x.2.2.1) (c λ_=>ab.zero);have m:=λη=>ALca (λx=>x.2.2.2.1) (c η);have o:=λη=>ALca (λx=>x.2.2.2.2.1) (c η);have q:=λη=>ALca (λx=>x.2.2.2.2.2) (c η);simp only at i j l m o q;obtain⟨H,d,A,B⟩:=CE i;subst B;refine⟨λb W r z=>dI 1000 S ?_⟩;rw[show du 1000 S=_ from A];show(Code.region H (ax S).toArray (e6 S)).wpIn F n P (dc F n P Q (bS S)) b W;obtain⟨y,s,u⟩:=z.seg;refine IT (t:=tR S ⟨sz,es⟩ L (mR Le L) hs) (R:=y) (base:=W) D (BK r j) hF.free l u (λη=>Le η L) m ?_;intro η xs I G g;exact(C η).out _ _ (r.region G (o η) (q η)) (s.out.whole g.out)
end
end
section
open Go Go.RowKit Go.Shelf
section
variable {F:Fence} {n:Nat} {P:Program} {R:List Nat} {base:World} {Q:Exit→Act→World→Prop} {S:List It} {a:Sl} {sz:Nat} {es:Fe} {L:aj} {Ds:List Nat}
abbrev i6(x:Int):Value:= .int .i64 x
abbrev u6(x:Int):Value:= .int .u64 x
abbrev u1(x:Int):Value:= .int .u8 x
abbrev pt(g o:Nat):Value:= .pointer (some ⟨g,o,none⟩)
abbrev iN(n:Nat):Value:=i6 (n:Int)
abbrev N0.{u,v} {α:Type u} {β:Type v}:α→List β:=λ_=>[]
theorem KK{α:Type}{xs ys:List α}{n:Nat}{b:Bool}(h1:xs.length=n)(h2:ys.length=n):(bif b then xs else ys).length=n:=by cases b;exact h2;exact h1
theorem CF{E:Bool}(h:kY a S=some E)(g:kZ a S=true): ∃c x y d,nf S= .c (.cond c x y)::d∧m7 S= .c x::d∧m8 S= .c y::d∧(∀{b:Act},Fr a Ds b→b.eval c= .bool E):=by
 unfold kY at h;unfold kZ at g;unfold m7 m8
 split at h
 ·rename_i c x y d e;rw[e] at g⊢
  split at h
  ·rename_i m j;cases h;refine⟨c,x,y,d,rfl,rfl,rfl,λ{b} k=>?_⟩;rw[k.ev λi l=>by subst l;exact g];exact j
  ·cases h
 ·cases h
theorem cB(E:Bool)(ht:E=true→Go F n P R base Q (m7 S) ⟨sz,es⟩ L Ds)(hf:E=false→Go F n P R base Q (m8 S) ⟨sz,es⟩ L Ds)(i:(kY ⟨sz,es⟩ S,kZ ⟨sz,es⟩ S)=(some E,true):=by kernel_rfl):Go F n P R base Q S ⟨sz,es⟩ L Ds:=by
 obtain⟨c,x,y,o,j,k,l,m⟩:=CF (Ds:=Ds) (ALca (·.1) i) (ALca (·.2) i);refine⟨λb W d g=>dI 1000 S ?_⟩;rw[show du 1000 S=_ from j];exact wpIn_cond_split (m d) (λe=>by have:=(ht e).out b W d g;rw[k] at this;exact this) (λe=>by have:=(hf e).out b W d g;rw[l] at this;exact this)
theorem cT(E:Bool)(b:E=true)(ht:Go F n P R base Q (m7 S) ⟨sz,es⟩ L Ds)(c:(kY ⟨sz,es⟩ S,kZ ⟨sz,es⟩ S)=(some E,true):=by kernel_rfl):Go F n P R base Q S ⟨sz,es⟩ L Ds:=cB E (λ_=>ht) (λh=>by rw[b] at h;cases h) c
theorem cF(E:Bool)(b:E=false)(hf:Go F n P R base Q (m8 S) ⟨sz,es⟩ L Ds)(c:(kY ⟨sz,es⟩ S,kZ ⟨sz,es⟩ S)=(some E,true):=by kernel_rfl):Go F n P R base Q S ⟨sz,es⟩ L Ds:=cB E (λh=>by rw[b] at h;cases h) (λ_=>hf) c
theorem cj(x y:Int)(ht:(decide (x<y))=true→x<y→Go F n P R base Q (m7 S) ⟨sz,es⟩ L Ds)(hf:(decide (x<y))=false→y≤x→Go F n P R base Q (m8 S) ⟨sz,es⟩ L Ds)(b:(kY ⟨sz,es⟩ S,kZ ⟨sz,es⟩ S)=(some (decide (x<y)),true):=by kernel_rfl):Go F n P R base Q S ⟨sz,es⟩ L Ds:=
 cB _ (λh=>ht h (of_decide_eq_true h)) (λh=>hf h (Int.not_lt.1 (of_decide_eq_false h))) b
theorem oV(x y:Int)(ht:(decide (x≤y))=true→x≤y→Go F n P R base Q (m7 S) ⟨sz,es⟩ L Ds)(hf:(decide (x≤y))=false→y<x→Go F n P R base Q (m8 S) ⟨sz,es⟩ L Ds)(b:(kY ⟨sz,es⟩ S,kZ ⟨sz,es⟩ S)=(some (decide (x≤y)),true):=by kernel_rfl):Go F n P R base Q S ⟨sz,es⟩ L Ds:=
 cB _ (λh=>ht h (of_decide_eq_true h)) (λh=>hf h (Int.not_le.1 (of_decide_eq_false h))) b
theorem cX(x y:Int)(ht:(x==y)=true→x=y→Go F n P R base Q (m7 S) ⟨sz,es⟩ L Ds)(hf:(x==y)=false→x≠y→Go F n P R base Q (m8 S) ⟨sz,es⟩ L Ds)(b:(kY ⟨sz,es⟩ S,kZ ⟨sz,es⟩ S)=(some (x==y),true):=by kernel_rfl):Go F n P R base Q S ⟨sz,es⟩ L Ds:=
 cB _ (λh=>ht h (eq_of_beq h)) (λh=>hf h (ne_of_beq_false h)) b
theorem m9(x y:Int)(ht:(!(x==y))=true→x≠y→Go F n P R base Q (m7 S) ⟨sz,es⟩ L Ds)(hf:(!(x==y))=false→x=y→Go F n P R base Q (m8 S) ⟨sz,es⟩ L Ds)(b:(kY ⟨sz,es⟩ S,kZ ⟨sz,es⟩ S)=(some (!(x==y)),true):=by kernel_rfl):Go F n P R base Q S ⟨sz,es⟩ L Ds:=
 cB _ (λh=>ht h (λe=>by subst e;simp at h)) (λh=>hf h (by simpa using h)) b
theorem Fr.told{b:Act}(d:Fr a Ds b){c:Fe}(g:(c.map λx=>lk a.e x.1)=c.map λx=>some x.2):Fr ⟨a.sz,c⟩ Ds b:=by
 refine⟨d.size,λi v h=>?_,d.defers⟩;obtain⟨q,j,e⟩:=aaE (CA h);have:=ALca (λz=>z[q]?) g;exact d.get i v (by simpa [j,e] using this)
theorem aF.under{L':aj}{W:World}(e:aF R base (L++Ds.map mk) W)(h: ∀{b:List Nat},aF b W L W→aF b W L' W):aF R base (L'++Ds.map mk) W:=by
 obtain⟨b,c,d⟩:=e.seg;exact c.out.whole (h d.out)
theorem cl(L':aj)(b:L=L')(c:Go F n P R base Q S ⟨sz,es⟩ L' Ds):Go F n P R base Q S ⟨sz,es⟩ L Ds:=by subst b;exact c
theorem cw(k:Nat)(x y:aB)(h: ∀bs,x.sat bs→y.sat bs)(e:Go F n P R base Q S ⟨sz,es⟩ (L.set k y) Ds)(i:L[k]? =some x:=by kernel_rfl):Go F n P R base Q S ⟨sz,es⟩ L Ds:=
 ⟨λb W d c=>e.out b W d (c.under λg=>g.weak k i h)⟩
theorem ck(k:Nat)(T:ay→Prop)(m: ∀bs,T bs→Go F n P R base Q S ⟨sz,es⟩ (L.set k (.c bs)) Ds)(h:L[k]? =some (.p T):=by kernel_rfl):Go F n P R base Q S ⟨sz,es⟩ L Ds:=by
 refine⟨λb W l i=>?_⟩;obtain⟨o,d,e⟩:=i.seg;obtain⟨bs,j,g⟩:=e.out.open k h;exact(m bs j).out b W l (d.out.whole g)
theorem cn{α:Type}(en:α→List Value)(z:List Value)(T:TypeId)(e:Go F n P R base Q S ⟨sz,es⟩ (L++[.p (ar en z T (.slice none 0 0) ([]:List α))]) Ds):Go F n P R base Q S ⟨sz,es⟩ L Ds:=
 ⟨λb W d c=>e.out b W d (c.under λh=>h.nilS en z T)⟩
end
def yh:List Oper→List Nat
 | []=>[]
 | o::os=>match o.dst with
  | some d=>d::yh os
  | none=>yh os
def kA:Code→List Nat
 | .region _ L _=>yh L.toList
 | .seq x y=>kA x++kA y
 | .cond _ x y=>kA x++kA y
 | .block _ x=>kA x
 | .loop x=>kA x
 | .scope x=>kA x
 | .rangeFunc _ b x y=>b.toList++(kA x++kA y)
 | _=>[]
def jP(S:List It)(e:Fe):Fe:=(λb=>e.filter λx=> !aa2 b (ZT x.1)) (kA (gD S))
section
variable (F:Fence) (n:Nat) (P:Program) (R:List Nat) (base:World) {κ:Type}
def CG(I:κ→Prop)(e:κ→Fe)(L:κ→aj)(D:κ→List Nat)(m:κ→Nat)(sz:Nat)(st:Fe)(j:Nat)(b:Act)(W:World):Prop:=∃k,I k∧m k<j∧Fr ⟨sz,e k++st⟩ (D k) b∧aF R base (L k++(D k).map mk) W
def uU(Q:Exit→Act→World→Prop)(S:List It)(I:κ→Prop)(e:κ→Fe)(L:κ→aj)(D:κ→List Nat)(m:κ→Nat)(sz:Nat)(st:Fe)(j:Nat):Exit→Act→World→Prop
 | .normal,b,W=>CG R base I e L D m sz st j b W
 | e,b,W=>dc F n P Q S e b W
end
section
variable {F:Fence} {n:Nat} {P:Program} {R:List Nat} {base:World} {Q:Exit→Act→World→Prop} {S:List It} {a:Sl} {sz:Nat} {es:Fe} {L:aj} {Ds:List Nat} {κ:Type}
theorem k5{J:Nat→Prop}(h: ∃j,J j): ∃j,J j∧∀i,i<j→¬J i:=by
 classical
 obtain⟨j,k⟩:=h
 induction j using aaX with
 | _ j ih=>
  by_cases b: ∃i,i<j∧J i
  ·obtain⟨i,c,d⟩:=b;exact ih i c d
  ·exact⟨j,k,λi g e=>b ⟨i,g,e⟩⟩
theorem uV(h:n1 S=true):nf S= .c (.loop (gD S))::bS S:=by
 unfold n1 at h;unfold gD bS
 split at h
 ·rename_i x b e;rw[e]
 ·cases h
theorem Fr.stay{b:Act}(d:Fr a Ds b){c:Fe}(j:(c.map λx=>lk a.e x.1)=c.map λx=>some x.2):Fr ⟨a.sz,c++jP S a.e⟩ Ds b:=by
 have g:=d.told j;refine⟨d.size,λi v h=>?_,d.defers⟩;simp only[qa] at h;cases e:lk c i with
 | none=>
  rw[e] at h;simp only at h;unfold jP at h;rw[yg (p:=λi=> !aa2 (kA (gD S)) (ZT i))] at h
  split at h
  ·exact d.get i v h
  ·cases h
 | some u=>rw[e] at h;cases h;exact g.get i v e
theorem lp(I:κ→Prop)(e:κ→Fe)(g:κ→aj)(D:κ→List Nat)(m:κ→Nat)(d:κ)(h0:I d)(l:((e d).map λx=>lk es x.1)=(e d).map λx=>some x.2)(z:L=g d)(u:Ds=D d)
  (N: ∀k,I k→Go F n P R base (uU F n P R base Q (bS S) I e g D m sz (jP S es) (m k)) [.c (gD S)] ⟨sz,e k++jP S es⟩ (g k) (D k)) (A:n1 S=true):Go F n P R base Q S ⟨sz,es⟩ L Ds:=by
 classical
 subst z u;refine⟨λb W B q=>dI 1000 S ?_⟩;rw[show du 1000 S=_ from uV A];show(Code.loop (gD S)).wpIn F n P (dc F n P Q (bS S)) b W
 let J:Nat→Act→World→Prop:=CG R base I e g D m sz (jP S es)
 let μ:Act→World→Nat:=λb W=>if h: ∃j,J j b W then ZZ (k5 h) else 0
 have t: ∀b W,(∃j,J j b W)→J (μ b W) b W∧∀i,i<μ b W→¬J i b W:=by
  intro b W h;have e:μ b W=ZZ (k5 h):=dif_pos h;rw[e];exact aao (k5 h)
 refine wpIn_loop (λb W=>∃j,J j b W) μ ⟨m d+1,d,h0,aaU _,Fr.stay (a:=⟨sz,es⟩) B l,q⟩ λb W y=>?_;obtain⟨k,G,M,C,q⟩:=(t b W y).1;refine wpIn_mono (show(gD S).wpIn F n P _ b W from(N k G).out b W C q) λe s r l=>?_;cases e with
 | normal=>
  have o:J (m k) s r:=l;exact⟨⟨_,o⟩,aah (aal λH=>(t s r ⟨_,o⟩).2 _ H o) M⟩
 | _=>exact l
def j8(S c:List It):Option (List It):=match nf S with
 | .x b::S'=>(match mE b S' with
  | none=>some (.x b::c)
  | some _=>none)
 | _=>none
theorem uW{c:Exit→Act→World→Prop}{d g:List It}{b:Act}{W:World}(h1:j8 S d=some g)(j:dc F n P Q g .normal b W)(i: ∀id,c (.exit id) b W=dc F n P Q d (.exit id) b W):dc F n P c S .normal b W:=by
 refine dI 1000 S ?_;unfold j8 at h1
 split at h1
 ·rename_i id l e;rw[show du 1000 S=_ from e]
  split at h1
  ·rename_i k;cases h1;exact sf k (by rw[i];exact j)
  ·cases h1
 ·cases h1
theorem CH{I:κ→Prop}{e:κ→Fe}{k:κ→aj}{D:κ→List Nat}{m:κ→Nat}{c:List It}{d:Nat}{st:Fe}{j:Nat}(i:Go F n P R base Q ((j8 S c).getD []) ⟨sz,es⟩ L Ds)(o:(j8 S c).isSome=true:=by kernel_rfl):Go F n P R base (uU F n P R base Q c I e k D m d st j) S ⟨sz,es⟩ L Ds:=by
 obtain⟨r,g⟩:=Option.isSome_iff_exists.1 o;rw[g] at i;exact⟨λb W q l=>uW g (i.out b W q l) λ_=>rfl⟩
class Rt (Q:Exit→Act→World→Prop) (Q0:outParam (Exit→Act→World→Prop)):Prop where
 out: ∀b W,Q0 .ret b W→Q .ret b W
instance {Q:Exit→Act→World→Prop}:Rt Q Q:=⟨λ_ _ h=>h⟩
def uX(F:Fence)(n:Nat)(P:Program)(R:List Nat)(base:World)(Q:Exit→Act→World→Prop)(S:List It)(I:Nat→Prop)(e:Nat→Fe)(c:Nat→aj)(m:Nat→Nat)(b:List Nat)(sz:Nat)(st:Fe)(j:Nat):Exit→Act→World→Prop:=uU (κ:=Nat) F n P R base Q S I e c (λ_=>b) m sz st j
theorem lq(I:Nat→Prop)(e:Nat→Fe)(d:Nat→aj→aj)(m:Nat→Nat)(b:Nat)(h0:I b)(j:((e b).map λx=>lk es x.1)=(e b).map λx=>some x.2)(g:L=d b L)
  (l: ∀(k:Nat),I k→Go F n P R base (uX F n P R base Q (bS S) I e (λk=>d k L) m Ds sz (jP S es) (m k)) [.c (gD S)] ⟨sz,e k++jP S es⟩ (d k L) Ds) (i:n1 S=true:=by kernel_rfl):Go F n P R base Q S ⟨sz,es⟩ L Ds:=
 lp (κ:=Nat) I e (λx=>d x L) (λ_=>Ds) m b h0 j g rfl (λx=>l x) i
theorem le{I:Nat→Prop}{e:Nat→Fe}{l:Nat→aj}{m:Nat→Nat}{o:List It}{d:Nat}{st:Fe}{c:List Nat}{j:Nat}(k:Nat)(r:I k)(A:m k<j)(z:((e k++st).map λx=>lk es x.1)=(e k++st).map λx=>some x.2)(i:List Nat)(s:(dp (i.map λp=>[p]).flatten,(i.map λp=>[p]).map λg=>g.map λp=>L[p]?)=(true,((l k).map λx=>[x]).map λN=>N.map some))(u:(nf S).isEmpty=true:=by kernel_rfl)(B:sz=d:=by rfl)(q:Ds=c:=by rfl):
  Go F n P R base (uX F n P R base Q o I e l m c d st j) S ⟨sz,es⟩ L Ds:=by
 subst B q;refine⟨λb W y t=>dI 1000 S ?_⟩;rw[show du 1000 S=[] from List.isEmpty_iff.1 u];exact⟨k,r,A,Fr.told (a:=⟨sz,es⟩) y z,t.under λh=>h.pick i _ s⟩
theorem lx{I:Nat→Prop}{e:Nat→Fe}{g:Nat→aj}{m:Nat→Nat}{c:List It}{d:Nat}{st:Fe}{b:List Nat}{j:Nat}(k:Go F n P R base Q ((j8 S c).getD []) ⟨sz,es⟩ L Ds)(i:(j8 S c).isSome=true:=by kernel_rfl):Go F n P R base (uX F n P R base Q c I e g m b d st j) S ⟨sz,es⟩ L Ds:=CH k i
instance {F:Fence} {n:Nat} {P:Program} {R:List Nat} {base:World} {Q Q0:Exit→Act→World→Prop} {I:Nat→Prop} {e:Nat→Fe} {LI:Nat→aj} {m:Nat→Nat} {S0:List It} {sz0:Nat} {st:Fe} {Ds0:List Nat} {j:Nat} [h:Rt Q Q0]:Rt (uX F n P R base Q S0 I e LI m Ds0 sz0 st j) Q0:=⟨λb W hq=>gZ (S:=S0) (h.out b W hq)⟩
def uY(F:Fence)(n:Nat)(P:Program)(R:List Nat)(base:World)(Q:Exit→Act→World→Prop)(S:List It)(I:Nat→Value→Prop)(e:Nat→Value→Fe)(c:Nat→Value→aj)(m:Nat→Value→Nat)(b:List Nat)(sz:Nat)(st:Fe)(j:Nat):Exit→Act→World→Prop:=uU (κ:=Nat×Value) F n P R base Q S (λx=>I x.1 x.2) (λx=>e x.1 x.2) (λx=>c x.1 x.2) (λ_=>b) (λx=>m x.1 x.2) sz st j
theorem na(I:Nat→Value→Prop)(e:Nat→Value→Fe)(g:Nat→Value→aj→aj)(m:Nat→Value→Nat)(b:Nat)(d:Value)(h0:I b d)(l:((e b d).map λx=>lk es x.1)=(e b d).map λx=>some x.2)(i:L=g b d L)
  (o: ∀(k:Nat) (u:Value),I k u→Go F n P R base (uY F n P R base Q (bS S) I e (λk u=>g k u L) m Ds sz (jP S es) (m k u)) [.c (gD S)] ⟨sz,e k u++jP S es⟩ (g k u L) Ds) (j:n1 S=true:=by kernel_rfl):Go F n P R base Q S ⟨sz,es⟩ L Ds:=
 lp (κ:=Nat×Value) (λx=>I x.1 x.2) (λx=>e x.1 x.2) (λx=>g x.1 x.2 L) (λ_=>Ds) (λx=>m x.1 x.2) (b,d) h0 l i rfl (λx=>o x.1 x.2) j
theorem l8{I:Nat→Value→Prop}{e:Nat→Value→Fe}{l:Nat→Value→aj}{m:Nat→Value→Nat}{o:List It}{d:Nat}{st:Fe}{c:List Nat}{j:Nat}(k:Nat)(u:Value)(r:I k u)(B:m k u<j)(A:((e k u++st).map λx=>lk es x.1)=(e k u++st).map λx=>some x.2)(i:List Nat)(s:(dp (i.map λp=>[p]).flatten,(i.map λp=>[p]).map λg=>g.map λp=>L[p]?)=(true,((l k u).map λx=>[x]).map λN=>N.map some))(y:(nf S).isEmpty=true:=by kernel_rfl)(C:sz=d:=by rfl)(q:Ds=c:=by rfl):
  Go F n P R base (uY F n P R base Q o I e l m c d st j) S ⟨sz,es⟩ L Ds:=by
 subst C q;refine⟨λb W z t=>dI 1000 S ?_⟩;rw[show du 1000 S=[] from List.isEmpty_iff.1 y];exact⟨(k,u),r,B,Fr.told (a:=⟨sz,es⟩) z A,t.under λh=>h.pick i _ s⟩
theorem l9{I:Nat→Value→Prop}{e:Nat→Value→Fe}{g:Nat→Value→aj}{m:Nat→Value→Nat}{c:List It}{d:Nat}{st:Fe}{b:List Nat}{j:Nat}(k:Go F n P R base Q ((j8 S c).getD []) ⟨sz,es⟩ L Ds)(i:(j8 S c).isSome=true:=by kernel_rfl):Go F n P R base (uY F n P R base Q c I e g m b d st j) S ⟨sz,es⟩ L Ds:=CH k i
instance {F:Fence} {n:Nat} {P:Program} {R:List Nat} {base:World} {Q Q0:Exit→Act→World→Prop} {I:Nat→Value→Prop} {e:Nat→Value→Fe} {LI:Nat→Value→aj} {m:Nat→Value→Nat} {S0:List It} {sz0:Nat} {st:Fe} {Ds0:List Nat} {j:Nat} [h:Rt Q Q0]:Rt (uY F n P R base Q S0 I e LI m Ds0 sz0 st j) Q0:=⟨λb W hq=>gZ (S:=S0) (h.out b W hq)⟩
def Zd(F:Fence)(n:Nat)(P:Program)(R:List Nat)(base:World)(Q:Exit→Act→World→Prop)(S:List It)(I:Nat→Value→Value→Prop)(e:Nat→Value→Value→Fe)(c:Nat→Value→Value→aj)(m:Nat→Value→Value→Nat)(b:List Nat)(sz:Nat)(st:Fe)(j:Nat):Exit→Act→World→Prop:=uU (κ:=Nat×Value×Value) F n P R base Q S (λx=>I x.1 x.2.1 x.2.2) (λx=>e x.1 x.2.1 x.2.2) (λx=>c x.1 x.2.1 x.2.2) (λ_=>b) (λx=>m x.1 x.2.1 x.2.2) sz st j
instance {F:Fence} {n:Nat} {P:Program} {R:List Nat} {base:World} {Q Q0:Exit→Act→World→Prop} {I:Nat→Value→Value→Prop} {e:Nat→Value→Value→Fe} {LI:Nat→Value→Value→aj} {m:Nat→Value→Value→Nat} {S0:List It} {sz0:Nat} {st:Fe} {Ds0:List Nat} {j:Nat} [h:Rt Q Q0]:Rt (Zd F n P R base Q S0 I e LI m Ds0 sz0 st j) Q0:=⟨λb W hq=>gZ (S:=S0) (h.out b W hq)⟩
def Ze(F:Fence)(n:Nat)(P:Program)(R:List Nat)(base:World)(Q:Exit→Act→World→Prop)(S:List It)(I:Nat→Value→Value→Value→Prop)(e:Nat→Value→Value→Value→Fe)(c:Nat→Value→Value→Value→aj)(m:Nat→Value→Value→Value→Nat)(b:List Nat)(sz:Nat)(st:Fe)(j:Nat):Exit→Act→World→Prop:=uU (κ:=Nat×Value×Value×Value) F n P R base Q S (λx=>I x.1 x.2.1 x.2.2.1 x.2.2.2) (λx=>e x.1 x.2.1 x.2.2.1 x.2.2.2) (λx=>c x.1 x.2.1 x.2.2.1 x.2.2.2) (λ_=>b) (λx=>m x.1 x.2.1 x.2.2.1 x.2.2.2) sz st j
instance {F:Fence} {n:Nat} {P:Program} {R:List Nat} {base:World} {Q Q0:Exit→Act→World→Prop} {I:Nat→Value→Value→Value→Prop} {e:Nat→Value→Value→Value→Fe} {LI:Nat→Value→Value→Value→aj} {m:Nat→Value→Value→Value→Nat} {S0:List It} {sz0:Nat} {st:Fe} {Ds0:List Nat} {j:Nat} [h:Rt Q Q0]:Rt (Ze F n P R base Q S0 I e LI m Ds0 sz0 st j) Q0:=⟨λb W hq=>gZ (S:=S0) (h.out b W hq)⟩
def Zf(F:Fence)(n:Nat)(P:Program)(R:List Nat)(base:World)(Q:Exit→Act→World→Prop)(S:List It)(I:Nat→List Nat→Prop)(e:Nat→List Nat→Fe)(b:Nat→List Nat→aj)(m:Nat→List Nat→Nat)(sz:Nat)(st:Fe)(j:Nat):Exit→Act→World→Prop:=uU (κ:=Nat×List Nat) F n P R base Q S (λx=>I x.1 x.2) (λx=>e x.1 x.2) (λx=>b x.1 x.2) (λx=>x.2) (λx=>m x.1 x.2) sz st j
instance {F:Fence} {n:Nat} {P:Program} {R:List Nat} {base:World} {Q Q0:Exit→Act→World→Prop} {I:Nat→List Nat→Prop} {e:Nat→List Nat→Fe} {LI:Nat→List Nat→aj} {m:Nat→List Nat→Nat} {S0:List It} {sz0:Nat} {st:Fe} {j:Nat} [h:Rt Q Q0]:Rt (Zf F n P R base Q S0 I e LI m sz0 st j) Q0:=⟨λb W hq=>gZ (S:=S0) (h.out b W hq)⟩
def Zg(F:Fence)(n:Nat)(P:Program)(R:List Nat)(base:World)(Q:Exit→Act→World→Prop)(S:List It)(I:Nat→Value→List Nat→Prop)(e:Nat→Value→List Nat→Fe)(b:Nat→Value→List Nat→aj)(m:Nat→Value→List Nat→Nat)(sz:Nat)(st:Fe)(j:Nat):Exit→Act→World→Prop:=uU (κ:=Nat×Value×List Nat) F n P R base Q S (λx=>I x.1 x.2.1 x.2.2) (λx=>e x.1 x.2.1 x.2.2) (λx=>b x.1 x.2.1 x.2.2) (λx=>x.2.2) (λx=>m x.1 x.2.1 x.2.2) sz st j
instance {F:Fence} {n:Nat} {P:Program} {R:List Nat} {base:World} {Q Q0:Exit→Act→World→Prop} {I:Nat→Value→List Nat→Prop} {e:Nat→Value→List Nat→Fe} {LI:Nat→Value→List Nat→aj} {m:Nat→Value→List Nat→Nat} {S0:List It} {sz0:Nat} {st:Fe} {j:Nat} [h:Rt Q Q0]:Rt (Zg F n P R base Q S0 I e LI m sz0 st j) Q0:=⟨λb W hq=>gZ (S:=S0) (h.out b W hq)⟩
def Zh(F:Fence)(n:Nat)(P:Program)(R:List Nat)(base:World)(Q:Exit→Act→World→Prop)(S:List It)(I:Nat→Value→Value→List Nat→Prop)(e:Nat→Value→Value→List Nat→Fe)(b:Nat→Value→Value→List Nat→aj)(m:Nat→Value→Value→List Nat→Nat)(sz:Nat)(st:Fe)(j:Nat):Exit→Act→World→Prop:=uU (κ:=Nat×Value×Value×List Nat) F n P R base Q S (λx=>I x.1 x.2.1 x.2.2.1 x.2.2.2) (λx=>e x.1 x.2.1 x.2.2.1 x.2.2.2) (λx=>b x.1 x.2.1 x.2.2.1 x.2.2.2) (λx=>x.2.2.2) (λx=>m x.1 x.2.1 x.2.2.1 x.2.2.2) sz st j
instance {F:Fence} {n:Nat} {P:Program} {R:List Nat} {base:World} {Q Q0:Exit→Act→World→Prop} {I:Nat→Value→Value→List Nat→Prop} {e:Nat→Value→Value→List Nat→Fe} {LI:Nat→Value→Value→List Nat→aj} {m:Nat→Value→Value→List Nat→Nat} {S0:List It} {sz0:Nat} {st:Fe} {j:Nat} [h:Rt Q Q0]:Rt (Zh F n P R base Q S0 I e LI m sz0 st j) Q0:=⟨λb W hq=>gZ (S:=S0) (h.out b W hq)⟩
end
section
variable {F:Fence} {n:Nat} {P:Program} {R:List Nat} {base:World} {Q:Exit→Act→World→Prop} {S:List It} {a:Sl} {sz:Nat} {es:Fe} {L:aj} {Ds:List Nat}
def jQ(F:Fence)(n:Nat)(P:Program)(R:List Nat)(base:World)(Q:Exit→Act→World→Prop)(S:List It)(c:Sl)(L':aj)(Ds:List Nat):Exit→Act→World→Prop
 | .normal,b,W=>Fr c Ds b∧aF R base (L'++Ds.map mk) W
 | e,b,W=>dc F n P Q S e b W
def uZ(S:List It):Code:=match nf S with | .c (.cond _ x _)::_=>x | _=> .skip
def u0(S:List It):Code:=match nf S with | .c (.cond _ _ y)::_=>y | _=> .skip
def yi(S:List It)(e:Fe):Fe:=(λb=>e.filter λx=> !aa2 b (ZT x.1)) (kA (uZ S)++kA (u0 S))
theorem cJ(E:Bool)(l:Bool→Fe)(L':Bool→aj)(ht:E=true→Go F n P R base (jQ F n P R base Q (bS S) ⟨sz,l true++yi S es⟩ (L' true) Ds) [.c (uZ S)] ⟨sz,es⟩ L Ds)(hf:E=false→Go F n P R base (jQ F n P R base Q (bS S) ⟨sz,l false++yi S es⟩ (L' false) Ds) [.c (u0 S)] ⟨sz,es⟩ L Ds)
  (m:Go F n P R base Q (bS S) ⟨sz,l E++yi S es⟩ (L' E) Ds) (r:(kY ⟨sz,es⟩ S,kZ ⟨sz,es⟩ S)=(some E,true):=by kernel_rfl):Go F n P R base Q S ⟨sz,es⟩ L Ds:=by
 obtain⟨c,x,y,s,g,A,B,o⟩:=CF (Ds:=Ds) (ALca (·.1) r) (ALca (·.2) r);have u:uZ S=x:=by unfold uZ;rw[g]
 have z:u0 S=y:=by unfold u0;rw[g]
 have t:bS S=s:=by unfold bS;rw[g]
 rw[u] at ht;rw[z] at hf;rw[t] at ht hf m;refine⟨λb W i q=>dI 1000 S ?_⟩;rw[show du 1000 S=_ from g];cases E with
 | true=>exact wpIn_cond (o i) (wpIn_mono (show x.wpIn F n P _ b W from(ht rfl).out b W i q) λe k j d=>by
   cases e with
   | normal=>exact m.out k j d.1 d.2
   | _=>exact d)
 | false=>exact wpIn_cond (o i) (wpIn_mono (show y.wpIn F n P _ b W from(hf rfl).out b W i q) λe k j d=>by
   cases e with
   | normal=>exact m.out k j d.1 d.2
   | _=>exact d)
theorem cm{i:List It}{d:Sl}{L':aj}{c:List Nat}(q:(d.e.map λx=>lk es x.1)=d.e.map λx=>some x.2)(e:List Nat)(k:(dp (e.map λp=>[p]).flatten,(e.map λp=>[p]).map λg=>g.map λp=>L[p]?)=(true,(L'.map λx=>[x]).map λN=>N.map some))(m:(nf S).isEmpty=true:=by kernel_rfl)(r:sz=d.sz:=by rfl)(j:Ds=c:=by rfl):Go F n P R base (jQ F n P R base Q i d L' c) S ⟨sz,es⟩ L Ds:=by
 subst j;refine⟨λb W o l=>dI 1000 S ?_⟩;rw[show du 1000 S=[] from List.isEmpty_iff.1 m];have h:=o.told q;exact⟨⟨h.size.trans r,h.get,h.defers⟩,l.under λh=>h.pick e _ k⟩
theorem r0[hF:kv F](hs:List (Nat×cd P))(b:Fe)(dr:List Nat)(d:Go F n P R base Q (bS S) ⟨sz,b++eE dr es⟩ L Ds)
 (e:P.follows .mixedOrders=true:=by kernel_rfl)
 (c: ∀η,(l7 S,(fq (ax S) ⟨sz,es⟩ (tR S ⟨sz,es⟩ L L.length λ_=>hs) η 0 (ax S) (kz S ⟨sz,es⟩ L (λ_=>hs) η)).map a9.lhs,mB (e6 S) (ax S) (λk=>(jL (e6 S) (ax S)).getD k []),(Zv L.length).map (λp=>(tR S ⟨sz,es⟩ L L.length λ_=>hs).at η p (ax S).length),b.map (λx=>k4 (ax S) ⟨sz,es⟩ (tR S ⟨sz,es⟩ L L.length λ_=>hs) η x.1),mF (ax S) es b dr)=
  (true,(fq (ax S) ⟨sz,es⟩ (tR S ⟨sz,es⟩ L L.length λ_=>hs) η 0 (ax S) (kz S ⟨sz,es⟩ L (λ_=>hs) η)).map a9.rhs,true,L.map some,b.map (λx=>some x.2),true):=by intro _;kernel_rfl):Go F n P R base Q S ⟨sz,es⟩ L Ds:=rr (λ_=>hs) (λ_=>b) dr (λ_ L=>L) (λ_=>d) e c
theorem rF[hF:kv F](hs:List (Nat×cd P))(k:Nat)(d:Go F n P R base Q (m8 (bS S)) ⟨sz,[(k,Value.bool false)]++eE [] es⟩ L Ds)(e:P.follows .mixedOrders=true:=by kernel_rfl)(c: ∀η,(l7 S,(fq (ax S) ⟨sz,es⟩ (tR S ⟨sz,es⟩ L L.length λ_=>hs) η 0 (ax S) (kz S ⟨sz,es⟩ L (λ_=>hs) η)).map a9.lhs,mB (e6 S) (ax S) (λk=>(jL (e6 S) (ax S)).getD k []),(Zv L.length).map (λp=>(tR S ⟨sz,es⟩ L L.length λ_=>hs).at η p (ax S).length),[(k,Value.bool false)].map (λx=>k4 (ax S) ⟨sz,es⟩ (tR S ⟨sz,es⟩ L L.length λ_=>hs) η x.1),mF (ax S) es [(k,Value.bool false)] [])=(true,(fq (ax S) ⟨sz,es⟩ (tR S ⟨sz,es⟩ L L.length λ_=>hs) η 0 (ax S) (kz S ⟨sz,es⟩ L (λ_=>hs) η)).map a9.rhs,true,L.map some,[(k,Value.bool false)].map (λx=>some x.2),true):=by intro _;kernel_rfl)(b:(kY ⟨sz,[(k,Value.bool false)]++eE [] es⟩ (bS S),kZ ⟨sz,[(k,Value.bool false)]++eE [] es⟩ (bS S))=(some false,true):=by kernel_rfl):Go F n P R base Q S ⟨sz,es⟩ L Ds:=r0 hs [(k,Value.bool false)] [] (cF false rfl d b) e c
theorem rT[hF:kv F](hs:List (Nat×cd P))(k:Nat)(d:Go F n P R base Q (m7 (bS S)) ⟨sz,[(k,Value.bool true)]++eE [] es⟩ L Ds)(e:P.follows .mixedOrders=true:=by kernel_rfl)(c: ∀η,(l7 S,(fq (ax S) ⟨sz,es⟩ (tR S ⟨sz,es⟩ L L.length λ_=>hs) η 0 (ax S) (kz S ⟨sz,es⟩ L (λ_=>hs) η)).map a9.lhs,mB (e6 S) (ax S) (λk=>(jL (e6 S) (ax S)).getD k []),(Zv L.length).map (λp=>(tR S ⟨sz,es⟩ L L.length λ_=>hs).at η p (ax S).length),[(k,Value.bool true)].map (λx=>k4 (ax S) ⟨sz,es⟩ (tR S ⟨sz,es⟩ L L.length λ_=>hs) η x.1),mF (ax S) es [(k,Value.bool true)] [])=(true,(fq (ax S) ⟨sz,es⟩ (tR S ⟨sz,es⟩ L L.length λ_=>hs) η 0 (ax S) (kz S ⟨sz,es⟩ L (λ_=>hs) η)).map a9.rhs,true,L.map some,[(k,Value.bool true)].map (λx=>some x.2),true):=by intro _;kernel_rfl)(b:(kY ⟨sz,[(k,Value.bool true)]++eE [] es⟩ (bS S),kZ ⟨sz,[(k,Value.bool true)]++eE [] es⟩ (bS S))=(some true,true):=by kernel_rfl):Go F n P R base Q S ⟨sz,es⟩ L Ds:=r0 hs [(k,Value.bool true)] [] (cT true rfl d b) e c
theorem ra[hF:kv F](b:bF→Fe)(A:bF→aj)(d: ∀η,Go F n P R base Q (bS S) ⟨sz,b η++eE [] es⟩ (L++A η) Ds)(e:P.follows .mixedOrders=true:=by kernel_rfl)(c: ∀η,(l7 S,(fq (ax S) ⟨sz,es⟩ (tR S ⟨sz,es⟩ L (mR (λη L=>L++A η) L) (λ_=>([]:List (Nat×cd P)))) η 0 (ax S) (kz S ⟨sz,es⟩ L (λ_=>([]:List (Nat×cd P))) η)).map a9.lhs,mB (e6 S) (ax S) (λk=>(jL (e6 S) (ax S)).getD k []),(Zv (mR (λη L=>L++A η) L)).map (λp=>(tR S ⟨sz,es⟩ L (mR (λη L=>L++A η) L) (λ_=>([]:List (Nat×cd P)))).at η p (ax S).length),(b η).map (λx=>k4 (ax S) ⟨sz,es⟩ (tR S ⟨sz,es⟩ L (mR (λη L=>L++A η) L) (λ_=>([]:List (Nat×cd P)))) η x.1),mF (ax S) es (b η) [])=(true,(fq (ax S) ⟨sz,es⟩ (tR S ⟨sz,es⟩ L (mR (λη L=>L++A η) L) (λ_=>([]:List (Nat×cd P)))) η 0 (ax S) (kz S ⟨sz,es⟩ L (λ_=>([]:List (Nat×cd P))) η)).map a9.rhs,true,(L++A η).map some,(b η).map (λx=>some x.2),true):=by intro _;kernel_rfl):Go F n P R base Q S ⟨sz,es⟩ L Ds:=rr (λ_=>[]) b [] (λη L=>L++A η) d e c
theorem rs[hF:kv F](hs:List (Nat×cd P))(k:Nat)(X:aB)(c:Go F n P R base Q (bS S) ⟨sz,[]++eE [] es⟩ (L.set k X) Ds)(d:P.follows .mixedOrders=true:=by kernel_rfl)(b: ∀η,(l7 S,(fq (ax S) ⟨sz,es⟩ (tR S ⟨sz,es⟩ L (mR (λ_ L=>L.set k X) L) (λ_=>hs)) η 0 (ax S) (kz S ⟨sz,es⟩ L (λ_=>hs) η)).map a9.lhs,mB (e6 S) (ax S) (λk=>(jL (e6 S) (ax S)).getD k []),(Zv (mR (λ_ L=>L.set k X) L)).map (λp=>(tR S ⟨sz,es⟩ L (mR (λ_ L=>L.set k X) L) (λ_=>hs)).at η p (ax S).length),([]:Fe).map (λx=>k4 (ax S) ⟨sz,es⟩ (tR S ⟨sz,es⟩ L (mR (λ_ L=>L.set k X) L) (λ_=>hs)) η x.1),mF (ax S) es ([]:Fe) [])=(true,(fq (ax S) ⟨sz,es⟩ (tR S ⟨sz,es⟩ L (mR (λ_ L=>L.set k X) L) (λ_=>hs)) η 0 (ax S) (kz S ⟨sz,es⟩ L (λ_=>hs) η)).map a9.rhs,true,(L.set k X).map some,([]:Fe).map (λx=>some x.2),true):=by intro _;kernel_rfl):Go F n P R base Q S ⟨sz,es⟩ L Ds:=rr (λ_=>hs) (λ_=>[]) [] (λ_ L=>L.set k X) (λ_=>c) d b
end
def n2:Nat→List Value→Fe
 | _,[]=>[]
 | k,v::r=>(k,v)::n2 (k+1) r
theorem sh: ∀{l:List Value} {k i:Nat} {v:Value},lk (n2 k l) i=some v→k≤i∧l[i-k]? =some v
 | [],_,_,_,h=>by cases h
 | u::r,k,i,v,h=>by
  unfold n2 lk at h
  split at h
  ·rename_i c;cases h;rw[ZB c,Z8];exact⟨ZD _,rfl⟩
  ·obtain⟨d,b⟩:=sh h;refine⟨by omega,?_⟩;rw[show i-k=(i-(k+1))+1 by omega,List.getElem?_cons_succ];exact b
def kC(fn:Func):Code:=fn.body.getD .skip
section
variable {P:Program} {f:FuncId} {fn:Func} {args:Array Value} {rd:aj} {O:List Nat} {wt:ab→aj} {v:ab→Value}
def fQ(P:Program)(fn:Func)(rd:aj)(O:List Nat)(wt:ab→aj)(v:ab→Value)(cs:List ay)(w:World):Exit→Act→World→Prop:=λe b W=>
 bt rd cs→ez cs.flatten w→bodyPostM Fence.wide 6 P fn (Cr O wt v cs w) e b W
theorem fE(hf:P.funcs[f]? =some fn)(h: ∀w cs,Go Fence.wide 6 P (bN cs.flatten) w (fQ P fn rd O wt v cs w) [.c (kC fn)] ⟨fn.ntmps,n2 0 args.toList⟩ rd [])(r:Enters P f:=by exact enters_of As Kr rfl)
  (k:(fn.body.isSome,aaH args.size fn.ntmps)=(true,true):=by kernel_rfl):aa P f args rd O wt v:=by
 refine⟨r,λw cs m l=>?_⟩;obtain⟨c,j⟩:=Option.isSome_iff_exists.1 (ALca (·.1) k);have u:args.size≤fn.ntmps:=Z9 (ALca (·.2) k);refine(callsIn_wide (n:=6)).1 ?_;refine callsIn_of_wp_marks hf j trivial ?_ rfl;have g:=(h w cs).out {tmps:=args++Array.replicate (fn.ntmps-args.size) undef,defers:=[]} w ⟨by simp;omega,λi v t=>?_,rfl⟩ (by simpa using aF.start m l)
 ·rw[show kC fn=c by unfold kC;rw[j];rfl] at g;exact wpIn_mono (show c.wpIn Fence.wide 6 P _ _ _ from g) λe b W s=>s m l
 ·obtain⟨_,d⟩:=sh t;rw[ZY] at d;have o:i<args.toList.length:=(List.getElem?_eq_some_iff.1 d).1;have q:args[i]? =some v:=by rw[←Array.getElem?_toList];exact d
  rw[Array.getD_eq_getD_getElem?,Array.getElem?_append_left (by simpa using o),q];rfl
theorem fG(hf:P.funcs[f]? =some fn)(h: ∀w cs,Go Fence.wide 6 P (bN cs.flatten) w (fQ P fn rd O wt v cs w) [.c (kC fn)] ⟨fn.ntmps,n2 0 args.toList⟩ rd [])(e:(fn.name== "runtime.NumGoroutine")=false:=by kernel_rfl)
  (b:(fn.body.isSome,aaH args.size fn.ntmps)=(true,true):=by kernel_rfl):aa P f args rd O wt v:=by
 obtain⟨c,d⟩:=Option.isSome_iff_exists.1 (congrArg (·.1) b);exact fE hf h (enters_of hf e d) b
theorem fN{fn:Func}(hf:P.funcs[f]? =some fn)(e:(fn.name== "runtime.NumGoroutine")=false:=by kernel_rfl)(b:fn.body.isSome=true:=by kernel_rfl):Enters P f:=by
 obtain⟨c,d⟩:=Option.isSome_iff_exists.1 b;exact enters_of hf e d
theorem fO{fn:Func}(hf:P.funcs[f]? =some fn)(i:Nat){Q:ay→Prop}(d:rd[i]? =some (.p Q))(h: ∀bs,Q bs→aa P f args (rd.set i (.c bs)) O wt v)(e:(fn.name== "runtime.NumGoroutine")=false:=by kernel_rfl)(b:fn.body.isSome=true:=by kernel_rfl):aa P f args rd O wt v:=aa.ro i d h (fN hf e b)
instance {F:Fence} {n:Nat} {R:List Nat} {base:World} {Q Q0:Exit→Act→World→Prop} {S0:List It} {a':Sl} {L':aj} {Ds:List Nat} [h:Rt Q Q0]:Rt (jQ F n P R base Q S0 a' L' Ds) Q0:=⟨λb W hq=>gZ (S:=S0) (h.out b W hq)⟩
def jR(P:Program)(L:aj)(e:Fe):List ResultVar→List Nat→List (RV P)
 | [],_=>[]
 | .tmp i::rs,b=> .t ((lk e i).getD undef)::jR P L e rs b
 | .cell _ T::rs,k::b=>(match L[k]? with
  | some (.c [(_,.cells cs _ _)])=>(match dH P T with
   | true=> .s (cs.toList.take (Cx P T)) k
   | false=> .c (cs.getD 0 undef) k)
  | _=> .t undef)::jR P L e rs b
 | .cell _ _::rs,[]=> .t undef::jR P L e rs []
def fT(P:Program)(L:aj)(e:Fe):List ResultVar→List (RV P)→List a9
 | [],[]=>[]
 | .tmp i::rs,.t v::vs=>sE (lk e i) (some v)::fT P L e rs vs
 | .cell p T::rs,.c v k::vs=>(match L[k]? with
  | some (.c [(g,.cells cs _ (0,0))])=>[sE (lk e p) (some (nQ g 0)),sE cs[0]? (some v),sE (λw=>(isAgg T).run P w) (λw=> .ok false w)]
  | _=>[sB false])++fT P L e rs vs
 | .cell p T::rs,.s l k::vs=>(match L[k]? with
  | some (.c [(g,.cells cs _ (0,0))])=>[sE (lk e p) (some (nQ g 0)),sE ((cs.toList.drop 0).take l.length) l,sB (dH P T),sE ((P.info? T).map (·.size)) (some l.length)]
  | _=>[sB false])++fT P L e rs vs
 | _,_=>[sB false]
theorem u2{a:Sl}{Ds:List Nat}{b:Act}(j:Fr a Ds b){L:aj}{M:aj}: ∀{rs:List ResultVar} {vs:List (RV P)},(∀x∈fT P L a.e rs vs,x.2.1=x.2.2)→∀x∈fM P (L) b.tmps rs vs,x.2.1=x.2.2
 | [],[],_=>λx o=>by simp [fM] at o
 | [],_::_,h=>(bG (by simpa [fT] using h)).elim
 | .tmp i::rs,[],h=>(bG (by simpa [fT] using h)).elim
 | .cell p T::rs,[],h=>(bG (by simpa [fT] using h)).elim
 | .tmp i::rs,.t v::vs,h=>by
  simp only[fT,Zq,forall_eq_or_imp,sE] at h;simp only[fM,Zq,forall_eq_or_imp,sE];exact⟨j.get i v h.1,u2 (M:=M) j h.2⟩
 | .tmp i::rs,.c v k::vs,h=>(bG (by simpa only[fT] using h)).elim
 | .tmp i::rs,.s l k::vs,h=>(bG (by simpa only[fT] using h)).elim
 | .cell p T::rs,.t v::vs,h=>(bG (by simpa only[fT] using h)).elim
 | .cell p T::rs,.c v k::vs,h=>by
  simp only[fT] at h;simp only[fM]
  split at h
  ·rename_i g cs q m;simp only[ZU,Zq,Zn,or_false,or_imp,forall_and,forall_eq,sE] at h;simp only[m,ZU,Zq,Zn,or_false,or_imp,forall_and,forall_eq,sE];exact⟨⟨j.get p _ h.1.1,h.1.2⟩,u2 (M:=M) j h.2⟩
  ·exact(bG λe d=>h e (aaz _ d)).elim
 | .cell p T::rs,.s l k::vs,h=>by
  simp only[fT] at h;simp only[fM]
  split at h
  ·rename_i g cs q m;simp only[ZU,Zq,Zn,or_false,or_imp,forall_and,forall_eq,sE,sB] at h;simp only[m,ZU,Zq,Zn,or_false,or_imp,forall_and,forall_eq,sE,sB];exact⟨⟨j.get p _ h.1.1,h.1.2⟩,u2 (M:=M) j h.2⟩
  ·exact(bG λe d=>h e (aaz _ d)).elim
section
variable {a:Sl} {sz:Nat} {es:Fe} {L:aj} {S:List It} {Ds:List Nat} {cs:List ay} {w:World} {Q:Exit→Act→World→Prop}
theorem CI{b:Act}{W:World}(j:Fr a Ds b)(e:aF (bN cs.flatten) w (L++Ds.map mk) W)(l:bt rd cs)(k:ez cs.flatten w)(vs:List (RV P))(E:ab)(g:List Nat)(c:List (Nat×Nat))(hv:nT vs=v E)
  (s:(fT P L a.e fn.results.toList vs).map a9.lhs=(fT P L a.e fn.results.toList vs).map a9.rhs)
  (hf:(dp (g++c.map (·.2)),g.map (λp=>L[p]?),c.map (λx=>L[x.2]?),c.all (λx=>n0 rd[x.1]?),(Zv rd.length).all λi=>O.contains i||c.any λx=>x.1==i)=(true,(wt E).map some,c.map (λx=>rd[x.1]?),true,true)):
  LeavesInM Fence.wide 6 P fn b.tmps (Cr O wt v cs w) b.defers .returning W:=by
 obtain⟨u,m,o⟩:=e.seg;rw[j.defers];have d:=u2 (M:=L) j (a9.all s);refine BS m o vs ?_ λy e=>?_
 ·exact aac λx t=>by
   obtain⟨T,z,A⟩:=x;have:=d _ t;simp only at this;unfold a9.lhs a9.rhs;rw[this]
 ·obtain⟨q,d,r⟩:=e.fin2 (R:=[]) l k O (wt E) g c hf;exact⟨E,q,by rw[hv],d,r⟩
def sj(S:List It):Bool:=match nf S with | .c .ret::_=>true | _=>false
theorem ao[hR:Rt Q (fQ P fn rd O wt v cs w)](u:Value)(E:ab)(q:u=v E)(g:List Nat)(c:List (Nat×Nat))(rs:List Nat)(hv:nT (jR P L es fn.results.toList rs)=u:=by kernel_rfl)
  (o:(fT P L es fn.results.toList (jR P L es fn.results.toList rs)).map a9.lhs=(fT P L es fn.results.toList (jR P L es fn.results.toList rs)).map a9.rhs:=by kernel_rfl)
  (hf:(dp (g++c.map (·.2)),g.map (λp=>L[p]?),c.map (λx=>L[x.2]?),c.all (λx=>n0 rd[x.1]?),(Zv rd.length).all λi=>O.contains i||c.any λx=>x.1==i)=(true,(wt E).map some,c.map (λx=>rd[x.1]?),true,true):=by kernel_rfl)
  (d:sj S=true:=by kernel_rfl):Go Fence.wide 6 P (bN cs.flatten) w Q S ⟨sz,es⟩ L Ds:=by
 refine⟨λb W m l=>dI 1000 S ?_⟩;unfold sj at d
 split at d
 ·rename_i r e;rw[show du 1000 S=_ from e];exact wpIn_ret (gZ (hR.out b W λk j=>CI m l k j _ E g c (hv.trans q) o hf))
 ·cases d
theorem lf[hR:Rt Q (fQ P fn rd O wt v cs w)](E:ab)(c:List Nat)(b:List (Nat×Nat))(rs:List Nat)(hv:nT (jR P L es fn.results.toList rs)=v E:=by kernel_rfl)
 (e:(fT P L es fn.results.toList (jR P L es fn.results.toList rs)).map a9.lhs=(fT P L es fn.results.toList (jR P L es fn.results.toList rs)).map a9.rhs:=by kernel_rfl)
 (hf:(dp (c++b.map (·.2)),c.map (λp=>L[p]?),b.map (λx=>L[x.2]?),b.all (λx=>n0 rd[x.1]?),(Zv rd.length).all λi=>O.contains i||b.any λx=>x.1==i)=(true,(wt E).map some,b.map (λx=>rd[x.1]?),true,true):=by kernel_rfl)
 (d:sj S=true:=by kernel_rfl):Go Fence.wide 6 P (bN cs.flatten) w Q S ⟨sz,es⟩ L Ds:=ao (v E) E rfl c b rs hv e hf d
theorem KL(u:Value)(E:ab)(o:u=v E)(d:List Nat)(c:List (Nat×Nat))(rs:List Nat)(hv:nT (jR P L es fn.results.toList rs)=u:=by kernel_rfl)
  (m:(fT P L es fn.results.toList (jR P L es fn.results.toList rs)).map a9.lhs=(fT P L es fn.results.toList (jR P L es fn.results.toList rs)).map a9.rhs:=by kernel_rfl)
  (hf:(dp (d++c.map (·.2)),d.map (λp=>L[p]?),c.map (λx=>L[x.2]?),c.all (λx=>n0 rd[x.1]?),(Zv rd.length).all λi=>O.contains i||c.any λx=>x.1==i)=(true,(wt E).map some,c.map (λx=>rd[x.1]?),true,true):=by kernel_rfl)
  (k:(nf S).isEmpty=true:=by kernel_rfl):Go Fence.wide 6 P (bN cs.flatten) w (fQ P fn rd O wt v cs w) S ⟨sz,es⟩ L Ds:=by
 refine⟨λb W l j=>dI 1000 S ?_⟩;rw[show du 1000 S=[] from List.isEmpty_iff.1 k];exact λg e=>CI l j g e _ E d c (hv.trans o) m hf
theorem eF(E:ab)(c:List Nat)(b:List (Nat×Nat))(rs:List Nat)(hv:nT (jR P L es fn.results.toList rs)=v E:=by kernel_rfl)
  (e:(fT P L es fn.results.toList (jR P L es fn.results.toList rs)).map a9.lhs=(fT P L es fn.results.toList (jR P L es fn.results.toList rs)).map a9.rhs:=by kernel_rfl)
  (hf:(dp (c++b.map (·.2)),c.map (λp=>L[p]?),b.map (λx=>L[x.2]?),b.all (λx=>n0 rd[x.1]?),(Zv rd.length).all λi=>O.contains i||b.any λx=>x.1==i)=(true,(wt E).map some,b.map (λx=>rd[x.1]?),true,true):=by kernel_rfl)
  (d:(nf S).isEmpty=true:=by kernel_rfl):Go Fence.wide 6 P (bN cs.flatten) w (fQ P fn rd O wt v cs w) S ⟨sz,es⟩ L Ds:=
 KL (v E) E rfl c b rs hv e hf d
end
end
end
section
open Go Go.RowKit Go.Shelf
structure Kd (P:Program) (α:Type) where
 en:α→List Value
 z:List Value
 TS:TypeId
 T:TypeId
 d:α
 k:Nat
 hk: ∀y,(en y).length=k
 hz:k=z.length
 h1: ∀y,(en y).all (·.oneCell')=true
 hT:ec P TS T z
theorem Kd.one{P:Program}{α:Type}(K:Kd P α): ∀y,∀u∈K.en y,u.oneCell'=true:=λy=>List.all_eq_true.1 (K.h1 y)
theorem Kd.lz{P:Program}{α:Type}(K:Kd P α): ∀y,(K.en y).length=K.z.length:=λy=>(K.hk y).trans K.hz
section
variable {P:Program} {α:Type}
abbrev sl(K:Kd P α)(v:Value)(xs:List α):aB:= .p (ar K.en K.z K.T v xs)
theorem Kd.cell(K:Kd P α){a:α}{f:Nat}(hf:f<K.k):(K.en a)[f]? =some ((K.en a).getD f undef):=by
 have h:f<(K.en a).length:=by rw[K.hk];exact hf
 rw[Zr,ZF h];rfl
theorem Kd.part(K:Kd P α){a:α}{f n:Nat}(hf:f+n≤K.k):(((K.en a).drop f).take n).length=n∧((K.en a).drop f).take (((K.en a).drop f).take n).length=((K.en a).drop f).take n:=by
 have h:(((K.en a).drop f).take n).length=n:=by rw[ZH,Z5,K.hk];omega
 exact⟨h,by rw[h]⟩
section
variable (K:Kd P α) (v:Value) (xs:List α) (p:Nat)
def fu:cd P:= .m (JY p (sl K v xs) λ_ h=>h)
def cO(i:Nat)(b:i<xs.length:=by omega):cd P:= .m (J0 p (sl K v xs) i K.k (λ_ h=>h) b)
def u3(off f:Nat)(b:0<xs.length:=by omega):cd P:= .m (J2 p (sl K v xs) off f (λ_ h=>h) b)
def e7(i f:Nat)(b:i<xs.length:=by omega)(hf:f<K.k:=by decide):cd P:= .m (J4 (d:=K.d) p (sl K v xs) i K.k f (λ_ h=>h) K.hk b hf (K.cell hf))
def qb(i f n:Nat)(b:i<xs.length:=by omega)(hf:f+n≤K.k:=by decide):cd P:= .m (J6 (d:=K.d) p (sl K v xs) i K.k f (λ_ h=>h) K.hk b (by rw[(K.part hf).1];exact hf) (K.part hf).2)
def KM(l:Nat)(b:l≤xs.length:=by omega):cd P:= .m (Kp p (sl K v xs) l K.k (λ_ h=>h) b)
def sk(i:Nat)(a:α)(b:i<xs.length:=by omega):cd P:= .m (Ka (T:=K.T) (v:=v) (xs:=xs) (en:=K.en) (z:=K.z) p i K.k a K.hk b)
def sn(i f:Nat)(a:α)(u:Value)(c:K.en a=(K.en (xs.getD i K.d)).set f u)(b:i<xs.length:=by omega)(hf:f<K.k:=by decide):cd P:= .m (J8 (T:=K.T) (v:=v) (xs:=xs) (en:=K.en) (z:=K.z) (d:=K.d) (a:=a) (u:=u) p i K.k f K.hk b hf c)
def fC(q:Nat)(ys:List α)(b:xs.length+ys.length≤1000000:=by simp only[List.length_append,List.length_cons,List.length_nil,List.length_replicate,List.length_take,List.length_drop,List.length_set];omega):cd P:= .m (Kk (xs:=xs) (ys:=ys) p q K.hT v K.one K.lz b)
end
section
variable {en:α→List Value} {v:Value} {xs:List α} {bs:ay} (h:dQ en v xs bs) (p:Nat)
def eP:cd P:= .m (Kv p (.c bs) (cP h))
def fv(i k:Nat)(b:i<xs.length:=by omega):cd P:= .m (Kx p (.c bs) i k (cP h) b)
end
section
variable (K:Kd P α) {v:Value} {xs:List α} {bs:ay} (h:dQ K.en v xs bs) (p:Nat)
def ji(i f:Nat)(b:i<xs.length:=by omega)(hf:f<K.k:=by decide):cd P:= .m (Kz (d:=K.d) p (.c bs) i K.k f (cP h) K.hk b hf (K.cell hf))
def nb(i f n:Nat)(b:i<xs.length:=by omega)(hf:f+n≤K.k:=by decide):cd P:= .m (KB (d:=K.d) p (.c bs) i K.k f (cP h) K.hk b (by rw[(K.part hf).1];exact hf) (K.part hf).2)
end
def ad(a b:Nat)(h:a+b<9223372036854775808:=by omega):cd P:= .t (tb (a:=i6 a) (b:=i6 b) λ_ _ _ _=>Jt h)
def aI(a b:Int)(h0: -9223372036854775808≤a+b:=by omega)(h1:a+b≤9223372036854775807:=by omega):cd P:= .t (tb (a:=i6 a) (b:=i6 b) λ_ _ _ _=>ry h0 h1)
def sI(a b:Int)(h0: -9223372036854775808≤a-b:=by omega)(h1:a-b≤9223372036854775807:=by omega):cd P:= .t (tb (a:=i6 a) (b:=i6 b) λ_ _ _ _=>rz h0 h1)
def ml(a b:Nat)(h:a*b<9223372036854775808:=by omega):cd P:= .t (tb (a:=i6 a) (b:=i6 b) λ_ _ _ _=>Js h)
end
section
variable {F:Fence} {n:Nat} {P:Program} {R:List Nat} {base:World} {Q:Exit→Act→World→Prop} {S:List It} {sz:Nat} {es:Fe} {L:aj} {Ds:List Nat}
theorem cz{α:Type}(K:Kd P α)(b:Go F n P R base Q S ⟨sz,es⟩ (L++[sl K (.slice none 0 0) []]) Ds):Go F n P R base Q S ⟨sz,es⟩ L Ds:=cn K.en K.z K.T b
end
end
section
open Go Go.RowKit Go.Shelf
def gP:List Nat→List Value→Fe
 | p::ps,v::vs=>gP ps vs++[(p,v)]
 | _,_=>[]
theorem sr(b:List Nat)(vs:List Value)(t:Array Value):ie t b.toArray vs.toArray=(b.zip vs).foldl (λt x=>t.setIfInBounds x.1 x.2) t:=by
 unfold ie;rw[List.zip_toArray,List.foldl_toArray]
theorem CJ(p:Nat)(b:List Nat)(v:Value)(vs:List Value)(t:Array Value):ie t (p::b).toArray (v::vs).toArray=ie (t.setIfInBounds p v) b.toArray vs.toArray:=by
 rw[sr,sr];rfl
theorem u4: ∀(b:List Nat) (vs:List Value) (t:Array Value) (i:Nat),b.length=vs.length→(∀p∈b,p<t.size)→
  (ie t b.toArray vs.toArray).getD i undef=match lk (gP b vs) i with | some v=>v | none=>t.getD i undef
 | [],[],t,i,_,_=>by rw[sr];rfl
 | p::b,v::vs,t,i,k,g=>by
  rw[CJ,u4 b vs _ i (by simpa using k) (λq m=>by rw[Array.size_setIfInBounds];exact g q (aax _ m))];show _=match lk (gP b vs++[(p,v)]) i with | some v=>v | none=>t.getD i undef
  rw[qa];cases lk (gP b vs) i with
  | some u=>rfl
  | none=>
   simp only;have f:=g p aaI;show _=match (match ZT p i with | true=>some v | false=>none) with | some v=>v | none=>t.getD i undef
   cases c:ZT p i with
   | true=>
    obtain rfl:=ZB c;simp [f]
   | false=>
    have d:p≠i:=λe=>by rw[e,Z7] at c;cases c
    simp [Array.getD_eq_getD_getElem?,d]
 | [],_::_,_,_,h,_=>by simp at h
 | _::_,[],_,_,h,_=>by simp at h
theorem u5: ∀(b:List Nat) (vs:List Value) (t:Array Value),(ie t b.toArray vs.toArray).size=t.size
 | [],_,t=>by rw[sr];rfl
 | p::b,[],t=>by rw[sr];rfl
 | p::b,v::vs,t=>by
  rw[CJ,u5,Array.size_setIfInBounds]
def gu(S:List It):Operand:=match nf S with | .c (.rangeFunc g _ _ _)::_=>g | _=> .const undef
def cr(S:List It):List Nat:=match nf S with | .c (.rangeFunc _ ps _ _)::_=>ps.toList | _=>[]
def jS(S:List It):Code:=match nf S with | .c (.rangeFunc _ _ x _)::_=>x | _=> .skip
def k6(S:List It):Code:=match nf S with | .c (.rangeFunc _ _ _ y)::_=>y | _=> .skip
def nc(S:List It):Bool:=match nf S with | .c (.rangeFunc _ _ _ _)::_=>true | _=>false
theorem yj{S:List It}(h:nc S=true):nf S= .c (.rangeFunc (gu S) (cr S).toArray (jS S) (k6 S))::bS S:=by
 unfold nc at h;unfold gu cr jS k6 bS
 split at h
 ·rename_i g d x y b e;rw[e]
 ·cases h
structure Xt where
 c:Code
 i:Nat
 L:aj
section
variable {F:Fence} {n:Nat} {P:Program} {R:List Nat} {base:World} {Q:Exit→Act→World→Prop} {S:List It} {a:Sl} {sz:Nat} {es:Fe} {L:aj} {Ds:List Nat}
def oW(F:Fence)(n:Nat)(P:Program)(R:List Nat)(base:World)(sz:Nat)(KO:ay)(Q:List Nat→World→Exit→Act→World→Prop)(c:Code):Exit→Act→World→Prop
 | .normal,b,W=>∃e,aF R base e W∧je KO e∧∀f d,aF f d e d→c.wpIn F n P (Q f d) b d
 | _,_,_=>False
theorem ag{KO:List ay}{e:List Nat→World→Exit→Act→World→Prop}{c:Code}(i:List Nat)(s: ∀d g,Go F n P d g (e d g) [.c c] ⟨sz,es⟩ L [])(r:i.map (λp=>L[p]?)=KO.map (λo=>some (.c o)):=by kernel_rfl)(m:(nf S).isEmpty=true:=by kernel_rfl):
  Go F n P R base (oW F n P R base sz KO.flatten e c) S ⟨sz,es⟩ L []:=by
 refine⟨λb W q k=>dI 1000 S ?_⟩;rw[show du 1000 S=[] from List.isEmpty_iff.1 m];exact⟨L,by simpa using k,p9 i r,λd f h=>(s d f).out b f q (by simpa using h)⟩
theorem aF.left{M:aj}{W:World}(h:aF R base (L++M) W):aF R base L W:=by
 obtain⟨e,d,b⟩:=h.conc;obtain⟨f,es,rfl,c,g⟩:=nV d;rw[List.flatten_append] at b;exact aF.ofS c (b.sub (List.sublist_append_left _ _))
theorem ne{Rel:aj→Prop}{d:Code→aj→Prop}(L':aj)(i:Rel L')(c:List Nat)(e:(dp (c.map λp=>[p]).flatten,(c.map λp=>[p]).map λg=>g.map λp=>L[p]?)=(true,(L'.map λx=>[x]).map λN=>N.map some))(h:(nf S).isEmpty=true:=by kernel_rfl):Go F n P R base (lW R base Rel d) S ⟨sz,es⟩ L Ds:=by
 refine⟨λb W k f=>dI 1000 S ?_⟩;rw[show du 1000 S=[] from List.isEmpty_iff.1 h];exact⟨L',f.left.pick c L' e,i⟩
theorem nr{Rel:aj→Prop}{f:Code→aj→Prop}(L':aj)(k:f .ret L')(d:List Nat)(h:(dp (d.map λp=>[p]).flatten,(d.map λp=>[p]).map λg=>g.map λp=>L[p]?)=(true,(L'.map λx=>[x]).map λN=>N.map some))(c:sj S=true:=by kernel_rfl):Go F n P R base (lW R base Rel f) S ⟨sz,es⟩ L Ds:=by
 refine⟨λb W o i=>dI 1000 S ?_⟩;unfold sj at c
 split at c
 ·rename_i m e;rw[show du 1000 S=_ from e];exact wpIn_ret (gZ ⟨L',i.left.pick d L' h,k⟩)
 ·cases c
def CK(S:List It):Option Nat:=match nf S with
 | .x b::S'=>(match mE b S' with | none=>some b | some _=>none)
 | _=>none
theorem nx{Rel:aj→Prop}{f:Code→aj→Prop}(id:Nat)(L':aj)(m:f (.exit id) L')(d:List Nat)(h:(dp (d.map λp=>[p]).flatten,(d.map λp=>[p]).map λg=>g.map λp=>L[p]?)=(true,(L'.map λx=>[x]).map λN=>N.map some))(c:CK S=some id:=by kernel_rfl):Go F n P R base (lW R base Rel f) S ⟨sz,es⟩ L Ds:=by
 refine⟨λb W q i=>dI 1000 S ?_⟩;unfold CK at c
 split at c
 ·rename_i j o e;rw[show du 1000 S=_ from e]
  split at c
  ·rename_i k;cases c;exact sf k ⟨L',i.left.pick d L' h,m⟩
  ·cases c
 ·cases c
theorem rf{α:Type}{gf:Nat}{lb:Array Value}{encs:α→Array Value}{xs:List α}{KO:List ay}(hit:ft 5 P gf lb encs xs KO.flatten)(eg:Enters P gf)(Rel:Nat→aj→Prop)(I:Code→Nat→aj→Prop)(s:List Nat)(h0:Rel 0 L)
  (T: ∀i L',Rel i L'→je KO.flatten L') (U: ∀c i L',I c i L'→je KO.flatten L') (B: ∀x,(encs x).size=(cr S).length)
  (f: ∀(l i:Nat) (x:α) (L':aj) (H:List Nat) (w:World),xs[i]? =some x→Rel i L'→Go (Fence.wide.inRound l) 4 P H w (oW (Fence.wide.inRound l) 4 P H w sz KO.flatten (λM z=>lW M z (Rel (i+1)) λc=>I c (i+1)) (k6 S)) [.c (jS S)] ⟨sz,gP (cr S) (encs x).toList++es⟩ L' [])
  (q: ∀(D:Nat) (L':aj),Rel xs.length L'→Go Fence.wide 6 P R base Q (bS S) ⟨sz,es⟩ L' (D::Ds))
  (r: ∀(D:Nat) (c:Code) (i:Nat) (L':aj),i<xs.length→I c (i+1) L'→Go Fence.wide 6 P R base Q (.c c::bS S) ⟨sz,es⟩ L' (D::Ds))
  (K:(nc S,(⟨sz,es⟩:Sl).ev (gu S),(cr S).all (Z4 · sz),dp (s.map λp=>[p]).flatten,(s.map λp=>[p]).map λg=>g.map λp=>L[p]?)=(true,.func (.func gf) #[] lb,true,true,((KO.map aB.c).map λx=>[x]).map λN=>N.map some):=by kernel_rfl)
  (A:(match gu S with | .tmp i=>(lk es i).isSome | _=>true)=true:=by kernel_rfl):Go Fence.wide 6 P R base Q S ⟨sz,es⟩ L Ds:=by
 have c1:=ALca (λx=>x.1) K;have c2:=ALca (λx=>x.2.1) K;have c3:=ALca (λx=>x.2.2.1) K;have c4:=ALca (λx=>x.2.2.2) K;simp only at c1 c2 c3 c4;refine⟨λb W d hO=>dI 1000 S ?_⟩;rw[show du 1000 S=_ from yj c1];show(Code.rangeFunc (gu S) (cr S).toArray (jS S) (k6 S)).wpIn Fence.wide 6 P (dc Fence.wide 6 P Q (bS S)) b W;obtain⟨H,OC,OW⟩:=hO.seg;have hg:b.eval (gu S)= .func (.func gf) #[] lb:=by
  rw[d.ev λi Y=>by rw[Y] at A;exact A];exact c2
 have hnd:KO.flatten.Pairwise λx y=>x.1≠y.1:=by
  exact aF.ndC (Os:=KO) (R:=H) (base:=W) (W:=W) (OW.out.pick s _ c4)
 refine Jg (n:=6) Om hg eg hit Rel I OW h0 T U hnd (λx=>by rw[B x];simp) ?_ ?_ ?_
 ·intro l i x L' M w hx C V;have h:=f l i x L' M w hx C;have hsz:(encs x).toList.length=(cr S).length:=by rw[Array.length_toList];exact B x
  have Z: ∀p∈cr S,p<b.tmps.size:=λp hp=>by rw[d.size];exact Z3▸List.all_eq_true.1 c3 p hp
  have X:Fr ⟨sz,gP (cr S) (encs x).toList++es⟩ [] {tmps:=ie b.tmps (cr S).toArray (encs x),defers:=[]}:=by
   have ee:encs x=(encs x).toList.toArray:=by simp
   refine⟨?_,λi v G=>?_,rfl⟩
   ·show(ie b.tmps (cr S).toArray (encs x)).size=sz;rw[ee,u5];exact d.size
   ·show(ie b.tmps (cr S).toArray (encs x)).getD i undef=v;rw[ee,u4 _ _ _ i hsz.symm Z];simp only[qa] at G;cases h1:lk (gP (cr S) (encs x).toList) i with
    | some u=>rw[h1] at G;cases G;rfl
    | none=>rw[h1] at G;exact d.get i v G
  refine wpIn_mono (show(jS S).wpIn (Fence.wide.inRound l) 4 P _ _ w from h.out _ w X (by simpa using V.out)) λe a' Wa hq=>?_;cases e with
  | normal=>
   obtain⟨La,q1,q2,q3⟩:=hq;exact⟨La,q1,q2,λO W3 h3=>q3 O W3 h3.out⟩
  | _=>exact hq
 ·intro D L' z C o;obtain⟨O,k,m⟩:=jM.markE OC.out o.out;exact(q D L' C).out _ z ⟨d.size,d.get,by show j5 D::b.defers=_;rw[d.defers];rfl⟩ (k.out.whole m.out)
 ·intro D c i L' z Y C o;obtain⟨O,k,m⟩:=jM.markE OC.out o.out;exact(r D c i L' Y C).out _ z ⟨d.size,d.get,by show j5 D::b.defers=_;rw[d.defers];rfl⟩ (k.out.whole m.out)
theorem KN{α:Type}{gf:Nat}{lb:Array Value}{encs:α→Array Value}{xs:List α}{KO:List ay}{XO:ay}(hit:pY 5 P gf lb encs xs KO.flatten XO)(eg:Enters P gf)(Rel:Nat→aj→Prop)(I:Code→Nat→aj→Prop)(LG:aj)(qs s:List Nat)(M:(dp (qs.map λp=>[p]).flatten,(qs.map λp=>[p]).map λg=>g.map λp=>L[p]?)=(true,((LG++[aB.c XO]).map λx=>[x]).map λN=>N.map some))(h0:Rel 0 LG)
  (U: ∀i L',Rel i L'→je KO.flatten L') (V: ∀c i L',I c i L'→je KO.flatten L') (B: ∀x,(encs x).size=(cr S).length)
  (f: ∀(l i:Nat) (x:α) (L':aj) (H:List Nat) (w:World),xs[i]? =some x→Rel i L'→Go (Fence.wide.inRound l) 4 P H w (oW (Fence.wide.inRound l) 4 P H w sz KO.flatten (λO z=>lW O z (Rel (i+1)) λc=>I c (i+1)) (k6 S)) [.c (jS S)] ⟨sz,gP (cr S) (encs x).toList++es⟩ L' [])
  (q: ∀(D:Nat) (L':aj),Rel xs.length L'→Go Fence.wide 6 P R base Q (bS S) ⟨sz,es⟩ L' (D::Ds))
  (r: ∀(D:Nat) (c:Code) (i:Nat) (L':aj),i<xs.length→I c (i+1) L'→Go Fence.wide 6 P R base Q (.c c::bS S) ⟨sz,es⟩ L' (D::Ds))
  (K:(nc S,(⟨sz,es⟩:Sl).ev (gu S),(cr S).all (Z4 · sz),dp (s.map λp=>[p]).flatten,(s.map λp=>[p]).map λg=>g.map λp=>L[p]?)=(true,.func (.func gf) #[] lb,true,true,(((KO++[XO]).map aB.c).map λx=>[x]).map λN=>N.map some):=by kernel_rfl)
  (A:(match gu S with | .tmp i=>(lk es i).isSome | _=>true)=true:=by kernel_rfl):Go Fence.wide 6 P R base Q S ⟨sz,es⟩ L Ds:=by
 have c1:=ALca (λx=>x.1) K;have c2:=ALca (λx=>x.2.1) K;have c3:=ALca (λx=>x.2.2.1) K;have c4:=ALca (λx=>x.2.2.2) K;simp only at c1 c2 c3 c4;refine⟨λb W d hO=>dI 1000 S ?_⟩;rw[show du 1000 S=_ from yj c1];show(Code.rangeFunc (gu S) (cr S).toArray (jS S) (k6 S)).wpIn Fence.wide 6 P (dc Fence.wide 6 P Q (bS S)) b W;obtain⟨H,OC,OW⟩:=hO.seg;have hg:b.eval (gu S)= .func (.func gf) #[] lb:=by
  rw[d.ev λi Z=>by rw[Z] at A;exact A];exact c2
 have hnd:(KO.flatten++XO).Pairwise λx y=>x.1≠y.1:=by
  have h9:=aF.ndC (Os:=KO++[XO]) (R:=H) (base:=W) (W:=W) (OW.out.pick s _ c4);simpa using h9
 refine BW (n:=6) Om hg eg hit Rel I (Lib.hid (OW.out.pick qs _ M)) h0 U V hnd (λx=>by rw[B x];simp) ?_ ?_ ?_
 ·intro l i x L' O w hx C X;have h:=f l i x L' O w hx C;have hsz:(encs x).toList.length=(cr S).length:=by rw[Array.length_toList];exact B x
  have hlt: ∀p∈cr S,p<b.tmps.size:=λp hp=>by rw[d.size];exact Z3▸List.all_eq_true.1 c3 p hp
  have Y:Fr ⟨sz,gP (cr S) (encs x).toList++es⟩ [] {tmps:=ie b.tmps (cr S).toArray (encs x),defers:=[]}:=by
   have ee:encs x=(encs x).toList.toArray:=by simp
   refine⟨?_,λi v G=>?_,rfl⟩
   ·show(ie b.tmps (cr S).toArray (encs x)).size=sz;rw[ee,u5];exact d.size
   ·show(ie b.tmps (cr S).toArray (encs x)).getD i undef=v;rw[ee,u4 _ _ _ i hsz.symm hlt];simp only[qa] at G;cases h1:lk (gP (cr S) (encs x).toList) i with
    | some u=>rw[h1] at G;cases G;rfl
    | none=>rw[h1] at G;exact d.get i v G
  refine wpIn_mono (show(jS S).wpIn (Fence.wide.inRound l) 4 P _ _ w from h.out _ w Y (by simpa using X.out)) λe a' Wa M=>?_;cases e with
  | normal=>
   obtain⟨La,q1,q2,q3⟩:=M;exact⟨La,q1,q2,λT W3 h3=>q3 T W3 h3.out⟩
  | _=>exact M
 ·intro D L' z C o;obtain⟨T,k,m⟩:=jM.markE OC.out o.out;exact(q D L' C).out _ z ⟨d.size,d.get,by show j5 D::b.defers=_;rw[d.defers];rfl⟩ (k.out.whole m.out)
 ·intro D c i L' z Z C o;obtain⟨T,k,m⟩:=jM.markE OC.out o.out;exact(r D c i L' Z C).out _ z ⟨d.size,d.get,by show j5 D::b.defers=_;rw[d.defers];rfl⟩ (k.out.whole m.out)
theorem oX{α:Type}{gf:Nat}{lb:Array Value}{encs:α→Array Value}{xs:List α}{KO:List ay}(hit:ft 5 P gf lb encs xs KO.flatten)(w:Enters P gf)(I:Nat→Prop)(f:Nat→aj→aj)(b:List Nat)(h0:I 0)(z:L=f 0 L)
  (d: ∀(l i:Nat) (x:α) (k:List Nat) (m:World),xs[i]? =some x→I i→Go (Fence.wide.inRound l) 4 P k m (oW (Fence.wide.inRound l) 4 P k m sz KO.flatten (λu v=>lW u v (λL'=>I (i+1)∧L'=f (i+1) L) λ_ _=>False) (k6 S)) [.c (jS S)] ⟨sz,gP (cr S) (encs x).toList++es⟩ (f i L) [])
  (e: ∀(D:Nat),I xs.length→Go Fence.wide 6 P R base Q (bS S) ⟨sz,es⟩ (f xs.length L) (D::Ds))
  (y: ∀i,b.map (λp=>(f i L)[p]?)=KO.map λo=>some (.c o):=by intros;kernel_rfl) (s: ∀x,(encs x).size=(cr S).length:=by intro _;kernel_rfl)
  (A:(nc S,(⟨sz,es⟩:Sl).ev (gu S),(cr S).all (Z4 · sz),dp (b.map λp=>[p]).flatten,(b.map λp=>[p]).map λg=>g.map λp=>L[p]?)=(true,.func (.func gf) #[] lb,true,true,((KO.map aB.c).map λx=>[x]).map λN=>N.map some):=by kernel_rfl)
  (r:(match gu S with | .tmp i=>(lk es i).isSome | _=>true)=true:=by kernel_rfl):Go Fence.wide 6 P R base Q S ⟨sz,es⟩ L Ds:=by
 refine rf hit w (λi L'=>I i∧L'=f i L) (λ_ _ _=>False) b ⟨h0,z⟩ (λi L' h=>?_) (λ_ _ _ h=>h.elim) s (λl i x L' k m B h=>?_) (λD L' h=>?_) (λ_ _ _ _ _ h=>h.elim) A r
 ·obtain⟨q,rfl⟩:=h;exact p9 b (y i)
 ·obtain⟨q,rfl⟩:=h;exact d l i x k m B q
 ·obtain⟨q,rfl⟩:=h;exact e D q
theorem CM{α:Type}{gf:Nat}{lb:Array Value}{encs:α→Array Value}{xs:List α}{KO:List ay}{XO:ay}(hit:pY 5 P gf lb encs xs KO.flatten XO)(z:Enters P gf)(I:Nat→Prop)(f:Nat→aj→aj)(b:aj)(qs v k:List Nat)(h0:I 0)(B:b=f 0 b)
  (d: ∀(l i:Nat) (x:α) (m:List Nat) (q:World),xs[i]? =some x→I i→Go (Fence.wide.inRound l) 4 P m q (oW (Fence.wide.inRound l) 4 P m q sz KO.flatten (λw y=>lW w y (λL'=>I (i+1)∧L'=f (i+1) b) λ_ _=>False) (k6 S)) [.c (jS S)] ⟨sz,gP (cr S) (encs x).toList++es⟩ (f i b) [])
  (e: ∀(D:Nat),I xs.length→Go Fence.wide 6 P R base Q (bS S) ⟨sz,es⟩ (f xs.length b) (D::Ds))
  (A: ∀i,k.map (λp=>(f i b)[p]?)=KO.map λo=>some (.c o):=by intros;kernel_rfl) (u: ∀x,(encs x).size=(cr S).length:=by intro _;kernel_rfl)
  (C:(nc S,(⟨sz,es⟩:Sl).ev (gu S),(cr S).all (Z4 · sz),dp (v.map λp=>[p]).flatten,(v.map λp=>[p]).map λg=>g.map λp=>L[p]?)=(true,.func (.func gf) #[] lb,true,true,(((KO++[XO]).map aB.c).map λx=>[x]).map λN=>N.map some):=by kernel_rfl)
  (G:(dp (qs.map λp=>[p]).flatten,(qs.map λp=>[p]).map λg=>g.map λp=>L[p]?)=(true,((b++[aB.c XO]).map λx=>[x]).map λN=>N.map some):=by kernel_rfl)
  (s:(match gu S with | .tmp i=>(lk es i).isSome | _=>true)=true:=by kernel_rfl):Go Fence.wide 6 P R base Q S ⟨sz,es⟩ L Ds:=by
 refine KN hit z (λi L'=>I i∧L'=f i b) (λ_ _ _=>False) b qs v G ⟨h0,B⟩ (λi L' h=>?_) (λ_ _ _ h=>h.elim) u (λl i x L' m q H h=>?_) (λD L' h=>?_) (λ_ _ _ _ _ h=>h.elim) C s
 ·obtain⟨r,rfl⟩:=h;exact p9 k (A i)
 ·obtain⟨r,rfl⟩:=h;exact d l i x m q H r
 ·obtain⟨r,rfl⟩:=h;exact e D r
theorem KP{α:Type}{gf:Nat}{lb:Array Value}{encs:α→Array Value}{xs:List α}{KO:List ay}(hit:ft 5 P gf lb encs xs KO.flatten)(z:Enters P gf)(I:Nat→Value→Prop)(f:Nat→Value→aj→aj)(b:List Nat)(v:Value)(h0:I 0 v)(B:L=f 0 v L)
  (d: ∀(l i:Nat) (u:Value) (x:α) (k:List Nat) (m:World),xs[i]? =some x→I i u→Go (Fence.wide.inRound l) 4 P k m (oW (Fence.wide.inRound l) 4 P k m sz KO.flatten (λw y=>lW w y (λL'=>∃u:Value,I (i+1) u∧L'=f (i+1) u L) λ_ _=>False) (k6 S)) [.c (jS S)] ⟨sz,gP (cr S) (encs x).toList++es⟩ (f i u L) [])
  (e: ∀(D:Nat) (u:Value),I xs.length u→Go Fence.wide 6 P R base Q (bS S) ⟨sz,es⟩ (f xs.length u L) (D::Ds))
  (A: ∀i (u:Value),b.map (λp=>(f i u L)[p]?)=KO.map λo=>some (.c o):=by intros;kernel_rfl) (s: ∀x,(encs x).size=(cr S).length:=by intro _;kernel_rfl)
  (C:(nc S,(⟨sz,es⟩:Sl).ev (gu S),(cr S).all (Z4 · sz),dp (b.map λp=>[p]).flatten,(b.map λp=>[p]).map λg=>g.map λp=>L[p]?)=(true,.func (.func gf) #[] lb,true,true,((KO.map aB.c).map λx=>[x]).map λN=>N.map some):=by kernel_rfl)
  (r:(match gu S with | .tmp i=>(lk es i).isSome | _=>true)=true:=by kernel_rfl):Go Fence.wide 6 P R base Q S ⟨sz,es⟩ L Ds:=by
 refine rf hit z (λi L'=>∃u:Value,I i u∧L'=f i u L) (λ_ _ _=>False) b ⟨v,h0,B⟩ (λi L' h=>?_) (λ_ _ _ h=>h.elim) s (λl i x L' k m G h=>?_) (λD L' h=>?_) (λ_ _ _ _ _ h=>h.elim) C r
 ·obtain⟨u,q,rfl⟩:=h;exact p9 b (A i u)
 ·obtain⟨u,q,rfl⟩:=h;exact d l i u x k m G q
 ·obtain⟨u,q,rfl⟩:=h;exact e D u q
theorem yl{α:Type}{gf:Nat}{lb:Array Value}{encs:α→Array Value}{xs:List α}{KO:List ay}(hit:ft 5 P gf lb encs xs KO.flatten)(A:Enters P gf)(I:Nat→Prop)(m:Nat→aj→aj)(X:Code→Nat→Prop)(q:Code→Nat→aj→aj)(b:List Nat)(h0:I 0)(C:L=m 0 L)
  (d: ∀(l i:Nat) (x:α) (r:List Nat) (s:World),xs[i]? =some x→I i→Go (Fence.wide.inRound l) 4 P r s (oW (Fence.wide.inRound l) 4 P r s sz KO.flatten (λy z=>lW y z (λL'=>I (i+1)∧L'=m (i+1) L) (λc L'=>X c (i+1)∧L'=q c (i+1) L)) (k6 S)) [.c (jS S)] ⟨sz,gP (cr S) (encs x).toList++es⟩ (m i L) [])
  (f: ∀(D:Nat),I xs.length→Go Fence.wide 6 P R base Q (bS S) ⟨sz,es⟩ (m xs.length L) (D::Ds))
  (k: ∀(D:Nat) (c:Code) (i:Nat),i<xs.length→X c (i+1)→Go Fence.wide 6 P R base Q (.c c::bS S) ⟨sz,es⟩ (q c (i+1) L) (D::Ds))
  (B: ∀i,b.map (λp=>(m i L)[p]?)=KO.map λo=>some (.c o):=by intros;kernel_rfl) (u: ∀c i,X c i→b.map (λp=>(q c i L)[p]?)=KO.map λo=>some (.c o):=by intros;kernel_rfl) (w: ∀x,(encs x).size=(cr S).length:=by intro _;kernel_rfl)
  (G:(nc S,(⟨sz,es⟩:Sl).ev (gu S),(cr S).all (Z4 · sz),dp (b.map λp=>[p]).flatten,(b.map λp=>[p]).map λg=>g.map λp=>L[p]?)=(true,.func (.func gf) #[] lb,true,true,((KO.map aB.c).map λx=>[x]).map λN=>N.map some):=by kernel_rfl)
  (v:(match gu S with | .tmp i=>(lk es i).isSome | _=>true)=true:=by kernel_rfl):Go Fence.wide 6 P R base Q S ⟨sz,es⟩ L Ds:=by
 refine rf hit A (λi L'=>I i∧L'=m i L) (λc i L'=>X c i∧L'=q c i L) b ⟨h0,C⟩ (λi L' h=>?_) (λc i L' h=>?_) w (λl i x L' r s K h=>?_) (λD L' h=>?_) (λD c i L' H h=>?_) G v
 ·obtain⟨e,rfl⟩:=h;exact p9 b (B i)
 ·obtain⟨e,rfl⟩:=h;exact p9 b (u c i e)
 ·obtain⟨e,rfl⟩:=h;exact d l i x r s K e
 ·obtain⟨e,rfl⟩:=h;exact f D e
 ·obtain⟨e,rfl⟩:=h;exact k D c i H e
end
end
section
open Go Go.RowKit Go.Shelf
def ym(k:Nat)(L:List Oper):Bool:=L.all λo=>match o.guard with | none=>true | some (j,_)=>Z4 j k
section
variable {F:Fence} {n:Nat} {P:Program} {L:List Oper} {Q:Exit→Act→World→Prop} {a:Act} {t:dP} {R:List Nat} {base:World}
theorem CN{LL:List Oper}{k:Nat}{o:Oper}{c:Array Value}(h:match o.guard with | none=>true=true | some (j,_)=>Z4 j k=true):Region.wanted o (yielded LL.toArray c)=Region.wanted o (yielded (LL.take k).toArray c):=by
 unfold Region.wanted;cases e:o.guard with
 | none=>rfl
 | some f=>
  obtain⟨j,b⟩:=f;rw[e] at h;have d:j<k:=Z3▸h;have:yielded LL.toArray c j=yielded (LL.take k).toArray c j:=by
   unfold yielded;rw[ZI,ZI,List.getElem?_take,ALifp d]
  simp only[this]
theorem CO{LL:List Oper}{N:Nat}(B:LL.take N=L)(m:ym N L=true)(h:jI F n P L Q a t)(A:Fence.free F)(r:mx L=true)(s: ∀k,k<L.length→∀j∈t.D k,j<k)
  (g: ∀xs w',gC L a t R base (λ_=>true) xs w'→wpListIn F n P LL.toArray Q (LL.drop N) (br xs L 0 a) w'):
  ∀(d k:Nat) (xs:Nat→Value) (w':World),k+d=L.length→gC L a t R base (λi=>decide (i<k)) xs w'→wpListIn F n P LL.toArray Q (L.drop k++LL.drop N) (br xs L 0 a) w'
 | 0,k,xs,w',D,u=>by
  obtain rfl:k=L.length:=by omega
  rw[List.drop_length,aam];exact g xs w' (u.congr (λi x=>by simpa using x) (λ_ _=>rfl))
 | d+1,k,xs,w',D,u=>by
  have b:k<L.length:=by omega
  rw[aaq b,List.cons_append];have q:L[k]? =some L[k]:=ZF b;have c:=uj h (S:=λi=>decide (i<k)) (xs:=xs) (w':=w') (k:=k) (o:=L[k]) b q (by simp) (λj p=>⟨by have:=s k b j p;omega,by simpa using s k b j p⟩)
   (λi x G j p=>by
    have H:=s i x j p;have I:i<k:=by simpa using G
    exact⟨by omega,by simp;omega⟩) u
   (λv f=>wpListIn F n P LL.toArray Q (L.drop (k+1)++LL.drop N) ((br xs L 0 a).put L[k].dst v) f) (λv f w=>by
    rw[rq v _ 0 a k _ r q,ZG];refine CO B m h A r s g d (k+1) _ f Om (w.congr (λj p=>?_) (λ_ _=>rfl));show(if j=k then true else decide (j<k))=decide (j<k+1);by_cases e:j=k
    ·subst e;simp
    ·rw[ALifn e,decide_eq_decide];omega) A
  have z:Region.wanted L[k] (yielded LL.toArray (br xs L 0 a).tmps)=Region.wanted L[k] (yielded L.toArray (br xs L 0 a).tmps):=by
   rw[CN (k:=N),B];have:=List.all_eq_true.1 m L[k] (aaP b);revert this;cases L[k].guard with
   | none=>exact λh=>h
   | some K=>exact λh=>h
  unfold wpListIn;rw[z]
  split
  ·rename_i y;rw[ALifp y] at c;exact Oper.wpIn_mono (λC f ⟨v,e,h⟩=>by rw[e];exact h) c
  ·rename_i y;rw[ALifn y] at c;exact c
theorem CP{LL:List Oper}{N:Nat}(T:LL.take N=L)(G:ym N L=true)(U:N<LL.length)(hs:Region.sinkB .any LL.toArray N=true)(h:jI F n P L Q a t)(hF:Fence.free F)(hc:Region.chainB .any LL.toArray N=true)(hb:mX .any LL.toArray N=true)(V:mX .any LL.toArray 0=true)(hsl:mx L=true)(hD:uf .any LL.toArray N t.D=true)
  (C: ∀xs w',gC L a t R base (λ_=>true) xs w'→wpListIn F n P LL.toArray Q (LL.drop N) (br xs L 0 a) w'):
  ∀(c g:Nat) (b:Array Bool) (xs:Nat→Value) (w':World),gV b N=c→c+(LL.length-N)≤g→HeadInv .any LL.toArray N b→
   (∀i,i<N→b.getD i false=true→∀j∈t.D i,b.getD j false=true)→gC L a t R base (λi=>b.getD i false) xs w'→wpAnyIn F n P .any LL.toArray Q g b (br xs L 0 a) w'
 | 0,g,b,xs,w',w,hf,p,hk,hI=>by
  have hN:L.length=N:=by rw[←T,ZH];omega
  have m:=xv N w;have u: ∀i,i<N→b.getD i false=true:=by
   intro i x;have q:i<b.size:=by rw[p.size,Zw];omega
   have:=m i x;simp [q] at this⊢;exact this
  exact xp hc hb (LL.length-N) N g b _ w' (by rw[Zw];omega) (ZD _) Om p.size m u p.tail (by simpa using C xs w' (hI.congr (λi x=>u i Om) (λ_ _=>rfl)))
 | c+1,g,b,xs,w',w,hf,p,hk,hI=>by
  have hN:L.length=N:=by rw[←T,ZH];omega
  obtain⟨f,rfl⟩: ∃f,g=f+1:=⟨g-1,by omega⟩;have hun: ∃i,i<N∧b.getD i true=false:=by
   apply aak;intro hno;have m: ∀i,i<N→b.getD i true=true:=λi x=>by
    cases I:b.getD i true with
    | true=>rfl
    | false=>exact(hno ⟨i,x,I⟩).elim
   have: ∀k,k≤N→gV b k=0:=by
    intro k
    induction k with
    | zero=>intro _;rfl
    | succ k ih=>intro h;unfold gV;rw[ih Om,m k Om];rfl
   rw[this N (ZD _)] at w;omega
  obtain⟨i0,W,hu0⟩:=hun;have some:Region.ready .any LL.toArray b=[]→∀d i,i=d→i<N→b.getD i true=true:=by
   intro y d
   induction d using aaX with
   | _ d ih=>
    rintro i rfl x;cases I:b.getD i true with
    | true=>rfl
    | false=>
     exfalso;have D:i<LL.toArray.size:=by rw[Zw];omega
     have Z:LL.toArray[i]? =some LL.toArray[i]:=Array.getElem?_eq_getElem D;have hB:=List.all_eq_true.1 V i (List.mem_range.2 D);rw[Z] at hB;simp only[aan,decide_eq_true_eq,ZE,aai,aaY,false_or] at hB;have:i∈Region.ready .any LL.toArray b:=mem_ready.2 ⟨I,_,Z,λe he hbd=>by
      have q:=Array.all_eq_true'.1 hB e he;rw[hbd] at q;have h3:e.on<i:=by simpa using q
      have M:=ih e.on h3 e.on rfl Om;have h5:e.on<b.size:=by rw[p.size,Zw];omega
      rw[Array.getD_eq_getD_getElem?,Array.getElem?_eq_getElem h5] at M⊢;exact M⟩
     rw[y] at this;cases this
  refine⟨λy=>(by have:=some y i0 i0 rfl W;rw[hu0] at this;cases this),λi x=>?_⟩;have z:i<N:=by
   rcases ZJ i N with s | s
   ·exact s
   ·exact(tail_waits hs hc (by rw[Zw];exact U) p _ i0 rfl W hu0 i s x).elim
  obtain⟨I,o,ho,m⟩:=mem_ready.1 x;have K:L[i]? =Option.some o:=by rw[←T,aar z,←ZI];exact ho
  have H: ∀j∈t.D i,j<N∧b.getD j false=true:=by
   intro j r;have s:=List.all_eq_true.1 (List.all_eq_true.1 hD i (List.mem_range.2 z)) j r;rw[ho] at s;simp only[ZE,aai,Zt,decide_eq_true_eq] at s;refine⟨s.1,?_⟩;obtain⟨e,he,q⟩:=Array.any_eq_true'.1 s.2;simp only[Zt,aan,beq_iff_eq,decide_eq_true_eq] at q;have h3:=m e he q.1;rcases q.2 with M | ⟨M,h5⟩
   ·rw[←M];exact h3
   ·exact hk e.on M h3 j (by simpa using h5)
  have O: ∀i,i<N→∀j∈t.D i,j<N:=by
   intro i x j r;have s:=List.all_eq_true.1 (List.all_eq_true.1 hD i (List.mem_range.2 x)) j r;simp only[Zt,decide_eq_true_eq] at s;exact s.1
  have hSi:b.getD i false=false:=by
   have q:i<b.size:=by rw[p.size,Zw];omega
   simp [q] at I⊢;exact I
  have A:=uj h (S:=λi=>b.getD i false) (xs:=xs) (w':=w') (k:=i) (o:=o) Om K hSi (λj r=>⟨by have:=(H j r).1;omega,(H j r).2⟩) (λi' hi' hs j r=>⟨by have:=O i' Om j r;omega,hk i' Om hs j r⟩) hI
   (λv B=>wpAnyIn F n P .any LL.toArray Q f (b.setIfInBounds i true) ((br xs L 0 a).put o.dst v) B) (λv B hI2=>by
    rw[rq v _ 0 a i o hsl K,ZG];refine CP T G U hs h hF hc hb V hsl hD C c f _ _ B (by have:=xu I N z;omega) Om (p.set x z) ?_ (hI2.congr (λj r=>?_) (λ_ _=>rfl))
    ·intro j r Y j' X;by_cases e:j=i
     ·subst e;exact getD_set_true (H j' X).2
     ·rw[getD_set_ne false (Ne.symm e)] at Y;exact getD_set_true (hk j r Y j' X)
    ·show(if j=i then true else b.getD j false)=_;by_cases e:j=i
     ·subst e;have q:j<b.size:=by rw[p.size,Zw];omega
      simp [q]
     ·rw[ALifn e,getD_set_ne false (Ne.symm e)]) hF
  have hwa:Region.wanted o (yielded LL.toArray (br xs L 0 a).tmps)=Region.wanted o (yielded L.toArray (br xs L 0 a).tmps):=by
   rw[CN (k:=N),T];have:=List.all_eq_true.1 G o (aay K);revert this;cases o.guard with
   | none=>exact λh=>h
   | some jb=>exact λh=>h
  unfold wpOpIn;simp only[ho];rw[hwa]
  split
  ·rename_i hw;rw[ALifp hw] at A;exact Oper.wpIn_mono (λa'' B ⟨v,e,h⟩=>by rw[e];exact h) A
  ·rename_i hw;rw[ALifn hw] at A;exact A
def u7(d:Bool)(LL:List Oper)(N:Nat)(D:Nat→List Nat):Bool:=ym N (LL.take N)&&(if d then(Region.sinkB .any LL.toArray N&&decide (N<LL.length))&&Region.chainB .any LL.toArray N&&mX .any LL.toArray N&&mX .any LL.toArray 0&&mx (LL.take N)&&uf .any LL.toArray N D else mB false (LL.take N) D)
theorem KQ{w:World}(I:Hid (aF R base t.L0 w))(Le:bF→aj)(r: ∀η,(Zv t.m).map (λp=>t.at η p L.length)=(Le η).map some):
  (∀xs w',gC L a t R base (λ_=>true) xs w'→∃η,(∀i,i<L.length→t.Is η i (xs i))∧aF R base (Le η) w')∧gC L a t R base (λ_=>false) (j4 L a) w∧br (j4 L a) L 0 a=a:=by
 refine⟨?_,?_,xr _ 0 a λi o d T K=>by
  unfold j4;rw[ZG,T,aaJ,K]⟩
 ·intro xs w' ⟨η,c,f,_,s⟩;refine⟨η,λi M=>f i M rfl,?_⟩;have O:(Le η).length=t.m:=by
   have:=ALca aa4 (r η);simpa using this.symm
  have B: ∀p,p<t.m→t.at η p L.length=(Le η)[p]? :=by
   intro p U;have:=ALca (λl=>l[p]?) (r η);simp only[Z1,aad U,ZE] at this;cases G:(Le η)[p]? with
   | none=>rw[G] at this;cases this
   | some x=>rw[G] at this;simpa using this
  exact⟨c,by rw[O];exact s.congr B⟩
 ·have C: ∀(H:Nat→Wr) (p N:Nat),dj t.L0 H (λ_=>false) p N=t.L0[p]? :=by
   intro H p N
   induction N with
   | zero=>rfl
   | succ N ih=>rw[uh (.inl rfl),ih]
  obtain⟨c,m⟩:=I.out;refine⟨λ_=>ab.zero,λp=>if p<t.L0.length then c p else[],λi _ V=>absurd V Bool.false_ne_true,λ_ _ _=>rfl,?_⟩;have e:(λp=>dj t.L0 (t.wr λ_=>ab.zero) (λ_=>false) p L.length)=λp=>t.L0[p]? :=by funext p;exact C _ _ _
  rw[e];have g: ∀p,((p<t.L0.length)∧(if p<t.L0.length then c p else[])=c p)∨(¬p<t.L0.length∧(if p<t.L0.length then c p else[])=[]):=λp=>by
   by_cases h:p<t.L0.length
   ·exact .inl ⟨h,ALifp h⟩
   ·exact .inr ⟨h,ALifn h⟩
  refine⟨λp _ x y=>?_,λp _ y=>?_,λp _ z k=>?_,λp _=>?_,λp q _ _ D z k u v=>?_,λp _ z k=>?_,m.os,m.tape,m.output,m.size,m.far⟩
  ·rcases g p with⟨f,b⟩ | ⟨f,b⟩
   ·rw[b];exact m.sat p f x y
   ·exact absurd (List.getElem?_eq_some_iff.1 y).1 f
  ·rcases g p with⟨f,b⟩ | ⟨f,b⟩
   ·rw[b];exact m.nil p f y
   ·exact b
  ·rcases g p with⟨f,b⟩ | ⟨f,b⟩
   ·rw[b] at k;exact m.obj p f z k
   ·rw[b] at k;simp at k
  ·rcases g p with⟨f,b⟩ | ⟨f,b⟩
   ·rw[b];exact m.inn p f
   ·rw[b];exact List.Pairwise.nil
  ·rcases g p with⟨f,b⟩ | ⟨f,b⟩
   ·rw[b] at k;rcases g q with⟨s,A⟩ | ⟨s,A⟩
    ·rw[A] at v;exact m.nd p q f s D z k u v
    ·rw[A] at v;simp at v
   ·rw[b] at k;simp at k
  ·rcases g p with⟨f,b⟩ | ⟨f,b⟩
   ·rw[b] at k;exact m.lo p f z k
   ·rw[b] at k;simp at k
end
end
section
open Go Go.RowKit Go.Shelf
section
variable {F:Fence} {n:Nat} {P:Program} {R:List Nat} {base:World} {Q:Exit→Act→World→Prop} {S:List It} {sz:Nat} {es:Fe} {L:aj} {Ds:List Nat}
def n4(N:Nat)(S:List It)(a:Sl)(b:aj)(hs:bF→List (Nat×cd P))(η:bF):List (b0 P):=se ((ax S).take N) a (jL (e6 S) ((ax S).take N)) η ((ax S).take N) (hs η) 0 [] (λp=>b[p]?) b.length
def tP(N:Nat)(S:List It)(a:Sl)(b:aj)(m:Nat)(hs:bF→List (Nat×cd P)):dP:=um ((ax S).take N) a (jL (e6 S) ((ax S).take N)) (rG ((ax S).take N) []) b m (n4 N S a b hs)
theorem CQ[hF:kv F](hm:P.follows .mixedOrders=true)(N:Nat)(hs:bF→List (Nat×cd P))(z:bF→Fe)(dr:List Nat)(Le:bF→aj→aj)
  (G: ∀η b W,Fr ⟨sz,z η++eE dr es⟩ Ds b→aF R base (Le η L++Ds.map mk) W→wpListIn F n P (ax S).toArray (dc F n P Q (bS S)) ((ax S).drop N) b W)
  (m: ∀η,((l7 S,true),(fq ((ax S).take N) ⟨sz,es⟩ (tP N S ⟨sz,es⟩ L (mR Le L) hs) η 0 ((ax S).take N) (n4 N S ⟨sz,es⟩ L hs η)).map a9.lhs,u7 (e6 S) (ax S) N (λk=>(jL (e6 S) ((ax S).take N)).getD k []),(Zv (mR Le L)).map (λp=>(tP N S ⟨sz,es⟩ L (mR Le L) hs).at η p ((ax S).take N).length),(z η).map (λx=>k4 ((ax S).take N) ⟨sz,es⟩ (tP N S ⟨sz,es⟩ L (mR Le L) hs) η x.1),mF ((ax S).take N) es (z η) dr)=
   ((true,true),(fq ((ax S).take N) ⟨sz,es⟩ (tP N S ⟨sz,es⟩ L (mR Le L) hs) η 0 ((ax S).take N) (n4 N S ⟨sz,es⟩ L hs η)).map a9.rhs,true,(Le η L).map some,(z η).map (λx=>some x.2),true)):Go F n P R base Q S ⟨sz,es⟩ L Ds:=by
 have K:=ALca (λx=>x.1.1) (m λ_=>ab.zero);have o:=λη=>ALca (λx=>x.2.1) (m η);have f:=ALca (λx=>x.2.2.1) (m λ_=>ab.zero);have q:=λη=>ALca (λx=>x.2.2.2.1) (m η);have r:=λη=>ALca (λx=>x.2.2.2.2.1) (m η);have B:=λη=>ALca (λx=>x.2.2.2.2.2) (m η);simp only at K o f q r B;obtain⟨id,d,Z,hd⟩:=CE K;subst hd;refine⟨λb W M Y=>dI 1000 S ?_⟩;rw[show du 1000 S=_ from Z];show(Code.region id (ax S).toArray (e6 S)).wpIn F n P (dc F n P Q (bS S)) b W;obtain⟨I,U,V⟩:=Y.seg;obtain⟨c,y⟩: ∃c,(ax S).take N=c:=⟨_,rfl⟩;unfold tP n4 at o q r;unfold u7 at f;obtain⟨d,D⟩: ∃d,e6 S=d:=⟨_,rfl⟩;rw[y] at o f q r B;rw[D] at o f q r⊢;rw[Zt] at f;have u:=BK (F:=F) (n:=n) (Q:=dc F n P Q (bS S)) M o;obtain⟨s1,O,T⟩:=KQ (a:=b) (t:=um c ⟨sz,es⟩ (jL d c) (rG c []) L (mR Le L) _) (R:=I) (base:=W) V (λη=>Le η L) q;have g: ∀xs A,gC c b (um c ⟨sz,es⟩ (jL d c) (rG c []) L (mR Le L) _) I W (λ_=>true) xs A→wpListIn F n P (ax S).toArray (dc F n P Q (bS S)) ((ax S).drop N) (br xs c 0 b) A:=λxs A X=>by
  obtain⟨η,hx,C⟩:=s1 xs A X;exact G η _ _ (M.region hx (r η) (B η)) (U.out.whole C)
 cases d with
 | false=>
  have h:=f.2;unfold mB at h;simp only[aae,if_false,Zt] at h;refine wpIn_region_lit ?_;have s:=CO (LL:=ax S) (N:=N) y f.1 u hF.free h.1 (λk G j hj=>by simpa using List.all_eq_true.1 (List.all_eq_true.1 h.2 k (List.mem_range.2 G)) j hj) g c.length 0 (j4 c b) W Om (O.congr (λi _=>by simp) (λ_ _=>rfl));rw[T,List.drop_zero,←y,aaw] at s;exact s
 | true=>
  have h:=f.2;simp only[if_true,Zt,decide_eq_true_eq] at h;obtain⟨⟨⟨⟨⟨⟨q1,q2⟩,q3⟩,q4⟩,q5⟩,q6⟩,q7⟩:=h;refine wpIn_region_any hm ?_;have H: ∀k,gV (Array.replicate (ax S).length false) k≤k:=by
   intro k
   induction k with
   | zero=>exact ZD _
   | succ k ih=>unfold gV;split<;>omega
  have s:=CP (LL:=ax S) (N:=N) y f.1 q2 q1 u hF.free q3 q4 q5 q6 q7 g _ (ax S).toArray.size (Array.replicate (ax S).length false) (j4 c b) W.drew rfl (by rw[Zw];have:=H N;omega)
   ⟨by simp,λj oj _ v e _ _=>(by rw[getD_replicate_false] at v;exact aaQ v),λt _ w=>(by rw[Zw] at w;simp [w])⟩ (λi _ v=>(by rw[getD_replicate_false] at v;exact aaQ v))
   (O.drew.congr (λi _=>(getD_replicate_false _ _).symm) (λ_ _=>rfl))
  rw[T] at s;simpa using s
def u9(LL:List Oper)(e:Fe)(o:Oper):Bool:=match o.guard with
 | none=>true
 | some (j,g)=>(match ((LL[j]?).bind (·.dst)).bind (lk e) with
  | some (.bool c)=>c==g
  | _=>false)
def oY(e:Fe):Operand→Bool
 | .tmp i=>(lk e i).isSome
 | _=>true
def n7(P:Program)(sz:Nat)(e:Fe)(o:Oper):Value×List a9:=match o.op with
 | .pick c x y=>(match (⟨sz,e⟩:Sl).ev c with
  | .bool b=>((⟨sz,e⟩:Sl).ev (match b with | true=>x | false=>y),[sB (oY e c&&oY e (match b with | true=>x | false=>y))])
  | _=>(undef,[sB false]))
 | _=>(match rC o.op with
  | some l=>(yf P o (⟨sz,e⟩:Sl).ev,[sB (mw o&&l.all (oY e)),sE (λw=>(execOp (⟨sz,e⟩:Sl).ev o).run P w) (λw=> .ok (.value (yf P o (⟨sz,e⟩:Sl).ev)) w)])
  | none=>(undef,[sB false]))
def iQ(P:Program)(LL:List Oper)(sz:Nat):List Oper→Fe→Fe×List a9
 | [],e=>(e,[])
 | o::os,e=>match o.dst with
  | some d=>((iQ P LL sz os ((d,(n7 P sz e o).1)::e)).1,sB (u9 LL e o)::sB (Z4 d sz)::((n7 P sz e o).2++(iQ P LL sz os ((d,(n7 P sz e o).1)::e)).2))
  | none=>([],[sB false])
theorem Fr.put{b:Act}(c:Fr ⟨sz,es⟩ Ds b){d:Nat}(m:d<sz)(v:Value):Fr ⟨sz,(d,v)::es⟩ Ds (b.put (some d) v):=by
 refine⟨(xw _ _ _).trans c.size,λi u h=>?_,(CC _ _ _).trans c.defers⟩;have k:b.tmps.size=sz:=c.size;show(b.tmps.setIfInBounds d v).getD i undef=u;unfold lk at h
 split at h
 ·rename_i f;cases h;rw[ZB f] at m⊢;simp [k,m]
 ·rename_i f;have g:d≠i:=λe=>by rw[e,Z7] at f;cases f
  have:=c.get i u h;simp only[Array.getD_eq_getD_getElem?] at this⊢;rw[Array.getElem?_setIfInBounds,ALifn g];exact this
theorem ng{b:Act}(c:Fr ⟨sz,es⟩ Ds b){x:Operand}(h:oY es x=true):b.eval x=(⟨sz,es⟩:Sl).ev x:=c.ev λi d=>by subst d;exact h
theorem KR[hF:kv F]{b:Act}{W:World}{o:Oper}{K:Act→World→Prop}{k:Exit→Act→World→Prop}(g:Fr ⟨sz,es⟩ Ds b)(d: ∀q∈(n7 P sz es o).2,q.2.1=q.2.2)(r:K (b.put o.dst (n7 P sz es o).1) W):o.wpIn F n P b W K k:=by
 refine Oper.wpIn_mono (λm z ⟨v,e,h⟩=>by rw[e];exact h) (pT (K:=λv w=>K (b.put o.dst v) w) (v:=(n7 P sz es o).1) hF.free (w':=W) ?_ ?_ r)
 ·unfold n7 at d
  split at d
  ·rename_i c x y f;unfold mw;rw[f]
  ·split at d
   ·simp only[Zq,Zn,or_false,forall_eq_or_imp,forall_eq,sB,Zt] at d;exact d.1.1
   ·exact(bG d).elim
 ·unfold n7 at d⊢
  split at d
  ·rename_i c x y f;simp only at d⊢
   split at d
   ·rename_i E p;simp only[Zq,Zn,or_false,forall_eq,sB,Zt] at d;have i:=(ng g d.1).trans p;cases E with
    | true=>exact pR f i (ng g d.2)
    | false=>exact pR f i (ng g d.2)
   ·exact(bG d).elim
  ·split at d
   ·rename_i l s;simp only[Zq,Zn,or_false,forall_eq_or_imp,forall_eq,sE,sB,Zt] at d;rw[BB s λx u=>ng g (List.all_eq_true.1 d.1.2 x u)];exact congrFun d.2 W
   ·exact(bG d).elim
theorem yn{LL:List Oper}{o:Oper}{b:Act}(f:Fr ⟨sz,es⟩ Ds b)(h1:u9 LL es o=true):Region.wanted o (yielded LL.toArray b.tmps)=true:=by
 unfold u9 at h1;unfold Region.wanted;cases k:o.guard with
 | none=>rfl
 | some s=>
  obtain⟨j,g⟩:=s;rw[k] at h1;simp only at h1⊢
  split at h1
  ·rename_i c i;obtain⟨q,p,m⟩:=Option.bind_eq_some_iff.1 i;have e:=f.get q _ m;have d:q<b.tmps.size:=by
    rcases ZJ q b.tmps.size with h | h
    ·exact h
    ·rw[Array.getD_eq_getD_getElem?,Array.getElem?_eq_none h] at e;cases e
   have r:yielded LL.toArray b.tmps j=some c:=by
    unfold yielded;rw[ZI,p];simp only[aaJ];rw[Array.getD_eq_getD_getElem?,Array.getElem?_eq_getElem d] at e;rw[Array.getElem?_eq_getElem d];simp only[aai] at e;rw[e]
   rw[r,eq_of_beq h1];simp
  ·cases h1
theorem su[hF:kv F]{LL:List Oper}{W:World}{i:Exit→Act→World→Prop}: ∀{os:List Oper} {es:Fe} {b:Act},Fr ⟨sz,es⟩ Ds b→(∀q∈(iQ P LL sz os es).2,q.2.1=q.2.2)→(∀k,Fr ⟨sz,(iQ P LL sz os es).1⟩ Ds k→i .normal k W)→wpListIn F n P LL.toArray i os b W
 | [],es,b,e,_,f=>f b e
 | o::os,es,b,e,c,f=>by
  unfold iQ at c f;cases g:o.dst with
  | none=>rw[g] at c;exact(bG c).elim
  | some d=>
   rw[g] at c f;simp only[Zq,ZU,forall_eq_or_imp,sB] at c;obtain⟨p,r,m⟩:=c;have s:=yn (LL:=LL) e p;unfold wpListIn;rw[ALifp s];refine KR (F:=F) e (λq h=>m q (.inl h)) ?_;rw[g];exact su (e.put (Z3▸r) _) (λq h=>m q (.inr h)) f
def sx:Nat→List It→Fe→Bool
 | 0,_,_=>false
 | k+1,S,e=>match nf S with
  | .c .ret::_=>true
  | .c (.cond c x y)::S'=>oY e c&&(match (⟨0,e⟩:Sl).ev c with
   | .bool b=>sx k (.c (match b with | true=>x | false=>y)::S') e
   | _=>false)
  | _=>false
theorem yo: ∀(k:Nat) {S:List It} {b:Act} {W:World},sx k S es=true→Fr ⟨sz,es⟩ Ds b→Q .ret b W→dc F n P Q S .normal b W
 | 0,_,_,_,h,_,_=>by cases h
 | k+1,S,b,W,h,i,g=>by
  unfold sx at h;refine dI 1000 S ?_
  split at h
  ·rename_i o e;rw[show du 1000 S=_ from e];exact wpIn_ret (gZ g)
  ·rename_i c x y o e;rw[show du 1000 S=_ from e];rw[Zt] at h;obtain⟨p,d⟩:=h
   split at d
   ·rename_i E q;have m:=(ng i p).trans q;have f:=yo k d i g;cases E with
    | true=>exact wpIn_cond m f
    | false=>exact wpIn_cond m f
   ·cases d
  ·cases h
def sy(P:Program)(fn:Func)(J Jx:Nat→(Nat→Prop)→World→Prop)(KO:ay)(W0:World)(N:Nat):Exit→Act→World→Prop:=
 bodyPostM Fence.wide 5 P fn λe b=>(∃v,e= .returned v)∧((∃L,fP J KO W0 L N b)∨∃i,i<N∧∃c,Jx (i+1) c b)
def yp{α:Type}(P:Program)(l:Nat)(J Jx:Nat→(Nat→Prop)→World→Prop)(KO:ay)(W0:World)(encs:α→Array Value)(xs:List α):Prop:=
 ∀(L:ay) (j:Nat) (x:α) (wr:World),xs[j]? =some x→fP J KO W0 L j wr→YieldAt Fence.wide 4 P l (encs x) wr λe b=>(e= .returned (.bool true)∧fP J KO W0 L (j+1) b)∨(e= .returned (.bool false)∧∃c,Jx (j+1) c b)
section
variable {α:Type} {gf:Nat} {fn:Func} {lb:Array Value} {encs:α→Array Value} {xs:List α} {KO:List ay} {J Jx:Nat→(Nat→Prop)→World→Prop} {W0:World} {l j:Nat}
theorem gi(hf:P.funcs[gf]? =some fn)(h: ∀l J Jx W0 R,gO J→yp P l J Jx KO.flatten W0 encs xs→Hid (fB J KO W0 0 R W0)→Go Fence.wide 5 P R W0 (sy P fn J Jx KO.flatten W0 xs.length) [.c (kC fn)] ⟨fn.ntmps,n2 0 (.func (.yield l) #[] #[]::lb.toList)⟩ (KO.map .c) [])
  (f:(fn.body.isSome,aaH (lb.size+1) fn.ntmps)=(true,true):=by kernel_rfl):ft 5 P gf lb encs xs KO.flatten:=by
 refine Jh λl J Jx W q s k=>?_;obtain⟨R,p,r⟩:=jh.start (jh.zero k.out);obtain⟨c,e⟩:=Option.isSome_iff_exists.1 (ALca (·.1) f);have w:lb.size+1≤fn.ntmps:=Z9 (ALca (·.2) f);refine callsIn_of_wp_marks hf e trivial ?_ rfl;have g:(#[Value.func (.yield l) #[] #[]]++lb).size=lb.size+1:=by simp;omega
 have d:=(h l J Jx W R q s.out p).out {tmps:=(#[Value.func (.yield l) #[] #[]]++lb)++Array.replicate (fn.ntmps-(#[Value.func (.yield l) #[] #[]]++lb).size) undef,defers:=[]} W ⟨by rw[Array.size_append,g,Array.size_replicate];show _=fn.ntmps;omega,λi v u=>?_,rfl⟩ (by simpa using r.out)
 ·rw[show kC fn=c by unfold kC;rw[e];rfl] at d;exact d
 ·obtain⟨_,b⟩:=sh u;rw[ZY] at b;have m:i<lb.size+1:=by have:=(List.getElem?_eq_some_iff.1 b).1;simpa using this
  have o:(#[Value.func (.yield l) #[] #[]]++lb)[i]? =some v:=by rw[←Array.getElem?_toList];simpa using b
  rw[Array.getD_eq_getD_getElem?,Array.getElem?_append_left (by rw[g];exact m),o];rfl
theorem gG{XO:ay}(hf:P.funcs[gf]? =some fn)(h: ∀l J Jx W0 R,gO J→yp P l J Jx KO.flatten W0 encs xs→Hid (fB J KO W0 0 R W0)→Go Fence.wide 5 P R W0 (sy P fn J Jx KO.flatten W0 xs.length) [.c (kC fn)] ⟨fn.ntmps,n2 0 (.func (.yield l) #[] #[]::lb.toList)⟩ (KO.map .c++[aB.c XO]) [])
  (f:(fn.body.isSome,aaH (lb.size+1) fn.ntmps)=(true,true):=by kernel_rfl):pY 5 P gf lb encs xs KO.flatten XO:=by
 refine Ji λl J Jx W q s k=>?_;obtain⟨R,p,r⟩:=jh.start (LE:=[aB.c XO]) ⟨[XO],⟨rfl,trivial⟩,by simpa using k.out⟩;obtain⟨c,e⟩:=Option.isSome_iff_exists.1 (ALca (·.1) f);have w:lb.size+1≤fn.ntmps:=Z9 (ALca (·.2) f);refine callsIn_of_wp_marks hf e trivial ?_ rfl;have g:(#[Value.func (.yield l) #[] #[]]++lb).size=lb.size+1:=by simp;omega
 have d:=(h l J Jx W R q s.out p).out {tmps:=(#[Value.func (.yield l) #[] #[]]++lb)++Array.replicate (fn.ntmps-(#[Value.func (.yield l) #[] #[]]++lb).size) undef,defers:=[]} W ⟨by rw[Array.size_append,g,Array.size_replicate];show _=fn.ntmps;omega,λi v u=>?_,rfl⟩ (by simpa using r.out)
 ·rw[show kC fn=c by unfold kC;rw[e];rfl] at d;exact d
 ·obtain⟨_,b⟩:=sh u;rw[ZY] at b;have m:i<lb.size+1:=by have:=(List.getElem?_eq_some_iff.1 b).1;simpa using this
  have o:(#[Value.func (.yield l) #[] #[]]++lb)[i]? =some v:=by rw[←Array.getElem?_toList];simpa using b
  rw[Array.getD_eq_getD_getElem?,Array.getElem?_append_left (by rw[g];exact m),o];rfl
theorem yq(W:World):aF (bN ([]:List ay).flatten) W [] W:=aF.start (cs:=[]) trivial ⟨λ_ h=>by simp at h,List.Pairwise.nil⟩
theorem CR{N:Nat}{b:Act}{W:World}{KO:ay}(c:fn.results.toList=[])(e:b.defers=[])(h:(∃L,fP J KO W0 L N W)∨∃i,i<N∧∃d,Jx (i+1) d W):sy P fn J Jx KO W0 N .ret b W:=by
 show LeavesInM Fence.wide 5 P fn b.tmps _ b.defers .returning W;rw[e];exact Jf (Lib.hid (yq W)) [] (by rw[c];rfl) λ_=>⟨⟨_,rfl⟩,h⟩
def CS(S:List It)(N:Nat):Option Oper:=(ax S)[N]?
def jj(S:List It)(N:Nat):Nat:=match CS S N with | some o=>o.dst.getD 0 | none=>0
def va(S:List It)(N l sz:Nat)(e:Fe)(vs:List Value):Bool×Option (List Value)×Option Value:=match CS S N with
 | some o=>(match o.op with
  | .call ⟨.value x,b,_⟩=>(u9 (ax S) e o&&oY e x&&b.toList.all (oY e)&&o.dst.isSome&&Z4 (o.dst.getD 0) sz,some (b.toList.map (⟨sz,e⟩:Sl).ev),some ((⟨sz,e⟩:Sl).ev x))
  | _=>(false,none,none))
 | none=>(false,none,none)
theorem iy[hR:Rt Q (sy P fn J Jx KO.flatten W0 xs.length)](hJ:gO J)(hY:yp P l J Jx KO.flatten W0 encs xs)(hI:Hid (fB J KO W0 j R base))(N:Nat)(hs:bF→List (Nat×cd P))(h:bF→Fe)(dr:List Nat)(Le:bF→aj→aj)(LE:bF→aj)(ps:List Nat){x:α}(hx:xs[j]? =some x)
  (hk: ∀η H r,Hid (fB J KO W0 (j+1) H r)→Go Fence.wide 5 P H r Q (bS S) ⟨sz,(iQ P (ax S) sz ((ax S).drop (N+1)) ((jj S N,.bool true)::(h η++eE dr es))).1⟩ (KO.map .c++LE η) [])
  (he: ∀η,((l7 S,true),(fq ((ax S).take N) ⟨sz,es⟩ (tP N S ⟨sz,es⟩ L (mR Le L) hs) η 0 ((ax S).take N) (n4 N S ⟨sz,es⟩ L hs η)).map a9.lhs,u7 (e6 S) (ax S) N (λk=>(jL (e6 S) ((ax S).take N)).getD k []),(Zv (mR Le L)).map (λp=>(tP N S ⟨sz,es⟩ L (mR Le L) hs).at η p ((ax S).take N).length),(h η).map (λx=>k4 ((ax S).take N) ⟨sz,es⟩ (tP N S ⟨sz,es⟩ L (mR Le L) hs) η x.1),mF ((ax S).take N) es (h η) dr)=
   ((true,true),(fq ((ax S).take N) ⟨sz,es⟩ (tP N S ⟨sz,es⟩ L (mR Le L) hs) η 0 ((ax S).take N) (n4 N S ⟨sz,es⟩ L hs η)).map a9.rhs,true,(Le η L).map some,(h η).map (λx=>some x.2),true):=by intro _;kernel_rfl)
  (K: ∀η,(va S N l sz (h η++eE dr es) (encs x).toList,(iQ P (ax S) sz ((ax S).drop (N+1)) ((jj S N,.bool true)::(h η++eE dr es))).2.map a9.lhs,(iQ P (ax S) sz ((ax S).drop (N+1)) ((jj S N,.bool false)::(h η++eE dr es))).2.map a9.lhs,sx 10 (bS S) (iQ P (ax S) sz ((ax S).drop (N+1)) ((jj S N,.bool false)::(h η++eE dr es))).1)=
   ((true,some (encs x).toList,some (.func (.yield l) #[] #[])),(iQ P (ax S) sz ((ax S).drop (N+1)) ((jj S N,.bool true)::(h η++eE dr es))).2.map a9.rhs,(iQ P (ax S) sz ((ax S).drop (N+1)) ((jj S N,.bool false)::(h η++eE dr es))).2.map a9.rhs,true):=by intro _;kernel_rfl)
  (hp: ∀η,(dp (ps.map λp=>[p]).flatten,(ps.map λp=>[p]).map λg=>g.map λp=>(Le η L)[p]?)=(true,((KO.map aB.c++LE η).map λx=>[x]).map λN=>N.map some):=by intro _;kernel_rfl) (D:fn.results.toList=[]:=by kernel_rfl) (hm:P.follows .mixedOrders=true:=by kernel_rfl):Go Fence.wide 5 P R base Q S ⟨sz,es⟩ L []:=by
 refine CQ hm N hs h dr Le (λη b W A hO=>?_) he;have f:=ALca (λx=>x.1) (K η);have u:=ALca (λx=>x.2.1) (K η);have v:=ALca (λx=>x.2.2.1) (K η);have w:=ALca (λx=>x.2.2.2) (K η);simp only at f u v w;have hO':aF R base (KO.map .c++LE η) W:=aF.pick (by simpa using hO) ps _ (hp η);obtain⟨ds,hds,hIS⟩:=fB.step hI hJ hO';obtain⟨V,z,O,U,G,m⟩:=hY ds.flatten j x W hx hIS;unfold va at f
 split at f
 ·rename_i o ho
  split at f
  ·rename_i xo M ats C;simp only[Prod.mk.injEq,Zt,Option.some.injEq] at f;obtain⟨⟨⟨⟨⟨g1,g2⟩,g3⟩,g4⟩,I⟩,g6,g7⟩:=f;obtain⟨d,B⟩:=Option.isSome_iff_exists.1 g4;have y:jj S N=d:=by unfold jj;rw[ho];simp [B]
   have hdr:(ax S).drop N=o::(ax S).drop (N+1):=by
    obtain⟨hlt,e⟩:=List.getElem?_eq_some_iff.1 (show(ax S)[N]? =some o from ho);rw[aaq hlt,e]
   rw[hdr];have hw:Region.wanted o (yielded (ax S).toArray b.tmps)=true:=yn A g1;unfold wpListIn;rw[ALifp hw];have hxo:b.eval xo= .func (.yield l) #[] #[]:=(ng A g2).trans g7;have hag:M.map b.eval=encs x:=by
    apply Array.toList_inj.1;rw[Array.toList_map,←g6];exact aac λq hq=>ng A (List.all_eq_true.1 g3 q hq)
   have s:(execOp b.eval o).run P W= .ok (.round l V z O U) W:=by
    unfold execOp;simp only[C,resolve,hxo,Deferred.ofValue,ZK,ZL,Zx,invoke];rw[hag];simpa using G
   unfold Oper.wpIn;refine⟨λ_ _=>trivial,?_⟩;rw[Oper.semAt_plain Fence.wide _ o (λc hc=>by rw[C] at hc;cases hc),s,Oper.uponIn_round];refine⟨λ_=>by omega,m.mono ?_⟩;rintro e r (⟨rfl,X⟩ | ⟨rfl,O',X⟩)
   ·rw[y] at u;obtain⟨H,Z,hO3⟩:=jh.start (J:=J) (Os:=KO) (W0:=W0) (LE:=LE η) (j:=j+1) ⟨ds,hds,X⟩;have h4:=hk η H r Z;rw[y] at h4;show wpListIn Fence.wide 5 P (ax S).toArray _ ((ax S).drop (N+1)) (b.put o.dst (.bool true)) r;rw[B];have Y:d<sz:=by rw[B] at I;exact Z3▸I
    exact su (A.put Y _) (a9.all u) λT i=>h4.out T r i (by simpa using hO3.out)
   ·rw[y] at v w;show wpListIn Fence.wide 5 P (ax S).toArray _ ((ax S).drop (N+1)) (b.put o.dst (.bool false)) r;rw[B];have Y:d<sz:=by rw[B] at I;exact Z3▸I
    exact su (A.put Y _) (a9.all v) λT i=>yo 10 w i (hR.out T r (CR D (by rw[i.defers];rfl) (.inr ⟨j,(List.getElem?_eq_some_iff.1 hx).1,O',X⟩)))
  ·simp at f
 ·simp at f
theorem k7(k:gO J)(i:Hid (fB J KO W0 j R base))(r:j=xs.length)(LE:aj)(f:List Nat)
  (hp:(dp (f.map λp=>[p]).flatten,(f.map λp=>[p]).map λg=>g.map λp=>L[p]?)=(true,((KO.map aB.c++LE).map λx=>[x]).map λN=>N.map some):=by kernel_rfl) (d:fn.results.toList=[]:=by kernel_rfl) (o:(nf S).isEmpty=true:=by kernel_rfl):Go Fence.wide 5 P R base (sy P fn J Jx KO.flatten W0 xs.length) S ⟨sz,es⟩ L []:=by
 refine⟨λb W q m=>dI 1000 S ?_⟩;have e:aF R base (KO.map .c++LE) W:=aF.pick (by simpa using m) f _ hp;have h:=jh.leaf (fB.step i k e);rw[show du 1000 S=[] from List.isEmpty_iff.1 o];exact CR d (by rw[q.defers];rfl) (.inl (by rw[←r];exact h))
end
section
variable {J:Nat→(Nat→Prop)→World→Prop} {KO:List ay} {W0:World}
def CT(J:Nat→(Nat→Prop)→World→Prop)(KO:List ay)(W0:World)(I:Nat→Prop)(e:Nat→Fe)(d:Nat→aj)(m c:Nat→Nat)(sz:Nat)(st:Fe)(i:Nat)(b:Act)(W:World):Prop:=∃(k:Nat) (R:List Nat) (base:World),I k∧Hid (fB J KO W0 (c k) R base)∧m k<i∧Fr ⟨sz,e k++st⟩ [] b∧aF R base (d k) W
def vb(P:Program)(J:Nat→(Nat→Prop)→World→Prop)(KO:List ay)(W0:World)(Q:Exit→Act→World→Prop)(S:List It)(I:Nat→Prop)(e:Nat→Fe)(d:Nat→aj)(m c:Nat→Nat)(sz:Nat)(st:Fe)(i:Nat):Exit→Act→World→Prop
 | .normal,b,W=>CT J KO W0 I e d m c sz st i b W
 | x,b,W=>dc Fence.wide 5 P Q S x b W
theorem j9(I:Nat→Prop)(e:Nat→Fe)(p:Nat→aj→aj)(m c:Nat→Nat)(f:Nat)(h0:I f)(z:Hid (fB J KO W0 (c f) R base))(r:((e f).map λx=>lk es x.1)=(e f).map λx=>some x.2)(A:L=p f L)
  (M: ∀(k:Nat) (q:List Nat) (d:World),I k→Hid (fB J KO W0 (c k) q d)→Go Fence.wide 5 P q d (vb P J KO W0 Q (bS S) I e (λk=>p k L) m c sz (jP S es) (m k)) [.c (gD S)] ⟨sz,e k++jP S es⟩ (p k L) []) (B:n1 S=true:=by kernel_rfl):Go Fence.wide 5 P R base Q S ⟨sz,es⟩ L []:=by
 classical
 refine⟨λb W C s=>dI 1000 S ?_⟩;rw[show du 1000 S=_ from uV B];show(Code.loop (gD S)).wpIn Fence.wide 5 P (dc Fence.wide 5 P Q (bS S)) b W
 let g:Nat→Act→World→Prop:=CT J KO W0 I e (λk=>p k L) m c sz (jP S es)
 let μ:Act→World→Nat:=λb W=>if h: ∃j,g j b W then ZZ (k5 h) else 0
 have w: ∀b W,(∃j,g j b W)→g (μ b W) b W∧∀i,i<μ b W→¬g i b W:=by
  intro b W h;have e:μ b W=ZZ (k5 h):=dif_pos h;rw[e];exact aao (k5 h)
 refine wpIn_loop (λb W=>∃j,g j b W) μ ⟨m f+1,f,R,base,h0,z,aaU _,Fr.stay (a:=⟨sz,es⟩) C r,by have h:=s;rw[A] at h;simpa using h⟩ λb W o=>?_;obtain⟨k,q,d,G,y,K,D,s⟩:=(w b W o).1;refine wpIn_mono (show(gD S).wpIn Fence.wide 5 P _ b W from(M k q d G y).out b W D (by simpa using s)) λe v u r=>?_;cases e with
 | normal=>
  have o:g (m k) v u:=r;exact⟨⟨_,o⟩,aah (aal λH=>(w v u ⟨_,o⟩).2 _ H o) K⟩
 | _=>exact r
theorem iR{I:Nat→Prop}{e:Nat→Fe}{h:Nat→aj}{m c:Nat→Nat}{o:List It}{d:Nat}{st:Fe}{i:Nat}(k:Nat)(q:I k)(hC:Hid (fB J KO W0 (c k) R base))(y:m k<i)(w:((e k++st).map λx=>lk es x.1)=(e k++st).map λx=>some x.2)(f:List Nat)(r:(dp (f.map λp=>[p]).flatten,(f.map λp=>[p]).map λg=>g.map λp=>L[p]?)=(true,((h k).map λx=>[x]).map λN=>N.map some))(u:(nf S).isEmpty=true:=by kernel_rfl)(z:sz=d:=by rfl):
  Go Fence.wide 5 P R base (vb P J KO W0 Q o I e h m c d st i) S ⟨sz,es⟩ L []:=by
 subst z;refine⟨λb W v s=>dI 1000 S ?_⟩;rw[show du 1000 S=[] from List.isEmpty_iff.1 u];exact⟨k,R,base,q,hC,y,Fr.told (a:=⟨sz,es⟩) v w,aF.pick (by simpa using s) f _ r⟩
theorem ka{I:Nat→Prop}{e:Nat→Fe}{k:Nat→aj}{m c:Nat→Nat}{d:List It}{f:Nat}{st:Fe}{i:Nat}(h:Go Fence.wide 5 P R base Q ((j8 S d).getD []) ⟨sz,es⟩ L [])(p:(j8 S d).isSome=true:=by kernel_rfl):Go Fence.wide 5 P R base (vb P J KO W0 Q d I e k m c f st i) S ⟨sz,es⟩ L []:=by
 obtain⟨r,g⟩:=Option.isSome_iff_exists.1 p;rw[g] at h;exact⟨λb W q o=>uW g (h.out b W q o) λ_=>rfl⟩
instance {P:Program} {J:Nat→(Nat→Prop)→World→Prop} {KO:List ay} {W0:World} {Q Q0:Exit→Act→World→Prop} {I:Nat→Prop} {e:Nat→Fe} {LI:Nat→aj} {m c:Nat→Nat} {S0:List It} {sz0:Nat} {st:Fe} {i:Nat} [h:Rt Q Q0]:Rt (vb P J KO W0 Q S0 I e LI m c sz0 st i) Q0:=⟨λb W hq=>gZ (S:=S0) (h.out b W hq)⟩
def Zi(J:Nat→(Nat→Prop)→World→Prop)(KO:List ay)(W0:World)(I:Nat→Value→Prop)(e:Nat→Value→Fe)(d:Nat→Value→aj)(m c:Nat→Value→Nat)(sz:Nat)(st:Fe)(i:Nat)(b:Act)(W:World):Prop:=∃(k:Nat) (u:Value) (R:List Nat) (base:World),I k u∧Hid (fB J KO W0 (c k u) R base)∧m k u<i∧Fr ⟨sz,e k u++st⟩ [] b∧aF R base (d k u) W
def Zj(P:Program)(J:Nat→(Nat→Prop)→World→Prop)(KO:List ay)(W0:World)(Q:Exit→Act→World→Prop)(S:List It)(I:Nat→Value→Prop)(e:Nat→Value→Fe)(d:Nat→Value→aj)(m c:Nat→Value→Nat)(sz:Nat)(st:Fe)(i:Nat):Exit→Act→World→Prop
 | .normal,b,W=>Zi J KO W0 I e d m c sz st i b W
 | x,b,W=>dc Fence.wide 5 P Q S x b W
instance {P:Program} {J:Nat→(Nat→Prop)→World→Prop} {KO:List ay} {W0:World} {Q Q0:Exit→Act→World→Prop} {I:Nat→Value→Prop} {e:Nat→Value→Fe} {LI:Nat→Value→aj} {m c:Nat→Value→Nat} {S0:List It} {sz0:Nat} {st:Fe} {i:Nat} [h:Rt Q Q0]:Rt (Zj P J KO W0 Q S0 I e LI m c sz0 st i) Q0:=⟨λb W hq=>gZ (S:=S0) (h.out b W hq)⟩
end
end
end
section
open Go Go.RowKit Go.Shelf
theorem fU{P:Program}{T:TypeId}{x y:Operand}{w:World}{yk:IntKind}{a:Int}(n:Nat)(b:n≤64)(h0: -9223372036854775808≤a*2^n)(h1:a*2^n≤9223372036854775807):(av .shl T x y (.int .i64 a) (.int yk (n:Int))).run P w= .ok (.int .i64 (a*2^n)) w:=by
 have e:IntKind.i64.wrap (a*2^n)=a*2^n:=IntWalk.i64_in _ Om;unfold av;simp only[ZK,eqGuard_shl,ZL,Zx,binOp_shl,shift_shl_i64 _ _ _ (aaN n) Om,ZO,e]
theorem KS(a b k:Nat)(g:a%2^k=0)(j:b<2^k)(h:a+b<9223372036854775808):bits .or .i64 (a:Int) (b:Int)=((a+b:Nat):Int):=by
 have d: ∀c:Nat,c<9223372036854775808→(BitVec.ofInt 64 (c:Int)).toNat=c:=by
  intro c l;rw[BitVec.ofInt_natCast,BitVec.toNat_ofNat];exact Zy Om
 show IntKind.i64.wrap ((BitVec.ofInt 64 (a:Int)||| BitVec.ofInt 64 (b:Int)).toNat:Int)=_;rw[BitVec.toNat_or,d a Om,d b Om];have e:a||| b=a+b:=by
  have f:=Nat.div_add_mod a (2^k);rw[g,ZS] at f;rw[←f];exact(aap j (a/2^k)).symm
 rw[e];exact IntWalk.i64_in _ Om
theorem sA{P:Program}{T:TypeId}{x y:Operand}{w:World}{a b:Int}(k M:Nat)(d:2^k=M)(h0:0≤a)(f:a%(M:Int)=0)(c:0≤b)(g:b<(M:Int))(h:a+b<9223372036854775808):(av .or T x y (.int .i64 a) (.int .i64 b)).run P w= .ok (.int .i64 (a+b)) w:=by
 obtain⟨m,rfl⟩:=aat h0;obtain⟨n,rfl⟩:=aat c;have e:=KS m n k (by rw[d];omega) (by rw[d];omega) Om;rw[show((m:Int)+(n:Int))=((m+n:Nat):Int) by omega,←e];rfl
theorem KT(x:Int)(k:Nat)(c:k≤64):(((x%18446744073709551616).toNat%2^k:Nat):Int)=x%((2^k:Nat):Int):=by
 have b:((2^k:Nat):Int)∣18446744073709551616:=by
  have h:2^k∣18446744073709551616:=(show(18446744073709551616:Nat)=2^64 by decide)▸Nat.pow_dvd_pow 2 c;exact Int.natCast_dvd_natCast.2 h
 rw[aaV,Int.toNat_of_nonneg (aaZ _ Dc),Int.emod_emod_of_dvd _ b]
theorem KU(x:Int)(k m:Nat)(b:2^k=m)(d:k≤62)(h1:0<m)(h2:m≤4611686018427387904):bits .and .i64 x ((m-1:Nat):Int)=x%(m:Int):=by
 show IntKind.i64.wrap ((BitVec.ofInt 64 x&&& BitVec.ofInt 64 ((m-1:Nat):Int)).toNat:Int)=_;have e:(BitVec.ofInt 64 ((m-1:Nat):Int)).toNat=2^k-1:=by
  rw[BitVec.ofInt_natCast,BitVec.toNat_ofNat,b];exact Zy Om
 have c:=KT x k Om;rw[b] at c;rw[BitVec.toNat_and,e,Nat.and_two_pow_sub_one_eq_mod,BitVec.toNat_ofInt,b];rw[show(x%((2^64:Nat):Int))=x%18446744073709551616 from rfl,c];have f:0≤x%(m:Int):=aaZ _ Om;have g:x%(m:Int)<(m:Int):=Int.emod_lt_of_pos _ Om;exact IntWalk.i64_in _ Om
theorem mG{P:Program}{T:TypeId}{y z:Operand}{w:World}(x:Int)(k m:Nat)(c:2^k=m)(b:k≤62)(h1:0<m)(h2:m≤4611686018427387904):(av .and T y z (.int .i64 x) (.int .i64 ((m-1:Nat):Int))).run P w= .ok (.int .i64 (x%(m:Int))) w:=by
 rw[←KU x k m c b h1 h2];rfl
section
variable {P:Program} {T:TypeId} {x y:Operand} {w:World}
theorem CU{a b:Nat}(c:a<18446744073709551616)(d:b<18446744073709551616):(av .and T x y (.int .u64 (a:Int)) (.int .u64 (b:Int))).run P w= .ok (.int .u64 ((a&&& b:Nat):Int)) w:=by
 rw[←u64_and_nat a b c d];rfl
theorem KW{a b:Nat}(c:a<4294967296)(d:b<4294967296):(av .and T x y (.int .u32 (a:Int)) (.int .u32 (b:Int))).run P w= .ok (.int .u32 ((a&&& b:Nat):Int)) w:=by
 rw[←u32_and_nat a b c d];rfl
theorem KX{a b:Nat}(c:a<256)(d:b<256):(av .and T x y (.int .u8 (a:Int)) (.int .u8 (b:Int))).run P w= .ok (.int .u8 ((a&&& b:Nat):Int)) w:=by
 rw[←u8_and_nat a b c d];rfl
theorem KY{a b:Nat}(h:b≤a)(d:a<18446744073709551616):(av .sub T x y (.int .u64 (a:Int)) (.int .u64 (b:Int))).run P w= .ok (.int .u64 ((a-b:Nat):Int)) w:=by
 have c:IntKind.u64.wrap ((a:Int)-b)=((a-b:Nat):Int):=by rw[IntKind.wrap_u64];omega
 rw[←c];rfl
theorem KZ{a b:Nat}(h:b≤a)(d:a<4294967296):(av .sub T x y (.int .u32 (a:Int)) (.int .u32 (b:Int))).run P w= .ok (.int .u32 ((a-b:Nat):Int)) w:=by
 have c:IntKind.u32.wrap ((a:Int)-b)=((a-b:Nat):Int):=by rw[aaF];omega
 rw[←c];rfl
theorem K0{a b:Nat}(h:b≤a)(d:a<256):(av .sub T x y (.int .u8 (a:Int)) (.int .u8 (b:Int))).run P w= .ok (.int .u8 ((a-b:Nat):Int)) w:=by
 have c:IntKind.u8.wrap ((a:Int)-b)=((a-b:Nat):Int):=by rw[aaK];omega
 rw[←c];rfl
theorem CV{a:Nat}(c:a<18446744073709551616):(av .and T x y (.int .u64 (a:Int)) (.int .u64 1)).run P w= .ok (.int .u64 ((a%2:Nat):Int)) w:=by
 have h:=CU (P:=P) (T:=T) (x:=x) (y:=y) (w:=w) (a:=a) (b:=1) c Om;rwa [Nat.and_one_is_mod] at h
theorem CW{a:Nat}:(av .and T x y (.int .i64 (a:Int)) (.int .i64 1)).run P w= .ok (.int .i64 ((a%2:Nat):Int)) w:=by
 have h:=mG (P:=P) (T:=T) (y:=x) (z:=y) (w:=w) (a:Int) 1 2 Dc Dc Dc Dc;exact h
end
section
variable {P:Program} {T:TypeId} {x y:Operand} {w:World}
theorem vc{yk:IntKind}{a:UInt8}(n:Nat)(b:n≤8):(av .shl T x y (.int .u8 (a.toNat:Int)) (.int yk (n:Int))).run P w= .ok (.int .u8 ((UInt8.ofNat (a.toNat*2^n)).toNat:Int)) w:=by
 have e:IntKind.u8.wrap ((a.toNat:Int)*2^n)=((UInt8.ofNat (a.toNat*2^n)).toNat:Int):=by
  rw[ZW,aaK,aaV,Int.natCast_mul,Int.natCast_pow];rfl
 rw[←e];generalize (a.toNat:Int)=A;unfold av;simp only[ZK,eqGuard_shl,ZL,Zx,binOp_shl,shift_shl_u8 _ _ _ (aaN n) Om,ZO]
end
theorem ma{P:Program}{T:TypeId}{x y:Operand}{w:World}{a b:Nat}(h:b≤a)(c:a≤9223372036854775807):(av .sub T x y (.int .i64 (a:Int)) (.int .i64 (b:Int))).run P w= .ok (.int .i64 ((a-b:Nat):Int)) w:=by
 rw[show((a-b:Nat):Int)=(a:Int)-(b:Int) by omega];exact rz Om Om
section
variable {A R R' C cs cs':List Value} {a i:Nat} {v:Value}
theorem K1(e:cs=A++(R++C))(hA:A.length=a)(h:R.toArray[i]? =some v):cs.toArray[a+i*1]? =some v:=by
 rw[ZI] at h⊢;rw[e,ZP,Zz Om,show a+i-A.length=i by omega,Z0 (List.getElem?_eq_some_iff.1 h).1];exact h
theorem K2(e:cs=A++(R++C))(hA:A.length=a)(b:i<R.toArray.size):a+i*1<cs.toArray.size:=by
 rw[Zw] at b⊢;rw[e,Zp,Zp];omega
theorem K3(e:cs=A++(R++C))(c:cs'=A++(R'++C))(hA:A.length=a)(b:i<R.toArray.size)(h:R.toArray.setIfInBounds i v=R'.toArray):cs.toArray.setIfInBounds (a+i*1) v=cs'.toArray:=by
 rw[Zw] at b;rw[List.setIfInBounds_toArray] at h⊢;have d:R.set i v=R':=ALca Array.toList h;rw[e,c,ZP,List.set_append_right _ _ Om,show a+i-A.length=i by omega,List.set_append_left _ _ b,d]
end
theorem kD{n:Nat}{xs:List UInt8}:(rB n xs).length=n:=(oP (k:=1) λ_=>rfl).trans (ZP n)
theorem K4{P:Program}{T:TypeId}{w:World}{K:IntKind}{g off k s N:Nat}(b:(P.underlying T,P.arrayLen T,jf P (P.elem T))=(some (.array N (P.elem T)),N,some s))(d:k<N):(Instr.indexAt T (.pointer (some ⟨g,off,none⟩)) (.int K (k:Int))).run P w= .ok (.pointer (some ⟨g,off+k*s,none⟩)) w:=by
 have c:P.arrayLen T=N:=ALca (·.2.1) b;rw[run_indexAt_array w T _ K (k:Int) (by rw[c];exact ALca (·.1) b),c,ALifp Om,nX (ALca (·.2.2) b),Zx,ZO,add_lit]
section
variable {P:Program} {A R R' C cs':List Value} {a:Nat} {v:Value}
def iA(T:TypeId)(K:IntKind)(g off N s k:Nat)(c:k<N:=by omega)(b:(P.underlying T,P.arrayLen T,jf P (P.elem T))=(some (.array N (P.elem T)),N,some s):=by kernel_rfl):cd P:= .t (tv (Instr.indexAt T (.pointer (some ⟨g,off,none⟩)) (.int K (k:Int))) λ_=>K4 b c)
def rM(p g i:Nat)(t:TypeId)(cs:List Value)(e:cs=A++(R++C))(hA:A.length=a)(h:R.toArray[i]? =some v):cd P:= .m (lt p g (a+i*1) cs.toArray t (K1 e hA h))
def wM(p g i:Nat)(t:TypeId)(v:Value)(cs cs':List Value)(e:cs=A++(R++C))(c:cs'=A++(R'++C))(hA:A.length=a)(b:i<R.toArray.size)(h:R.toArray.setIfInBounds i v=R'.toArray):cd P:= .m (sw p g (a+i*1) t v cs.toArray cs'.toArray (K3 e c hA b h) (K2 e hA b))
def rD(p g i:Nat)(t:TypeId)(R:List Value)(h:R.toArray[i]? =some v):cd P:= .m (lt p g (0+i*1) R.toArray t (by rw[ZG,ZP];exact h))
def wD(p g i:Nat)(t:TypeId)(v:Value)(R R':List Value)(b:i<R.toArray.size)(h:R.toArray.setIfInBounds i v=R'.toArray):cd P:= .m (sw p g (0+i*1) t v R.toArray R'.toArray (by rw[ZG,ZP];exact h) (by rw[ZG,ZP];exact b))
end
def aS{P:Program}(T:TypeId)(g N s:Nat)(h:0<N:=by decide)(b:(P.underlying T,P.arrayLen T,jf P (P.elem T))=(some (.array N (P.elem T)),N,some s):=by kernel_rfl):cd P:= .t (tv (Instr.sliceAt T (.pointer (some ⟨g,0,none⟩)) none none none) λ_=>Jw b h)
def aL{P:Program}(T:TypeId)(g N s l:Nat)(h:l<N:=by omega)(b:(P.underlying T,P.arrayLen T,jf P (P.elem T))=(some (.array N (P.elem T)),N,some s):=by kernel_rfl):cd P:= .t (tv (Instr.sliceAt T (.pointer (some ⟨g,0,none⟩)) (some (.int .i64 (l:Int))) none none) λ_=>Jv b h)
def aM{P:Program}(T:TypeId)(g N s l m:Nat)(h:l+m≤N:=by omega)(h1:l<N:=by omega)(b:(P.underlying T,P.arrayLen T,jf P (P.elem T))=(some (.array N (P.elem T)),N,some s):=by kernel_rfl):cd P:= .t (tv (Instr.sliceAt T (.pointer (some ⟨g,0,none⟩)) (some (.int .i64 (l:Int))) (some (.int .i64 ((l+m:Nat):Int))) none) λ_=>JO b h h1)
end
section
open Go Go.RowKit Go.Shelf
section
variable {α:Type} {P:Program} {en:α→List Value} {z:List Value} {T:TypeId} {v:Value} {xs:List α} {bs:ay}
theorem aK.take{k:Nat}(G: ∀y,(en y).length=k)(h:aK en v xs bs){m:Nat}(H:m≤xs.length):aK en (gY v 0 m k) (xs.take m) bs:=by
 obtain⟨s,a,r,rfl⟩:=h;have d:(xs.take m).length=m:=by rw[ZH];omega
 have C: ∃f,gY (.slice a xs.length (xs.length+r)) 0 m k= .slice f m (xs.length+r)∧(∀g b,a=some ⟨g,b,none⟩→f=some ⟨g,b,none⟩):=by
  simp only[gY,sliced,ZY,Nat.zero_mul];refine⟨_,rfl,λg b B=>?_⟩;subst B
  split
  ·rfl
  ·simp only[ZE];unfold Addr.add
   split<;>simp_all
 obtain⟨f,n,o⟩:=C;rw[n];refine⟨?_,f,xs.length-m+r,by rw[d];congr 1;omega⟩;by_cases e:m=0
 ·subst e;exact .inl ⟨aa0,_,_,rfl⟩
 ·obtain⟨g,b,l,t,p,c,u,w,x⟩:=s.some (i:=0) Om;injection u with q D F;refine .inr ⟨g,b,l,t,p,_,by rw[o _ _ q,d],w,?_⟩;have A:ak en xs=ak en (xs.take m)++ak en (xs.drop m):=by rw[←ky,aaw]
  have j:=ALca (λy=>y.take (ak en (xs.take m)).length) x;rw[List.take_take,A,Zp,aa1 (Nat.le_add_right _ _),List.take_left] at j;exact j
def yr(P:Program)(p:Nat)(x:aB)(v:Value)(m s:Nat)(o:Oper)(ρ:Operand→Value)(_:cv):MD:=match o.op with
 | .slice T a none (some b) none=>⟨[(p,x)],λ_=>[],[sE (ρ a) v,sE (ρ b) (.int .i64 (m:Int)),sE (P.underlying T,jf P (P.elem T)) (some (.slice (P.elem T)),some s)]⟩
 | _=>MD.bad
theorem K5(p:Nat)(x:aB)(m s:Nat)(h: ∀bs,x.sat bs→aK en v xs bs)(u:m≤xs.length):MD.ok P (λ_=>gY v 0 m s) (yr P p x v m s) []:=by
 intro o ρ C d w c g;unfold yr at d g⊢
 split at d
 ·rename_i f a b e;simp only[e] at g⊢;simp only[Zq,Zn,or_false,forall_eq_or_imp,forall_eq,sE] at d;obtain⟨n,q,j⟩:=d;obtain⟨l,h2⟩:=g.ent;obtain⟨i,r,rfl⟩:=(h _ l).2;have k:P.underlying f=some (.slice (P.elem f)):=ALca (·.1) j;have t:(Instr.sliceAt f (.slice i xs.length (xs.length+r)) none (some (.int .i64 (m:Int))) none).run P w= .ok (sliced i 0 m (xs.length+r) s) w:=by
   rw[run_sliceAt_slice (h:=k),run_slice_h (ht:=k) (kh:= .i64) (h:=(m:Int)) (h0:=by omega) (h2:=by omega),nX (ALca (·.2) j)];simp only[Zx,ZO]
  refine⟨ab.zero,λ_=>[],w,.inl ?_,λx h=>by simp at h,by simpa using a8.refl w⟩;unfold execOp;simp only[e,n,ZE,Option.map_none,q,ZK,t,Zx,ZL,gY]
 ·exact(bG d).elim
def CX(p:Nat)(x:aB)(m s:Nat)(h: ∀bs,x.sat bs→aK en v xs bs)(a:m≤xs.length):MH P (λ_=>gY v 0 m s):=⟨[],yr P p x v m s,K5 p x m s h a⟩
end
theorem CY{z:List Value}: ∀{n i:Nat},i<n*z.length→((Zl n z).flatten)[i]? =z[i%z.length]?
 | 0,i,h=>by omega
 | n+1,i,h=>by
  rw[List.replicate_succ,List.flatten_cons];rcases ZJ i z.length with a | a
  ·rw[Z0 a,Zy a]
  ·rw[Zz a,CY (n:=n) (by rw[Nat.succ_mul] at h;omega),Nat.mod_eq_sub_mod a]
theorem K6{z:List Value}(n:Nat):madeCells z.toArray (n*z.length)=((Zl n z).flatten).toArray:=by
 apply Array.ext';apply aaj;intro i;rw[Array.getElem?_toList];unfold madeCells;rw[Array.getElem?_map];rcases ZJ i (n*z.length) with a | a
 ·rw[Array.getElem?_range,ALifp a,CY a,ZE];have c:0<z.length:=Nat.pos_of_ne_zero λe=>by rw[e,Nat.mul_zero] at a;omega
  have b:i%z.length<z.length:=ZQ _ c;rw[ZF b];simp [b]
 ·rw[Array.getElem?_range,ALifn Om,ZA (by simp;exact a)];rfl
section
variable {α:Type} {P:Program}
def yt(P:Program)(en:α→List Value)(z:List Value)(a:TypeId)(d:α)(T:TypeId)(p n:Nat)(o:Oper)(ρ:Operand→Value)(_:cv):MD:=
 ⟨[],λE=>[(p,.p (ar en z a (.slice (some ⟨E.y 0,0,none⟩) n n) (Zl n d)))],[sE (λw=>(execOp ρ o).run P w) (λw=>(vS (Instr.makeSlice T (.int .i64 (n:Int)) (.int .i64 (n:Int)))).run P w)]⟩
theorem K7(K:Kd P α)(p n:Nat)(h:K.en K.d=K.z)(l:n≤1000000):MD.ok P (λE=> .slice (some ⟨E.y 0,0,none⟩) n n) (yt P K.en K.z K.T K.d K.TS p n) []:=by
 intro o ρ C a w c g;simp only[yt,aag,forall_eq,sE] at a g⊢;obtain⟨q,⟨i,f,k,r,m,d,b⟩,s⟩:=K.hT;have e:=run_make (P:=P) K.TS K.T i f q k r .i64 .i64 (n:Int) (n:Int) Om (Int.le_refl _) (by have:=aas b l;omega) Om (w:=w);rw[ZO,m,show f.cells=K.z.toArray by rw[←d],K6] at e;have a:=congrFun a w;have j:ak K.en (Zl n K.d)=(Zl n K.z).flatten:=by unfold ak;rw[List.flatMap_replicate,h]
 refine⟨ab.of w.heap.size,λ_=>[(w.heap.size,.cells ((Zl n K.z).flatten).toArray K.T (0,0))],_,.inl (a.trans (lV e)),?_,by simpa using a8.alloc w (.cells ((Zl n K.z).flatten).toArray K.T (0,0))⟩;refine .inr ⟨w.heap.size,0,by rw[Zs];rfl,?_⟩;rw[j];unfold bH;rw[aaG,aaR,Zo]
def sC(K:Kd P α)(p n:Nat)(b:n≤1000000:=by omega)(a:K.en K.d=K.z:=by rfl):cd P:= .m ⟨[],yt P K.en K.z K.T K.d K.TS p n,K7 K p n a b⟩
end
theorem aK.cells{α:Type}{en:α→List Value}{v:Value}{xs:List α}{bs:ay}(h:aK en v xs bs):v.cells=#[v]:=by
 obtain⟨a,r,rfl⟩:=h.2;rfl
def yu(P:Program)(p q:Nat)(x:aB)(v:Value)(o:Oper)(ρ:Operand→Value)(_:cv):MD:=match o.op with
 | .box T a=>⟨[(q,x)],λE=>[(p,ob (E.y 0) #[v] T)],[sE (ρ a) v]⟩
 | _=>MD.bad
theorem K8{P:Program}(p q:Nat)(x:aB)(v:Value)(hv: ∀bs,x.sat bs→v.cells=#[v]):MD.ok P (λE=> .pointer (some ⟨E.y 0,0,none⟩)) (yu P p q x v) []:=by
 intro o ρ C b w c e;unfold yu at b e⊢
 split at b
 ·rename_i T a d;simp only[d] at e⊢;simp only[Zq,Zn,or_false,forall_eq,sE] at b;have f:x.sat (c q):=e.sat (q,x) (by simp);have g:=hv _ f;refine⟨ab.of w.heap.size,λ_=>[(w.heap.size,.cells #[v] T (0,0))],_,.inl ?_,λy h=>?_,by simpa using a8.alloc w (.cells #[v] T)⟩
  ·unfold execOp;simp only[d,b,ZK,show(Instr.box T v).run P w= .ok (.pointer (some ⟨w.heap.size,0,none⟩)) (w.alloc (.cells v.cells T)) from rfl,g,Zx,ZL];rfl
  ·rw[List.mem_singleton.1 h];rfl
 ·exact(bG b).elim
def CZ{P:Program}(p q:Nat)(x:aB)(v:Value)(hv: ∀bs,x.sat bs→v.cells=#[v]):cd P:= .m ⟨[],yu P p q x v,K8 p q x v hv⟩
def yv{α:Type}(P:Program)(K:Kd P α)(p n:Nat)(ys:List α)(o:Oper)(ρ:Operand→Value)(_:cv):MD:=
 ⟨[],λE=>[(p,.p (ar K.en K.z K.T (.slice (some ⟨E.y 0,0,none⟩) n n) ys))],[sE (λw=>(execOp ρ o).run P w) (λw=> .ok (.value (.slice (some ⟨w.heap.size,0,none⟩) n n)) (w.alloc (.cells (ak K.en ys).toArray K.T))),sE ys.length n]⟩
theorem K9{α:Type}{P:Program}(K:Kd P α)(p n:Nat)(ys:List α):MD.ok P (λE=> .slice (some ⟨E.y 0,0,none⟩) n n) (yv P K p n ys) []:=by
 intro o ρ C a w c b;simp only[yv,Zq,Zn,or_false,forall_eq_or_imp,forall_eq,sE] at a b⊢;obtain⟨a,rfl⟩:=a;refine⟨ab.of w.heap.size,λ_=>[(w.heap.size,.cells (ak K.en ys).toArray K.T (0,0))],_,.inl (congrFun a w),?_,by simpa using a8.alloc w (.cells (ak K.en ys).toArray K.T (0,0))⟩;refine .inr ⟨w.heap.size,0,rfl,?_⟩;unfold bH;rw[aaG,aaR,Zo]
def g5{α:Type}{P:Program}(K:Kd P α)(p n:Nat)(ys:List α):cd P:= .m ⟨[],yv P K p n ys,K9 K p n ys⟩
def yw(P:Program)(q:Nat)(x:aB)(s:Sem Value)(o:Oper)(ρ:Operand→Value)(_:cv):MD:=⟨[(q,x)],λ_=>[],[sE (λw=>(execOp ρ o).run P w) (λw=>(vS s).run P w)]⟩
theorem Lb{P:Program}{v:Value}(q:Nat)(x:aB)(s:Sem Value)(h: ∀bs,x.sat bs→∀w,s.run P w= .ok v w):MD.ok P (λ_=>v) (yw P q x s) []:=by
 intro o ρ C b w c a;simp only[yw,aag,forall_eq,sE] at b a⊢;have d:x.sat (c q):=a.sat (q,x) (by simp);exact⟨ab.zero,λ_=>[],w,.inl ((congrFun b w).trans (lV (h _ d w))),λy h=>by simp at h,by simpa using a8.refl w⟩
def Lc{P:Program}{v:Value}(q:Nat)(x:aB)(s:Sem Value)(h: ∀bs,x.sat bs→∀w,s.run P w= .ok v w):cd P:= .m ⟨[],yw P q x s,Lb q x s h⟩
theorem Ld{P:Program}(w:World)(T U TY b:TypeId)(A:Addr)(e d:Nat)(a:Option Addr)(c:Nat)(g:P.underlying T=some (.slice b)){i:TypeInfo}(f:P.info? b=some i):
  (Builtin.copy_ #[T,U] TY #[.slice (some A) e d,.slice a 0 c]).run P w= .ok (goInt 0) w:=by
 cases a<;>simp [Builtin.copy_,run_underlying g,Builtin.lenOf,Builtin.firstCells,sizeOf,typeInfo,f,storeCells,loadCells,loadCellsFrom]
theorem a8.same{w:World}{g:Nat}{o:Obj}(h:w.heap[g]? =some o):a8 [g] [(g,o)] w w:=a8.put rfl rfl rfl rfl h (λ_ _=>rfl)
section
variable {α:Type} {P:Program}
def yx(P:Program)(p g off b a:Nat)(cs cs':Array Value)(t T U TY:TypeId)(q:Nat)(x:aB)(u:Value)(o:Oper)(ρ:Operand→Value)(_:cv):MD:=⟨[(p,ob g cs t),(q,x)],λ_=>[(p,ob g cs' t)],[sE (λw=>(execOp ρ o).run P w) (λw=>(Jr T U TY (.slice (some ⟨g,off,none⟩) b a) u).run P w)]⟩
theorem Lf(K:Kd P α)(L:K.k=1)(p g off f l:Nat)(cs cs':Array Value)(t U TY:TypeId)(q:Nat)(x:aB)(u:Value)(ys:List α)(Y: ∀bs,x.sat bs→dQ K.en u ys bs)(R:ys.length≤f)(hf:off+ys.length≤cs.size)(I:(cs.toList.take off++ak K.en ys++cs.toList.drop (off+(ak K.en ys).length)).toArray=cs'):
  MD.ok P (λ_=> .int .i64 (ys.length:Int)) (yx P p g off f l cs cs' t K.TS U TY q x u) [p]:=by
 intro o ρ C B w c m;simp only[yx,aag,forall_eq,sE] at B m⊢;have S:=m.has;obtain⟨r,W⟩:=m.two;obtain⟨b,s⟩:=r.one;obtain⟨N,⟨i,zv,J,hz,G,hzc,Q⟩,h0⟩:=K.hT;have D:(ak K.en ys).length=ys.length:=by rw[fR (n:=ys.length) (k:=1) (λy=>(K.hk y).trans L) rfl,ZP]
 rcases Y _ W with⟨rfl,a,h,rfl⟩ | ⟨H,d,j,t2,O,h,rfl,V,F⟩
 ·have e:cs'=cs:=by
   rw[←I];apply Array.ext';simp [ak]
  subst e;refine⟨ab.zero,λ_=>[(g,.cells cs' t (0,0))],w,.inl ((congrFun B w).trans (lV (Ld w K.TS U TY K.T ⟨g,off,none⟩ f l a h N J))),rfl,by simpa [b,bN] using a8.same s⟩
 ·have A:w.heap[H]? =some (.cells j t2 O):=S.obj _ (List.mem_flatMap.2 ⟨(q,x),by simp,V⟩);have M:=run_copy_row (P:=P) w K.TS U TY K.T g off f l ⟨H,d,none⟩ ys.length h cs t (ak K.en ys) N (by rw[J,ZE,G,←K.hz,L]) s (by rw[D];exact(aa1 R).symm) (oO A F) (by rw[D];exact hf) (by
   intro v X;obtain⟨y,_,Z⟩:=List.mem_flatMap.1 X;exact K.one y v Z)
  rw[I,D] at M;exact⟨ab.zero,λ_=>[(g,.cells cs' t (0,0))],_,.inl ((congrFun B w).trans (lV M)),rfl,by simpa [b,bN] using a8.setRow cs' s⟩
def ve(K:Kd P α)(p g off a b:Nat)(cs cs':Array Value)(t U TY:TypeId)(q:Nat)(x:aB)(u:Value)(ys:List α)(f: ∀bs,x.sat bs→dQ K.en u ys bs)(d:ys.length≤a)(hf:off+ys.length≤cs.size)(c:(cs.toList.take off++ak K.en ys++cs.toList.drop (off+(ak K.en ys).length)).toArray=cs')(e:K.k=1:=by rfl):MH P (λ_=> .int .i64 (ys.length:Int)):=⟨[p],yx P p g off a b cs cs' t K.TS U TY q x u,Lf K e p g off a b cs cs' t U TY q x u ys f d hf c⟩
theorem oZ{en:α→List Value}{d:α}{a m c:Nat}{ys:List α}{t:TypeId}(h1: ∀x,(en x).length=1)(h:ys.length=m):dQ en (.slice (some ⟨a,0,none⟩) m c) ys [(a,.cells ((cN en d m ys).toArray) t (0,0))]:=
 .inr ⟨a,0,_,t,(0,0),c,by rw[h],by simp,Ch (d:=d) h⟩
end
end
section
open Go Go.RowKit Go.Shelf
section
variable {α:Type} {P:Program} {en:α→List Value} {v:Value} {xs:List α}
def yy(P:Program)(p:Nat)(x:aB)(v:Value)(n:Nat)(o:Oper)(ρ:Operand→Value)(_:cv):MD:=match o.op with
 | .sliceToArrayPointer T a=>⟨[(p,x)],λ_=>[],[sE (ρ a) v,sE (P.underlying T) (some (.array n (P.elem T)))]⟩
 | _=>MD.bad
theorem Lh(p:Nat)(x:aB)(n:Nat)(h: ∀j,x.sat j→dQ en v xs j)(h0:0<n)(A:n≤xs.length):MD.ok P (λ_=>fj v 0) (yy P p x v n) []:=by
 intro o ρ C b w c f;unfold yy at b f⊢
 split at b
 ·rename_i T a d;simp only[d] at f⊢;simp only[Zq,Zn,or_false,forall_eq_or_imp,forall_eq,sE] at b;obtain⟨m,l⟩:=b;obtain⟨k,y⟩:=f.ent;obtain⟨g,q,s,t,u,r,rfl,_⟩:=(h _ k).some (i:=0) Om;refine⟨ab.zero,λ_=>[],w,.inl ?_,λx h=>by simp at h,by simpa using a8.refl w⟩;unfold execOp;simp only[d,m,ZK,run_arrayAt w T (P.elem T) n _ _ _ l Om,Zx,ZL,fj,add_lit,ZS]
 ·exact(bG b).elim
def C0(p:Nat)(x:aB)(n:Nat)(h: ∀a,x.sat a→dQ en v xs a)(h0:0<n)(b:n≤xs.length):MH P (λ_=>fj v 0):=⟨[],yy P p x v n,Lh p x n h h0 b⟩
theorem Li(p:Nat)(x:aB)(n:Nat)(l:List Value)(h: ∀i,x.sat i→dQ en v xs i)(u:ak en xs=l)(h0:0<xs.length)(y:l.length=n):MD.ok P (λ_=> .agg l.toArray) (m6 P p x v 0 n) []:=by
 intro o ρ C b w c f;unfold m6 at b f⊢
 split at b
 ·rename_i B a d;simp only[d] at f⊢;simp only[Zq,Zn,or_false,forall_eq_or_imp,forall_eq,sE,sB] at b;obtain⟨k,s,A⟩:=b;obtain⟨m,q⟩:=f.ent;obtain⟨g,H,F,t,G,D,rfl,r,j⟩:=(h _ m).some h0;refine⟨ab.zero,λ_=>[],w,.inl ?_,λx h=>by simp at h,by simpa using a8.refl w⟩;unfold execOp;simp only[fj,add_lit,ZS] at k;rw[u] at j;simp only[d,k,Instr.loadAt,Instr.sureAddr,ZK,ZL,Zx,Cw (q.obj _ r) j s (by rw[A,y])]
 ·exact(bG b).elim
def C1(p:Nat)(x:aB)(n:Nat)(l:List Value)(h: ∀a,x.sat a→dQ en v xs a)(b:ak en xs=l)(h0:0<xs.length)(c:l.length=n):MH P (λ_=> .agg l.toArray):=⟨[],m6 P p x v 0 n,Li p x n l h b h0 c⟩
theorem C2{d:α}{n:Nat}(a: ∀x,(en x).length=1)(h:xs.length=n):(cN en d n xs).length=n:=by rw[kX h,fR a h,ZP]
end
section
variable {α:Type} {P:Program} {en:α→List Value} {z:List Value} {e:TypeId} {xs ys:List α}
theorem Lj{T' TY:TypeId}(H:ec P T' e z)(d: ∀y,(en y).length=z.length)(h1: ∀y,∀u∈en y,u.oneCell'=true){w:World}{g:Nat}{cs:Array Value}{t:TypeId}(I:w.heap[g]? =some (.cells cs t (0,0)))
  (q:(cs.toList.drop 0).take (ak en xs).length=ak en xs) {A:Addr} {c:Nat} (Q:0<ys.length) (f: ∀j u,(ak en ys)[j]? =some u→w.cell? (A.add j)=some u) (n:xs.length+ys.length≤1000000):
  ∃D k w',(Builtin.append_ #[T',T'] TY #[.slice (some ⟨g,0,none⟩) xs.length xs.length,.slice (some A) ys.length c]).run P w= .ok D w'∧ar en z e D (xs++ys) k∧a8 [] k w w':=by
 obtain⟨N,⟨i,B,K,O,C,m,p⟩,G⟩:=H;have s:0<B.cells.size:=by rw[←Array.length_toList,m];exact G
 have L:(ak en ys).length=ys.length*i.size:=by rw[C];exact fR d rfl
 have M:(ak en xs).length=xs.length*i.size:=by rw[C];exact fR d rfl
 have o:(xs.length+ys.length)*i.bytes≤140737488355328:=aa5 (aas n p) Dc;have l:=oO (news:=ak en xs) I (off:=0) q;have h:=run_append_grow (P:=P) w T' TY e i B N K O ⟨g,0,none⟩ xs.length xs.length (ak en xs) M l A ys.length c (ak en ys) L f Om Om (growslice_fits Om o);have J:=grownCap_ge w (xs.length+ys.length) xs.length e;have F:(ak en xs).toArray++(ak en ys).toArray++Builtin.zeroCells B.cells (grownCap w (xs.length+ys.length) xs.length e-(xs.length+ys.length))=bH (ak en (xs++ys)) z (grownCap w (xs.length+ys.length) xs.length e-(xs.length+ys.length)):=by
  apply Array.toList_inj.1;unfold bH;simp only[Array.toList_append,xO _ _ s,m,ky]
 rw[F] at h;refine⟨_,_,_,h,.inr ⟨w.heap.size,grownCap w (xs.length+ys.length) xs.length e-(xs.length+ys.length),by rw[Zp];congr 1;omega,rfl⟩,?_⟩;have a:=(Below.refl w.heap.size w.drew).alloc (ZD _) (.cells (bH (ak en (xs++ys)) z (grownCap w (xs.length+ys.length) xs.length e-(xs.length+ys.length))) e);exact⟨a.os,a.tape,a.output,a.size,λx r=>by obtain rfl:=List.mem_singleton.1 r;exact World.alloc_heap_new w.drew _,λx r=>by obtain rfl:=List.mem_singleton.1 r;exact .inr (ZD _),List.pairwise_singleton _ _,λb n _=>a.block b n⟩
def yz(P:Program)(p a q:Nat)(T':TypeId)(g n:Nat)(cs:Array Value)(t:TypeId)(u:Value)(b:aB)(y:ab→aB)(o:Oper)(ρ:Operand→Value)(C:cv):MD:=
 ⟨[(a,ob g cs t),(q,b)],λE=>[(p,y E)],[sE (λw=>(execOp ρ o).run P w) (λw=>(rV T' o.type (.slice (some ⟨g,0,none⟩) n n) u).run P w)]⟩
theorem Ll{T':TypeId}(p m q g n:Nat)(cs:Array Value)(t:TypeId)(H:ec P T' e z)(u:Value)(r:aB)(l: ∀s,r.sat s→dQ en u ys s)(a: ∀y,(en y).length=z.length)(h1: ∀y,∀u∈en y,u.oneCell'=true)(K:xs.length=n)(i:(cs.toList.drop 0).take (ak en xs).length=ak en xs)(B:0<ys.length)(I:xs.length+ys.length≤1000000):
  MD.ok P (λE=>E.val 0) (yz P p m q T' g n cs t u r (λE=> .p (ar en z e (E.val 0) (xs++ys)))) []:=by
 subst K;intro o ρ C A w c b;simp only[yz,Zq,Zn,or_false,forall_eq,sE] at A b⊢;have L:c m=[(g,.cells cs t (0,0))]:=b.sat (m,ob g cs t) (by simp);have M:dQ en u ys (c q):=l _ (b.sat (q,r) (by simp));have d:=b.has;simp only[List.flatMap_cons,List.flatMap_nil,Zo] at d;have J:w.heap[g]? =some (.cells cs t (0,0)):=d.obj (g,.cells cs t (0,0)) (by rw[L];simp);have j:ez (c q) w:=⟨λx l=>d.obj x (List.mem_append_right _ l),(List.pairwise_append.1 d.nd).2.1⟩;rcases M with⟨rfl,_⟩ | ⟨U,Q,F,V,T,D,rfl,h,G⟩
 ·simp at B
 ·obtain⟨R,f,S,N,O,k⟩:=Lj (TY:=o.type) (c:=D) H a h1 J i B (oO (j.obj _ h) G) I;exact⟨ab.ov R,λ_=>f,S,.inl ((congrFun A w).trans (uK N)),O,by simpa using k⟩
def Lm{T':TypeId}(p f q g n:Nat)(cs:Array Value)(t:TypeId)(h:ec P T' e z)(u:Value)(c:aB)(k: ∀d,c.sat d→dQ en u ys d)(h1: ∀y,∀u∈en y,u.oneCell'=true)(a: ∀y,(en y).length=z.length)(j:xs.length=n)(b:(cs.toList.drop 0).take (ak en xs).length=ak en xs)(l:0<ys.length)(i:xs.length+ys.length≤1000000):MH P (λE=>E.val 0):=
 ⟨[],yz P p f q T' g n cs t u c (λE=> .p (ar en z e (E.val 0) (xs++ys))),Ll p f q g n cs t h u c k a h1 j b l i⟩
def Ln(K:Kd P α)(p j q g n:Nat)(cs:Array Value)(t:TypeId)(xs ys:List α)(u:Value)(c:aB)(h: ∀b,c.sat b→dQ K.en u ys b)(f:xs.length=n)(a:(cs.toList.drop 0).take (ak K.en xs).length=ak K.en xs)(i:0<ys.length)(d:xs.length+ys.length≤1000000):MH P (λE=>E.val 0):=Lm (xs:=xs) p j q g n cs t K.hT u c h K.one K.lz f a i d
end
end
section
open Go Go.RowKit Go.Shelf
def bw(x:Nat):Nat→Nat
 | 0=>x
 | k+1=>bw x k&&& (bw x k-1)
theorem sD(x:Nat): ∀k,bw x k≤x
 | 0=>ZD _
 | k+1=>aa5 Nat.and_le_left (sD x k)
theorem qc{x:Nat}(c:x<18446744073709551616){k:Nat}(h:pc (bw x k)+k=pc x)(h0:((bw x k:Nat):Int)≠0):pc (bw x (k+1))+(k+1)=pc x∧k<pc x:=by
 have a:=sD x k;have b:=Bl (bw x k) Om Om;show pc (bw x k&&& (bw x k-1))+(k+1)=pc x∧_;omega
theorem yA{x k:Nat}(h:pc (bw x k)+k=pc x)(h0:((bw x k:Nat):Int)=0):k=pc x:=by
 have a:bw x k=0:=by omega
 rw[a,xk] at h;omega
attribute [local irreducible] pc
theorem sH(x:Nat)(m:x<18446744073709551616):aa Zm 171 #[u6 (x:Int)] [] [] N0 (λ_=>iN (pc x)):=by
 refine fG Tryz.func171 λw l=>r0 [] [(2,i6 0)] [] (r0 [] [(3,i6 0)] [] ?_);refine lq (λk=>k≤pc x∧(pc (bw x k)+k=pc x)) (λk=>[(0,u6 ((bw x k:Nat):Int)),(3,iN k)]) (λ_ L=>L) (λk=>(pc x)-k) 0 ⟨by omega,(ZS (pc x))⟩ Kr Kr (λk ⟨g,d⟩=>?_);have f:=sD x k;have j:=xl x;refine r0 [] [(5,.bool (((bw x k:Nat):Int) != 0))] [] ?_;refine m9 ((bw x k:Nat):Int) 0 (λe c=>?_) λe c=>?_
 ·refine r0 [(2,.t (tv (av .sub 44 (.tmp 7) (.const (u6 1)) (u6 ((bw x k:Nat):Int)) (u6 1)) (λ_=>KY (b:=1) Om Om))),(3,.t (tv (av .and 44 (.tmp 6) (.tmp 8) (u6 ((bw x k:Nat):Int)) (u6 ((bw x k-1:Nat):Int))) (λ_=>CU (a:=bw x k) (b:=bw x k-1) Om Om)))] [(0,u6 ((bw x (k+1):Nat):Int))] [0] (r0 [(1,ad k 1)] [(3,iN (k+1))] [3] ?_);have i:=qc Om d As;exact le (k+1) ⟨by omega,(qc Om d As).1⟩ Om Kr [] Kr
 have h:=yA d As;obtain rfl:k=pc x:=by omega
 exact lx (r0 [] [(2,iN (pc x))] [2] (lf ab.zero [] [] []))
theorem Lp(x:Nat)(m:x<4294967296):aa Zm 230 #[.int .u32 (x:Int)] [] [] N0 (λ_=>iN (pc x)):=by
 refine fG Tryz.func230 λw l=>r0 [] [(2,i6 0)] [] (r0 [] [(3,i6 0)] [] ?_);refine lq (λk=>k≤pc x∧(pc (bw x k)+k=pc x)) (λk=>[(0,.int .u32 ((bw x k:Nat):Int)),(3,iN k)]) (λ_ L=>L) (λk=>(pc x)-k) 0 ⟨by omega,(ZS (pc x))⟩ Kr Kr (λk ⟨g,d⟩=>?_);have f:=sD x k;have j:=xl x;refine r0 [] [(5,.bool (((bw x k:Nat):Int) != 0))] [] ?_;refine m9 ((bw x k:Nat):Int) 0 (λe c=>?_) λe c=>?_
 ·refine r0 [(2,.t (tv (av .sub 329 (.tmp 7) (.const (.int .u32 1)) (.int .u32 ((bw x k:Nat):Int)) (.int .u32 1)) (λ_=>KZ (b:=1) Om Om))),(3,.t (tv (av .and 329 (.tmp 6) (.tmp 8) (.int .u32 ((bw x k:Nat):Int)) (.int .u32 ((bw x k-1:Nat):Int))) (λ_=>KW (a:=bw x k) (b:=bw x k-1) Om Om)))] [(0,.int .u32 ((bw x (k+1):Nat):Int))] [0] (r0 [(1,ad k 1)] [(3,iN (k+1))] [3] ?_);have i:=qc Om d As;exact le (k+1) ⟨by omega,(qc Om d As).1⟩ Om Kr [] Kr
 have h:=yA d As;obtain rfl:k=pc x:=by omega
 exact lx (r0 [] [(2,iN (pc x))] [2] (lf ab.zero [] [] []))
theorem C3(x:Nat)(m:x<256):aa Zm 251 #[u1 (x:Int)] [] [] N0 (λ_=>iN (pc x)):=by
 refine fG Tryz.func251 λw l=>r0 [] [(2,i6 0)] [] (r0 [] [(3,i6 0)] [] ?_);refine lq (λk=>k≤pc x∧(pc (bw x k)+k=pc x)) (λk=>[(0,u1 ((bw x k:Nat):Int)),(3,iN k)]) (λ_ L=>L) (λk=>(pc x)-k) 0 ⟨by omega,(ZS (pc x))⟩ Kr Kr (λk ⟨g,d⟩=>?_);have f:=sD x k;have j:=xl x;refine r0 [] [(5,.bool (((bw x k:Nat):Int) != 0))] [] ?_;refine m9 ((bw x k:Nat):Int) 0 (λe c=>?_) λe c=>?_
 ·refine r0 [(2,.t (tv (av .sub 5 (.tmp 7) (.const (u1 1)) (u1 ((bw x k:Nat):Int)) (u1 1)) (λ_=>K0 (b:=1) Om Om))),(3,.t (tv (av .and 5 (.tmp 6) (.tmp 8) (u1 ((bw x k:Nat):Int)) (u1 ((bw x k-1:Nat):Int))) (λ_=>KX (a:=bw x k) (b:=bw x k-1) Om Om)))] [(0,u1 ((bw x (k+1):Nat):Int))] [0] (r0 [(1,ad k 1)] [(3,iN (k+1))] [3] ?_);have i:=qc Om d As;exact le (k+1) ⟨by omega,(qc Om d As).1⟩ Om Kr [] Kr
 have h:=yA d As;obtain rfl:k=pc x:=by omega
 exact lx (r0 [] [(2,iN (pc x))] [2] (lf ab.zero [] [] []))
theorem C4:aa Zm 215 #[] [] [] N0 (λ_=>i6 8):=by
 exact fG Tryz.func215 λw a=>r0 [] [(0,i6 0)] [] (r0 [(1,.t (tv (Op.unary .xor (u1 0)) (λ_=>rfl))),(2,.c [] [] (C3 255 Om))] [(0,iN (pc 255))] [0] (ao (iN (pc 255)) ab.zero Kr [] [] []))
theorem Lq(x:Nat)(d:x<4294967296):aa Zm 199 #[.int .u32 (x:Int)] [] [] N0 (λ_=>iN (pc x%2)):=by
 exact fG Tryz.func199 λw b=>r0 [] [(2,i6 0)] [] (r0 [(1,.c [] [] (Lp x Om)),(2,.t (tv (av .and 3 (.tmp 4) (.const (i6 1)) (iN (pc x)) (i6 1)) (λ_=>CW (a:=pc x))))] [(2,iN (pc x%2))] [2] (lf ab.zero [] [] []))
def on(x k:Nat):Nat:=(eX k 0 x).length
theorem qd: ∀(k i x:Nat),eX (k+1) i x=eX k i x++(bif x/2^k%2==1 then[i+k] else[])
 | 0,i,x=>by
  show(if x%2=1 then i::eX 0 (i+1) (x/2) else eX 0 (i+1) (x/2))=[]++_;rw[aaA,aaL];by_cases h:x%2=1
  ·rw[ALifp h,h];rfl
  ·rw[ALifn h,show(x%2==1)=false from beq_false_of_ne h];rfl
 | k+1,i,x=>by
  have e:=qd k (i+1) (x/2);rw[ZM,aaB,←aaC,show i+1+k=i+(k+1) by omega] at e;show(if x%2=1 then i::eX (k+1) (i+1) (x/2) else eX (k+1) (i+1) (x/2))=(if x%2=1 then i::eX k (i+1) (x/2) else eX k (i+1) (x/2))++_;rw[e];by_cases h:x%2=1
  ·rw[ALifp h,ALifp h];rfl
  ·rw[ALifn h,ALifn h]
theorem C5(x k:Nat): ∀d,∃t,eX (k+d) 0 x=eX k 0 x++t
 | 0=>⟨[],(Zo _).symm⟩
 | d+1=>by
  obtain⟨t,h⟩:=C5 x k d;exact⟨_,by rw[show k+(d+1)=k+d+1 from rfl,qd,h,Z2]⟩
theorem Lr{x k:Nat}(h:(((x/2^k%2:Nat):Int)==1)=true):on x (k+1)=on x k+1:=by
 have a:x/2^k%2=1:=by have:=eq_of_beq h;omega
 unfold on;rw[qd,a,Zp];rfl
theorem Ls{x k:Nat}(h:(((x/2^k%2:Nat):Int)==1)=false):on x (k+1)=on x k:=by
 have a:(x/2^k%2==1)=false:=by have:=ne_of_beq_false h;exact beq_false_of_ne Om
 unfold on;rw[qd,a,Zp];rfl
theorem Lt{x k:Nat}(c:k<64)(h:(((x/2^k%2:Nat):Int)==1)=true):(bn x)[on x k]? =some k:=by
 have b:x/2^k%2=1:=by have:=eq_of_beq h;omega
 obtain⟨t,e⟩:=C5 x (k+1) (64-(k+1));have a:=qd k 0 x;rw[b] at a;rw[show k+1+(64-(k+1))=64 by omega,a,Z2] at e;show(eX 64 0 x)[(eX k 0 x).length]? =_;rw[e,Zz (ZD _),Z8];show some (0+k)=_;rw[ZG]
theorem Lu{x k:Nat}(e:k≤64)(c:((x/2^k:Nat):Int)=0):on x k=(bn x).length:=by
 have h:x/2^k=0:=Int.ofNat.inj c;have b: ∀d,eX (k+d) 0 x=eX k 0 x:=by
  intro d
  induction d with
  | zero=>rfl
  | succ d ih=>
   rw[show k+(d+1)=k+d+1 from rfl,qd,ih,Nat.pow_add,←ZM,h,Nat.zero_div];exact Zo _
 have a:=b (64-k);rw[show k+(64-k)=64 by omega] at a;exact ALca aa4 a.symm
theorem C6{x:Nat}(k:Nat):x/2^(k+1)=x/2^k/2^1:=by rw[aaC,←ZM]
theorem yB{x k:Nat}(b:x<18446744073709551616)(a:k≤64)(h:((x/2^k:Nat):Int)≠0):k<64:=by
 refine Nat.lt_of_le_of_ne a λe=>?_;subst e;exact h (by have:x/2^64=0:=Nat.div_eq_of_lt b;omega)
theorem C7(g x:Nat)(h:x<18446744073709551616):pY 5 Zm 172 #[pt g 0] (λ(i:Nat)=>#[iN i]) (bn x) (ZR []) [(g,.cells #[u6 (x:Int)] 44 (0,0))]:=by
 refine gG (KO:=[]) Tryz.func172 (λw z y D B n u r=>?_);refine r0 [] [(3,i6 0)] [] ?_;refine j9 (λk=>k≤64) (λk=>[(3,iN k)]) (λk L=>L.set 0 (ob g #[u6 ((x/2^k:Nat):Int)] 44)) (λk=>64-k) (λk=>on x k) 0 Om r Kr (by rw[aaA,aaL];kernel_rfl) (λk A C v a=>?_);have c:x/2^k<18446744073709551616:=aah (Nat.div_le_self _ _) h;refine r0 [(0,.l 0)] [(5,.bool (((x/2^k:Nat):Int) != 0))] [] ?_;refine m9 ((x/2^k:Nat):Int) 0 (λq j=>?_) λq j=>?_
 ·cases f:(((x/2^k%2:Nat):Int)==1)
  case true=>
   have m:=eq_of_beq f;refine iy n u a 6 (λ_=>[(0,.l 0),(1,.t (tv (av .and 44 (.tmp 8) (.const (u6 1)) (u6 ((x/2^k:Nat):Int)) (u6 1)) (λ_=>CV c))),(2,.t (tk (show Value.bool (((x/2^k%2:Nat):Int)==1)= .bool true from ALca Value.bool f)))]) (λ_=>[(11,.bool true),(12,.func (.yield w) #[] #[]),(13,iN k)]) [] (λ_ L=>L) (λ_=>[ob g #[u6 ((x/2^k:Nat):Int)] 44]) [0] (Lt (yB h Om As) As) (λF o p b=>?_);refine cF _ rfl (rs [(0,.l 0),(1,.t (tv (av .shr 44 (.tmp 17) (.const (u6 1)) (u6 ((x/2^k:Nat):Int)) (u6 1)) (λ_=>uA 1 Dc))),(2,.s 0)] 0 (ob g #[u6 ((x/2^k/2^1:Nat):Int)] 44) (r0 [(1,ad k 1)] [(3,iN (k+1))] [3] ?_));have e:=yB h Om As;exact iR (k+1) Om (by(rw[Lr As]);exact b) Om Kr [0] (by rw[C6 (x:=x) k];kernel_rfl)
  have m:=ne_of_beq_false f;refine rF [(0,.l 0),(1,.t (tv (av .and 44 (.tmp 8) (.const (u6 1)) (u6 ((x/2^k:Nat):Int)) (u6 1)) (λ_=>CV c))),(2,.t (tk (show Value.bool (((x/2^k%2:Nat):Int)==1)= .bool false from ALca Value.bool f))),(4,.d),(5,.d),(6,.d),(7,.d)] 16 (rs [(0,.l 0),(1,.t (tv (av .shr 44 (.tmp 17) (.const (u6 1)) (u6 ((x/2^k:Nat):Int)) (u6 1)) (λ_=>uA 1 Dc))),(2,.s 0)] 0 (ob g #[u6 ((x/2^k/2^1:Nat):Int)] 44) (r0 [(1,ad k 1)] [(3,iN (k+1))] [3] ?_));have e:=yB h Om As;exact iR (k+1) Om (by(rw[Ls As]);exact a) Om Kr [0] (by rw[C6 (x:=x) k];kernel_rfl)
 refine ka ?_;exact k7 n a (by exact Lu Om As) [ob g #[u6 ((x/2^k:Nat):Int)] 44] [0]
theorem C8(x:Nat):aa Zm 132 #[u6 (x:Int)] [] [] (λE=>[ob (E.y 0) #[u6 (x:Int)] 44]) (λE=> .func (.func 172) #[] #[pt ((E.y 0)) 0]):=by
 exact fG Tryz.func132 λw b=>ra (λa=>[(1,pt (B0 a) 0),(2,.nilFunc)]) (λa=>[ob (B0 a) #[u6 (x:Int)] 44]) λa=>r0 [] [(2,.func (.func 172) #[] #[pt (B0 a) 0])] [2] (lf (.l [(a 0).y 0] [] []) [0] [] [])
end
section
open Go Go.RowKit Go.Shelf
attribute [local irreducible] pc
def ch(k:Nat):Nat→List Nat
 | 0=>[]
 | j+1=>ch k j++(bif ((pc j:Nat):Int)==((k:Nat):Int) then[j] else[])
theorem C9{k j:Nat}(h:(((pc j:Nat):Int)==((k:Nat):Int))=true):(ch k (j+1)).length=(ch k j).length+1:=by
 show(ch k j++_).length=_;rw[h,Zp];rfl
theorem Da{k j:Nat}(h:(((pc j:Nat):Int)==((k:Nat):Int))=false):(ch k (j+1)).length=(ch k j).length:=by
 show(ch k j++_).length=_;rw[h,Zp];rfl
theorem Db(k j:Nat): ∀d,∃t,ch k (j+d)=ch k j++t
 | 0=>⟨[],(Zo _).symm⟩
 | d+1=>by
  obtain⟨t,h⟩:=Db k j d;exact⟨_,by show ch k (j+d)++_=_;rw[h,Z2]⟩
theorem Dd{k j n:Nat}(a:j<n)(h:(((pc j:Nat):Int)==((k:Nat):Int))=true):(ch k n)[(ch k j).length]? =some j:=by
 obtain⟨t,e⟩:=Db k (j+1) (n-(j+1));rw[show j+1+(n-(j+1))=n by omega,show ch k (j+1)=ch k j++[j] by show ch k j++_=_;rw[h];rfl,Z2] at e;rw[e,Zz (ZD _),Z8];rfl
theorem De{P:Program}{T:TypeId}{x y:Operand}{w:World}:(av .shl T x y (.int .u64 1) (.int .u64 8)).run P w= .ok (.int .u64 256) w:=uB (a:=1) (yk:= .u64) 8 Dc Dc
theorem Lv(g b:Nat):ft 5 Zm 214 #[pt g 0,pt b 0] (λ(i:Nat)=>#[u1 ((UInt8.ofNat i).toNat:Int)]) (ch 3 256) (ZR [[(g,.cells #[i6 3] 3 (0,0))],[(b,.cells #[i6 8] 3 (0,0))]]):=by
 refine gi (KO:=[[(g,.cells #[i6 3] 3 (0,0))],[(b,.cells #[i6 8] 3 (0,0))]]) Tryz.func214 (λv y x C A n s r=>?_);refine rF [(0,.l 0),(3,.l 0),(4,.l 1),(8,.l 1),(9,.c [] [] (C4))] 17 (r0 [(0,.l 1),(1,.t (tv (convert 3 201 (i6 8)) (λ_=>m5 Tryz.underlying3 Tryz.underlying201 (c:=8) Om))),(2,.t (tv (av .shl 44 (.const (u6 1)) (.tmp 19) (u6 1) (u6 8)) (λ_=>De)))] [(20,u6 256),(21,u6 0)] [] ?_);refine j9 (λk=>k≤256) (λk=>[(21,u6 (k:Int))]) (λ_ L=>L) (λk=>256-k) (λk=>(ch 3 k).length) 0 Om r Kr Kr (λk z B u f=>?_);refine r0 [] [(22,.bool (decide ((k:Int)<256)))] [] ?_;refine cj (k:Int) 256 (λq m=>?_) λq m=>?_
 ·refine r0 [] [(4,u6 (k:Int))] [] ?_;cases e:((((pc k):Nat):Int)==3)
  case true=>
   have h:=eq_of_beq e;refine iy n s f 8 (λ_=>[(1,.c [] [] (sH k Om)),(2,.l 0),(3,.t (tk (show Value.bool ((((pc k):Nat):Int)==3)= .bool true from ALca Value.bool e))),(7,.t (tv (convert 44 5 (u6 (k:Int))) (λ_=>uC Tryz.underlying44 Tryz.underlying5)))]) (λ_=>[(28,.bool true),(29,.func (.yield v) #[] #[]),(31,u1 ((UInt8.ofNat k).toNat:Int))]) [] (λ_ L=>L) N0 [0,1] (Dd Om As) (λw o p j=>?_);refine cF _ rfl (r0 [(0,.t (tb (a:=u6 (k:Int)) (b:=u6 1) λ_ _ _ _=>uJ (a:=k) (b:=1) Om))] [(21,u6 ((k+1:Nat):Int))] [21] ?_);exact iR (k+1) Om (by(rw[C9 As]);exact j) Om Kr [0,1] Kr
  have h:=ne_of_beq_false e;refine rF [(1,.c [] [] (sH k Om)),(2,.l 0),(3,.t (tk (show Value.bool ((((pc k):Nat):Int)==3)= .bool false from ALca Value.bool e))),(5,.d),(6,.d),(7,.d),(8,.d),(9,.d)] 34 (r0 [(0,.t (tb (a:=u6 (k:Int)) (b:=u6 1) λ_ _ _ _=>uJ (a:=k) (b:=1) Om))] [(21,u6 ((k+1:Nat):Int))] [21] ?_);exact iR (k+1) Om (by(rw[Da As]);exact f) Om Kr [0,1] Kr
 obtain rfl:k=256:=by omega
 refine ka ?_;exact k7 n f bc [] [0,1]
theorem Lw(g b:Nat):ft 5 Zm 214 #[pt g 0,pt b 0] (λ(i:Nat)=>#[u1 ((UInt8.ofNat i).toNat:Int)]) (ch 5 256) (ZR [[(g,.cells #[i6 5] 3 (0,0))],[(b,.cells #[i6 8] 3 (0,0))]]):=by
 refine gi (KO:=[[(g,.cells #[i6 5] 3 (0,0))],[(b,.cells #[i6 8] 3 (0,0))]]) Tryz.func214 (λv y x C A n s r=>?_);refine rF [(0,.l 0),(3,.l 0),(4,.l 1),(8,.l 1),(9,.c [] [] (C4))] 17 (r0 [(0,.l 1),(1,.t (tv (convert 3 201 (i6 8)) (λ_=>m5 Tryz.underlying3 Tryz.underlying201 (c:=8) Om))),(2,.t (tv (av .shl 44 (.const (u6 1)) (.tmp 19) (u6 1) (u6 8)) (λ_=>De)))] [(20,u6 256),(21,u6 0)] [] ?_);refine j9 (λk=>k≤256) (λk=>[(21,u6 (k:Int))]) (λ_ L=>L) (λk=>256-k) (λk=>(ch 5 k).length) 0 Om r Kr Kr (λk z B u f=>?_);refine r0 [] [(22,.bool (decide ((k:Int)<256)))] [] ?_;refine cj (k:Int) 256 (λq m=>?_) λq m=>?_
 ·refine r0 [] [(4,u6 (k:Int))] [] ?_;cases e:((((pc k):Nat):Int)==5)
  case true=>
   have h:=eq_of_beq e;refine iy n s f 8 (λ_=>[(1,.c [] [] (sH k Om)),(2,.l 0),(3,.t (tk (show Value.bool ((((pc k):Nat):Int)==5)= .bool true from ALca Value.bool e))),(7,.t (tv (convert 44 5 (u6 (k:Int))) (λ_=>uC Tryz.underlying44 Tryz.underlying5)))]) (λ_=>[(28,.bool true),(29,.func (.yield v) #[] #[]),(31,u1 ((UInt8.ofNat k).toNat:Int))]) [] (λ_ L=>L) N0 [0,1] (Dd Om As) (λw o p j=>?_);refine cF _ rfl (r0 [(0,.t (tb (a:=u6 (k:Int)) (b:=u6 1) λ_ _ _ _=>uJ (a:=k) (b:=1) Om))] [(21,u6 ((k+1:Nat):Int))] [21] ?_);exact iR (k+1) Om (by(rw[C9 As]);exact j) Om Kr [0,1] Kr
  have h:=ne_of_beq_false e;refine rF [(1,.c [] [] (sH k Om)),(2,.l 0),(3,.t (tk (show Value.bool ((((pc k):Nat):Int)==5)= .bool false from ALca Value.bool e))),(5,.d),(6,.d),(7,.d),(8,.d),(9,.d)] 34 (r0 [(0,.t (tb (a:=u6 (k:Int)) (b:=u6 1) λ_ _ _ _=>uJ (a:=k) (b:=1) Om))] [(21,u6 ((k+1:Nat):Int))] [21] ?_);exact iR (k+1) Om (by(rw[Da As]);exact f) Om Kr [0,1] Kr
 obtain rfl:k=256:=by omega
 refine ka ?_;exact k7 n f bc [] [0,1]
theorem Df(n k:Int):aa Zm 180 #[i6 n,i6 k] [] [] (λE=>[ob (E.y 0) #[i6 k] 3,ob (E.y 1) #[i6 n] 3]) (λE=> .func (.func 214) #[] #[pt ((E.y 0)) 0,pt ((E.y 1)) 0]):=by
 exact fG Tryz.func180 λw b=>ra (λa=>[(2,pt (B0 a) 0),(3,pt (B1 a) 0),(4,.nilFunc)]) (λa=>[ob (B0 a) #[i6 n] 3,ob (B1 a) #[i6 k] 3]) λa=>r0 [] [(4,.func (.func 214) #[] #[pt (B1 a) 0,pt (B0 a) 0])] [4] (lf (.l [(a 1).y 0,(a 0).y 0] [] []) [1,0] [] [])
end
end E
def xt(a:Nat):Nat:=(a*2)^^^(if a.testBit 7 then 285 else 0)
def vf:List Nat:=[1,2,4,8,16,32,64,128,29,58,116,232,205,135,19,38,76,152,45,90,180,117,234,201,143,3,6,12,24,48,96,192,157,39,78,156,37,74,148,53,106,212,181,119,238,193,159,35,70,140,5,10,20,40,80,160,93,186,105,210,185,111,222,161,95,190,97,194,153,47,94,188,101,202,137,15,30,60,120,240,253,231,211,187,107,214,177,127,254,225,223,163,91,182,113,226,217,175,67,134,17,34,68,136,13,26,52,104,208,189,103,206,129,31,62,124,248,237,199,147,59,118,236,197,151,51,102,204,133,23,46,92,184,109,218,169,79,158,33,66,132,21,42,84,168,77,154,41,82,164,85,170,73,146,57,114,228,213,183,115,230,209,191,99,198,145,63,126,252,229,215,179,123,246,241,255,227,219,171,75,150,49,98,196,149,55,110,220,165,87,174,65,130,25,50,100,200,141,7,14,28,56,112,224,221,167,83,166,81,162,89,178,121,242,249,239,195,155,43,86,172,69,138,9,18,36,72,144,61,122,244,245,247,243,251,235,203,139,11,22,44,88,176,125,250,233,207,131,27,54,108,216,173,71,142]
def aY:List Nat:=[0,0,1,25,2,50,26,198,3,223,51,238,27,104,199,75,4,100,224,14,52,141,239,129,28,193,105,248,200,8,76,113,5,138,101,47,225,36,15,33,53,147,142,218,240,18,130,69,29,181,194,125,106,39,249,185,201,154,9,120,77,228,114,166,6,191,139,98,102,221,48,253,226,152,37,179,16,145,34,136,54,208,148,206,143,150,219,189,241,210,19,92,131,56,70,64,30,66,182,163,195,72,126,110,107,58,40,84,250,133,186,61,202,94,155,159,10,21,121,43,78,212,229,172,115,243,167,87,7,112,192,247,140,128,99,13,103,74,222,237,49,197,254,24,227,165,153,119,38,184,180,124,17,68,146,217,35,32,137,46,55,63,209,91,149,188,207,205,144,135,151,178,220,252,190,97,242,86,211,171,20,42,93,158,132,60,57,83,71,109,65,162,31,45,67,216,183,123,164,118,196,23,73,236,127,12,111,246,108,161,59,82,41,157,85,170,251,96,134,177,187,204,62,90,203,89,95,176,156,169,160,81,11,245,22,235,122,117,44,215,79,174,213,233,230,231,173,232,116,214,244,234,168,80,88,175]
def gE(i:Nat):Nat:=vf.getD i 0
def gL(a:Nat):Nat:=aY.getD a 0
theorem yC: ∀a,a<256→a≠0→gE (gL a)=a:=by decide+kernel
theorem Dg: ∀i,i<255→gL (gE i)=i:=by decide+kernel
theorem vg: ∀i,i<255→0<gE i∧gE i<256:=by decide+kernel
theorem sJ: ∀i,i<256→gL i<255:=by decide+kernel
theorem Lx: ∀i,i<255→xt (gE i)=gE ((i+1)%255):=by decide+kernel
theorem Ly:vf.length=255:=by decide+kernel
def dk(a b:Nat):Nat:=if a=0∨b=0 then 0 else gE ((gL a+gL b)%255)
theorem Lz(a b:Nat):(a^^^b)*2=(a*2)^^^(b*2):=by
 have h:=@Nat.shiftLeft_xor_distrib 1 a b;simpa [Nat.shiftLeft_eq] using h
theorem LA(a b i k:Nat):(if(a^^^b).testBit i then k else 0)=(if a.testBit i then k else 0)^^^(if b.testBit i then k else 0):=by
 rw[Nat.testBit_xor];cases a.testBit i<;>cases b.testBit i<;>simp
theorem LB(a b c d:Nat):(a^^^b)^^^(c^^^d)=(a^^^c)^^^(b^^^d):=by
 ac_rfl
theorem LC(a b:Nat):xt (a^^^b)=xt a^^^xt b:=by
 unfold xt;rw[Lz,LA,LB]
theorem LD:xt 0=0:=by decide
theorem LF(a b:Nat):dk a b<256:=by
 unfold dk
 split
 ·omega
 ·exact(vg _ (ZQ _ Om)).2
theorem LH(a b:Nat):dk a b=dk b a:=by
 unfold dk;rw[aa6 (gL a)];simp only[or_comm]
theorem vh(a:Nat):dk a 0=0:=by simp [dk]
theorem vi(a:Nat):dk 0 a=0:=by simp [dk]
theorem sK(i b:Nat)(a:i<255)(c:b≠0):dk (gE i) b=gE ((i+gL b)%255):=by
 have h:=vg i a;unfold dk;rw[ALifn Om,Dg i a]
theorem yD(a b:Nat)(c:a≠0)(d:b≠0):dk a b≠0:=by
 unfold dk;rw[ALifn Om];have:=(vg ((gL a+gL b)%255) (ZQ _ Om)).1;omega
theorem Dh(a b:Nat)(c:a≠0)(d:b≠0):gL (dk a b)=(gL a+gL b)%255:=by
 unfold dk;rw[ALifn Om,Dg _ (ZQ _ Om)]
theorem LJ(a b c:Nat):dk (dk a b) c=dk a (dk b c):=by
 by_cases e:a=0
 ·subst e;simp [vi]
 by_cases d:b=0
 ·subst d;simp [vi,vh]
 by_cases f:c=0
 ·subst f;simp [vh]
 have i:=yD a b e d;have j:=yD b c d f;have g:dk (dk a b) c=gE ((gL (dk a b)+gL c)%255):=by rw[dk,ALifn Om]
 have h:dk a (dk b c)=gE ((gL a+gL (dk b c))%255):=by rw[dk,ALifn Om]
 rw[g,h,Dh a b e d,Dh b c d f]
 congr 1
 omega
theorem yE(i b:Nat)(c:i+1<255):dk (gE (i+1)) b=xt (dk (gE i) b):=by
 by_cases a:b=0
 ·subst a;simp [vh,LD]
 ·rw[sK _ _ c a,sK _ _ Om a,Lx _ (ZQ _ Om)]
  congr 1
  omega
theorem Di:gE 0=1:=by decide
theorem vk(b:Nat)(a:b<256):dk 1 b=b:=by
 by_cases h:b=0
 ·subst h;rfl
 ·have:=sJ b a;rw[←Di,sK 0 b Om h,ZG,Zy this,yC b a h]
theorem LK(i:Nat):i<255→∀b c,b<256→c<256→dk (gE i) (b^^^c)=dk (gE i) b^^^dk (gE i) c:=by
 induction i with
 | zero=>
  intro _ b c a d;have f:b^^^c<256:=Nat.xor_lt_two_pow (n:=8) a d;rw[Di,vk _ f,vk _ a,vk _ d]
 | succ i ih=>
  intro e b c a d;rw[yE _ _ e,yE _ _ e,yE _ _ e,ih Om b c a d,LC]
theorem LM(a b c:Nat)(d:a<256)(e:b<256)(f:c<256):dk a (b^^^c)=dk a b^^^dk a c:=by
 by_cases h:a=0
 ·subst h;simp [vi]
 ·have:=sJ a d;rw[←yC a d h];exact LK _ this b c e f
def Zb(b i k:Nat):Nat:=if b/2^i%2=1 then k else 0
theorem Y4(b i k:Nat)(a:k<256):Zb b i k<256:=by unfold Zb;split<;>omega
def nh(x y:Nat):Nat:=if x=0 then 0 else gE ((gL x+255-gL y)%255)
theorem Dj(x y:Nat):nh x y<256:=by
 unfold nh;split
 ·omega
 ·exact(vg _ (ZQ _ Om)).2
theorem Dk(x y:Nat)(lx:x<256)(ly:y<256)(a:y≠0):dk (nh x y) y=x:=by
 unfold nh;split
 ·rename_i h;rw[h,vi]
 ·rename_i h;have b:=sJ x lx;have c:=sJ y ly;rw[sK _ _ (ZQ _ Om) a,show((gL x+255-gL y)%255+gL y)%255=gL x from by omega,yC x lx h]
def gm(a b:UInt8):UInt8:=UInt8.ofNat (dk a.toNat b.toNat)
theorem k8(a b:UInt8):(gm a b).toNat=dk a.toNat b.toNat:=by
 unfold gm;rw[ZW];exact Zy (LF _ _)
theorem kb(a b:UInt8):gm a b=gm b a:=by unfold gm;rw[LH]
theorem ni(a b c:UInt8):gm (gm a b) c=gm a (gm b c):=by
 apply UInt8.toNat_inj.1;rw[k8,k8,k8,k8,LJ]
theorem yF(a b c:UInt8):gm a (b^^^c)=gm a b^^^gm a c:=by
 apply UInt8.toNat_inj.1;rw[k8,aaS,aaS,k8,k8,LM _ _ _ a.toNat_lt b.toNat_lt c.toNat_lt]
theorem vm(a b c:UInt8):gm (b^^^c) a=gm b a^^^gm c a:=by rw[kb,yF,kb a b,kb a c]
theorem mb(a:UInt8):gm a 0=0:=by unfold gm;rw[UInt8.toNat_zero,vh];rfl
theorem iS(a:UInt8):gm 0 a=0:=by rw[kb,mb]
theorem Dl(a:UInt8):gm 1 a=a:=by
 apply UInt8.toNat_inj.1;rw[k8,show(1:UInt8).toNat=1 from rfl,vk _ a.toNat_lt]
theorem qe(a:UInt8):gm a 1=a:=by rw[kb,Dl]
theorem Dm(a b:UInt8)(d:a≠0)(f:b≠0):gm a b≠0:=by
 intro h;have c:=ALca UInt8.toNat h;rw[k8] at c;exact yD _ _ (λe=>d (UInt8.toNat_inj.1 e)) (λe=>f (UInt8.toNat_inj.1 e)) c
theorem LN(a b c:UInt8):gm a (gm b c)=gm b (gm a c):=by rw[←ni,kb a b,ni]
theorem x4(a b c d:UInt8):(a^^^b)^^^(c^^^d)=(a^^^c)^^^(b^^^d):=by ac_rfl
namespace E
section
open Go Go.RowKit Go.Shelf
def aR:List UInt8:=vf.map UInt8.ofNat
def dC(n:Int):Nat:=(n%255).toNat
theorem yG(n:Int):dC n<255:=by unfold dC;omega
theorem LP{P:Program}{T:TypeId}{x y:Operand}{w:World}{a:Int}(h0: -9223372036854775808≤a)(h1:a≤9223372036854775807):(av .rem T x y (.int .i64 a) (.int .i64 255)).run P w= .ok (.int .i64 (a.tmod 255)) w:=rfl
theorem LQ(n:Int):(bif decide (n.tmod 255<0) then n.tmod 255+255 else n.tmod 255)=((dC n:Nat):Int):=by
 have h:=Int.tmod_eq_emod (a:=n) (b:=255);unfold dC;by_cases c:n.tmod 255<0
 ·rw[cC c,ALct];split at h<;>omega
 ·rw[bl c,ALcf];split at h<;>omega
def tw(a:UInt8):UInt8:=UInt8.ofNat (xt a.toNat)
theorem Dn: ∀n,n<256→(bif (((UInt8.ofNat n&&& 128).toNat:Int) != 0) then(UInt8.ofNat (n*2^1)^^^29) else UInt8.ofNat (n*2^1))=UInt8.ofNat (xt n):=by decide+kernel
theorem LR{a:UInt8}(h:(((a&&& 128).toNat:Int) != 0)=true):Value.int .u8 ((UInt8.ofNat (a.toNat*2^1)^^^29).toNat:Int)= .int .u8 ((tw a).toNat:Int):=by
 have b:=Dn a.toNat a.toNat_lt;rw[aaM,h] at b;exact ALca (λz:UInt8=>Value.int .u8 (z.toNat:Int)) b
theorem LS{a:UInt8}(h:(((a&&& 128).toNat:Int) != 0)=false):Value.int .u8 ((UInt8.ofNat (a.toNat*2^1)).toNat:Int)= .int .u8 ((tw a).toNat:Int):=by
 have b:=Dn a.toNat a.toNat_lt;rw[aaM,h] at b;exact ALca (λz:UInt8=>Value.int .u8 (z.toNat:Int)) b
theorem LU(a:UInt8):aa Zm 184 #[u1 (a.toNat:Int)] [] [] N0 (λ_=>u1 ((tw a).toNat:Int)):=by
 refine fG Tryz.func184 λw d=>r0 [] [(2,u1 0)] [] (r0 [(1,.t (tb (a:=u1 (a.toNat:Int)) (b:=u1 128) λ_ _ _ _=>xN (a) ((128:UInt8))))] [(5,.bool (((a&&& (128:UInt8)).toNat:Int) != 0))] [] ?_);refine cB (((a&&& (128:UInt8)).toNat:Int) != 0) (λc=>?_) λc=>?_
 ·exact r0 [(1,.t (tv (av .shl 5 (.tmp 6) (.const (u6 1)) (u1 (a.toNat:Int)) (u6 1)) (λ_=>vc 1 Dc))),(2,.t (tb (a:=u1 ((UInt8.ofNat (a.toNat*2^1)).toNat:Int)) (b:=u1 29) λ_ _ _ _=>lX ((UInt8.ofNat (a.toNat*2^1))) ((29:UInt8))))] [(2,u1 (((UInt8.ofNat (a.toNat*2^1))^^^(29:UInt8)).toNat:Int))] [2] (ao (u1 (((UInt8.ofNat (a.toNat*2^1))^^^(29:UInt8)).toNat:Int)) ab.zero (by exact LR As) [] [] [])
 exact r0 [(1,.t (tv (av .shl 5 (.tmp 9) (.const (u6 1)) (u1 (a.toNat:Int)) (u6 1)) (λ_=>vc 1 Dc)))] [(2,u1 ((UInt8.ofNat (a.toNat*2^1)).toNat:Int))] [2] (ao (u1 ((UInt8.ofNat (a.toNat*2^1)).toNat:Int)) ab.zero (by exact LS As) [] [] [])
theorem LV(n:Int)(h0: -9223372036854775808≤n)(h1:n≤9223372036854775807):aa Zm 218 #[i6 n] [] [] N0 (λ_=>iN (dC n)):=by
 have f:=Int.tmod_lt_of_pos n (show(0:Int)<255 by omega);have d:=Int.lt_tmod_of_pos n (show(0:Int)<255 by omega);refine fG Tryz.func218 λw e=>r0 [] [(2,i6 0)] [] (r0 [(1,.t (tv (av .rem 3 (.tmp 3) (.const (i6 255)) (i6 n) (i6 255)) (λ_=>LP h0 h1)))] [(0,i6 (n.tmod 255))] [0] (r0 [] [(6,.bool (decide ((n.tmod 255)<0)))] [] ?_));refine cJ (decide ((n.tmod 255)<0)) (λc=>[(0,i6 (bif c then((n.tmod 255)+255) else(n.tmod 255)))]) N0 (λb=>?_) (λb=>?_) ?_
 ·have a:=of_decide_eq_true b;refine r0 [(1,aI (n.tmod 255) (255) Om)] [(0,i6 ((n.tmod 255)+255))] [0] ?_;exact cm Kr [] Kr
 ·have a:=of_decide_eq_false b;exact cm Kr [] Kr
 exact r0 [] [(2,i6 (bif decide ((n.tmod 255)<0) then((n.tmod 255)+255) else(n.tmod 255)))] [2] (ao (i6 (bif decide ((n.tmod 255)<0) then((n.tmod 255)+255) else(n.tmod 255))) ab.zero (by exact ALca (Value.int .i64) (LQ n)) [] [] [])
def gv:Nat→UInt8
 | 0=>1
 | k+1=>tw (gv k)
def ij:Nat→List UInt8
 | 0=>Zl 255 0
 | k+1=>(ij k).set k (gv k)
def ik:Nat→List Nat
 | 0=>Zl 256 0
 | k+1=>(ik k).set (gv k).toNat k
theorem Dp: ∀k,(ij k).length=255
 | 0=>Zs ..
 | k+1=>by rw[ij,Zu];exact Dp k
theorem Dq: ∀k,(ik k).length=256
 | 0=>Zs ..
 | k+1=>by rw[ik,Zu];exact Dq k
theorem LW:ij 255=aR:=by decide+kernel
theorem LX:ik 255=aY:=by decide+kernel
theorem LY(k:Nat):(gv k).toNat<256:=(gv k).toNat_lt
attribute [local irreducible] aR aY ij ik gv
theorem LZ:aa Zm 142 #[] [] [] (λE=>[ob (E.y 0) (rB 255 aR++rN 256 aY).toArray 312]) (λE=>pt ((E.y 0)) 0):=by
 refine fG Tryz.func142 λw f=>r0 [] [(0,.pointer none)] [] (ra (λa=>[(1,pt (B1 a) 0)]) (λa=>[ob (B1 a) (rB 255 (Zl 255 0)++rN 256 (Zl 256 0)).toArray 312]) λa=>r0 [] [(2,u1 1)] [] (r0 [] [(6,i6 0)] [] ?_));refine lq (λk=>k≤255) (λk=>[(2,u1 ((gv k).toNat:Int)),(6,iN k)]) (λk L=>L.set 0 (ob (B1 a) (rB 255 (ij k)++rN 256 (ik k)).toArray 312)) (λk=>255-k) 0 Om Kr (by rw[show ij 0=Zl 255 0 by unfold ij;rfl,show ik 0=Zl 256 0 by unfold ik;rfl];kernel_rfl) (λk e=>?_);have g:=LY k;refine r0 [] [(7,.bool (decide ((k:Int)<255)))] [] ?_;refine cj (k:Int) 255 (λd b=>?_) λd b=>?_
 ·exact r0 [] [(3,iN k)] [] (rs [(5,iA 310 .i64 (B1 a) 0 255 1 k),(6,wM (A:=[]) (C:=(rN 256 (ik k):List Value)) 0 (B1 a) k 312 (u1 ((gv k).toNat:Int)) (rB 255 (ij k)++rN 256 (ik k)) (rB 255 ((ij k).set k (gv k))++rN 256 (ik k)) rfl rfl rfl (j6 Om) (mC (Dp ..)))] 0 (ob (B1 a) (rB 255 ((ij k).set k (gv k))++rN 256 (ik k)).toArray 312) (rs [(5,iA 296 .u8 (B1 a) 255 256 1 ((gv k).toNat)),(6,wM (A:=(rB 255 ((ij k).set k (gv k)):List Value)) (C:=[]) 0 (B1 a) ((gv k).toNat) 312 (iN k) (rB 255 ((ij k).set k (gv k))++rN 256 (ik k)) (rB 255 ((ij k).set k (gv k))++rN 256 ((ik k).set ((gv k).toNat) k)) (by rw[Zo]) (by rw[Zo]) kD (j6 Om) (JD (Dq ..)))] 0 (ob (B1 a) (rB 255 ((ij k).set k (gv k))++rN 256 ((ik k).set ((gv k).toNat) k)).toArray 312) (r0 [(1,.c [] [] (LU (gv k)))] [(2,u1 ((tw (gv k)).toNat:Int))] [2] (r0 [(0,ad k 1)] [(6,iN (k+1))] [6] (le (k+1) Om Om Kr [0] (by rw[show ij (k+1)=(ij k).set k (gv k) by rw[ij],show ik (k+1)=(ik k).set (gv k).toNat k by rw[ik]];kernel_rfl))))))
 obtain rfl:k=255:=by omega
 exact cl [ob (B1 a) (rB 255 aR++rN 256 aY).toArray 312] (by rw[LW,LX];kernel_rfl) (lx (r0 [] [(0,pt (B1 a) 0)] [0] (lf (.l [(a 1).y 0] [] []) [0] [] [])))
theorem vn(g:Nat)(n:Int)(h0: -9223372036854775808≤n)(h1:n≤9223372036854775807):aa Zm 182 #[pt g 0,i6 n] [ob g (rB 255 aR++rN 256 aY).toArray 312] [] N0 (λ_=>u1 ((aR.getD (dC n) 0).toNat:Int)):=by
 have b:=yG n;exact fG Tryz.func182 λw a=>r0 [] [(4,u1 0)] [] (r0 [(2,.c [] [] (LV n Om Om)),(5,iA 310 .i64 g 0 255 1 (dC n)),(6,rM (A:=[]) (C:=(rN 256 aY:List Value)) 0 g (dC n) 312 (rB 255 aR++rN 256 aY) rfl rfl (nY Om))] [(4,u1 ((aR.getD (dC n) 0).toNat:Int))] [4] (lf ab.zero [] [(0,0)] []))
theorem qf(a:UInt8):aY.getD a.toNat 0<255:=sJ a.toNat a.toNat_lt
theorem Dt{m:Nat}(h:m<255):aR.getD m 0=UInt8.ofNat (gE m):=by
 unfold aR gE;rw[Zr,Zr,Z1];have a:m<vf.length:=by rw[Ly];exact h
 rw[ZF a];rfl
theorem Du{a:UInt8}(h:((a.toNat:Int)==0)=false):a.toNat≠0:=by have:=ne_of_beq_false h;omega
theorem vp{a:UInt8}(h:((a.toNat:Int)==0)=true):a=0:=by
 have b:=eq_of_beq h;exact UInt8.toNat_inj.1 (by show a.toNat=0;omega)
theorem L1{a b:UInt8}(h:(((a.toNat:Int)==0)||((b.toNat:Int)==0))=true):Value.int .u8 0= .int .u8 ((gm a b).toNat:Int):=by
 rcases aan _ _▸h with c | c
 ·rw[vp c,iS];rfl
 ·rw[vp c,mb];rfl
theorem L2{a b:UInt8}(h:(((a.toNat:Int)==0)||((b.toNat:Int)==0))=false):Value.int .u8 ((aR.getD (dC (((aY.getD a.toNat 0+aY.getD b.toNat 0:Nat)):Int)) 0).toNat:Int)= .int .u8 ((gm a b).toNat:Int):=by
 rw[aaD] at h;have c:=Du h.1;have d:=Du h.2;rw[Dt (yG _)];unfold gm dk;rw[ALifn Om,show dC (((aY.getD a.toNat 0+aY.getD b.toNat 0:Nat)):Int)=(gL a.toNat+gL b.toNat)%255 by unfold dC gL;omega]
theorem qg(g:Nat)(a b:UInt8):aa Zm 217 #[pt g 0,u1 (a.toNat:Int),u1 (b.toNat:Int)] [ob g (rB 255 aR++rN 256 aY).toArray 312] [] N0 (λ_=>u1 ((gm a b).toNat:Int)):=by
 have i:=a.toNat_lt;have j:=b.toNat_lt;have e:=qf a;have f:=qf b;refine fG Tryz.func217 λw h=>r0 [] [(6,u1 0)] [] (r0 [] [(12,.bool (((a.toNat:Int)==0)||((b.toNat:Int)==0)))] [] ?_);refine cB (((a.toNat:Int)==0)||((b.toNat:Int)==0)) (λd=>?_) λd=>?_
 ·exact r0 [] [(6,u1 0)] [6] (ao (u1 0) ab.zero (by exact L1 As) [] [(0,0)] [])
 exact r0 [(5,iA 296 .u8 g 255 256 1 a.toNat),(6,rM (A:=(rB 255 aR:List Value)) (C:=[]) 0 g a.toNat 312 (rB 255 aR++rN 256 aY) (by rw[Zo]) kD (rY Om)),(11,iA 296 .u8 g 255 256 1 b.toNat),(12,rM (A:=(rB 255 aR:List Value)) (C:=[]) 0 g b.toNat 312 (rB 255 aR++rN 256 aY) (by rw[Zo]) kD (rY Om)),(13,ad (aY.getD a.toNat 0) (aY.getD b.toNat 0)),(14,.c [0] [] (vn g (((aY.getD a.toNat 0)+(aY.getD b.toNat 0):Nat):Int) Om Om))] [(6,u1 ((aR.getD (dC (((aY.getD a.toNat 0)+(aY.getD b.toNat 0):Nat):Int)) 0).toNat:Int))] [6] (ao (u1 ((aR.getD (dC (((aY.getD a.toNat 0)+(aY.getD b.toNat 0):Nat):Int)) 0).toNat:Int)) ab.zero (by exact L2 As) [] [(0,0)] [])
def bP(a b:UInt8):UInt8:=(bif (b.toNat:Int)==0 then(0:UInt8) else(bif (a.toNat:Int)==0 then(0:UInt8) else aR.getD (dC (((aY.getD a.toNat 0:Nat):Int)-((aY.getD b.toNat 0:Nat):Int))) 0))
def fV(b:UInt8):Int:=(bif (b.toNat:Int)==0 then 16 else 0)
theorem Dw(g:Nat)(a b:UInt8):aa Zm 257 #[pt g 0,u1 (a.toNat:Int),u1 (b.toNat:Int)] [ob g (rB 255 aR++rN 256 aY).toArray 312] [] N0 (λ_=> .tuple #[u1 ((bP a b).toNat:Int),i6 (fV b)]):=by
 have l:=a.toNat_lt;have m:=b.toNat_lt;have i:=qf a;have j:=qf b;refine fG Tryz.func257 λw k=>r0 [] [(6,u1 0),(7,i6 0)] [] (r0 [] [(8,.bool ((b.toNat:Int)==0))] [] ?_);refine cX (b.toNat:Int) 0 (λd e=>?_) λd e=>?_
 ·exact r0 [] [(6,u1 0),(7,i6 16)] [6,7] (ao (.tuple #[u1 0,i6 16]) ab.zero (by((try simp only[bP,fV]);(repeat (first | rw[d] | rw[ALct])))<;>rfl) [] [(0,0)] [])
 refine r0 [] [(11,.bool ((a.toNat:Int)==0))] [] ?_;refine cX (a.toNat:Int) 0 (λh f=>?_) λh f=>?_
 ·exact r0 [] [(6,u1 0),(7,i6 0)] [6,7] (ao (.tuple #[u1 0,i6 0]) ab.zero (by((try simp only[bP,fV]);(repeat (first | rw[d] | rw[h] | rw[ALct] | rw[ALcf])))<;>rfl) [] [(0,0)] [])
 exact r0 [(5,iA 296 .u8 g 255 256 1 a.toNat),(6,rM (A:=(rB 255 aR:List Value)) (C:=[]) 0 g a.toNat 312 (rB 255 aR++rN 256 aY) (by rw[Zo]) kD (rY Om)),(11,iA 296 .u8 g 255 256 1 b.toNat),(12,rM (A:=(rB 255 aR:List Value)) (C:=[]) 0 g b.toNat 312 (rB 255 aR++rN 256 aY) (by rw[Zo]) kD (rY Om)),(13,sI ((aY.getD a.toNat 0:Nat):Int) (((aY.getD b.toNat 0:Nat):Int)) Om),(14,.c [0] [] (vn g (((aY.getD a.toNat 0:Nat):Int)-((aY.getD b.toNat 0:Nat):Int)) Om Om))] [(6,u1 ((aR.getD (dC (((aY.getD a.toNat 0:Nat):Int)-((aY.getD b.toNat 0:Nat):Int))) 0).toNat:Int)),(7,i6 0)] [6,7] (ao (.tuple #[u1 ((aR.getD (dC (((aY.getD a.toNat 0:Nat):Int)-((aY.getD b.toNat 0:Nat):Int))) 0).toNat:Int),i6 0]) ab.zero (by((try simp only[bP,fV]);(repeat (first | rw[d] | rw[h] | rw[ALcf])))<;>rfl) [] [(0,0)] [])
theorem L3(g:Nat)(b:UInt8):aa Zm 232 #[pt g 0,u1 (b.toNat:Int)] [ob g (rB 255 aR++rN 256 aY).toArray 312] [] N0 (λ_=> .tuple #[u1 ((bP (1:UInt8) b).toNat:Int),i6 (fV b)]):=by
 exact fG Tryz.func232 λw a=>r0 [] [(4,u1 0),(5,i6 0)] [] (r0 [(2,.c [0] [] (Dw g (1:UInt8) b))] [(4,u1 ((bP (1:UInt8) b).toNat:Int)),(5,i6 (fV b))] [4,5] (lf ab.zero [] [(0,0)] []))
def gQ(a:UInt8):Nat:=(bif (a.toNat:Int)==0 then 0 else aY.getD a.toNat 0)
def mH(a:UInt8):Int:=(bif (a.toNat:Int)==0 then 16 else 0)
theorem L4(g:Nat)(a:UInt8):aa Zm 274 #[pt g 0,u1 (a.toNat:Int)] [ob g (rB 255 aR++rN 256 aY).toArray 312] [] N0 (λ_=> .tuple #[iN (gQ a),i6 (mH a)]):=by
 have e:=a.toNat_lt;refine fG Tryz.func274 λw d=>r0 [] [(4,i6 0),(5,i6 0)] [] (r0 [] [(7,.bool ((a.toNat:Int)==0))] [] ?_);refine cX (a.toNat:Int) 0 (λc b=>?_) λc b=>?_
 ·exact r0 [] [(4,i6 0),(5,i6 16)] [4,5] (ao (.tuple #[i6 0,i6 16]) ab.zero (by((try simp only[gQ,mH]);(repeat (first | rw[c] | rw[ALct])))<;>rfl) [] [(0,0)] [])
 exact r0 [(4,iA 296 .u8 g 255 256 1 a.toNat),(5,rM (A:=(rB 255 aR:List Value)) (C:=[]) 0 g a.toNat 312 (rB 255 aR++rN 256 aY) (by rw[Zo]) kD (rY Om))] [(4,iN (aY.getD a.toNat 0)),(5,i6 0)] [4,5] (ao (.tuple #[iN (aY.getD a.toNat 0),i6 0]) ab.zero (by((try simp only[gQ,mH]);(repeat (first | rw[c] | rw[ALcf])))<;>rfl) [] [(0,0)] [])
theorem L5(g:Nat)(a:UInt8)(n:Int):aa Zm 181 #[pt g 0,u1 (a.toNat:Int),i6 n] [] [] (λE=>[ob (E.y 0) #[i6 n] 3,ob (E.y 1) #[pt g 0] 239,ob (E.y 2) #[u1 (a.toNat:Int)] 5]) (λE=> .func (.func 216) #[] #[pt ((E.y 0)) 0,pt ((E.y 1)) 0,pt ((E.y 2)) 0]):=by
 exact fG Tryz.func181 λw c=>ra (λb=>[(3,pt (B0 b) 0),(4,pt (B1 b) 0),(5,pt (B2 b) 0),(6,.nilFunc)]) (λb=>[ob (B0 b) #[pt g 0] 239,ob (B1 b) #[u1 (a.toNat:Int)] 5,ob (B2 b) #[i6 n] 3]) λb=>r0 [] [(6,.func (.func 216) #[] #[pt (B2 b) 0,pt (B0 b) 0,pt (B1 b) 0])] [6] (lf (.l [(b 2).y 0,(b 0).y 0,(b 1).y 0] [] []) [2,0,1] [] [])
def kE(a:UInt8):Nat→UInt8
 | 0=>1
 | k+1=>gm (kE a k) a
theorem L6(h f e g:Nat)(a:UInt8):ft 5 Zm 216 #[pt h 0,pt f 0,pt e 0] (λ(x:Nat×UInt8)=>#[i6 (x.1:Int),u1 (x.2.toNat:Int)]) ((Zv 4).map λk=>(k,kE a k)) (ZR [[(h,.cells #[i6 4] 3 (0,0))],[(f,.cells #[pt g 0] 239 (0,0))],[(e,.cells #[u1 (a.toNat:Int)] 5 (0,0))],[(g,.cells (rB 255 aR++rN 256 aY).toArray 312 (0,0))]]):=by
 refine gi (KO:=[[(h,.cells #[i6 4] 3 (0,0))],[(f,.cells #[pt g 0] 239 (0,0))],[(e,.cells #[u1 (a.toNat:Int)] 5 (0,0))],[(g,.cells (rB 255 aR++rN 256 aY).toArray 312 (0,0))]]) Tryz.func216 (λs v u A y j q p=>?_);refine r0 [] [(5,u1 1)] [] (r0 [(0,.l 0)] [(8,i6 4),(9,i6 0)] [] ?_);refine j9 (λk=>k≤4) (λk=>[(5,u1 ((kE a k).toNat:Int)),(9,iN k)]) (λ_ L=>L) (λk=>4-k) (λk=>k) 0 Om p Kr Kr (λk w z r d=>?_);refine r0 [] [(10,.bool (decide ((k:Int)<4)))] [] ?_;refine cj (k:Int) 4 (λo i=>?_) λo i=>?_
 ·refine r0 [] [(6,iN k)] [] ?_;refine iy j q d 3 N0 (λ_=>[(12,.func (.yield s) #[] #[]),(13,iN k),(14,u1 ((kE a k).toNat:Int))]) [] (λ_ L=>L) N0 [0,1,2,3] (oN Om) (λt m n b=>?_);refine cF _ rfl (r0 [(0,.l 1),(2,.l 2),(3,.c [3] [] (qg g (kE a k) a))] [(5,u1 ((gm (kE a k) a).toNat:Int))] [5] (r0 [(0,ad k 1)] [(9,iN (k+1))] [9] ?_));exact iR (k+1) Om b Om Kr [0,1,2,3] Kr
 obtain rfl:k=4:=by omega
 refine ka ?_;exact k7 j d bc [] [0,1,2,3]
end
end E
def xs(n:Nat)(f:Nat→UInt8):UInt8:=
 match n with
 | 0=>0
 | n+1=>xs n f^^^f n
theorem qh(n:Nat)(f:Nat→UInt8):xs (n+1) f=xs n f^^^f n:=rfl
theorem kF{n:Nat}{f g:Nat→UInt8}(h: ∀i,i<n→f i=g i):xs n f=xs n g:=by
 induction n with
 | zero=>rfl
 | succ n ih=>rw[xs,xs,ih (λi a=>h i Om),h n Om]
theorem mI{n:Nat}{f:Nat→UInt8}(h: ∀i,i<n→f i=0):xs n f=0:=by
 induction n with
 | zero=>rfl
 | succ n ih=>rw[xs,ih (λi a=>h i Om),h n Om,ZC]
theorem vq(n:Nat)(f g:Nat→UInt8):xs n (λi=>f i^^^g i)=xs n f^^^xs n g:=by
 induction n with
 | zero=>exact(aaa (a:=0)).symm
 | succ n ih=>rw[xs,xs,xs,ih,x4]
theorem Dx(c:UInt8)(n:Nat)(f:Nat→UInt8):xs n (λi=>gm c (f i))=gm c (xs n f):=by
 induction n with
 | zero=>exact(mb c).symm
 | succ n ih=>rw[xs,xs,ih,yF]
theorem Dy(c:UInt8)(n:Nat)(f:Nat→UInt8):xs n (λi=>gm (f i) c)=gm (xs n f) c:=by
 rw[kb,←Dx];exact kF (λi _=>kb _ _)
theorem L7(n d:Nat)(f:Nat→UInt8)(h: ∀i,n≤i→f i=0):xs (n+d) f=xs n f:=by
 induction d with
 | zero=>rfl
 | succ d ih=>rw[←aa3,xs,ih,h (n+d) Om,ZC]
theorem o0{n m:Nat}(a:n≤m)(f:Nat→UInt8)(h: ∀i,n≤i→f i=0):xs m f=xs n f:=by
 have:=L7 n (m-n) f h;rwa [show n+(m-n)=m from by omega] at this
theorem L8(n:Nat)(F:Nat→Nat→UInt8):xs (n+1) (λi=>xs (i+1) (λj=>F j (i-j)))=xs (n+1) (λj=>xs (n-j+1) (λk=>F j k)):=by
 induction n with
 | zero=>rfl
 | succ n ih=>
  rw[qh,ih,qh (n+1) (λj=>xs (n+1-j+1) (λk=>F j k))];have a:xs (n+1) (λj=>xs (n+1-j+1) (λk=>F j k))=xs (n+1) (λj=>xs (n-j+1) (λk=>F j k))^^^xs (n+1) (λj=>F j (n+1-j)):=by
   rw[←vq];refine kF (λj b=>?_);rw[show n+1-j+1=(n-j+1)+1 from by omega,xs,show n-j+1=n+1-j from by omega]
  rw[a,qh (n+1) (λj=>F j (n+1-j)),Z6]
  congr 2
  rw[Z8];exact(ZX).symm
def conv(f g:Nat→UInt8)(n:Nat):UInt8:=xs (n+1) (λi=>gm (f i) (g (n-i)))
theorem L9{f a g b:Nat→UInt8}{n:Nat}(h: ∀i,i≤n→f i=a i)(c: ∀i,i≤n→g i=b i):conv f g n=conv a b n:=
 kF (λi d=>by rw[h i Om,c (n-i) Om])
theorem Ma(f g h:Nat→UInt8)(n:Nat):conv (λi=>f i^^^g i) h n=conv f h n^^^conv g h n:=by
 unfold conv
 rw[←vq];exact kF (λi _=>vm _ _ _)
theorem yH(f g:Nat→UInt8)(M N:Nat)(hf: ∀i,M≤i→f i=0)(a: ∀i,N≤i→g i=0)(n:Nat)(h:M+N≤n+1):conv f g n=0:=by
 refine mI (λi _=>?_);by_cases b:M≤i
 ·rw[hf i b,iS]
 ·rw[a (n-i) Om,mb]
theorem Mb(f g:Nat→UInt8)(M N:Nat)(hf: ∀i,M<i→f i=0)(b: ∀i,N<i→g i=0):conv f g (M+N)=gm (f M) (g N):=by
 unfold conv
 have a:xs (M+N+1) (λi=>gm (f i) (g (M+N-i)))=xs (M+1) (λi=>gm (f i) (g (M+N-i))):=
  o0 Om _ (λi c=>by rw[hf i Om,iS])
 rw[a,xs,mI (λi c=>by rw[b (M+N-i) Om,mb]),ZX,show M+N-M=N from by omega]
def pw(x:UInt8):Nat→UInt8
 | 0=>1
 | n+1=>gm (pw x n) x
theorem Dz(x:UInt8)(m n:Nat):pw x (m+n)=gm (pw x m) (pw x n):=by
 induction n with
 | zero=>rw[ZS,pw,qe]
 | succ n ih=>rw[←aa3,pw,ih,pw,ni]
def ev(f:Nat→UInt8)(N:Nat)(x:UInt8):UInt8:=xs N (λi=>gm (f i) (pw x i))
theorem vr(f:Nat→UInt8){N M:Nat}(h:N≤M)(x:UInt8)(hf: ∀i,N≤i→f i=0):ev f M x=ev f N x:=
 o0 h _ (λi a=>by rw[hf i a,iS])
theorem yI{f g:Nat→UInt8}{N:Nat}(x:UInt8)(h: ∀i,i<N→f i=g i):ev f N x=ev g N x:=kF (λi a=>by rw[h i a])
theorem DA(f g:Nat→UInt8)(N:Nat)(x:UInt8):ev (λi=>f i^^^g i) N x=ev f N x^^^ev g N x:=by
 unfold ev;rw[←vq];exact kF (λi _=>vm _ _ _)
theorem Md(f g:Nat→UInt8)(M N:Nat)(x:UInt8)(hf: ∀i,M≤i→f i=0)(e: ∀i,N≤i→g i=0)(T:Nat)(p:M+N≤T):ev (conv f g) T x=gm (ev f M x) (ev g N x):=by
 have d: ∀i,M+N≤i→conv f g i=0:=λi r=>yH f g M N hf e i Om
 rw[vr _ p x d];obtain⟨n,s⟩: ∃n,M+N+1=n+1:=⟨M+N,rfl⟩;have h:ev (conv f g) (M+N) x=ev (conv f g) (n+1) x:=(vr _ Om x d).symm;rw[h];have l:ev (conv f g) (n+1) x=xs (n+1) (λi=>xs (i+1) (λj=>(λa b=>gm (gm (f a) (g b)) (pw x (a+b))) j (i-j))):=
  kF (λi _=>by
   unfold conv
   rw[←Dy];exact kF (λj c=>by show _=gm (gm (f j) (g (i-j))) (pw x (j+(i-j)));rw[show j+(i-j)=i from by omega]))
 refine l.trans ((L8 n (λa b=>gm (gm (f a) (g b)) (pw x (a+b)))).trans ?_);have m:xs (n+1) (λj=>xs (n-j+1) (λk=>gm (gm (f j) (g k)) (pw x (j+k))))=xs M (λj=>xs (n-j+1) (λk=>gm (gm (f j) (g k)) (pw x (j+k)))):=
  o0 Om _ (λj c=>mI (λk _=>by rw[hf j c,iS,iS]))
 rw[m];have o: ∀j,j<M→xs (n-j+1) (λk=>gm (gm (f j) (g k)) (pw x (j+k)))=gm (gm (f j) (pw x j)) (ev g N x):=by
  intro j c;rw[o0 (n:=N) Om _ (λk q=>by rw[e k q,mb,iS])];unfold ev;rw[←Dx];refine kF (λk _=>?_);rw[Dz,ni,ni,LN (g k) (pw x j)]
 rw[kF o,Dy];rfl
def co(p:List UInt8)(i:Nat):UInt8:=p.getD i 0
theorem yJ{p:List UInt8}{i:Nat}(h:i<p.length):co p i=p[i]:=by simp [co,h]
theorem fW{p:List UInt8}{i:Nat}(h:p.length≤i):co p i=0:=by simp [co,h]
def tl(p:List UInt8):Nat→Nat
 | 0=>0
 | k+1=>if co p k=0 then tl p k else k+1
def a4(p:List UInt8):Nat:=tl p p.length
theorem Me(p:List UInt8)(k:Nat):tl p k≤k:=by
 induction k with
 | zero=>exact ZD 0
 | succ k ih=>rw[tl];split<;>omega
theorem Mf(p:List UInt8)(k:Nat): ∀i,tl p k≤i→i<k→co p i=0:=by
 induction k with
 | zero=>intro i _ h;omega
 | succ k ih=>
  intro i a d;rw[tl] at a;by_cases b:co p k=0
  ·rw[ALifp b] at a;by_cases c:i=k
   ·rw[c];exact b
   ·exact ih i a Om
  ·rw[ALifn b] at a;omega
theorem Mg(p:List UInt8)(k:Nat): ∀t,tl p k=t+1→co p t≠0:=by
 induction k with
 | zero=>intro t h;rw[tl] at h;omega
 | succ k ih=>
  intro t h;rw[tl] at h;by_cases a:co p k=0
  ·rw[ALifp a] at h;exact ih t h
  ·rw[ALifn a] at h;obtain rfl:k=t:=by omega
   exact a
theorem sM(p:List UInt8):a4 p≤p.length:=Me p _
theorem kG(p:List UInt8){i:Nat}(h:a4 p≤i):co p i=0:=by
 by_cases a:i<p.length
 ·exact Mf p _ i h a
 ·exact fW Om
theorem n8(p:List UInt8){t:Nat}(h:a4 p=t+1):co p t≠0:=Mg p _ t h
theorem sN{p:List UInt8}{n:Nat}(h0: ∀i,n≤i→co p i=0)(h1:n=0∨co p (n-1)≠0):a4 p=n:=by
 rcases Nat.lt_trichotomy (a4 p) n with h | h | h
 ·rcases h1 with h1 | h1
  ·omega
  ·exact absurd (kG p (show a4 p≤n-1 by omega)) h1
 ·exact h
 ·have:=n8 p (t:=a4 p-1) Om;exact absurd (h0 _ Om) this
theorem DB{p q:List UInt8}(h: ∀i,co p i=co q i):a4 p=a4 q:=by
 refine sN (λi b=>by rw[h];exact kG q b) ?_;by_cases a:a4 q=0
 ·exact .inl a
 ·exact .inr (by rw[h];exact n8 q Om)
theorem Mh{p:List UInt8}{n:Nat}(h0: ∀i,n≤i→co p i=0):a4 p≤n:=by
 apply aal;intro h;exact n8 p (t:=a4 p-1) Om (h0 _ Om)
def aw(p:List UInt8):List UInt8:=p.take (a4 p)
theorem mJ(p:List UInt8):(aw p).length=a4 p:=by unfold aw;rw[ZH];have:=sM p;omega
theorem nj(p:List UInt8)(i:Nat):co (aw p) i=co p i:=by
 by_cases h:i<a4 p
 ·unfold co aw;rw[Zr,Zr,aar h]
 ·rw[kG p Om,fW (by rw[mJ];omega)]
theorem DC(p:List UInt8):a4 (aw p)=a4 p:=DB (nj p)
theorem o1{p q:List UInt8}(c:p.length=q.length)(h: ∀i,i<p.length→co p i=co q i):p=q:=by
 refine aaT c λi a b=>?_;have:=h i a;rwa [yJ a,yJ b] at this
theorem Mi{p q:List UInt8}(h: ∀i,co p i=co q i):aw p=aw q:=
 o1 (by rw[mJ,mJ,DB h]) λi _=>by rw[nj,nj,h]
def gw(n:Nat)(f:Nat→UInt8):List UInt8:=(Zv n).map f
theorem jT(n:Nat)(f:Nat→UInt8):(gw n f).length=n:=by simp [gw]
theorem k9(n:Nat)(f:Nat→UInt8)(i:Nat):co (gw n f) i=if i<n then f i else 0:=by
 by_cases h:i<n
 ·rw[ALifp h,yJ (by rw[jT];exact h)];simp [gw]
 ·rw[ALifn h,fW (by rw[jT];omega)]
theorem DD{n:Nat}{f:Nat→UInt8}(h: ∀i,n≤i→f i=0)(i:Nat):co (gw n f) i=f i:=by
 rw[k9];split
 ·rfl
 ·exact(h i Om).symm
theorem yK(n:Nat)(f g:Nat→UInt8)(k:Nat)(v:UInt8)(b: ∀i,i<n→g i=if i=k then v else f i):(gw n f).set k v=gw n g:=by
 refine aaT (by rw[Zu,jT,jT]) λi a c=>?_;rw[Zu,jT] at a;rw[List.getElem_set];simp only[gw,List.getElem_map,List.getElem_range];rw[b i a];by_cases e:k=i
 ·rw[ALifp e,ALifp e.symm]
 ·rw[ALifn e,ALifn (Ne.symm e)]
def sP(p q:List UInt8):List UInt8:=aw (gw (max p.length q.length) λi=>co p i^^^co q i)
theorem yL(p q:List UInt8)(i:Nat):co (sP p q) i=co p i^^^co q i:=by
 unfold sP;rw[nj,DD];intro i a;rw[fW Om,fW Om];rfl
def im(p q:List UInt8):List UInt8:=aw (gw (a4 p+a4 q) (conv (co p) (co q)))
theorem yM(p q:List UInt8)(i:Nat):co (im p q) i=conv (co p) (co q) i:=by
 unfold im;rw[nj,DD];intro i a;exact yH _ _ (a4 p) (a4 q) (λ_ h=>kG p h) (λ_ h=>kG q h) i Om
def fk(p:List UInt8)(x:UInt8):UInt8:=ev (co p) p.length x
theorem o2(p:List UInt8)(x:UInt8){n:Nat}(h: ∀i,n≤i→co p i=0):fk p x=ev (co p) n x:=by
 unfold fk;rcases aa7 n p.length with a | a
 ·exact vr _ a x h
 ·exact(vr _ a x (λi b=>fW b)).symm
theorem Mj{p q:List UInt8}(x:UInt8)(h: ∀i,co p i=co q i):fk p x=fk q x:=by
 rw[o2 p x (n:=max p.length q.length) (λi a=>fW Om),o2 q x (n:=max p.length q.length) (λi a=>fW Om)];exact yI x (λi _=>h i)
theorem Mk(p q:List UInt8)(x:UInt8):fk (sP p q) x=fk p x^^^fk q x:=by
 rw[o2 p x (n:=max p.length q.length) (λi a=>fW Om),o2 q x (n:=max p.length q.length) (λi a=>fW Om),
  o2 (sP p q) x (n:=max p.length q.length) (λi a=>by rw[yL,fW Om,fW Om];rfl),←DA]
 exact yI x (λi _=>yL p q i)
theorem Ml(p q:List UInt8):a4 (im p q)=if a4 p=0∨a4 q=0 then 0 else a4 p+a4 q-1:=by
 split
 ·rename_i h;refine sN (λi _=>?_) (.inl rfl);rw[yM];rcases h with h | h
  ·exact mI (λj _=>by rw[kG p Om,iS])
  ·exact mI (λj _=>by rw[kG q Om,mb])
 ·rename_i h;refine sN (λi a=>?_) (.inr ?_)
  ·rw[yM];exact yH _ _ (a4 p) (a4 q) (λ_ h=>kG p h) (λ_ h=>kG q h) i Om
  ·rw[yM,show a4 p+a4 q-1-1=(a4 p-1)+(a4 q-1) from by omega,
    Mb _ _ _ _ (λi a=>kG p Om) (λi a=>kG q Om)]
   exact Dm _ _ (n8 p Om) (n8 q Om)
theorem Mm(r:UInt8):a4 [r,1]=2:=sN (λi a=>fW (show 2≤i from a)) (.inr (show(1:UInt8)≠0 by decide))
theorem Mn(a c:UInt8):a=c^^^(a^^^c):=by rw[aaW a c,←Z6,aaa,ZX]
theorem Mo(p q:List UInt8):(im p q).length=a4 (im p q):=by
 have h:a4 (im p q)=a4 (gw (a4 p+a4 q) (conv (co p) (co q))):=by unfold im;rw[DC]
 rw[h];unfold im;rw[mJ]
def iq(rs:List UInt8):Nat→List UInt8
 | 0=>[1]
 | k+1=>im (iq rs k) [co rs k,1]
def Mq(rs:List UInt8):List UInt8:=iq rs rs.length
theorem DE(rs:List UInt8)(k:Nat):a4 (iq rs k)=k+1:=by
 induction k with
 | zero=>exact sN (λi a=>fW (show 1≤i by omega)) (.inr (show(1:UInt8)≠0 by decide))
 | succ k ih=>rw[iq,Ml,ih,Mm,ALifn Om];omega
theorem Mr(rs:List UInt8)(k:Nat):(iq rs k).length=k+1:=by
 cases k with
 | zero=>rfl
 | succ k=>rw[iq,Mo];exact DE rs (k+1)
def o3(q:List UInt8)(d:Nat)(t:UInt8)(o:List UInt8)(i:Nat):List UInt8:=gw o.length λj=>if i-d≤j∧j≤i then co o j^^^gm (gm (co o i) t) (co q (j-(i-d))) else co o j
theorem Ms(q:List UInt8)(d:Nat)(t:UInt8)(o:List UInt8)(i:Nat):(o3 q d t o i).length=o.length:=jT _ _
def bY(p q:List UInt8)(d:Nat)(t:UInt8):Nat→List UInt8
 | 0=>p
 | k+1=>o3 q d t (bY p q d t k) (p.length-1-k)
theorem sQ(p q:List UInt8)(d:Nat)(t:UInt8)(k:Nat):(bY p q d t k).length=p.length:=by
 induction k with
 | zero=>rfl
 | succ k ih=>rw[bY,Ms,ih]
def dJ(p q:List UInt8)(t:UInt8):List UInt8:=aw (bY p q (a4 q-1) t (p.length-(a4 q-1)))
theorem Mt{q o:List UInt8}{d:Nat}{t:UInt8}{i:Nat}(l:a4 q=d+1)(k:d≤i)(m:i<o.length)(j:Nat):
  co (o3 q d t o i) j=co o j^^^conv (λa=>if a=i-d then gm (co o i) t else 0) (co q) j:=by
 have g:conv (λa=>if a=i-d then gm (co o i) t else 0) (co q) j=if i-d≤j then gm (gm (co o i) t) (co q (j-(i-d))) else 0:=by
  unfold conv
  by_cases h:i-d≤j
  ·rw[ALifp h];have b:xs (j+1) (λa=>gm (if a=i-d then gm (co o i) t else 0) (co q (j-a)))=xs (i-d+1) (λa=>gm (if a=i-d then gm (co o i) t else 0) (co q (j-a))):=
    o0 Om _ λa c=>by
     show gm (if a=i-d then gm (co o i) t else 0) (co q (j-a))=0;rw[ALifn Om,iS]
   rw[b,qh,mI (λa c=>by
    show gm (if a=i-d then gm (co o i) t else 0) (co q (j-a))=0;rw[ALifn Om,iS]),ALifp rfl,ZX]
  ·rw[ALifn h];exact mI λa c=>by
    show gm (if a=i-d then gm (co o i) t else 0) (co q (j-a))=0;rw[ALifn Om,iS]
 rw[g];unfold o3;rw[k9];by_cases e:j<o.length
 ·rw[ALifp e];by_cases b:i-d≤j
  ·rw[ALifp b];by_cases f:j≤i
   ·rw[ALifp ⟨b,f⟩]
   ·rw[ALifn Om,kG q Om,mb,ZC]
  ·rw[ALifn Om,ALifn b,ZC]
 ·rw[ALifn e,fW (p:=o) Om]
  split
  ·rw[kG q Om,mb];rfl
  ·rfl
theorem Mu{p q:List UInt8}{d:Nat}{t:UInt8}(g:a4 q=d+1)(ht:gm (co q d) t=1)(k:Nat)(r:k≤p.length-d):
  (∃s:Nat→UInt8,(∀i,p.length≤i→s i=0)∧∀j,co p j=co (bY p q d t k) j^^^conv s (co q) j)∧∀j,p.length-k≤j→co (bY p q d t k) j=0:=by
 induction k with
 | zero=>exact⟨⟨λ_=>0,λ_ _=>rfl,λj=>by
   rw[show conv (λ_=>0) (co q) j=0 from mI λi _=>iS _,ZC];rfl⟩,λj l=>fW (by rw[sQ];omega)⟩
 | succ k ih=>
  obtain⟨⟨s,b,m⟩,n⟩:=ih Om;have u:=sQ p q d t k;have e:=λj=>Mt (q:=q) (o:=bY p q d t k) (d:=d) (t:=t) (i:=p.length-1-k) g Om Om j;refine⟨⟨λa=>s a^^^(if a=p.length-1-k-d then gm (co (bY p q d t k) (p.length-1-k)) t else 0),λi h=>by
   show s i^^^(if i=p.length-1-k-d then gm (co (bY p q d t k) (p.length-1-k)) t else 0)=0;rw[b i h,ALifn Om];rfl,λj=>?_⟩,λj l=>?_⟩
  ·rw[Ma,bY,e j,m j,Z6]
   congr 1
   exact Mn _ _
  ·rw[bY];unfold o3;rw[k9];by_cases c:j<(bY p q d t k).length
   ·rw[ALifp c];by_cases f:p.length-1-k=j
    ·subst f;rw[ALifp Om,show p.length-1-k-(p.length-1-k-d)=d from by omega,ni,kb t,ht,qe,aaa]
    ·rw[ALifn Om];exact n j Om
   ·rw[ALifn c]
theorem DF{p q:List UInt8}{t:UInt8}(h0:0<a4 q)(ht:gm (co q (a4 q-1)) t=1):
  (∃s:Nat→UInt8,(∀i,p.length≤i→s i=0)∧∀j,co p j=co (dJ p q t) j^^^conv s (co q) j)∧a4 (dJ p q t)<a4 q:=by
 obtain⟨a,b⟩:=Mu (p:=p) (q:=q) (d:=a4 q-1) (t:=t) Om ht (p.length-(a4 q-1)) (ZD _);refine⟨?_,?_⟩
 ·obtain⟨s,c,f⟩:=a;exact⟨s,c,λj=>by rw[f j];unfold dJ;rw[nj]⟩
 ·have g:a4 (dJ p q t)≤a4 q-1:=Mh λi h=>by
   unfold dJ;rw[nj];by_cases e:p.length≤a4 q-1
   ·exact fW (by rw[sQ];omega)
   ·exact b i Om
  omega
theorem Mv(p q:List UInt8)(t:UInt8):a4 (dJ p q t)=(dJ p q t).length:=by unfold dJ;rw[DC,mJ]
theorem Mw{p q:List UInt8}{t:UInt8}(h0:0<a4 q)(ht:gm (co q (a4 q-1)) t=1){x:UInt8}(e:fk q x=0):fk (dJ p q t) x=fk p x:=by
 obtain⟨⟨s,b,d⟩,c⟩:=DF (p:=p) (q:=q) (t:=t) h0 ht;obtain⟨N,f⟩: ∃N,p.length+q.length+(dJ p q t).length=N:=⟨_,rfl⟩;rw[o2 p x (n:=N) (λi a=>fW Om),o2 (dJ p q t) x (n:=N) (λi a=>fW Om),yI x (λi _=>d i),DA,
  Md s (co q) p.length q.length x b (λi a=>fW a) N Om,show ev (co q) q.length x=fk q x from rfl,e,mb,ZC]
theorem DG(n:Nat)(f:Nat→UInt8)(h: ∀i,i<n→f i=0):gw n f=Zl n 0:=by
 refine o1 (by rw[jT,Zs]) λi a=>?_;rw[jT] at a;rw[k9,ALifp a,h i a];simp [co,a]
theorem vt{n:Nat}{f g:Nat→UInt8}(h: ∀i,i<n→f i=g i):gw n f=gw n g:=by
 unfold gw;exact aac λi a=>h i (List.mem_range.1 a)
theorem Mx(p:List UInt8):gw p.length (co p)=p:=o1 (jT _ _) λi a=>by rw[jT] at a;rw[k9,ALifp a]
def n9(p q:List UInt8)(i t:Nat):UInt8:=xs i λa=>if a≤t then gm (co p a) (co q (t-a)) else 0
def o4(p q:List UInt8)(i j t:Nat):UInt8:=n9 p q i t^^^(if i≤t∧t<i+j then gm (co p i) (co q (t-i)) else 0)
theorem yN(p q:List UInt8)(i t:Nat):o4 p q i 0 t=n9 p q i t:=by
 unfold o4;rw[ALifn Om,ZC]
theorem My{p q:List UInt8}(i t:Nat):o4 p q i q.length t=n9 p q (i+1) t:=by
 unfold o4 n9;rw[qh]
 congr 1
 by_cases h:i≤t
 ·rw[ALifp h];by_cases a:t<i+q.length
  ·rw[ALifp ⟨h,a⟩]
  ·rw[ALifn Om,fW (p:=q) Om,mb]
 ·rw[ALifn Om,ALifn h]
theorem Mz{p q:List UInt8}(t:Nat):n9 p q p.length t=conv (co p) (co q) t:=by
 unfold n9 conv
 have c: ∀a,(t+1≤a∨p.length≤a)→(if a≤t then gm (co p a) (co q (t-a)) else 0)=0:=λa e=>by
  by_cases h:a≤t
  ·rw[ALifp h,fW (p:=p) Om,iS]
  ·rw[ALifn h]
 have d:xs (t+1) (λa=>gm (co p a) (co q (t-a)))=xs (t+1) λa=>if a≤t then gm (co p a) (co q (t-a)) else 0:=kF λi b=>by rw[ALifp Om]
 rw[d];rcases aa7 (t+1) p.length with h | h
 ·exact o0 h _ λi b=>c i (.inl b)
 ·exact(o0 h _ λi b=>c i (.inr b)).symm
def eQ(p q:List UInt8)(i j:Nat):List UInt8:=gw (p.length+q.length) (o4 p q i j)
theorem DH(p q:List UInt8)(i j:Nat):(eQ p q i j).length=p.length+q.length:=jT _ _
theorem MA(p q:List UInt8):eQ p q 0 0=Zl (p.length+q.length) 0:=DG _ _ λi _=>by rw[yN];rfl
theorem MB(p q:List UInt8)(i:Nat):eQ p q i q.length=eQ p q (i+1) 0:=vt λt _=>by rw[My,yN]
theorem MC{p q:List UInt8}{i j:Nat}(h:i+j<p.length+q.length):co (eQ p q i j) (i+j)=n9 p q i (i+j):=by
 unfold eQ;rw[k9,ALifp h];unfold o4;rw[ALifn Om,ZC]
theorem ME{p q:List UInt8}{i j:Nat}:(eQ p q i j).set (i+j) (n9 p q i (i+j)^^^gm (co p i) (co q j))=eQ p q i (j+1):=
 yK _ _ _ _ _ λt _=>by
  unfold o4;by_cases e:t=i+j
  ·subst e;rw[ALifp Om,ALifp rfl,aau]
  ·rw[ALifn e];by_cases h:i≤t∧t<i+j
   ·rw[ALifp Om,ALifp h]
   ·rw[ALifn Om,ALifn h]
theorem MF(p q:List UInt8):aw (eQ (aw p) (aw q) (a4 p) 0)=im p q:=by
 unfold im eQ;rw[mJ,mJ];refine Mi λt=>?_;rw[k9,k9]
 split
 ·have h:=Mz (p:=aw p) (q:=aw q) t;rw[mJ] at h;rw[yN,h];exact L9 (λi _=>nj p i) (λi _=>nj q i)
 ·rfl
def fw(q:List UInt8)(a:UInt8)(o:List UInt8)(z j:Nat):List UInt8:=gw o.length λx=>if z≤x∧x<z+j then co o x^^^gm a (co q (x-z)) else co o x
theorem MG(q:List UInt8)(a:UInt8)(o:List UInt8)(z j:Nat):(fw q a o z j).length=o.length:=jT _ _
theorem MI(q:List UInt8)(a:UInt8)(o:List UInt8)(z:Nat):fw q a o z 0=o:=by
 unfold fw;rw[vt (g:=co o) λi _=>ALifn Om];exact Mx o
theorem MJ{q:List UInt8}{a:UInt8}{o:List UInt8}{z j:Nat}(h:z+j<o.length):co (fw q a o z j) (z+j)=co o (z+j):=by
 unfold fw;rw[k9,ALifp h,ALifn Om]
theorem MK{q:List UInt8}{a:UInt8}{o:List UInt8}{z j:Nat}:(fw q a o z j).set (z+j) (co o (z+j)^^^gm a (co q j))=fw q a o z (j+1):=
 yK _ _ _ _ _ λt _=>by
  by_cases e:t=z+j
  ·subst e;rw[ALifp Om,ALifp rfl,aau]
  ·rw[ALifn e];by_cases h:z≤t∧t<z+j
   ·rw[ALifp Om,ALifp h]
   ·rw[ALifn Om,ALifn h]
theorem ML{q:List UInt8}{t:UInt8}{o:List UInt8}{d i:Nat}(h:d≤i):fw q (gm (co o i) t) o (i-d) (d+1)=o3 q d t o i:=by
 unfold fw o3;refine vt λx _=>?_;by_cases a:i-d≤x∧x<i-d+(d+1)
 ·rw[ALifp a,ALifp Om]
 ·rw[ALifn a,ALifn Om]
def hv(p:List UInt8)(x:UInt8):Nat→UInt8
 | 0=>0
 | j+1=>gm (hv p x j) x^^^co p (p.length-1-j)
theorem MM(p:List UInt8)(x:UInt8)(j:Nat)(e:j≤p.length):gm (hv p x j) (pw x (p.length-j))^^^ev (co p) (p.length-j) x=fk p x:=by
 induction j with
 | zero=>rw[hv,iS,ZX,ZY];rfl
 | succ j ih=>
  rw[←ih Om,hv,vm];obtain⟨m,d⟩: ∃m,p.length-(j+1)=m:=⟨_,rfl⟩;have b:p.length-j=m+1:=by omega
  have c:p.length-1-j=m:=by omega
  have a:ev (co p) (m+1) x=ev (co p) m x^^^gm (co p m) (pw x m):=rfl;rw[d,b,c,a,pw,ni,kb x,Z6,aaW (gm (co p m) (pw x m))]
theorem MN(p:List UInt8)(x:UInt8):hv p x p.length=fk p x:=by
 have h:=MM p x p.length (ZD _);rw[Z8,pw,qe,show ev (co p) 0 x=0 from rfl,ZC] at h;exact h
namespace E
section
open Go Go.RowKit Go.Shelf
def kB:Kd Zm UInt8:=⟨eB,[u1 0],191,5,0,1,λ_=>rfl,rfl,λ_=>rfl,ec.mk' Kr Kr rfl⟩
def o5:Value→Bool
 | .slice none _ _=>true
 | _=>false
theorem MO{i:Nat}{w:World}{α:Type}{en:α→List Value}{v:Value}{xs:List α}{bs:ay}(h:aK en v xs bs):(av .eql 191 (.tmp i) (.const (.slice none 0 0)) v (.slice none 0 0)).run Zm w= .ok (.bool (o5 v)) w:=by
 obtain⟨a,r,rfl⟩:=h.2;cases a<;>kernel_rfl
theorem vu{α:Type}{en:α→List Value}{v:Value}{xs:List α}{bs:ay}(h:aK en v xs bs)(h1:o5 v=true):xs=[]:=by
 rcases h.1 with⟨a,_⟩ | ⟨g,b,d,t,e,c,rfl,_⟩
 ·exact a
 ·cases h1
theorem DI(v:Value)(xs:List UInt8)(g:xs.length≤1000000):aa Zm 233 #[v] [.p (aK eB v xs)] [] (λE=>[bD (E.val 0) xs]) (λE=>(E.val 0)):=by
 refine fO Tryz.func233 0 rfl λd a=>fG Tryz.func233 λw f=>r0 [] [(2,.slice none 0 0)] [] (r0 [(1,.t (tv (av .eql 191 (.tmp 3) (.const (.slice none 0 0)) (v) (.slice none 0 0)) (λ_=>MO a)))] [(4,.bool (o5 v))] [] ?_);refine cB (o5 v) (λe=>?_) λe=>?_
 ·exact r0 [] [(2,.slice none 0 0)] [2] (cz kB (lf (.l [] [] [.slice none 0 0]) [1] [(0,0)] [] (hf:=by(try rewrite [vu a As]);kernel_rfl)))
 exact rr (λb=>[(0,.m (sd 1 eB ([u1 0]) 5)),(2,.m (mD 1 0 oT (.slice (some ⟨(b 0).y 0,0,none⟩) 0 0) (v) (xs:=[]) (ys:=xs) (.c d) (cP a.1) oS (λ_=>rfl) (by simp only[LL];omega)))]) (λb=>[(2,(b 2).val 0)]) [2] (λb L=>L++[bD ((b 2).val 0) (([])++xs)]) λb=>lf (.l [] [] [(b 2).val 0]) [1] [(0,0)] [] (hf:=by(try rewrite [vu a As]);kernel_rfl)
theorem yO{P:Program}{T:TypeId}{x y:Operand}{w:World}{a:Int}{k:Nat}(h0: -9223372036854775807≤a-(k:Int))(h1:a-(k:Int)≤9223372036854775807):(av .sub T x y (.int .i64 (a-(k:Int))) (.int .i64 1)).run P w= .ok (.int .i64 (a-((k+1:Nat):Int))) w:=by
 have h:=rz (P:=P) (T:=T) (x:=x) (y:=y) (w:=w) (a:=a-(k:Int)) (b:=1) Om Om;rw[show a-(k:Int)-1=a-((k+1:Nat):Int) by omega] at h;exact h
theorem MP{P:Program}{T:TypeId}{x y:Operand}{w:World}{k:Nat}(h:k<9223372036854775807):(av .add T x y (.int .i64 ((k:Int)-1)) (.int .i64 1)).run P w= .ok (.int .i64 (k:Int)) w:=by
 have h:=ry (P:=P) (T:=T) (x:=x) (y:=y) (w:=w) (a:=(k:Int)-1) (b:=1) Om Om;rw[show(k:Int)-1+1=k by omega] at h;exact h
theorem MQ{xs:List UInt8}:tl xs (xs.length-0)=a4 xs:=rfl
theorem MR{xs:List UInt8}{k:Nat}(ht:tl xs (xs.length-k)=a4 xs)(a:0≤((xs.length:Nat):Int)-1-(k:Int))(h:(((xs.getD (xs.length-1-k) 0).toNat:Int)==0)=true):tl xs (xs.length-(k+1))=a4 xs:=by
 rw[show xs.length-k=(xs.length-1-k)+1 by omega,tl,ALifp (show Go.Proofs.YtbcodenfkijdnaaGreat.co xs (xs.length-1-k)=0 from vp h)] at ht;rw[←ht]
 congr 1
 omega
theorem MS{xs:List UInt8}{k:Nat}(ht:tl xs (xs.length-k)=a4 xs)(c:0≤((xs.length:Nat):Int)-1-(k:Int))(h:(((xs.getD (xs.length-1-k) 0).toNat:Int)==0)=false):Value.int .i64 (((xs.length:Nat):Int)-1-(k:Int))= .int .i64 (((a4 xs:Nat):Int)-1):=by
 have b:Go.Proofs.YtbcodenfkijdnaaGreat.co xs (xs.length-1-k)≠0:=λe=>by
  have a:xs.getD (xs.length-1-k) 0=0:=e;rw[a] at h;cases h
 rw[show xs.length-k=(xs.length-1-k)+1 by omega,tl,ALifn b] at ht;exact ALca (Value.int .i64) Om
theorem MT{xs:List UInt8}{k:Nat}(ht:tl xs (xs.length-k)=a4 xs)(a:k≤xs.length)(b: ¬0≤((xs.length:Nat):Int)-1-(k:Int)):Value.int .i64 (((xs.length:Nat):Int)-1-(k:Int))= .int .i64 (((a4 xs:Nat):Int)-1):=by
 rw[show xs.length-k=0 by omega] at ht;rw[←ht];exact ALca (Value.int .i64) (by show _=((0:Nat):Int)-1;omega)
attribute [local irreducible] a4
theorem DJ(v:Value)(xs:List UInt8)(l:xs.length≤1000000):aa Zm 231 #[v] [.p (aK eB v xs)] [] N0 (λ_=>i6 (((a4 xs:Nat):Int)-1)):=by
 refine fO Tryz.func231 0 rfl λg a=>fG Tryz.func231 λw j=>r0 [] [(2,i6 0)] [] (r0 [(1,eP a.1 0),(2,sI (xs.length:Int) (1) Om)] [(3,i6 ((xs.length:Int)-1))] [] ?_);refine lq (λk=>k≤xs.length∧(tl xs (xs.length-k)=a4 xs)) (λk=>[(3,i6 (((xs.length:Nat):Int)-1-((k:Nat):Int)))]) (λ_ L=>L) (λk=>xs.length-k) 0 ⟨by omega,MQ⟩ (by rw[show((xs.length:Nat):Int)-1-((0:Nat):Int)=(xs.length:Int)-1 by omega];kernel_rfl) Kr (λk ⟨i,f⟩=>?_);cases b:(decide (0≤(((xs.length:Nat):Int)-1-((k:Nat):Int))))
 case true=>
  have c:=of_decide_eq_true b;refine r0 [(1,.t (tk (show Value.bool (decide (0≤(((xs.length:Nat):Int)-1-((k:Nat):Int))))= .bool true from ALca Value.bool b))),(4,.t (tk (show i6 (((xs.length:Nat):Int)-1-((k:Nat):Int))=iN (xs.length-1-k) from ALca (Value.int .i64) Om))),(5,fv a.1 0 (xs.length-1-k) 1),(6,ji kB a.1 0 (xs.length-1-k) 0)] [(15,.bool (((xs.getD (xs.length-1-k) 0).toNat:Int)==0))] [] ?_;refine cX ((xs.getD (xs.length-1-k) 0).toNat:Int) 0 (λh e=>?_) λh e=>?_
  ·exact r0 [(1,.t (tv (av .sub 3 (.tmp 16) (.const (i6 1)) (i6 (((xs.length:Nat):Int)-1-((k:Nat):Int))) (i6 1)) (λ_=>yO Om Om)))] [(3,i6 (((xs.length:Nat):Int)-1-((k+1:Nat):Int)))] [3] (le (k+1) ⟨by omega,MR f As As⟩ Om Kr [0] Kr)
  exact lx (r0 [] [(2,i6 (((xs.length:Nat):Int)-1-((k:Nat):Int)))] [2] (ao (i6 (((xs.length:Nat):Int)-1-((k:Nat):Int))) ab.zero (by exact MS f As As) [] [(0,0)] []))
 have c:=of_decide_eq_false b;exact rF [(1,.t (tk (show Value.bool (decide (0≤(((xs.length:Nat):Int)-1-((k:Nat):Int))))= .bool false from ALca Value.bool b))),(3,.d),(4,.d),(5,.d),(6,.d),(7,.d)] 15 (lx (r0 [] [(2,i6 (((xs.length:Nat):Int)-1-((k:Nat):Int)))] [2] (ao (i6 (((xs.length:Nat):Int)-1-((k:Nat):Int))) ab.zero (by exact MT f As As) [] [(0,0)] [])))
theorem MU(v:Value)(xs:List UInt8)(n:Nat)(a:n≤xs.length)(b:xs.length≤1000000):aa Zm 233 #[gY v 0 n 1] [.p (aK eB v xs)] [] (λE=>[bD (E.val 0) (xs.take n)]) (λE=>E.val 0):=
 aa.at (DI (gY v 0 n 1) (xs.take n) (by rw[ZH];omega)) (bO (λ_ h=>aK.take (en:=eB) (k:=1) (λ_=>rfl) h a) λ_ h=>h)
theorem vw(v:Value)(xs:List UInt8)(g:xs.length≤1000000):aa Zm 234 #[v] [.p (aK eB v xs)] [] (λE=>[bD (E.val 0) (aw xs)]) (λE=>(E.val 0)):=by
 have e:=sM xs;exact fO Tryz.func234 0 rfl λa b=>fG Tryz.func234 λw f=>r0 [] [(2,.slice none 0 0)] [] (rr (λ_=>[(2,.c [0] [] (aa.at (rd':=[.c a]) (DJ v xs Om) (eD b (λ_ h=>h)))),(3,.t (tv (av .add 3 (.tmp 5) (.const (i6 1)) (i6 (((a4 xs:Nat):Int)-1)) (i6 1)) (λ_=>MP Om))),(4,.m (CX 0 (.c a) (a4 xs) 1 (cP b) Om)),(5,.c [0] [1] (aa.at (rd':=[.c a]) (MU v xs (a4 xs) Om Om) (eD b (λ_ h=>h))))]) (λd=>[(2,(d 5).val 0)]) [2] (λd L=>L++[bD ((d 5).val 0) ((xs).take ((a4 xs)))]) λd=>lf (.l [] [] [((d 5).val 0),(d 5).val 0]) [1] [(0,0)] [] (hf:=by kernel_rfl))
attribute [local irreducible] aw
theorem MV{p q:List UInt8}{i j:Nat}(h:i+j<p.length+q.length):eQ p q i (j+1)=(eQ p q i j).set (i+j) ((eQ p q i j).getD (i+j) 0^^^gm (p.getD i 0) (q.getD j 0)):=by
 rw[←ME,←MC h];rfl
attribute [local irreducible] eQ
theorem MW(g:Nat)(v u:Value)(p q:List UInt8)(hp:p.length≤50000)(J:q.length≤50000):aa Zm 219 #[pt g 0,v,u] [ob g (rB 255 aR++rN 256 aY).toArray 312,.p (aK eB v p),.p (aK eB u q)] [] (λE=>[bD (E.val 0) (im p q)]) (λE=>(E.val 0)):=by
 refine fO Tryz.func219 1 rfl λm x=>fO Tryz.func219 2 rfl λn y=>fG Tryz.func219 λw I=>?_;have s:=mJ p;have C:=mJ q;have G:=sM p;have H:=sM q;refine r0 [] [(6,.slice none 0 0)] [] (rr (λd=>[(1,.c [1] [3] (aa.at (rd':=[.c m]) (vw v p Om) (eD x (λ_ h=>h)))),(3,.c [2] [4] (aa.at (rd':=[.c n]) (vw u q Om) (eD y (λ_ h=>h))))]) (λd=>[(1,((d 1).val 0)),(2,((d 3).val 0))]) [1,2] (λd L=>L++[bD ((d 1).val 0) (aw p),bD ((d 3).val 0) (aw q)]) λd=>rr (λ_=>[(1,fu kB ((d 1).val 0) (aw p) 3),(3,fu kB ((d 3).val 0) (aw q) 4),(4,ad ((aw p).length) ((aw q).length)),(5,sC kB 5 (((aw p).length)+((aw q).length)))]) (λf=>[(7,.slice (some ⟨(f 5).y 0,0,none⟩) (((aw p).length)+((aw q).length)) (((aw p).length)+((aw q).length)))]) [] (λf L=>L++[bD (.slice (some ⟨(f 5).y 0,0,none⟩) (((aw p).length)+((aw q).length)) (((aw p).length)+((aw q).length))) (Zl (((aw p).length)+((aw q).length)) 0)]) λf=>r0 [(1,fu kB ((d 1).val 0) (aw p) 3)] [(22,((d 1).val 0)),(23,iN ((aw p).length)),(24,i6 0)] [] ?_);refine lq (λi=>i≤(aw p).length) (λi=>[(24,iN i)]) (λi L=>L.set 5 (bD (.slice (some ⟨(f 5).y 0,0,none⟩) (((aw p).length)+((aw q).length)) (((aw p).length)+((aw q).length))) (eQ (aw p) (aw q) i 0))) (λi=>((aw p).length)-i) 0 Om Kr (by rw[MA];kernel_rfl) (λi B=>?_);refine r0 [] [(25,.bool (decide ((i:Int)<(((aw p).length:Nat):Int))))] [] ?_;refine cj (i:Int) (((aw p).length:Nat):Int) (λA o=>?_) λA o=>?_
 ·refine r0 [(1,cO kB ((d 1).val 0) (aw p) 3 i),(2,e7 kB ((d 1).val 0) (aw p) 3 i 0)] [(8,iN i),(9,u1 (((aw p).getD i 0).toNat:Int))] [] (r0 [(1,fu kB ((d 3).val 0) (aw q) 4)] [(29,((d 3).val 0)),(30,iN ((aw q).length)),(31,i6 0)] [] ?_);refine lq (λj=>j≤(aw q).length) (λj=>[(31,iN j)]) (λj L=>L.set 5 (bD (.slice (some ⟨(f 5).y 0,0,none⟩) (((aw p).length)+((aw q).length)) (((aw p).length)+((aw q).length))) (eQ (aw p) (aw q) i j))) (λj=>((aw q).length)-j) 0 Om Kr Kr (λj z=>?_);have F:=DH (aw p) (aw q) i j;refine r0 [] [(32,.bool (decide ((j:Int)<(((aw q).length:Nat):Int))))] [] ?_;refine cj (j:Int) (((aw q).length:Nat):Int) (λr k=>?_) λr k=>?_
  ·exact r0 [(1,cO kB ((d 3).val 0) (aw q) 4 j),(2,e7 kB ((d 3).val 0) (aw q) 4 j 0)] [(10,iN j),(11,u1 (((aw q).getD j 0).toNat:Int))] [] (rs [(3,ad i j),(4,cO kB (.slice (some ⟨(f 5).y 0,0,none⟩) (((aw p).length)+((aw q).length)) (((aw p).length)+((aw q).length))) (eQ (aw p) (aw q) i j) 5 (i+j)),(5,e7 kB (.slice (some ⟨(f 5).y 0,0,none⟩) (((aw p).length)+((aw q).length)) (((aw p).length)+((aw q).length))) (eQ (aw p) (aw q) i j) 5 (i+j) 0),(9,.c [0] [] (qg g ((aw p).getD i 0) ((aw q).getD j 0))),(10,.t (tb (a:=u1 (((eQ (aw p) (aw q) i j).getD (i+j) 0).toNat:Int)) (b:=u1 ((gm ((aw p).getD i 0) ((aw q).getD j 0)).toNat:Int)) λ_ _ _ _=>lX ((eQ (aw p) (aw q) i j).getD (i+j) 0) ((gm ((aw p).getD i 0) ((aw q).getD j 0))))),(11,cO kB (.slice (some ⟨(f 5).y 0,0,none⟩) (((aw p).length)+((aw q).length)) (((aw p).length)+((aw q).length))) (eQ (aw p) (aw q) i j) 5 (i+j)),(12,sn kB (.slice (some ⟨(f 5).y 0,0,none⟩) (((aw p).length)+((aw q).length)) (((aw p).length)+((aw q).length))) (eQ (aw p) (aw q) i j) 5 (i+j) 0 (((eQ (aw p) (aw q) i j).getD (i+j) 0)^^^(gm ((aw p).getD i 0) ((aw q).getD j 0))) (u1 ((((eQ (aw p) (aw q) i j).getD (i+j) 0)^^^(gm ((aw p).getD i 0) ((aw q).getD j 0))).toNat:Int)) Kr)] 5 (bD (.slice (some ⟨(f 5).y 0,0,none⟩) (((aw p).length)+((aw q).length)) (((aw p).length)+((aw q).length))) ((eQ (aw p) (aw q) i j).set (i+j) (((eQ (aw p) (aw q) i j).getD (i+j) 0)^^^(gm ((aw p).getD i 0) ((aw q).getD j 0))))) (r0 [(0,ad j 1)] [(31,iN (j+1))] [31] (le (j+1) Om Om Kr [0,1,2,3,4,5] (by rw[MV Om];kernel_rfl))))
  obtain rfl:j=(aw q).length:=by omega
  exact lx (r0 [(0,ad i 1)] [(24,iN (i+1))] [24] (le (i+1) Om Om Kr [0,1,2,3,4,5] (by rw[←MB (aw p) (aw q) i];kernel_rfl)))
 obtain rfl:i=(aw p).length:=by omega
 have D:=DH (aw p) (aw q) (aw p).length 0;exact lx (rr (λ_=>[(1,.c [5] [6] (aa.at (rd':=[bD (.slice (some ⟨(f 5).y 0,0,none⟩) (((aw p).length)+((aw q).length)) (((aw p).length)+((aw q).length))) (eQ (aw p) (aw q) ((aw p).length) 0)]) (vw (.slice (some ⟨(f 5).y 0,0,none⟩) (((aw p).length)+((aw q).length)) (((aw p).length)+((aw q).length))) (eQ (aw p) (aw q) ((aw p).length) 0) Om) (bO (λ_ h=>ar.sq h) (λ_ h=>h))))]) (λe=>[(6,((e 1).val 0))]) [6] (λe L=>L++[bD ((e 1).val 0) (aw (eQ (aw p) (aw q) ((aw p).length) 0))]) λe=>lf (.l [] [] [((e 1).val 0),(e 1).val 0]) [6] [(0,0),(1,1),(2,2)] [] (hf:=by rw[←MF,←s];kernel_rfl))
theorem MX{q:List UInt8}{a:UInt8}{o:List UInt8}{z j:Nat}(h:z+j<o.length):fw q a o z (j+1)=(fw q a o z j).set (z+j) ((fw q a o z j).getD (z+j) 0^^^gm a (q.getD j 0)):=by
 rw[←MK,←MJ h];rfl
theorem MY{p q:List UInt8}{d k:Nat}{t:UInt8}(h:d≤p.length-1-k):bY p q d t (k+1)=fw q (gm ((bY p q d t k).getD (p.length-1-k) 0) t) (bY p q d t k) (p.length-1-k-d) (d+1):=(ML h).symm
theorem DK{b:UInt8}(h:b≠0):(fV b != 0)=false:=by
 unfold fV;rw[show((b.toNat:Int)==0)=false from beq_false_of_ne λe=>h (UInt8.toNat_inj.1 (by show b.toNat=0;omega))];rfl
attribute [local irreducible] bY fw
theorem MZ(g:Nat)(v u:Value)(p q:List UInt8)(d:Nat)(t:UInt8)(hp:p.length≤50000)(N:q.length≤50000)(B:a4 q=d+1)(I:d≤p.length)(ht:bP 1 (q.getD d 0)=t):aa Zm 203 #[pt g 0,v,u] [ob g (rB 255 aR++rN 256 aY).toArray 312,.p (aK eB v p),.p (aK eB u q)] [] (λE=>[bD (E.val 0) (dJ p q t)]) (λE=> .tuple #[(E.val 0),i6 0]):=by
 refine fO Tryz.func203 1 rfl λo y=>fO Tryz.func203 2 rfl λr i=>fG Tryz.func203 λw M=>?_;have K:=sM q;have A:q.getD d 0≠0:=n8 q B;refine r0 [] [(6,.slice none 0 0),(7,i6 0)] [] (rr (λJ=>[(1,.c [2] [] (aa.at (rd':=[.c r]) (DJ u q Om) (eD i (λ_ h=>h)))),(2,.t (tk (show i6 (((a4 q:Nat):Int)-1)=iN d from ALca (Value.int .i64) Om)))]) (λ_=>[(8,iN d)]) [] (λ_ L=>L) λJ=>rF [(1,.t (tk (show Value.bool (decide ((d:Int)<0))= .bool false from ALca Value.bool (by exact bl Om))))] 18 (r0 [(3,fv i.1 2 d 1),(4,ji kB i.1 2 d 0),(5,.c [0] [] (L3 g (q.getD d 0))),(9,.t (tk (show u1 ((bP (1:UInt8) (q.getD d 0)).toNat:Int)=u1 (t.toNat:Int) from ALca (λz:UInt8=>Value.int .u8 (z.toNat:Int)) ht)))] [(9,u1 (t.toNat:Int)),(10,i6 (fV (q.getD d 0)))] [] (rF [(1,.t (tk (show Value.bool ((fV (q.getD d 0)) != 0)= .bool false from ALca Value.bool (by exact DK A))))] 29 (rr (λ_=>[(1,.c [1] [3] (aa.at (rd':=[.c o]) (DI v p Om) (eD y (λ_ h=>h))))]) (λe=>[(11,((e 1).val 0))]) [] (λe L=>L++[bD ((e 1).val 0) p]) λe=>r0 [(1,fu kB ((e 1).val 0) p 3),(2,sI (p.length:Int) (1) Om)] [(12,i6 ((p.length:Int)-1))] [] ?_))));refine lq (λk=>k≤p.length-d) (λk=>[(12,i6 (((p.length:Nat):Int)-1-((k:Nat):Int)))]) (λk L=>L.set 3 (bD ((e 1).val 0) (bY p q d t k))) (λk=>(p.length-d)-k) 0 Om (by rw[show((p.length:Nat):Int)-1-((0:Nat):Int)=(p.length:Int)-1 by omega];kernel_rfl) Kr (λk F=>?_);have H:=sQ p q d t k;refine r0 [] [(38,.bool (decide ((d:Int)≤(((p.length:Nat):Int)-1-((k:Nat):Int)))))] [] ?_;refine oV (d:Int) (((p.length:Nat):Int)-1-((k:Nat):Int)) (λs m=>?_) λs m=>?_
 ·refine r0 [(2,.t (tk (show i6 (((p.length:Nat):Int)-1-((k:Nat):Int))=iN (p.length-1-k) from ALca (Value.int .i64) Om))),(3,cO kB ((e 1).val 0) (bY p q d t k) 3 (p.length-1-k)),(4,e7 kB ((e 1).val 0) (bY p q d t k) 3 (p.length-1-k) 0),(6,.c [0] [] (qg g ((bY p q d t k).getD (p.length-1-k) 0) t))] [(13,u1 ((gm ((bY p q d t k).getD (p.length-1-k) 0) t).toNat:Int))] [] (r0 [(1,ad d 1)] [(49,iN (d+1)),(50,i6 0)] [] ?_);refine lq (λj=>j≤d+1) (λj=>[(50,iN j)]) (λj L=>L.set 3 (bD ((e 1).val 0) (fw q (gm ((bY p q d t k).getD (p.length-1-k) 0) t) (bY p q d t k) (p.length-1-k-d) j))) (λj=>(d+1)-j) 0 Om Kr (by rw[MI];kernel_rfl) (λj C=>?_);have D:=MG q (gm ((bY p q d t k).getD (p.length-1-k) 0) t) (bY p q d t k) (p.length-1-k-d) j;refine r0 [] [(51,.bool (decide ((j:Int)<((d+1:Nat):Int))))] [] ?_;refine cj (j:Int) ((d+1:Nat):Int) (λx n=>?_) λx n=>?_
  ·exact r0 [] [(14,iN j)] [] (rs [(1,.t (tk (show i6 (((p.length:Nat):Int)-1-((k:Nat):Int))=iN (p.length-1-k) from ALca (Value.int .i64) Om))),(3,.t (tb (a:=iN (p.length-1-k)) (b:=iN d) λ_ _ _ _=>ma (a:=p.length-1-k) (b:=d) Om Om)),(5,ad ((p.length-1-k)-d) j),(6,cO kB ((e 1).val 0) (fw q (gm ((bY p q d t k).getD (p.length-1-k) 0) t) (bY p q d t k) (p.length-1-k-d) j) 3 (((p.length-1-k)-d)+j)),(7,e7 kB ((e 1).val 0) (fw q (gm ((bY p q d t k).getD (p.length-1-k) 0) t) (bY p q d t k) (p.length-1-k-d) j) 3 (((p.length-1-k)-d)+j) 0),(12,fv i.1 2 j 1),(13,ji kB i.1 2 j 0),(14,.c [0] [] (qg g (gm ((bY p q d t k).getD (p.length-1-k) 0) t) (q.getD j 0))),(15,.t (tb (a:=u1 (((fw q (gm ((bY p q d t k).getD (p.length-1-k) 0) t) (bY p q d t k) (p.length-1-k-d) j).getD (((p.length-1-k)-d)+j) 0).toNat:Int)) (b:=u1 ((gm (gm ((bY p q d t k).getD (p.length-1-k) 0) t) (q.getD j 0)).toNat:Int)) λ_ _ _ _=>lX ((fw q (gm ((bY p q d t k).getD (p.length-1-k) 0) t) (bY p q d t k) (p.length-1-k-d) j).getD (((p.length-1-k)-d)+j) 0) ((gm (gm ((bY p q d t k).getD (p.length-1-k) 0) t) (q.getD j 0))))),(16,cO kB ((e 1).val 0) (fw q (gm ((bY p q d t k).getD (p.length-1-k) 0) t) (bY p q d t k) (p.length-1-k-d) j) 3 (((p.length-1-k)-d)+j)),(17,sn kB ((e 1).val 0) (fw q (gm ((bY p q d t k).getD (p.length-1-k) 0) t) (bY p q d t k) (p.length-1-k-d) j) 3 (((p.length-1-k)-d)+j) 0 (((fw q (gm ((bY p q d t k).getD (p.length-1-k) 0) t) (bY p q d t k) (p.length-1-k-d) j).getD (((p.length-1-k)-d)+j) 0)^^^(gm (gm ((bY p q d t k).getD (p.length-1-k) 0) t) (q.getD j 0))) (u1 ((((fw q (gm ((bY p q d t k).getD (p.length-1-k) 0) t) (bY p q d t k) (p.length-1-k-d) j).getD (((p.length-1-k)-d)+j) 0)^^^(gm (gm ((bY p q d t k).getD (p.length-1-k) 0) t) (q.getD j 0))).toNat:Int)) Kr)] 3 (bD ((e 1).val 0) ((fw q (gm ((bY p q d t k).getD (p.length-1-k) 0) t) (bY p q d t k) (p.length-1-k-d) j).set (((p.length-1-k)-d)+j) (((fw q (gm ((bY p q d t k).getD (p.length-1-k) 0) t) (bY p q d t k) (p.length-1-k-d) j).getD (((p.length-1-k)-d)+j) 0)^^^(gm (gm ((bY p q d t k).getD (p.length-1-k) 0) t) (q.getD j 0))))) (r0 [(0,ad j 1)] [(50,iN (j+1))] [50] (le (j+1) Om Om Kr [0,1,2,3] (by rw[MX Om];kernel_rfl))))
  obtain rfl:j=d+1:=by omega
  exact lx (r0 [(1,.t (tv (av .sub 3 (.tmp 39) (.const (i6 1)) (i6 (((p.length:Nat):Int)-1-((k:Nat):Int))) (i6 1)) (λ_=>yO Om Om)))] [(12,i6 (((p.length:Nat):Int)-1-((k+1:Nat):Int)))] [12] (le (k+1) Om Om Kr [0,1,2,3] (by rw[MY Om];kernel_rfl)))
 obtain rfl:k=p.length-d:=by omega
 have G:=sQ p q d t (p.length-d);exact lx (rr (λ_=>[(1,.c [3] [4] (aa.at (rd':=[bD ((e 1).val 0) (bY p q d t (p.length-d))]) (vw ((e 1).val 0) (bY p q d t (p.length-d)) Om) (bO (λ_ h=>ar.sq h) (λ_ h=>h))))]) (λf=>[(6,((f 1).val 0)),(7,i6 0)]) [6,7] (λf L=>L++[bD ((f 1).val 0) (aw (bY p q d t (p.length-d)))]) λf=>lf (.l [] [] [((f 1).val 0),(f 1).val 0]) [4] [(0,0),(1,1),(2,2)] [] (hf:=by rw[show dJ p q t=aw (bY p q d t (p.length-d)) by unfold dJ;rw[B,Nat.add_sub_cancel]];kernel_rfl))
end
section
open Go Go.RowKit Go.Shelf
theorem M1(g:Nat)(v:Value)(xs:List UInt8)(z:xs.length≤1000000)(bs:ay)(h:dQ eB v xs bs):ft 5 Zm 289 #[pt g 0] (λ(x:Nat×UInt8)=>#[i6 (x.1:Int),u1 (x.2.toNat:Int)]) ((Zv xs.length).map λj=>(xs.length-1-j,xs.getD (xs.length-1-j) 0)) (ZR [[(g,.cells #[v] 191 (0,0))],bs]):=by
 refine gi (KO:=[[(g,.cells #[v] 191 (0,0))],bs]) Tryz.func289 (λo q p y u d m i=>?_);refine r0 [(0,.l 0),(1,eP h 1),(2,sI (xs.length:Int) (1) Om)] [(3,i6 ((xs.length:Int)-1))] [] ?_;refine j9 (λk=>k≤xs.length) (λk=>[(3,i6 (((xs.length:Nat):Int)-1-((k:Nat):Int)))]) (λ_ L=>L) (λk=>xs.length-k) (λk=>k) 0 Om i (by rw[show((xs.length:Nat):Int)-1-((0:Nat):Int)=(xs.length:Int)-1 by omega];kernel_rfl) Kr (λk r w n b=>?_);refine r0 [] [(8,.bool (decide (0≤(((xs.length:Nat):Int)-1-((k:Nat):Int)))))] [] ?_;refine oV 0 (((xs.length:Nat):Int)-1-((k:Nat):Int)) (λf c=>?_) λf c=>?_
 ·refine iy d m b 6 (λ_=>[(1,.t (tk (show i6 (((xs.length:Nat):Int)-1-((k:Nat):Int))=iN (xs.length-1-k) from ALca (Value.int .i64) Om))),(2,.l 0),(3,.t (tk (show i6 (((xs.length:Nat):Int)-1-((k:Nat):Int))=iN (xs.length-1-k) from ALca (Value.int .i64) Om))),(4,fv h 1 (xs.length-1-k) 1),(5,ji kB h 1 (xs.length-1-k) 0)]) (λ_=>[(11,.func (.yield o) #[] #[]),(12,iN (xs.length-1-k)),(16,u1 ((xs.getD (xs.length-1-k) 0).toNat:Int))]) [] (λ_ L=>L) N0 [0,1] (oN Om) (λA s e a=>?_);refine cF _ rfl (r0 [(1,.t (tv (av .sub 3 (.tmp 9) (.const (i6 1)) (i6 (((xs.length:Nat):Int)-1-((k:Nat):Int))) (i6 1)) (λ_=>yO Om Om)))] [(3,i6 (((xs.length:Nat):Int)-1-((k+1:Nat):Int)))] [3] ?_);exact iR (k+1) Om a Om Kr [0,1] Kr
 refine ka ?_;exact k7 d b (by rw[ZV,ZN];omega) [] [0,1]
theorem M3(v:Value)(xs:List UInt8):aa Zm 286 #[v] [.p (aK eB v xs)] [] (λE=>[ob (E.y 0) #[v] 191]) (λE=> .func (.func 289) #[] #[pt ((E.y 0)) 0]):=by
 exact fO Tryz.func286 0 rfl λb d=>fG Tryz.func286 λw e=>rr (λ_=>[(0,CZ 1 0 (.c b) v (λ_ _=>aK.cells d))]) (λa=>[(1,pt (B0 a) 0),(2,.nilFunc)]) [] (λa L=>L++[ob (B0 a) #[v] 191]) λa=>r0 [] [(2,.func (.func 289) #[] #[pt (B0 a) 0])] [2] (lf (.l [(a 0).y 0] [] []) [1] [(0,0)] [])
theorem M4(g:Nat)(v:Value)(p:List UInt8)(x:UInt8)(hp:p.length≤50000):aa Zm 275 #[pt g 0,v,u1 (x.toNat:Int)] [ob g (rB 255 aR++rN 256 aY).toArray 312,.p (aK eB v p)] [] N0 (λ_=>u1 ((fk p x).toNat:Int)):=by
 refine fO Tryz.func275 1 rfl λd m=>fG Tryz.func275 λw A=>ra (λe=>[(3,pt (B0 e) 0),(5,pt (B1 e) 0),(6,u1 0)]) (λe=>[ob (B0 e) #[pt g 0] 239,ob (B1 e) #[u1 (x.toNat:Int)] 5]) λe=>rr (λ_=>[(1,.s 4)]) (λf=>[(7,pt (B0 f) 0)]) [] (λf L=>L++[ob (B0 f) #[u1 0] 5]) λf=>rr (λ_=>[(1,.c [1] [5] (aa.at (rd':=[.c d]) (M3 v p) (eD m (λ_ h=>h))))]) (λi=>[(11,.func (.func 289) #[] #[pt ((B1 i)) 0])]) [] (λi L=>L++[ob (B1 i) #[v] 191]) λi=>?_;refine oX (encs:=λ(x:Nat×UInt8)=>#[i6 (x.1:Int),u1 (x.2.toNat:Int)]) (xs:=(Zv p.length).map λj=>(p.length-1-j,p.getD (p.length-1-j) 0)) (KO:=[[((B1 i),.cells #[v] 191 (0,0))],d]) (M1 (B1 i) v p Om d m.1) (enters_of Tryz.func289 Kr rfl) (λj=>j≤p.length) (λj L=>L.set 4 (ob (B0 f) #[u1 ((hv p x j).toNat:Int)] 5)) [5,1] Om Kr (λB j C r y n k=>?_) (λq k=>?_)
 ·obtain⟨o,rfl⟩:=nW n;refine r0 [] [(9,u1 ((p.getD (p.length-1-j) 0).toNat:Int))] [] ?_;refine ag [5,1] (λu z=>?_);exact rs [(0,.l 2),(1,.l 4),(2,.l 3),(3,.c [0] [] (qg g (hv p x j) x)),(5,.t (tb (a:=u1 ((gm (hv p x j) x).toNat:Int)) (b:=u1 ((p.getD (p.length-1-j) 0).toNat:Int)) λ_ _ _ _=>lX ((gm (hv p x j) x)) ((p.getD (p.length-1-j) 0)))),(6,.s 4)] 4 (ob (B0 f) #[u1 (((gm (hv p x j) x)^^^(p.getD (p.length-1-j) 0)).toNat:Int)] 5) (ne _ ⟨Om,rfl⟩ [0,1,2,3,4,5] Kr)
 refine cl [ob g (rB 255 aR++rN 256 aY).toArray 312,.c d,ob (B0 e) #[pt g 0] 239,ob (B1 e) #[u1 (x.toNat:Int)] 5,ob (B0 f) #[u1 ((hv p x p.length).toNat:Int)] 5,ob (B1 i) #[v] 191] (by rw[ZV,ZN];kernel_rfl) ?_;simp only[ZV,ZN] at k;exact r0 [(0,.l 4)] [(6,u1 ((hv p x p.length).toNat:Int))] [6] (ao (u1 ((hv p x p.length).toNat:Int)) ab.zero (by rw[MN]) [] [(0,0),(1,1)] [])
attribute [local irreducible] im
theorem M5(g:Nat)(v:Value)(rs:List UInt8)(r:rs.length≤100):aa Zm 183 #[pt g 0,v] [ob g (rB 255 aR++rN 256 aY).toArray 312,.p (aK eB v rs)] [] (λE=>[bD (E.val 0) (iq rs rs.length)]) (λE=>(E.val 0)):=by
 refine fO Tryz.func183 1 rfl λi d=>fG Tryz.func183 λw q=>r0 [] [(4,.slice none 0 0)] [] (rr (λ_=>[(0,g5 kB 2 1 [(1:UInt8)])]) (λe=>[(5,.slice (some ⟨(e 0).y 0,0,none⟩) 1 1)]) [] (λe L=>L++[bD (.slice (some ⟨(e 0).y 0,0,none⟩) 1 1) ([(1:UInt8)])]) λe=>r0 [(1,eP d.1 1)] [(9,v),(10,iN rs.length),(11,i6 0)] [] ?_);refine na (λk _=>k≤rs.length) (λk a=>[(11,iN k),(5,a)]) (λk a L=>L.set 2 (bD a (iq rs k))) (λk _=>rs.length-k) 0 (.slice (some ⟨(e 0).y 0,0,none⟩) 1 1) Om Kr Kr (λk a m=>?_);have o:=Mr rs k;have n:([rs.getD k 0,(1:UInt8)]:List UInt8).length=2:=rfl;refine r0 [] [(12,.bool (decide ((k:Int)<(rs.length:Int))))] [] ?_;refine cj (k:Int) (rs.length:Int) (λj f=>?_) λj f=>?_
 ·exact r0 [(0,fv d.1 1 k 1),(1,ji kB d.1 1 k 0)] [(7,u1 ((rs.getD k 0).toNat:Int))] [] (rr (λb=>[(3,g5 kB 3 2 [rs.getD k 0,(1:UInt8)]),(4,.c [0,2,3] [4] (aa.at (rd':=[ob g (rB 255 aR++rN 256 aY).toArray 312,bD a (iq rs k),bD (.slice (some ⟨(b 3).y 0,0,none⟩) 2 2) ([rs.getD k 0,(1:UInt8)])]) (MW g a (.slice (some ⟨(b 3).y 0,0,none⟩) 2 2) (iq rs k) ([rs.getD k 0,(1:UInt8)]) Om Om) (atS (bO (λ_ h=>ar.sq h) (bO (λ_ h=>ar.sq h) (λ_ h=>h))))))]) (λb=>[(5,((b 4).val 0))]) [5] (λb L=>L++[bD (.slice (some ⟨(b 3).y 0,0,none⟩) 2 2) ([rs.getD k 0,(1:UInt8)]),bD ((b 4).val 0) (im (iq rs k) ([rs.getD k 0,(1:UInt8)]))]) λb=>r0 [(0,ad k 1)] [(11,iN (k+1))] [11] (l8 (k+1) ((b 4).val 0) Om Om Kr [0,1,4] Kr))
 obtain rfl:rs.length=k:=by omega
 refine l9 ?_;exact r0 [] [(4,a)] [4] (lf (.l [] [] [a]) [2] [(0,0),(1,1)] [])
end
end E
theorem DM(x:UInt8)(m n:Nat):pw (pw x m) n=pw x (m*n):=by
 induction n with
 | zero=>rfl
 | succ n ih=>rw[pw,ih,Nat.mul_succ,Dz]
theorem DN(x:UInt8)(m n:Nat):pw (pw x m) n=pw (pw x n) m:=by rw[DM,DM,aaB]
theorem vx(i:Nat):(pw 2 i).toNat=gE (i%255):=by
 induction i with
 | zero=>decide+kernel
 | succ i ih=>
  rw[pw,k8,ih];have a:(2:UInt8).toNat=gE 1:=by decide+kernel
  rw[a,sK _ _ (ZQ _ Om) (by decide+kernel)];have b:gL (gE 1)=1:=by decide+kernel
  rw[b]
  congr 1
  omega
theorem DO: ∀i,i<255→gL (gE i)=i:=by decide+kernel
theorem M6{i j:Nat}(b:i<255)(c:j<255)(h:pw 2 i=pw 2 j):i=j:=by
 have a:=ALca UInt8.toNat h;rw[vx,vx,Zy b,Zy c] at a;rw[←DO i b,←DO j c,a]
theorem M7{x:UInt8}(h:x≠0):pw 2 (gL x.toNat)=x:=by
 have f:x.toNat≠0:=λe=>h (UInt8.toNat_inj.1 e);have b: ∀a,a<256→a≠0→gL a<255∧gE (gL a)=a:=by decide+kernel
 obtain⟨c,d⟩:=b x.toNat x.toNat_lt f;apply UInt8.toNat_inj.1;rw[vx,Zy c,d]
theorem M8{x:UInt8}(h:x≠0):gL x.toNat<255:=by
 have c:x.toNat≠0:=λe=>h (UInt8.toNat_inj.1 e);have b: ∀a,a<256→a≠0→gL a<255:=by decide+kernel
 exact b x.toNat x.toNat_lt c
def kH(e:Nat→UInt8)(n:Nat):List Nat:=(Zv n).filter λi=>e i != 0
theorem M9(e:Nat→UInt8)(n:Nat):kH e (n+1)=kH e n++(if e n != 0 then[n] else[]):=by
 unfold kH;rw[List.range_succ,List.filter_append]
 congr 1
 by_cases h:e n != 0
 ·rw[ALifp h];simp [aa8,h]
 ·rw[ALifn h];simp [aa8,h]
structure Vd where
 A:Nat
 place:Int
 val:UInt8
deriving DecidableEq
def hit(s:Nat→UInt8)(i:Nat):Bool:=s 0 != 0&&s 1==gm (s 0) (pw 2 i)&&s 2==gm (s 1) (pw 2 i)&&s 3==gm (s 2) (pw 2 i)
theorem o6(s:Nat→UInt8)(i:Nat):hit s i=true↔s 0≠0∧s 1=gm (s 0) (pw 2 i)∧s 2=gm (s 1) (pw 2 i)∧s 3=gm (s 2) (pw 2 i):=by
 unfold hit;simp only[Zt,bne_iff_ne,beq_iff_eq,and_assoc]
theorem DP{a x y:UInt8}(d:a≠0)(h:gm a x=gm a y):x=y:=by
 have c:gm a (x^^^y)=0:=by rw[yF,h,aaa]
 apply aak;intro b;exact Dm _ _ d (λe=>b (UInt8.xor_eq_zero_iff.1 e)) c
theorem DQ{s:Nat→UInt8}{i j:Nat}(d:i<255)(e:j<255)(h1:hit s i=true)(h2:hit s j=true):i=j:=by
 obtain⟨a,b,_⟩:=(o6 s i).1 h1;obtain⟨_,c,_⟩:=(o6 s j).1 h2;exact M6 d e (DP a (b.symm.trans c))
def jU(s:Nat→UInt8):Nat→Option Nat
 | 0=>none
 | k+1=>match jU s k with
  | some i=>some i
  | none=>if hit s k then some k else none
theorem DR{s:Nat→UInt8}{k:Nat}:jU s k=none↔∀i,i<k→hit s i=false:=by
 induction k with
 | zero=>exact⟨λ_ i b=>by omega,λ_=>rfl⟩
 | succ k ih=>
  rw[jU];cases h:jU s k with
  | some i=>
   refine⟨λh=>(by cases h),λa=>?_⟩;have:=ih.2 λi b=>a i Om;rw[h] at this;cases this
  | none=>
   by_cases a:hit s k=true
   ·simp only[a,if_true];exact⟨λh=>(by cases h),λc=>by rw[c k Om] at a;cases a⟩
   ·simp only[a];refine⟨λ_ i b=>?_,λ_=>rfl⟩;by_cases e:i=k
    ·subst e;simpa using a
    ·exact(ih.1 h) i Om
theorem DS{s:Nat→UInt8}{k i:Nat}(g:k≤255)(e:i<k)(h:hit s i=true):jU s k=some i:=by
 cases d:jU s k with
 | none=>rw[DR.1 d i e] at h;cases h
 | some j=>
  have c: ∀k,jU s k=some j→j<k∧hit s j=true:=λk=>by
   induction k with
   | zero=>intro h;cases h
   | succ k ih=>
    intro h;rw[jU] at h;cases a:jU s k with
    | some l=>
     rw[a] at h;obtain rfl:=Option.some.inj h;have:=ih a;exact⟨by omega,this.2⟩
    | none=>
     rw[a] at h;by_cases b:hit s k=true
     ·simp only[b,if_true] at h;obtain rfl:=Option.some.inj h;exact⟨by omega,b⟩
     ·simp only[b] at h;cases h
  obtain⟨f,a⟩:=c k d;rw[DQ Om Om a h]
def kJ(s:Nat→UInt8):Prop:=s 0=0∧s 1=0∧s 2=0∧s 3=0
instance (s:Nat→UInt8):Decidable (kJ s):=by unfold kJ;exact inferInstance
def dU(s:Nat→UInt8):Vd:=if kJ s then⟨0, -1,0⟩ else match jU s 39 with
 | some i=>if 35<i then⟨2,i,s 0⟩ else⟨1,i,s 0⟩
 | none=>⟨3, -1,0⟩
theorem yP{s:Nat→UInt8}(h:kJ s):dU s=⟨0, -1,0⟩:=ALifp h
theorem DT{s:Nat→UInt8}{i:Nat}(h:hit s i=true): ¬kJ s:=λa=>((o6 s i).1 h).1 a.1
theorem DU{s:Nat→UInt8}{i:Nat}(a:i≤35)(h:hit s i=true):dU s=⟨1,i,s 0⟩:=by
 unfold dU;rw[ALifn (DT h),DS Om (show i<39 by omega) h];exact ALifn Om
theorem DV{s:Nat→UInt8}{i:Nat}(h1:35<i)(a:i<39)(h:hit s i=true):dU s=⟨2,i,s 0⟩:=by
 unfold dU;rw[ALifn (DT h),DS Om a h];exact ALifp h1
theorem yQ{s:Nat→UInt8}(h0: ¬kJ s)(h: ∀i,i<39→hit s i=false):dU s=⟨3, -1,0⟩:=by
 unfold dU;rw[ALifn h0,DR.2 h]
theorem Na{s t:Nat→UInt8}(h: ∀i,i<4→s i=t i):dU s=dU t:=by
 have d: ∀i,hit s i=hit t i:=λi=>by unfold hit;rw[h 0 Om,h 1 Om,h 2 Om,h 3 Om]
 have c: ∀k,jU s k=jU t k:=λk=>by
  induction k with
  | zero=>rfl
  | succ k ih=>rw[jU,jU,ih,d]
 have b:kJ s↔kJ t:=by unfold kJ;rw[h 0 Om,h 1 Om,h 2 Om,h 3 Om]
 unfold dU;by_cases a:kJ s
 ·rw[ALifp a,ALifp (b.1 a)]
 ·rw[ALifn a,ALifn (λe=>a (b.2 e)),c,h 0 Om]
theorem Nb{s:Nat→UInt8}{r:UInt8}(h0:s 0≠0)(c:gm r (s 0)=s 1)(a:r≠0)(h2:s 2=gm (s 1) r)(b:s 3=gm (s 2) r):hit s (gL r.toNat)=true:=by
 rw[o6,M7 a];exact⟨h0,by rw[←c,kb],h2,b⟩
theorem DW{s:Nat→UInt8}{r:UInt8}(k:gm r (s 0)=s 1)(h:r=0∨s 2≠gm (s 1) r∨s 3≠gm (s 2) r)(i:Nat):hit s i=false:=by
 cases j:hit s i with
 | false=>rfl
 | true=>
  exfalso;obtain⟨b,c,d,f⟩:=(o6 s i).1 j;have e:r=pw 2 i:=DP b (by rw[kb,k,c]);subst e;rcases h with h | h | h
  ·have a:=vx i;rw[h] at a;have g: ∀m,m<255→gE m≠0:=by decide+kernel
   exact g (i%255) (ZQ _ Om) a.symm
  ·exact h d
  ·exact h f
def cE:List UInt8:=Mq [1,2,4,8]
theorem DX:cE=[64,120,54,15,1]:=by decide+kernel
def gi(x:UInt8):UInt8:=UInt8.ofNat (nh 1 x.toNat)
theorem Nc(x:UInt8):(gi x).toNat=nh 1 x.toNat:=by unfold gi;rw[ZW];exact Zy (Dj _ _)
theorem DY{x:UInt8}(h:x≠0):gm x (gi x)=1:=by
 rw[kb];apply UInt8.toNat_inj.1;rw[k8,Nc,Dk _ _ Om x.toNat_lt (λe=>h (UInt8.toNat_inj.1 e))];rfl
def o7(d v:List UInt8):List UInt8:=Zl 4 0++d++v
def kK(d v:List UInt8):List UInt8:=dJ (o7 d v) cE (gi (co cE (a4 cE-1)))
def g8(d v:List UInt8):List UInt8:=gw 4 (co (kK d v))
theorem ir(d v:List UInt8):(g8 d v).length=4:=jT _ _
theorem o8:a4 cE=5:=by
 have h:=DE [1,2,4,8] 4;exact h
theorem Nd:cE.length=5:=by rw[DX];rfl
theorem yR(d v:List UInt8):(kK d v).length≤4:=by
 have h:=(DF (p:=o7 d v) (q:=cE) (t:=gi (co cE (a4 cE-1))) (by rw[o8];omega) (DY (n8 cE (t:=a4 cE-1) (by rw[o8])))).2;rw[Mv,o8] at h;exact Nat.le_of_lt_succ h
theorem Nf(d v:List UInt8):kK d v++(Zl 4 (0:UInt8)).drop (kK d v).length=g8 d v:=by
 have c:=yR d v;refine o1 (by rw[ir];simp;omega) λi b=>?_;have a:i<4:=by simp at b;omega
 unfold g8;rw[k9,ALifp a];unfold co;rw[Zr,Zr];by_cases h:i<(kK d v).length
 ·rw[Z0 h]
 ·rw[Zz Om,ZA (l:=kK d v) Om,List.getElem?_drop];rw[show(kK d v).length+(i-(kK d v).length)=i by omega,List.getElem?_replicate,ALifp a];rfl
def qi(w v:List UInt8)(j:Nat):UInt8:=fk (w++v) (pw 2 j)
def aW(w v:List UInt8):List UInt8:=gw 4 (qi w v)
theorem yS(w v:List UInt8):(aW w v).length=4:=jT _ _
def lh(w v:List UInt8)(k:Nat):List UInt8:=gw 4 λj=>if j<k then qi w v j else 0
theorem yT(w v:List UInt8)(k:Nat):(lh w v k).length=4:=jT _ _
theorem Ng(w v:List UInt8):lh w v 0=Zl 4 0:=DG _ _ λi _=>ALifn Om
theorem Nh(w v:List UInt8):lh w v 4=aW w v:=vt λi a=>ALifp a
theorem Ni(w v:List UInt8)(k:Nat):(lh w v k).set k (qi w v k)=lh w v (k+1):=
 yK _ _ _ _ _ λi _=>by
  by_cases e:i=k
  ·subst e;rw[ALifp Om,ALifp rfl]
  ·rw[ALifn e];by_cases h:i<k
   ·rw[ALifp Om,ALifp h]
   ·rw[ALifn Om,ALifn h]
def gd(x y:UInt8):UInt8:=UInt8.ofNat (nh x.toNat y.toNat)
theorem Nj(x y:UInt8):(gd x y).toNat=nh x.toNat y.toNat:=by unfold gd;rw[ZW];exact Zy (Dj _ _)
theorem DZ(x:UInt8){y:UInt8}(a:y≠0):gm (gd x y) y=x:=by
 apply UInt8.toNat_inj.1;rw[k8,Nj,Dk _ _ x.toNat_lt y.toNat_lt (λe=>a (UInt8.toNat_inj.1 e))]
theorem Nk{s:Nat→UInt8}(h:(((dU s).A:Int)==1)=true): ∃i:Nat,i≤35∧(dU s).place=(i:Int):=by
 unfold dU at h⊢;by_cases c:kJ s
 ·rw[ALifp c] at h;cases h
 ·rw[ALifn c] at h⊢;cases b:jU s 39 with
  | none=>rw[b] at h;cases h
  | some i=>
   rw[b] at h;by_cases a:35<i
   ·simp only[ALifp a] at h;cases h
   ·exact⟨i,by omega,by simp only[ALifn a]⟩
def fX(d v:List UInt8):List UInt8:=bif ((dU (co (aW d v))).A:Int)==1 then(d.set (dU (co (aW d v))).place.toNat ((d.getD (dU (co (aW d v))).place.toNat 0)^^^(dU (co (aW d v))).val)).drop 4 else d.drop 4
namespace E
section
open Go Go.RowKit Go.Shelf
attribute [local irreducible] a4 aw iq im dJ aR aY
def jV:Nat→List UInt8
 | 0=>[]
 | k+1=>jV k++[kE (aR.getD (dC 1) 0) k]
theorem yU: ∀k,(jV k).length=k
 | 0=>rfl
 | k+1=>by rw[jV,Zp,yU k];rfl
theorem Nl:iq (jV 4) (jV 4).length=cE:=by decide+kernel
theorem Nm(g:Nat):aa Zm 141 #[pt g 0] [ob g (rB 255 aR++rN 256 aY).toArray 312] [] (λE=>[ob (E.y 0) #[pt g 0,(E.val 0)] 309,bD (E.val 0) cE]) (λE=>pt ((E.y 0)) 0):=by
 refine fG Tryz.func141 λw cs=>r0 [] [(2,.pointer none)] [] (ra (λq2=>[(3,pt (B0 q2) 0)]) (λq2=>[ob (B0 q2) #[.slice none 0 0] 191]) λq2=>rr (λ_=>[(2,.c [0] [] (vn g 1 Om Om)),(3,.c [] [2,3,4] (L5 g (aR.getD (dC 1) 0) 4))]) (λq3=>[(9,.func (.func 216) #[] #[pt ((B3 q3)) 0,pt (((q3 3).y 1)) 0,pt (((q3 3).y 2)) 0])]) [] (λq3 L=>L++[ob (B3 q3) #[i6 4] 3,ob ((q3 3).y 1) #[pt g 0] 239,ob ((q3 3).y 2) #[u1 ((aR.getD (dC 1) 0).toNat:Int)] 5]) λq3=>cz kB (cz kB ?_))
 refine KP (encs:=λ(x:Nat×UInt8)=>#[i6 (x.1:Int),u1 (x.2.toNat:Int)]) (xs:=(Zv 4).map λk=>(k,kE (aR.getD (dC 1) 0) k)) (KO:=[[((B3 q3),.cells #[i6 4] 3 (0,0))],[(((q3 3).y 1),.cells #[pt g 0] 239 (0,0))],[(((q3 3).y 2),.cells #[u1 ((aR.getD (dC 1) 0).toNat:Int)] 5 (0,0))],[(g,.cells (rB 255 aR++rN 256 aY).toArray 312 (0,0))]]) (L6 (B3 q3) ((q3 3).y 1) ((q3 3).y 2) g (aR.getD (dC 1) 0)) (enters_of Tryz.func216 Kr rfl) (λj _=>j≤4) (λj vC3_0 L=>(L.set 1 (ob (B0 q2) #[vC3_0] 191)).set 6 (bD vC3_0 (jV j))) [2,3,4,0] (.slice none 0 0) Om Kr (λlR j vC3_0 xE R1 W1 hxE hk5=>?_) (λD4 vC3_0 hk5=>?_)
 ·obtain⟨hkb6,rfl⟩:=nW hxE
  have hpl:=yU j
  refine r0 [] [(5,u1 ((kE (aR.getD (dC 1) 0) j).toNat:Int))] [] ?_
  refine ag [2,3,4,0] (λR2 W2=>?_)
  exact rr (λq8=>[(0,.l 1),(2,.m (bs 7 1)),(3,fC kB (vC3_0) (jV j) 6 7 ([(kE (aR.getD (dC 1) 0) j)])),(4,.m (fS 1 6 (bD ((q8 3).val 0) ((jV j)++([(kE (aR.getD (dC 1) 0) j)]))) ((q8 3).val 0) λbs h=>ar.one ((λ_ h=>h) bs h)))]) N0 [] (λq8 L=>(L.set 1 (ob (B0 q2) #[(q8 3).val 0] 191)).set 6 (bD ((q8 3).val 0) ((jV j)++([(kE (aR.getD (dC 1) 0) j)])))++[ob (B2 q8) #[u1 ((kE (aR.getD (dC 1) 0) j).toNat:Int)] 5]) λq8=>ne _ ⟨(q8 3).val 0,Om,rfl⟩ [0,1,2,3,4,5,6] Kr
 have hpe:=yU 4
 exact rr (λq9=>[(2,.l 1),(3,.c [0,6] [7] (aa.at (rd':=[ob g (rB 255 aR++rN 256 aY).toArray 312,bD vC3_0 (jV 4)]) (M5 g vC3_0 (jV 4) Om) (atS (bO (λ_ h=>ar.sq h) (λ_ h=>h))))),(4,Lc (v:= .agg #[pt g 0,((q9 3).val 0)]) 7 (bD ((q9 3).val 0) (iq (jV 4) (jV 4).length)) (Instr.build 309 #[(0,pt g 0),(1,((q9 3).val 0))]) (λbs h w=>by obtain⟨a5,c5,e5⟩:=ar.form h;rw[e5];kernel_rfl))]) (λq9=>[(2,pt (B5 q9) 0)]) [2] (λq9 L=>L++[bD ((q9 3).val 0) (iq (jV 4) (jV 4).length),ob (B5 q9) #[pt g 0,((q9 3).val 0)] 309]) λq9=>lf (.l [(q9 5).y 0] [] [((q9 3).val 0)]) [8,7] [(0,0)] [] (hf:=by rw[←Nl];kernel_rfl)
def tG:UInt8:=bP 1 (cE.getD 4 0)
theorem Nn:tG=Go.Proofs.YtbcodenfkijdnaaGreat.gi (Go.Proofs.YtbcodenfkijdnaaGreat.co cE (a4 cE-1)):=by
 rw[o8];decide+kernel
theorem D0(d v:List UInt8):dJ ((Zl 4 0++d)++v) cE tG=kK d v:=by rw[Nn];rfl
theorem No:cE.length=5:=Nd
attribute [local irreducible] cE
end
section
open Go Go.RowKit Go.Shelf
attribute [local irreducible] a4 aw iq im dJ aR aY cE
attribute [local irreducible] fk
theorem Np{k:Nat}(h:k<4):aR.getD (dC (k:Int)) 0=Go.Proofs.YtbcodenfkijdnaaGreat.pw 2 k:=by
 have: ∀k:Nat,k<4→aR.getD (dC (k:Int)) 0=Go.Proofs.YtbcodenfkijdnaaGreat.pw 2 k:=by decide+kernel
 exact this k h
theorem Nq{w v:List UInt8}{k:Nat}(h:k<4):lh w v (k+1)=(lh w v k).set k (fk (w++v) (aR.getD (dC (k:Int)) 0)):=by
 rw[←Ni,Np h];rfl
attribute [local irreducible] lh
theorem Nr(j g:Nat)(u:Value)(d v:List UInt8)(f:d.length=36)(hv:v.length=3):aa Zm 256 #[pt j 0,.agg (rB 36 d).toArray,.agg (rB 3 v).toArray] [ob j #[pt g 0,u] 309,ob g (rB 255 aR++rN 256 aY).toArray 312,.p (aK eB u cE)] [] N0 (λ_=> .agg (rB 4 (aW d v)).toArray):=by
 refine fO Tryz.func256 2 rfl λi t=>fG Tryz.func256 λw x=>?_;have r:(([]++d)++v).length=39:=by rw[aam,Zp,f,hv]
 refine ra (λa=>[(4,pt (B0 a) 0),(5,pt (B1 a) 0),(6,pt (B2 a) 0)]) (λa=>[ob (B0 a) (rB 36 d).toArray 371,ob (B1 a) (rB 3 v).toArray 262,ob (B2 a) (rB 4 (Zl 4 0)).toArray 268]) λa=>ra (λe=>[(7,pt (B0 e) 0)]) (λe=>[ob (B0 e) (rB 4 (Zl 4 0)).toArray 268]) λe=>rr (λb=>[(0,.m (sd 7 eB ([u1 0]) 5)),(1,aS 371 (B0 a) 36 1),(2,.m (mD 7 3 oT (.slice (some ⟨(b 0).y 0,0,none⟩) 0 0) (.slice (some ⟨(a 0).y 0,0,none⟩) 36 36) (xs:=[]) (ys:=d) (ob (B0 a) (rB 36 d).toArray 371) (λ_ h=>by rw[show _=_ from h];exact oZ (λ_=>rfl) f) oS (λ_=>rfl) (by simp only[LL,yT,f,hv];omega))),(3,aS 262 (B1 a) 3 1),(4,.m (mD 7 4 oT ((b 2).val 0) (.slice (some ⟨(a 1).y 0,0,none⟩) 3 3) (xs:=[]++d) (ys:=v) (ob (B1 a) (rB 3 v).toArray 262) (λ_ h=>by rw[show _=_ from h];exact oZ (λ_=>rfl) hv) oS (λ_=>rfl) (by simp only[LL,yT,f,hv];omega)))]) (λb=>[(8,(b 4).val 0)]) [] (λb L=>L++[bD ((b 4).val 0) (([]++d)++v)]) λb=>r0 [] [(15,i6 0)] [] ?_;refine lq (λk=>k≤4) (λk=>[(15,iN k)]) (λk L=>L.set 6 (ob (B0 e) (rB 4 (lh d v k)).toArray 268)) (λk=>4-k) 0 Om Kr (by rw[Ng];kernel_rfl) (λk q=>?_);refine r0 [] [(16,.bool (decide ((k:Int)<4)))] [] ?_;refine cj (k:Int) 4 (λo n=>?_) λo n=>?_
 ·exact r0 [] [(9,iN k)] [] (rs [(4,.l 0),(9,.l 0),(11,.c [1] [] (vn g (k:Int) Om Om)),(12,.c [1,7] [] (aa.at (rd':=[ob g (rB 255 aR++rN 256 aY).toArray 312,bD ((b 4).val 0) (([]++d)++v)]) (M4 g ((b 4).val 0) (([]++d)++v) (aR.getD (dC (k:Int)) 0) Om) (atS (bO (λ_ h=>ar.sq h) (λ_ h=>h))))),(13,iA 268 .i64 (B0 e) 0 4 1 k),(14,wD 6 (B0 e) k 268 (u1 ((fk (([]++d)++v) (aR.getD (dC (k:Int)) 0)).toNat:Int)) (rB 4 (lh d v k)) (rB 4 ((lh d v k).set k (fk (([]++d)++v) (aR.getD (dC (k:Int)) 0)))) (j6 Om) (mC (yT ..)))] 6 (ob (B0 e) (rB 4 ((lh d v k).set k (fk (([]++d)++v) (aR.getD (dC (k:Int)) 0)))).toArray 268) (r0 [(0,ad k 1)] [(15,iN (k+1))] [15] (le (k+1) Om Om Kr [0,1,2,3,4,5,6,7] (by rw[Nq Om];kernel_rfl))))
 obtain rfl:k=4:=by omega
 exact cl [ob j #[pt g 0,u] 309,ob g (rB 255 aR++rN 256 aY).toArray 312,.c i,ob (B0 a) (rB 36 d).toArray 371,ob (B1 a) (rB 3 v).toArray 262,ob (B2 a) (rB 4 (Zl 4 0)).toArray 268,ob (B0 e) (rB 4 (aW d v)).toArray 268,bD ((b 4).val 0) (([]++d)++v)] (by rw[Nh];kernel_rfl) (lx (rs [(0,.l 6),(1,.s 5)] 5 (ob (B2 a) (rB 4 (aW d v)).toArray 268) (lf ab.zero [] [(0,0),(1,1),(2,2)] [5])))
theorem yV:aa Zm 273 #[] [] [] N0 (λ_=> .agg #[i6 3,i6 (-1),u1 0]):=by
 exact fG Tryz.func273 λw b=>ra (λa=>[(0,pt (B0 a) 0)]) (λa=>[ob (B0 a) #[i6 0,i6 0,u1 0] 368]) λa=>rs [(1,.s 0)] 0 (ob (B0 a) #[i6 3,i6 (-1),u1 0] 368) (lf ab.zero [] [] [0])
end
section
open Go Go.RowKit Go.Shelf
attribute [local irreducible] a4 aw iq im dJ aR aY cE
theorem Nu(g:Nat)(v u:Value)(p G:List UInt8)(t:UInt8)(c:a4 G=5)(a:G.length=5)(ht:bP 1 (G.getD 4 0)=t)(hp:p.length≤50000)(b:4≤p.length):aa Zm 203 #[pt g 0,v,u] [ob g (rB 255 aR++rN 256 aY).toArray 312,.p (aK eB v p),.p (aK eB u G)] [] (λE=>[bD (E.val 0) (dJ p G t)]) (λE=> .tuple #[(E.val 0),i6 0]):=
 MZ g v u p G 4 t hp (by rw[a];decide) c b ht
theorem Nv(f g:Nat)(u:Value)(d v G:List UInt8)(t:UInt8)(k:d.length=32)(hv:v.length=3)(q:a4 G=5)(i:G.length=5)(ht:bP 1 (G.getD 4 0)=t)(x:(dJ ((Zl 4 0++d)++v) G t).length≤4)(r:List UInt8)(z:dJ ((Zl 4 0++d)++v) G t++(Zl 4 (0:UInt8)).drop (dJ ((Zl 4 0++d)++v) G t).length=r):aa Zm 161 #[pt f 0,.agg (rB 32 d).toArray,.agg (rB 3 v).toArray] [ob f #[pt g 0,u] 309,ob g (rB 255 aR++rN 256 aY).toArray 312,.p (aK eB u G)] [] N0 (λ_=> .agg (rB 4 r).toArray):=by
 refine fO Tryz.func161 2 rfl λn o=>fG Tryz.func161 λw A=>?_;have y:((Zl 4 (0:UInt8)++d)++v).length=39:=by rw[Zp,Zp,Zs,k,hv]
 exact ra (λa=>[(4,pt (B0 a) 0),(5,pt (B1 a) 0),(6,pt (B2 a) 0)]) (λa=>[ob (B0 a) (rB 32 d).toArray 267,ob (B1 a) (rB 3 v).toArray 262,ob (B2 a) (rB 4 (Zl 4 0)).toArray 268]) λa=>ra (λj=>[(7,pt (B0 j) 0)]) (λj=>[ob (B0 j) (rB 4 (Zl 4 0)).toArray 268]) λj=>rr (λb=>[(0,sC kB 7 4),(1,aS 267 (B0 a) 32 1),(2,.m (mD 7 3 oT (.slice (some ⟨(b 0).y 0,0,none⟩) 4 4) (.slice (some ⟨(a 0).y 0,0,none⟩) 32 32) (xs:=Zl 4 0) (ys:=d) (ob (B0 a) (rB 32 d).toArray 267) (λ_ h=>by rw[show _=_ from h];exact oZ (λ_=>rfl) k) oS (λ_=>rfl) (by simp only[LL,k,hv,i];omega))),(3,aS 262 (B1 a) 3 1),(4,.m (mD 7 4 oT ((b 2).val 0) (.slice (some ⟨(a 1).y 0,0,none⟩) 3 3) (xs:=(Zl 4 0)++d) (ys:=v) (ob (B1 a) (rB 3 v).toArray 262) (λ_ h=>by rw[show _=_ from h];exact oZ (λ_=>rfl) hv) oS (λ_=>rfl) (by simp only[LL,k,hv,i];omega)))]) (λb=>[(8,(b 4).val 0)]) [] (λb L=>L++[bD ((b 4).val 0) (((Zl 4 0)++d)++v)]) λb=>rr (λe=>[(0,.v (pt f 0)),(1,.v (pt f 0)),(2,.v (pt f 0)),(3,.m (ld 0 (pt g 0))),(4,.v ((b 4).val 0)),(5,.v (pt f 0)),(6,.v (pt f 0)),(7,.v (pt f 1)),(8,.m (ld 0 (u))),(9,.c [1,7,2] [8] (aa.at (rd':=[ob g (rB 255 aR++rN 256 aY).toArray 312,bD ((b 4).val 0) (((Zl 4 0)++d)++v),.c n]) (Nu g ((b 4).val 0) u ((((Zl 4 0)++d)++v)) G t q i ht Om Om) (atS (bO (λ_ h=>ar.sq h) (eD o (λ_ h=>h)))))),(10,.v (.tuple #[(e 9).val 0,i6 0])),(11,.v ((e 9).val 0)),(12,.v (i6 0)),(13,.v ((e 9).val 0)),(14,.v (i6 0))]) (λe=>[(9,(e 9).val 0),(10,i6 0)]) [] (λe L=>L++[bD ((e 9).val 0) (dJ ((((Zl 4 0)++d)++v)) (G) t)]) λe=>rT [] 30 (rs [(0,aS 268 (B0 j) 4 1),(2,.m (ve kB 6 (B0 j) 0 4 4 (rB 4 (Zl 4 0)).toArray (rB 4 ((Zl 4 0).take 0++(dJ ((((Zl 4 0)++d)++v)) (G) t)++(Zl 4 0).drop (0+((dJ ((((Zl 4 0)++d)++v)) (G) t).length)))).toArray 268 191 191 8 (bD ((e 9).val 0) (dJ ((((Zl 4 0)++d)++v)) (G) t)) ((e 9).val 0) (dJ ((((Zl 4 0)++d)++v)) (G) t) (λ_ h=>ar.src h) Om (by rw[Zw,kD];omega) (ALca List.toArray (r7 (d:=0) (λ_=>rfl) Zs rfl Om))))] 6 (ob (B0 j) (rB 4 ((Zl 4 0).take 0++(dJ ((((Zl 4 0)++d)++v)) (G) t)++(Zl 4 0).drop (0+((dJ ((((Zl 4 0)++d)++v)) (G) t).length)))).toArray 268) (rs [(0,.l 6),(1,.s 5)] 5 (ob (B2 a) (rB 4 ((Zl 4 0).take 0++(dJ ((((Zl 4 0)++d)++v)) (G) t)++(Zl 4 0).drop (0+((dJ ((((Zl 4 0)++d)++v)) (G) t).length)))).toArray 268) (ao (.agg (rB 4 ((Zl 4 0).take 0++(dJ ((((Zl 4 0)++d)++v)) (G) t)++(Zl 4 0).drop (0+((dJ ((((Zl 4 0)++d)++v)) (G) t).length)))).toArray) ab.zero (by rw[ZG,aa0,aam,z]) [] [(0,0),(1,1),(2,2)] [5])))
theorem Nw(a g:Nat)(u:Value)(d v:List UInt8)(b:d.length=32)(hv:v.length=3):aa Zm 161 #[.pointer (some ⟨a,0,none⟩),.agg (rB 32 d).toArray,.agg (rB 3 v).toArray] [ob a #[.pointer (some ⟨g,0,none⟩),u] 309,ob g (rB 255 aR++rN 256 aY).toArray 312,.p (aK eB u cE)] [] N0 (λ_=> .agg (rB 4 (g8 d v)).toArray):=
 Nv a g u d v cE tG b hv o8 No rfl (by rw[D0];exact yR d v) (g8 d v) (by rw[D0];exact Nf d v)
theorem Nx{P:Program}{T:TypeId}{x y:Operand}{w:World}{k:Nat}(h:k<9223372036854775807):(av .sub T x y (.int .i64 ((k+1:Nat):Int)) (.int .i64 1)).run P w= .ok (.int .i64 (k:Int)) w:=ma (a:=k+1) (b:=1) Om Om
def fx(s:List UInt8):Nat:=(dU (Go.Proofs.YtbcodenfkijdnaaGreat.co s)).A
def cY(s:List UInt8):Int:=(dU (Go.Proofs.YtbcodenfkijdnaaGreat.co s)).place
def eY(s:List UInt8):UInt8:=(dU (Go.Proofs.YtbcodenfkijdnaaGreat.co s)).val
def oa(s:List UInt8):Value:= .agg #[.int .i64 ((fx s:Nat):Int),.int .i64 (cY s),.int .u8 ((eY s).toNat:Int)]
theorem qj{s:List UInt8}{k:Nat}{p:Int}{v:UInt8}(h:dU (Go.Proofs.YtbcodenfkijdnaaGreat.co s)=⟨k,p,v⟩):Value.agg #[.int .i64 (k:Int),.int .i64 p,.int .u8 (v.toNat:Int)]=oa s:=by
 unfold oa fx cY eY;rw[h]
theorem vy{b:UInt8}(h:b≠0):((b.toNat:Int)==0)=false:=beq_false_of_ne λe=>h (UInt8.toNat_inj.1 (by show b.toNat=0;omega))
theorem D1(a:UInt8){b:UInt8}(h:b≠0):bP a b=Go.Proofs.YtbcodenfkijdnaaGreat.gd a b:=by
 unfold bP Go.Proofs.YtbcodenfkijdnaaGreat.gd nh;rw[vy h,ALcf];by_cases c:a=0
 ·subst c;rfl
 ·have d:a.toNat≠0:=λe=>c (UInt8.toNat_inj.1 e);have f:=qf a;have g:=qf b;rw[vy c,ALcf,ALifn d,Dt (yG _)]
  congr 2
  unfold dC gL;omega
theorem D2{s:List UInt8}(hs:s.length=4):decide (s=Zl 4 0)=decide (kJ (Go.Proofs.YtbcodenfkijdnaaGreat.co s)):=by
 rw[decide_eq_decide]
 constructor
 ·rintro rfl;exact⟨rfl,rfl,rfl,rfl⟩
 ·rintro ⟨a,b,c,d⟩;refine o1 (by rw[hs,Zs]) λi e=>?_;rw[hs] at e;have:i=0∨i=1∨i=2∨i=3:=by omega
  rcases this with rfl | rfl | rfl | rfl
  ·exact a
  ·exact b
  ·exact c
  ·exact d
theorem Ny{s:List UInt8}(hs:s.length=4)(h:decide (s=Zl 4 0)=true):Value.agg #[.int .i64 0,.int .i64 (-1),.int .u8 0]=oa s:=
 qj (k:=0) (p:= -1) (v:=0) (yP (of_decide_eq_true (D2 hs▸h)))
theorem yW{s:List UInt8}(hs:s.length=4)(h:decide (s=Zl 4 0)=false): ¬kJ (Go.Proofs.YtbcodenfkijdnaaGreat.co s):=of_decide_eq_false (D2 hs▸h)
theorem D3{s:List UInt8}(h:((fV (s.getD 0 0) != 0)||(((bP (s.getD 1 0) (s.getD 0 0)).toNat:Int)==0))=false):Go.Proofs.YtbcodenfkijdnaaGreat.co s 0≠0∧gm (bP (s.getD 1 0) (s.getD 0 0)) (Go.Proofs.YtbcodenfkijdnaaGreat.co s 0)=Go.Proofs.YtbcodenfkijdnaaGreat.co s 1∧bP (s.getD 1 0) (s.getD 0 0)≠0:=by
 rw[aaD] at h;have a:s.getD 0 0≠0:=λe=>by rw[e] at h;exact absurd h.1 Dc
 refine⟨a,?_,λe=>by rw[e] at h;exact absurd h.2 Dc⟩;rw[D1 _ a];exact DZ (s.getD 1 0) a
theorem Nz{s:List UInt8}(hs:s.length=4)(b:decide (s=Zl 4 0)=false)(h:((fV (s.getD 0 0) != 0)||(((bP (s.getD 1 0) (s.getD 0 0)).toNat:Int)==0))=true):Value.agg #[.int .i64 3,.int .i64 (-1),.int .u8 0]=oa s:=by
 refine qj (k:=3) (p:= -1) (v:=0) (yQ (yW hs b) λi _=>?_);by_cases a:s.getD 0 0=0
 ·cases c:hit (Go.Proofs.YtbcodenfkijdnaaGreat.co s) i with
  | false=>rfl
  | true=>exact absurd a ((o6 _ _).1 c).1
 ·rw[DK a,aaf] at h;refine DW (r:=bP (s.getD 1 0) (s.getD 0 0)) ?_ (.inl (vp h)) i;rw[D1 _ a];exact DZ (s.getD 1 0) a
def rR(s:List UInt8):UInt8:=bP (s.getD 1 0) (s.getD 0 0)
theorem NA{s:List UInt8}{k:Nat}(b: ∀j,j<k→s.getD (j+1) 0=gm (s.getD j 0) (rR s))(h:((s.getD (k+1) 0).toNat:Int)=((gm (s.getD k 0) (bP (s.getD 1 0) (s.getD 0 0))).toNat:Int)): ∀j,j<k+1→s.getD (j+1) 0=gm (s.getD j 0) (rR s):=by
 intro j c;rcases ZJ j k with a | a
 ·exact b j a
 ·obtain rfl:j=k:=by omega
  exact UInt8.toNat_inj.1 (Int.ofNat.inj h)
theorem NB{s:List UInt8}{k:Nat}(hs:s.length=4)(d:decide (s=Zl 4 0)=false)(f:((fV (s.getD 0 0) != 0)||(((bP (s.getD 1 0) (s.getD 0 0)).toNat:Int)==0))=false)(l:((k+1:Nat):Int)<4)(h:((s.getD (k+1) 0).toNat:Int)≠((gm (s.getD k 0) (bP (s.getD 1 0) (s.getD 0 0))).toNat:Int)):Value.agg #[.int .i64 3,.int .i64 (-1),.int .u8 0]=oa s:=by
 obtain⟨g,c,j⟩:=D3 f;have a:s.getD (k+1) 0≠gm (s.getD k 0) (bP (s.getD 1 0) (s.getD 0 0)):=λe=>h (by rw[e]);refine qj (k:=3) (p:= -1) (v:=0) (yQ (yW hs d) λi _=>DW c ?_ i);have b:k=0∨k=1∨k=2:=by omega
 rcases b with rfl | rfl | rfl
 ·exact absurd (c.symm.trans (kb _ _)) a
 ·exact .inr (.inl a)
 ·exact .inr (.inr a)
theorem yX{s:List UInt8}{k:Nat}(e:((fV (s.getD 0 0) != 0)||(((bP (s.getD 1 0) (s.getD 0 0)).toNat:Int)==0))=false)(g:k≤3)(f:4≤((k+1:Nat):Int))(b: ∀j,j<k→s.getD (j+1) 0=gm (s.getD j 0) (rR s)):hit (Go.Proofs.YtbcodenfkijdnaaGreat.co s) (gL (rR s).toNat)=true∧gQ (bP (s.getD 1 0) (s.getD 0 0))=gL (rR s).toNat∧(mH (bP (s.getD 1 0) (s.getD 0 0)) != 0)=false∧gL (rR s).toNat<255:=by
 obtain⟨c,d,a⟩:=D3 e;obtain rfl:k=3:=by omega
 refine⟨Nb c d a (b 1 Om) (b 2 Om),?_,?_,M8 a⟩
 ·unfold gQ;rw[vy a];rfl
 ·unfold mH;rw[vy a];rfl
theorem NC{s:List UInt8}{k:Nat}(hs:s.length=4)(f:decide (s=Zl 4 0)=false)(l:((fV (s.getD 0 0) != 0)||(((bP (s.getD 1 0) (s.getD 0 0)).toNat:Int)==0))=false)(o:k≤3)(a:4≤((k+1:Nat):Int))(m: ∀j,j<k→s.getD (j+1) 0=gm (s.getD j 0) (rR s))(h:((mH (bP (s.getD 1 0) (s.getD 0 0)) != 0)||decide (39≤((gQ (bP (s.getD 1 0) (s.getD 0 0)):Nat):Int)))=true):Value.agg #[.int .i64 3,.int .i64 (-1),.int .u8 0]=oa s:=by
 obtain⟨b,c,d,e⟩:=yX l o a m;rw[d,aaf,c] at h;have g:=of_decide_eq_true h;refine qj (k:=3) (p:= -1) (v:=0) (yQ (yW hs f) λi q=>?_);cases n:hit (Go.Proofs.YtbcodenfkijdnaaGreat.co s) i with
 | false=>rfl
 | true=>have:=DQ e Om b n;omega
theorem ND{s:List UInt8}{k:Nat}(g:((fV (s.getD 0 0) != 0)||(((bP (s.getD 1 0) (s.getD 0 0)).toNat:Int)==0))=false)(l:k≤3)(c:4≤((k+1:Nat):Int))(i: ∀j,j<k→s.getD (j+1) 0=gm (s.getD j 0) (rR s))(h:((mH (bP (s.getD 1 0) (s.getD 0 0)) != 0)||decide (39≤((gQ (bP (s.getD 1 0) (s.getD 0 0)):Nat):Int)))=false)(a:36≤((gQ (bP (s.getD 1 0) (s.getD 0 0)):Nat):Int)):Value.agg #[.int .i64 2,.int .i64 ((gQ (bP (s.getD 1 0) (s.getD 0 0)):Nat):Int),.int .u8 ((s.getD 0 0).toNat:Int)]=oa s:=by
 obtain⟨d,e,f,m⟩:=yX g l c i;rw[f,aaf] at h;have b:=of_decide_eq_false h;rw[e] at b a⊢;exact qj (k:=2) (DV Om Om d)
theorem NF{s:List UInt8}{k:Nat}(e:((fV (s.getD 0 0) != 0)||(((bP (s.getD 1 0) (s.getD 0 0)).toNat:Int)==0))=false)(g:k≤3)(b:4≤((k+1:Nat):Int))(f: ∀j,j<k→s.getD (j+1) 0=gm (s.getD j 0) (rR s))(a:((gQ (bP (s.getD 1 0) (s.getD 0 0)):Nat):Int)<36):Value.agg #[.int .i64 1,.int .i64 ((gQ (bP (s.getD 1 0) (s.getD 0 0)):Nat):Int),.int .u8 ((s.getD 0 0).toNat:Int)]=oa s:=by
 obtain⟨c,d,h,i⟩:=yX e g b f;rw[d] at a⊢;exact qj (k:=1) (DU Om c)
theorem NG(b g:Nat)(u:Value)(s:List UInt8)(hs:s.length=4):aa Zm 255 #[pt b 0,.agg (rB 4 s).toArray] [ob b #[pt g 0,u] 309,ob g (rB 255 aR++rN 256 aY).toArray 312,.p (aK eB u cE)] [] N0 (λ_=> .agg #[iN (fx s),i6 (cY s),u1 ((eY s).toNat:Int)]):=by
 refine fO Tryz.func255 2 rfl λy B=>fG Tryz.func255 λw G=>ra (λa=>[(3,pt (B0 a) 0),(4,pt (B1 a) 0)]) (λa=>[ob (B0 a) (rB 4 s).toArray 268,ob (B1 a) #[i6 0,i6 0,u1 0] 368]) λa=>r0 [(0,.l 3),(2,.t (ig 268 λ_ _ _=>uH (xs:=rB 4 s) (ys:=rB 4 (Zl 4 0)) Kr (iP hs Zs)))] [(11,.bool (decide (s=Zl 4 0)))] [] ?_;refine cB (decide (s=Zl 4 0)) (λz=>?_) λz=>?_
 ·exact rr (λ_=>[(1,.s 4)]) N0 [] (λ_ L=>L.set 4 (ob (B1 a) #[i6 0,i6 (-1),u1 0] 368)) λH=>ao (.agg #[i6 0,i6 (-1),u1 0]) ab.zero (by exact Ny hs As) [] [(0,0),(1,1),(2,2)] [4]
 refine r0 [(0,.v (pt b 0)),(1,.v (pt b 0)),(2,.v (pt b 0)),(3,.m (ld 0 (pt g 0))),(4,.v (pt (B0 a) 1)),(5,.m (ld 3 (u1 ((s.getD 1 0).toNat:Int)))),(6,.v (pt (B0 a) 0)),(7,.m (ld 3 (u1 ((s.getD 0 0).toNat:Int)))),(8,.c [1] [] (Dw g (s.getD 1 0) (s.getD 0 0))),(9,.v (.tuple #[u1 ((bP (s.getD 1 0) (s.getD 0 0)).toNat:Int),i6 (fV (s.getD 0 0))])),(10,.v (u1 ((bP (s.getD 1 0) (s.getD 0 0)).toNat:Int))),(11,.v (i6 (fV (s.getD 0 0)))),(12,.v (u1 ((bP (s.getD 1 0) (s.getD 0 0)).toNat:Int))),(13,.v (i6 (fV (s.getD 0 0))))] [(5,u1 ((bP (s.getD 1 0) (s.getD 0 0)).toNat:Int)),(6,i6 (fV (s.getD 0 0)))] [] (r0 [] [(30,.bool (((fV (s.getD 0 0)) != 0)||(((bP (s.getD 1 0) (s.getD 0 0)).toNat:Int)==0)))] [] ?_);refine cB (((fV (s.getD 0 0)) != 0)||(((bP (s.getD 1 0) (s.getD 0 0)).toNat:Int)==0)) (λA=>?_) λA=>?_
 ·exact rr (λ_=>[(0,.c [] [] (yV)),(1,.s 4)]) N0 [] (λ_ L=>L.set 4 (ob (B1 a) #[i6 3,i6 (-1),u1 0] 368)) λI=>ao (.agg #[i6 3,i6 (-1),u1 0]) ab.zero (by exact Nz hs As As) [] [(0,0),(1,1),(2,2)] [4]
 refine r0 [] [(7,i6 1)] [] ?_;refine lq (λk=>k≤3∧(∀j,j<k→s.getD (j+1) 0=gm (s.getD j 0) (rR s))) (λk=>[(7,iN (k+1))]) (λ_ L=>L) (λk=>3-k) 0 ⟨by omega,λ_ h=>absurd h (aaY _)⟩ Kr Kr (λk ⟨x,i⟩=>?_);refine r0 [] [(33,.bool (decide (((k+1:Nat):Int)<4)))] [] ?_;refine cj ((k+1:Nat):Int) 4 (λn d=>?_) λn d=>?_
 ·refine r0 [(0,.v (iN (k+1))),(1,iA 268 .i64 (B0 a) 0 4 1 (k+1)),(2,rD 3 (B0 a) (k+1) 268 (rB 4 s) (nY Om)),(3,.v (pt b 0)),(4,.v (pt b 0)),(5,.v (pt b 0)),(6,.m (ld 0 (pt g 0))),(7,.v (iN (k+1))),(8,.t (tv (av .sub 3 (.tmp 43) (.const (i6 1)) (iN (k+1)) (i6 1)) (λ_=>Nx Om))),(9,iA 268 .i64 (B0 a) 0 4 1 k),(10,rD 3 (B0 a) k 268 (rB 4 s) (nY Om)),(11,.v (u1 ((bP (s.getD 1 0) (s.getD 0 0)).toNat:Int))),(12,.c [1] [] (qg g (s.getD k 0) (bP (s.getD 1 0) (s.getD 0 0)))),(13,.v (.bool (((s.getD (k+1) 0).toNat:Int) != ((gm (s.getD k 0) (bP (s.getD 1 0) (s.getD 0 0))).toNat:Int))))] [(49,.bool (((s.getD (k+1) 0).toNat:Int) != ((gm (s.getD k 0) (bP (s.getD 1 0) (s.getD 0 0))).toNat:Int)))] [] ?_;refine m9 ((s.getD (k+1) 0).toNat:Int) ((gm (s.getD k 0) (bP (s.getD 1 0) (s.getD 0 0))).toNat:Int) (λo e=>?_) λo e=>?_
  ·exact rr (λ_=>[(0,.c [] [] (yV)),(1,.s 4)]) N0 [] (λ_ L=>L.set 4 (ob (B1 a) #[i6 3,i6 (-1),u1 0] 368)) λC=>ao (.agg #[i6 3,i6 (-1),u1 0]) ab.zero (by exact NB hs As As As As) [] [(0,0),(1,1),(2,2)] [4]
  exact r0 [(1,ad (k+1) 1)] [(7,iN ((k+1)+1))] [7] (le (k+1) ⟨by omega,NA i As⟩ Om Kr [0,1,2,3,4] Kr)
 refine lx (r0 [(3,.l 0),(5,.c [1] [] (L4 g (bP (s.getD 1 0) (s.getD 0 0))))] [(8,iN (gQ (bP (s.getD 1 0) (s.getD 0 0)))),(6,i6 (mH (bP (s.getD 1 0) (s.getD 0 0))))] [6] (r0 [] [(60,.bool (((mH (bP (s.getD 1 0) (s.getD 0 0))) != 0)||(decide (39≤(((gQ (bP (s.getD 1 0) (s.getD 0 0))):Nat):Int)))))] [] ?_));refine cB (((mH (bP (s.getD 1 0) (s.getD 0 0))) != 0)||(decide (39≤(((gQ (bP (s.getD 1 0) (s.getD 0 0))):Nat):Int)))) (λq=>?_) λq=>?_
 ·exact rr (λ_=>[(0,.c [] [] (yV)),(1,.s 4)]) N0 [] (λ_ L=>L.set 4 (ob (B1 a) #[i6 3,i6 (-1),u1 0] 368)) λD=>ao (.agg #[i6 3,i6 (-1),u1 0]) ab.zero (by exact NC hs As As Om As i As) [] [(0,0),(1,1),(2,2)] [4]
 refine r0 [] [(68,.bool (decide (36≤(((gQ (bP (s.getD 1 0) (s.getD 0 0))):Nat):Int))))] [] ?_;refine oV 36 (((gQ (bP (s.getD 1 0) (s.getD 0 0))):Nat):Int) (λr f=>?_) λr f=>?_
 ·exact rr (λ_=>[(2,.l 3),(4,.s 4)]) N0 [] (λ_ L=>L.set 4 (ob (B1 a) #[i6 2,iN (gQ (bP (s.getD 1 0) (s.getD 0 0))),u1 ((s.getD 0 0).toNat:Int)] 368)) λF=>ao (.agg #[i6 2,iN (gQ (bP (s.getD 1 0) (s.getD 0 0))),u1 ((s.getD 0 0).toNat:Int)]) ab.zero (by exact ND As Om As i As As) [] [(0,0),(1,1),(2,2)] [4]
 exact rs [(2,.l 3),(4,.s 4)] 4 (ob (B1 a) #[i6 1,iN (gQ (bP (s.getD 1 0) (s.getD 0 0))),u1 ((s.getD 0 0).toNat:Int)] 368) (ao (.agg #[i6 1,iN (gQ (bP (s.getD 1 0) (s.getD 0 0))),u1 ((s.getD 0 0).toNat:Int)]) ab.zero (by exact NF As Om As i As) [] [(0,0),(1,1),(2,2)] [4])
end
section
open Go Go.RowKit Go.Shelf
attribute [local irreducible] a4 aw iq im dJ aR aY cE aW
theorem Zc{s:List UInt8}(h:(((fx s:Nat):Int)==1)=true):(cY s).toNat<36∧cY s=(((cY s).toNat:Nat):Int):=by
 obtain⟨i,b,a⟩:=Nk (s:=Go.Proofs.YtbcodenfkijdnaaGreat.co s) h;have:cY s=(i:Int):=a;omega
theorem NH{d v:List UInt8}(a:d.length=36):((bif ((fx (aW d v):Nat):Int)==1 then d.set ((cY (aW d v)).toNat) ((d.getD ((cY (aW d v)).toNat) 0)^^^(eY (aW d v))) else d).drop 4).take 32=fX d v:=by
 unfold fX fx cY eY;cases ((dU (Go.Proofs.YtbcodenfkijdnaaGreat.co (aW d v))).A:Int)==1
 ·rw[ALcf,ALcf,aav (by rw[Z5,a];decide)]
 ·rw[ALct,ALct,aav (by rw[Z5,Zu,a];decide)]
theorem NI(i g:Nat)(u:Value)(d v:List UInt8)(j:d.length=36)(hv:v.length=3):aa Zm 229 #[pt i 0,.agg (rB 36 d).toArray,.agg (rB 3 v).toArray] [ob i #[pt g 0,u] 309,ob g (rB 255 aR++rN 256 aY).toArray 312,.p (aK eB u cE)] [] N0 (λ_=> .tuple #[.agg (rB 32 (fX d v)).toArray,.agg #[iN (fx (aW d v)),i6 (cY (aW d v)),u1 ((eY (aW d v)).toNat:Int)]]):=by
 refine fO Tryz.func229 2 rfl λf n=>fG Tryz.func229 λw x=>ra (λe=>[(4,pt (B0 e) 0),(5,pt (B1 e) 0),(6,pt (B2 e) 0),(7,pt (B3 e) 0)]) (λe=>[ob (B0 e) (rB 36 d).toArray 371,ob (B1 e) (rB 3 v).toArray 262,ob (B2 e) (rB 32 (Zl 32 0)).toArray 267,ob (B3 e) #[i6 0,i6 0,u1 0] 368]) λe=>rr (λk=>[(2,.l 3),(3,.l 4),(4,.c [0,1,2] [] (aa.at (rd':=[ob i #[pt g 0,u] 309,ob g (rB 255 aR++rN 256 aY).toArray 312,.c f]) (Nr i g u d v (by(simp only[LL,yS,j,hv];done)) (by(simp only[LL,yS,j,hv];done))) (atS (atS (eD n (λ_ h=>h)))))),(5,.c [0,1,2] [] (aa.at (rd':=[ob i #[pt g 0,u] 309,ob g (rB 255 aR++rN 256 aY).toArray 312,.c f]) (NG i g u (aW d v) (by(simp only[LL,yS,j,hv];done))) (atS (atS (eD n (λ_ h=>h)))))),(7,.s 7)]) (λk=>[(8,pt (B6 k) 0)]) [] (λk L=>L++[ob (B6 k) #[iN (fx (aW d v)),i6 (cY (aW d v)),u1 ((eY (aW d v)).toNat:Int)] 368]) λk=>r0 [(1,.l 7)] [(17,.bool (((fx (aW d v):Nat):Int)==1))] [] ?_;refine cJ (((fx (aW d v):Nat):Int)==1) N0 (λc=>[ob i #[pt g 0,u] 309,ob g (rB 255 aR++rN 256 aY).toArray 312,.c f,ob (B0 e) (rB 36 (bif c then d.set ((cY (aW d v)).toNat) ((d.getD ((cY (aW d v)).toNat) 0)^^^(eY (aW d v))) else d)).toArray 371,ob (B1 e) (rB 3 v).toArray 262,ob (B2 e) (rB 32 (Zl 32 0)).toArray 267,ob (B3 e) #[i6 0,i6 0,u1 0] 368,ob (B6 k) #[iN (fx (aW d v)),i6 (cY (aW d v)),u1 ((eY (aW d v)).toNat:Int)] 368]) (λq=>?_) (λq=>?_) ?_
 ·have o:=eq_of_beq q;have r:=Zc As;refine rs [(1,.m (lt 7 (B6 k) 1 #[iN (fx (aW d v)),i6 (cY (aW d v)),u1 ((eY (aW d v)).toNat:Int)] 368 (ALca (λz:Int=>some (Value.int .i64 z)) (Zc As).2))),(2,iA 371 .i64 (B0 e) 0 36 1 ((cY (aW d v)).toNat)),(3,rD 3 (B0 e) ((cY (aW d v)).toNat) 371 (rB 36 d) (nY Om)),(5,.l 7),(6,.t (tb (a:=u1 ((d.getD ((cY (aW d v)).toNat) 0).toNat:Int)) (b:=u1 ((eY (aW d v)).toNat:Int)) λ_ _ _ _=>lX (d.getD ((cY (aW d v)).toNat) 0) ((eY (aW d v))))),(7,iA 371 .i64 (B0 e) 0 36 1 ((cY (aW d v)).toNat)),(8,wD 3 (B0 e) ((cY (aW d v)).toNat) 371 (u1 (((d.getD ((cY (aW d v)).toNat) 0)^^^(eY (aW d v))).toNat:Int)) (rB 36 d) (rB 36 (d.set ((cY (aW d v)).toNat) ((d.getD ((cY (aW d v)).toNat) 0)^^^(eY (aW d v))))) (j6 Om) (mC j))] 3 (ob (B0 e) (rB 36 (d.set ((cY (aW d v)).toNat) ((d.getD ((cY (aW d v)).toNat) 0)^^^(eY (aW d v))))).toArray 371) ?_;exact cm Kr [0,1,2,3,4,5,6,7] Kr
 ·have o:=ne_of_beq_false q;exact cm Kr [0,1,2,3,4,5,6,7] Kr
 exact rr (λ_=>[(0,aL 371 (B0 e) 36 1 4),(1,.t (tv (Instr.arrayAt 267 (.slice (some ⟨(e 0).y 0,4*1,none⟩) 32 32)) (λ_=>run_arrayAt _ 267 5 32 _ _ _ Tryz.underlying267 Om))),(2,.m (lg 3 (B0 e) (4*1) (rB 36 (bif ((fx (aW d v):Nat):Int)==1 then d.set ((cY (aW d v)).toNat) ((d.getD ((cY (aW d v)).toNat) 0)^^^(eY (aW d v))) else d)).toArray 371 (rB 32 (((bif ((fx (aW d v):Nat):Int)==1 then d.set ((cY (aW d v)).toNat) ((d.getD ((cY (aW d v)).toNat) 0)^^^(eY (aW d v))) else d).drop 4).take 32)) (xS (λ_=>rfl) (KK (by rw[Zu];exact j) j) Om))),(3,.l 7),(4,.s 5),(5,.s 6)]) N0 [] (λ_ L=>(L.set 5 (ob (B2 e) (rB 32 (((bif ((fx (aW d v):Nat):Int)==1 then d.set ((cY (aW d v)).toNat) ((d.getD ((cY (aW d v)).toNat) 0)^^^(eY (aW d v))) else d).drop 4).take 32)).toArray 267)).set 6 (ob (B3 e) #[iN (fx (aW d v)),i6 (cY (aW d v)),u1 ((eY (aW d v)).toNat:Int)] 368)) λy=>ao (.tuple #[.agg (rB 32 (((bif ((fx (aW d v):Nat):Int)==1 then d.set ((cY (aW d v)).toNat) ((d.getD ((cY (aW d v)).toNat) 0)^^^(eY (aW d v))) else d).drop 4).take 32)).toArray,.agg #[iN (fx (aW d v)),i6 (cY (aW d v)),u1 ((eY (aW d v)).toNat:Int)]]) ab.zero (by rw[NH j]) [] [(0,0),(1,1),(2,2)] [5,6]
end
section
open Go Go.RowKit Go.Shelf
attribute [local irreducible] pc bn
theorem yY(g i:Nat)(x:UInt8)(cl:List UInt8)(a:List Int)(d:i<74)(b:cl.length=74)(ht:a.length=256):aa Zm 179 #[pt g 0,iN i,u1 (x.toNat:Int)] [ob g (rB 74 cl++rI 256 a).toArray 298] [0] (λ_=>[ob g (rB 74 (cl.set i x)++rI 256 (a.set x.toNat (i:Int))).toArray 298]) (λ_=> .tuple #[]):=by
 have e:=x.toNat_lt;refine fG Tryz.func179 λw c=>rs [(0,.v (pt g 0)),(1,.v (iN i)),(2,.v (pt g 0)),(3,.v (u1 (x.toNat:Int))),(4,.v (u1 (x.toNat:Int))),(5,.v (iN i)),(6,.v (pt g 0)),(7,.v (pt g 0)),(8,iA 295 .i64 g 0 74 1 i),(9,wM (A:=[]) (R:=rB 74 cl) (C:=(rI 256 a:List Value)) 0 g i 298 (u1 (x.toNat:Int)) (rB 74 cl++rI 256 a) (rB 74 (cl.set i x)++rI 256 a) rfl rfl rfl (j6 Om) (mC b)),(10,.v (pt g 0)),(11,.v (pt g 74)),(12,iA 296 .u8 g 74 256 1 x.toNat),(13,wM (A:=(rB 74 (cl.set i x):List Value)) (R:=rI 256 a) (C:=[]) 0 g x.toNat 298 (iN i) (rB 74 (cl.set i x)++rI 256 a) (rB 74 (cl.set i x)++rI 256 (a.set x.toNat (i:Int))) (by rw[Zo]) (by rw[Zo]) kD (j6 Om) (Ca ht))] 0 (ob g (rB 74 (cl.set i x)++rI 256 (a.set x.toNat (i:Int))).toArray 298) ?_;exact eF ab.zero [0] [] []
def xc(cl:List UInt8)(d:Nat):Nat→UInt8
 | 0=>0
 | k+1=>xc cl d k^^^cl.getD ((bn d).getD k 0) 0
theorem D5{d j:Nat}(h:j<(bn d).length):(bn d).getD j 0<64:=by
 have a:(bn d).getD j 0∈bn d:=by
  rw[Zr,ZF h];exact aaP h
 unfold bn at a⊢;have:=(xn 64 0 d _ a).2.1;omega
def bp(d:Nat)(a p:Int)(cl:List UInt8):UInt8:=(bif (p%2)==1 then(bif (a%2)==1 then(xc cl d ((bn d).length))^^^(cl.getD 72 0) else(xc cl d ((bn d).length)))^^^(cl.getD 73 0) else(bif (a%2)==1 then(xc cl d ((bn d).length))^^^(cl.getD 72 0) else(xc cl d ((bn d).length))))
theorem D6(g d:Nat)(a p:Int)(cl:List UInt8)(m:List Int)(I:d<18446744073709551616)(H:cl.length=74)(ht:m.length=256):aa Zm 157 #[pt g 0,u6 (d:Int),i6 a,i6 p] [ob g (rB 74 cl++rI 256 m).toArray 298] [] N0 (λ_=>u1 ((bp d a p cl).toNat:Int)):=by
 refine fG Tryz.func157 λw G=>ra (λk=>[(4,pt (B0 k) 0),(8,u1 0)]) (λk=>[ob (B0 k) #[pt g 0] 235]) λk=>rr (λ_=>[(1,.s 2)]) (λe=>[(9,pt (B0 e) 0)]) [] (λe L=>L++[ob (B0 e) #[u1 0] 5]) λe=>rr (λ_=>[(1,.c [] [3] (C8 d))]) (λn=>[(12,.func (.func 172) #[] #[pt ((B1 n)) 0])]) [] (λn L=>L++[ob (B1 n) #[u6 (d:Int)] 44]) λn=>?_;refine CM (encs:=λ(i:Nat)=>#[iN i]) (xs:=bn d) (XO:=[((B1 n),.cells #[u6 (d:Int)] 44 (0,0))]) (KO:=[]) (C7 (B1 n) d Om) (enters_of Tryz.func172 Kr rfl) (λj=>j≤(bn d).length) (λj L=>L.set 2 (ob (B0 e) #[u1 ((xc cl d j).toNat:Int)] 5)) [ob g (rB 74 cl++rI 256 m).toArray 298,ob (B0 k) #[pt g 0] 235,ob (B0 e) #[u1 0] 5] [0,1,2,3] [3] [] Om Kr (λJ j K z D v u=>?_) (λy u=>?_)
 ·obtain⟨r,rfl⟩:=rS 0 v;have x:=D5 r;refine r0 [] [(10,iN ((bn d).getD j 0))] [] ?_;refine ag [] (λB F=>?_);exact rs [(0,.l 2),(1,.l 1),(5,iA 295 .i64 g 0 74 1 ((bn d).getD j 0)),(6,rM (A:=[]) (R:=rB 74 cl) (C:=(rI 256 m:List Value)) 0 g ((bn d).getD j 0) 298 (rB 74 cl++rI 256 m) rfl rfl (nY Om)),(7,.t (tb (a:=u1 ((xc cl d j).toNat:Int)) (b:=u1 ((cl.getD ((bn d).getD j 0) 0).toNat:Int)) λ_ _ _ _=>lX ((xc cl d j)) (cl.getD ((bn d).getD j 0) 0))),(8,.s 2)] 2 (ob (B0 e) #[u1 (((xc cl d j)^^^(cl.getD ((bn d).getD j 0) 0)).toNat:Int)] 5) (ne _ ⟨Om,rfl⟩ [0,1,2] Kr)
 refine r0 [(1,.t (tv (av .and 3 (.tmp 22) (.const (i6 1)) (i6 a) (i6 1)) (λ_=>mG a 1 2 Dc Dc Dc Dc)))] [(24,.bool ((a%2)==1))] [] ?_;refine cJ ((a%2)==1) N0 (λc=>[ob g (rB 74 cl++rI 256 m).toArray 298,ob (B0 k) #[pt g 0] 235,ob (B0 e) #[u1 ((bif c then(xc cl d ((bn d).length))^^^(cl.getD 72 0) else(xc cl d ((bn d).length))).toNat:Int)] 5]) (λf=>?_) (λf=>?_) ?_
 ·have o:=eq_of_beq f;refine rs [(0,.l 2),(1,.l 1),(5,.l 0),(6,.t (tb (a:=u1 ((xc cl d ((bn d).length)).toNat:Int)) (b:=u1 ((cl.getD 72 0).toNat:Int)) λ_ _ _ _=>lX ((xc cl d ((bn d).length))) (cl.getD 72 0))),(7,.s 2)] 2 (ob (B0 e) #[u1 (((xc cl d ((bn d).length))^^^(cl.getD 72 0)).toNat:Int)] 5) ?_;exact cm Kr [0,1,2] Kr
 ·have o:=ne_of_beq_false f;exact cm Kr [0,1,2] Kr
 refine r0 [(1,.t (tv (av .and 3 (.tmp 32) (.const (i6 1)) (i6 p) (i6 1)) (λ_=>mG p 1 2 Dc Dc Dc Dc)))] [(34,.bool ((p%2)==1))] [] ?_;refine cJ ((p%2)==1) N0 (λc=>[ob g (rB 74 cl++rI 256 m).toArray 298,ob (B0 k) #[pt g 0] 235,ob (B0 e) #[u1 ((bif c then(bif (a%2)==1 then(xc cl d ((bn d).length))^^^(cl.getD 72 0) else(xc cl d ((bn d).length)))^^^(cl.getD 73 0) else(bif (a%2)==1 then(xc cl d ((bn d).length))^^^(cl.getD 72 0) else(xc cl d ((bn d).length)))).toNat:Int)] 5]) (λh=>?_) (λh=>?_) ?_
 ·have q:=eq_of_beq h;refine rs [(0,.l 2),(1,.l 1),(5,.l 0),(6,.t (tb (a:=u1 ((bif (a%2)==1 then(xc cl d ((bn d).length))^^^(cl.getD 72 0) else(xc cl d ((bn d).length))).toNat:Int)) (b:=u1 ((cl.getD 73 0).toNat:Int)) λ_ _ _ _=>lX ((bif (a%2)==1 then(xc cl d ((bn d).length))^^^(cl.getD 72 0) else(xc cl d ((bn d).length)))) (cl.getD 73 0))),(7,.s 2)] 2 (ob (B0 e) #[u1 (((bif (a%2)==1 then(xc cl d ((bn d).length))^^^(cl.getD 72 0) else(xc cl d ((bn d).length)))^^^(cl.getD 73 0)).toNat:Int)] 5) ?_;exact cm Kr [0,1,2] Kr
 ·have q:=ne_of_beq_false h;exact cm Kr [0,1,2] Kr
 exact r0 [(0,.l 2)] [(8,u1 ((bif (p%2)==1 then(bif (a%2)==1 then(xc cl d ((bn d).length))^^^(cl.getD 72 0) else(xc cl d ((bn d).length)))^^^(cl.getD 73 0) else(bif (a%2)==1 then(xc cl d ((bn d).length))^^^(cl.getD 72 0) else(xc cl d ((bn d).length)))).toNat:Int))] [8] (lf ab.zero [] [(0,0)] [])
theorem NJ(g d:Nat)(k:UInt8)(a p:Int)(cl:List UInt8)(e:List Int)(i:d<18446744073709551616)(f:cl.length=74)(ht:e.length=256):aa Zm 254 #[pt g 0,u6 (d:Int),u1 (k.toNat:Int),i6 a,i6 p] [ob g (rB 74 cl++rI 256 e).toArray 298] [] N0 (λ_=>u1 (((bp d a p cl)^^^k).toNat:Int)):=by
 exact fG Tryz.func254 λw h=>r0 [] [(10,u1 0)] [] (r0 [(4,.c [0] [] (D6 g d a p cl e Om (by(simp only[LL,f,ht];done)) (by(simp only[LL,f,ht];done)))),(6,.t (tb (a:=u1 ((bp d a p cl).toNat:Int)) (b:=u1 (k.toNat:Int)) λ_ _ _ _=>lX ((bp d a p cl)) (k)))] [(10,u1 (((bp d a p cl)^^^k).toNat:Int))] [10] (lf ab.zero [] [(0,0)] []))
def dm(k:UInt8)(a:List Int):Int:=(bif (k.toNat:Int)==0 then 0 else(bif (a.getD k.toNat 0)==(-1) then 4 else(bif (a.getD k.toNat 0)==72 then 3 else(bif (a.getD k.toNat 0)==73 then 2 else 1))))
def dd(k:UInt8)(a:List Int):Int:=(bif (k.toNat:Int)==0 then(-1) else(bif (a.getD k.toNat 0)==(-1) then(-1) else(bif (a.getD k.toNat 0)==72 then(-1) else(bif (a.getD k.toNat 0)==73 then(-1) else(a.getD k.toNat 0)))))
theorem NK(g:Nat)(k:UInt8)(cl:List UInt8)(a:List Int)(m:cl.length=74)(ht:a.length=256):aa Zm 253 #[pt g 0,u1 (k.toNat:Int)] [ob g (rB 74 cl++rI 256 a).toArray 298] [] N0 (λ_=> .tuple #[i6 (dm k a),i6 (dd k a)]):=by
 have n:=k.toNat_lt;refine fG Tryz.func253 λw l=>r0 [] [(4,i6 0),(5,i6 0)] [] (r0 [] [(8,.bool ((k.toNat:Int)==0))] [] ?_);refine cX (k.toNat:Int) 0 (λd i=>?_) λd i=>?_
 ·exact r0 [] [(4,i6 0),(5,i6 (-1))] [4,5] (ao (.tuple #[i6 0,i6 (-1)]) ab.zero (by((try simp only[dm,dd]);(repeat (first | rw[d] | rw[ALct])))<;>rfl) [] [(0,0)] [])
 refine r0 [(4,iA 296 .u8 g 74 256 1 k.toNat),(5,rM (A:=(rB 74 cl:List Value)) (R:=rI 256 a) (C:=[]) 0 g k.toNat 298 (rB 74 cl++rI 256 a) (by rw[Zo]) kD (JB Om))] [(6,i6 (a.getD k.toNat 0))] [] (r0 [] [(16,.bool ((a.getD k.toNat 0)==(-1)))] [] ?_);refine cX (a.getD k.toNat 0) (-1) (λh j=>?_) λh j=>?_
 ·exact r0 [] [(4,i6 4),(5,i6 (-1))] [4,5] (ao (.tuple #[i6 4,i6 (-1)]) ab.zero (by((try simp only[dm,dd]);(repeat (first | rw[d] | rw[h] | rw[ALct] | rw[ALcf])))<;>rfl) [] [(0,0)] [])
 refine r0 [] [(19,.bool ((a.getD k.toNat 0)==72))] [] ?_;refine cX (a.getD k.toNat 0) 72 (λb e=>?_) λb e=>?_
 ·exact r0 [] [(4,i6 3),(5,i6 (-1))] [4,5] (ao (.tuple #[i6 3,i6 (-1)]) ab.zero (by((try simp only[dm,dd]);(repeat (first | rw[d] | rw[h] | rw[b] | rw[ALct] | rw[ALcf])))<;>rfl) [] [(0,0)] [])
 refine r0 [] [(22,.bool ((a.getD k.toNat 0)==73))] [] ?_;refine cX (a.getD k.toNat 0) 73 (λc f=>?_) λc f=>?_
 ·exact r0 [] [(4,i6 2),(5,i6 (-1))] [4,5] (ao (.tuple #[i6 2,i6 (-1)]) ab.zero (by((try simp only[dm,dd]);(repeat (first | rw[d] | rw[h] | rw[b] | rw[c] | rw[ALct] | rw[ALcf])))<;>rfl) [] [(0,0)] [])
 exact r0 [] [(4,i6 1),(5,i6 (a.getD k.toNat 0))] [4,5] (ao (.tuple #[i6 1,i6 (a.getD k.toNat 0)]) ab.zero (by((try simp only[dm,dd]);(repeat (first | rw[d] | rw[h] | rw[b] | rw[c] | rw[ALcf])))<;>rfl) [] [(0,0)] [])
theorem NL{b:List Int}{K:UInt8}(hp: ∀k:UInt8,(dm k b==1)=true→0≤dd k b)(h:((dm K b==1)&&decide (dd K b<64))=true):0≤dd K b∧dd K b<64∧1*2^(dd K b).toNat<18446744073709551616:=by
 rw[Zt] at h;have c:=hp K h.1;have d:=of_decide_eq_true h.2;refine⟨c,d,?_⟩;rw[Nat.one_mul];exact aaO (Nat.pow_lt_pow_right (a:=2) Om (show(dd K b).toNat<64 by omega)) Dc
def fY(d:Nat)(k:UInt8)(a:Int)(cl:List UInt8)(b:List Int):Nat:=(bif ((dm ((bp d a 0 cl)^^^k) b)==1)&&(decide ((dd ((bp d a 0 cl)^^^k) b)<64)) then d^^^(1*2^(dd (bp d a 0 cl^^^k) b).toNat) else d)
theorem NM(g d:Nat)(k:UInt8)(a:Int)(cl:List UInt8)(b:List Int)(i:d<18446744073709551616)(e:cl.length=74)(ht:b.length=256)(hp: ∀k:UInt8,(dm k b==1)=true→0≤dd k b):aa Zm 227 #[pt g 0,u6 (d:Int),u1 (k.toNat:Int),i6 a] [ob g (rB 74 cl++rI 256 b).toArray 298] [] N0 (λ_=> .tuple #[u6 (((fY d k a cl b):Nat):Int),i6 (dm ((bp d a 0 cl)^^^k) b),i6 (dd ((bp d a 0 cl)^^^k) b)]):=by
 refine fG Tryz.func227 λw j=>r0 [] [(8,u6 0),(9,i6 0),(10,i6 0)] [] (r0 [(0,.v (pt g 0)),(1,.v (pt g 0)),(2,.v (u6 (d:Int))),(3,.v (u1 (k.toNat:Int))),(4,.v (i6 a)),(5,.c [0] [] (NJ g d k a 0 cl b Om (by(simp only[LL,e,ht];done)) (by(simp only[LL,e,ht];done)))),(6,.c [0] [] (NK g ((bp d a 0 cl)^^^k) cl b (by(simp only[LL,e,ht];done)) (by(simp only[LL,e,ht];done)))),(7,.v (.tuple #[i6 (dm ((bp d a 0 cl)^^^k) b),i6 (dd ((bp d a 0 cl)^^^k) b)])),(8,.v (i6 (dm ((bp d a 0 cl)^^^k) b))),(9,.v (i6 (dd ((bp d a 0 cl)^^^k) b))),(10,.v (i6 (dm ((bp d a 0 cl)^^^k) b))),(11,.v (i6 (dd ((bp d a 0 cl)^^^k) b)))] [(9,i6 (dm ((bp d a 0 cl)^^^k) b)),(10,i6 (dd ((bp d a 0 cl)^^^k) b))] [9,10] (r0 [] [(26,.bool (((dm ((bp d a 0 cl)^^^k) b)==1)&&(decide ((dd ((bp d a 0 cl)^^^k) b)<64))))] [] ?_));refine cJ (((dm ((bp d a 0 cl)^^^k) b)==1)&&(decide ((dd ((bp d a 0 cl)^^^k) b)<64))) (λc=>[(1,u6 (((bif c then d^^^(1*2^(dd (bp d a 0 cl^^^k) b).toNat) else d):Nat):Int))]) (λ_=>[ob g (rB 74 cl++rI 256 b).toArray 298]) (λf=>?_) (λf=>?_) ?_
 ·have h:=NL hp f;refine r0 [(1,.t (tk (show i6 (dd ((bp d a 0 cl)^^^k) b)=iN ((dd (bp d a 0 cl^^^k) b).toNat) from ALca (Value.int .i64) Om))),(2,.t (tv (convert 3 201 (iN ((dd (bp d a 0 cl^^^k) b).toNat))) (λ_=>m5 Tryz.underlying3 Tryz.underlying201 Om))),(3,.t (tv (av .shl 44 (.const (u6 1)) (.tmp 29) (u6 1) (u6 (((dd (bp d a 0 cl^^^k) b).toNat:Nat):Int))) (λ_=>uB (a:=1) (dd (bp d a 0 cl^^^k) b).toNat Om h.2.2))),(4,.t (tv (av .xor 44 (.tmp 27) (.tmp 30) (u6 (d:Int)) (u6 ((1*2^(dd (bp d a 0 cl^^^k) b).toNat:Nat):Int))) (λ_=>Jp i h.2.2)))] [(1,u6 ((d^^^(1*2^(dd (bp d a 0 cl^^^k) b).toNat):Nat):Int))] [1] ?_;exact cm Kr [0] Kr
 ·exact cm Kr [0] Kr
 exact r0 [] [(8,u6 (((bif ((dm ((bp d a 0 cl)^^^k) b)==1)&&(decide ((dd ((bp d a 0 cl)^^^k) b)<64)) then d^^^(1*2^(dd (bp d a 0 cl^^^k) b).toNat) else d):Nat):Int)),(9,i6 (dm ((bp d a 0 cl)^^^k) b)),(10,i6 (dd ((bp d a 0 cl)^^^k) b))] [8,9,10] (lf ab.zero [] [(0,0)] [])
end
section
open Go Go.RowKit Go.Shelf
def jk:Nat→List Int
 | 0=>Zl 256 0
 | k+1=>(jk k).set k (-1)
def kc:Nat→List UInt8
 | 0=>Zl 74 0
 | k+1=>(kc k).set (64+k) (UInt8.ofNat (1*2^k))
def kd:Nat→List Int
 | 0=>jk 256
 | k+1=>(kd k).set (UInt8.ofNat (1*2^k)).toNat ((64+k:Nat):Int)
def ke:Nat→List UInt8
 | 0=>kc 8
 | k+1=>(ke k).set k (UInt8.ofNat ((ch 3 256).getD k 0))
def kf:Nat→List Int
 | 0=>kd 8
 | k+1=>(kf k).set (UInt8.ofNat ((ch 3 256).getD k 0)).toNat ((k:Nat):Int)
def p5(k:Nat):Nat:=bif decide (k<8) then 56+k else 64+k
def a6:Nat→List UInt8
 | 0=>ke 56
 | k+1=>(a6 k).set (p5 k) (UInt8.ofNat ((ch 5 256).getD k 0))
def bK:Nat→List Int
 | 0=>kf 56
 | k+1=>(bK k).set (UInt8.ofNat ((ch 5 256).getD k 0)).toNat ((p5 k:Nat):Int)
theorem nk: ∀k,(jk k).length=256
 | 0=>Zs ..
 | k+1=>by rw[jk,Zu];exact nk k
theorem oc: ∀k,(kc k).length=74
 | 0=>Zs ..
 | k+1=>by rw[kc,Zu];exact oc k
theorem od: ∀k,(kd k).length=256
 | 0=>nk 256
 | k+1=>by rw[kd,Zu];exact od k
theorem oe: ∀k,(ke k).length=74
 | 0=>oc 8
 | k+1=>by rw[ke,Zu];exact oe k
theorem og: ∀k,(kf k).length=256
 | 0=>od 8
 | k+1=>by rw[kf,Zu];exact og k
theorem jm: ∀k,(a6 k).length=74
 | 0=>oe 56
 | k+1=>by rw[a6,Zu];exact jm k
theorem jW: ∀k,(bK k).length=256
 | 0=>og 56
 | k+1=>by rw[bK,Zu];exact jW k
theorem yZ:(ch 3 256).length=56:=by decide+kernel
theorem NN:(ch 5 256).length=56:=by decide+kernel
def b5(k:Nat):Nat:=bif decide (k≤8) then 56+k else 64+k
theorem NO{i:Nat}(h:i≤10):(bif ((b5 i:Nat):Int)==64 then 72 else b5 i)=p5 i:=by
 have: ∀i,i≤10→(bif ((b5 i:Nat):Int)==64 then 72 else b5 i)=p5 i:=by decide
 exact this i h
theorem NP{i:Nat}:(p5 i=56+i∧i<8)∨(p5 i=64+i∧8≤i):=by
 unfold p5;rcases ZJ i 8 with h | h
 ·exact .inl ⟨by rw[cC h];rfl,h⟩
 ·exact .inr ⟨by rw[bl Om];rfl,h⟩
theorem NQ{i:Nat}(h:i<10):b5 (i+1)=p5 i+1:=by
 have: ∀i,i<10→b5 (i+1)=p5 i+1:=by decide
 exact this i h
attribute [local irreducible] jk kc kd ke kf a6 bK ch
theorem NR:aa Zm 140 #[] [] [] (λE=>[ob (E.y 0) (rB 74 (a6 10)++rI 256 (bK 10)).toArray 298]) (λE=>pt ((E.y 0)) 0):=by
 refine fG Tryz.func140 λw V=>r0 [] [(0,.pointer none)] [] (rr (λ_=>[(3,.s 1)]) (λe=>[(1,pt (B2 e) 0)]) [] (λe L=>L++[ob (B1 e) (rB 74 (Zl 74 0)++rN 256 (Zl 256 0)).toArray 298,ob (B2 e) #[pt (B1 e) 0] 235]) λe=>r0 [] [(9,i6 0)] [] ?_);refine lq (λk=>k≤256) (λk=>[(9,iN k)]) (λk L=>L.set 0 (ob (B1 e) (rB 74 (Zl 74 0)++rI 256 (jk k)).toArray 298)) (λk=>256-k) 0 Om Kr (by rw[show jk 0=Zl 256 0 by unfold jk;rfl];kernel_rfl) (λk Q=>?_);refine r0 [] [(10,.bool (decide ((k:Int)<256)))] [] ?_;refine cj (k:Int) 256 (λO x=>?_) λO x=>?_
 ·exact r0 [] [(2,iN k)] [] (rs [(0,.l 1),(4,iA 296 .i64 (B1 e) 74 256 1 k),(5,wM (A:=(rB 74 (Zl 74 0):List Value)) (R:=rI 256 (jk k)) (C:=[]) 0 (B1 e) k 298 (i6 (-1)) (rB 74 (Zl 74 0)++rI 256 (jk k)) (rB 74 (Zl 74 0)++rI 256 ((jk k).set k (-1))) (by rw[Zo]) (by rw[Zo]) kD (j6 Om) (Ca (nk ..)))] 0 (ob (B1 e) (rB 74 (Zl 74 0)++rI 256 ((jk k).set k (-1))).toArray 298) (r0 [(0,ad k 1)] [(9,iN (k+1))] [9] (le (k+1) Om Om Kr [0,1] (by rw[show jk (k+1)=(jk k).set k (-1) by rw[jk]];kernel_rfl))))
 obtain rfl:k=256:=by omega
 refine lx (r0 [] [(18,i6 0)] [] ?_);refine lq (λm=>m≤8) (λm=>[(18,iN m)]) (λm L=>L.set 0 (ob (B1 e) (rB 74 (kc m)++rI 256 (kd m)).toArray 298)) (λm=>8-m) 0 Om Kr (by rw[show kc 0=Zl 74 0 by unfold kc;rfl,show kd 0=jk 256 by unfold kd;rfl];kernel_rfl) (λm G=>?_);refine r0 [] [(19,.bool (decide ((m:Int)<8)))] [] ?_;refine cj (m:Int) 8 (λy n=>?_) λy n=>?_
 ·exact r0 [] [(3,iN m)] [] (rs [(0,.l 1),(2,ad 64 m),(4,.t (tv (convert 3 201 (iN m)) (λ_=>m5 Tryz.underlying3 Tryz.underlying201 Om))),(5,.t (tv (av .shl 5 (.const (u1 1)) (.tmp 25) (u1 1) (u6 (m:Int))) (λ_=>vc (a:=1) m Om))),(6,.c [0] [0] (yY (B1 e) (64+m) (UInt8.ofNat (1*2^m)) (kc m) (kd m) Om (by(simp only[LL,nk,oc,od,oe,og,jm,jW];done)) (by(simp only[LL,nk,oc,od,oe,og,jm,jW];done))))] 0 (ob (B1 e) (rB 74 ((kc m).set (64+m) (UInt8.ofNat (1*2^m)))++rI 256 ((kd m).set (UInt8.ofNat (1*2^m)).toNat ((64+m):Int))).toArray 298) (r0 [(0,ad m 1)] [(18,iN (m+1))] [18] (le (m+1) Om Om Kr [0,1] (by rw[show kc (m+1)=(kc m).set (64+m) (UInt8.ofNat (1*2^m)) by rw[kc],show kd (m+1)=(kd m).set (UInt8.ofNat (1*2^m)).toNat ((64+m:Nat):Int) by rw[kd]];kernel_rfl))))
 obtain rfl:m=8:=by omega
 refine lx (rr (λ_=>[(1,.s 2)]) (λf=>[(4,pt (B0 f) 0)]) [] (λf L=>L++[ob (B0 f) #[i6 0] 3]) λf=>rr (λ_=>[(0,.c [] [3,4] (Df 8 3))]) (λb=>[(29,.func (.func 214) #[] #[pt ((B0 b)) 0,pt (((b 0).y 1)) 0])]) [] (λb L=>L++[ob (B0 b) #[i6 3] 3,ob ((b 0).y 1) #[i6 8] 3]) λb=>?_);refine oX (encs:=λ(i:Nat)=>#[u1 ((UInt8.ofNat i).toNat:Int)]) (xs:=ch 3 256) (KO:=[[((B0 b),.cells #[i6 3] 3 (0,0))],[(((b 0).y 1),.cells #[i6 8] 3 (0,0))]]) (Lv (B0 b) ((b 0).y 1)) (enters_of Tryz.func214 Kr rfl) (λj=>j≤(ch 3 256).length) (λj L=>(L.set 0 (ob (B1 e) (rB 74 (ke j)++rI 256 (kf j)).toArray 298)).set 2 (ob (B0 f) #[iN j] 3)) [3,4] Om (by rw[show ke 0=kc 8 by unfold ke;rfl,show kf 0=kd 8 by unfold kf;rfl];kernel_rfl) (λT j U J M h q=>?_) (λI q=>?_)
 ·obtain⟨D,rfl⟩:=rS 0 h;have B:=yZ;refine r0 [] [(5,u1 ((UInt8.ofNat ((ch 3 256).getD j 0)).toNat:Int))] [] ?_;refine ag [3,4] (λK N=>?_);exact rs [(0,.l 1),(1,.l 2),(3,.c [0] [0] (yY (B1 e) j (UInt8.ofNat ((ch 3 256).getD j 0)) (ke j) (kf j) Om (by(simp only[LL,nk,oc,od,oe,og,jm,jW];done)) (by(simp only[LL,nk,oc,od,oe,og,jm,jW];done))))] 0 (ob (B1 e) (rB 74 ((ke j).set j (UInt8.ofNat ((ch 3 256).getD j 0)))++rI 256 ((kf j).set (UInt8.ofNat ((ch 3 256).getD j 0)).toNat (j:Int))).toArray 298) (rs [(0,.l 2),(1,ad j 1),(2,.s 2)] 2 (ob (B0 f) #[iN (j+1)] 3) (ne _ ⟨Om,rfl⟩ [0,1,2,3,4] (by rw[show ke (j+1)=(ke j).set j (UInt8.ofNat ((ch 3 256).getD j 0)) by rw[ke],show kf (j+1)=(kf j).set (UInt8.ofNat ((ch 3 256).getD j 0)).toNat ((j:Nat):Int) by rw[kf]];kernel_rfl)))
 have B:=yZ;refine rr (λ_=>[(0,.c [] [5,6] (Df 8 5))]) (λd=>[(37,.func (.func 214) #[] #[pt ((B0 d)) 0,pt (((d 0).y 1)) 0])]) [] (λd L=>L++[ob (B0 d) #[i6 5] 3,ob ((d 0).y 1) #[i6 8] 3]) λd=>?_;refine yl (encs:=λ(i:Nat)=>#[u1 ((UInt8.ofNat i).toNat:Int)]) (xs:=ch 5 256) (KO:=[[((B0 d),.cells #[i6 5] 3 (0,0))],[(((d 0).y 1),.cells #[i6 8] 3 (0,0))]]) (Lw (B0 d) ((d 0).y 1)) (enters_of Tryz.func214 Kr rfl) (λi=>i≤(ch 5 256).length∧(i≤10)) (λi L=>(L.set 0 (ob (B1 e) (rB 74 (a6 i)++rI 256 (bK i)).toArray 298)).set 2 (ob (B0 f) #[iN (b5 i)] 3)) (λc _=>(c=Code.exit 6)) (λ_ _ L=>(L.set 0 (ob (B1 e) (rB 74 (a6 10)++rI 256 (bK 10)).toArray 298)).set 2 (ob (B0 f) #[i6 74] 3)) [5,6] ⟨by omega,Om⟩ (by rw[show a6 0=ke 56 by unfold a6;rfl,show bK 0=kf 56 by unfold bK;rfl,←yZ];kernel_rfl) (λT i U J M h ⟨r,u⟩=>?_) (λv ⟨r,u⟩=>?_) λv c i u P=>?_
 ·obtain⟨F,rfl⟩:=rS 0 h;refine r0 [] [(6,u1 ((UInt8.ofNat ((ch 5 256).getD i 0)).toNat:Int))] [] ?_;refine ag [5,6] (λK N=>?_);refine r0 [(0,.l 2)] [(40,.bool (((b5 i:Nat):Int)==64))] [] ?_;refine cJ (((b5 i:Nat):Int)==64) N0 (λc=>[ob (B1 e) (rB 74 (a6 i)++rI 256 (bK i)).toArray 298,ob (B2 e) #[pt (B1 e) 0] 235,ob (B0 f) #[iN (bif c then 72 else b5 i)] 3,ob (B0 b) #[i6 3] 3,ob ((b 0).y 1) #[i6 8] 3,ob (B0 d) #[i6 5] 3,ob ((d 0).y 1) #[i6 8] 3]) (λg=>?_) (λg=>?_) ?_
  ·have o:=eq_of_beq g;refine rs [(0,.s 2)] 2 (ob (B0 f) #[i6 72] 3) ?_;exact cm Kr [0,1,2,3,4,5,6] Kr
  ·have o:=ne_of_beq_false g;exact cm Kr [0,1,2,3,4,5,6] Kr
  have H:=NO u;have S:=NP (i:=i);refine cl [ob (B1 e) (rB 74 (a6 i)++rI 256 (bK i)).toArray 298,ob (B2 e) #[pt (B1 e) 0] 235,ob (B0 f) #[iN (p5 i)] 3,ob (B0 b) #[i6 3] 3,ob ((b 0).y 1) #[i6 8] 3,ob (B0 d) #[i6 5] 3,ob ((d 0).y 1) #[i6 8] 3] (by rewrite [←H];kernel_rfl) (r0 [(0,.l 2)] [(42,.bool (((p5 i:Nat):Int)==74))] [] ?_);refine cX ((p5 i:Nat):Int) 74 (λz p=>?_) λz p=>?_
  ·exact nx 6 _ ⟨rfl,rfl⟩ [0,1,2,3,4,5,6] (by clear H;obtain rfl:i=10:=Om;kernel_rfl)
  exact rs [(0,.l 1),(1,.l 2),(3,.c [0] [0] (yY (B1 e) (p5 i) (UInt8.ofNat ((ch 5 256).getD i 0)) (a6 i) (bK i) Om (by(simp only[LL,nk,oc,od,oe,og,jm,jW];done)) (by(simp only[LL,nk,oc,od,oe,og,jm,jW];done))))] 0 (ob (B1 e) (rB 74 ((a6 i).set (p5 i) (UInt8.ofNat ((ch 5 256).getD i 0)))++rI 256 ((bK i).set (UInt8.ofNat ((ch 5 256).getD i 0)).toNat ((p5 i):Int))).toArray 298) (rs [(0,.l 2),(1,ad (p5 i) 1),(2,.s 2)] 2 (ob (B0 f) #[iN ((p5 i)+1)] 3) (ne _ ⟨⟨by omega,Om⟩,rfl⟩ [0,1,2,3,4,5,6] (by rw[show a6 (i+1)=(a6 i).set (p5 i) (UInt8.ofNat ((ch 5 256).getD i 0)) by rw[a6],show bK (i+1)=(bK i).set (UInt8.ofNat ((ch 5 256).getD i 0)).toNat ((p5 i:Nat):Int) by rw[bK],NQ (i:=i) Om];kernel_rfl)))
 ·exact absurd u (by rw[NN];decide)
 obtain rfl:=P;exact r0 [(0,.l 1)] [(0,pt (B1 e) 0)] [0] (lf (.l [(e 1).y 0] [] []) [0] [] [])
end
section
open Go Go.RowKit Go.Shelf
attribute [local irreducible] pc bn
def ed(b:Bool):Int:=(bif b then 1 else 0)
theorem D7(b:Bool):aa Zm 158 #[.bool b] [] [] N0 (λ_=>i6 (ed b)):=by
 refine fG Tryz.func158 λw c=>r0 [] [(2,i6 0)] [] (r0 [] [(3,.bool b)] [] ?_);refine cB (b) (λa=>?_) λa=>?_
 ·exact r0 [] [(2,i6 1)] [2] (ao (i6 1) ab.zero (by((try simp only[ed]);(repeat (first | rw[a] | rw[ALct])))<;>rfl) [] [] [])
 exact r0 [] [(2,i6 0)] [2] (ao (i6 0) ab.zero (by((try simp only[ed]);(repeat (first | rw[a] | rw[ALcf])))<;>rfl) [] [] [])
theorem NS(x:Int)(h0: -9223372036854775808≤x)(h1:x≤9223372036854775807):aa Zm 173 #[i6 x] [] [] N0 (λ_=> .agg (rB 3 ([aQ x,aQ (x/256),(aQ (x/65536))&&& (127:UInt8)])).toArray):=by
 exact fG Tryz.func173 λw f=>ra (λe=>[(2,pt (B0 e) 0)]) (λe=>[ob (B0 e) (rB 3 (Zl 3 0)).toArray 262]) λe=>rs [(1,.t (tc (k:= .i64) (l:= .u8) (a:=i6 x) λ_ _ _ c d=>oH c d)),(3,.t (tv (av .shr 3 (.tmp 5) (.const (u6 8)) (i6 x) (u6 8)) (λ_=>iO 8 Dc))),(4,.t (tc (k:= .i64) (l:= .u8) (a:=i6 (x/256)) λ_ _ _ c d=>oH c d)),(6,.t (tv (av .shr 3 (.tmp 8) (.const (u6 16)) (i6 x) (u6 16)) (λ_=>iO 16 Dc))),(7,.t (tc (k:= .i64) (l:= .u8) (a:=i6 (x/65536)) λ_ _ _ c d=>oH c d)),(8,.t (tb (a:=u1 ((aQ (x/65536)).toNat:Int)) (b:=u1 127) λ_ _ _ _=>xN (aQ (x/65536)) ((127:UInt8)))),(10,.s 0)] 0 (ob (B0 e) (rB 3 ([aQ x,aQ (x/256),(aQ (x/65536))&&& (127:UInt8)])).toArray 262) (lf ab.zero [] [] [0])
def b9(x:Int)(b:Bool):List UInt8:=(bif b then([aQ x,aQ (x/256),(aQ (x/65536))&&& (127:UInt8)]).set 2 (((aQ (x/65536))&&& (127:UInt8))||| (128:UInt8)) else[aQ x,aQ (x/256),(aQ (x/65536))&&& (127:UInt8)])
theorem D8(x:Int)(h0: -9223372036854775808≤x)(h1:x≤9223372036854775807)(b:Bool):aa Zm 159 #[i6 x,.bool b] [] [] N0 (λ_=> .agg (rB 3 (b9 x b)).toArray):=by
 refine fG Tryz.func159 λw g=>ra (λe=>[(4,pt (B0 e) 0)]) (λe=>[ob (B0 e) (rB 3 (Zl 3 0)).toArray 262]) λe=>rr (λ_=>[(1,.c [] [] (NS x Om Om)),(3,.s 1)]) (λd=>[(5,pt (B2 d) 0)]) [] (λd L=>L++[ob (B2 d) (rB 3 ([aQ x,aQ (x/256),(aQ (x/65536))&&& (127:UInt8)])).toArray 262]) λd=>r0 [] [(8,.bool b)] [] ?_;refine cJ (b) N0 (λc=>[ob (B0 e) (rB 3 (Zl 3 0)).toArray 262,ob (B2 d) (rB 3 (bif c then([aQ x,aQ (x/256),(aQ (x/65536))&&& (127:UInt8)]).set 2 (((aQ (x/65536))&&& (127:UInt8))||| (128:UInt8)) else[aQ x,aQ (x/256),(aQ (x/65536))&&& (127:UInt8)])).toArray 262]) (λf=>?_) (λf=>?_) ?_
 ·refine rr (λ_=>[(1,.l 1),(2,.t (tb (a:=u1 (((aQ (x/65536))&&& (127:UInt8)).toNat:Int)) (b:=u1 128) λ_ _ _ _=>Jq ((aQ (x/65536))&&& (127:UInt8)) ((128:UInt8)))),(4,.m (sw 1 (B2 d) 2 262 (u1 ((((aQ (x/65536))&&& (127:UInt8))||| (128:UInt8)).toNat:Int)) (rB 3 ([aQ x,aQ (x/256),(aQ (x/65536))&&& (127:UInt8)])).toArray (rB 3 (([aQ x,aQ (x/256),(aQ (x/65536))&&& (127:UInt8)]).set 2 (((aQ (x/65536))&&& (127:UInt8))||| (128:UInt8)))).toArray (mC (show([aQ x,aQ (x/256),(aQ (x/65536))&&& (127:UInt8)]).length=3 by rfl)) (j6 Dc)))]) N0 [] (λ_ L=>L.set 1 (ob (B2 d) (rB 3 (([aQ x,aQ (x/256),(aQ (x/65536))&&& (127:UInt8)]).set 2 (((aQ (x/65536))&&& (127:UInt8))||| (128:UInt8)))).toArray 262)) λh=>?_;exact cm Kr [0,1] Kr
 ·exact cm Kr [0,1] Kr
 exact rs [(0,.l 1),(1,.s 0)] 0 (ob (B0 e) (rB 3 (bif b then([aQ x,aQ (x/256),(aQ (x/65536))&&& (127:UInt8)]).set 2 (((aQ (x/65536))&&& (127:UInt8))||| (128:UInt8)) else[aQ x,aQ (x/256),(aQ (x/65536))&&& (127:UInt8)])).toArray 262) (lf ab.zero [] [] [0])
theorem NT{P:Program}{w:World}{S T:TypeId}(a:P.underlying S=some (.int .i64))(b:P.underlying T=some (.int .u32)){c:Nat}(d:c<4294967296):(convert S T (.int .i64 (c:Int))).run P w= .ok (.int .u32 (c:Int)) w:=by
 have h:IntKind.u32.wrap (c:Int)=(c:Int):=by rw[aaF];omega
 simp only[convert,ZK,run_underlying a,run_underlying b,Zx,Conv.intToInt,h,ZL]
theorem NU{P:Program}{T:TypeId}{y z:Operand}{w:World}(x:Int):(av .and T y z (.int .i64 x) (.int .i64 8388607)).run P w= .ok (.int .i64 (((x%8388608).toNat:Nat):Int)) w:=by
 have h:=mG (P:=P) (T:=T) (y:=y) (z:=z) (w:=w) x 23 8388608 Dc Dc Dc Dc;rw[show(((x%8388608).toNat:Nat):Int)=x%((8388608:Nat):Int) by omega];exact h
theorem vz(x:Int):aa Zm 153 #[i6 x] [] [] N0 (λ_=>iN (pc ((x%8388608).toNat)%2)):=by
 exact fG Tryz.func153 λw a=>r0 [] [(2,i6 0)] [] (r0 [(1,.t (tv (av .and 3 (.tmp 3) (.const (i6 8388607)) (i6 x) (i6 8388607)) (λ_=>NU x))),(2,.t (tv (convert 3 329 (iN ((x%8388608).toNat))) (λ_=>NT Tryz.underlying3 Tryz.underlying329 Om))),(3,.c [] [] (Lq ((x%8388608).toNat) Om))] [(2,iN (pc ((x%8388608).toNat)%2))] [2] (lf ab.zero [] [] []))
def iu(x:Nat):Nat→List UInt8
 | 0=>[]
 | k+1=>iu x k++[UInt8.ofNat (x/256^k)]
theorem jX(x k:Nat):(iu x k).length=k:=by
 induction k with
 | zero=>rfl
 | succ k ih=>rw[iu,Zp,ih];rfl
theorem NV(x k:Nat):x/256^(k+1)=x/256^k/2^8:=by rw[aaC,ZM]
theorem NW(x:Nat)(n:x<18446744073709551616):aa Zm 156 #[u6 (x:Int)] [] [] (λE=>[bD (E.val 0) (iu x 8)]) (λE=>(E.val 0)):=by
 refine fG Tryz.func156 λw j=>r0 [] [(2,.slice none 0 0)] [] (r0 [] [(3,.slice none 0 0)] [] (r0 [] [(4,i6 0)] [] (cz kB ?_)));refine na (λk _=>k≤8) (λk b=>[(0,u6 ((x/256^k:Nat):Int)),(4,iN k),(3,b)]) (λk b L=>L.set 0 (bD b (iu x k))) (λk _=>8-k) 0 (.slice none 0 0) Om (by rw[aaA,aaL];kernel_rfl) Kr (λk b h=>?_);have i:=jX x k;refine r0 [] [(5,.bool (decide ((k:Int)<8)))] [] ?_;refine cj (k:Int) 8 (λe d=>?_) λe d=>?_
 ·exact rr (λ_=>[(2,.t (tc (k:= .u64) (l:= .u8) (a:=u6 ((x/256^k:Nat):Int)) λ_ _ _ f g=>uC f g)),(3,.m (bs 1 1)),(4,fC kB (b) (iu x k) 0 1 ([UInt8.ofNat (x/256^k)]))]) (λc=>[(3,(c 4).val 0)]) [3] (λc L=>L.set 0 (bD ((c 4).val 0) ((iu x k)++([UInt8.ofNat (x/256^k)])))++[ob (B3 c) #[u1 ((UInt8.ofNat (x/256^k)).toNat:Int)] 5]) λc=>r0 [(1,.t (tv (av .shr 44 (.tmp 11) (.const (u6 8)) (u6 ((x/256^k:Nat):Int)) (u6 8)) (λ_=>uA 8 Dc)))] [(0,u6 ((x/256^k/2^8:Nat):Int))] [0] (r0 [(0,ad k 1)] [(4,iN (k+1))] [4] (l8 (k+1) ((c 4).val 0) Om Om (by rw[NV x k];kernel_rfl) [0] Kr))
 obtain rfl:k=8:=by omega
 refine l9 ?_;exact r0 [] [(2,b)] [2] (lf (.l [] [] [b]) [0] [] [])
end
end E
section
open Go Go.RowKit Go.Shelf
def aC(xs:List UInt8)(off:Nat):Nat→Nat
 | 0=>0
 | k+1=>aC xs off k||| (xs.getD (off+k) 0).toNat*2^(8*k)
theorem vA{b:UInt8}{k:Nat}(d:k<8):b.toNat*2^(8*k)<18446744073709551616:=by
 have c:=b.toNat_lt;have a:2^(8*k)≤2^56:=aab Dc Om
 calc b.toNat*2^(8*k)≤255*2^56:=aas Om a
  _<18446744073709551616:=by decide
theorem qk(xs:List UInt8)(off k:Nat):aC xs off k<2^(8*k):=by
 induction k with
 | zero=>simp [aC]
 | succ k ih=>
  have a:=(xs.getD (off+k) 0).toNat_lt;unfold aC;refine Nat.or_lt_two_pow (aaO ih (aab Dc Om)) ?_;rw[show 8*(k+1)=8+8*k by omega,Nat.pow_add];exact Nat.mul_lt_mul_of_pos_right Om (Nat.pow_pos Dc)
theorem ql(xs:List UInt8)(off k:Nat):aC xs off (k+1)=aC xs off k+256^k*(xs.getD (off+k) 0).toNat:=by
 rw[show aC xs off (k+1)=aC xs off k||| (xs.getD (off+k) 0).toNat*2^(8*k) from rfl];have h:=aap (qk xs off k) (xs.getD (off+k) 0).toNat;rw[aaB,Nat.or_comm,←h,aa6,show(256:Nat)=2^8 from rfl,←Nat.pow_mul]
theorem qm(xs:List UInt8)(off:Nat){k:Nat}(c:k≤8):aC xs off k<18446744073709551616:=by
 have a:=qk xs off k;have b:2^(8*k)≤2^64:=aab Dc Om;have:(2:Nat)^64=18446744073709551616:=by decide
 omega
def b4(N:Nat)(f:Nat→UInt8)(n:Nat):List UInt8:=(Zv N).map λi=>if i<n then f i else 0
theorem lj(N:Nat)(f:Nat→UInt8)(n:Nat):(b4 N f n).length=N:=by unfold b4;rw[ZV,ZN]
theorem NX{N:Nat}{f:Nat→UInt8}{n i:Nat}(h:i<N):(b4 N f n).getD i 0=if i<n then f i else 0:=by
 unfold b4;rw[Zr,Z1,aad h];rfl
theorem NY{N:Nat}{f:Nat→UInt8}{n:Nat}(h:n<N):(b4 N f n).set n (f n)=b4 N f (n+1):=by
 apply aaj;intro i;rw[List.getElem?_set];rcases ZJ i N with a | a
 ·unfold b4;simp only[ZV,ZN,Z1,aad a,ZE];by_cases e:n=i
  ·subst e;rw[ALifp rfl,ALifp h,ALifp Om]
  ·rw[ALifn e];by_cases b:i<n
   ·rw[ALifp b,ALifp Om]
   ·rw[ALifn b,ALifn Om]
 ·rw[ZA (l:=b4 N f (n+1)) (by rw[lj];exact a),ZA (l:=b4 N f n) (by rw[lj];exact a),lj];rw[ALifn Om]
theorem NZ(N:Nat)(f:Nat→UInt8):b4 N f 0=Zl N 0:=by
 apply aaj;intro i;rcases ZJ i N with a | a
 ·unfold b4;simp [a]
 ·rw[ZA (by rw[lj];exact a),ZA (by simpa using a)]
end
namespace E
section
open Go Go.RowKit Go.Shelf
theorem y0(ys:List UInt8)(k:Nat):aC ys 0 (k+1)=aC ys 0 k||| (ys.getD k 0).toNat*2^(8*k):=by rw[aC,ZG]
theorem N1(ys:List UInt8)(o k:Nat):aC ys o (k+1)=aC ys o k||| (ys.getD (o+k) 0).toNat*2^(8*k):=rfl
theorem D9(ys:List UInt8)(o:Nat):aC ys o 0=0:=rfl
theorem N2{P:Program}{T:TypeId}{x y:Operand}{w:World}{ys:List UInt8}{k:Nat}(a:k<8):(av .or T x y (.int .u64 ((aC ys 0 k:Nat):Int)) (.int .u64 (((ys.getD k 0).toNat*2^(8*k):Nat):Int))).run P w= .ok (.int .u64 ((aC ys 0 (k+1):Nat):Int)) w:=by
 rw[y0];exact BX (qm _ _ Om) (vA a)
theorem N3{P:Program}{T:TypeId}{x y:Operand}{w:World}{ys:List UInt8}{o k:Nat}(a:k<8):(av .or T x y (.int .u64 ((aC ys o k:Nat):Int)) (.int .u64 (((ys.getD (o+k) 0).toNat*2^(8*k):Nat):Int))).run P w= .ok (.int .u64 ((aC ys o (k+1):Nat):Int)) w:=by
 rw[N1];exact BX (qm _ _ Om) (vA a)
attribute [local irreducible] aC
theorem N4(v:Value)(ys:List UInt8)(j:ys.length=8):aa Zm 228 #[v] [.p (aK eB v ys)] [] N0 (λ_=>u6 ((aC ys 0 8:Nat):Int)):=by
 refine fO Tryz.func228 0 rfl λd b=>fG Tryz.func228 λw i=>r0 [] [(2,u6 0)] [] (r0 [] [(3,u6 0)] [] (r0 [(1,eP b.1 0)] [(6,v),(7,iN ys.length),(8,i6 0)] [] ?_));refine lq (λk=>k≤8) (λk=>[(3,u6 ((aC ys 0 k:Nat):Int)),(8,iN k)]) (λ_ L=>L) (λk=>8-k) 0 Om (by rw[D9];kernel_rfl) Kr (λk h=>?_);refine r0 [] [(9,.bool (decide ((k:Int)<(ys.length:Int))))] [] ?_;refine cj (k:Int) (ys.length:Int) (λe c=>?_) λe c=>?_
 ·exact r0 [(1,fv b.1 0 k 1),(2,ji kB b.1 0 k 0)] [(4,iN k),(5,u1 ((ys.getD k 0).toNat:Int))] [] (r0 [(2,.t (tc (k:= .u8) (l:= .u64) (a:=u1 ((ys.getD k 0).toNat:Int)) λ_ _ _ f g=>BY f g)),(4,ml 8 k),(5,.t (tv (convert 3 201 (iN (8*k))) (λ_=>m5 Tryz.underlying3 Tryz.underlying201 Om))),(6,.t (tv (av .shl 44 (.tmp 15) (.tmp 18) (u6 ((ys.getD k 0).toNat:Int)) (u6 ((8*k:Nat):Int))) (λ_=>uB (8*k) Om (vA Om)))),(7,.t (tv (av .or 44 (.tmp 13) (.tmp 19) (u6 ((aC ys 0 k:Nat):Int)) (u6 (((ys.getD k 0).toNat*2^(8*k):Nat):Int))) (λ_=>N2 Om)))] [(3,u6 ((aC ys 0 (k+1):Nat):Int))] [3] (r0 [(0,ad k 1)] [(8,iN (k+1))] [8] (le (k+1) Om Om Kr [0] Kr)))
 obtain rfl:k=8:=by omega
 exact lx (r0 [] [(2,u6 ((aC ys 0 8:Nat):Int))] [2] (lf ab.zero [] [(0,0)] []))
theorem N5(l:List UInt8)(i:l.length=64)(q:Nat)(j:q<8):aa Zm 201 #[.agg (rB 64 l).toArray,iN q] [] [] N0 (λ_=>u6 ((aC l (8*q) 8:Nat):Int)):=by
 refine fG Tryz.func201 λw h=>ra (λb=>[(2,pt (B0 b) 0),(4,u6 0)]) (λb=>[ob (B0 b) (rB 64 l).toArray 43]) λb=>r0 [] [(5,u6 0)] [] (r0 [] [(7,i6 0)] [] ?_);refine lq (λk=>k≤8) (λk=>[(5,u6 ((aC l (8*q) k:Nat):Int)),(7,iN k)]) (λ_ L=>L) (λk=>8-k) 0 Om (by rw[D9];kernel_rfl) Kr (λk g=>?_);refine r0 [] [(8,.bool (decide ((k:Int)<8)))] [] ?_;refine cj (k:Int) 8 (λd c=>?_) λd c=>?_
 ·exact r0 [] [(6,iN k)] [] (r0 [(0,.v (u6 ((aC l (8*q) k:Nat):Int))),(1,.v (iN q)),(2,ml 8 q),(3,.v (iN k)),(4,ad (8*q) k),(5,iA 43 .i64 (B0 b) 0 64 1 ((8*q)+k)),(6,rD 0 (B0 b) ((8*q)+k) 43 (rB 64 l) (nY Om)),(7,.t (tc (k:= .u8) (l:= .u64) (a:=u1 ((l.getD ((8*q)+k) 0).toNat:Int)) λ_ _ _ e f=>BY e f)),(8,.v (iN k)),(9,ml 8 k),(10,.t (tv (convert 3 201 (iN (8*k))) (λ_=>m5 Tryz.underlying3 Tryz.underlying201 Om))),(11,.t (tv (av .shl 44 (.tmp 17) (.tmp 20) (u6 ((l.getD ((8*q)+k) 0).toNat:Int)) (u6 ((8*k:Nat):Int))) (λ_=>uB (8*k) Om (vA Om)))),(12,.t (tv (av .or 44 (.tmp 10) (.tmp 21) (u6 ((aC l (8*q) k:Nat):Int)) (u6 (((l.getD (8*q+k) 0).toNat*2^(8*k):Nat):Int))) (λ_=>N3 Om))),(13,.v (u6 ((aC l (8*q) (k+1):Nat):Int)))] [(5,u6 ((aC l (8*q) (k+1):Nat):Int))] [5] (r0 [(0,ad k 1)] [(7,iN (k+1))] [7] (le (k+1) Om Om Kr [0] Kr)))
 obtain rfl:k=8:=by omega
 exact lx (r0 [] [(4,u6 ((aC l (8*q) 8:Nat):Int))] [4] (lf ab.zero [] [] []))
theorem N6(b:Nat)(l:List UInt8)(o:l.length=64):ft 5 Zm 200 #[pt b 0] (λ(x:Nat×Nat)=>#[i6 (x.1:Int),u6 (x.2:Int)]) ((Zv 8).map λk=>(k,aC l (8*k) 8)) (ZR [[(b,.cells (rB 64 l).toArray 43 (0,0))]]):=by
 refine gi (KO:=[[(b,.cells (rB 64 l).toArray 43 (0,0))]]) Tryz.func200 (λp r q v t f m j=>?_);refine r0 [] [(4,i6 0)] [] ?_;refine j9 (λk=>k≤8) (λk=>[(4,iN k)]) (λ_ L=>L) (λk=>8-k) (λk=>k) 0 Om j Kr Kr (λk s u n d=>?_);refine r0 [] [(5,.bool (decide ((k:Int)<8)))] [] ?_;refine cj (k:Int) 8 (λi e=>?_) λi e=>?_
 ·refine r0 [] [(3,iN k)] [] ?_;refine iy f m d 5 (λ_=>[(2,.l 0),(4,.c [] [] (N5 l (by(simp only[LL,o];done)) k Om))]) (λ_=>[(7,.func (.yield p) #[] #[]),(8,iN k),(11,u6 ((aC l (8*k) 8:Nat):Int))]) [] (λ_ L=>L) N0 [0] (oN Om) (λw g h a=>?_);refine cF _ rfl (r0 [(0,ad k 1)] [(4,iN (k+1))] [4] ?_);exact iR (k+1) Om a Om Kr [0] Kr
 obtain rfl:k=8:=by omega
 refine ka ?_;exact k7 f d bc [] [0]
theorem N7(l:List UInt8)(c:l.length=64):aa Zm 154 #[.agg (rB 64 l).toArray] [] [] (λE=>[ob (E.y 0) (rB 64 l).toArray 43]) (λE=> .func (.func 200) #[] #[pt ((E.y 0)) 0]):=by
 exact fG Tryz.func154 λw b=>ra (λa=>[(1,pt (B0 a) 0),(2,.nilFunc)]) (λa=>[ob (B0 a) (rB 64 l).toArray 43]) λa=>r0 [] [(2,.func (.func 200) #[] #[pt (B0 a) 0])] [2] (lf (.l [(a 0).y 0] [] []) [0] [] [])
theorem N8(l:List UInt8)(c:l.length=64):aa Zm 160 #[.agg (rB 64 l).toArray] [] [] (λE=>[ob (E.y 0) (rB 64 l).toArray 43]) (λE=> .func (.func 202) #[] #[pt ((E.y 0)) 0]):=by
 exact fG Tryz.func160 λw b=>ra (λa=>[(1,pt (B0 a) 0),(2,.nilFunc)]) (λa=>[ob (B0 a) (rB 64 l).toArray 43]) λa=>r0 [] [(2,.func (.func 202) #[] #[pt (B0 a) 0])] [2] (lf (.l [(a 0).y 0] [] []) [0] [] [])
theorem N9(b:Nat)(l:List UInt8)(o:l.length=64):ft 5 Zm 202 #[pt b 0] (λ(x:Nat×List UInt8)=>#[i6 (x.1:Int),.agg (rB 32 x.2).toArray]) ((Zv 2).map λk=>(k,(l.drop (32*k)).take 32)) (ZR [[(b,.cells (rB 64 l).toArray 43 (0,0))]]):=by
 refine gi (KO:=[[(b,.cells (rB 64 l).toArray 43 (0,0))]]) Tryz.func202 (λp r q w u e j i=>?_);refine r0 [] [(4,i6 0)] [] ?_;refine j9 (λk=>k≤2) (λk=>[(4,iN k)]) (λ_ L=>L) (λk=>2-k) (λk=>k) 0 Om i Kr Kr (λk s v n c=>?_);refine r0 [] [(5,.bool (decide ((k:Int)<2)))] [] ?_;refine cj (k:Int) 2 (λh d=>?_) λh d=>?_
 ·refine r0 [] [(3,iN k)] [] ?_;refine iy e j c 7 (λ_=>[(3,ml 32 k),(4,aL 43 b 64 1 (32*k)),(5,.t (tv (Instr.arrayAt 267 (.slice (some ⟨b,(32*k)*1,none⟩) (64-(32*k)) (64-(32*k)))) (λ_=>run_arrayAt _ 267 5 32 _ _ _ Tryz.underlying267 Om))),(6,.m (lg 0 b ((32*k)*1) (rB 64 l).toArray 43 (rB 32 ((l.drop (32*k)).take 32)) (xS (λ_=>rfl) o Om)))]) (λ_=>[(7,.func (.yield p) #[] #[]),(8,iN k),(13,.agg (rB 32 ((l.drop (32*k)).take 32)).toArray)]) [] (λ_ L=>L) N0 [0] (oN Om) (λy f g a=>?_);refine cF _ rfl (r0 [(0,ad k 1)] [(4,iN (k+1))] [4] ?_);exact iR (k+1) Om a Om Kr [0] Kr
 obtain rfl:k=2:=by omega
 refine ka ?_;exact k7 e c bc [] [0]
end
end E
end Go.Proofs.YtbcodenfkijdnaaGreat
