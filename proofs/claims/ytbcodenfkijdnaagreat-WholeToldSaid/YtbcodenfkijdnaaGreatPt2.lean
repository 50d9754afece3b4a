/- WholeTold, in 7 texts: part 2. For every input; no condition. -/
import Derived.Test.YtbcodenfkijdnaaGreatPt1
import Derived.WalkKit
import Derived.Sort.CutIn
import Derived.IntWalk
import Derived.Laws.BitsAllLaws
set_option linter.unusedVariables false
set_option linter.unusedSimpArgs false
set_option maxRecDepth 100000
namespace Go.Proofs.YtbcodenfkijdnaaGreat
open List renaming replicate→YU,not_mem_nil→YW,append_nil→YX,length_append→YY,mem_cons→YZ,getD_eq_getElem?_getD→Y0,length_replicate→Y1,length_set→Y3,range→Y4,size_toArray→Y5,getElem?_append_right→Y9,getElem?_eq_none→Za,getElem?_eq_getElem→Ze,length_take→Zg,getElem?_toArray→Zh,length_range→Zo,flatten→Zs,mem_append→Zw,length_map→Zx,getElem?_append_left→ZC,getElem?_map→ZD,append_assoc→ZE,length_drop→ZH,nil_append→ZI,mem_cons_of_mem→ZM,map_congr_left→ZO,getElem?_range→ZP,mem_cons_self→ZR,mem_singleton→ZT,ext_getElem?→ZW,drop_eq_getElem_cons→Z1,getElem?_take_of_lt→Z2,take_of_length_le→Z6,take_append_drop→Z7,mem_of_getElem?→Z8,mem_append_left→Z9,getElem_of_mem→aae,replicate_zero→aag,pairwise_map→aan,cons_append→aap,getElem_mem→aaq,flatten_nil→aas,ext_getElem→aau,take_zero→aaB,any→aaD,length→aaF,filter→aaJ
open Go.Proofs.Tryz renaming prog→YV
open Bool renaming and_eq_true→Y2,false_eq_true→ZQ,false_or→ZS,or_eq_true→ZY,or_eq_false_iff→aad,noConfusion→aar
open Go.Result renaming andThen_ok→Y6
open Nat renaming mod_eq_of_lt→Y7,eq_of_beq_eq_true→Zb,le_refl→Zc,zero_add→Zf,lt_or_ge→Zj,div_div_eq_div_mul→Zm,mul_one→Zq,mod_lt→Zr,add_zero→Zt,beq→Zu,sub_zero→ZA,blt_eq→ZF,blt→ZG,beq_refl→ZJ,sub_self→ZK,le_of_ble_eq_true→ZL,pow_le_pow_right→ZN,lt_of_le_of_lt→ZU,le_of_not_lt→ZX,two_pow_add_eq_or_of_lt→Z0,mul_le_mul→Z3,add_sub_cancel_left→Z5,pow_zero→aaa,mul_comm→aab,pow_succ→aac,ble→aah,div_one→aak,lt_of_lt_of_le→aao,lt_succ_self→aav,strongRecOn→aay,not_lt_zero→aaz,min_eq_left→aaC,add_assoc→aaE,le_trans→aaG,add_comm→aaH,le_total→aaI
open UInt8 renaming xor_zero→Y8,zero_xor→Zn,xor_assoc→Zv,toNat_ofNat'→Zy,xor_self→Zz,ofNat_toNat→aal,toNat_xor→aat,xor_comm→aax
open Option renaming map_some→Zd,getD_some→ZV,bind_some→aai
open Classical renaming byContradiction→Zi,choose→ZB,choose_spec→ZZ
open Go.Sem renaming run_bind→Zk,run_pure→Zl
open Int renaming toNat_natCast→Zp,eq_ofNat_of_zero_le→Z4,natCast_nonneg→aam,natCast_emod→aaw,emod_nonneg→aaA
open Go.IntKind renaming wrap_u32→aaf,wrap_u8→aaj
namespace E
section
open Go Go.RowKit Go.Shelf
section
variable (P:Program)
def xK(o:Oper)(ρ:Operand→Value):Value:=match (execOp ρ o).run P default with
 | .ok (.value v) _=>v
 | _=>undef
def J8(c x y:Operand)(ρ:Operand→Value):Value:=match ρ c,x,y with
 | .bool E,_,.const (.bool false)=>(match ρ x with | .bool X=> .bool (E&&X) | _=>undef)
 | .bool E,_,_=>(match ρ y with | .bool Y=> .bool (E||Y) | _=>undef)
 | _,_,_=>undef
end
def ui(P:Program)(b:Bool)(xs ys:List Value):TD:=λo ρ=>match o.op with
 | .binOp d T x y _=>[sE d (match b with | true=> .neq | false=> .eql),sE (ρ x) (.agg xs.toArray),sE (ρ y) (.agg ys.toArray),sE (dF P T,P.eqGuardType P.depth T,(jz P 8 T).map λc=>ey c xs&&ey c ys) (true,false,some true)]
 | _=>[sB false]
theorem J9{P:Program}{xs ys:List Value}:TD.ok P (ui P false xs ys) (.bool (Yr xs ys)):=by
 intro o ρ b w;unfold ui at b
 split at b
 ·rename_i i T x y q c;simp only[YZ,YW,or_false,forall_eq_or_imp,forall_eq,sE] at b;obtain⟨rfl,d,e,g⟩:=b;exact(xC (P:=P) T (λx y w=>xr (x:=x) (y:=y) (w:=w) g rfl)) o ρ (by simp only[uf,c,YZ,YW,or_false,forall_eq_or_imp,forall_eq,sE];exact⟨trivial,trivial,d,e⟩) w
 ·exact(bE b).elim
theorem Ka{P:Program}{xs ys:List Value}:TD.ok P (ui P true xs ys) (.bool (!Yr xs ys)):=by
 intro o ρ b w;unfold ui at b
 split at b
 ·rename_i i T x y q c;simp only[YZ,YW,or_false,forall_eq_or_imp,forall_eq,sE] at b;obtain⟨rfl,d,e,g⟩:=b;exact(xC (P:=P) T (λx y w=>jB (x:=x) (y:=y) (w:=w) g rfl)) o ρ (by simp only[uf,c,YZ,YW,or_false,forall_eq_or_imp,forall_eq,sE];exact⟨trivial,trivial,d,e⟩) w
 ·exact(bE b).elim
def Kb(P:Program)(o:Oper)(ρ:Operand→Value):b4 P:=match o.op with
 | .binOp .eql _ x y _=>(match mY (ρ x),mY (ρ y) with | some xs,some ys=> .t (val:= .bool (Yr xs ys)) ⟨_,J9⟩ | _,_=> .d undef)
 | .binOp .neq _ x y _=>(match mY (ρ x),mY (ρ y) with | some xs,some ys=> .t (val:= .bool (!Yr xs ys)) ⟨_,Ka⟩ | _,_=> .d undef)
 | _=> .d undef
inductive cb (P:Program):Type 1
 | l (p:Nat)
 | e
 | s (p:Nat)
 | d
 | v (v:Value)
 | t {val:Value} (d:TH P val)
 | u {val:Value} (d:TD) (j:Nat) (E b:Bool) (h:E=b→TD.ok P d val)
 | m {val:ab→Value} (d:MH P val)
 | c {f:FuncId} {args:Array Value} {rd:ah} {O:List Nat} {wt:ab→ah} {v:ab→Value} (ps qs:List Nat) (h:aa P f args rd O wt v)
section
variable {P:Program}
def Cb(P:Program)(T:TypeId):Nat:=((P.info? T).map (·.size)).getD 0
def Kc(P:Program)(p:Nat)(T:TypeId)(x:Value)(C:cq):b4 P:=match C p,kM x with
 | some (.c [(_,.cells cs _ _)]),some (_,b)=>(match dF P T with
  | true=> .m (ls p ((cs.toList.drop b).take (Cb P T)))
  | false=> .m (ld p (cs.getD b undef)))
 | _,_=> .d undef
def Ke(P:Program)(p:Nat)(T:TypeId):b4 P:=match dF P T with
 | true=> .m (ss p)
 | false=> .m (st p)
def cb.hint(o:Oper)(ρ:Operand→Value)(C:cq):cb P→b4 P
 | .l p=>(match o.op with | .load T x=>Kc P p T (ρ x) C | _=> .d undef)
 | .s p=>(match o.op with | .store T _ _=>Ke P p T | _=> .d undef)
 | .e=>Kb P o ρ
 | .d=> .d (.bool false)
 | .v x=> .v x
 | .t x=> .t x
 | .u x j E b h=> .u x j E b h
 | .m x=> .m x
 | .c g i h=> .c g i h
def Cc(o:Oper)(ρ:Operand→Value)(p:Nat):b4 P:=match o.op with
 | .pick c x y=> .k (J8 c x y ρ)
 | .alloc _=> .m (al p)
 | .box _ _=> .m (bx p)
 | _=> .v (xK P o ρ)
def uj(p:Nat):Wr→Nat
 | []=>p
 | x::r=>uj (match aah p x.1 with | true=>x.1+1 | false=>p) r
def rq(L:List Oper)(a:Sl)(c:List (List Nat))(η:bD):List Oper→List (Nat×cb P)→Nat→List Value→cq→Nat→List (b4 P)
 | [],_,_,_,_,_=>[]
 | o::os,[],k,b,C,p=>
  (λρ=>(λh=>h::rq L a c η os [] (k+1) (b++[h.val (η k)]) (lF C (h.wt o ρ C (η k))) (uj p (h.wt o ρ C (η k)))) (Cc o ρ p)) (qQ L a (c.getD k []) b)
 | o::os,(j,x)::r,k,b,C,p=>match Zu j k with
  | true=>(λρ=>(λh=>h::rq L a c η os r (k+1) (b++[h.val (η k)]) (lF C (h.wt o ρ C (η k))) (uj p (h.wt o ρ C (η k)))) (x.hint o ρ C)) (qQ L a (c.getD k []) b)
  | false=>(λρ=>(λh=>h::rq L a c η os ((j,x)::r) (k+1) (b++[h.val (η k)]) (lF C (h.wt o ρ C (η k))) (uj p (h.wt o ρ C (η k)))) (Cc o ρ p)) (qQ L a (c.getD k []) b)
end
inductive It where
 | c (x:Code)
 | b (id:Nat)
 | x (id:Nat)
section
variable (F:Fence) (n:Nat) (P:Program) (Q:Exit→Act→World→Prop)
def c6:List It→Exit→Act→World→Prop
 | []=>Q
 | .c x::S=>Exit.then (x.wpIn F n P (c6 S)) (c6 S)
 | .b d::S=>Exit.inBlock d (c6 S)
 | .x d::S=>Exit.then (c6 S (.exit d)) (c6 S)
end
def mo(id:Nat):List It→Option (List It)
 | []=>none
 | .c _::S=>mo id S
 | .x _::S=>mo id S
 | .b j::S=>match Zu j id with
  | true=>some S
  | false=>mo id S
def dm:Nat→List It→List It
 | 0,S=>S
 | n+1,S=>match S with
  | .c (.seq x y)::S=>dm n (.c x:: .c y::S)
  | .c (.block d x)::S=>dm n (.c x:: .b d::S)
  | .c .skip::S=>dm n S
  | .c (.label _)::S=>dm n S
  | .b _::S=>dm n S
  | .c (.exit d)::S=>dm n (.x d::S)
  | .x d::S=>(match mo d S with
   | some e=>dm n e
   | none=> .x d::S)
  | S=>S
abbrev nf(S:List It):List It:=dm 1000 S
section
variable {F:Fence} {n:Nat} {P:Program} {Q:Exit→Act→World→Prop} {a:Act} {w:World}
theorem uk{id:Nat}: ∀{S g:List It},mo id S=some g→c6 F n P Q g .normal a w→c6 F n P Q S (.exit id) a w
 | .c _::S,g,h,d=>uk (S:=S) h d
 | .x _::S,g,h,d=>uk (S:=S) h d
 | .b j::S,g,h,d=>by
  unfold mo at h;show if id=j then c6 F n P Q S .normal a w else c6 F n P Q S (.exit id) a w
  split at h
  ·rename_i i;cases h;rw[ALifp (Zb i).symm];exact d
  ·rename_i i;rw[ALifn (λe=>by rw[e,ZJ] at i;cases i)];exact uk h d
theorem ru{id:Nat}: ∀{S:List It},mo id S=none→Q (.exit id) a w→c6 F n P Q S (.exit id) a w
 | [],_,d=>d
 | .c _::S,h,d=>ru (S:=S) h d
 | .x _::S,h,d=>ru (S:=S) h d
 | .b j::S,h,d=>by
  unfold mo at h;show if id=j then c6 F n P Q S .normal a w else c6 F n P Q S (.exit id) a w
  split at h
  ·cases h
  ·rename_i g;rw[ALifn (λe=>by rw[e,ZJ] at g;cases g)];exact ru h d
theorem gN: ∀{S:List It},Q .ret a w→c6 F n P Q S .ret a w
 | [],h=>h
 | .c _::S,h=>gN (S:=S) h
 | .b _::S,h=>gN (S:=S) h
 | .x _::S,h=>gN (S:=S) h
theorem dG: ∀(m:Nat) (S:List It),c6 F n P Q (dm m S) .normal a w→c6 F n P Q S .normal a w
 | 0,_,h=>h
 | m+1,S,h=>by
  unfold dm at h
  split at h
  ·exact wpIn_seq (dG m _ h)
  ·exact wpIn_block (dG m _ h)
  ·exact wpIn_skip (dG m _ h)
  ·exact wpIn_label (dG m _ h)
  ·rename_i b;exact(dG m b h:c6 F n P Q b .normal a w)
  ·rename_i c b;exact wpIn_exit (dG m (.x c::b) h:c6 F n P Q b (.exit c) a w)
  ·split at h
   ·rename_i d;exact uk d (dG m _ h)
   ·exact h
  ·exact h
end
structure Go (F:Fence) (n:Nat) (P:Program) (R:List Nat) (base:World) (Q:Exit→Act→World→Prop) (S:List It) (a:Sl) (L:ah) (Ds:List Nat):Prop where
 out: ∀b W,Fr a Ds b→aH R base (L++Ds.map mk) W→c6 F n P Q S .normal b W
def Yh(S:List It):It:=match nf S with | x::_=>x | []=> .b 0
def bS(S:List It):List It:=match nf S with | _::S=>S | []=>[]
def ay(S:List It):List Oper:=match nf S with | .c (.region _ L _)::_=>L.toList | _=>[]
def eR(S:List It):Bool:=match nf S with | .c (.region _ _ d)::_=>d | _=>false
def lP(S:List It):Bool:=match nf S with | .c (.region _ _ _)::_=>true | _=>false
def kO(a:Sl)(S:List It):Option Bool:=match nf S with
 | .c (.cond c _ _)::_=>(match a.ev c with | .bool E=>some E | _=>none)
 | _=>none
def kP(a:Sl)(S:List It):Bool:=match nf S with
 | .c (.cond (.tmp i) _ _)::_=>a.kn i
 | _=>true
def m4(S:List It):List It:=match nf S with | .c (.cond _ x _)::S=> .c x::S | _=>[]
def m5(S:List It):List It:=match nf S with | .c (.cond _ _ y)::S=> .c y::S | _=>[]
def gw(S:List It):Code:=match nf S with | .c (.loop x)::_=>x | _=> .skip
def nP(S:List It):Bool:=match nf S with | .c (.loop _)::_=>true | _=>false
def ek:List Nat→Fe→Fe
 | [],e=>e
 | d::ds,e=>ek ds (e.filter λx=> !Zu x.1 d)
def mq(L:List Oper)(e b:Fe)(dr:List Nat):Bool:=L.all λo=>match o.dst with
 | none=>true
 | some d=>(lk b d).isSome||dr.contains d||(lk e d).isNone
def kQ(L:List Oper)(a:Sl)(t:dN)(η:bD)(i:Nat):Option Value:=match fz i L 0 with
 | some j=>(match ZG i a.sz&&(t.cds j).all λc=>qR c.2 (t.vs η c.1) with
  | true=>some (t.vs η j)
  | false=>none)
 | none=>none
theorem pN{e b:Fe}{i:Nat}:lk (e++b) i=match lk e i with | some v=>some v | none=>lk b i:=by
 induction e with
 | nil=>rfl
 | cons x r ih=>
  obtain⟨j,v⟩:=x;show(match Zu j i with | true=>some v | false=>lk (r++b) i)=match (match Zu j i with | true=>some v | false=>lk r i) with | some v=>some v | none=>lk b i
  cases Zu j i
  ·exact ih
  ·rfl
theorem xL{p:Nat→Bool}: ∀{e:Fe} {i:Nat},lk (e.filter λx=>p x.1) i=if p i then lk e i else none
 | [],i=>by split<;>rfl
 | (j,v)::r,i=>by
  rw[List.filter_cons];have ih:=xL (p:=p) (e:=r) (i:=i);by_cases c:j=i
  ·subst c;cases d:p j with
   | true=>simp [lk]
   | false=>
    rw[d] at ih;simp only[ZQ,if_false] at ih⊢;exact ih
  ·have b:Zu j i=false:=by
    cases h:Zu j i with
    | false=>rfl
    | true=>exact absurd (Zb h) c
   cases d:p j with
   | true=>simp only[if_true,lk,b,ih]
   | false=>simp only[ZQ,if_false,lk,b,ih]
theorem Cd: ∀{ds:List Nat} {e:Fe} {i:Nat} {v:Value},lk (ek ds e) i=some v→lk e i=some v∧i∉ds
 | [],_,_,_,h=>⟨h,by simp⟩
 | d::ds,e,i,v,h=>by
  obtain⟨b,g⟩:=Cd (ds:=ds) h;rw[xL (p:=λi=> !Zu i d)] at b
  split at b
  ·rename_i j;refine⟨b,λc=>?_⟩;rcases List.mem_cons.1 c with rfl | c
   ·simp [ZJ] at j
   ·exact g c
  ·cases b
theorem Ce{e:Fe}{i:Nat}{v:Value}(h:lk e i=some v):(i,v)∈e:=by
 induction e with
 | nil=>cases h
 | cons x r ih=>
  obtain⟨j,u⟩:=x;unfold lk at h
  split at h
  ·rename_i b;cases h;rw[Zb b];exact ZR
  ·exact ZM _ (ih h)
theorem Cg{xs:Nat→Value}: ∀(l:List Oper) (k:Nat) (b:Act),(bn xs l k b).tmps.size=b.tmps.size
 | [],_,_=>rfl
 | o::os,k,b=>by rw[bn,Cg os,w5]
theorem Ch(b:Act)(x:Option Tmp)(v:Value):(b.put x v).defers=b.defers:=by cases x<;>rfl
theorem Ci{xs:Nat→Value}: ∀(l:List Oper) (k:Nat) (b:Act),(bn xs l k b).defers=b.defers
 | [],_,_=>rfl
 | o::os,k,b=>by rw[bn,Ci os,Ch]
section
variable {F:Fence} {n:Nat} {P:Program} {R:List Nat} {base:World} {Q:Exit→Act→World→Prop} {S:List It} {a:Sl} {sz:Nat} {es:Fe} {L:ah} {Ds:List Nat}
def km(S:List It)(a:Sl)(b:ah)(hs:bD→List (Nat×cb P))(η:bD):List (b4 P):=rq (ay S) a (jw (eR S) (ay S)) η (ay S) (hs η) 0 [] (λp=>b[p]?) b.length
def tR(S:List It)(a:Sl)(b:ah)(m:Nat)(hs:bD→List (Nat×cb P)):dN:=tB (ay S) a (jw (eR S) (ay S)) (qP (ay S) []) b m (km S a b hs)
abbrev mR(Le:bD→ah→ah)(L:ah):Nat:=(Le (λ_=>ab.zero) L).length
theorem Cj(h:lP S=true): ∃id d,nf S= .c (.region id (ay S).toArray d)::bS S∧eR S=d:=by
 unfold lP at h;unfold ay bS eR
 split at h
 ·rename_i id b d g e;rw[e];exact⟨id,d,rfl,rfl⟩
 ·cases h
theorem Kf{b:Bool}{v:Value}(h:qR b v=true):v= .bool b:=by
 unfold qR at h
 split at h
 ·rw[eq_of_beq h]
 ·cases h
theorem Fr.region{b:Act}(r:Fr a Ds b){LL:List Oper}{t:dN}{η:bD}{xs:Nat→Value}{e:Fe}{dr:List Nat}(N: ∀i,i<LL.length→t.Is η i (xs i))(I:e.map (λx=>kQ LL a t η x.1)=e.map λx=>some x.2)(H:mq LL a.e e dr=true):
  Fr ⟨a.sz,e++ek dr a.e⟩ Ds (bn xs LL 0 b):=by
 refine⟨(Cg _ _ _).trans r.size,λi v h=>?_,(Ci _ _ _).trans r.defers⟩;have B:=tt (xs:=xs) i LL 0 b;show(bn xs LL 0 b).eval (.tmp i)=v;rw[B];simp only[pN] at h;cases m:lk e i with
 | some u=>
  rw[m] at h;cases h;have J:=Ce m;have d:kQ LL a t η i=some v:=by
   obtain⟨q,M,D⟩:=aae J;have:=ALca (λz=>z[q]?) I;simpa [M,D] using this
  unfold kQ at d;cases l:fz i LL 0 with
  | none=>rw[l] at d;cases d
  | some j=>
   rw[l] at d;simp only at d⊢
   split at d
   ·rename_i y;rw[Y2] at y;rw[r.size,ALifp (ZF▸y.1)];cases d;rcases N j (Bm l) with⟨_,g⟩ | ⟨g,_⟩
    ·exact g
    ·exact absurd (λc A=>Kf (List.all_eq_true.1 y.2 c A)) g
   ·cases d
 | none=>
  rw[m] at h;simp only at h;obtain⟨g,G⟩:=Cd h;cases l:fz i LL 0 with
  | none=>exact r.get i v g
  | some j=>
   exfalso;have k:=(tC l).2;rw[ZA] at k;cases C:LL[j]? with
   | none=>rw[C] at k;cases k
   | some o=>
    rw[C] at k;have s:=List.all_eq_true.1 H o (Z8 C);rw[show o.dst=some i from k] at s;simp only[m,g,Option.isSome_none,Option.isNone_some,Bool.or_false,ZS] at s;exact G (by simpa using s)
theorem rr[hF:ki F](hs:bD→List (Nat×cb P))(e:bD→Fe)(dr:List Nat)(Le:bD→ah→ah)(C: ∀η,Go F n P R base Q (bS S) ⟨sz,e η++ek dr es⟩ (Le η L) Ds)
  (D:P.follows .mixedOrders=true:=by kernel_rfl)
  (c: ∀η,(lP S,(ff (ay S) ⟨sz,es⟩ (tR S ⟨sz,es⟩ L (mR Le L) hs) η 0 (ay S) (km S ⟨sz,es⟩ L hs η)).map a8.lhs,mh (eR S) (ay S) (λk=>(jw (eR S) (ay S)).getD k []),(Y4 (mR Le L)).map (λp=>(tR S ⟨sz,es⟩ L (mR Le L) hs).at η p (ay S).length),(e η).map (λx=>kQ (ay S) ⟨sz,es⟩ (tR S ⟨sz,es⟩ L (mR Le L) hs) η x.1),mq (ay S) es (e η) dr)=
   (true,(ff (ay S) ⟨sz,es⟩ (tR S ⟨sz,es⟩ L (mR Le L) hs) η 0 (ay S) (km S ⟨sz,es⟩ L hs η)).map a8.rhs,true,(Le η L).map some,(e η).map (λx=>some x.2),true):=by intro _;kernel_rfl):Go F n P R base Q S ⟨sz,es⟩ L Ds:=by
 have i:=ALca (λx=>x.1) (c λ_=>ab.zero);have j:=λη=>ALca (λx=>x.2.1) (c η);have l:=ALca (λx=>x.2.2.1) (c λ_=>ab.zero);have m:=λη=>ALca (λx=>x.2.2.2.1) (c η);have o:=λη=>ALca (λx=>x.2.2.2.2.1) (c η);have q:=λη=>ALca (λx=>x.2.2.2.2.2) (c η);simp only at i j l m o q;obtain⟨H,d,A,B⟩:=Cj i;subst B;refine⟨λb W r z=>dG 1000 S ?_⟩;rw[show dm 1000 S=_ from A];show(Code.region H (ay S).toArray (eR S)).wpIn F n P (c6 F n P Q (bS S)) b W;obtain⟨y,s,u⟩:=z.seg;refine Im (t:=tR S ⟨sz,es⟩ L (mR Le L) hs) (R:=y) (base:=W) D (Bo r j) hF.free l u (λη=>Le η L) m ?_;intro η xs I G g;exact(C η).out _ _ (r.region G (o η) (q η)) (s.out.whole g.out)
end
end
section
open Go Go.RowKit Go.Shelf
section
variable {F:Fence} {n:Nat} {P:Program} {R:List Nat} {base:World} {Q:Exit→Act→World→Prop} {S:List It} {a:Sl} {sz:Nat} {es:Fe} {L:ah} {Ds:List Nat}
abbrev i6(x:Int):Value:= .int .i64 x
abbrev u6(x:Int):Value:= .int .u64 x
abbrev u1(x:Int):Value:= .int .u8 x
abbrev pt(g o:Nat):Value:= .pointer (some ⟨g,o,none⟩)
abbrev iN(n:Nat):Value:=i6 (n:Int)
abbrev N0.{u,v} {α:Type u} {β:Type v}:α→List β:=λ_=>[]
theorem Kg{α:Type}{xs ys:List α}{n:Nat}{b:Bool}(h1:xs.length=n)(h2:ys.length=n):(bif b then xs else ys).length=n:=by cases b;exact h2;exact h1
theorem Ck{E:Bool}(h:kO a S=some E)(g:kP a S=true): ∃c x y d,nf S= .c (.cond c x y)::d∧m4 S= .c x::d∧m5 S= .c y::d∧(∀{b:Act},Fr a Ds b→b.eval c= .bool E):=by
 unfold kO at h;unfold kP at g;unfold m4 m5
 split at h
 ·rename_i c x y d e;rw[e] at g⊢
  split at h
  ·rename_i m j;cases h;refine⟨c,x,y,d,rfl,rfl,rfl,λ{b} k=>?_⟩;rw[k.ev λi l=>by subst l;exact g];exact j
  ·cases h
 ·cases h
theorem cB(E:Bool)(ht:E=true→Go F n P R base Q (m4 S) ⟨sz,es⟩ L Ds)(hf:E=false→Go F n P R base Q (m5 S) ⟨sz,es⟩ L Ds)(i:(kO ⟨sz,es⟩ S,kP ⟨sz,es⟩ S)=(some E,true):=by kernel_rfl):Go F n P R base Q S ⟨sz,es⟩ L Ds:=by
 obtain⟨c,x,y,o,j,k,l,m⟩:=Ck (Ds:=Ds) (ALca (·.1) i) (ALca (·.2) i);refine⟨λb W d g=>dG 1000 S ?_⟩;rw[show dm 1000 S=_ from j];exact wpIn_cond_split (m d) (λe=>by have:=(ht e).out b W d g;rw[k] at this;exact this) (λe=>by have:=(hf e).out b W d g;rw[l] at this;exact this)
theorem cT(E:Bool)(b:E=true)(ht:Go F n P R base Q (m4 S) ⟨sz,es⟩ L Ds)(c:(kO ⟨sz,es⟩ S,kP ⟨sz,es⟩ S)=(some E,true):=by kernel_rfl):Go F n P R base Q S ⟨sz,es⟩ L Ds:=cB E (λ_=>ht) (λh=>by rw[b] at h;cases h) c
theorem cF(E:Bool)(b:E=false)(hf:Go F n P R base Q (m5 S) ⟨sz,es⟩ L Ds)(c:(kO ⟨sz,es⟩ S,kP ⟨sz,es⟩ S)=(some E,true):=by kernel_rfl):Go F n P R base Q S ⟨sz,es⟩ L Ds:=cB E (λh=>by rw[b] at h;cases h) (λ_=>hf) c
theorem cc(x y:Int)(ht:(decide (x<y))=true→x<y→Go F n P R base Q (m4 S) ⟨sz,es⟩ L Ds)(hf:(decide (x<y))=false→y≤x→Go F n P R base Q (m5 S) ⟨sz,es⟩ L Ds)(b:(kO ⟨sz,es⟩ S,kP ⟨sz,es⟩ S)=(some (decide (x<y)),true):=by kernel_rfl):Go F n P R base Q S ⟨sz,es⟩ L Ds:=
 cB _ (λh=>ht h (of_decide_eq_true h)) (λh=>hf h (Int.not_lt.1 (of_decide_eq_false h))) b
theorem oI(x y:Int)(ht:(decide (x≤y))=true→x≤y→Go F n P R base Q (m4 S) ⟨sz,es⟩ L Ds)(hf:(decide (x≤y))=false→y<x→Go F n P R base Q (m5 S) ⟨sz,es⟩ L Ds)(b:(kO ⟨sz,es⟩ S,kP ⟨sz,es⟩ S)=(some (decide (x≤y)),true):=by kernel_rfl):Go F n P R base Q S ⟨sz,es⟩ L Ds:=
 cB _ (λh=>ht h (of_decide_eq_true h)) (λh=>hf h (Int.not_le.1 (of_decide_eq_false h))) b
theorem cE(x y:Int)(ht:(x==y)=true→x=y→Go F n P R base Q (m4 S) ⟨sz,es⟩ L Ds)(hf:(x==y)=false→x≠y→Go F n P R base Q (m5 S) ⟨sz,es⟩ L Ds)(b:(kO ⟨sz,es⟩ S,kP ⟨sz,es⟩ S)=(some (x==y),true):=by kernel_rfl):Go F n P R base Q S ⟨sz,es⟩ L Ds:=
 cB _ (λh=>ht h (eq_of_beq h)) (λh=>hf h (ne_of_beq_false h)) b
theorem m6(x y:Int)(ht:(!(x==y))=true→x≠y→Go F n P R base Q (m4 S) ⟨sz,es⟩ L Ds)(hf:(!(x==y))=false→x=y→Go F n P R base Q (m5 S) ⟨sz,es⟩ L Ds)(b:(kO ⟨sz,es⟩ S,kP ⟨sz,es⟩ S)=(some (!(x==y)),true):=by kernel_rfl):Go F n P R base Q S ⟨sz,es⟩ L Ds:=
 cB _ (λh=>ht h (λe=>by subst e;simp at h)) (λh=>hf h (by simpa using h)) b
theorem Fr.told{b:Act}(d:Fr a Ds b){c:Fe}(g:(c.map λx=>lk a.e x.1)=c.map λx=>some x.2):Fr ⟨a.sz,c⟩ Ds b:=by
 refine⟨d.size,λi v h=>?_,d.defers⟩;obtain⟨q,j,e⟩:=aae (Ce h);have:=ALca (λz=>z[q]?) g;exact d.get i v (by simpa [j,e] using this)
theorem aH.under{L':ah}{W:World}(e:aH R base (L++Ds.map mk) W)(h: ∀{b:List Nat},aH b W L W→aH b W L' W):aH R base (L'++Ds.map mk) W:=by
 obtain⟨b,c,d⟩:=e.seg;exact c.out.whole (h d.out)
theorem cl(L':ah)(b:L=L')(c:Go F n P R base Q S ⟨sz,es⟩ L' Ds):Go F n P R base Q S ⟨sz,es⟩ L Ds:=by subst b;exact c
theorem cw(k:Nat)(x y:aC)(h: ∀bs,x.sat bs→y.sat bs)(e:Go F n P R base Q S ⟨sz,es⟩ (L.set k y) Ds)(i:L[k]? =some x:=by kernel_rfl):Go F n P R base Q S ⟨sz,es⟩ L Ds:=
 ⟨λb W d c=>e.out b W d (c.under λg=>g.weak k i h)⟩
theorem ck(k:Nat)(T:aA→Prop)(m: ∀bs,T bs→Go F n P R base Q S ⟨sz,es⟩ (L.set k (.c bs)) Ds)(h:L[k]? =some (.p T):=by kernel_rfl):Go F n P R base Q S ⟨sz,es⟩ L Ds:=by
 refine⟨λb W l i=>?_⟩;obtain⟨o,d,e⟩:=i.seg;obtain⟨bs,j,g⟩:=e.out.open k h;exact(m bs j).out b W l (d.out.whole g)
theorem cn{α:Type}(en:α→List Value)(z:List Value)(T:TypeId)(e:Go F n P R base Q S ⟨sz,es⟩ (L++[.p (ar en z T (.slice none 0 0) ([]:List α))]) Ds):Go F n P R base Q S ⟨sz,es⟩ L Ds:=
 ⟨λb W d c=>e.out b W d (c.under λh=>h.nilS en z T)⟩
end
def xM:List Oper→List Nat
 | []=>[]
 | o::os=>match o.dst with
  | some d=>d::xM os
  | none=>xM os
def ko:Code→List Nat
 | .region _ L _=>xM L.toList
 | .seq x y=>ko x++ko y
 | .cond _ x y=>ko x++ko y
 | .block _ x=>ko x
 | .loop x=>ko x
 | .scope x=>ko x
 | .rangeFunc _ b x y=>b.toList++(ko x++ko y)
 | _=>[]
def jC(S:List It)(e:Fe):Fe:=(λb=>e.filter λx=> !aaD b (Zu x.1)) (ko (gw S))
section
variable (F:Fence) (n:Nat) (P:Program) (R:List Nat) (base:World) {κ:Type}
def Cl(I:κ→Prop)(e:κ→Fe)(L:κ→ah)(D:κ→List Nat)(m:κ→Nat)(sz:Nat)(st:Fe)(j:Nat)(b:Act)(W:World):Prop:=∃k,I k∧m k<j∧Fr ⟨sz,e k++st⟩ (D k) b∧aH R base (L k++(D k).map mk) W
def um(Q:Exit→Act→World→Prop)(S:List It)(I:κ→Prop)(e:κ→Fe)(L:κ→ah)(D:κ→List Nat)(m:κ→Nat)(sz:Nat)(st:Fe)(j:Nat):Exit→Act→World→Prop
 | .normal,b,W=>Cl R base I e L D m sz st j b W
 | e,b,W=>c6 F n P Q S e b W
end
section
variable {F:Fence} {n:Nat} {P:Program} {R:List Nat} {base:World} {Q:Exit→Act→World→Prop} {S:List It} {a:Sl} {sz:Nat} {es:Fe} {L:ah} {Ds:List Nat} {κ:Type}
theorem kR{J:Nat→Prop}(h: ∃j,J j): ∃j,J j∧∀i,i<j→¬J i:=by
 classical
 obtain⟨j,k⟩:=h
 induction j using aay with
 | _ j ih=>
  by_cases b: ∃i,i<j∧J i
  ·obtain⟨i,c,d⟩:=b;exact ih i c d
  ·exact⟨j,k,λi g e=>b ⟨i,g,e⟩⟩
theorem uq(h:nP S=true):nf S= .c (.loop (gw S))::bS S:=by
 unfold nP at h;unfold gw bS
 split at h
 ·rename_i x b e;rw[e]
 ·cases h
theorem Fr.stay{b:Act}(d:Fr a Ds b){c:Fe}(j:(c.map λx=>lk a.e x.1)=c.map λx=>some x.2):Fr ⟨a.sz,c++jC S a.e⟩ Ds b:=by
 have g:=d.told j;refine⟨d.size,λi v h=>?_,d.defers⟩;simp only[pN] at h;cases e:lk c i with
 | none=>
  rw[e] at h;simp only at h;unfold jC at h;rw[xL (p:=λi=> !aaD (ko (gw S)) (Zu i))] at h
  split at h
  ·exact d.get i v h
  ·cases h
 | some u=>rw[e] at h;cases h;exact g.get i v e
theorem lp(I:κ→Prop)(e:κ→Fe)(g:κ→ah)(D:κ→List Nat)(m:κ→Nat)(d:κ)(h0:I d)(l:((e d).map λx=>lk es x.1)=(e d).map λx=>some x.2)(z:L=g d)(u:Ds=D d)
  (N: ∀k,I k→Go F n P R base (um F n P R base Q (bS S) I e g D m sz (jC S es) (m k)) [.c (gw S)] ⟨sz,e k++jC S es⟩ (g k) (D k)) (A:nP S=true):Go F n P R base Q S ⟨sz,es⟩ L Ds:=by
 classical
 subst z u;refine⟨λb W B q=>dG 1000 S ?_⟩;rw[show dm 1000 S=_ from uq A];show(Code.loop (gw S)).wpIn F n P (c6 F n P Q (bS S)) b W
 let J:Nat→Act→World→Prop:=Cl R base I e g D m sz (jC S es)
 let μ:Act→World→Nat:=λb W=>if h: ∃j,J j b W then ZB (kR h) else 0
 have t: ∀b W,(∃j,J j b W)→J (μ b W) b W∧∀i,i<μ b W→¬J i b W:=by
  intro b W h;have e:μ b W=ZB (kR h):=dif_pos h;rw[e];exact ZZ (kR h)
 refine wpIn_loop (λb W=>∃j,J j b W) μ ⟨m d+1,d,h0,aav _,Fr.stay (a:=⟨sz,es⟩) B l,q⟩ λb W y=>?_;obtain⟨k,G,M,C,q⟩:=(t b W y).1;refine wpIn_mono (show(gw S).wpIn F n P _ b W from(N k G).out b W C q) λe s r l=>?_;cases e with
 | normal=>
  have o:J (m k) s r:=l;exact⟨⟨_,o⟩,ZU (ZX λH=>(t s r ⟨_,o⟩).2 _ H o) M⟩
 | _=>exact l
def jV(S c:List It):Option (List It):=match nf S with
 | .x b::S'=>(match mo b S' with
  | none=>some (.x b::c)
  | some _=>none)
 | _=>none
theorem ur{c:Exit→Act→World→Prop}{d g:List It}{b:Act}{W:World}(h1:jV S d=some g)(j:c6 F n P Q g .normal b W)(i: ∀id,c (.exit id) b W=c6 F n P Q d (.exit id) b W):c6 F n P c S .normal b W:=by
 refine dG 1000 S ?_;unfold jV at h1
 split at h1
 ·rename_i id l e;rw[show dm 1000 S=_ from e]
  split at h1
  ·rename_i k;cases h1;exact ru k (by rw[i];exact j)
  ·cases h1
 ·cases h1
theorem Cm{I:κ→Prop}{e:κ→Fe}{k:κ→ah}{D:κ→List Nat}{m:κ→Nat}{c:List It}{d:Nat}{st:Fe}{j:Nat}(i:Go F n P R base Q ((jV S c).getD []) ⟨sz,es⟩ L Ds)(o:(jV S c).isSome=true:=by kernel_rfl):Go F n P R base (um F n P R base Q c I e k D m d st j) S ⟨sz,es⟩ L Ds:=by
 obtain⟨r,g⟩:=Option.isSome_iff_exists.1 o;rw[g] at i;exact⟨λb W q l=>ur g (i.out b W q l) λ_=>rfl⟩
class Rt (Q:Exit→Act→World→Prop) (Q0:outParam (Exit→Act→World→Prop)):Prop where
 out: ∀b W,Q0 .ret b W→Q .ret b W
instance {Q:Exit→Act→World→Prop}:Rt Q Q:=⟨λ_ _ h=>h⟩
def uu(F:Fence)(n:Nat)(P:Program)(R:List Nat)(base:World)(Q:Exit→Act→World→Prop)(S:List It)(I:Nat→Prop)(e:Nat→Fe)(c:Nat→ah)(m:Nat→Nat)(b:List Nat)(sz:Nat)(st:Fe)(j:Nat):Exit→Act→World→Prop:=um (κ:=Nat) F n P R base Q S I e c (λ_=>b) m sz st j
theorem lq(I:Nat→Prop)(e:Nat→Fe)(d:Nat→ah→ah)(m:Nat→Nat)(b:Nat)(h0:I b)(j:((e b).map λx=>lk es x.1)=(e b).map λx=>some x.2)(g:L=d b L)
  (l: ∀(k:Nat),I k→Go F n P R base (uu F n P R base Q (bS S) I e (λk=>d k L) m Ds sz (jC S es) (m k)) [.c (gw S)] ⟨sz,e k++jC S es⟩ (d k L) Ds) (i:nP S=true:=by kernel_rfl):Go F n P R base Q S ⟨sz,es⟩ L Ds:=
 lp (κ:=Nat) I e (λx=>d x L) (λ_=>Ds) m b h0 j g rfl (λx=>l x) i
theorem le{I:Nat→Prop}{e:Nat→Fe}{l:Nat→ah}{m:Nat→Nat}{o:List It}{d:Nat}{st:Fe}{c:List Nat}{j:Nat}(k:Nat)(r:I k)(A:m k<j)(z:((e k++st).map λx=>lk es x.1)=(e k++st).map λx=>some x.2)(i:List Nat)(s:(dj (i.map λp=>[p]).flatten,(i.map λp=>[p]).map λg=>g.map λp=>L[p]?)=(true,((l k).map λx=>[x]).map λN=>N.map some))(u:(nf S).isEmpty=true:=by kernel_rfl)(B:sz=d:=by rfl)(q:Ds=c:=by rfl):
  Go F n P R base (uu F n P R base Q o I e l m c d st j) S ⟨sz,es⟩ L Ds:=by
 subst B q;refine⟨λb W y t=>dG 1000 S ?_⟩;rw[show dm 1000 S=[] from List.isEmpty_iff.1 u];exact⟨k,r,A,Fr.told (a:=⟨sz,es⟩) y z,t.under λh=>h.pick i _ s⟩
theorem lx{I:Nat→Prop}{e:Nat→Fe}{g:Nat→ah}{m:Nat→Nat}{c:List It}{d:Nat}{st:Fe}{b:List Nat}{j:Nat}(k:Go F n P R base Q ((jV S c).getD []) ⟨sz,es⟩ L Ds)(i:(jV S c).isSome=true:=by kernel_rfl):Go F n P R base (uu F n P R base Q c I e g m b d st j) S ⟨sz,es⟩ L Ds:=Cm k i
instance {F:Fence} {n:Nat} {P:Program} {R:List Nat} {base:World} {Q Q0:Exit→Act→World→Prop} {I:Nat→Prop} {e:Nat→Fe} {LI:Nat→ah} {m:Nat→Nat} {S0:List It} {sz0:Nat} {st:Fe} {Ds0:List Nat} {j:Nat} [h:Rt Q Q0]:Rt (uu F n P R base Q S0 I e LI m Ds0 sz0 st j) Q0:=⟨λb W hq=>gN (S:=S0) (h.out b W hq)⟩
def uv(F:Fence)(n:Nat)(P:Program)(R:List Nat)(base:World)(Q:Exit→Act→World→Prop)(S:List It)(I:Nat→Value→Prop)(e:Nat→Value→Fe)(c:Nat→Value→ah)(m:Nat→Value→Nat)(b:List Nat)(sz:Nat)(st:Fe)(j:Nat):Exit→Act→World→Prop:=um (κ:=Nat×Value) F n P R base Q S (λx=>I x.1 x.2) (λx=>e x.1 x.2) (λx=>c x.1 x.2) (λ_=>b) (λx=>m x.1 x.2) sz st j
theorem mv(I:Nat→Value→Prop)(e:Nat→Value→Fe)(g:Nat→Value→ah→ah)(m:Nat→Value→Nat)(b:Nat)(d:Value)(h0:I b d)(l:((e b d).map λx=>lk es x.1)=(e b d).map λx=>some x.2)(i:L=g b d L)
  (o: ∀(k:Nat) (u:Value),I k u→Go F n P R base (uv F n P R base Q (bS S) I e (λk u=>g k u L) m Ds sz (jC S es) (m k u)) [.c (gw S)] ⟨sz,e k u++jC S es⟩ (g k u L) Ds) (j:nP S=true:=by kernel_rfl):Go F n P R base Q S ⟨sz,es⟩ L Ds:=
 lp (κ:=Nat×Value) (λx=>I x.1 x.2) (λx=>e x.1 x.2) (λx=>g x.1 x.2 L) (λ_=>Ds) (λx=>m x.1 x.2) (b,d) h0 l i rfl (λx=>o x.1 x.2) j
theorem kS{I:Nat→Value→Prop}{e:Nat→Value→Fe}{l:Nat→Value→ah}{m:Nat→Value→Nat}{o:List It}{d:Nat}{st:Fe}{c:List Nat}{j:Nat}(k:Nat)(u:Value)(r:I k u)(B:m k u<j)(A:((e k u++st).map λx=>lk es x.1)=(e k u++st).map λx=>some x.2)(i:List Nat)(s:(dj (i.map λp=>[p]).flatten,(i.map λp=>[p]).map λg=>g.map λp=>L[p]?)=(true,((l k u).map λx=>[x]).map λN=>N.map some))(y:(nf S).isEmpty=true:=by kernel_rfl)(C:sz=d:=by rfl)(q:Ds=c:=by rfl):
  Go F n P R base (uv F n P R base Q o I e l m c d st j) S ⟨sz,es⟩ L Ds:=by
 subst C q;refine⟨λb W z t=>dG 1000 S ?_⟩;rw[show dm 1000 S=[] from List.isEmpty_iff.1 y];exact⟨(k,u),r,B,Fr.told (a:=⟨sz,es⟩) z A,t.under λh=>h.pick i _ s⟩
theorem kT{I:Nat→Value→Prop}{e:Nat→Value→Fe}{g:Nat→Value→ah}{m:Nat→Value→Nat}{c:List It}{d:Nat}{st:Fe}{b:List Nat}{j:Nat}(k:Go F n P R base Q ((jV S c).getD []) ⟨sz,es⟩ L Ds)(i:(jV S c).isSome=true:=by kernel_rfl):Go F n P R base (uv F n P R base Q c I e g m b d st j) S ⟨sz,es⟩ L Ds:=Cm k i
instance {F:Fence} {n:Nat} {P:Program} {R:List Nat} {base:World} {Q Q0:Exit→Act→World→Prop} {I:Nat→Value→Prop} {e:Nat→Value→Fe} {LI:Nat→Value→ah} {m:Nat→Value→Nat} {S0:List It} {sz0:Nat} {st:Fe} {Ds0:List Nat} {j:Nat} [h:Rt Q Q0]:Rt (uv F n P R base Q S0 I e LI m Ds0 sz0 st j) Q0:=⟨λb W hq=>gN (S:=S0) (h.out b W hq)⟩
def YG(F:Fence)(n:Nat)(P:Program)(R:List Nat)(base:World)(Q:Exit→Act→World→Prop)(S:List It)(I:Nat→Value→Value→Prop)(e:Nat→Value→Value→Fe)(c:Nat→Value→Value→ah)(m:Nat→Value→Value→Nat)(b:List Nat)(sz:Nat)(st:Fe)(j:Nat):Exit→Act→World→Prop:=um (κ:=Nat×Value×Value) F n P R base Q S (λx=>I x.1 x.2.1 x.2.2) (λx=>e x.1 x.2.1 x.2.2) (λx=>c x.1 x.2.1 x.2.2) (λ_=>b) (λx=>m x.1 x.2.1 x.2.2) sz st j
instance {F:Fence} {n:Nat} {P:Program} {R:List Nat} {base:World} {Q Q0:Exit→Act→World→Prop} {I:Nat→Value→Value→Prop} {e:Nat→Value→Value→Fe} {LI:Nat→Value→Value→ah} {m:Nat→Value→Value→Nat} {S0:List It} {sz0:Nat} {st:Fe} {Ds0:List Nat} {j:Nat} [h:Rt Q Q0]:Rt (YG F n P R base Q S0 I e LI m Ds0 sz0 st j) Q0:=⟨λb W hq=>gN (S:=S0) (h.out b W hq)⟩
def YH(F:Fence)(n:Nat)(P:Program)(R:List Nat)(base:World)(Q:Exit→Act→World→Prop)(S:List It)(I:Nat→Value→Value→Value→Prop)(e:Nat→Value→Value→Value→Fe)(c:Nat→Value→Value→Value→ah)(m:Nat→Value→Value→Value→Nat)(b:List Nat)(sz:Nat)(st:Fe)(j:Nat):Exit→Act→World→Prop:=um (κ:=Nat×Value×Value×Value) F n P R base Q S (λx=>I x.1 x.2.1 x.2.2.1 x.2.2.2) (λx=>e x.1 x.2.1 x.2.2.1 x.2.2.2) (λx=>c x.1 x.2.1 x.2.2.1 x.2.2.2) (λ_=>b) (λx=>m x.1 x.2.1 x.2.2.1 x.2.2.2) sz st j
instance {F:Fence} {n:Nat} {P:Program} {R:List Nat} {base:World} {Q Q0:Exit→Act→World→Prop} {I:Nat→Value→Value→Value→Prop} {e:Nat→Value→Value→Value→Fe} {LI:Nat→Value→Value→Value→ah} {m:Nat→Value→Value→Value→Nat} {S0:List It} {sz0:Nat} {st:Fe} {Ds0:List Nat} {j:Nat} [h:Rt Q Q0]:Rt (YH F n P R base Q S0 I e LI m Ds0 sz0 st j) Q0:=⟨λb W hq=>gN (S:=S0) (h.out b W hq)⟩
def YI(F:Fence)(n:Nat)(P:Program)(R:List Nat)(base:World)(Q:Exit→Act→World→Prop)(S:List It)(I:Nat→List Nat→Prop)(e:Nat→List Nat→Fe)(b:Nat→List Nat→ah)(m:Nat→List Nat→Nat)(sz:Nat)(st:Fe)(j:Nat):Exit→Act→World→Prop:=um (κ:=Nat×List Nat) F n P R base Q S (λx=>I x.1 x.2) (λx=>e x.1 x.2) (λx=>b x.1 x.2) (λx=>x.2) (λx=>m x.1 x.2) sz st j
instance {F:Fence} {n:Nat} {P:Program} {R:List Nat} {base:World} {Q Q0:Exit→Act→World→Prop} {I:Nat→List Nat→Prop} {e:Nat→List Nat→Fe} {LI:Nat→List Nat→ah} {m:Nat→List Nat→Nat} {S0:List It} {sz0:Nat} {st:Fe} {j:Nat} [h:Rt Q Q0]:Rt (YI F n P R base Q S0 I e LI m sz0 st j) Q0:=⟨λb W hq=>gN (S:=S0) (h.out b W hq)⟩
def YJ(F:Fence)(n:Nat)(P:Program)(R:List Nat)(base:World)(Q:Exit→Act→World→Prop)(S:List It)(I:Nat→Value→List Nat→Prop)(e:Nat→Value→List Nat→Fe)(b:Nat→Value→List Nat→ah)(m:Nat→Value→List Nat→Nat)(sz:Nat)(st:Fe)(j:Nat):Exit→Act→World→Prop:=um (κ:=Nat×Value×List Nat) F n P R base Q S (λx=>I x.1 x.2.1 x.2.2) (λx=>e x.1 x.2.1 x.2.2) (λx=>b x.1 x.2.1 x.2.2) (λx=>x.2.2) (λx=>m x.1 x.2.1 x.2.2) sz st j
instance {F:Fence} {n:Nat} {P:Program} {R:List Nat} {base:World} {Q Q0:Exit→Act→World→Prop} {I:Nat→Value→List Nat→Prop} {e:Nat→Value→List Nat→Fe} {LI:Nat→Value→List Nat→ah} {m:Nat→Value→List Nat→Nat} {S0:List It} {sz0:Nat} {st:Fe} {j:Nat} [h:Rt Q Q0]:Rt (YJ F n P R base Q S0 I e LI m sz0 st j) Q0:=⟨λb W hq=>gN (S:=S0) (h.out b W hq)⟩
def YK(F:Fence)(n:Nat)(P:Program)(R:List Nat)(base:World)(Q:Exit→Act→World→Prop)(S:List It)(I:Nat→Value→Value→List Nat→Prop)(e:Nat→Value→Value→List Nat→Fe)(b:Nat→Value→Value→List Nat→ah)(m:Nat→Value→Value→List Nat→Nat)(sz:Nat)(st:Fe)(j:Nat):Exit→Act→World→Prop:=um (κ:=Nat×Value×Value×List Nat) F n P R base Q S (λx=>I x.1 x.2.1 x.2.2.1 x.2.2.2) (λx=>e x.1 x.2.1 x.2.2.1 x.2.2.2) (λx=>b x.1 x.2.1 x.2.2.1 x.2.2.2) (λx=>x.2.2.2) (λx=>m x.1 x.2.1 x.2.2.1 x.2.2.2) sz st j
instance {F:Fence} {n:Nat} {P:Program} {R:List Nat} {base:World} {Q Q0:Exit→Act→World→Prop} {I:Nat→Value→Value→List Nat→Prop} {e:Nat→Value→Value→List Nat→Fe} {LI:Nat→Value→Value→List Nat→ah} {m:Nat→Value→Value→List Nat→Nat} {S0:List It} {sz0:Nat} {st:Fe} {j:Nat} [h:Rt Q Q0]:Rt (YK F n P R base Q S0 I e LI m sz0 st j) Q0:=⟨λb W hq=>gN (S:=S0) (h.out b W hq)⟩
end
section
variable {F:Fence} {n:Nat} {P:Program} {R:List Nat} {base:World} {Q:Exit→Act→World→Prop} {S:List It} {a:Sl} {sz:Nat} {es:Fe} {L:ah} {Ds:List Nat}
def jQ(F:Fence)(n:Nat)(P:Program)(R:List Nat)(base:World)(Q:Exit→Act→World→Prop)(S:List It)(c:Sl)(L':ah)(Ds:List Nat):Exit→Act→World→Prop
 | .normal,b,W=>Fr c Ds b∧aH R base (L'++Ds.map mk) W
 | e,b,W=>c6 F n P Q S e b W
def uw(S:List It):Code:=match nf S with | .c (.cond _ x _)::_=>x | _=> .skip
def ux(S:List It):Code:=match nf S with | .c (.cond _ _ y)::_=>y | _=> .skip
def xN(S:List It)(e:Fe):Fe:=(λb=>e.filter λx=> !aaD b (Zu x.1)) (ko (uw S)++ko (ux S))
theorem cJ(E:Bool)(l:Bool→Fe)(L':Bool→ah)(ht:E=true→Go F n P R base (jQ F n P R base Q (bS S) ⟨sz,l true++xN S es⟩ (L' true) Ds) [.c (uw S)] ⟨sz,es⟩ L Ds)(hf:E=false→Go F n P R base (jQ F n P R base Q (bS S) ⟨sz,l false++xN S es⟩ (L' false) Ds) [.c (ux S)] ⟨sz,es⟩ L Ds)
  (m:Go F n P R base Q (bS S) ⟨sz,l E++xN S es⟩ (L' E) Ds) (r:(kO ⟨sz,es⟩ S,kP ⟨sz,es⟩ S)=(some E,true):=by kernel_rfl):Go F n P R base Q S ⟨sz,es⟩ L Ds:=by
 obtain⟨c,x,y,s,g,A,B,o⟩:=Ck (Ds:=Ds) (ALca (·.1) r) (ALca (·.2) r);have u:uw S=x:=by unfold uw;rw[g]
 have z:ux S=y:=by unfold ux;rw[g]
 have t:bS S=s:=by unfold bS;rw[g]
 rw[u] at ht;rw[z] at hf;rw[t] at ht hf m;refine⟨λb W i q=>dG 1000 S ?_⟩;rw[show dm 1000 S=_ from g];cases E with
 | true=>exact wpIn_cond (o i) (wpIn_mono (show x.wpIn F n P _ b W from(ht rfl).out b W i q) λe k j d=>by
   cases e with
   | normal=>exact m.out k j d.1 d.2
   | _=>exact d)
 | false=>exact wpIn_cond (o i) (wpIn_mono (show y.wpIn F n P _ b W from(hf rfl).out b W i q) λe k j d=>by
   cases e with
   | normal=>exact m.out k j d.1 d.2
   | _=>exact d)
theorem cm{i:List It}{d:Sl}{L':ah}{c:List Nat}(q:(d.e.map λx=>lk es x.1)=d.e.map λx=>some x.2)(e:List Nat)(k:(dj (e.map λp=>[p]).flatten,(e.map λp=>[p]).map λg=>g.map λp=>L[p]?)=(true,(L'.map λx=>[x]).map λN=>N.map some))(m:(nf S).isEmpty=true:=by kernel_rfl)(r:sz=d.sz:=by rfl)(j:Ds=c:=by rfl):Go F n P R base (jQ F n P R base Q i d L' c) S ⟨sz,es⟩ L Ds:=by
 subst j;refine⟨λb W o l=>dG 1000 S ?_⟩;rw[show dm 1000 S=[] from List.isEmpty_iff.1 m];have h:=o.told q;exact⟨⟨h.size.trans r,h.get,h.defers⟩,l.under λh=>h.pick e _ k⟩
theorem r0[hF:ki F](hs:List (Nat×cb P))(b:Fe)(dr:List Nat)(d:Go F n P R base Q (bS S) ⟨sz,b++ek dr es⟩ L Ds)
 (e:P.follows .mixedOrders=true:=by kernel_rfl)
 (c: ∀η,(lP S,(ff (ay S) ⟨sz,es⟩ (tR S ⟨sz,es⟩ L L.length λ_=>hs) η 0 (ay S) (km S ⟨sz,es⟩ L (λ_=>hs) η)).map a8.lhs,mh (eR S) (ay S) (λk=>(jw (eR S) (ay S)).getD k []),(Y4 L.length).map (λp=>(tR S ⟨sz,es⟩ L L.length λ_=>hs).at η p (ay S).length),b.map (λx=>kQ (ay S) ⟨sz,es⟩ (tR S ⟨sz,es⟩ L L.length λ_=>hs) η x.1),mq (ay S) es b dr)=
  (true,(ff (ay S) ⟨sz,es⟩ (tR S ⟨sz,es⟩ L L.length λ_=>hs) η 0 (ay S) (km S ⟨sz,es⟩ L (λ_=>hs) η)).map a8.rhs,true,L.map some,b.map (λx=>some x.2),true):=by intro _;kernel_rfl):Go F n P R base Q S ⟨sz,es⟩ L Ds:=rr (λ_=>hs) (λ_=>b) dr (λ_ L=>L) (λ_=>d) e c
theorem rF[hF:ki F](hs:List (Nat×cb P))(k:Nat)(d:Go F n P R base Q (m5 (bS S)) ⟨sz,[(k,Value.bool false)]++ek [] es⟩ L Ds)(e:P.follows .mixedOrders=true:=by kernel_rfl)(c: ∀η,(lP S,(ff (ay S) ⟨sz,es⟩ (tR S ⟨sz,es⟩ L L.length λ_=>hs) η 0 (ay S) (km S ⟨sz,es⟩ L (λ_=>hs) η)).map a8.lhs,mh (eR S) (ay S) (λk=>(jw (eR S) (ay S)).getD k []),(Y4 L.length).map (λp=>(tR S ⟨sz,es⟩ L L.length λ_=>hs).at η p (ay S).length),[(k,Value.bool false)].map (λx=>kQ (ay S) ⟨sz,es⟩ (tR S ⟨sz,es⟩ L L.length λ_=>hs) η x.1),mq (ay S) es [(k,Value.bool false)] [])=(true,(ff (ay S) ⟨sz,es⟩ (tR S ⟨sz,es⟩ L L.length λ_=>hs) η 0 (ay S) (km S ⟨sz,es⟩ L (λ_=>hs) η)).map a8.rhs,true,L.map some,[(k,Value.bool false)].map (λx=>some x.2),true):=by intro _;kernel_rfl)(b:(kO ⟨sz,[(k,Value.bool false)]++ek [] es⟩ (bS S),kP ⟨sz,[(k,Value.bool false)]++ek [] es⟩ (bS S))=(some false,true):=by kernel_rfl):Go F n P R base Q S ⟨sz,es⟩ L Ds:=r0 hs [(k,Value.bool false)] [] (cF false rfl d b) e c
theorem rT[hF:ki F](hs:List (Nat×cb P))(k:Nat)(d:Go F n P R base Q (m4 (bS S)) ⟨sz,[(k,Value.bool true)]++ek [] es⟩ L Ds)(e:P.follows .mixedOrders=true:=by kernel_rfl)(c: ∀η,(lP S,(ff (ay S) ⟨sz,es⟩ (tR S ⟨sz,es⟩ L L.length λ_=>hs) η 0 (ay S) (km S ⟨sz,es⟩ L (λ_=>hs) η)).map a8.lhs,mh (eR S) (ay S) (λk=>(jw (eR S) (ay S)).getD k []),(Y4 L.length).map (λp=>(tR S ⟨sz,es⟩ L L.length λ_=>hs).at η p (ay S).length),[(k,Value.bool true)].map (λx=>kQ (ay S) ⟨sz,es⟩ (tR S ⟨sz,es⟩ L L.length λ_=>hs) η x.1),mq (ay S) es [(k,Value.bool true)] [])=(true,(ff (ay S) ⟨sz,es⟩ (tR S ⟨sz,es⟩ L L.length λ_=>hs) η 0 (ay S) (km S ⟨sz,es⟩ L (λ_=>hs) η)).map a8.rhs,true,L.map some,[(k,Value.bool true)].map (λx=>some x.2),true):=by intro _;kernel_rfl)(b:(kO ⟨sz,[(k,Value.bool true)]++ek [] es⟩ (bS S),kP ⟨sz,[(k,Value.bool true)]++ek [] es⟩ (bS S))=(some true,true):=by kernel_rfl):Go F n P R base Q S ⟨sz,es⟩ L Ds:=r0 hs [(k,Value.bool true)] [] (cT true rfl d b) e c
theorem ra[hF:ki F](b:bD→Fe)(A:bD→ah)(d: ∀η,Go F n P R base Q (bS S) ⟨sz,b η++ek [] es⟩ (L++A η) Ds)(e:P.follows .mixedOrders=true:=by kernel_rfl)(c: ∀η,(lP S,(ff (ay S) ⟨sz,es⟩ (tR S ⟨sz,es⟩ L (mR (λη L=>L++A η) L) (λ_=>([]:List (Nat×cb P)))) η 0 (ay S) (km S ⟨sz,es⟩ L (λ_=>([]:List (Nat×cb P))) η)).map a8.lhs,mh (eR S) (ay S) (λk=>(jw (eR S) (ay S)).getD k []),(Y4 (mR (λη L=>L++A η) L)).map (λp=>(tR S ⟨sz,es⟩ L (mR (λη L=>L++A η) L) (λ_=>([]:List (Nat×cb P)))).at η p (ay S).length),(b η).map (λx=>kQ (ay S) ⟨sz,es⟩ (tR S ⟨sz,es⟩ L (mR (λη L=>L++A η) L) (λ_=>([]:List (Nat×cb P)))) η x.1),mq (ay S) es (b η) [])=(true,(ff (ay S) ⟨sz,es⟩ (tR S ⟨sz,es⟩ L (mR (λη L=>L++A η) L) (λ_=>([]:List (Nat×cb P)))) η 0 (ay S) (km S ⟨sz,es⟩ L (λ_=>([]:List (Nat×cb P))) η)).map a8.rhs,true,(L++A η).map some,(b η).map (λx=>some x.2),true):=by intro _;kernel_rfl):Go F n P R base Q S ⟨sz,es⟩ L Ds:=rr (λ_=>[]) b [] (λη L=>L++A η) d e c
theorem rs[hF:ki F](hs:List (Nat×cb P))(k:Nat)(X:aC)(c:Go F n P R base Q (bS S) ⟨sz,[]++ek [] es⟩ (L.set k X) Ds)(d:P.follows .mixedOrders=true:=by kernel_rfl)(b: ∀η,(lP S,(ff (ay S) ⟨sz,es⟩ (tR S ⟨sz,es⟩ L (mR (λ_ L=>L.set k X) L) (λ_=>hs)) η 0 (ay S) (km S ⟨sz,es⟩ L (λ_=>hs) η)).map a8.lhs,mh (eR S) (ay S) (λk=>(jw (eR S) (ay S)).getD k []),(Y4 (mR (λ_ L=>L.set k X) L)).map (λp=>(tR S ⟨sz,es⟩ L (mR (λ_ L=>L.set k X) L) (λ_=>hs)).at η p (ay S).length),([]:Fe).map (λx=>kQ (ay S) ⟨sz,es⟩ (tR S ⟨sz,es⟩ L (mR (λ_ L=>L.set k X) L) (λ_=>hs)) η x.1),mq (ay S) es ([]:Fe) [])=(true,(ff (ay S) ⟨sz,es⟩ (tR S ⟨sz,es⟩ L (mR (λ_ L=>L.set k X) L) (λ_=>hs)) η 0 (ay S) (km S ⟨sz,es⟩ L (λ_=>hs) η)).map a8.rhs,true,(L.set k X).map some,([]:Fe).map (λx=>some x.2),true):=by intro _;kernel_rfl):Go F n P R base Q S ⟨sz,es⟩ L Ds:=rr (λ_=>hs) (λ_=>[]) [] (λ_ L=>L.set k X) (λ_=>c) d b
end
def nQ:Nat→List Value→Fe
 | _,[]=>[]
 | k,v::r=>(k,v)::nQ (k+1) r
theorem rv: ∀{l:List Value} {k i:Nat} {v:Value},lk (nQ k l) i=some v→k≤i∧l[i-k]? =some v
 | [],_,_,_,h=>by cases h
 | u::r,k,i,v,h=>by
  unfold nQ lk at h
  split at h
  ·rename_i c;cases h;rw[Zb c,ZK];exact⟨Zc _,rfl⟩
  ·obtain⟨d,b⟩:=rv h;refine⟨by omega,?_⟩;rw[show i-k=(i-(k+1))+1 by omega,List.getElem?_cons_succ];exact b
def kp(fn:Func):Code:=fn.body.getD .skip
section
variable {P:Program} {f:FuncId} {fn:Func} {args:Array Value} {rd:ah} {O:List Nat} {wt:ab→ah} {v:ab→Value}
def fQ(P:Program)(fn:Func)(rd:ah)(O:List Nat)(wt:ab→ah)(v:ab→Value)(cs:List aA)(w:World):Exit→Act→World→Prop:=λe b W=>
 bo rd cs→eh cs.flatten w→bodyPostM Fence.wide 6 P fn (BY O wt v cs w) e b W
theorem fE(hf:P.funcs[f]? =some fn)(h: ∀w cs,Go Fence.wide 6 P (bN cs.flatten) w (fQ P fn rd O wt v cs w) [.c (kp fn)] ⟨fn.ntmps,nQ 0 args.toList⟩ rd [])(r:Enters P f:=by exact enters_of As Kr rfl)
  (k:(fn.body.isSome,aah args.size fn.ntmps)=(true,true):=by kernel_rfl):aa P f args rd O wt v:=by
 refine⟨r,λw cs m l=>?_⟩;obtain⟨c,j⟩:=Option.isSome_iff_exists.1 (ALca (·.1) k);have u:args.size≤fn.ntmps:=ZL (ALca (·.2) k);refine(callsIn_wide (n:=6)).1 ?_;refine callsIn_of_wp_marks hf j trivial ?_ rfl;have g:=(h w cs).out {tmps:=args++Array.replicate (fn.ntmps-args.size) undef,defers:=[]} w ⟨by simp;omega,λi v t=>?_,rfl⟩ (by simpa using aH.start m l)
 ·rw[show kp fn=c by unfold kp;rw[j];rfl] at g;exact wpIn_mono (show c.wpIn Fence.wide 6 P _ _ _ from g) λe b W s=>s m l
 ·obtain⟨_,d⟩:=rv t;rw[ZA] at d;have o:i<args.toList.length:=(List.getElem?_eq_some_iff.1 d).1;have q:args[i]? =some v:=by rw[←Array.getElem?_toList];exact d
  rw[Array.getD_eq_getD_getElem?,Array.getElem?_append_left (by simpa using o),q];rfl
theorem fG(hf:P.funcs[f]? =some fn)(h: ∀w cs,Go Fence.wide 6 P (bN cs.flatten) w (fQ P fn rd O wt v cs w) [.c (kp fn)] ⟨fn.ntmps,nQ 0 args.toList⟩ rd [])(e:(fn.name== "runtime.NumGoroutine")=false:=by kernel_rfl)
  (b:(fn.body.isSome,aah args.size fn.ntmps)=(true,true):=by kernel_rfl):aa P f args rd O wt v:=by
 obtain⟨c,d⟩:=Option.isSome_iff_exists.1 (congrArg (·.1) b);exact fE hf h (enters_of hf e d) b
theorem fN{fn:Func}(hf:P.funcs[f]? =some fn)(e:(fn.name== "runtime.NumGoroutine")=false:=by kernel_rfl)(b:fn.body.isSome=true:=by kernel_rfl):Enters P f:=by
 obtain⟨c,d⟩:=Option.isSome_iff_exists.1 b;exact enters_of hf e d
theorem fO{fn:Func}(hf:P.funcs[f]? =some fn)(i:Nat){Q:aA→Prop}(d:rd[i]? =some (.p Q))(h: ∀bs,Q bs→aa P f args (rd.set i (.c bs)) O wt v)(e:(fn.name== "runtime.NumGoroutine")=false:=by kernel_rfl)(b:fn.body.isSome=true:=by kernel_rfl):aa P f args rd O wt v:=aa.ro i d h (fN hf e b)
instance {F:Fence} {n:Nat} {R:List Nat} {base:World} {Q Q0:Exit→Act→World→Prop} {S0:List It} {a':Sl} {L':ah} {Ds:List Nat} [h:Rt Q Q0]:Rt (jQ F n P R base Q S0 a' L' Ds) Q0:=⟨λb W hq=>gN (S:=S0) (h.out b W hq)⟩
def jD(P:Program)(L:ah)(e:Fe):List ResultVar→List Nat→List (RV P)
 | [],_=>[]
 | .tmp i::rs,b=> .t ((lk e i).getD undef)::jD P L e rs b
 | .cell _ T::rs,k::b=>(match L[k]? with
  | some (.c [(_,.cells cs _ _)])=>(match dF P T with
   | true=> .s (cs.toList.take (Cb P T)) k
   | false=> .c (cs.getD 0 undef) k)
  | _=> .t undef)::jD P L e rs b
 | .cell _ _::rs,[]=> .t undef::jD P L e rs []
def fF(P:Program)(L:ah)(e:Fe):List ResultVar→List (RV P)→List a8
 | [],[]=>[]
 | .tmp i::rs,.t v::vs=>sE (lk e i) (some v)::fF P L e rs vs
 | .cell p T::rs,.c v k::vs=>(match L[k]? with
  | some (.c [(g,.cells cs _ (0,0))])=>[sE (lk e p) (some (nB g 0)),sE cs[0]? (some v),sE (λw=>(isAgg T).run P w) (λw=> .ok false w)]
  | _=>[sB false])++fF P L e rs vs
 | .cell p T::rs,.s l k::vs=>(match L[k]? with
  | some (.c [(g,.cells cs _ (0,0))])=>[sE (lk e p) (some (nB g 0)),sE ((cs.toList.drop 0).take l.length) l,sB (dF P T),sE ((P.info? T).map (·.size)) (some l.length)]
  | _=>[sB false])++fF P L e rs vs
 | _,_=>[sB false]
theorem uy{a:Sl}{Ds:List Nat}{b:Act}(j:Fr a Ds b){L:ah}{M:ah}: ∀{rs:List ResultVar} {vs:List (RV P)},(∀x∈fF P L a.e rs vs,x.2.1=x.2.2)→∀x∈fB P (L) b.tmps rs vs,x.2.1=x.2.2
 | [],[],_=>λx o=>by simp [fB] at o
 | [],_::_,h=>(bE (by simpa [fF] using h)).elim
 | .tmp i::rs,[],h=>(bE (by simpa [fF] using h)).elim
 | .cell p T::rs,[],h=>(bE (by simpa [fF] using h)).elim
 | .tmp i::rs,.t v::vs,h=>by
  simp only[fF,YZ,forall_eq_or_imp,sE] at h;simp only[fB,YZ,forall_eq_or_imp,sE];exact⟨j.get i v h.1,uy (M:=M) j h.2⟩
 | .tmp i::rs,.c v k::vs,h=>(bE (by simpa only[fF] using h)).elim
 | .tmp i::rs,.s l k::vs,h=>(bE (by simpa only[fF] using h)).elim
 | .cell p T::rs,.t v::vs,h=>(bE (by simpa only[fF] using h)).elim
 | .cell p T::rs,.c v k::vs,h=>by
  simp only[fF] at h;simp only[fB]
  split at h
  ·rename_i g cs q m;simp only[Zw,YZ,YW,or_false,or_imp,forall_and,forall_eq,sE] at h;simp only[m,Zw,YZ,YW,or_false,or_imp,forall_and,forall_eq,sE];exact⟨⟨j.get p _ h.1.1,h.1.2⟩,uy (M:=M) j h.2⟩
  ·exact(bE λe d=>h e (Z9 _ d)).elim
 | .cell p T::rs,.s l k::vs,h=>by
  simp only[fF] at h;simp only[fB]
  split at h
  ·rename_i g cs q m;simp only[Zw,YZ,YW,or_false,or_imp,forall_and,forall_eq,sE,sB] at h;simp only[m,Zw,YZ,YW,or_false,or_imp,forall_and,forall_eq,sE,sB];exact⟨⟨j.get p _ h.1.1,h.1.2⟩,uy (M:=M) j h.2⟩
  ·exact(bE λe d=>h e (Z9 _ d)).elim
section
variable {a:Sl} {sz:Nat} {es:Fe} {L:ah} {S:List It} {Ds:List Nat} {cs:List aA} {w:World} {Q:Exit→Act→World→Prop}
theorem Cn{b:Act}{W:World}(j:Fr a Ds b)(e:aH (bN cs.flatten) w (L++Ds.map mk) W)(l:bo rd cs)(k:eh cs.flatten w)(vs:List (RV P))(E:ab)(g:List Nat)(c:List (Nat×Nat))(hv:nF vs=v E)
  (s:(fF P L a.e fn.results.toList vs).map a8.lhs=(fF P L a.e fn.results.toList vs).map a8.rhs)
  (hf:(dj (g++c.map (·.2)),g.map (λp=>L[p]?),c.map (λx=>L[x.2]?),c.all (λx=>nO rd[x.1]?),(Y4 rd.length).all λi=>O.contains i||c.any λx=>x.1==i)=(true,(wt E).map some,c.map (λx=>rd[x.1]?),true,true)):
  LeavesInM Fence.wide 6 P fn b.tmps (BY O wt v cs w) b.defers .returning W:=by
 obtain⟨u,m,o⟩:=e.seg;rw[j.defers];have d:=uy (M:=L) j (a8.all s);refine Bw m o vs ?_ λy e=>?_
 ·exact ZO λx t=>by
   obtain⟨T,z,A⟩:=x;have:=d _ t;simp only at this;unfold a8.lhs a8.rhs;rw[this]
 ·obtain⟨q,d,r⟩:=e.fin2 (R:=[]) l k O (wt E) g c hf;exact⟨E,q,by rw[hv],d,r⟩
def ry(S:List It):Bool:=match nf S with | .c .ret::_=>true | _=>false
theorem aq[hR:Rt Q (fQ P fn rd O wt v cs w)](u:Value)(E:ab)(q:u=v E)(g:List Nat)(c:List (Nat×Nat))(rs:List Nat)(hv:nF (jD P L es fn.results.toList rs)=u:=by kernel_rfl)
  (o:(fF P L es fn.results.toList (jD P L es fn.results.toList rs)).map a8.lhs=(fF P L es fn.results.toList (jD P L es fn.results.toList rs)).map a8.rhs:=by kernel_rfl)
  (hf:(dj (g++c.map (·.2)),g.map (λp=>L[p]?),c.map (λx=>L[x.2]?),c.all (λx=>nO rd[x.1]?),(Y4 rd.length).all λi=>O.contains i||c.any λx=>x.1==i)=(true,(wt E).map some,c.map (λx=>rd[x.1]?),true,true):=by kernel_rfl)
  (d:ry S=true:=by kernel_rfl):Go Fence.wide 6 P (bN cs.flatten) w Q S ⟨sz,es⟩ L Ds:=by
 refine⟨λb W m l=>dG 1000 S ?_⟩;unfold ry at d
 split at d
 ·rename_i r e;rw[show dm 1000 S=_ from e];exact wpIn_ret (gN (hR.out b W λk j=>Cn m l k j _ E g c (hv.trans q) o hf))
 ·cases d
theorem lf[hR:Rt Q (fQ P fn rd O wt v cs w)](E:ab)(c:List Nat)(b:List (Nat×Nat))(rs:List Nat)(hv:nF (jD P L es fn.results.toList rs)=v E:=by kernel_rfl)
 (e:(fF P L es fn.results.toList (jD P L es fn.results.toList rs)).map a8.lhs=(fF P L es fn.results.toList (jD P L es fn.results.toList rs)).map a8.rhs:=by kernel_rfl)
 (hf:(dj (c++b.map (·.2)),c.map (λp=>L[p]?),b.map (λx=>L[x.2]?),b.all (λx=>nO rd[x.1]?),(Y4 rd.length).all λi=>O.contains i||b.any λx=>x.1==i)=(true,(wt E).map some,b.map (λx=>rd[x.1]?),true,true):=by kernel_rfl)
 (d:ry S=true:=by kernel_rfl):Go Fence.wide 6 P (bN cs.flatten) w Q S ⟨sz,es⟩ L Ds:=aq (v E) E rfl c b rs hv e hf d
theorem Kh(u:Value)(E:ab)(o:u=v E)(d:List Nat)(c:List (Nat×Nat))(rs:List Nat)(hv:nF (jD P L es fn.results.toList rs)=u:=by kernel_rfl)
  (m:(fF P L es fn.results.toList (jD P L es fn.results.toList rs)).map a8.lhs=(fF P L es fn.results.toList (jD P L es fn.results.toList rs)).map a8.rhs:=by kernel_rfl)
  (hf:(dj (d++c.map (·.2)),d.map (λp=>L[p]?),c.map (λx=>L[x.2]?),c.all (λx=>nO rd[x.1]?),(Y4 rd.length).all λi=>O.contains i||c.any λx=>x.1==i)=(true,(wt E).map some,c.map (λx=>rd[x.1]?),true,true):=by kernel_rfl)
  (k:(nf S).isEmpty=true:=by kernel_rfl):Go Fence.wide 6 P (bN cs.flatten) w (fQ P fn rd O wt v cs w) S ⟨sz,es⟩ L Ds:=by
 refine⟨λb W l j=>dG 1000 S ?_⟩;rw[show dm 1000 S=[] from List.isEmpty_iff.1 k];exact λg e=>Cn l j g e _ E d c (hv.trans o) m hf
theorem eo(E:ab)(c:List Nat)(b:List (Nat×Nat))(rs:List Nat)(hv:nF (jD P L es fn.results.toList rs)=v E:=by kernel_rfl)
  (e:(fF P L es fn.results.toList (jD P L es fn.results.toList rs)).map a8.lhs=(fF P L es fn.results.toList (jD P L es fn.results.toList rs)).map a8.rhs:=by kernel_rfl)
  (hf:(dj (c++b.map (·.2)),c.map (λp=>L[p]?),b.map (λx=>L[x.2]?),b.all (λx=>nO rd[x.1]?),(Y4 rd.length).all λi=>O.contains i||b.any λx=>x.1==i)=(true,(wt E).map some,b.map (λx=>rd[x.1]?),true,true):=by kernel_rfl)
  (d:(nf S).isEmpty=true:=by kernel_rfl):Go Fence.wide 6 P (bN cs.flatten) w (fQ P fn rd O wt v cs w) S ⟨sz,es⟩ L Ds:=
 Kh (v E) E rfl c b rs hv e hf d
end
end
end
section
open Go Go.RowKit Go.Shelf
structure Kd (P:Program) (α:Type) where
 en:α→List Value
 z:List Value
 TS:TypeId
 T:TypeId
 d:α
 k:Nat
 hk: ∀y,(en y).length=k
 hz:k=z.length
 h1: ∀y,(en y).all (·.oneCell')=true
 hT:dT P TS T z
theorem Kd.one{P:Program}{α:Type}(K:Kd P α): ∀y,∀u∈K.en y,u.oneCell'=true:=λy=>List.all_eq_true.1 (K.h1 y)
theorem Kd.lz{P:Program}{α:Type}(K:Kd P α): ∀y,(K.en y).length=K.z.length:=λy=>(K.hk y).trans K.hz
section
variable {P:Program} {α:Type}
abbrev sl(K:Kd P α)(v:Value)(xs:List α):aC:= .p (ar K.en K.z K.T v xs)
theorem Kd.cell(K:Kd P α){a:α}{f:Nat}(hf:f<K.k):(K.en a)[f]? =some ((K.en a).getD f undef):=by
 have h:f<(K.en a).length:=by rw[K.hk];exact hf
 rw[Y0,Ze h];rfl
theorem Kd.part(K:Kd P α){a:α}{f n:Nat}(hf:f+n≤K.k):(((K.en a).drop f).take n).length=n∧((K.en a).drop f).take (((K.en a).drop f).take n).length=((K.en a).drop f).take n:=by
 have h:(((K.en a).drop f).take n).length=n:=by rw[Zg,ZH,K.hk];omega
 exact⟨h,by rw[h]⟩
section
variable (K:Kd P α) (v:Value) (xs:List α) (p:Nat)
def eS:cb P:= .m (Jv p (sl K v xs) λ_ h=>h)
def cy(i:Nat)(b:i<xs.length:=by omega):cb P:= .m (Jy p (sl K v xs) i K.k (λ_ h=>h) b)
def uz(off f:Nat)(b:0<xs.length:=by omega):cb P:= .m (JA p (sl K v xs) off f (λ_ h=>h) b)
def eL(i f:Nat)(b:i<xs.length:=by omega)(hf:f<K.k:=by decide):cb P:= .m (JC (d:=K.d) p (sl K v xs) i K.k f (λ_ h=>h) K.hk b hf (K.cell hf))
def pO(i f n:Nat)(b:i<xs.length:=by omega)(hf:f+n≤K.k:=by decide):cb P:= .m (JE (d:=K.d) p (sl K v xs) i K.k f (λ_ h=>h) K.hk b (by rw[(K.part hf).1];exact hf) (K.part hf).2)
def Ki(l:Nat)(b:l≤xs.length:=by omega):cb P:= .m (JW p (sl K v xs) l K.k (λ_ h=>h) b)
def rz(i:Nat)(a:α)(b:i<xs.length:=by omega):cb P:= .m (JI (T:=K.T) (v:=v) (xs:=xs) (en:=K.en) (z:=K.z) p i K.k a K.hk b)
def rA(i f:Nat)(a:α)(u:Value)(c:K.en a=(K.en (xs.getD i K.d)).set f u)(b:i<xs.length:=by omega)(hf:f<K.k:=by decide):cb P:= .m (JG (T:=K.T) (v:=v) (xs:=xs) (en:=K.en) (z:=K.z) (d:=K.d) (a:=a) (u:=u) p i K.k f K.hk b hf c)
def e7(q:Nat)(ys:List α)(b:xs.length+ys.length≤1000000:=by simp only[List.length_append,List.length_cons,List.length_nil,List.length_replicate,List.length_take,List.length_drop,List.length_set];omega):cb P:= .m (JR (xs:=xs) (ys:=ys) p q K.hT v K.one K.lz b)
end
section
variable {en:α→List Value} {v:Value} {xs:List α} {bs:aA} (h:dO en v xs bs) (p:Nat)
def eD:cb P:= .m (J1 p (.c bs) (cP h))
def fh(i k:Nat)(b:i<xs.length:=by omega):cb P:= .m (J3 p (.c bs) i k (cP h) b)
end
section
variable (K:Kd P α) {v:Value} {xs:List α} {bs:aA} (h:dO K.en v xs bs) (p:Nat)
def iU(i f:Nat)(b:i<xs.length:=by omega)(hf:f<K.k:=by decide):cb P:= .m (J5 (d:=K.d) p (.c bs) i K.k f (cP h) K.hk b hf (K.cell hf))
def m7(i f n:Nat)(b:i<xs.length:=by omega)(hf:f+n≤K.k:=by decide):cb P:= .m (J7 (d:=K.d) p (.c bs) i K.k f (cP h) K.hk b (by rw[(K.part hf).1];exact hf) (K.part hf).2)
end
def ad(a b:Nat)(h:a+b<9223372036854775808:=by omega):cb P:= .t (tb (a:=i6 a) (b:=i6 b) λ_ _ _ _=>I0 h)
def aI(a b:Int)(h0: -9223372036854775808≤a+b:=by omega)(h1:a+b≤9223372036854775807:=by omega):cb P:= .t (tb (a:=i6 a) (b:=i6 b) λ_ _ _ _=>qK h0 h1)
def sI(a b:Int)(h0: -9223372036854775808≤a-b:=by omega)(h1:a-b≤9223372036854775807:=by omega):cb P:= .t (tb (a:=i6 a) (b:=i6 b) λ_ _ _ _=>qL h0 h1)
def ml(a b:Nat)(h:a*b<9223372036854775808:=by omega):cb P:= .t (tb (a:=i6 a) (b:=i6 b) λ_ _ _ _=>IZ h)
end
section
variable {F:Fence} {n:Nat} {P:Program} {R:List Nat} {base:World} {Q:Exit→Act→World→Prop} {S:List It} {sz:Nat} {es:Fe} {L:ah} {Ds:List Nat}
theorem cz{α:Type}(K:Kd P α)(b:Go F n P R base Q S ⟨sz,es⟩ (L++[sl K (.slice none 0 0) []]) Ds):Go F n P R base Q S ⟨sz,es⟩ L Ds:=cn K.en K.z K.T b
end
end
section
open Go Go.RowKit Go.Shelf
def gB:List Nat→List Value→Fe
 | p::ps,v::vs=>gB ps vs++[(p,v)]
 | _,_=>[]
theorem rC(b:List Nat)(vs:List Value)(t:Array Value):g5 t b.toArray vs.toArray=(b.zip vs).foldl (λt x=>t.setIfInBounds x.1 x.2) t:=by
 unfold g5;rw[List.zip_toArray,List.foldl_toArray]
theorem Co(p:Nat)(b:List Nat)(v:Value)(vs:List Value)(t:Array Value):g5 t (p::b).toArray (v::vs).toArray=g5 (t.setIfInBounds p v) b.toArray vs.toArray:=by
 rw[rC,rC];rfl
theorem uA: ∀(b:List Nat) (vs:List Value) (t:Array Value) (i:Nat),b.length=vs.length→(∀p∈b,p<t.size)→
  (g5 t b.toArray vs.toArray).getD i undef=match lk (gB b vs) i with | some v=>v | none=>t.getD i undef
 | [],[],t,i,_,_=>by rw[rC];rfl
 | p::b,v::vs,t,i,k,g=>by
  rw[Co,uA b vs _ i (by simpa using k) (λq m=>by rw[Array.size_setIfInBounds];exact g q (ZM _ m))];show _=match lk (gB b vs++[(p,v)]) i with | some v=>v | none=>t.getD i undef
  rw[pN];cases lk (gB b vs) i with
  | some u=>rfl
  | none=>
   simp only;have f:=g p ZR;show _=match (match Zu p i with | true=>some v | false=>none) with | some v=>v | none=>t.getD i undef
   cases c:Zu p i with
   | true=>
    obtain rfl:=Zb c;simp [f]
   | false=>
    have d:p≠i:=λe=>by rw[e,ZJ] at c;cases c
    simp [Array.getD_eq_getD_getElem?,d]
 | [],_::_,_,_,h,_=>by simp at h
 | _::_,[],_,_,h,_=>by simp at h
theorem uB: ∀(b:List Nat) (vs:List Value) (t:Array Value),(g5 t b.toArray vs.toArray).size=t.size
 | [],_,t=>by rw[rC];rfl
 | p::b,[],t=>by rw[rC];rfl
 | p::b,v::vs,t=>by
  rw[Co,uB,Array.size_setIfInBounds]
def fV(S:List It):Operand:=match nf S with | .c (.rangeFunc g _ _ _)::_=>g | _=> .const undef
def cj(S:List It):List Nat:=match nf S with | .c (.rangeFunc _ ps _ _)::_=>ps.toList | _=>[]
def jE(S:List It):Code:=match nf S with | .c (.rangeFunc _ _ x _)::_=>x | _=> .skip
def kU(S:List It):Code:=match nf S with | .c (.rangeFunc _ _ _ y)::_=>y | _=> .skip
def m8(S:List It):Bool:=match nf S with | .c (.rangeFunc _ _ _ _)::_=>true | _=>false
theorem xO{S:List It}(h:m8 S=true):nf S= .c (.rangeFunc (fV S) (cj S).toArray (jE S) (kU S))::bS S:=by
 unfold m8 at h;unfold fV cj jE kU bS
 split at h
 ·rename_i g d x y b e;rw[e]
 ·cases h
structure Xt where
 c:Code
 i:Nat
 L:ah
section
variable {F:Fence} {n:Nat} {P:Program} {R:List Nat} {base:World} {Q:Exit→Act→World→Prop} {S:List It} {a:Sl} {sz:Nat} {es:Fe} {L:ah} {Ds:List Nat}
def oJ(F:Fence)(n:Nat)(P:Program)(R:List Nat)(base:World)(sz:Nat)(KO:aA)(Q:List Nat→World→Exit→Act→World→Prop)(c:Code):Exit→Act→World→Prop
 | .normal,b,W=>∃e,aH R base e W∧iQ KO e∧∀f d,aH f d e d→c.wpIn F n P (Q f d) b d
 | _,_,_=>False
theorem ag{KO:List aA}{e:List Nat→World→Exit→Act→World→Prop}{c:Code}(i:List Nat)(s: ∀d g,Go F n P d g (e d g) [.c c] ⟨sz,es⟩ L [])(r:i.map (λp=>L[p]?)=KO.map (λo=>some (.c o)):=by kernel_rfl)(m:(nf S).isEmpty=true:=by kernel_rfl):
  Go F n P R base (oJ F n P R base sz KO.flatten e c) S ⟨sz,es⟩ L []:=by
 refine⟨λb W q k=>dG 1000 S ?_⟩;rw[show dm 1000 S=[] from List.isEmpty_iff.1 m];exact⟨L,by simpa using k,pM i r,λd f h=>(s d f).out b f q (by simpa using h)⟩
theorem aH.left{M:ah}{W:World}(h:aH R base (L++M) W):aH R base L W:=by
 obtain⟨e,d,b⟩:=h.conc;obtain⟨f,es,rfl,c,g⟩:=nH d;rw[List.flatten_append] at b;exact aH.ofS c (b.sub (List.sublist_append_left _ _))
theorem ne{Rel:ah→Prop}{d:Code→ah→Prop}(L':ah)(i:Rel L')(c:List Nat)(e:(dj (c.map λp=>[p]).flatten,(c.map λp=>[p]).map λg=>g.map λp=>L[p]?)=(true,(L'.map λx=>[x]).map λN=>N.map some))(h:(nf S).isEmpty=true:=by kernel_rfl):Go F n P R base (lK R base Rel d) S ⟨sz,es⟩ L Ds:=by
 refine⟨λb W k f=>dG 1000 S ?_⟩;rw[show dm 1000 S=[] from List.isEmpty_iff.1 h];exact⟨L',f.left.pick c L' e,i⟩
theorem nr{Rel:ah→Prop}{f:Code→ah→Prop}(L':ah)(k:f .ret L')(d:List Nat)(h:(dj (d.map λp=>[p]).flatten,(d.map λp=>[p]).map λg=>g.map λp=>L[p]?)=(true,(L'.map λx=>[x]).map λN=>N.map some))(c:ry S=true:=by kernel_rfl):Go F n P R base (lK R base Rel f) S ⟨sz,es⟩ L Ds:=by
 refine⟨λb W o i=>dG 1000 S ?_⟩;unfold ry at c
 split at c
 ·rename_i m e;rw[show dm 1000 S=_ from e];exact wpIn_ret (gN ⟨L',i.left.pick d L' h,k⟩)
 ·cases c
def Cp(S:List It):Option Nat:=match nf S with
 | .x b::S'=>(match mo b S' with | none=>some b | some _=>none)
 | _=>none
theorem nx{Rel:ah→Prop}{f:Code→ah→Prop}(id:Nat)(L':ah)(m:f (.exit id) L')(d:List Nat)(h:(dj (d.map λp=>[p]).flatten,(d.map λp=>[p]).map λg=>g.map λp=>L[p]?)=(true,(L'.map λx=>[x]).map λN=>N.map some))(c:Cp S=some id:=by kernel_rfl):Go F n P R base (lK R base Rel f) S ⟨sz,es⟩ L Ds:=by
 refine⟨λb W q i=>dG 1000 S ?_⟩;unfold Cp at c
 split at c
 ·rename_i j o e;rw[show dm 1000 S=_ from e]
  split at c
  ·rename_i k;cases c;exact ru k ⟨L',i.left.pick d L' h,m⟩
  ·cases c
 ·cases c
theorem rf{α:Type}{gf:Nat}{lb:Array Value}{encs:α→Array Value}{xs:List α}{KO:List aA}(hit:e4 5 P gf lb encs xs KO.flatten)(eg:Enters P gf)(Rel:Nat→ah→Prop)(I:Code→Nat→ah→Prop)(s:List Nat)(h0:Rel 0 L)
  (T: ∀i L',Rel i L'→iQ KO.flatten L') (U: ∀c i L',I c i L'→iQ KO.flatten L') (B: ∀x,(encs x).size=(cj S).length)
  (f: ∀(l i:Nat) (x:α) (L':ah) (H:List Nat) (w:World),xs[i]? =some x→Rel i L'→Go (Fence.wide.inRound l) 4 P H w (oJ (Fence.wide.inRound l) 4 P H w sz KO.flatten (λM z=>lK M z (Rel (i+1)) λc=>I c (i+1)) (kU S)) [.c (jE S)] ⟨sz,gB (cj S) (encs x).toList++es⟩ L' [])
  (q: ∀(D:Nat) (L':ah),Rel xs.length L'→Go Fence.wide 6 P R base Q (bS S) ⟨sz,es⟩ L' (D::Ds))
  (r: ∀(D:Nat) (c:Code) (i:Nat) (L':ah),i<xs.length→I c (i+1) L'→Go Fence.wide 6 P R base Q (.c c::bS S) ⟨sz,es⟩ L' (D::Ds))
  (K:(m8 S,(⟨sz,es⟩:Sl).ev (fV S),(cj S).all (ZG · sz),dj (s.map λp=>[p]).flatten,(s.map λp=>[p]).map λg=>g.map λp=>L[p]?)=(true,.func (.func gf) #[] lb,true,true,((KO.map aC.c).map λx=>[x]).map λN=>N.map some):=by kernel_rfl)
  (A:(match fV S with | .tmp i=>(lk es i).isSome | _=>true)=true:=by kernel_rfl):Go Fence.wide 6 P R base Q S ⟨sz,es⟩ L Ds:=by
 have c1:=ALca (λx=>x.1) K;have c2:=ALca (λx=>x.2.1) K;have c3:=ALca (λx=>x.2.2.1) K;have c4:=ALca (λx=>x.2.2.2) K;simp only at c1 c2 c3 c4;refine⟨λb W d hO=>dG 1000 S ?_⟩;rw[show dm 1000 S=_ from xO c1];show(Code.rangeFunc (fV S) (cj S).toArray (jE S) (kU S)).wpIn Fence.wide 6 P (c6 Fence.wide 6 P Q (bS S)) b W;obtain⟨H,OC,OW⟩:=hO.seg;have hg:b.eval (fV S)= .func (.func gf) #[] lb:=by
  rw[d.ev λi Y=>by rw[Y] at A;exact A];exact c2
 have hnd:KO.flatten.Pairwise λx y=>x.1≠y.1:=by
  exact aH.ndC (Os:=KO) (R:=H) (base:=W) (W:=W) (OW.out.pick s _ c4)
 refine IM (n:=6) Om hg eg hit Rel I OW h0 T U hnd (λx=>by rw[B x];simp) ?_ ?_ ?_
 ·intro l i x L' M w hx C V;have h:=f l i x L' M w hx C;have hsz:(encs x).toList.length=(cj S).length:=by rw[Array.length_toList];exact B x
  have Z: ∀p∈cj S,p<b.tmps.size:=λp hp=>by rw[d.size];exact ZF▸List.all_eq_true.1 c3 p hp
  have X:Fr ⟨sz,gB (cj S) (encs x).toList++es⟩ [] {tmps:=g5 b.tmps (cj S).toArray (encs x),defers:=[]}:=by
   have ee:encs x=(encs x).toList.toArray:=by simp
   refine⟨?_,λi v G=>?_,rfl⟩
   ·show(g5 b.tmps (cj S).toArray (encs x)).size=sz;rw[ee,uB];exact d.size
   ·show(g5 b.tmps (cj S).toArray (encs x)).getD i undef=v;rw[ee,uA _ _ _ i hsz.symm Z];simp only[pN] at G;cases h1:lk (gB (cj S) (encs x).toList) i with
    | some u=>rw[h1] at G;cases G;rfl
    | none=>rw[h1] at G;exact d.get i v G
  refine wpIn_mono (show(jE S).wpIn (Fence.wide.inRound l) 4 P _ _ w from h.out _ w X (by simpa using V.out)) λe a' Wa hq=>?_;cases e with
  | normal=>
   obtain⟨La,q1,q2,q3⟩:=hq;exact⟨La,q1,q2,λO W3 h3=>q3 O W3 h3.out⟩
  | _=>exact hq
 ·intro D L' z C o;obtain⟨O,k,m⟩:=jx.markE OC.out o.out;exact(q D L' C).out _ z ⟨d.size,d.get,by show jS D::b.defers=_;rw[d.defers];rfl⟩ (k.out.whole m.out)
 ·intro D c i L' z Y C o;obtain⟨O,k,m⟩:=jx.markE OC.out o.out;exact(r D c i L' Y C).out _ z ⟨d.size,d.get,by show jS D::b.defers=_;rw[d.defers];rfl⟩ (k.out.whole m.out)
theorem Kj{α:Type}{gf:Nat}{lb:Array Value}{encs:α→Array Value}{xs:List α}{KO:List aA}{XO:aA}(hit:pF 5 P gf lb encs xs KO.flatten XO)(eg:Enters P gf)(Rel:Nat→ah→Prop)(I:Code→Nat→ah→Prop)(LG:ah)(qs s:List Nat)(M:(dj (qs.map λp=>[p]).flatten,(qs.map λp=>[p]).map λg=>g.map λp=>L[p]?)=(true,((LG++[aC.c XO]).map λx=>[x]).map λN=>N.map some))(h0:Rel 0 LG)
  (U: ∀i L',Rel i L'→iQ KO.flatten L') (V: ∀c i L',I c i L'→iQ KO.flatten L') (B: ∀x,(encs x).size=(cj S).length)
  (f: ∀(l i:Nat) (x:α) (L':ah) (H:List Nat) (w:World),xs[i]? =some x→Rel i L'→Go (Fence.wide.inRound l) 4 P H w (oJ (Fence.wide.inRound l) 4 P H w sz KO.flatten (λO z=>lK O z (Rel (i+1)) λc=>I c (i+1)) (kU S)) [.c (jE S)] ⟨sz,gB (cj S) (encs x).toList++es⟩ L' [])
  (q: ∀(D:Nat) (L':ah),Rel xs.length L'→Go Fence.wide 6 P R base Q (bS S) ⟨sz,es⟩ L' (D::Ds))
  (r: ∀(D:Nat) (c:Code) (i:Nat) (L':ah),i<xs.length→I c (i+1) L'→Go Fence.wide 6 P R base Q (.c c::bS S) ⟨sz,es⟩ L' (D::Ds))
  (K:(m8 S,(⟨sz,es⟩:Sl).ev (fV S),(cj S).all (ZG · sz),dj (s.map λp=>[p]).flatten,(s.map λp=>[p]).map λg=>g.map λp=>L[p]?)=(true,.func (.func gf) #[] lb,true,true,(((KO++[XO]).map aC.c).map λx=>[x]).map λN=>N.map some):=by kernel_rfl)
  (A:(match fV S with | .tmp i=>(lk es i).isSome | _=>true)=true:=by kernel_rfl):Go Fence.wide 6 P R base Q S ⟨sz,es⟩ L Ds:=by
 have c1:=ALca (λx=>x.1) K;have c2:=ALca (λx=>x.2.1) K;have c3:=ALca (λx=>x.2.2.1) K;have c4:=ALca (λx=>x.2.2.2) K;simp only at c1 c2 c3 c4;refine⟨λb W d hO=>dG 1000 S ?_⟩;rw[show dm 1000 S=_ from xO c1];show(Code.rangeFunc (fV S) (cj S).toArray (jE S) (kU S)).wpIn Fence.wide 6 P (c6 Fence.wide 6 P Q (bS S)) b W;obtain⟨H,OC,OW⟩:=hO.seg;have hg:b.eval (fV S)= .func (.func gf) #[] lb:=by
  rw[d.ev λi Z=>by rw[Z] at A;exact A];exact c2
 have hnd:(KO.flatten++XO).Pairwise λx y=>x.1≠y.1:=by
  have h9:=aH.ndC (Os:=KO++[XO]) (R:=H) (base:=W) (W:=W) (OW.out.pick s _ c4);simpa using h9
 refine BA (n:=6) Om hg eg hit Rel I (Lib.hid (OW.out.pick qs _ M)) h0 U V hnd (λx=>by rw[B x];simp) ?_ ?_ ?_
 ·intro l i x L' O w hx C X;have h:=f l i x L' O w hx C;have hsz:(encs x).toList.length=(cj S).length:=by rw[Array.length_toList];exact B x
  have hlt: ∀p∈cj S,p<b.tmps.size:=λp hp=>by rw[d.size];exact ZF▸List.all_eq_true.1 c3 p hp
  have Y:Fr ⟨sz,gB (cj S) (encs x).toList++es⟩ [] {tmps:=g5 b.tmps (cj S).toArray (encs x),defers:=[]}:=by
   have ee:encs x=(encs x).toList.toArray:=by simp
   refine⟨?_,λi v G=>?_,rfl⟩
   ·show(g5 b.tmps (cj S).toArray (encs x)).size=sz;rw[ee,uB];exact d.size
   ·show(g5 b.tmps (cj S).toArray (encs x)).getD i undef=v;rw[ee,uA _ _ _ i hsz.symm hlt];simp only[pN] at G;cases h1:lk (gB (cj S) (encs x).toList) i with
    | some u=>rw[h1] at G;cases G;rfl
    | none=>rw[h1] at G;exact d.get i v G
  refine wpIn_mono (show(jE S).wpIn (Fence.wide.inRound l) 4 P _ _ w from h.out _ w Y (by simpa using X.out)) λe a' Wa M=>?_;cases e with
  | normal=>
   obtain⟨La,q1,q2,q3⟩:=M;exact⟨La,q1,q2,λT W3 h3=>q3 T W3 h3.out⟩
  | _=>exact M
 ·intro D L' z C o;obtain⟨T,k,m⟩:=jx.markE OC.out o.out;exact(q D L' C).out _ z ⟨d.size,d.get,by show jS D::b.defers=_;rw[d.defers];rfl⟩ (k.out.whole m.out)
 ·intro D c i L' z Z C o;obtain⟨T,k,m⟩:=jx.markE OC.out o.out;exact(r D c i L' Z C).out _ z ⟨d.size,d.get,by show jS D::b.defers=_;rw[d.defers];rfl⟩ (k.out.whole m.out)
theorem nR{α:Type}{gf:Nat}{lb:Array Value}{encs:α→Array Value}{xs:List α}{KO:List aA}(hit:e4 5 P gf lb encs xs KO.flatten)(w:Enters P gf)(I:Nat→Prop)(f:Nat→ah→ah)(b:List Nat)(h0:I 0)(z:L=f 0 L)
  (d: ∀(l i:Nat) (x:α) (k:List Nat) (m:World),xs[i]? =some x→I i→Go (Fence.wide.inRound l) 4 P k m (oJ (Fence.wide.inRound l) 4 P k m sz KO.flatten (λu v=>lK u v (λL'=>I (i+1)∧L'=f (i+1) L) λ_ _=>False) (kU S)) [.c (jE S)] ⟨sz,gB (cj S) (encs x).toList++es⟩ (f i L) [])
  (e: ∀(D:Nat),I xs.length→Go Fence.wide 6 P R base Q (bS S) ⟨sz,es⟩ (f xs.length L) (D::Ds))
  (y: ∀i,b.map (λp=>(f i L)[p]?)=KO.map λo=>some (.c o):=by intros;kernel_rfl) (s: ∀x,(encs x).size=(cj S).length:=by intro _;kernel_rfl)
  (A:(m8 S,(⟨sz,es⟩:Sl).ev (fV S),(cj S).all (ZG · sz),dj (b.map λp=>[p]).flatten,(b.map λp=>[p]).map λg=>g.map λp=>L[p]?)=(true,.func (.func gf) #[] lb,true,true,((KO.map aC.c).map λx=>[x]).map λN=>N.map some):=by kernel_rfl)
  (r:(match fV S with | .tmp i=>(lk es i).isSome | _=>true)=true:=by kernel_rfl):Go Fence.wide 6 P R base Q S ⟨sz,es⟩ L Ds:=by
 refine rf hit w (λi L'=>I i∧L'=f i L) (λ_ _ _=>False) b ⟨h0,z⟩ (λi L' h=>?_) (λ_ _ _ h=>h.elim) s (λl i x L' k m B h=>?_) (λD L' h=>?_) (λ_ _ _ _ _ h=>h.elim) A r
 ·obtain⟨q,rfl⟩:=h;exact pM b (y i)
 ·obtain⟨q,rfl⟩:=h;exact d l i x k m B q
 ·obtain⟨q,rfl⟩:=h;exact e D q
theorem Cq{α:Type}{gf:Nat}{lb:Array Value}{encs:α→Array Value}{xs:List α}{KO:List aA}{XO:aA}(hit:pF 5 P gf lb encs xs KO.flatten XO)(z:Enters P gf)(I:Nat→Prop)(f:Nat→ah→ah)(b:ah)(qs v k:List Nat)(h0:I 0)(B:b=f 0 b)
  (d: ∀(l i:Nat) (x:α) (m:List Nat) (q:World),xs[i]? =some x→I i→Go (Fence.wide.inRound l) 4 P m q (oJ (Fence.wide.inRound l) 4 P m q sz KO.flatten (λw y=>lK w y (λL'=>I (i+1)∧L'=f (i+1) b) λ_ _=>False) (kU S)) [.c (jE S)] ⟨sz,gB (cj S) (encs x).toList++es⟩ (f i b) [])
  (e: ∀(D:Nat),I xs.length→Go Fence.wide 6 P R base Q (bS S) ⟨sz,es⟩ (f xs.length b) (D::Ds))
  (A: ∀i,k.map (λp=>(f i b)[p]?)=KO.map λo=>some (.c o):=by intros;kernel_rfl) (u: ∀x,(encs x).size=(cj S).length:=by intro _;kernel_rfl)
  (C:(m8 S,(⟨sz,es⟩:Sl).ev (fV S),(cj S).all (ZG · sz),dj (v.map λp=>[p]).flatten,(v.map λp=>[p]).map λg=>g.map λp=>L[p]?)=(true,.func (.func gf) #[] lb,true,true,(((KO++[XO]).map aC.c).map λx=>[x]).map λN=>N.map some):=by kernel_rfl)
  (G:(dj (qs.map λp=>[p]).flatten,(qs.map λp=>[p]).map λg=>g.map λp=>L[p]?)=(true,((b++[aC.c XO]).map λx=>[x]).map λN=>N.map some):=by kernel_rfl)
  (s:(match fV S with | .tmp i=>(lk es i).isSome | _=>true)=true:=by kernel_rfl):Go Fence.wide 6 P R base Q S ⟨sz,es⟩ L Ds:=by
 refine Kj hit z (λi L'=>I i∧L'=f i b) (λ_ _ _=>False) b qs v G ⟨h0,B⟩ (λi L' h=>?_) (λ_ _ _ h=>h.elim) u (λl i x L' m q H h=>?_) (λD L' h=>?_) (λ_ _ _ _ _ h=>h.elim) C s
 ·obtain⟨r,rfl⟩:=h;exact pM k (A i)
 ·obtain⟨r,rfl⟩:=h;exact d l i x m q H r
 ·obtain⟨r,rfl⟩:=h;exact e D r
theorem Cr{α:Type}{gf:Nat}{lb:Array Value}{encs:α→Array Value}{xs:List α}{KO:List aA}(hit:e4 5 P gf lb encs xs KO.flatten)(z:Enters P gf)(I:Nat→Value→Prop)(f:Nat→Value→ah→ah)(b:List Nat)(v:Value)(h0:I 0 v)(B:L=f 0 v L)
  (d: ∀(l i:Nat) (u:Value) (x:α) (k:List Nat) (m:World),xs[i]? =some x→I i u→Go (Fence.wide.inRound l) 4 P k m (oJ (Fence.wide.inRound l) 4 P k m sz KO.flatten (λw y=>lK w y (λL'=>∃u:Value,I (i+1) u∧L'=f (i+1) u L) λ_ _=>False) (kU S)) [.c (jE S)] ⟨sz,gB (cj S) (encs x).toList++es⟩ (f i u L) [])
  (e: ∀(D:Nat) (u:Value),I xs.length u→Go Fence.wide 6 P R base Q (bS S) ⟨sz,es⟩ (f xs.length u L) (D::Ds))
  (A: ∀i (u:Value),b.map (λp=>(f i u L)[p]?)=KO.map λo=>some (.c o):=by intros;kernel_rfl) (s: ∀x,(encs x).size=(cj S).length:=by intro _;kernel_rfl)
  (C:(m8 S,(⟨sz,es⟩:Sl).ev (fV S),(cj S).all (ZG · sz),dj (b.map λp=>[p]).flatten,(b.map λp=>[p]).map λg=>g.map λp=>L[p]?)=(true,.func (.func gf) #[] lb,true,true,((KO.map aC.c).map λx=>[x]).map λN=>N.map some):=by kernel_rfl)
  (r:(match fV S with | .tmp i=>(lk es i).isSome | _=>true)=true:=by kernel_rfl):Go Fence.wide 6 P R base Q S ⟨sz,es⟩ L Ds:=by
 refine rf hit z (λi L'=>∃u:Value,I i u∧L'=f i u L) (λ_ _ _=>False) b ⟨v,h0,B⟩ (λi L' h=>?_) (λ_ _ _ h=>h.elim) s (λl i x L' k m G h=>?_) (λD L' h=>?_) (λ_ _ _ _ _ h=>h.elim) C r
 ·obtain⟨u,q,rfl⟩:=h;exact pM b (A i u)
 ·obtain⟨u,q,rfl⟩:=h;exact d l i u x k m G q
 ·obtain⟨u,q,rfl⟩:=h;exact e D u q
theorem Cs{α:Type}{gf:Nat}{lb:Array Value}{encs:α→Array Value}{xs:List α}{KO:List aA}(hit:e4 5 P gf lb encs xs KO.flatten)(A:Enters P gf)(I:Nat→Prop)(m:Nat→ah→ah)(X:Code→Nat→Prop)(q:Code→Nat→ah→ah)(b:List Nat)(h0:I 0)(C:L=m 0 L)
  (d: ∀(l i:Nat) (x:α) (r:List Nat) (s:World),xs[i]? =some x→I i→Go (Fence.wide.inRound l) 4 P r s (oJ (Fence.wide.inRound l) 4 P r s sz KO.flatten (λy z=>lK y z (λL'=>I (i+1)∧L'=m (i+1) L) (λc L'=>X c (i+1)∧L'=q c (i+1) L)) (kU S)) [.c (jE S)] ⟨sz,gB (cj S) (encs x).toList++es⟩ (m i L) [])
  (f: ∀(D:Nat),I xs.length→Go Fence.wide 6 P R base Q (bS S) ⟨sz,es⟩ (m xs.length L) (D::Ds))
  (k: ∀(D:Nat) (c:Code) (i:Nat),i<xs.length→X c (i+1)→Go Fence.wide 6 P R base Q (.c c::bS S) ⟨sz,es⟩ (q c (i+1) L) (D::Ds))
  (B: ∀i,b.map (λp=>(m i L)[p]?)=KO.map λo=>some (.c o):=by intros;kernel_rfl) (u: ∀c i,X c i→b.map (λp=>(q c i L)[p]?)=KO.map λo=>some (.c o):=by intros;kernel_rfl) (w: ∀x,(encs x).size=(cj S).length:=by intro _;kernel_rfl)
  (G:(m8 S,(⟨sz,es⟩:Sl).ev (fV S),(cj S).all (ZG · sz),dj (b.map λp=>[p]).flatten,(b.map λp=>[p]).map λg=>g.map λp=>L[p]?)=(true,.func (.func gf) #[] lb,true,true,((KO.map aC.c).map λx=>[x]).map λN=>N.map some):=by kernel_rfl)
  (v:(match fV S with | .tmp i=>(lk es i).isSome | _=>true)=true:=by kernel_rfl):Go Fence.wide 6 P R base Q S ⟨sz,es⟩ L Ds:=by
 refine rf hit A (λi L'=>I i∧L'=m i L) (λc i L'=>X c i∧L'=q c i L) b ⟨h0,C⟩ (λi L' h=>?_) (λc i L' h=>?_) w (λl i x L' r s K h=>?_) (λD L' h=>?_) (λD c i L' H h=>?_) G v
 ·obtain⟨e,rfl⟩:=h;exact pM b (B i)
 ·obtain⟨e,rfl⟩:=h;exact pM b (u c i e)
 ·obtain⟨e,rfl⟩:=h;exact d l i x r s K e
 ·obtain⟨e,rfl⟩:=h;exact f D e
 ·obtain⟨e,rfl⟩:=h;exact k D c i H e
end
end
section
open Go Go.RowKit Go.Shelf
def xP(k:Nat)(L:List Oper):Bool:=L.all λo=>match o.guard with | none=>true | some (j,_)=>ZG j k
section
variable {F:Fence} {n:Nat} {P:Program} {L:List Oper} {Q:Exit→Act→World→Prop} {a:Act} {t:dN} {R:List Nat} {base:World}
theorem Cu{LL:List Oper}{k:Nat}{o:Oper}{c:Array Value}(h:match o.guard with | none=>true=true | some (j,_)=>ZG j k=true):Region.wanted o (yielded LL.toArray c)=Region.wanted o (yielded (LL.take k).toArray c):=by
 unfold Region.wanted;cases e:o.guard with
 | none=>rfl
 | some f=>
  obtain⟨j,b⟩:=f;rw[e] at h;have d:j<k:=ZF▸h;have:yielded LL.toArray c j=yielded (LL.take k).toArray c j:=by
   unfold yielded;rw[Zh,Zh,List.getElem?_take,ALifp d]
  simp only[this]
theorem Cv{LL:List Oper}{N:Nat}(B:LL.take N=L)(m:xP N L=true)(h:ju F n P L Q a t)(A:Fence.free F)(r:mc L=true)(s: ∀k,k<L.length→∀j∈t.D k,j<k)
  (g: ∀xs w',gu L a t R base (λ_=>true) xs w'→wpListIn F n P LL.toArray Q (LL.drop N) (bn xs L 0 a) w'):
  ∀(d k:Nat) (xs:Nat→Value) (w':World),k+d=L.length→gu L a t R base (λi=>decide (i<k)) xs w'→wpListIn F n P LL.toArray Q (L.drop k++LL.drop N) (bn xs L 0 a) w'
 | 0,k,xs,w',D,u=>by
  obtain rfl:k=L.length:=by omega
  rw[List.drop_length,ZI];exact g xs w' (u.congr (λi x=>by simpa using x) (λ_ _=>rfl))
 | d+1,k,xs,w',D,u=>by
  have b:k<L.length:=by omega
  rw[Z1 b,aap];have q:L[k]? =some L[k]:=Ze b;have c:=tz h (S:=λi=>decide (i<k)) (xs:=xs) (w':=w') (k:=k) (o:=L[k]) b q (by simp) (λj p=>⟨by have:=s k b j p;omega,by simpa using s k b j p⟩)
   (λi x G j p=>by
    have H:=s i x j p;have I:i<k:=by simpa using G
    exact⟨by omega,by simp;omega⟩) u
   (λv f=>wpListIn F n P LL.toArray Q (L.drop (k+1)++LL.drop N) ((bn xs L 0 a).put L[k].dst v) f) (λv f w=>by
    rw[qH v _ 0 a k _ r q,Zf];refine Cv B m h A r s g d (k+1) _ f Om (w.congr (λj p=>?_) (λ_ _=>rfl));show(if j=k then true else decide (j<k))=decide (j<k+1);by_cases e:j=k
    ·subst e;simp
    ·rw[ALifn e,decide_eq_decide];omega) A
  have z:Region.wanted L[k] (yielded LL.toArray (bn xs L 0 a).tmps)=Region.wanted L[k] (yielded L.toArray (bn xs L 0 a).tmps):=by
   rw[Cu (k:=N),B];have:=List.all_eq_true.1 m L[k] (aaq b);revert this;cases L[k].guard with
   | none=>exact λh=>h
   | some K=>exact λh=>h
  unfold wpListIn;rw[z]
  split
  ·rename_i y;rw[ALifp y] at c;exact Oper.wpIn_mono (λC f ⟨v,e,h⟩=>by rw[e];exact h) c
  ·rename_i y;rw[ALifn y] at c;exact c
theorem Cw{LL:List Oper}{N:Nat}(T:LL.take N=L)(G:xP N L=true)(U:N<LL.length)(hs:Region.sinkB .any LL.toArray N=true)(h:ju F n P L Q a t)(hF:Fence.free F)(hc:Region.chainB .any LL.toArray N=true)(hb:mU .any LL.toArray N=true)(V:mU .any LL.toArray 0=true)(hsl:mc L=true)(hD:ts .any LL.toArray N t.D=true)
  (C: ∀xs w',gu L a t R base (λ_=>true) xs w'→wpListIn F n P LL.toArray Q (LL.drop N) (bn xs L 0 a) w'):
  ∀(c g:Nat) (b:Array Bool) (xs:Nat→Value) (w':World),gJ b N=c→c+(LL.length-N)≤g→HeadInv .any LL.toArray N b→
   (∀i,i<N→b.getD i false=true→∀j∈t.D i,b.getD j false=true)→gu L a t R base (λi=>b.getD i false) xs w'→wpAnyIn F n P .any LL.toArray Q g b (bn xs L 0 a) w'
 | 0,g,b,xs,w',w,hf,p,hk,hI=>by
  have hN:L.length=N:=by rw[←T,Zg];omega
  have m:=w4 N w;have u: ∀i,i<N→b.getD i false=true:=by
   intro i x;have q:i<b.size:=by rw[p.size,Y5];omega
   have:=m i x;simp [q] at this⊢;exact this
  exact w0 hc hb (LL.length-N) N g b _ w' (by rw[Y5];omega) (Zc _) Om p.size m u p.tail (by simpa using C xs w' (hI.congr (λi x=>u i Om) (λ_ _=>rfl)))
 | c+1,g,b,xs,w',w,hf,p,hk,hI=>by
  have hN:L.length=N:=by rw[←T,Zg];omega
  obtain⟨f,rfl⟩: ∃f,g=f+1:=⟨g-1,by omega⟩;have hun: ∃i,i<N∧b.getD i true=false:=by
   apply Zi;intro hno;have m: ∀i,i<N→b.getD i true=true:=λi x=>by
    cases I:b.getD i true with
    | true=>rfl
    | false=>exact(hno ⟨i,x,I⟩).elim
   have: ∀k,k≤N→gJ b k=0:=by
    intro k
    induction k with
    | zero=>intro _;rfl
    | succ k ih=>intro h;unfold gJ;rw[ih Om,m k Om];rfl
   rw[this N (Zc _)] at w;omega
  obtain⟨i0,W,hu0⟩:=hun;have some:Region.ready .any LL.toArray b=[]→∀d i,i=d→i<N→b.getD i true=true:=by
   intro y d
   induction d using aay with
   | _ d ih=>
    rintro i rfl x;cases I:b.getD i true with
    | true=>rfl
    | false=>
     exfalso;have D:i<LL.toArray.size:=by rw[Y5];omega
     have Z:LL.toArray[i]? =some LL.toArray[i]:=Array.getElem?_eq_getElem D;have hB:=List.all_eq_true.1 V i (List.mem_range.2 D);rw[Z] at hB;simp only[ZY,decide_eq_true_eq,Zd,ZV,aaz,false_or] at hB;have:i∈Region.ready .any LL.toArray b:=mem_ready.2 ⟨I,_,Z,λe he hbd=>by
      have q:=Array.all_eq_true'.1 hB e he;rw[hbd] at q;have h3:e.on<i:=by simpa using q
      have M:=ih e.on h3 e.on rfl Om;have h5:e.on<b.size:=by rw[p.size,Y5];omega
      rw[Array.getD_eq_getD_getElem?,Array.getElem?_eq_getElem h5] at M⊢;exact M⟩
     rw[y] at this;cases this
  refine⟨λy=>(by have:=some y i0 i0 rfl W;rw[hu0] at this;cases this),λi x=>?_⟩;have z:i<N:=by
   rcases Zj i N with s | s
   ·exact s
   ·exact(tail_waits hs hc (by rw[Y5];exact U) p _ i0 rfl W hu0 i s x).elim
  obtain⟨I,o,ho,m⟩:=mem_ready.1 x;have K:L[i]? =Option.some o:=by rw[←T,Z2 z,←Zh];exact ho
  have H: ∀j∈t.D i,j<N∧b.getD j false=true:=by
   intro j r;have s:=List.all_eq_true.1 (List.all_eq_true.1 hD i (List.mem_range.2 z)) j r;rw[ho] at s;simp only[Zd,ZV,Y2,decide_eq_true_eq] at s;refine⟨s.1,?_⟩;obtain⟨e,he,q⟩:=Array.any_eq_true'.1 s.2;simp only[Y2,ZY,beq_iff_eq,decide_eq_true_eq] at q;have h3:=m e he q.1;rcases q.2 with M | ⟨M,h5⟩
   ·rw[←M];exact h3
   ·exact hk e.on M h3 j (by simpa using h5)
  have O: ∀i,i<N→∀j∈t.D i,j<N:=by
   intro i x j r;have s:=List.all_eq_true.1 (List.all_eq_true.1 hD i (List.mem_range.2 x)) j r;simp only[Y2,decide_eq_true_eq] at s;exact s.1
  have hSi:b.getD i false=false:=by
   have q:i<b.size:=by rw[p.size,Y5];omega
   simp [q] at I⊢;exact I
  have A:=tz h (S:=λi=>b.getD i false) (xs:=xs) (w':=w') (k:=i) (o:=o) Om K hSi (λj r=>⟨by have:=(H j r).1;omega,(H j r).2⟩) (λi' hi' hs j r=>⟨by have:=O i' Om j r;omega,hk i' Om hs j r⟩) hI
   (λv B=>wpAnyIn F n P .any LL.toArray Q f (b.setIfInBounds i true) ((bn xs L 0 a).put o.dst v) B) (λv B hI2=>by
    rw[qH v _ 0 a i o hsl K,Zf];refine Cw T G U hs h hF hc hb V hsl hD C c f _ _ B (by have:=w3 I N z;omega) Om (p.set x z) ?_ (hI2.congr (λj r=>?_) (λ_ _=>rfl))
    ·intro j r Y j' X;by_cases e:j=i
     ·subst e;exact getD_set_true (H j' X).2
     ·rw[getD_set_ne false (Ne.symm e)] at Y;exact getD_set_true (hk j r Y j' X)
    ·show(if j=i then true else b.getD j false)=_;by_cases e:j=i
     ·subst e;have q:j<b.size:=by rw[p.size,Y5];omega
      simp [q]
     ·rw[ALifn e,getD_set_ne false (Ne.symm e)]) hF
  have hwa:Region.wanted o (yielded LL.toArray (bn xs L 0 a).tmps)=Region.wanted o (yielded L.toArray (bn xs L 0 a).tmps):=by
   rw[Cu (k:=N),T];have:=List.all_eq_true.1 G o (Z8 K);revert this;cases o.guard with
   | none=>exact λh=>h
   | some jb=>exact λh=>h
  unfold wpOpIn;simp only[ho];rw[hwa]
  split
  ·rename_i hw;rw[ALifp hw] at A;exact Oper.wpIn_mono (λa'' B ⟨v,e,h⟩=>by rw[e];exact h) A
  ·rename_i hw;rw[ALifn hw] at A;exact A
def uC(d:Bool)(LL:List Oper)(N:Nat)(D:Nat→List Nat):Bool:=xP N (LL.take N)&&(if d then(Region.sinkB .any LL.toArray N&&decide (N<LL.length))&&Region.chainB .any LL.toArray N&&mU .any LL.toArray N&&mU .any LL.toArray 0&&mc (LL.take N)&&ts .any LL.toArray N D else mh false (LL.take N) D)
theorem Kk{w:World}(I:Hid (aH R base t.L0 w))(Le:bD→ah)(r: ∀η,(Y4 t.m).map (λp=>t.at η p L.length)=(Le η).map some):
  (∀xs w',gu L a t R base (λ_=>true) xs w'→∃η,(∀i,i<L.length→t.Is η i (xs i))∧aH R base (Le η) w')∧gu L a t R base (λ_=>false) (jR L a) w∧bn (jR L a) L 0 a=a:=by
 refine⟨?_,?_,w2 _ 0 a λi o d T K=>by
  unfold jR;rw[Zf,T,aai,K]⟩
 ·intro xs w' ⟨η,c,f,_,s⟩;refine⟨η,λi M=>f i M rfl,?_⟩;have O:(Le η).length=t.m:=by
   have:=ALca aaF (r η);simpa using this.symm
  have B: ∀p,p<t.m→t.at η p L.length=(Le η)[p]? :=by
   intro p U;have:=ALca (λl=>l[p]?) (r η);simp only[ZD,ZP U,Zd] at this;cases G:(Le η)[p]? with
   | none=>rw[G] at this;cases this
   | some x=>rw[G] at this;simpa using this
  exact⟨c,by rw[O];exact s.congr B⟩
 ·have C: ∀(H:Nat→Wr) (p N:Nat),db t.L0 H (λ_=>false) p N=t.L0[p]? :=by
   intro H p N
   induction N with
   | zero=>rfl
   | succ N ih=>rw[tu (.inl rfl),ih]
  obtain⟨c,m⟩:=I.out;refine⟨λ_=>ab.zero,λp=>if p<t.L0.length then c p else[],λi _ V=>absurd V Bool.false_ne_true,λ_ _ _=>rfl,?_⟩;have e:(λp=>db t.L0 (t.wr λ_=>ab.zero) (λ_=>false) p L.length)=λp=>t.L0[p]? :=by funext p;exact C _ _ _
  rw[e];have g: ∀p,((p<t.L0.length)∧(if p<t.L0.length then c p else[])=c p)∨(¬p<t.L0.length∧(if p<t.L0.length then c p else[])=[]):=λp=>by
   by_cases h:p<t.L0.length
   ·exact .inl ⟨h,ALifp h⟩
   ·exact .inr ⟨h,ALifn h⟩
  refine⟨λp _ x y=>?_,λp _ y=>?_,λp _ z k=>?_,λp _=>?_,λp q _ _ D z k u v=>?_,λp _ z k=>?_,m.os,m.tape,m.output,m.size,m.far⟩
  ·rcases g p with⟨f,b⟩ | ⟨f,b⟩
   ·rw[b];exact m.sat p f x y
   ·exact absurd (List.getElem?_eq_some_iff.1 y).1 f
  ·rcases g p with⟨f,b⟩ | ⟨f,b⟩
   ·rw[b];exact m.nil p f y
   ·exact b
  ·rcases g p with⟨f,b⟩ | ⟨f,b⟩
   ·rw[b] at k;exact m.obj p f z k
   ·rw[b] at k;simp at k
  ·rcases g p with⟨f,b⟩ | ⟨f,b⟩
   ·rw[b];exact m.inn p f
   ·rw[b];exact List.Pairwise.nil
  ·rcases g p with⟨f,b⟩ | ⟨f,b⟩
   ·rw[b] at k;rcases g q with⟨s,A⟩ | ⟨s,A⟩
    ·rw[A] at v;exact m.nd p q f s D z k u v
    ·rw[A] at v;simp at v
   ·rw[b] at k;simp at k
  ·rcases g p with⟨f,b⟩ | ⟨f,b⟩
   ·rw[b] at k;exact m.lo p f z k
   ·rw[b] at k;simp at k
end
end
section
open Go Go.RowKit Go.Shelf
section
variable {F:Fence} {n:Nat} {P:Program} {R:List Nat} {base:World} {Q:Exit→Act→World→Prop} {S:List It} {sz:Nat} {es:Fe} {L:ah} {Ds:List Nat}
def nS(N:Nat)(S:List It)(a:Sl)(b:ah)(hs:bD→List (Nat×cb P))(η:bD):List (b4 P):=rq ((ay S).take N) a (jw (eR S) ((ay S).take N)) η ((ay S).take N) (hs η) 0 [] (λp=>b[p]?) b.length
def tP(N:Nat)(S:List It)(a:Sl)(b:ah)(m:Nat)(hs:bD→List (Nat×cb P)):dN:=tB ((ay S).take N) a (jw (eR S) ((ay S).take N)) (qP ((ay S).take N) []) b m (nS N S a b hs)
theorem Cx[hF:ki F](hm:P.follows .mixedOrders=true)(N:Nat)(hs:bD→List (Nat×cb P))(z:bD→Fe)(dr:List Nat)(Le:bD→ah→ah)
  (G: ∀η b W,Fr ⟨sz,z η++ek dr es⟩ Ds b→aH R base (Le η L++Ds.map mk) W→wpListIn F n P (ay S).toArray (c6 F n P Q (bS S)) ((ay S).drop N) b W)
  (m: ∀η,((lP S,true),(ff ((ay S).take N) ⟨sz,es⟩ (tP N S ⟨sz,es⟩ L (mR Le L) hs) η 0 ((ay S).take N) (nS N S ⟨sz,es⟩ L hs η)).map a8.lhs,uC (eR S) (ay S) N (λk=>(jw (eR S) ((ay S).take N)).getD k []),(Y4 (mR Le L)).map (λp=>(tP N S ⟨sz,es⟩ L (mR Le L) hs).at η p ((ay S).take N).length),(z η).map (λx=>kQ ((ay S).take N) ⟨sz,es⟩ (tP N S ⟨sz,es⟩ L (mR Le L) hs) η x.1),mq ((ay S).take N) es (z η) dr)=
   ((true,true),(ff ((ay S).take N) ⟨sz,es⟩ (tP N S ⟨sz,es⟩ L (mR Le L) hs) η 0 ((ay S).take N) (nS N S ⟨sz,es⟩ L hs η)).map a8.rhs,true,(Le η L).map some,(z η).map (λx=>some x.2),true)):Go F n P R base Q S ⟨sz,es⟩ L Ds:=by
 have K:=ALca (λx=>x.1.1) (m λ_=>ab.zero);have o:=λη=>ALca (λx=>x.2.1) (m η);have f:=ALca (λx=>x.2.2.1) (m λ_=>ab.zero);have q:=λη=>ALca (λx=>x.2.2.2.1) (m η);have r:=λη=>ALca (λx=>x.2.2.2.2.1) (m η);have B:=λη=>ALca (λx=>x.2.2.2.2.2) (m η);simp only at K o f q r B;obtain⟨id,d,Z,hd⟩:=Cj K;subst hd;refine⟨λb W M Y=>dG 1000 S ?_⟩;rw[show dm 1000 S=_ from Z];show(Code.region id (ay S).toArray (eR S)).wpIn F n P (c6 F n P Q (bS S)) b W;obtain⟨I,U,V⟩:=Y.seg;obtain⟨c,y⟩: ∃c,(ay S).take N=c:=⟨_,rfl⟩;unfold tP nS at o q r;unfold uC at f;obtain⟨d,D⟩: ∃d,eR S=d:=⟨_,rfl⟩;rw[y] at o f q r B;rw[D] at o f q r⊢;rw[Y2] at f;have u:=Bo (F:=F) (n:=n) (Q:=c6 F n P Q (bS S)) M o;obtain⟨s1,O,T⟩:=Kk (a:=b) (t:=tB c ⟨sz,es⟩ (jw d c) (qP c []) L (mR Le L) _) (R:=I) (base:=W) V (λη=>Le η L) q;have g: ∀xs A,gu c b (tB c ⟨sz,es⟩ (jw d c) (qP c []) L (mR Le L) _) I W (λ_=>true) xs A→wpListIn F n P (ay S).toArray (c6 F n P Q (bS S)) ((ay S).drop N) (bn xs c 0 b) A:=λxs A X=>by
  obtain⟨η,hx,C⟩:=s1 xs A X;exact G η _ _ (M.region hx (r η) (B η)) (U.out.whole C)
 cases d with
 | false=>
  have h:=f.2;unfold mh at h;simp only[ZQ,if_false,Y2] at h;refine wpIn_region_lit ?_;have s:=Cv (LL:=ay S) (N:=N) y f.1 u hF.free h.1 (λk G j hj=>by simpa using List.all_eq_true.1 (List.all_eq_true.1 h.2 k (List.mem_range.2 G)) j hj) g c.length 0 (jR c b) W Om (O.congr (λi _=>by simp) (λ_ _=>rfl));rw[T,List.drop_zero,←y,Z7] at s;exact s
 | true=>
  have h:=f.2;simp only[if_true,Y2,decide_eq_true_eq] at h;obtain⟨⟨⟨⟨⟨⟨q1,q2⟩,q3⟩,q4⟩,q5⟩,q6⟩,q7⟩:=h;refine wpIn_region_any hm ?_;have H: ∀k,gJ (Array.replicate (ay S).length false) k≤k:=by
   intro k
   induction k with
   | zero=>exact Zc _
   | succ k ih=>unfold gJ;split<;>omega
  have s:=Cw (LL:=ay S) (N:=N) y f.1 q2 q1 u hF.free q3 q4 q5 q6 q7 g _ (ay S).toArray.size (Array.replicate (ay S).length false) (jR c b) W.drew rfl (by rw[Y5];have:=H N;omega)
   ⟨by simp,λj oj _ v e _ _=>(by rw[getD_replicate_false] at v;exact aar v),λt _ w=>(by rw[Y5] at w;simp [w])⟩ (λi _ v=>(by rw[getD_replicate_false] at v;exact aar v))
   (O.drew.congr (λi _=>(getD_replicate_false _ _).symm) (λ_ _=>rfl))
  rw[T] at s;simpa using s
def uD(LL:List Oper)(e:Fe)(o:Oper):Bool:=match o.guard with
 | none=>true
 | some (j,g)=>(match ((LL[j]?).bind (·.dst)).bind (lk e) with
  | some (.bool c)=>c==g
  | _=>false)
def oK(e:Fe):Operand→Bool
 | .tmp i=>(lk e i).isSome
 | _=>true
def nT(P:Program)(sz:Nat)(e:Fe)(o:Oper):Value×List a8:=match o.op with
 | .pick c x y=>(match (⟨sz,e⟩:Sl).ev c with
  | .bool b=>((⟨sz,e⟩:Sl).ev (match b with | true=>x | false=>y),[sB (oK e c&&oK e (match b with | true=>x | false=>y))])
  | _=>(undef,[sB false]))
 | _=>(match qN o.op with
  | some l=>(xK P o (⟨sz,e⟩:Sl).ev,[sB (mb o&&l.all (oK e)),sE (λw=>(execOp (⟨sz,e⟩:Sl).ev o).run P w) (λw=> .ok (.value (xK P o (⟨sz,e⟩:Sl).ev)) w)])
  | none=>(undef,[sB false]))
def iF(P:Program)(LL:List Oper)(sz:Nat):List Oper→Fe→Fe×List a8
 | [],e=>(e,[])
 | o::os,e=>match o.dst with
  | some d=>((iF P LL sz os ((d,(nT P sz e o).1)::e)).1,sB (uD LL e o)::sB (ZG d sz)::((nT P sz e o).2++(iF P LL sz os ((d,(nT P sz e o).1)::e)).2))
  | none=>([],[sB false])
theorem Fr.put{b:Act}(c:Fr ⟨sz,es⟩ Ds b){d:Nat}(m:d<sz)(v:Value):Fr ⟨sz,(d,v)::es⟩ Ds (b.put (some d) v):=by
 refine⟨(w5 _ _ _).trans c.size,λi u h=>?_,(Ch _ _ _).trans c.defers⟩;have k:b.tmps.size=sz:=c.size;show(b.tmps.setIfInBounds d v).getD i undef=u;unfold lk at h
 split at h
 ·rename_i f;cases h;rw[Zb f] at m⊢;simp [k,m]
 ·rename_i f;have g:d≠i:=λe=>by rw[e,ZJ] at f;cases f
  have:=c.get i u h;simp only[Array.getD_eq_getD_getElem?] at this⊢;rw[Array.getElem?_setIfInBounds,ALifn g];exact this
theorem m9{b:Act}(c:Fr ⟨sz,es⟩ Ds b){x:Operand}(h:oK es x=true):b.eval x=(⟨sz,es⟩:Sl).ev x:=c.ev λi d=>by subst d;exact h
theorem Kl[hF:ki F]{b:Act}{W:World}{o:Oper}{K:Act→World→Prop}{k:Exit→Act→World→Prop}(g:Fr ⟨sz,es⟩ Ds b)(d: ∀q∈(nT P sz es o).2,q.2.1=q.2.2)(r:K (b.put o.dst (nT P sz es o).1) W):o.wpIn F n P b W K k:=by
 refine Oper.wpIn_mono (λm z ⟨v,e,h⟩=>by rw[e];exact h) (pA (K:=λv w=>K (b.put o.dst v) w) (v:=(nT P sz es o).1) hF.free (w':=W) ?_ ?_ r)
 ·unfold nT at d
  split at d
  ·rename_i c x y f;unfold mb;rw[f]
  ·split at d
   ·simp only[YZ,YW,or_false,forall_eq_or_imp,forall_eq,sB,Y2] at d;exact d.1.1
   ·exact(bE d).elim
 ·unfold nT at d⊢
  split at d
  ·rename_i c x y f;simp only at d⊢
   split at d
   ·rename_i E p;simp only[YZ,YW,or_false,forall_eq,sB,Y2] at d;have i:=(m9 g d.1).trans p;cases E with
    | true=>exact py f i (m9 g d.2)
    | false=>exact py f i (m9 g d.2)
   ·exact(bE d).elim
  ·split at d
   ·rename_i l s;simp only[YZ,YW,or_false,forall_eq_or_imp,forall_eq,sE,sB,Y2] at d;rw[Be s λx u=>m9 g (List.all_eq_true.1 d.1.2 x u)];exact congrFun d.2 W
   ·exact(bE d).elim
theorem xQ{LL:List Oper}{o:Oper}{b:Act}(f:Fr ⟨sz,es⟩ Ds b)(h1:uD LL es o=true):Region.wanted o (yielded LL.toArray b.tmps)=true:=by
 unfold uD at h1;unfold Region.wanted;cases k:o.guard with
 | none=>rfl
 | some s=>
  obtain⟨j,g⟩:=s;rw[k] at h1;simp only at h1⊢
  split at h1
  ·rename_i c i;obtain⟨q,p,m⟩:=Option.bind_eq_some_iff.1 i;have e:=f.get q _ m;have d:q<b.tmps.size:=by
    rcases Zj q b.tmps.size with h | h
    ·exact h
    ·rw[Array.getD_eq_getD_getElem?,Array.getElem?_eq_none h] at e;cases e
   have r:yielded LL.toArray b.tmps j=some c:=by
    unfold yielded;rw[Zh,p];simp only[aai];rw[Array.getD_eq_getD_getElem?,Array.getElem?_eq_getElem d] at e;rw[Array.getElem?_eq_getElem d];simp only[ZV] at e;rw[e]
   rw[r,eq_of_beq h1];simp
  ·cases h1
theorem rE[hF:ki F]{LL:List Oper}{W:World}{i:Exit→Act→World→Prop}: ∀{os:List Oper} {es:Fe} {b:Act},Fr ⟨sz,es⟩ Ds b→(∀q∈(iF P LL sz os es).2,q.2.1=q.2.2)→(∀k,Fr ⟨sz,(iF P LL sz os es).1⟩ Ds k→i .normal k W)→wpListIn F n P LL.toArray i os b W
 | [],es,b,e,_,f=>f b e
 | o::os,es,b,e,c,f=>by
  unfold iF at c f;cases g:o.dst with
  | none=>rw[g] at c;exact(bE c).elim
  | some d=>
   rw[g] at c f;simp only[YZ,Zw,forall_eq_or_imp,sB] at c;obtain⟨p,r,m⟩:=c;have s:=xQ (LL:=LL) e p;unfold wpListIn;rw[ALifp s];refine Kl (F:=F) e (λq h=>m q (.inl h)) ?_;rw[g];exact rE (e.put (ZF▸r) _) (λq h=>m q (.inr h)) f
def rG:Nat→List It→Fe→Bool
 | 0,_,_=>false
 | k+1,S,e=>match nf S with
  | .c .ret::_=>true
  | .c (.cond c x y)::S'=>oK e c&&(match (⟨0,e⟩:Sl).ev c with
   | .bool b=>rG k (.c (match b with | true=>x | false=>y)::S') e
   | _=>false)
  | _=>false
theorem xR: ∀(k:Nat) {S:List It} {b:Act} {W:World},rG k S es=true→Fr ⟨sz,es⟩ Ds b→Q .ret b W→c6 F n P Q S .normal b W
 | 0,_,_,_,h,_,_=>by cases h
 | k+1,S,b,W,h,i,g=>by
  unfold rG at h;refine dG 1000 S ?_
  split at h
  ·rename_i o e;rw[show dm 1000 S=_ from e];exact wpIn_ret (gN g)
  ·rename_i c x y o e;rw[show dm 1000 S=_ from e];rw[Y2] at h;obtain⟨p,d⟩:=h
   split at d
   ·rename_i E q;have m:=(m9 i p).trans q;have f:=xR k d i g;cases E with
    | true=>exact wpIn_cond m f
    | false=>exact wpIn_cond m f
   ·cases d
  ·cases h
def rH(P:Program)(fn:Func)(J Jx:Nat→(Nat→Prop)→World→Prop)(KO:aA)(W0:World)(N:Nat):Exit→Act→World→Prop:=
 bodyPostM Fence.wide 5 P fn λe b=>(∃v,e= .returned v)∧((∃L,fC J KO W0 L N b)∨∃i,i<N∧∃c,Jx (i+1) c b)
def xS{α:Type}(P:Program)(l:Nat)(J Jx:Nat→(Nat→Prop)→World→Prop)(KO:aA)(W0:World)(encs:α→Array Value)(xs:List α):Prop:=
 ∀(L:aA) (j:Nat) (x:α) (wr:World),xs[j]? =some x→fC J KO W0 L j wr→YieldAt Fence.wide 4 P l (encs x) wr λe b=>(e= .returned (.bool true)∧fC J KO W0 L (j+1) b)∨(e= .returned (.bool false)∧∃c,Jx (j+1) c b)
section
variable {α:Type} {gf:Nat} {fn:Func} {lb:Array Value} {encs:α→Array Value} {xs:List α} {KO:List aA} {J Jx:Nat→(Nat→Prop)→World→Prop} {W0:World} {l j:Nat}
theorem gi(hf:P.funcs[gf]? =some fn)(h: ∀l J Jx W0 R,gA J→xS P l J Jx KO.flatten W0 encs xs→Hid (fw J KO W0 0 R W0)→Go Fence.wide 5 P R W0 (rH P fn J Jx KO.flatten W0 xs.length) [.c (kp fn)] ⟨fn.ntmps,nQ 0 (.func (.yield l) #[] #[]::lb.toList)⟩ (KO.map .c) [])
  (f:(fn.body.isSome,aah (lb.size+1) fn.ntmps)=(true,true):=by kernel_rfl):e4 5 P gf lb encs xs KO.flatten:=by
 refine IN λl J Jx W q s k=>?_;obtain⟨R,p,r⟩:=iT.start (iT.zero k.out);obtain⟨c,e⟩:=Option.isSome_iff_exists.1 (ALca (·.1) f);have w:lb.size+1≤fn.ntmps:=ZL (ALca (·.2) f);refine callsIn_of_wp_marks hf e trivial ?_ rfl;have g:(#[Value.func (.yield l) #[] #[]]++lb).size=lb.size+1:=by simp;omega
 have d:=(h l J Jx W R q s.out p).out {tmps:=(#[Value.func (.yield l) #[] #[]]++lb)++Array.replicate (fn.ntmps-(#[Value.func (.yield l) #[] #[]]++lb).size) undef,defers:=[]} W ⟨by rw[Array.size_append,g,Array.size_replicate];show _=fn.ntmps;omega,λi v u=>?_,rfl⟩ (by simpa using r.out)
 ·rw[show kp fn=c by unfold kp;rw[e];rfl] at d;exact d
 ·obtain⟨_,b⟩:=rv u;rw[ZA] at b;have m:i<lb.size+1:=by have:=(List.getElem?_eq_some_iff.1 b).1;simpa using this
  have o:(#[Value.func (.yield l) #[] #[]]++lb)[i]? =some v:=by rw[←Array.getElem?_toList];simpa using b
  rw[Array.getD_eq_getD_getElem?,Array.getElem?_append_left (by rw[g];exact m),o];rfl
theorem gG{XO:aA}(hf:P.funcs[gf]? =some fn)(h: ∀l J Jx W0 R,gA J→xS P l J Jx KO.flatten W0 encs xs→Hid (fw J KO W0 0 R W0)→Go Fence.wide 5 P R W0 (rH P fn J Jx KO.flatten W0 xs.length) [.c (kp fn)] ⟨fn.ntmps,nQ 0 (.func (.yield l) #[] #[]::lb.toList)⟩ (KO.map .c++[aC.c XO]) [])
  (f:(fn.body.isSome,aah (lb.size+1) fn.ntmps)=(true,true):=by kernel_rfl):pF 5 P gf lb encs xs KO.flatten XO:=by
 refine IP λl J Jx W q s k=>?_;obtain⟨R,p,r⟩:=iT.start (LE:=[aC.c XO]) ⟨[XO],⟨rfl,trivial⟩,by simpa using k.out⟩;obtain⟨c,e⟩:=Option.isSome_iff_exists.1 (ALca (·.1) f);have w:lb.size+1≤fn.ntmps:=ZL (ALca (·.2) f);refine callsIn_of_wp_marks hf e trivial ?_ rfl;have g:(#[Value.func (.yield l) #[] #[]]++lb).size=lb.size+1:=by simp;omega
 have d:=(h l J Jx W R q s.out p).out {tmps:=(#[Value.func (.yield l) #[] #[]]++lb)++Array.replicate (fn.ntmps-(#[Value.func (.yield l) #[] #[]]++lb).size) undef,defers:=[]} W ⟨by rw[Array.size_append,g,Array.size_replicate];show _=fn.ntmps;omega,λi v u=>?_,rfl⟩ (by simpa using r.out)
 ·rw[show kp fn=c by unfold kp;rw[e];rfl] at d;exact d
 ·obtain⟨_,b⟩:=rv u;rw[ZA] at b;have m:i<lb.size+1:=by have:=(List.getElem?_eq_some_iff.1 b).1;simpa using this
  have o:(#[Value.func (.yield l) #[] #[]]++lb)[i]? =some v:=by rw[←Array.getElem?_toList];simpa using b
  rw[Array.getD_eq_getD_getElem?,Array.getElem?_append_left (by rw[g];exact m),o];rfl
theorem xT(W:World):aH (bN ([]:List aA).flatten) W [] W:=aH.start (cs:=[]) trivial ⟨λ_ h=>by simp at h,List.Pairwise.nil⟩
theorem Cy{N:Nat}{b:Act}{W:World}{KO:aA}(c:fn.results.toList=[])(e:b.defers=[])(h:(∃L,fC J KO W0 L N W)∨∃i,i<N∧∃d,Jx (i+1) d W):rH P fn J Jx KO W0 N .ret b W:=by
 show LeavesInM Fence.wide 5 P fn b.tmps _ b.defers .returning W;rw[e];exact IL (Lib.hid (xT W)) [] (by rw[c];rfl) λ_=>⟨⟨_,rfl⟩,h⟩
def Cz(S:List It)(N:Nat):Option Oper:=(ay S)[N]?
def iV(S:List It)(N:Nat):Nat:=match Cz S N with | some o=>o.dst.getD 0 | none=>0
def uE(S:List It)(N l sz:Nat)(e:Fe)(vs:List Value):Bool×Option (List Value)×Option Value:=match Cz S N with
 | some o=>(match o.op with
  | .call ⟨.value x,b,_⟩=>(uD (ay S) e o&&oK e x&&b.toList.all (oK e)&&o.dst.isSome&&ZG (o.dst.getD 0) sz,some (b.toList.map (⟨sz,e⟩:Sl).ev),some ((⟨sz,e⟩:Sl).ev x))
  | _=>(false,none,none))
 | none=>(false,none,none)
theorem iy[hR:Rt Q (rH P fn J Jx KO.flatten W0 xs.length)](hJ:gA J)(hY:xS P l J Jx KO.flatten W0 encs xs)(hI:Hid (fw J KO W0 j R base))(N:Nat)(hs:bD→List (Nat×cb P))(h:bD→Fe)(dr:List Nat)(Le:bD→ah→ah)(LE:bD→ah)(ps:List Nat){x:α}(hx:xs[j]? =some x)
  (hk: ∀η H r,Hid (fw J KO W0 (j+1) H r)→Go Fence.wide 5 P H r Q (bS S) ⟨sz,(iF P (ay S) sz ((ay S).drop (N+1)) ((iV S N,.bool true)::(h η++ek dr es))).1⟩ (KO.map .c++LE η) [])
  (he: ∀η,((lP S,true),(ff ((ay S).take N) ⟨sz,es⟩ (tP N S ⟨sz,es⟩ L (mR Le L) hs) η 0 ((ay S).take N) (nS N S ⟨sz,es⟩ L hs η)).map a8.lhs,uC (eR S) (ay S) N (λk=>(jw (eR S) ((ay S).take N)).getD k []),(Y4 (mR Le L)).map (λp=>(tP N S ⟨sz,es⟩ L (mR Le L) hs).at η p ((ay S).take N).length),(h η).map (λx=>kQ ((ay S).take N) ⟨sz,es⟩ (tP N S ⟨sz,es⟩ L (mR Le L) hs) η x.1),mq ((ay S).take N) es (h η) dr)=
   ((true,true),(ff ((ay S).take N) ⟨sz,es⟩ (tP N S ⟨sz,es⟩ L (mR Le L) hs) η 0 ((ay S).take N) (nS N S ⟨sz,es⟩ L hs η)).map a8.rhs,true,(Le η L).map some,(h η).map (λx=>some x.2),true):=by intro _;kernel_rfl)
  (K: ∀η,(uE S N l sz (h η++ek dr es) (encs x).toList,(iF P (ay S) sz ((ay S).drop (N+1)) ((iV S N,.bool true)::(h η++ek dr es))).2.map a8.lhs,(iF P (ay S) sz ((ay S).drop (N+1)) ((iV S N,.bool false)::(h η++ek dr es))).2.map a8.lhs,rG 10 (bS S) (iF P (ay S) sz ((ay S).drop (N+1)) ((iV S N,.bool false)::(h η++ek dr es))).1)=
   ((true,some (encs x).toList,some (.func (.yield l) #[] #[])),(iF P (ay S) sz ((ay S).drop (N+1)) ((iV S N,.bool true)::(h η++ek dr es))).2.map a8.rhs,(iF P (ay S) sz ((ay S).drop (N+1)) ((iV S N,.bool false)::(h η++ek dr es))).2.map a8.rhs,true):=by intro _;kernel_rfl)
  (hp: ∀η,(dj (ps.map λp=>[p]).flatten,(ps.map λp=>[p]).map λg=>g.map λp=>(Le η L)[p]?)=(true,((KO.map aC.c++LE η).map λx=>[x]).map λN=>N.map some):=by intro _;kernel_rfl) (D:fn.results.toList=[]:=by kernel_rfl) (hm:P.follows .mixedOrders=true:=by kernel_rfl):Go Fence.wide 5 P R base Q S ⟨sz,es⟩ L []:=by
 refine Cx hm N hs h dr Le (λη b W A hO=>?_) he;have f:=ALca (λx=>x.1) (K η);have u:=ALca (λx=>x.2.1) (K η);have v:=ALca (λx=>x.2.2.1) (K η);have w:=ALca (λx=>x.2.2.2) (K η);simp only at f u v w;have hO':aH R base (KO.map .c++LE η) W:=aH.pick (by simpa using hO) ps _ (hp η);obtain⟨ds,hds,hIS⟩:=fw.step hI hJ hO';obtain⟨V,z,O,U,G,m⟩:=hY ds.flatten j x W hx hIS;unfold uE at f
 split at f
 ·rename_i o ho
  split at f
  ·rename_i xo M ats C;simp only[Prod.mk.injEq,Y2,Option.some.injEq] at f;obtain⟨⟨⟨⟨⟨g1,g2⟩,g3⟩,g4⟩,I⟩,g6,g7⟩:=f;obtain⟨d,B⟩:=Option.isSome_iff_exists.1 g4;have y:iV S N=d:=by unfold iV;rw[ho];simp [B]
   have hdr:(ay S).drop N=o::(ay S).drop (N+1):=by
    obtain⟨hlt,e⟩:=List.getElem?_eq_some_iff.1 (show(ay S)[N]? =some o from ho);rw[Z1 hlt,e]
   rw[hdr];have hw:Region.wanted o (yielded (ay S).toArray b.tmps)=true:=xQ A g1;unfold wpListIn;rw[ALifp hw];have hxo:b.eval xo= .func (.yield l) #[] #[]:=(m9 A g2).trans g7;have hag:M.map b.eval=encs x:=by
    apply Array.toList_inj.1;rw[Array.toList_map,←g6];exact ZO λq hq=>m9 A (List.all_eq_true.1 g3 q hq)
   have s:(execOp b.eval o).run P W= .ok (.round l V z O U) W:=by
    unfold execOp;simp only[C,resolve,hxo,Deferred.ofValue,Zk,Zl,Y6,invoke];rw[hag];simpa using G
   unfold Oper.wpIn;refine⟨λ_ _=>trivial,?_⟩;rw[Oper.semAt_plain Fence.wide _ o (λc hc=>by rw[C] at hc;cases hc),s,Oper.uponIn_round];refine⟨λ_=>by omega,m.mono ?_⟩;rintro e r (⟨rfl,X⟩ | ⟨rfl,O',X⟩)
   ·rw[y] at u;obtain⟨H,Z,hO3⟩:=iT.start (J:=J) (Os:=KO) (W0:=W0) (LE:=LE η) (j:=j+1) ⟨ds,hds,X⟩;have h4:=hk η H r Z;rw[y] at h4;show wpListIn Fence.wide 5 P (ay S).toArray _ ((ay S).drop (N+1)) (b.put o.dst (.bool true)) r;rw[B];have Y:d<sz:=by rw[B] at I;exact ZF▸I
    exact rE (A.put Y _) (a8.all u) λT i=>h4.out T r i (by simpa using hO3.out)
   ·rw[y] at v w;show wpListIn Fence.wide 5 P (ay S).toArray _ ((ay S).drop (N+1)) (b.put o.dst (.bool false)) r;rw[B];have Y:d<sz:=by rw[B] at I;exact ZF▸I
    exact rE (A.put Y _) (a8.all v) λT i=>xR 10 w i (hR.out T r (Cy D (by rw[i.defers];rfl) (.inr ⟨j,(List.getElem?_eq_some_iff.1 hx).1,O',X⟩)))
  ·simp at f
 ·simp at f
theorem kV(k:gA J)(i:Hid (fw J KO W0 j R base))(r:j=xs.length)(LE:ah)(f:List Nat)
  (hp:(dj (f.map λp=>[p]).flatten,(f.map λp=>[p]).map λg=>g.map λp=>L[p]?)=(true,((KO.map aC.c++LE).map λx=>[x]).map λN=>N.map some):=by kernel_rfl) (d:fn.results.toList=[]:=by kernel_rfl) (o:(nf S).isEmpty=true:=by kernel_rfl):Go Fence.wide 5 P R base (rH P fn J Jx KO.flatten W0 xs.length) S ⟨sz,es⟩ L []:=by
 refine⟨λb W q m=>dG 1000 S ?_⟩;have e:aH R base (KO.map .c++LE) W:=aH.pick (by simpa using m) f _ hp;have h:=iT.leaf (fw.step i k e);rw[show dm 1000 S=[] from List.isEmpty_iff.1 o];exact Cy d (by rw[q.defers];rfl) (.inl (by rw[←r];exact h))
end
section
variable {J:Nat→(Nat→Prop)→World→Prop} {KO:List aA} {W0:World}
def CA(J:Nat→(Nat→Prop)→World→Prop)(KO:List aA)(W0:World)(I:Nat→Prop)(e:Nat→Fe)(d:Nat→ah)(m c:Nat→Nat)(sz:Nat)(st:Fe)(i:Nat)(b:Act)(W:World):Prop:=∃(k:Nat) (R:List Nat) (base:World),I k∧Hid (fw J KO W0 (c k) R base)∧m k<i∧Fr ⟨sz,e k++st⟩ [] b∧aH R base (d k) W
def uF(P:Program)(J:Nat→(Nat→Prop)→World→Prop)(KO:List aA)(W0:World)(Q:Exit→Act→World→Prop)(S:List It)(I:Nat→Prop)(e:Nat→Fe)(d:Nat→ah)(m c:Nat→Nat)(sz:Nat)(st:Fe)(i:Nat):Exit→Act→World→Prop
 | .normal,b,W=>CA J KO W0 I e d m c sz st i b W
 | x,b,W=>c6 Fence.wide 5 P Q S x b W
theorem jW(I:Nat→Prop)(e:Nat→Fe)(p:Nat→ah→ah)(m c:Nat→Nat)(f:Nat)(h0:I f)(z:Hid (fw J KO W0 (c f) R base))(r:((e f).map λx=>lk es x.1)=(e f).map λx=>some x.2)(A:L=p f L)
  (M: ∀(k:Nat) (q:List Nat) (d:World),I k→Hid (fw J KO W0 (c k) q d)→Go Fence.wide 5 P q d (uF P J KO W0 Q (bS S) I e (λk=>p k L) m c sz (jC S es) (m k)) [.c (gw S)] ⟨sz,e k++jC S es⟩ (p k L) []) (B:nP S=true:=by kernel_rfl):Go Fence.wide 5 P R base Q S ⟨sz,es⟩ L []:=by
 classical
 refine⟨λb W C s=>dG 1000 S ?_⟩;rw[show dm 1000 S=_ from uq B];show(Code.loop (gw S)).wpIn Fence.wide 5 P (c6 Fence.wide 5 P Q (bS S)) b W
 let g:Nat→Act→World→Prop:=CA J KO W0 I e (λk=>p k L) m c sz (jC S es)
 let μ:Act→World→Nat:=λb W=>if h: ∃j,g j b W then ZB (kR h) else 0
 have w: ∀b W,(∃j,g j b W)→g (μ b W) b W∧∀i,i<μ b W→¬g i b W:=by
  intro b W h;have e:μ b W=ZB (kR h):=dif_pos h;rw[e];exact ZZ (kR h)
 refine wpIn_loop (λb W=>∃j,g j b W) μ ⟨m f+1,f,R,base,h0,z,aav _,Fr.stay (a:=⟨sz,es⟩) C r,by have h:=s;rw[A] at h;simpa using h⟩ λb W o=>?_;obtain⟨k,q,d,G,y,K,D,s⟩:=(w b W o).1;refine wpIn_mono (show(gw S).wpIn Fence.wide 5 P _ b W from(M k q d G y).out b W D (by simpa using s)) λe v u r=>?_;cases e with
 | normal=>
  have o:g (m k) v u:=r;exact⟨⟨_,o⟩,ZU (ZX λH=>(w v u ⟨_,o⟩).2 _ H o) K⟩
 | _=>exact r
theorem iG{I:Nat→Prop}{e:Nat→Fe}{h:Nat→ah}{m c:Nat→Nat}{o:List It}{d:Nat}{st:Fe}{i:Nat}(k:Nat)(q:I k)(hC:Hid (fw J KO W0 (c k) R base))(y:m k<i)(w:((e k++st).map λx=>lk es x.1)=(e k++st).map λx=>some x.2)(f:List Nat)(r:(dj (f.map λp=>[p]).flatten,(f.map λp=>[p]).map λg=>g.map λp=>L[p]?)=(true,((h k).map λx=>[x]).map λN=>N.map some))(u:(nf S).isEmpty=true:=by kernel_rfl)(z:sz=d:=by rfl):
  Go Fence.wide 5 P R base (uF P J KO W0 Q o I e h m c d st i) S ⟨sz,es⟩ L []:=by
 subst z;refine⟨λb W v s=>dG 1000 S ?_⟩;rw[show dm 1000 S=[] from List.isEmpty_iff.1 u];exact⟨k,R,base,q,hC,y,Fr.told (a:=⟨sz,es⟩) v w,aH.pick (by simpa using s) f _ r⟩
theorem jX{I:Nat→Prop}{e:Nat→Fe}{k:Nat→ah}{m c:Nat→Nat}{d:List It}{f:Nat}{st:Fe}{i:Nat}(h:Go Fence.wide 5 P R base Q ((jV S d).getD []) ⟨sz,es⟩ L [])(p:(jV S d).isSome=true:=by kernel_rfl):Go Fence.wide 5 P R base (uF P J KO W0 Q d I e k m c f st i) S ⟨sz,es⟩ L []:=by
 obtain⟨r,g⟩:=Option.isSome_iff_exists.1 p;rw[g] at h;exact⟨λb W q o=>ur g (h.out b W q o) λ_=>rfl⟩
instance {P:Program} {J:Nat→(Nat→Prop)→World→Prop} {KO:List aA} {W0:World} {Q Q0:Exit→Act→World→Prop} {I:Nat→Prop} {e:Nat→Fe} {LI:Nat→ah} {m c:Nat→Nat} {S0:List It} {sz0:Nat} {st:Fe} {i:Nat} [h:Rt Q Q0]:Rt (uF P J KO W0 Q S0 I e LI m c sz0 st i) Q0:=⟨λb W hq=>gN (S:=S0) (h.out b W hq)⟩
def YL(J:Nat→(Nat→Prop)→World→Prop)(KO:List aA)(W0:World)(I:Nat→Value→Prop)(e:Nat→Value→Fe)(d:Nat→Value→ah)(m c:Nat→Value→Nat)(sz:Nat)(st:Fe)(i:Nat)(b:Act)(W:World):Prop:=∃(k:Nat) (u:Value) (R:List Nat) (base:World),I k u∧Hid (fw J KO W0 (c k u) R base)∧m k u<i∧Fr ⟨sz,e k u++st⟩ [] b∧aH R base (d k u) W
def YM(P:Program)(J:Nat→(Nat→Prop)→World→Prop)(KO:List aA)(W0:World)(Q:Exit→Act→World→Prop)(S:List It)(I:Nat→Value→Prop)(e:Nat→Value→Fe)(d:Nat→Value→ah)(m c:Nat→Value→Nat)(sz:Nat)(st:Fe)(i:Nat):Exit→Act→World→Prop
 | .normal,b,W=>YL J KO W0 I e d m c sz st i b W
 | x,b,W=>c6 Fence.wide 5 P Q S x b W
instance {P:Program} {J:Nat→(Nat→Prop)→World→Prop} {KO:List aA} {W0:World} {Q Q0:Exit→Act→World→Prop} {I:Nat→Value→Prop} {e:Nat→Value→Fe} {LI:Nat→Value→ah} {m c:Nat→Value→Nat} {S0:List It} {sz0:Nat} {st:Fe} {i:Nat} [h:Rt Q Q0]:Rt (YM P J KO W0 Q S0 I e LI m c sz0 st i) Q0:=⟨λb W hq=>gN (S:=S0) (h.out b W hq)⟩
end
end
end
section
open Go Go.RowKit Go.Shelf
theorem fH{P:Program}{T:TypeId}{x y:Operand}{w:World}{yk:IntKind}{a:Int}(n:Nat)(b:n≤64)(h0: -9223372036854775808≤a*2^n)(h1:a*2^n≤9223372036854775807):(av .shl T x y (.int .i64 a) (.int yk (n:Int))).run P w= .ok (.int .i64 (a*2^n)) w:=by
 have e:IntKind.i64.wrap (a*2^n)=a*2^n:=IntWalk.i64_in _ Om;unfold av;simp only[Zk,eqGuard_shl,Zl,Y6,binOp_shl,shift_shl_i64 _ _ _ (aam n) Om,Zp,e]
theorem Km(a b k:Nat)(g:a%2^k=0)(j:b<2^k)(h:a+b<9223372036854775808):bits .or .i64 (a:Int) (b:Int)=((a+b:Nat):Int):=by
 have d: ∀c:Nat,c<9223372036854775808→(BitVec.ofInt 64 (c:Int)).toNat=c:=by
  intro c l;rw[BitVec.ofInt_natCast,BitVec.toNat_ofNat];exact Y7 Om
 show IntKind.i64.wrap ((BitVec.ofInt 64 (a:Int)||| BitVec.ofInt 64 (b:Int)).toNat:Int)=_;rw[BitVec.toNat_or,d a Om,d b Om];have e:a||| b=a+b:=by
  have f:=Nat.div_add_mod a (2^k);rw[g,Zt] at f;rw[←f];exact(Z0 j (a/2^k)).symm
 rw[e];exact IntWalk.i64_in _ Om
theorem rJ{P:Program}{T:TypeId}{x y:Operand}{w:World}{a b:Int}(k M:Nat)(d:2^k=M)(h0:0≤a)(f:a%(M:Int)=0)(c:0≤b)(g:b<(M:Int))(h:a+b<9223372036854775808):(av .or T x y (.int .i64 a) (.int .i64 b)).run P w= .ok (.int .i64 (a+b)) w:=by
 obtain⟨m,rfl⟩:=Z4 h0;obtain⟨n,rfl⟩:=Z4 c;have e:=Km m n k (by rw[d];omega) (by rw[d];omega) Om;rw[show((m:Int)+(n:Int))=((m+n:Nat):Int) by omega,←e];rfl
theorem Kn(x:Int)(k:Nat)(c:k≤64):(((x%18446744073709551616).toNat%2^k:Nat):Int)=x%((2^k:Nat):Int):=by
 have b:((2^k:Nat):Int)∣18446744073709551616:=by
  have h:2^k∣18446744073709551616:=(show(18446744073709551616:Nat)=2^64 by decide)▸Nat.pow_dvd_pow 2 c;exact Int.natCast_dvd_natCast.2 h
 rw[aaw,Int.toNat_of_nonneg (aaA _ Dc),Int.emod_emod_of_dvd _ b]
theorem Ko(x:Int)(k m:Nat)(b:2^k=m)(d:k≤62)(h1:0<m)(h2:m≤4611686018427387904):bits .and .i64 x ((m-1:Nat):Int)=x%(m:Int):=by
 show IntKind.i64.wrap ((BitVec.ofInt 64 x&&& BitVec.ofInt 64 ((m-1:Nat):Int)).toNat:Int)=_;have e:(BitVec.ofInt 64 ((m-1:Nat):Int)).toNat=2^k-1:=by
  rw[BitVec.ofInt_natCast,BitVec.toNat_ofNat,b];exact Y7 Om
 have c:=Kn x k Om;rw[b] at c;rw[BitVec.toNat_and,e,Nat.and_two_pow_sub_one_eq_mod,BitVec.toNat_ofInt,b];rw[show(x%((2^64:Nat):Int))=x%18446744073709551616 from rfl,c];have f:0≤x%(m:Int):=aaA _ Om;have g:x%(m:Int)<(m:Int):=Int.emod_lt_of_pos _ Om;exact IntWalk.i64_in _ Om
theorem mw{P:Program}{T:TypeId}{y z:Operand}{w:World}(x:Int)(k m:Nat)(c:2^k=m)(b:k≤62)(h1:0<m)(h2:m≤4611686018427387904):(av .and T y z (.int .i64 x) (.int .i64 ((m-1:Nat):Int))).run P w= .ok (.int .i64 (x%(m:Int))) w:=by
 rw[←Ko x k m c b h1 h2];rfl
section
variable {P:Program} {T:TypeId} {x y:Operand} {w:World}
theorem CB{a b:Nat}(c:a<18446744073709551616)(d:b<18446744073709551616):(av .and T x y (.int .u64 (a:Int)) (.int .u64 (b:Int))).run P w= .ok (.int .u64 ((a&&& b:Nat):Int)) w:=by
 rw[←u64_and_nat a b c d];rfl
theorem Kp{a b:Nat}(c:a<4294967296)(d:b<4294967296):(av .and T x y (.int .u32 (a:Int)) (.int .u32 (b:Int))).run P w= .ok (.int .u32 ((a&&& b:Nat):Int)) w:=by
 rw[←u32_and_nat a b c d];rfl
theorem Kq{a b:Nat}(c:a<256)(d:b<256):(av .and T x y (.int .u8 (a:Int)) (.int .u8 (b:Int))).run P w= .ok (.int .u8 ((a&&& b:Nat):Int)) w:=by
 rw[←u8_and_nat a b c d];rfl
theorem Ks{a b:Nat}(h:b≤a)(d:a<18446744073709551616):(av .sub T x y (.int .u64 (a:Int)) (.int .u64 (b:Int))).run P w= .ok (.int .u64 ((a-b:Nat):Int)) w:=by
 have c:IntKind.u64.wrap ((a:Int)-b)=((a-b:Nat):Int):=by rw[IntKind.wrap_u64];omega
 rw[←c];rfl
theorem Kt{a b:Nat}(h:b≤a)(d:a<4294967296):(av .sub T x y (.int .u32 (a:Int)) (.int .u32 (b:Int))).run P w= .ok (.int .u32 ((a-b:Nat):Int)) w:=by
 have c:IntKind.u32.wrap ((a:Int)-b)=((a-b:Nat):Int):=by rw[aaf];omega
 rw[←c];rfl
theorem Ku{a b:Nat}(h:b≤a)(d:a<256):(av .sub T x y (.int .u8 (a:Int)) (.int .u8 (b:Int))).run P w= .ok (.int .u8 ((a-b:Nat):Int)) w:=by
 have c:IntKind.u8.wrap ((a:Int)-b)=((a-b:Nat):Int):=by rw[aaj];omega
 rw[←c];rfl
theorem CC{a:Nat}(c:a<18446744073709551616):(av .and T x y (.int .u64 (a:Int)) (.int .u64 1)).run P w= .ok (.int .u64 ((a%2:Nat):Int)) w:=by
 have h:=CB (P:=P) (T:=T) (x:=x) (y:=y) (w:=w) (a:=a) (b:=1) c Om;rwa [Nat.and_one_is_mod] at h
theorem CD{a:Nat}:(av .and T x y (.int .i64 (a:Int)) (.int .i64 1)).run P w= .ok (.int .i64 ((a%2:Nat):Int)) w:=by
 have h:=mw (P:=P) (T:=T) (y:=x) (z:=y) (w:=w) (a:Int) 1 2 Dc Dc Dc Dc;exact h
end
section
variable {P:Program} {T:TypeId} {x y:Operand} {w:World}
theorem uG{yk:IntKind}{a:UInt8}(n:Nat)(b:n≤8):(av .shl T x y (.int .u8 (a.toNat:Int)) (.int yk (n:Int))).run P w= .ok (.int .u8 ((UInt8.ofNat (a.toNat*2^n)).toNat:Int)) w:=by
 have e:IntKind.u8.wrap ((a.toNat:Int)*2^n)=((UInt8.ofNat (a.toNat*2^n)).toNat:Int):=by
  rw[Zy,aaj,aaw,Int.natCast_mul,Int.natCast_pow];rfl
 rw[←e];generalize (a.toNat:Int)=A;unfold av;simp only[Zk,eqGuard_shl,Zl,Y6,binOp_shl,shift_shl_u8 _ _ _ (aam n) Om,Zp]
end
theorem lQ{P:Program}{T:TypeId}{x y:Operand}{w:World}{a b:Nat}(h:b≤a)(c:a≤9223372036854775807):(av .sub T x y (.int .i64 (a:Int)) (.int .i64 (b:Int))).run P w= .ok (.int .i64 ((a-b:Nat):Int)) w:=by
 rw[show((a-b:Nat):Int)=(a:Int)-(b:Int) by omega];exact qL Om Om
section
variable {A R R' C cs cs':List Value} {a i:Nat} {v:Value}
theorem Kv(e:cs=A++(R++C))(hA:A.length=a)(h:R.toArray[i]? =some v):cs.toArray[a+i*1]? =some v:=by
 rw[Zh] at h⊢;rw[e,Zq,Y9 Om,show a+i-A.length=i by omega,ZC (List.getElem?_eq_some_iff.1 h).1];exact h
theorem Kw(e:cs=A++(R++C))(hA:A.length=a)(b:i<R.toArray.size):a+i*1<cs.toArray.size:=by
 rw[Y5] at b⊢;rw[e,YY,YY];omega
theorem Kx(e:cs=A++(R++C))(c:cs'=A++(R'++C))(hA:A.length=a)(b:i<R.toArray.size)(h:R.toArray.setIfInBounds i v=R'.toArray):cs.toArray.setIfInBounds (a+i*1) v=cs'.toArray:=by
 rw[Y5] at b;rw[List.setIfInBounds_toArray] at h⊢;have d:R.set i v=R':=ALca Array.toList h;rw[e,c,Zq,List.set_append_right _ _ Om,show a+i-A.length=i by omega,List.set_append_left _ _ b,d]
end
theorem kq{n:Nat}{xs:List UInt8}:(rB n xs).length=n:=(oD (k:=1) λ_=>rfl).trans (Zq n)
theorem Ky{P:Program}{T:TypeId}{w:World}{K:IntKind}{g off k s N:Nat}(b:(P.underlying T,P.arrayLen T,iR P (P.elem T))=(some (.array N (P.elem T)),N,some s))(d:k<N):(Instr.indexAt T (.pointer (some ⟨g,off,none⟩)) (.int K (k:Int))).run P w= .ok (.pointer (some ⟨g,off+k*s,none⟩)) w:=by
 have c:P.arrayLen T=N:=ALca (·.2.1) b;rw[run_indexAt_array w T _ K (k:Int) (by rw[c];exact ALca (·.1) b),c,ALifp Om,nJ (ALca (·.2.2) b),Y6,Zp,add_lit]
section
variable {P:Program} {A R R' C cs':List Value} {a:Nat} {v:Value}
def iA(T:TypeId)(K:IntKind)(g off N s k:Nat)(c:k<N:=by omega)(b:(P.underlying T,P.arrayLen T,iR P (P.elem T))=(some (.array N (P.elem T)),N,some s):=by kernel_rfl):cb P:= .t (tv (Instr.indexAt T (.pointer (some ⟨g,off,none⟩)) (.int K (k:Int))) λ_=>Ky b c)
def rM(p g i:Nat)(t:TypeId)(cs:List Value)(e:cs=A++(R++C))(hA:A.length=a)(h:R.toArray[i]? =some v):cb P:= .m (lt p g (a+i*1) cs.toArray t (Kv e hA h))
def wM(p g i:Nat)(t:TypeId)(v:Value)(cs cs':List Value)(e:cs=A++(R++C))(c:cs'=A++(R'++C))(hA:A.length=a)(b:i<R.toArray.size)(h:R.toArray.setIfInBounds i v=R'.toArray):cb P:= .m (sw p g (a+i*1) t v cs.toArray cs'.toArray (Kx e c hA b h) (Kw e hA b))
def rD(p g i:Nat)(t:TypeId)(R:List Value)(h:R.toArray[i]? =some v):cb P:= .m (lt p g (0+i*1) R.toArray t (by rw[Zf,Zq];exact h))
def wD(p g i:Nat)(t:TypeId)(v:Value)(R R':List Value)(b:i<R.toArray.size)(h:R.toArray.setIfInBounds i v=R'.toArray):cb P:= .m (sw p g (0+i*1) t v R.toArray R'.toArray (by rw[Zf,Zq];exact h) (by rw[Zf,Zq];exact b))
end
def aS{P:Program}(T:TypeId)(g N s:Nat)(h:0<N:=by decide)(b:(P.underlying T,P.arrayLen T,iR P (P.elem T))=(some (.array N (P.elem T)),N,some s):=by kernel_rfl):cb P:= .t (tv (Instr.sliceAt T (.pointer (some ⟨g,0,none⟩)) none none none) λ_=>I3 b h)
def aL{P:Program}(T:TypeId)(g N s l:Nat)(h:l<N:=by omega)(b:(P.underlying T,P.arrayLen T,iR P (P.elem T))=(some (.array N (P.elem T)),N,some s):=by kernel_rfl):cb P:= .t (tv (Instr.sliceAt T (.pointer (some ⟨g,0,none⟩)) (some (.int .i64 (l:Int))) none none) λ_=>I2 b h)
def aM{P:Program}(T:TypeId)(g N s l m:Nat)(h:l+m≤N:=by omega)(h1:l<N:=by omega)(b:(P.underlying T,P.arrayLen T,iR P (P.elem T))=(some (.array N (P.elem T)),N,some s):=by kernel_rfl):cb P:= .t (tv (Instr.sliceAt T (.pointer (some ⟨g,0,none⟩)) (some (.int .i64 (l:Int))) (some (.int .i64 ((l+m:Nat):Int))) none) λ_=>Jl b h h1)
end
section
open Go Go.RowKit Go.Shelf
section
variable {α:Type} {P:Program} {en:α→List Value} {z:List Value} {T:TypeId} {v:Value} {xs:List α} {bs:aA}
theorem aP.take{k:Nat}(G: ∀y,(en y).length=k)(h:aP en v xs bs){m:Nat}(H:m≤xs.length):aP en (gM v 0 m k) (xs.take m) bs:=by
 obtain⟨s,a,r,rfl⟩:=h;have d:(xs.take m).length=m:=by rw[Zg];omega
 have C: ∃f,gM (.slice a xs.length (xs.length+r)) 0 m k= .slice f m (xs.length+r)∧(∀g b,a=some ⟨g,b,none⟩→f=some ⟨g,b,none⟩):=by
  simp only[gM,sliced,ZA,Nat.zero_mul];refine⟨_,rfl,λg b B=>?_⟩;subst B
  split
  ·rfl
  ·simp only[Zd];unfold Addr.add
   split<;>simp_all
 obtain⟨f,n,o⟩:=C;rw[n];refine⟨?_,f,xs.length-m+r,by rw[d];congr 1;omega⟩;by_cases e:m=0
 ·subst e;exact .inl ⟨aaB,_,_,rfl⟩
 ·obtain⟨g,b,l,t,p,c,u,w,x⟩:=s.some (i:=0) Om;injection u with q D F;refine .inr ⟨g,b,l,t,p,_,by rw[o _ _ q,d],w,?_⟩;have A:ao en xs=ao en (xs.take m)++ao en (xs.drop m):=by rw[←kk,Z7]
  have j:=ALca (λy=>y.take (ao en (xs.take m)).length) x;rw[List.take_take,A,YY,aaC (Nat.le_add_right _ _),List.take_left] at j;exact j
def xU(P:Program)(p:Nat)(x:aC)(v:Value)(m s:Nat)(o:Oper)(ρ:Operand→Value)(_:cq):MD:=match o.op with
 | .slice T a none (some b) none=>⟨[(p,x)],λ_=>[],[sE (ρ a) v,sE (ρ b) (.int .i64 (m:Int)),sE (P.underlying T,iR P (P.elem T)) (some (.slice (P.elem T)),some s)]⟩
 | _=>MD.bad
theorem Kz(p:Nat)(x:aC)(m s:Nat)(h: ∀bs,x.sat bs→aP en v xs bs)(u:m≤xs.length):MD.ok P (λ_=>gM v 0 m s) (xU P p x v m s) []:=by
 intro o ρ C d w c g;unfold xU at d g⊢
 split at d
 ·rename_i f a b e;simp only[e] at g⊢;simp only[YZ,YW,or_false,forall_eq_or_imp,forall_eq,sE] at d;obtain⟨n,q,j⟩:=d;obtain⟨l,h2⟩:=g.ent;obtain⟨i,r,rfl⟩:=(h _ l).2;have k:P.underlying f=some (.slice (P.elem f)):=ALca (·.1) j;have t:(Instr.sliceAt f (.slice i xs.length (xs.length+r)) none (some (.int .i64 (m:Int))) none).run P w= .ok (sliced i 0 m (xs.length+r) s) w:=by
   rw[run_sliceAt_slice (h:=k),run_slice_h (ht:=k) (kh:= .i64) (h:=(m:Int)) (h0:=by omega) (h2:=by omega),nJ (ALca (·.2) j)];simp only[Y6,Zp]
  refine⟨ab.zero,λ_=>[],w,.inl ?_,λx h=>by simp at h,by simpa using a7.refl w⟩;unfold execOp;simp only[e,n,Zd,Option.map_none,q,Zk,t,Y6,Zl,gM]
 ·exact(bE d).elim
def CE(p:Nat)(x:aC)(m s:Nat)(h: ∀bs,x.sat bs→aP en v xs bs)(a:m≤xs.length):MH P (λ_=>gM v 0 m s):=⟨[],xU P p x v m s,Kz p x m s h a⟩
end
theorem CF{z:List Value}: ∀{n i:Nat},i<n*z.length→((YU n z).flatten)[i]? =z[i%z.length]?
 | 0,i,h=>by omega
 | n+1,i,h=>by
  rw[List.replicate_succ,List.flatten_cons];rcases Zj i z.length with a | a
  ·rw[ZC a,Y7 a]
  ·rw[Y9 a,CF (n:=n) (by rw[Nat.succ_mul] at h;omega),Nat.mod_eq_sub_mod a]
theorem KA{z:List Value}(n:Nat):madeCells z.toArray (n*z.length)=((YU n z).flatten).toArray:=by
 apply Array.ext';apply ZW;intro i;rw[Array.getElem?_toList];unfold madeCells;rw[Array.getElem?_map];rcases Zj i (n*z.length) with a | a
 ·rw[Array.getElem?_range,ALifp a,CF a,Zd];have c:0<z.length:=Nat.pos_of_ne_zero λe=>by rw[e,Nat.mul_zero] at a;omega
  have b:i%z.length<z.length:=Zr _ c;rw[Ze b];simp [b]
 ·rw[Array.getElem?_range,ALifn Om,Za (by simp;exact a)];rfl
section
variable {α:Type} {P:Program}
def xV(P:Program)(en:α→List Value)(z:List Value)(a:TypeId)(d:α)(T:TypeId)(p n:Nat)(o:Oper)(ρ:Operand→Value)(_:cq):MD:=
 ⟨[],λE=>[(p,.p (ar en z a (.slice (some ⟨E.y 0,0,none⟩) n n) (YU n d)))],[sE (λw=>(execOp ρ o).run P w) (λw=>(vS (Instr.makeSlice T (.int .i64 (n:Int)) (.int .i64 (n:Int)))).run P w)]⟩
theorem KB(K:Kd P α)(p n:Nat)(h:K.en K.d=K.z)(l:n≤1000000):MD.ok P (λE=> .slice (some ⟨E.y 0,0,none⟩) n n) (xV P K.en K.z K.T K.d K.TS p n) []:=by
 intro o ρ C a w c g;simp only[xV,ZT,forall_eq,sE] at a g⊢;obtain⟨q,⟨i,f,k,r,m,d,b⟩,s⟩:=K.hT;have e:=run_make (P:=P) K.TS K.T i f q k r .i64 .i64 (n:Int) (n:Int) Om (Int.le_refl _) (by have:=Z3 b l;omega) Om (w:=w);rw[Zp,m,show f.cells=K.z.toArray by rw[←d],KA] at e;have a:=congrFun a w;have j:ao K.en (YU n K.d)=(YU n K.z).flatten:=by unfold ao;rw[List.flatMap_replicate,h]
 refine⟨ab.of w.heap.size,λ_=>[(w.heap.size,.cells ((YU n K.z).flatten).toArray K.T (0,0))],_,.inl (a.trans (lJ e)),?_,by simpa using a7.alloc w (.cells ((YU n K.z).flatten).toArray K.T (0,0))⟩;refine .inr ⟨w.heap.size,0,by rw[Y1];rfl,?_⟩;rw[j];unfold bF;rw[aag,aas,YX]
def rK(K:Kd P α)(p n:Nat)(b:n≤1000000:=by omega)(a:K.en K.d=K.z:=by rfl):cb P:= .m ⟨[],xV P K.en K.z K.T K.d K.TS p n,KB K p n a b⟩
end
theorem aP.cells{α:Type}{en:α→List Value}{v:Value}{xs:List α}{bs:aA}(h:aP en v xs bs):v.cells=#[v]:=by
 obtain⟨a,r,rfl⟩:=h.2;rfl
def xW(P:Program)(p q:Nat)(x:aC)(v:Value)(o:Oper)(ρ:Operand→Value)(_:cq):MD:=match o.op with
 | .box T a=>⟨[(q,x)],λE=>[(p,ob (E.y 0) #[v] T)],[sE (ρ a) v]⟩
 | _=>MD.bad
theorem KC{P:Program}(p q:Nat)(x:aC)(v:Value)(hv: ∀bs,x.sat bs→v.cells=#[v]):MD.ok P (λE=> .pointer (some ⟨E.y 0,0,none⟩)) (xW P p q x v) []:=by
 intro o ρ C b w c e;unfold xW at b e⊢
 split at b
 ·rename_i T a d;simp only[d] at e⊢;simp only[YZ,YW,or_false,forall_eq,sE] at b;have f:x.sat (c q):=e.sat (q,x) (by simp);have g:=hv _ f;refine⟨ab.of w.heap.size,λ_=>[(w.heap.size,.cells #[v] T (0,0))],_,.inl ?_,λy h=>?_,by simpa using a7.alloc w (.cells #[v] T)⟩
  ·unfold execOp;simp only[d,b,Zk,show(Instr.box T v).run P w= .ok (.pointer (some ⟨w.heap.size,0,none⟩)) (w.alloc (.cells v.cells T)) from rfl,g,Y6,Zl];rfl
  ·rw[List.mem_singleton.1 h];rfl
 ·exact(bE b).elim
def KD{P:Program}(p q:Nat)(x:aC)(v:Value)(hv: ∀bs,x.sat bs→v.cells=#[v]):cb P:= .m ⟨[],xW P p q x v,KC p q x v hv⟩
def xX{α:Type}(P:Program)(K:Kd P α)(p n:Nat)(ys:List α)(o:Oper)(ρ:Operand→Value)(_:cq):MD:=
 ⟨[],λE=>[(p,.p (ar K.en K.z K.T (.slice (some ⟨E.y 0,0,none⟩) n n) ys))],[sE (λw=>(execOp ρ o).run P w) (λw=> .ok (.value (.slice (some ⟨w.heap.size,0,none⟩) n n)) (w.alloc (.cells (ao K.en ys).toArray K.T))),sE ys.length n]⟩
theorem KE{α:Type}{P:Program}(K:Kd P α)(p n:Nat)(ys:List α):MD.ok P (λE=> .slice (some ⟨E.y 0,0,none⟩) n n) (xX P K p n ys) []:=by
 intro o ρ C a w c b;simp only[xX,YZ,YW,or_false,forall_eq_or_imp,forall_eq,sE] at a b⊢;obtain⟨a,rfl⟩:=a;refine⟨ab.of w.heap.size,λ_=>[(w.heap.size,.cells (ao K.en ys).toArray K.T (0,0))],_,.inl (congrFun a w),?_,by simpa using a7.alloc w (.cells (ao K.en ys).toArray K.T (0,0))⟩;refine .inr ⟨w.heap.size,0,rfl,?_⟩;unfold bF;rw[aag,aas,YX]
def gO{α:Type}{P:Program}(K:Kd P α)(p n:Nat)(ys:List α):cb P:= .m ⟨[],xX P K p n ys,KE K p n ys⟩
def xY(P:Program)(q:Nat)(x:aC)(s:Sem Value)(o:Oper)(ρ:Operand→Value)(_:cq):MD:=⟨[(q,x)],λ_=>[],[sE (λw=>(execOp ρ o).run P w) (λw=>(vS s).run P w)]⟩
theorem KF{P:Program}{v:Value}(q:Nat)(x:aC)(s:Sem Value)(h: ∀bs,x.sat bs→∀w,s.run P w= .ok v w):MD.ok P (λ_=>v) (xY P q x s) []:=by
 intro o ρ C b w c a;simp only[xY,ZT,forall_eq,sE] at b a⊢;have d:x.sat (c q):=a.sat (q,x) (by simp);exact⟨ab.zero,λ_=>[],w,.inl ((congrFun b w).trans (lJ (h _ d w))),λy h=>by simp at h,by simpa using a7.refl w⟩
def KG{P:Program}{v:Value}(q:Nat)(x:aC)(s:Sem Value)(h: ∀bs,x.sat bs→∀w,s.run P w= .ok v w):cb P:= .m ⟨[],xY P q x s,KF q x s h⟩
theorem KH{P:Program}(w:World)(T U TY b:TypeId)(A:Addr)(e d:Nat)(a:Option Addr)(c:Nat)(g:P.underlying T=some (.slice b)){i:TypeInfo}(f:P.info? b=some i):
  (Builtin.copy_ #[T,U] TY #[.slice (some A) e d,.slice a 0 c]).run P w= .ok (goInt 0) w:=by
 cases a<;>simp [Builtin.copy_,run_underlying g,Builtin.lenOf,Builtin.firstCells,sizeOf,typeInfo,f,storeCells,loadCells,loadCellsFrom]
theorem a7.same{w:World}{g:Nat}{o:Obj}(h:w.heap[g]? =some o):a7 [g] [(g,o)] w w:=a7.put rfl rfl rfl rfl h (λ_ _=>rfl)
section
variable {α:Type} {P:Program}
def xZ(P:Program)(p g off b a:Nat)(cs cs':Array Value)(t T U TY:TypeId)(q:Nat)(x:aC)(u:Value)(o:Oper)(ρ:Operand→Value)(_:cq):MD:=⟨[(p,ob g cs t),(q,x)],λ_=>[(p,ob g cs' t)],[sE (λw=>(execOp ρ o).run P w) (λw=>(IY T U TY (.slice (some ⟨g,off,none⟩) b a) u).run P w)]⟩
theorem KJ(K:Kd P α)(L:K.k=1)(p g off f l:Nat)(cs cs':Array Value)(t U TY:TypeId)(q:Nat)(x:aC)(u:Value)(ys:List α)(Y: ∀bs,x.sat bs→dO K.en u ys bs)(R:ys.length≤f)(hf:off+ys.length≤cs.size)(I:(cs.toList.take off++ao K.en ys++cs.toList.drop (off+(ao K.en ys).length)).toArray=cs'):
  MD.ok P (λ_=> .int .i64 (ys.length:Int)) (xZ P p g off f l cs cs' t K.TS U TY q x u) [p]:=by
 intro o ρ C B w c m;simp only[xZ,ZT,forall_eq,sE] at B m⊢;have S:=m.has;obtain⟨r,W⟩:=m.two;obtain⟨b,s⟩:=r.one;obtain⟨N,⟨i,zv,J,hz,G,hzc,Q⟩,h0⟩:=K.hT;have D:(ao K.en ys).length=ys.length:=by rw[fD (n:=ys.length) (k:=1) (λy=>(K.hk y).trans L) rfl,Zq]
 rcases Y _ W with⟨rfl,a,h,rfl⟩ | ⟨H,d,j,t2,O,h,rfl,V,F⟩
 ·have e:cs'=cs:=by
   rw[←I];apply Array.ext';simp [ao]
  subst e;refine⟨ab.zero,λ_=>[(g,.cells cs' t (0,0))],w,.inl ((congrFun B w).trans (lJ (KH w K.TS U TY K.T ⟨g,off,none⟩ f l a h N J))),rfl,by simpa [b,bN] using a7.same s⟩
 ·have A:w.heap[H]? =some (.cells j t2 O):=S.obj _ (List.mem_flatMap.2 ⟨(q,x),by simp,V⟩);have M:=run_copy_row (P:=P) w K.TS U TY K.T g off f l ⟨H,d,none⟩ ys.length h cs t (ao K.en ys) N (by rw[J,Zd,G,←K.hz,L]) s (by rw[D];exact(aaC R).symm) (oC A F) (by rw[D];exact hf) (by
   intro v X;obtain⟨y,_,Z⟩:=List.mem_flatMap.1 X;exact K.one y v Z)
  rw[I,D] at M;exact⟨ab.zero,λ_=>[(g,.cells cs' t (0,0))],_,.inl ((congrFun B w).trans (lJ M)),rfl,by simpa [b,bN] using a7.setRow cs' s⟩
def uH(K:Kd P α)(p g off a b:Nat)(cs cs':Array Value)(t U TY:TypeId)(q:Nat)(x:aC)(u:Value)(ys:List α)(f: ∀bs,x.sat bs→dO K.en u ys bs)(d:ys.length≤a)(hf:off+ys.length≤cs.size)(c:(cs.toList.take off++ao K.en ys++cs.toList.drop (off+(ao K.en ys).length)).toArray=cs')(e:K.k=1:=by rfl):MH P (λ_=> .int .i64 (ys.length:Int)):=⟨[p],xZ P p g off a b cs cs' t K.TS U TY q x u,KJ K e p g off a b cs cs' t U TY q x u ys f d hf c⟩
theorem oL{en:α→List Value}{d:α}{a m c:Nat}{ys:List α}{t:TypeId}(h1: ∀x,(en x).length=1)(h:ys.length=m):dO en (.slice (some ⟨a,0,none⟩) m c) ys [(a,.cells ((cD en d m ys).toArray) t (0,0))]:=
 .inr ⟨a,0,_,t,(0,0),c,by rw[h],by simp,BN (d:=d) h⟩
end
end
section
open Go Go.RowKit Go.Shelf
section
variable {α:Type} {P:Program} {en:α→List Value} {v:Value} {xs:List α}
def x8(P:Program)(p:Nat)(x:aC)(v:Value)(n:Nat)(o:Oper)(ρ:Operand→Value)(_:cq):MD:=match o.op with
 | .sliceToArrayPointer T a=>⟨[(p,x)],λ_=>[],[sE (ρ a) v,sE (P.underlying T) (some (.array n (P.elem T)))]⟩
 | _=>MD.bad
theorem KK(p:Nat)(x:aC)(n:Nat)(h: ∀j,x.sat j→dO en v xs j)(h0:0<n)(A:n≤xs.length):MD.ok P (λ_=>e6 v 0) (x8 P p x v n) []:=by
 intro o ρ C b w c f;unfold x8 at b f⊢
 split at b
 ·rename_i T a d;simp only[d] at f⊢;simp only[YZ,YW,or_false,forall_eq_or_imp,forall_eq,sE] at b;obtain⟨m,l⟩:=b;obtain⟨k,y⟩:=f.ent;obtain⟨g,q,s,t,u,r,rfl,_⟩:=(h _ k).some (i:=0) Om;refine⟨ab.zero,λ_=>[],w,.inl ?_,λx h=>by simp at h,by simpa using a7.refl w⟩;unfold execOp;simp only[d,m,Zk,run_arrayAt w T (P.elem T) n _ _ _ l Om,Y6,Zl,e6,add_lit,Zt]
 ·exact(bE b).elim
def CG(p:Nat)(x:aC)(n:Nat)(h: ∀a,x.sat a→dO en v xs a)(h0:0<n)(b:n≤xs.length):MH P (λ_=>e6 v 0):=⟨[],x8 P p x v n,KK p x n h h0 b⟩
theorem KL(p:Nat)(x:aC)(n:Nat)(l:List Value)(h: ∀i,x.sat i→dO en v xs i)(u:ao en xs=l)(h0:0<xs.length)(y:l.length=n):MD.ok P (λ_=> .agg l.toArray) (m3 P p x v 0 n) []:=by
 intro o ρ C b w c f;unfold m3 at b f⊢
 split at b
 ·rename_i B a d;simp only[d] at f⊢;simp only[YZ,YW,or_false,forall_eq_or_imp,forall_eq,sE,sB] at b;obtain⟨k,s,A⟩:=b;obtain⟨m,q⟩:=f.ent;obtain⟨g,H,F,t,G,D,rfl,r,j⟩:=(h _ m).some h0;refine⟨ab.zero,λ_=>[],w,.inl ?_,λx h=>by simp at h,by simpa using a7.refl w⟩;unfold execOp;simp only[e6,add_lit,Zt] at k;rw[u] at j;simp only[d,k,Instr.loadAt,Instr.sureAddr,Zk,Zl,Y6,Ca (q.obj _ r) j s (by rw[A,y])]
 ·exact(bE b).elim
def CH(p:Nat)(x:aC)(n:Nat)(l:List Value)(h: ∀a,x.sat a→dO en v xs a)(b:ao en xs=l)(h0:0<xs.length)(c:l.length=n):MH P (λ_=> .agg l.toArray):=⟨[],m3 P p x v 0 n,KL p x n l h b h0 c⟩
theorem CI{d:α}{n:Nat}(a: ∀x,(en x).length=1)(h:xs.length=n):(cD en d n xs).length=n:=by rw[kN h,fD a h,Zq]
end
section
variable {α:Type} {P:Program} {en:α→List Value} {z:List Value} {e:TypeId} {xs ys:List α}
theorem KM{T' TY:TypeId}(H:dT P T' e z)(d: ∀y,(en y).length=z.length)(h1: ∀y,∀u∈en y,u.oneCell'=true){w:World}{g:Nat}{cs:Array Value}{t:TypeId}(I:w.heap[g]? =some (.cells cs t (0,0)))
  (q:(cs.toList.drop 0).take (ao en xs).length=ao en xs) {A:Addr} {c:Nat} (Q:0<ys.length) (f: ∀j u,(ao en ys)[j]? =some u→w.cell? (A.add j)=some u) (n:xs.length+ys.length≤1000000):
  ∃D k w',(Builtin.append_ #[T',T'] TY #[.slice (some ⟨g,0,none⟩) xs.length xs.length,.slice (some A) ys.length c]).run P w= .ok D w'∧ar en z e D (xs++ys) k∧a7 [] k w w':=by
 obtain⟨N,⟨i,B,K,O,C,m,p⟩,G⟩:=H;have s:0<B.cells.size:=by rw[←Array.length_toList,m];exact G
 have L:(ao en ys).length=ys.length*i.size:=by rw[C];exact fD d rfl
 have M:(ao en xs).length=xs.length*i.size:=by rw[C];exact fD d rfl
 have o:(xs.length+ys.length)*i.bytes≤140737488355328:=aaG (Z3 n p) Dc;have l:=oC (news:=ao en xs) I (off:=0) q;have h:=run_append_grow (P:=P) w T' TY e i B N K O ⟨g,0,none⟩ xs.length xs.length (ao en xs) M l A ys.length c (ao en ys) L f Om Om (growslice_fits Om o);have J:=grownCap_ge w (xs.length+ys.length) xs.length e;have F:(ao en xs).toArray++(ao en ys).toArray++Builtin.zeroCells B.cells (grownCap w (xs.length+ys.length) xs.length e-(xs.length+ys.length))=bF (ao en (xs++ys)) z (grownCap w (xs.length+ys.length) xs.length e-(xs.length+ys.length)):=by
  apply Array.toList_inj.1;unfold bF;simp only[Array.toList_append,xp _ _ s,m,kk]
 rw[F] at h;refine⟨_,_,_,h,.inr ⟨w.heap.size,grownCap w (xs.length+ys.length) xs.length e-(xs.length+ys.length),by rw[YY];congr 1;omega,rfl⟩,?_⟩;have a:=(Below.refl w.heap.size w.drew).alloc (Zc _) (.cells (bF (ao en (xs++ys)) z (grownCap w (xs.length+ys.length) xs.length e-(xs.length+ys.length))) e);exact⟨a.os,a.tape,a.output,a.size,λx r=>by obtain rfl:=List.mem_singleton.1 r;exact World.alloc_heap_new w.drew _,λx r=>by obtain rfl:=List.mem_singleton.1 r;exact .inr (Zc _),List.pairwise_singleton _ _,λb n _=>a.block b n⟩
def x9(P:Program)(p a q:Nat)(T':TypeId)(g n:Nat)(cs:Array Value)(t:TypeId)(u:Value)(b:aC)(y:ab→aC)(o:Oper)(ρ:Operand→Value)(C:cq):MD:=
 ⟨[(a,ob g cs t),(q,b)],λE=>[(p,y E)],[sE (λw=>(execOp ρ o).run P w) (λw=>(qY T' o.type (.slice (some ⟨g,0,none⟩) n n) u).run P w)]⟩
theorem KN{T':TypeId}(p m q g n:Nat)(cs:Array Value)(t:TypeId)(H:dT P T' e z)(u:Value)(r:aC)(l: ∀s,r.sat s→dO en u ys s)(a: ∀y,(en y).length=z.length)(h1: ∀y,∀u∈en y,u.oneCell'=true)(K:xs.length=n)(i:(cs.toList.drop 0).take (ao en xs).length=ao en xs)(B:0<ys.length)(I:xs.length+ys.length≤1000000):
  MD.ok P (λE=>E.val 0) (x9 P p m q T' g n cs t u r (λE=> .p (ar en z e (E.val 0) (xs++ys)))) []:=by
 subst K;intro o ρ C A w c b;simp only[x9,YZ,YW,or_false,forall_eq,sE] at A b⊢;have L:c m=[(g,.cells cs t (0,0))]:=b.sat (m,ob g cs t) (by simp);have M:dO en u ys (c q):=l _ (b.sat (q,r) (by simp));have d:=b.has;simp only[List.flatMap_cons,List.flatMap_nil,YX] at d;have J:w.heap[g]? =some (.cells cs t (0,0)):=d.obj (g,.cells cs t (0,0)) (by rw[L];simp);have j:eh (c q) w:=⟨λx l=>d.obj x (List.mem_append_right _ l),(List.pairwise_append.1 d.nd).2.1⟩;rcases M with⟨rfl,_⟩ | ⟨U,Q,F,V,T,D,rfl,h,G⟩
 ·simp at B
 ·obtain⟨R,f,S,N,O,k⟩:=KM (TY:=o.type) (c:=D) H a h1 J i B (oC (j.obj _ h) G) I;exact⟨ab.ov R,λ_=>f,S,.inl ((congrFun A w).trans (ub N)),O,by simpa using k⟩
def KP{T':TypeId}(p f q g n:Nat)(cs:Array Value)(t:TypeId)(h:dT P T' e z)(u:Value)(c:aC)(k: ∀d,c.sat d→dO en u ys d)(h1: ∀y,∀u∈en y,u.oneCell'=true)(a: ∀y,(en y).length=z.length)(j:xs.length=n)(b:(cs.toList.drop 0).take (ao en xs).length=ao en xs)(l:0<ys.length)(i:xs.length+ys.length≤1000000):MH P (λE=>E.val 0):=
 ⟨[],x9 P p f q T' g n cs t u c (λE=> .p (ar en z e (E.val 0) (xs++ys))),KN p f q g n cs t h u c k a h1 j b l i⟩
def KQ(K:Kd P α)(p j q g n:Nat)(cs:Array Value)(t:TypeId)(xs ys:List α)(u:Value)(c:aC)(h: ∀b,c.sat b→dO K.en u ys b)(f:xs.length=n)(a:(cs.toList.drop 0).take (ao K.en xs).length=ao K.en xs)(i:0<ys.length)(d:xs.length+ys.length≤1000000):MH P (λE=>E.val 0):=KP (xs:=xs) p j q g n cs t K.hT u c h K.one K.lz f a i d
end
end
section
open Go Go.RowKit Go.Shelf
def bw(x:Nat):Nat→Nat
 | 0=>x
 | k+1=>bw x k&&& (bw x k-1)
theorem rL(x:Nat): ∀k,bw x k≤x
 | 0=>Zc _
 | k+1=>aaG Nat.and_le_left (rL x k)
theorem pP{x:Nat}(c:x<18446744073709551616){k:Nat}(h:pc (bw x k)+k=pc x)(h0:((bw x k:Nat):Int)≠0):pc (bw x (k+1))+(k+1)=pc x∧k<pc x:=by
 have a:=rL x k;have b:=AX (bw x k) Om Om;show pc (bw x k&&& (bw x k-1))+(k+1)=pc x∧_;omega
theorem ya{x k:Nat}(h:pc (bw x k)+k=pc x)(h0:((bw x k:Nat):Int)=0):k=pc x:=by
 have a:bw x k=0:=by omega
 rw[a,wY] at h;omega
attribute [local irreducible] pc
theorem rO(x:Nat)(m:x<18446744073709551616):aa YV 171 #[u6 (x:Int)] [] [] N0 (λ_=>iN (pc x)):=by
 refine fG Tryz.func171 λw l=>r0 [] [(2,i6 0)] [] (r0 [] [(3,i6 0)] [] ?_);refine lq (λk=>k≤pc x∧(pc (bw x k)+k=pc x)) (λk=>[(0,u6 ((bw x k:Nat):Int)),(3,iN k)]) (λ_ L=>L) (λk=>(pc x)-k) 0 ⟨by omega,(Zt (pc x))⟩ Kr Kr (λk ⟨g,d⟩=>?_);have f:=rL x k;have j:=wZ x;refine r0 [] [(5,.bool (((bw x k:Nat):Int) != 0))] [] ?_;refine m6 ((bw x k:Nat):Int) 0 (λe c=>?_) λe c=>?_
 ·refine r0 [(2,.t (tv (av .sub 44 (.tmp 7) (.const (u6 1)) (u6 ((bw x k:Nat):Int)) (u6 1)) (λ_=>Ks (b:=1) Om Om))),(3,.t (tv (av .and 44 (.tmp 6) (.tmp 8) (u6 ((bw x k:Nat):Int)) (u6 ((bw x k-1:Nat):Int))) (λ_=>CB (a:=bw x k) (b:=bw x k-1) Om Om)))] [(0,u6 ((bw x (k+1):Nat):Int))] [0] (r0 [(1,ad k 1)] [(3,iN (k+1))] [3] ?_);have i:=pP Om d As;exact le (k+1) ⟨by omega,(pP Om d As).1⟩ Om Kr [] Kr
 have h:=ya d As;obtain rfl:k=pc x:=by omega
 exact lx (r0 [] [(2,iN (pc x))] [2] (lf ab.zero [] [] []))
theorem KR(x:Nat)(m:x<4294967296):aa YV 230 #[.int .u32 (x:Int)] [] [] N0 (λ_=>iN (pc x)):=by
 refine fG Tryz.func230 λw l=>r0 [] [(2,i6 0)] [] (r0 [] [(3,i6 0)] [] ?_);refine lq (λk=>k≤pc x∧(pc (bw x k)+k=pc x)) (λk=>[(0,.int .u32 ((bw x k:Nat):Int)),(3,iN k)]) (λ_ L=>L) (λk=>(pc x)-k) 0 ⟨by omega,(Zt (pc x))⟩ Kr Kr (λk ⟨g,d⟩=>?_);have f:=rL x k;have j:=wZ x;refine r0 [] [(5,.bool (((bw x k:Nat):Int) != 0))] [] ?_;refine m6 ((bw x k:Nat):Int) 0 (λe c=>?_) λe c=>?_
 ·refine r0 [(2,.t (tv (av .sub 329 (.tmp 7) (.const (.int .u32 1)) (.int .u32 ((bw x k:Nat):Int)) (.int .u32 1)) (λ_=>Kt (b:=1) Om Om))),(3,.t (tv (av .and 329 (.tmp 6) (.tmp 8) (.int .u32 ((bw x k:Nat):Int)) (.int .u32 ((bw x k-1:Nat):Int))) (λ_=>Kp (a:=bw x k) (b:=bw x k-1) Om Om)))] [(0,.int .u32 ((bw x (k+1):Nat):Int))] [0] (r0 [(1,ad k 1)] [(3,iN (k+1))] [3] ?_);have i:=pP Om d As;exact le (k+1) ⟨by omega,(pP Om d As).1⟩ Om Kr [] Kr
 have h:=ya d As;obtain rfl:k=pc x:=by omega
 exact lx (r0 [] [(2,iN (pc x))] [2] (lf ab.zero [] [] []))
theorem CJ(x:Nat)(m:x<256):aa YV 251 #[u1 (x:Int)] [] [] N0 (λ_=>iN (pc x)):=by
 refine fG Tryz.func251 λw l=>r0 [] [(2,i6 0)] [] (r0 [] [(3,i6 0)] [] ?_);refine lq (λk=>k≤pc x∧(pc (bw x k)+k=pc x)) (λk=>[(0,u1 ((bw x k:Nat):Int)),(3,iN k)]) (λ_ L=>L) (λk=>(pc x)-k) 0 ⟨by omega,(Zt (pc x))⟩ Kr Kr (λk ⟨g,d⟩=>?_);have f:=rL x k;have j:=wZ x;refine r0 [] [(5,.bool (((bw x k:Nat):Int) != 0))] [] ?_;refine m6 ((bw x k:Nat):Int) 0 (λe c=>?_) λe c=>?_
 ·refine r0 [(2,.t (tv (av .sub 5 (.tmp 7) (.const (u1 1)) (u1 ((bw x k:Nat):Int)) (u1 1)) (λ_=>Ku (b:=1) Om Om))),(3,.t (tv (av .and 5 (.tmp 6) (.tmp 8) (u1 ((bw x k:Nat):Int)) (u1 ((bw x k-1:Nat):Int))) (λ_=>Kq (a:=bw x k) (b:=bw x k-1) Om Om)))] [(0,u1 ((bw x (k+1):Nat):Int))] [0] (r0 [(1,ad k 1)] [(3,iN (k+1))] [3] ?_);have i:=pP Om d As;exact le (k+1) ⟨by omega,(pP Om d As).1⟩ Om Kr [] Kr
 have h:=ya d As;obtain rfl:k=pc x:=by omega
 exact lx (r0 [] [(2,iN (pc x))] [2] (lf ab.zero [] [] []))
theorem CK:aa YV 215 #[] [] [] N0 (λ_=>i6 8):=by
 exact fG Tryz.func215 λw a=>r0 [] [(0,i6 0)] [] (r0 [(1,.t (tv (Op.unary .xor (u1 0)) (λ_=>rfl))),(2,.c [] [] (CJ 255 Om))] [(0,iN (pc 255))] [0] (aq (iN (pc 255)) ab.zero Kr [] [] []))
theorem KS(x:Nat)(d:x<4294967296):aa YV 199 #[.int .u32 (x:Int)] [] [] N0 (λ_=>iN (pc x%2)):=by
 exact fG Tryz.func199 λw b=>r0 [] [(2,i6 0)] [] (r0 [(1,.c [] [] (KR x Om)),(2,.t (tv (av .and 3 (.tmp 4) (.const (i6 1)) (iN (pc x)) (i6 1)) (λ_=>CD (a:=pc x))))] [(2,iN (pc x%2))] [2] (lf ab.zero [] [] []))
def on(x k:Nat):Nat:=(ft k 0 x).length
theorem pQ: ∀(k i x:Nat),ft (k+1) i x=ft k i x++(bif x/2^k%2==1 then[i+k] else[])
 | 0,i,x=>by
  show(if x%2=1 then i::ft 0 (i+1) (x/2) else ft 0 (i+1) (x/2))=[]++_;rw[aaa,aak];by_cases h:x%2=1
  ·rw[ALifp h,h];rfl
  ·rw[ALifn h,show(x%2==1)=false from beq_false_of_ne h];rfl
 | k+1,i,x=>by
  have e:=pQ k (i+1) (x/2);rw[Zm,aab,←aac,show i+1+k=i+(k+1) by omega] at e;show(if x%2=1 then i::ft (k+1) (i+1) (x/2) else ft (k+1) (i+1) (x/2))=(if x%2=1 then i::ft k (i+1) (x/2) else ft k (i+1) (x/2))++_;rw[e];by_cases h:x%2=1
  ·rw[ALifp h,ALifp h];rfl
  ·rw[ALifn h,ALifn h]
theorem CM(x k:Nat): ∀d,∃t,ft (k+d) 0 x=ft k 0 x++t
 | 0=>⟨[],(YX _).symm⟩
 | d+1=>by
  obtain⟨t,h⟩:=CM x k d;exact⟨_,by rw[show k+(d+1)=k+d+1 from rfl,pQ,h,ZE]⟩
theorem KT{x k:Nat}(h:(((x/2^k%2:Nat):Int)==1)=true):on x (k+1)=on x k+1:=by
 have a:x/2^k%2=1:=by have:=eq_of_beq h;omega
 unfold on;rw[pQ,a,YY];rfl
theorem KU{x k:Nat}(h:(((x/2^k%2:Nat):Int)==1)=false):on x (k+1)=on x k:=by
 have a:(x/2^k%2==1)=false:=by have:=ne_of_beq_false h;exact beq_false_of_ne Om
 unfold on;rw[pQ,a,YY];rfl
theorem KW{x k:Nat}(c:k<64)(h:(((x/2^k%2:Nat):Int)==1)=true):(bA x)[on x k]? =some k:=by
 have b:x/2^k%2=1:=by have:=eq_of_beq h;omega
 obtain⟨t,e⟩:=CM x (k+1) (64-(k+1));have a:=pQ k 0 x;rw[b] at a;rw[show k+1+(64-(k+1))=64 by omega,a,ZE] at e;show(ft 64 0 x)[(ft k 0 x).length]? =_;rw[e,Y9 (Zc _),ZK];show some (0+k)=_;rw[Zf]
theorem KX{x k:Nat}(e:k≤64)(c:((x/2^k:Nat):Int)=0):on x k=(bA x).length:=by
 have h:x/2^k=0:=Int.ofNat.inj c;have b: ∀d,ft (k+d) 0 x=ft k 0 x:=by
  intro d
  induction d with
  | zero=>rfl
  | succ d ih=>
   rw[show k+(d+1)=k+d+1 from rfl,pQ,ih,Nat.pow_add,←Zm,h,Nat.zero_div];exact YX _
 have a:=b (64-k);rw[show k+(64-k)=64 by omega] at a;exact ALca aaF a.symm
theorem CN{x:Nat}(k:Nat):x/2^(k+1)=x/2^k/2^1:=by rw[aac,←Zm]
theorem yb{x k:Nat}(b:x<18446744073709551616)(a:k≤64)(h:((x/2^k:Nat):Int)≠0):k<64:=by
 refine Nat.lt_of_le_of_ne a λe=>?_;subst e;exact h (by have:x/2^64=0:=Nat.div_eq_of_lt b;omega)
theorem CO(g x:Nat)(h:x<18446744073709551616):pF 5 YV 172 #[pt g 0] (λ(i:Nat)=>#[iN i]) (bA x) (Zs []) [(g,.cells #[u6 (x:Int)] 44 (0,0))]:=by
 refine gG (KO:=[]) Tryz.func172 (λw z y D B n u r=>?_);refine r0 [] [(3,i6 0)] [] ?_;refine jW (λk=>k≤64) (λk=>[(3,iN k)]) (λk L=>L.set 0 (ob g #[u6 ((x/2^k:Nat):Int)] 44)) (λk=>64-k) (λk=>on x k) 0 Om r Kr (by rw[aaa,aak];kernel_rfl) (λk A C v a=>?_);have c:x/2^k<18446744073709551616:=ZU (Nat.div_le_self _ _) h;refine r0 [(0,.l 0)] [(5,.bool (((x/2^k:Nat):Int) != 0))] [] ?_;refine m6 ((x/2^k:Nat):Int) 0 (λq j=>?_) λq j=>?_
 ·cases f:(((x/2^k%2:Nat):Int)==1)
  case true=>
   have m:=eq_of_beq f;refine iy n u a 6 (λ_=>[(0,.l 0),(1,.t (tv (av .and 44 (.tmp 8) (.const (u6 1)) (u6 ((x/2^k:Nat):Int)) (u6 1)) (λ_=>CC c))),(2,.t (tk (show Value.bool (((x/2^k%2:Nat):Int)==1)= .bool true from ALca Value.bool f)))]) (λ_=>[(11,.bool true),(12,.func (.yield w) #[] #[]),(13,iN k)]) [] (λ_ L=>L) (λ_=>[ob g #[u6 ((x/2^k:Nat):Int)] 44]) [0] (KW (yb h Om As) As) (λF o p b=>?_);refine cF _ rfl (rs [(0,.l 0),(1,.t (tv (av .shr 44 (.tmp 17) (.const (u6 1)) (u6 ((x/2^k:Nat):Int)) (u6 1)) (λ_=>tO 1 Dc))),(2,.s 0)] 0 (ob g #[u6 ((x/2^k/2^1:Nat):Int)] 44) (r0 [(1,ad k 1)] [(3,iN (k+1))] [3] ?_));have e:=yb h Om As;exact iG (k+1) Om (by(rw[KT As]);exact b) Om Kr [0] (by rw[CN (x:=x) k];kernel_rfl)
  have m:=ne_of_beq_false f;refine rF [(0,.l 0),(1,.t (tv (av .and 44 (.tmp 8) (.const (u6 1)) (u6 ((x/2^k:Nat):Int)) (u6 1)) (λ_=>CC c))),(2,.t (tk (show Value.bool (((x/2^k%2:Nat):Int)==1)= .bool false from ALca Value.bool f))),(4,.d),(5,.d),(6,.d),(7,.d)] 16 (rs [(0,.l 0),(1,.t (tv (av .shr 44 (.tmp 17) (.const (u6 1)) (u6 ((x/2^k:Nat):Int)) (u6 1)) (λ_=>tO 1 Dc))),(2,.s 0)] 0 (ob g #[u6 ((x/2^k/2^1:Nat):Int)] 44) (r0 [(1,ad k 1)] [(3,iN (k+1))] [3] ?_));have e:=yb h Om As;exact iG (k+1) Om (by(rw[KU As]);exact a) Om Kr [0] (by rw[CN (x:=x) k];kernel_rfl)
 refine jX ?_;exact kV n a (by exact KX Om As) [ob g #[u6 ((x/2^k:Nat):Int)] 44] [0]
theorem CP(x:Nat):aa YV 132 #[u6 (x:Int)] [] [] (λE=>[ob (E.y 0) #[u6 (x:Int)] 44]) (λE=> .func (.func 172) #[] #[pt ((E.y 0)) 0]):=by
 exact fG Tryz.func132 λw b=>ra (λa=>[(1,pt (B0 a) 0),(2,.nilFunc)]) (λa=>[ob (B0 a) #[u6 (x:Int)] 44]) λa=>r0 [] [(2,.func (.func 172) #[] #[pt (B0 a) 0])] [2] (lf (.l [(a 0).y 0] [] []) [0] [] [])
end
section
open Go Go.RowKit Go.Shelf
attribute [local irreducible] pc
def ch(k:Nat):Nat→List Nat
 | 0=>[]
 | j+1=>ch k j++(bif ((pc j:Nat):Int)==((k:Nat):Int) then[j] else[])
theorem CQ{k j:Nat}(h:(((pc j:Nat):Int)==((k:Nat):Int))=true):(ch k (j+1)).length=(ch k j).length+1:=by
 show(ch k j++_).length=_;rw[h,YY];rfl
theorem CR{k j:Nat}(h:(((pc j:Nat):Int)==((k:Nat):Int))=false):(ch k (j+1)).length=(ch k j).length:=by
 show(ch k j++_).length=_;rw[h,YY];rfl
theorem CS(k j:Nat): ∀d,∃t,ch k (j+d)=ch k j++t
 | 0=>⟨[],(YX _).symm⟩
 | d+1=>by
  obtain⟨t,h⟩:=CS k j d;exact⟨_,by show ch k (j+d)++_=_;rw[h,ZE]⟩
theorem CT{k j n:Nat}(a:j<n)(h:(((pc j:Nat):Int)==((k:Nat):Int))=true):(ch k n)[(ch k j).length]? =some j:=by
 obtain⟨t,e⟩:=CS k (j+1) (n-(j+1));rw[show j+1+(n-(j+1))=n by omega,show ch k (j+1)=ch k j++[j] by show ch k j++_=_;rw[h];rfl,ZE] at e;rw[e,Y9 (Zc _),ZK];rfl
theorem CU{P:Program}{T:TypeId}{x y:Operand}{w:World}:(av .shl T x y (.int .u64 1) (.int .u64 8)).run P w= .ok (.int .u64 256) w:=tQ (a:=1) (yk:= .u64) 8 Dc Dc
theorem KY(g b:Nat):e4 5 YV 214 #[pt g 0,pt b 0] (λ(i:Nat)=>#[u1 ((UInt8.ofNat i).toNat:Int)]) (ch 3 256) (Zs [[(g,.cells #[i6 3] 3 (0,0))],[(b,.cells #[i6 8] 3 (0,0))]]):=by
 refine gi (KO:=[[(g,.cells #[i6 3] 3 (0,0))],[(b,.cells #[i6 8] 3 (0,0))]]) Tryz.func214 (λv y x C A n s r=>?_);refine rF [(0,.l 0),(3,.l 0),(4,.l 1),(8,.l 1),(9,.c [] [] (CK))] 17 (r0 [(0,.l 1),(1,.t (tv (convert 3 201 (i6 8)) (λ_=>m0 Tryz.underlying3 Tryz.underlying201 (c:=8) Om))),(2,.t (tv (av .shl 44 (.const (u6 1)) (.tmp 19) (u6 1) (u6 8)) (λ_=>CU)))] [(20,u6 256),(21,u6 0)] [] ?_);refine jW (λk=>k≤256) (λk=>[(21,u6 (k:Int))]) (λ_ L=>L) (λk=>256-k) (λk=>(ch 3 k).length) 0 Om r Kr Kr (λk z B u f=>?_);refine r0 [] [(22,.bool (decide ((k:Int)<256)))] [] ?_;refine cc (k:Int) 256 (λq m=>?_) λq m=>?_
 ·refine r0 [] [(4,u6 (k:Int))] [] ?_;cases e:((((pc k):Nat):Int)==3)
  case true=>
   have h:=eq_of_beq e;refine iy n s f 8 (λ_=>[(1,.c [] [] (rO k Om)),(2,.l 0),(3,.t (tk (show Value.bool ((((pc k):Nat):Int)==3)= .bool true from ALca Value.bool e))),(7,.t (tv (convert 44 5 (u6 (k:Int))) (λ_=>tS Tryz.underlying44 Tryz.underlying5)))]) (λ_=>[(28,.bool true),(29,.func (.yield v) #[] #[]),(31,u1 ((UInt8.ofNat k).toNat:Int))]) [] (λ_ L=>L) N0 [0,1] (CT Om As) (λw o p j=>?_);refine cF _ rfl (r0 [(0,.t (tb (a:=u6 (k:Int)) (b:=u6 1) λ_ _ _ _=>ua (a:=k) (b:=1) Om))] [(21,u6 ((k+1:Nat):Int))] [21] ?_);exact iG (k+1) Om (by(rw[CQ As]);exact j) Om Kr [0,1] Kr
  have h:=ne_of_beq_false e;refine rF [(1,.c [] [] (rO k Om)),(2,.l 0),(3,.t (tk (show Value.bool ((((pc k):Nat):Int)==3)= .bool false from ALca Value.bool e))),(5,.d),(6,.d),(7,.d),(8,.d),(9,.d)] 34 (r0 [(0,.t (tb (a:=u6 (k:Int)) (b:=u6 1) λ_ _ _ _=>ua (a:=k) (b:=1) Om))] [(21,u6 ((k+1:Nat):Int))] [21] ?_);exact iG (k+1) Om (by(rw[CR As]);exact f) Om Kr [0,1] Kr
 obtain rfl:k=256:=by omega
 refine jX ?_;exact kV n f ba [] [0,1]
theorem KZ(g b:Nat):e4 5 YV 214 #[pt g 0,pt b 0] (λ(i:Nat)=>#[u1 ((UInt8.ofNat i).toNat:Int)]) (ch 5 256) (Zs [[(g,.cells #[i6 5] 3 (0,0))],[(b,.cells #[i6 8] 3 (0,0))]]):=by
 refine gi (KO:=[[(g,.cells #[i6 5] 3 (0,0))],[(b,.cells #[i6 8] 3 (0,0))]]) Tryz.func214 (λv y x C A n s r=>?_);refine rF [(0,.l 0),(3,.l 0),(4,.l 1),(8,.l 1),(9,.c [] [] (CK))] 17 (r0 [(0,.l 1),(1,.t (tv (convert 3 201 (i6 8)) (λ_=>m0 Tryz.underlying3 Tryz.underlying201 (c:=8) Om))),(2,.t (tv (av .shl 44 (.const (u6 1)) (.tmp 19) (u6 1) (u6 8)) (λ_=>CU)))] [(20,u6 256),(21,u6 0)] [] ?_);refine jW (λk=>k≤256) (λk=>[(21,u6 (k:Int))]) (λ_ L=>L) (λk=>256-k) (λk=>(ch 5 k).length) 0 Om r Kr Kr (λk z B u f=>?_);refine r0 [] [(22,.bool (decide ((k:Int)<256)))] [] ?_;refine cc (k:Int) 256 (λq m=>?_) λq m=>?_
 ·refine r0 [] [(4,u6 (k:Int))] [] ?_;cases e:((((pc k):Nat):Int)==5)
  case true=>
   have h:=eq_of_beq e;refine iy n s f 8 (λ_=>[(1,.c [] [] (rO k Om)),(2,.l 0),(3,.t (tk (show Value.bool ((((pc k):Nat):Int)==5)= .bool true from ALca Value.bool e))),(7,.t (tv (convert 44 5 (u6 (k:Int))) (λ_=>tS Tryz.underlying44 Tryz.underlying5)))]) (λ_=>[(28,.bool true),(29,.func (.yield v) #[] #[]),(31,u1 ((UInt8.ofNat k).toNat:Int))]) [] (λ_ L=>L) N0 [0,1] (CT Om As) (λw o p j=>?_);refine cF _ rfl (r0 [(0,.t (tb (a:=u6 (k:Int)) (b:=u6 1) λ_ _ _ _=>ua (a:=k) (b:=1) Om))] [(21,u6 ((k+1:Nat):Int))] [21] ?_);exact iG (k+1) Om (by(rw[CQ As]);exact j) Om Kr [0,1] Kr
  have h:=ne_of_beq_false e;refine rF [(1,.c [] [] (rO k Om)),(2,.l 0),(3,.t (tk (show Value.bool ((((pc k):Nat):Int)==5)= .bool false from ALca Value.bool e))),(5,.d),(6,.d),(7,.d),(8,.d),(9,.d)] 34 (r0 [(0,.t (tb (a:=u6 (k:Int)) (b:=u6 1) λ_ _ _ _=>ua (a:=k) (b:=1) Om))] [(21,u6 ((k+1:Nat):Int))] [21] ?_);exact iG (k+1) Om (by(rw[CR As]);exact f) Om Kr [0,1] Kr
 obtain rfl:k=256:=by omega
 refine jX ?_;exact kV n f ba [] [0,1]
theorem CV(n k:Int):aa YV 180 #[i6 n,i6 k] [] [] (λE=>[ob (E.y 0) #[i6 k] 3,ob (E.y 1) #[i6 n] 3]) (λE=> .func (.func 214) #[] #[pt ((E.y 0)) 0,pt ((E.y 1)) 0]):=by
 exact fG Tryz.func180 λw b=>ra (λa=>[(2,pt (B0 a) 0),(3,pt (B1 a) 0),(4,.nilFunc)]) (λa=>[ob (B0 a) #[i6 n] 3,ob (B1 a) #[i6 k] 3]) λa=>r0 [] [(4,.func (.func 214) #[] #[pt (B1 a) 0,pt (B0 a) 0])] [4] (lf (.l [(a 1).y 0,(a 0).y 0] [] []) [1,0] [] [])
end
end E
def xt(a:Nat):Nat:=(a*2)^^^(if a.testBit 7 then 285 else 0)
def uI:List Nat:=[1,2,4,8,16,32,64,128,29,58,116,232,205,135,19,38,76,152,45,90,180,117,234,201,143,3,6,12,24,48,96,192,157,39,78,156,37,74,148,53,106,212,181,119,238,193,159,35,70,140,5,10,20,40,80,160,93,186,105,210,185,111,222,161,95,190,97,194,153,47,94,188,101,202,137,15,30,60,120,240,253,231,211,187,107,214,177,127,254,225,223,163,91,182,113,226,217,175,67,134,17,34,68,136,13,26,52,104,208,189,103,206,129,31,62,124,248,237,199,147,59,118,236,197,151,51,102,204,133,23,46,92,184,109,218,169,79,158,33,66,132,21,42,84,168,77,154,41,82,164,85,170,73,146,57,114,228,213,183,115,230,209,191,99,198,145,63,126,252,229,215,179,123,246,241,255,227,219,171,75,150,49,98,196,149,55,110,220,165,87,174,65,130,25,50,100,200,141,7,14,28,56,112,224,221,167,83,166,81,162,89,178,121,242,249,239,195,155,43,86,172,69,138,9,18,36,72,144,61,122,244,245,247,243,251,235,203,139,11,22,44,88,176,125,250,233,207,131,27,54,108,216,173,71,142]
def aW:List Nat:=[0,0,1,25,2,50,26,198,3,223,51,238,27,104,199,75,4,100,224,14,52,141,239,129,28,193,105,248,200,8,76,113,5,138,101,47,225,36,15,33,53,147,142,218,240,18,130,69,29,181,194,125,106,39,249,185,201,154,9,120,77,228,114,166,6,191,139,98,102,221,48,253,226,152,37,179,16,145,34,136,54,208,148,206,143,150,219,189,241,210,19,92,131,56,70,64,30,66,182,163,195,72,126,110,107,58,40,84,250,133,186,61,202,94,155,159,10,21,121,43,78,212,229,172,115,243,167,87,7,112,192,247,140,128,99,13,103,74,222,237,49,197,254,24,227,165,153,119,38,184,180,124,17,68,146,217,35,32,137,46,55,63,209,91,149,188,207,205,144,135,151,178,220,252,190,97,242,86,211,171,20,42,93,158,132,60,57,83,71,109,65,162,31,45,67,216,183,123,164,118,196,23,73,236,127,12,111,246,108,161,59,82,41,157,85,170,251,96,134,177,187,204,62,90,203,89,95,176,156,169,160,81,11,245,22,235,122,117,44,215,79,174,213,233,230,231,173,232,116,214,244,234,168,80,88,175]
def gE(i:Nat):Nat:=uI.getD i 0
def gL(a:Nat):Nat:=aW.getD a 0
theorem yc: ∀a,a<256→a≠0→gE (gL a)=a:=by decide+kernel
theorem CW: ∀i,i<255→gL (gE i)=i:=by decide+kernel
theorem uJ: ∀i,i<255→0<gE i∧gE i<256:=by decide+kernel
theorem rP: ∀i,i<256→gL i<255:=by decide+kernel
theorem K0: ∀i,i<255→xt (gE i)=gE ((i+1)%255):=by decide+kernel
theorem K1:uI.length=255:=by decide+kernel
def dc(a b:Nat):Nat:=if a=0∨b=0 then 0 else gE ((gL a+gL b)%255)
theorem K2(a b:Nat):(a^^^b)*2=(a*2)^^^(b*2):=by
 have h:=@Nat.shiftLeft_xor_distrib 1 a b;simpa [Nat.shiftLeft_eq] using h
theorem K3(a b i k:Nat):(if(a^^^b).testBit i then k else 0)=(if a.testBit i then k else 0)^^^(if b.testBit i then k else 0):=by
 rw[Nat.testBit_xor];cases a.testBit i<;>cases b.testBit i<;>simp
theorem K4(a b c d:Nat):(a^^^b)^^^(c^^^d)=(a^^^c)^^^(b^^^d):=by
 ac_rfl
theorem K5(a b:Nat):xt (a^^^b)=xt a^^^xt b:=by
 unfold xt;rw[K2,K3,K4]
theorem K6:xt 0=0:=by decide
theorem K7(a b:Nat):dc a b<256:=by
 unfold dc
 split
 ·omega
 ·exact(uJ _ (Zr _ Om)).2
theorem K8(a b:Nat):dc a b=dc b a:=by
 unfold dc;rw[aaH (gL a)];simp only[or_comm]
theorem uK(a:Nat):dc a 0=0:=by simp [dc]
theorem uL(a:Nat):dc 0 a=0:=by simp [dc]
theorem rQ(i b:Nat)(a:i<255)(c:b≠0):dc (gE i) b=gE ((i+gL b)%255):=by
 have h:=uJ i a;unfold dc;rw[ALifn Om,CW i a]
theorem yd(a b:Nat)(c:a≠0)(d:b≠0):dc a b≠0:=by
 unfold dc;rw[ALifn Om];have:=(uJ ((gL a+gL b)%255) (Zr _ Om)).1;omega
theorem CX(a b:Nat)(c:a≠0)(d:b≠0):gL (dc a b)=(gL a+gL b)%255:=by
 unfold dc;rw[ALifn Om,CW _ (Zr _ Om)]
theorem K9(a b c:Nat):dc (dc a b) c=dc a (dc b c):=by
 by_cases e:a=0
 ·subst e;simp [uL]
 by_cases d:b=0
 ·subst d;simp [uL,uK]
 by_cases f:c=0
 ·subst f;simp [uK]
 have i:=yd a b e d;have j:=yd b c d f;have g:dc (dc a b) c=gE ((gL (dc a b)+gL c)%255):=by rw[dc,ALifn Om]
 have h:dc a (dc b c)=gE ((gL a+gL (dc b c))%255):=by rw[dc,ALifn Om]
 rw[g,h,CX a b e d,CX b c d f]
 congr 1
 omega
theorem ye(i b:Nat)(c:i+1<255):dc (gE (i+1)) b=xt (dc (gE i) b):=by
 by_cases a:b=0
 ·subst a;simp [uK,K6]
 ·rw[rQ _ _ c a,rQ _ _ Om a,K0 _ (Zr _ Om)]
  congr 1
  omega
theorem CY:gE 0=1:=by decide
theorem uM(b:Nat)(a:b<256):dc 1 b=b:=by
 by_cases h:b=0
 ·subst h;rfl
 ·have:=rP b a;rw[←CY,rQ 0 b Om h,Zf,Y7 this,yc b a h]
theorem Lb(i:Nat):i<255→∀b c,b<256→c<256→dc (gE i) (b^^^c)=dc (gE i) b^^^dc (gE i) c:=by
 induction i with
 | zero=>
  intro _ b c a d;have f:b^^^c<256:=Nat.xor_lt_two_pow (n:=8) a d;rw[CY,uM _ f,uM _ a,uM _ d]
 | succ i ih=>
  intro e b c a d;rw[ye _ _ e,ye _ _ e,ye _ _ e,ih Om b c a d,K5]
theorem Lc(a b c:Nat)(d:a<256)(e:b<256)(f:c<256):dc a (b^^^c)=dc a b^^^dc a c:=by
 by_cases h:a=0
 ·subst h;simp [uL]
 ·have:=rP a d;rw[←yc a d h];exact Lb _ this b c e f
def YA(b i k:Nat):Nat:=if b/2^i%2=1 then k else 0
theorem Yi(b i k:Nat)(a:k<256):YA b i k<256:=by unfold YA;split<;>omega
def na(x y:Nat):Nat:=if x=0 then 0 else gE ((gL x+255-gL y)%255)
theorem CZ(x y:Nat):na x y<256:=by
 unfold na;split
 ·omega
 ·exact(uJ _ (Zr _ Om)).2
theorem C0(x y:Nat)(lx:x<256)(ly:y<256)(a:y≠0):dc (na x y) y=x:=by
 unfold na;split
 ·rename_i h;rw[h,uL]
 ·rename_i h;have b:=rP x lx;have c:=rP y ly;rw[rQ _ _ (Zr _ Om) a,show((gL x+255-gL y)%255+gL y)%255=gL x from by omega,yc x lx h]
def gm(a b:UInt8):UInt8:=UInt8.ofNat (dc a.toNat b.toNat)
theorem kW(a b:UInt8):(gm a b).toNat=dc a.toNat b.toNat:=by
 unfold gm;rw[Zy];exact Y7 (K7 _ _)
theorem iW(a b:UInt8):gm a b=gm b a:=by unfold gm;rw[K8]
theorem kr(a b c:UInt8):gm (gm a b) c=gm a (gm b c):=by
 apply UInt8.toNat_inj.1;rw[kW,kW,kW,kW,K9]
theorem rS(a b c:UInt8):gm a (b^^^c)=gm a b^^^gm a c:=by
 apply UInt8.toNat_inj.1;rw[kW,aat,aat,kW,kW,Lc _ _ _ a.toNat_lt b.toNat_lt c.toNat_lt]
theorem rU(a b c:UInt8):gm (b^^^c) a=gm b a^^^gm c a:=by rw[iW,rS,iW a b,iW a c]
theorem kX(a:UInt8):gm a 0=0:=by unfold gm;rw[UInt8.toNat_zero,uK];rfl
theorem gP(a:UInt8):gm 0 a=0:=by rw[iW,kX]
theorem yf(a:UInt8):gm 1 a=a:=by
 apply UInt8.toNat_inj.1;rw[kW,show(1:UInt8).toNat=1 from rfl,uM _ a.toNat_lt]
theorem nU(a:UInt8):gm a 1=a:=by rw[iW,yf]
theorem yg(a b:UInt8)(d:a≠0)(f:b≠0):gm a b≠0:=by
 intro h;have c:=ALca UInt8.toNat h;rw[kW] at c;exact yd _ _ (λe=>d (UInt8.toNat_inj.1 e)) (λe=>f (UInt8.toNat_inj.1 e)) c
theorem yh(a b c:UInt8):gm a (gm b c)=gm b (gm a c):=by rw[←kr,iW a b,kr]
theorem x4(a b c d:UInt8):(a^^^b)^^^(c^^^d)=(a^^^c)^^^(b^^^d):=by ac_rfl
namespace E
section
open Go Go.RowKit Go.Shelf
def aQ:List UInt8:=uI.map UInt8.ofNat
def dA(n:Int):Nat:=(n%255).toNat
theorem yi(n:Int):dA n<255:=by unfold dA;omega
theorem Ld{P:Program}{T:TypeId}{x y:Operand}{w:World}{a:Int}(h0: -9223372036854775808≤a)(h1:a≤9223372036854775807):(av .rem T x y (.int .i64 a) (.int .i64 255)).run P w= .ok (.int .i64 (a.tmod 255)) w:=rfl
theorem Lf(n:Int):(bif decide (n.tmod 255<0) then n.tmod 255+255 else n.tmod 255)=((dA n:Nat):Int):=by
 have h:=Int.tmod_eq_emod (a:=n) (b:=255);unfold dA;by_cases c:n.tmod 255<0
 ·rw[c0 c,ALct];split at h<;>omega
 ·rw[bj c,ALcf];split at h<;>omega
def tw(a:UInt8):UInt8:=UInt8.ofNat (xt a.toNat)
theorem C1: ∀n,n<256→(bif (((UInt8.ofNat n&&& 128).toNat:Int) != 0) then(UInt8.ofNat (n*2^1)^^^29) else UInt8.ofNat (n*2^1))=UInt8.ofNat (xt n):=by decide+kernel
theorem Lh{a:UInt8}(h:(((a&&& 128).toNat:Int) != 0)=true):Value.int .u8 ((UInt8.ofNat (a.toNat*2^1)^^^29).toNat:Int)= .int .u8 ((tw a).toNat:Int):=by
 have b:=C1 a.toNat a.toNat_lt;rw[aal,h] at b;exact ALca (λz:UInt8=>Value.int .u8 (z.toNat:Int)) b
theorem Li{a:UInt8}(h:(((a&&& 128).toNat:Int) != 0)=false):Value.int .u8 ((UInt8.ofNat (a.toNat*2^1)).toNat:Int)= .int .u8 ((tw a).toNat:Int):=by
 have b:=C1 a.toNat a.toNat_lt;rw[aal,h] at b;exact ALca (λz:UInt8=>Value.int .u8 (z.toNat:Int)) b
theorem Lj(a:UInt8):aa YV 184 #[u1 (a.toNat:Int)] [] [] N0 (λ_=>u1 ((tw a).toNat:Int)):=by
 refine fG Tryz.func184 λw d=>r0 [] [(2,u1 0)] [] (r0 [(1,.t (tb (a:=u1 (a.toNat:Int)) (b:=u1 128) λ_ _ _ _=>xn (a) ((128:UInt8))))] [(5,.bool (((a&&& (128:UInt8)).toNat:Int) != 0))] [] ?_);refine cB (((a&&& (128:UInt8)).toNat:Int) != 0) (λc=>?_) λc=>?_
 ·exact r0 [(1,.t (tv (av .shl 5 (.tmp 6) (.const (u6 1)) (u1 (a.toNat:Int)) (u6 1)) (λ_=>uG 1 Dc))),(2,.t (tb (a:=u1 ((UInt8.ofNat (a.toNat*2^1)).toNat:Int)) (b:=u1 29) λ_ _ _ _=>lL ((UInt8.ofNat (a.toNat*2^1))) ((29:UInt8))))] [(2,u1 (((UInt8.ofNat (a.toNat*2^1))^^^(29:UInt8)).toNat:Int))] [2] (aq (u1 (((UInt8.ofNat (a.toNat*2^1))^^^(29:UInt8)).toNat:Int)) ab.zero (by exact Lh As) [] [] [])
 exact r0 [(1,.t (tv (av .shl 5 (.tmp 9) (.const (u6 1)) (u1 (a.toNat:Int)) (u6 1)) (λ_=>uG 1 Dc)))] [(2,u1 ((UInt8.ofNat (a.toNat*2^1)).toNat:Int))] [2] (aq (u1 ((UInt8.ofNat (a.toNat*2^1)).toNat:Int)) ab.zero (by exact Li As) [] [] [])
theorem Ll(n:Int)(h0: -9223372036854775808≤n)(h1:n≤9223372036854775807):aa YV 218 #[i6 n] [] [] N0 (λ_=>iN (dA n)):=by
 have f:=Int.tmod_lt_of_pos n (show(0:Int)<255 by omega);have d:=Int.lt_tmod_of_pos n (show(0:Int)<255 by omega);refine fG Tryz.func218 λw e=>r0 [] [(2,i6 0)] [] (r0 [(1,.t (tv (av .rem 3 (.tmp 3) (.const (i6 255)) (i6 n) (i6 255)) (λ_=>Ld h0 h1)))] [(0,i6 (n.tmod 255))] [0] (r0 [] [(6,.bool (decide ((n.tmod 255)<0)))] [] ?_));refine cJ (decide ((n.tmod 255)<0)) (λc=>[(0,i6 (bif c then((n.tmod 255)+255) else(n.tmod 255)))]) N0 (λb=>?_) (λb=>?_) ?_
 ·have a:=of_decide_eq_true b;refine r0 [(1,aI (n.tmod 255) (255) Om)] [(0,i6 ((n.tmod 255)+255))] [0] ?_;exact cm Kr [] Kr
 ·have a:=of_decide_eq_false b;exact cm Kr [] Kr
 exact r0 [] [(2,i6 (bif decide ((n.tmod 255)<0) then((n.tmod 255)+255) else(n.tmod 255)))] [2] (aq (i6 (bif decide ((n.tmod 255)<0) then((n.tmod 255)+255) else(n.tmod 255))) ab.zero (by exact ALca (Value.int .i64) (Lf n)) [] [] [])
def fW:Nat→UInt8
 | 0=>1
 | k+1=>tw (fW k)
def g8:Nat→List UInt8
 | 0=>YU 255 0
 | k+1=>(g8 k).set k (fW k)
def g9:Nat→List Nat
 | 0=>YU 256 0
 | k+1=>(g9 k).set (fW k).toNat k
theorem C2: ∀k,(g8 k).length=255
 | 0=>Y1 ..
 | k+1=>by rw[g8,Y3];exact C2 k
theorem C3: ∀k,(g9 k).length=256
 | 0=>Y1 ..
 | k+1=>by rw[g9,Y3];exact C3 k
theorem Lm:g8 255=aQ:=by decide+kernel
theorem Ln:g9 255=aW:=by decide+kernel
theorem Lp(k:Nat):(fW k).toNat<256:=(fW k).toNat_lt
attribute [local irreducible] aQ aW g8 g9 fW
theorem Lq:aa YV 142 #[] [] [] (λE=>[ob (E.y 0) (rB 255 aQ++rN 256 aW).toArray 312]) (λE=>pt ((E.y 0)) 0):=by
 refine fG Tryz.func142 λw f=>r0 [] [(0,.pointer none)] [] (ra (λa=>[(1,pt (B1 a) 0)]) (λa=>[ob (B1 a) (rB 255 (YU 255 0)++rN 256 (YU 256 0)).toArray 312]) λa=>r0 [] [(2,u1 1)] [] (r0 [] [(6,i6 0)] [] ?_));refine lq (λk=>k≤255) (λk=>[(2,u1 ((fW k).toNat:Int)),(6,iN k)]) (λk L=>L.set 0 (ob (B1 a) (rB 255 (g8 k)++rN 256 (g9 k)).toArray 312)) (λk=>255-k) 0 Om Kr (by rw[show g8 0=YU 255 0 by unfold g8;rfl,show g9 0=YU 256 0 by unfold g9;rfl];kernel_rfl) (λk e=>?_);have g:=Lp k;refine r0 [] [(7,.bool (decide ((k:Int)<255)))] [] ?_;refine cc (k:Int) 255 (λd b=>?_) λd b=>?_
 ·exact r0 [] [(3,iN k)] [] (rs [(5,iA 310 .i64 (B1 a) 0 255 1 k),(6,wM (A:=[]) (C:=(rN 256 (g9 k):List Value)) 0 (B1 a) k 312 (u1 ((fW k).toNat:Int)) (rB 255 (g8 k)++rN 256 (g9 k)) (rB 255 ((g8 k).set k (fW k))++rN 256 (g9 k)) rfl rfl rfl (jT Om) (mj (C2 ..)))] 0 (ob (B1 a) (rB 255 ((g8 k).set k (fW k))++rN 256 (g9 k)).toArray 312) (rs [(5,iA 296 .u8 (B1 a) 255 256 1 ((fW k).toNat)),(6,wM (A:=(rB 255 ((g8 k).set k (fW k)):List Value)) (C:=[]) 0 (B1 a) ((fW k).toNat) 312 (iN k) (rB 255 ((g8 k).set k (fW k))++rN 256 (g9 k)) (rB 255 ((g8 k).set k (fW k))++rN 256 ((g9 k).set ((fW k).toNat) k)) (by rw[YX]) (by rw[YX]) kq (jT Om) (I9 (C3 ..)))] 0 (ob (B1 a) (rB 255 ((g8 k).set k (fW k))++rN 256 ((g9 k).set ((fW k).toNat) k)).toArray 312) (r0 [(1,.c [] [] (Lj (fW k)))] [(2,u1 ((tw (fW k)).toNat:Int))] [2] (r0 [(0,ad k 1)] [(6,iN (k+1))] [6] (le (k+1) Om Om Kr [0] (by rw[show g8 (k+1)=(g8 k).set k (fW k) by rw[g8],show g9 (k+1)=(g9 k).set (fW k).toNat k by rw[g9]];kernel_rfl))))))
 obtain rfl:k=255:=by omega
 exact cl [ob (B1 a) (rB 255 aQ++rN 256 aW).toArray 312] (by rw[Lm,Ln];kernel_rfl) (lx (r0 [] [(0,pt (B1 a) 0)] [0] (lf (.l [(a 1).y 0] [] []) [0] [] [])))
theorem uN(g:Nat)(n:Int)(h0: -9223372036854775808≤n)(h1:n≤9223372036854775807):aa YV 182 #[pt g 0,i6 n] [ob g (rB 255 aQ++rN 256 aW).toArray 312] [] N0 (λ_=>u1 ((aQ.getD (dA n) 0).toNat:Int)):=by
 have b:=yi n;exact fG Tryz.func182 λw a=>r0 [] [(4,u1 0)] [] (r0 [(2,.c [] [] (Ll n Om Om)),(5,iA 310 .i64 g 0 255 1 (dA n)),(6,rM (A:=[]) (C:=(rN 256 aW:List Value)) 0 g (dA n) 312 (rB 255 aQ++rN 256 aW) rfl rfl (nK Om))] [(4,u1 ((aQ.getD (dA n) 0).toNat:Int))] [4] (lf ab.zero [] [(0,0)] []))
theorem pR(a:UInt8):aW.getD a.toNat 0<255:=rP a.toNat a.toNat_lt
theorem C4{m:Nat}(h:m<255):aQ.getD m 0=UInt8.ofNat (gE m):=by
 unfold aQ gE;rw[Y0,Y0,ZD];have a:m<uI.length:=by rw[K1];exact h
 rw[Ze a];rfl
theorem C5{a:UInt8}(h:((a.toNat:Int)==0)=false):a.toNat≠0:=by have:=ne_of_beq_false h;omega
theorem uO{a:UInt8}(h:((a.toNat:Int)==0)=true):a=0:=by
 have b:=eq_of_beq h;exact UInt8.toNat_inj.1 (by show a.toNat=0;omega)
theorem Lr{a b:UInt8}(h:(((a.toNat:Int)==0)||((b.toNat:Int)==0))=true):Value.int .u8 0= .int .u8 ((gm a b).toNat:Int):=by
 rcases ZY _ _▸h with c | c
 ·rw[uO c,gP];rfl
 ·rw[uO c,kX];rfl
theorem Ls{a b:UInt8}(h:(((a.toNat:Int)==0)||((b.toNat:Int)==0))=false):Value.int .u8 ((aQ.getD (dA (((aW.getD a.toNat 0+aW.getD b.toNat 0:Nat)):Int)) 0).toNat:Int)= .int .u8 ((gm a b).toNat:Int):=by
 rw[aad] at h;have c:=C5 h.1;have d:=C5 h.2;rw[C4 (yi _)];unfold gm dc;rw[ALifn Om,show dA (((aW.getD a.toNat 0+aW.getD b.toNat 0:Nat)):Int)=(gL a.toNat+gL b.toNat)%255 by unfold dA gL;omega]
theorem pS(g:Nat)(a b:UInt8):aa YV 217 #[pt g 0,u1 (a.toNat:Int),u1 (b.toNat:Int)] [ob g (rB 255 aQ++rN 256 aW).toArray 312] [] N0 (λ_=>u1 ((gm a b).toNat:Int)):=by
 have i:=a.toNat_lt;have j:=b.toNat_lt;have e:=pR a;have f:=pR b;refine fG Tryz.func217 λw h=>r0 [] [(6,u1 0)] [] (r0 [] [(12,.bool (((a.toNat:Int)==0)||((b.toNat:Int)==0)))] [] ?_);refine cB (((a.toNat:Int)==0)||((b.toNat:Int)==0)) (λd=>?_) λd=>?_
 ·exact r0 [] [(6,u1 0)] [6] (aq (u1 0) ab.zero (by exact Lr As) [] [(0,0)] [])
 exact r0 [(5,iA 296 .u8 g 255 256 1 a.toNat),(6,rM (A:=(rB 255 aQ:List Value)) (C:=[]) 0 g a.toNat 312 (rB 255 aQ++rN 256 aW) (by rw[YX]) kq (Yu Om)),(11,iA 296 .u8 g 255 256 1 b.toNat),(12,rM (A:=(rB 255 aQ:List Value)) (C:=[]) 0 g b.toNat 312 (rB 255 aQ++rN 256 aW) (by rw[YX]) kq (Yu Om)),(13,ad (aW.getD a.toNat 0) (aW.getD b.toNat 0)),(14,.c [0] [] (uN g (((aW.getD a.toNat 0)+(aW.getD b.toNat 0):Nat):Int) Om Om))] [(6,u1 ((aQ.getD (dA (((aW.getD a.toNat 0)+(aW.getD b.toNat 0):Nat):Int)) 0).toNat:Int))] [6] (aq (u1 ((aQ.getD (dA (((aW.getD a.toNat 0)+(aW.getD b.toNat 0):Nat):Int)) 0).toNat:Int)) ab.zero (by exact Ls As) [] [(0,0)] [])
def bO(a b:UInt8):UInt8:=(bif (b.toNat:Int)==0 then(0:UInt8) else(bif (a.toNat:Int)==0 then(0:UInt8) else aQ.getD (dA (((aW.getD a.toNat 0:Nat):Int)-((aW.getD b.toNat 0:Nat):Int))) 0))
def fI(b:UInt8):Int:=(bif (b.toNat:Int)==0 then 16 else 0)
theorem C6(g:Nat)(a b:UInt8):aa YV 257 #[pt g 0,u1 (a.toNat:Int),u1 (b.toNat:Int)] [ob g (rB 255 aQ++rN 256 aW).toArray 312] [] N0 (λ_=> .tuple #[u1 ((bO a b).toNat:Int),i6 (fI b)]):=by
 have l:=a.toNat_lt;have m:=b.toNat_lt;have i:=pR a;have j:=pR b;refine fG Tryz.func257 λw k=>r0 [] [(6,u1 0),(7,i6 0)] [] (r0 [] [(8,.bool ((b.toNat:Int)==0))] [] ?_);refine cE (b.toNat:Int) 0 (λd e=>?_) λd e=>?_
 ·exact r0 [] [(6,u1 0),(7,i6 16)] [6,7] (aq (.tuple #[u1 0,i6 16]) ab.zero (by((try simp only[bO,fI]);(repeat (first | rw[d] | rw[ALct])))<;>rfl) [] [(0,0)] [])
 refine r0 [] [(11,.bool ((a.toNat:Int)==0))] [] ?_;refine cE (a.toNat:Int) 0 (λh f=>?_) λh f=>?_
 ·exact r0 [] [(6,u1 0),(7,i6 0)] [6,7] (aq (.tuple #[u1 0,i6 0]) ab.zero (by((try simp only[bO,fI]);(repeat (first | rw[d] | rw[h] | rw[ALct] | rw[ALcf])))<;>rfl) [] [(0,0)] [])
 exact r0 [(5,iA 296 .u8 g 255 256 1 a.toNat),(6,rM (A:=(rB 255 aQ:List Value)) (C:=[]) 0 g a.toNat 312 (rB 255 aQ++rN 256 aW) (by rw[YX]) kq (Yu Om)),(11,iA 296 .u8 g 255 256 1 b.toNat),(12,rM (A:=(rB 255 aQ:List Value)) (C:=[]) 0 g b.toNat 312 (rB 255 aQ++rN 256 aW) (by rw[YX]) kq (Yu Om)),(13,sI ((aW.getD a.toNat 0:Nat):Int) (((aW.getD b.toNat 0:Nat):Int)) Om),(14,.c [0] [] (uN g (((aW.getD a.toNat 0:Nat):Int)-((aW.getD b.toNat 0:Nat):Int)) Om Om))] [(6,u1 ((aQ.getD (dA (((aW.getD a.toNat 0:Nat):Int)-((aW.getD b.toNat 0:Nat):Int))) 0).toNat:Int)),(7,i6 0)] [6,7] (aq (.tuple #[u1 ((aQ.getD (dA (((aW.getD a.toNat 0:Nat):Int)-((aW.getD b.toNat 0:Nat):Int))) 0).toNat:Int),i6 0]) ab.zero (by((try simp only[bO,fI]);(repeat (first | rw[d] | rw[h] | rw[ALcf])))<;>rfl) [] [(0,0)] [])
theorem Lt(g:Nat)(b:UInt8):aa YV 232 #[pt g 0,u1 (b.toNat:Int)] [ob g (rB 255 aQ++rN 256 aW).toArray 312] [] N0 (λ_=> .tuple #[u1 ((bO (1:UInt8) b).toNat:Int),i6 (fI b)]):=by
 exact fG Tryz.func232 λw a=>r0 [] [(4,u1 0),(5,i6 0)] [] (r0 [(2,.c [0] [] (C6 g (1:UInt8) b))] [(4,u1 ((bO (1:UInt8) b).toNat:Int)),(5,i6 (fI b))] [4,5] (lf ab.zero [] [(0,0)] []))
def gC(a:UInt8):Nat:=(bif (a.toNat:Int)==0 then 0 else aW.getD a.toNat 0)
def mx(a:UInt8):Int:=(bif (a.toNat:Int)==0 then 16 else 0)
theorem Lu(g:Nat)(a:UInt8):aa YV 274 #[pt g 0,u1 (a.toNat:Int)] [ob g (rB 255 aQ++rN 256 aW).toArray 312] [] N0 (λ_=> .tuple #[iN (gC a),i6 (mx a)]):=by
 have e:=a.toNat_lt;refine fG Tryz.func274 λw d=>r0 [] [(4,i6 0),(5,i6 0)] [] (r0 [] [(7,.bool ((a.toNat:Int)==0))] [] ?_);refine cE (a.toNat:Int) 0 (λc b=>?_) λc b=>?_
 ·exact r0 [] [(4,i6 0),(5,i6 16)] [4,5] (aq (.tuple #[i6 0,i6 16]) ab.zero (by((try simp only[gC,mx]);(repeat (first | rw[c] | rw[ALct])))<;>rfl) [] [(0,0)] [])
 exact r0 [(4,iA 296 .u8 g 255 256 1 a.toNat),(5,rM (A:=(rB 255 aQ:List Value)) (C:=[]) 0 g a.toNat 312 (rB 255 aQ++rN 256 aW) (by rw[YX]) kq (Yu Om))] [(4,iN (aW.getD a.toNat 0)),(5,i6 0)] [4,5] (aq (.tuple #[iN (aW.getD a.toNat 0),i6 0]) ab.zero (by((try simp only[gC,mx]);(repeat (first | rw[c] | rw[ALcf])))<;>rfl) [] [(0,0)] [])
theorem Lv(g:Nat)(a:UInt8)(n:Int):aa YV 181 #[pt g 0,u1 (a.toNat:Int),i6 n] [] [] (λE=>[ob (E.y 0) #[i6 n] 3,ob (E.y 1) #[pt g 0] 239,ob (E.y 2) #[u1 (a.toNat:Int)] 5]) (λE=> .func (.func 216) #[] #[pt ((E.y 0)) 0,pt ((E.y 1)) 0,pt ((E.y 2)) 0]):=by
 exact fG Tryz.func181 λw c=>ra (λb=>[(3,pt (B0 b) 0),(4,pt (B1 b) 0),(5,pt (B2 b) 0),(6,.nilFunc)]) (λb=>[ob (B0 b) #[pt g 0] 239,ob (B1 b) #[u1 (a.toNat:Int)] 5,ob (B2 b) #[i6 n] 3]) λb=>r0 [] [(6,.func (.func 216) #[] #[pt (B2 b) 0,pt (B0 b) 0,pt (B1 b) 0])] [6] (lf (.l [(b 2).y 0,(b 0).y 0,(b 1).y 0] [] []) [2,0,1] [] [])
def kt(a:UInt8):Nat→UInt8
 | 0=>1
 | k+1=>gm (kt a k) a
theorem Lw(h f e g:Nat)(a:UInt8):e4 5 YV 216 #[pt h 0,pt f 0,pt e 0] (λ(x:Nat×UInt8)=>#[i6 (x.1:Int),u1 (x.2.toNat:Int)]) ((Y4 4).map λk=>(k,kt a k)) (Zs [[(h,.cells #[i6 4] 3 (0,0))],[(f,.cells #[pt g 0] 239 (0,0))],[(e,.cells #[u1 (a.toNat:Int)] 5 (0,0))],[(g,.cells (rB 255 aQ++rN 256 aW).toArray 312 (0,0))]]):=by
 refine gi (KO:=[[(h,.cells #[i6 4] 3 (0,0))],[(f,.cells #[pt g 0] 239 (0,0))],[(e,.cells #[u1 (a.toNat:Int)] 5 (0,0))],[(g,.cells (rB 255 aQ++rN 256 aW).toArray 312 (0,0))]]) Tryz.func216 (λs v u A y j q p=>?_);refine r0 [] [(5,u1 1)] [] (r0 [(0,.l 0)] [(8,i6 4),(9,i6 0)] [] ?_);refine jW (λk=>k≤4) (λk=>[(5,u1 ((kt a k).toNat:Int)),(9,iN k)]) (λ_ L=>L) (λk=>4-k) (λk=>k) 0 Om p Kr Kr (λk w z r d=>?_);refine r0 [] [(10,.bool (decide ((k:Int)<4)))] [] ?_;refine cc (k:Int) 4 (λo i=>?_) λo i=>?_
 ·refine r0 [] [(6,iN k)] [] ?_;refine iy j q d 3 N0 (λ_=>[(12,.func (.yield s) #[] #[]),(13,iN k),(14,u1 ((kt a k).toNat:Int))]) [] (λ_ L=>L) N0 [0,1,2,3] (nI Om) (λt m n b=>?_);refine cF _ rfl (r0 [(0,.l 1),(2,.l 2),(3,.c [3] [] (pS g (kt a k) a))] [(5,u1 ((gm (kt a k) a).toNat:Int))] [5] (r0 [(0,ad k 1)] [(9,iN (k+1))] [9] ?_));exact iG (k+1) Om b Om Kr [0,1,2,3] Kr
 obtain rfl:k=4:=by omega
 refine jX ?_;exact kV j d ba [] [0,1,2,3]
end
end E
def xs(n:Nat)(f:Nat→UInt8):UInt8:=
 match n with
 | 0=>0
 | n+1=>xs n f^^^f n
theorem oM(n:Nat)(f:Nat→UInt8):xs (n+1) f=xs n f^^^f n:=rfl
theorem ku{n:Nat}{f g:Nat→UInt8}(h: ∀i,i<n→f i=g i):xs n f=xs n g:=by
 induction n with
 | zero=>rfl
 | succ n ih=>rw[xs,xs,ih (λi a=>h i Om),h n Om]
theorem mA{n:Nat}{f:Nat→UInt8}(h: ∀i,i<n→f i=0):xs n f=0:=by
 induction n with
 | zero=>rfl
 | succ n ih=>rw[xs,ih (λi a=>h i Om),h n Om,Y8]
theorem uP(n:Nat)(f g:Nat→UInt8):xs n (λi=>f i^^^g i)=xs n f^^^xs n g:=by
 induction n with
 | zero=>exact(Zz (a:=0)).symm
 | succ n ih=>rw[xs,xs,xs,ih,x4]
theorem C7(c:UInt8)(n:Nat)(f:Nat→UInt8):xs n (λi=>gm c (f i))=gm c (xs n f):=by
 induction n with
 | zero=>exact(kX c).symm
 | succ n ih=>rw[xs,xs,ih,rS]
theorem C8(c:UInt8)(n:Nat)(f:Nat→UInt8):xs n (λi=>gm (f i) c)=gm (xs n f) c:=by
 rw[iW,←C7];exact ku (λi _=>iW _ _)
theorem Lx(n d:Nat)(f:Nat→UInt8)(h: ∀i,n≤i→f i=0):xs (n+d) f=xs n f:=by
 induction d with
 | zero=>rfl
 | succ d ih=>rw[←aaE,xs,ih,h (n+d) Om,Y8]
theorem oN{n m:Nat}(a:n≤m)(f:Nat→UInt8)(h: ∀i,n≤i→f i=0):xs m f=xs n f:=by
 have:=Lx n (m-n) f h;rwa [show n+(m-n)=m from by omega] at this
theorem Ly(n:Nat)(F:Nat→Nat→UInt8):xs (n+1) (λi=>xs (i+1) (λj=>F j (i-j)))=xs (n+1) (λj=>xs (n-j+1) (λk=>F j k)):=by
 induction n with
 | zero=>rfl
 | succ n ih=>
  rw[oM,ih,oM (n+1) (λj=>xs (n+1-j+1) (λk=>F j k))];have a:xs (n+1) (λj=>xs (n+1-j+1) (λk=>F j k))=xs (n+1) (λj=>xs (n-j+1) (λk=>F j k))^^^xs (n+1) (λj=>F j (n+1-j)):=by
   rw[←uP];refine ku (λj b=>?_);rw[show n+1-j+1=(n-j+1)+1 from by omega,xs,show n-j+1=n+1-j from by omega]
  rw[a,oM (n+1) (λj=>F j (n+1-j)),Zv]
  congr 2
  rw[ZK];exact(Zn).symm
def conv(f g:Nat→UInt8)(n:Nat):UInt8:=xs (n+1) (λi=>gm (f i) (g (n-i)))
theorem Lz{f a g b:Nat→UInt8}{n:Nat}(h: ∀i,i≤n→f i=a i)(c: ∀i,i≤n→g i=b i):conv f g n=conv a b n:=
 ku (λi d=>by rw[h i Om,c (n-i) Om])
theorem LA(f g h:Nat→UInt8)(n:Nat):conv (λi=>f i^^^g i) h n=conv f h n^^^conv g h n:=by
 unfold conv
 rw[←uP];exact ku (λi _=>rU _ _ _)
theorem yj(f g:Nat→UInt8)(M N:Nat)(hf: ∀i,M≤i→f i=0)(a: ∀i,N≤i→g i=0)(n:Nat)(h:M+N≤n+1):conv f g n=0:=by
 refine mA (λi _=>?_);by_cases b:M≤i
 ·rw[hf i b,gP]
 ·rw[a (n-i) Om,kX]
theorem LB(f g:Nat→UInt8)(M N:Nat)(hf: ∀i,M<i→f i=0)(b: ∀i,N<i→g i=0):conv f g (M+N)=gm (f M) (g N):=by
 unfold conv
 have a:xs (M+N+1) (λi=>gm (f i) (g (M+N-i)))=xs (M+1) (λi=>gm (f i) (g (M+N-i))):=
  oN Om _ (λi c=>by rw[hf i Om,gP])
 rw[a,xs,mA (λi c=>by rw[b (M+N-i) Om,kX]),Zn,show M+N-M=N from by omega]
def pw(x:UInt8):Nat→UInt8
 | 0=>1
 | n+1=>gm (pw x n) x
theorem C9(x:UInt8)(m n:Nat):pw x (m+n)=gm (pw x m) (pw x n):=by
 induction n with
 | zero=>rw[Zt,pw,nU]
 | succ n ih=>rw[←aaE,pw,ih,pw,kr]
def ev(f:Nat→UInt8)(N:Nat)(x:UInt8):UInt8:=xs N (λi=>gm (f i) (pw x i))
theorem uQ(f:Nat→UInt8){N M:Nat}(h:N≤M)(x:UInt8)(hf: ∀i,N≤i→f i=0):ev f M x=ev f N x:=
 oN h _ (λi a=>by rw[hf i a,gP])
theorem yl{f g:Nat→UInt8}{N:Nat}(x:UInt8)(h: ∀i,i<N→f i=g i):ev f N x=ev g N x:=ku (λi a=>by rw[h i a])
theorem Da(f g:Nat→UInt8)(N:Nat)(x:UInt8):ev (λi=>f i^^^g i) N x=ev f N x^^^ev g N x:=by
 unfold ev;rw[←uP];exact ku (λi _=>rU _ _ _)
theorem LC(f g:Nat→UInt8)(M N:Nat)(x:UInt8)(hf: ∀i,M≤i→f i=0)(e: ∀i,N≤i→g i=0)(T:Nat)(p:M+N≤T):ev (conv f g) T x=gm (ev f M x) (ev g N x):=by
 have d: ∀i,M+N≤i→conv f g i=0:=λi r=>yj f g M N hf e i Om
 rw[uQ _ p x d];obtain⟨n,s⟩: ∃n,M+N+1=n+1:=⟨M+N,rfl⟩;have h:ev (conv f g) (M+N) x=ev (conv f g) (n+1) x:=(uQ _ Om x d).symm;rw[h];have l:ev (conv f g) (n+1) x=xs (n+1) (λi=>xs (i+1) (λj=>(λa b=>gm (gm (f a) (g b)) (pw x (a+b))) j (i-j))):=
  ku (λi _=>by
   unfold conv
   rw[←C8];exact ku (λj c=>by show _=gm (gm (f j) (g (i-j))) (pw x (j+(i-j)));rw[show j+(i-j)=i from by omega]))
 refine l.trans ((Ly n (λa b=>gm (gm (f a) (g b)) (pw x (a+b)))).trans ?_);have m:xs (n+1) (λj=>xs (n-j+1) (λk=>gm (gm (f j) (g k)) (pw x (j+k))))=xs M (λj=>xs (n-j+1) (λk=>gm (gm (f j) (g k)) (pw x (j+k)))):=
  oN Om _ (λj c=>mA (λk _=>by rw[hf j c,gP,gP]))
 rw[m];have o: ∀j,j<M→xs (n-j+1) (λk=>gm (gm (f j) (g k)) (pw x (j+k)))=gm (gm (f j) (pw x j)) (ev g N x):=by
  intro j c;rw[oN (n:=N) Om _ (λk q=>by rw[e k q,kX,gP])];unfold ev;rw[←C7];refine ku (λk _=>?_);rw[C9,kr,kr,yh (g k) (pw x j)]
 rw[ku o,C8];rfl
def co(p:List UInt8)(i:Nat):UInt8:=p.getD i 0
theorem ym{p:List UInt8}{i:Nat}(h:i<p.length):co p i=p[i]:=by simp [co,h]
theorem fJ{p:List UInt8}{i:Nat}(h:p.length≤i):co p i=0:=by simp [co,h]
def tl(p:List UInt8):Nat→Nat
 | 0=>0
 | k+1=>if co p k=0 then tl p k else k+1
def aZ(p:List UInt8):Nat:=tl p p.length
theorem LD(p:List UInt8)(k:Nat):tl p k≤k:=by
 induction k with
 | zero=>exact Zc 0
 | succ k ih=>rw[tl];split<;>omega
theorem LF(p:List UInt8)(k:Nat): ∀i,tl p k≤i→i<k→co p i=0:=by
 induction k with
 | zero=>intro i _ h;omega
 | succ k ih=>
  intro i a d;rw[tl] at a;by_cases b:co p k=0
  ·rw[ALifp b] at a;by_cases c:i=k
   ·rw[c];exact b
   ·exact ih i a Om
  ·rw[ALifn b] at a;omega
theorem LH(p:List UInt8)(k:Nat): ∀t,tl p k=t+1→co p t≠0:=by
 induction k with
 | zero=>intro t h;rw[tl] at h;omega
 | succ k ih=>
  intro t h;rw[tl] at h;by_cases a:co p k=0
  ·rw[ALifp a] at h;exact ih t h
  ·rw[ALifn a] at h;obtain rfl:k=t:=by omega
   exact a
theorem rV(p:List UInt8):aZ p≤p.length:=LD p _
theorem kv(p:List UInt8){i:Nat}(h:aZ p≤i):co p i=0:=by
 by_cases a:i<p.length
 ·exact LF p _ i h a
 ·exact fJ Om
theorem nV(p:List UInt8){t:Nat}(h:aZ p=t+1):co p t≠0:=LH p _ t h
theorem rX{p:List UInt8}{n:Nat}(h0: ∀i,n≤i→co p i=0)(h1:n=0∨co p (n-1)≠0):aZ p=n:=by
 rcases Nat.lt_trichotomy (aZ p) n with h | h | h
 ·rcases h1 with h1 | h1
  ·omega
  ·exact absurd (kv p (show aZ p≤n-1 by omega)) h1
 ·exact h
 ·have:=nV p (t:=aZ p-1) Om;exact absurd (h0 _ Om) this
theorem Db{p q:List UInt8}(h: ∀i,co p i=co q i):aZ p=aZ q:=by
 refine rX (λi b=>by rw[h];exact kv q b) ?_;by_cases a:aZ q=0
 ·exact .inl a
 ·exact .inr (by rw[h];exact nV q Om)
theorem LJ{p:List UInt8}{n:Nat}(h0: ∀i,n≤i→co p i=0):aZ p≤n:=by
 apply ZX;intro h;exact nV p (t:=aZ p-1) Om (h0 _ Om)
def aw(p:List UInt8):List UInt8:=p.take (aZ p)
theorem mB(p:List UInt8):(aw p).length=aZ p:=by unfold aw;rw[Zg];have:=rV p;omega
theorem nb(p:List UInt8)(i:Nat):co (aw p) i=co p i:=by
 by_cases h:i<aZ p
 ·unfold co aw;rw[Y0,Y0,Z2 h]
 ·rw[kv p Om,fJ (by rw[mB];omega)]
theorem Dd(p:List UInt8):aZ (aw p)=aZ p:=Db (nb p)
theorem oO{p q:List UInt8}(c:p.length=q.length)(h: ∀i,i<p.length→co p i=co q i):p=q:=by
 refine aau c λi a b=>?_;have:=h i a;rwa [ym a,ym b] at this
theorem LK{p q:List UInt8}(h: ∀i,co p i=co q i):aw p=aw q:=
 oO (by rw[mB,mB,Db h]) λi _=>by rw[nb,nb,h]
def fX(n:Nat)(f:Nat→UInt8):List UInt8:=(Y4 n).map f
theorem jG(n:Nat)(f:Nat→UInt8):(fX n f).length=n:=by simp [fX]
theorem kY(n:Nat)(f:Nat→UInt8)(i:Nat):co (fX n f) i=if i<n then f i else 0:=by
 by_cases h:i<n
 ·rw[ALifp h,ym (by rw[jG];exact h)];simp [fX]
 ·rw[ALifn h,fJ (by rw[jG];omega)]
theorem De{n:Nat}{f:Nat→UInt8}(h: ∀i,n≤i→f i=0)(i:Nat):co (fX n f) i=f i:=by
 rw[kY];split
 ·rfl
 ·exact(h i Om).symm
theorem yn(n:Nat)(f g:Nat→UInt8)(k:Nat)(v:UInt8)(b: ∀i,i<n→g i=if i=k then v else f i):(fX n f).set k v=fX n g:=by
 refine aau (by rw[Y3,jG,jG]) λi a c=>?_;rw[Y3,jG] at a;rw[List.getElem_set];simp only[fX,List.getElem_map,List.getElem_range];rw[b i a];by_cases e:k=i
 ·rw[ALifp e,ALifp e.symm]
 ·rw[ALifn e,ALifn (Ne.symm e)]
def rY(p q:List UInt8):List UInt8:=aw (fX (max p.length q.length) λi=>co p i^^^co q i)
theorem yo(p q:List UInt8)(i:Nat):co (rY p q) i=co p i^^^co q i:=by
 unfold rY;rw[nb,De];intro i a;rw[fJ Om,fJ Om];rfl
def hP(p q:List UInt8):List UInt8:=aw (fX (aZ p+aZ q) (conv (co p) (co q)))
theorem yp(p q:List UInt8)(i:Nat):co (hP p q) i=conv (co p) (co q) i:=by
 unfold hP;rw[nb,De];intro i a;exact yj _ _ (aZ p) (aZ q) (λ_ h=>kv p h) (λ_ h=>kv q h) i Om
def e8(p:List UInt8)(x:UInt8):UInt8:=ev (co p) p.length x
theorem oP(p:List UInt8)(x:UInt8){n:Nat}(h: ∀i,n≤i→co p i=0):e8 p x=ev (co p) n x:=by
 unfold e8;rcases aaI n p.length with a | a
 ·exact uQ _ a x h
 ·exact(uQ _ a x (λi b=>fJ b)).symm
theorem LM{p q:List UInt8}(x:UInt8)(h: ∀i,co p i=co q i):e8 p x=e8 q x:=by
 rw[oP p x (n:=max p.length q.length) (λi a=>fJ Om),oP q x (n:=max p.length q.length) (λi a=>fJ Om)];exact yl x (λi _=>h i)
theorem LN(p q:List UInt8)(x:UInt8):e8 (rY p q) x=e8 p x^^^e8 q x:=by
 rw[oP p x (n:=max p.length q.length) (λi a=>fJ Om),oP q x (n:=max p.length q.length) (λi a=>fJ Om),
  oP (rY p q) x (n:=max p.length q.length) (λi a=>by rw[yo,fJ Om,fJ Om];rfl),←Da]
 exact yl x (λi _=>yo p q i)
theorem LP(p q:List UInt8):aZ (hP p q)=if aZ p=0∨aZ q=0 then 0 else aZ p+aZ q-1:=by
 split
 ·rename_i h;refine rX (λi _=>?_) (.inl rfl);rw[yp];rcases h with h | h
  ·exact mA (λj _=>by rw[kv p Om,gP])
  ·exact mA (λj _=>by rw[kv q Om,kX])
 ·rename_i h;refine rX (λi a=>?_) (.inr ?_)
  ·rw[yp];exact yj _ _ (aZ p) (aZ q) (λ_ h=>kv p h) (λ_ h=>kv q h) i Om
  ·rw[yp,show aZ p+aZ q-1-1=(aZ p-1)+(aZ q-1) from by omega,
    LB _ _ _ _ (λi a=>kv p Om) (λi a=>kv q Om)]
   exact yg _ _ (nV p Om) (nV q Om)
theorem LQ(r:UInt8):aZ [r,1]=2:=rX (λi a=>fJ (show 2≤i from a)) (.inr (show(1:UInt8)≠0 by decide))
theorem LR(a c:UInt8):a=c^^^(a^^^c):=by rw[aax a c,←Zv,Zz,Zn]
theorem LS(p q:List UInt8):(hP p q).length=aZ (hP p q):=by
 have h:aZ (hP p q)=aZ (fX (aZ p+aZ q) (conv (co p) (co q))):=by unfold hP;rw[Dd]
 rw[h];unfold hP;rw[mB]
def hZ(rs:List UInt8):Nat→List UInt8
 | 0=>[1]
 | k+1=>hP (hZ rs k) [co rs k,1]
def LU(rs:List UInt8):List UInt8:=hZ rs rs.length
theorem Df(rs:List UInt8)(k:Nat):aZ (hZ rs k)=k+1:=by
 induction k with
 | zero=>exact rX (λi a=>fJ (show 1≤i by omega)) (.inr (show(1:UInt8)≠0 by decide))
 | succ k ih=>rw[hZ,LP,ih,LQ,ALifn Om];omega
theorem LV(rs:List UInt8)(k:Nat):(hZ rs k).length=k+1:=by
 cases k with
 | zero=>rfl
 | succ k=>rw[hZ,LS];exact Df rs (k+1)
def oQ(q:List UInt8)(d:Nat)(t:UInt8)(o:List UInt8)(i:Nat):List UInt8:=fX o.length λj=>if i-d≤j∧j≤i then co o j^^^gm (gm (co o i) t) (co q (j-(i-d))) else co o j
theorem LW(q:List UInt8)(d:Nat)(t:UInt8)(o:List UInt8)(i:Nat):(oQ q d t o i).length=o.length:=jG _ _
def bZ(p q:List UInt8)(d:Nat)(t:UInt8):Nat→List UInt8
 | 0=>p
 | k+1=>oQ q d t (bZ p q d t k) (p.length-1-k)
theorem rZ(p q:List UInt8)(d:Nat)(t:UInt8)(k:Nat):(bZ p q d t k).length=p.length:=by
 induction k with
 | zero=>rfl
 | succ k ih=>rw[bZ,LW,ih]
def dH(p q:List UInt8)(t:UInt8):List UInt8:=aw (bZ p q (aZ q-1) t (p.length-(aZ q-1)))
theorem LX{q o:List UInt8}{d:Nat}{t:UInt8}{i:Nat}(l:aZ q=d+1)(k:d≤i)(m:i<o.length)(j:Nat):
  co (oQ q d t o i) j=co o j^^^conv (λa=>if a=i-d then gm (co o i) t else 0) (co q) j:=by
 have g:conv (λa=>if a=i-d then gm (co o i) t else 0) (co q) j=if i-d≤j then gm (gm (co o i) t) (co q (j-(i-d))) else 0:=by
  unfold conv
  by_cases h:i-d≤j
  ·rw[ALifp h];have b:xs (j+1) (λa=>gm (if a=i-d then gm (co o i) t else 0) (co q (j-a)))=xs (i-d+1) (λa=>gm (if a=i-d then gm (co o i) t else 0) (co q (j-a))):=
    oN Om _ λa c=>by
     show gm (if a=i-d then gm (co o i) t else 0) (co q (j-a))=0;rw[ALifn Om,gP]
   rw[b,oM,mA (λa c=>by
    show gm (if a=i-d then gm (co o i) t else 0) (co q (j-a))=0;rw[ALifn Om,gP]),ALifp rfl,Zn]
  ·rw[ALifn h];exact mA λa c=>by
    show gm (if a=i-d then gm (co o i) t else 0) (co q (j-a))=0;rw[ALifn Om,gP]
 rw[g];unfold oQ;rw[kY];by_cases e:j<o.length
 ·rw[ALifp e];by_cases b:i-d≤j
  ·rw[ALifp b];by_cases f:j≤i
   ·rw[ALifp ⟨b,f⟩]
   ·rw[ALifn Om,kv q Om,kX,Y8]
  ·rw[ALifn Om,ALifn b,Y8]
 ·rw[ALifn e,fJ (p:=o) Om]
  split
  ·rw[kv q Om,kX];rfl
  ·rfl
theorem LY{p q:List UInt8}{d:Nat}{t:UInt8}(g:aZ q=d+1)(ht:gm (co q d) t=1)(k:Nat)(r:k≤p.length-d):
  (∃s:Nat→UInt8,(∀i,p.length≤i→s i=0)∧∀j,co p j=co (bZ p q d t k) j^^^conv s (co q) j)∧∀j,p.length-k≤j→co (bZ p q d t k) j=0:=by
 induction k with
 | zero=>exact⟨⟨λ_=>0,λ_ _=>rfl,λj=>by
   rw[show conv (λ_=>0) (co q) j=0 from mA λi _=>gP _,Y8];rfl⟩,λj l=>fJ (by rw[rZ];omega)⟩
 | succ k ih=>
  obtain⟨⟨s,b,m⟩,n⟩:=ih Om;have u:=rZ p q d t k;have e:=λj=>LX (q:=q) (o:=bZ p q d t k) (d:=d) (t:=t) (i:=p.length-1-k) g Om Om j;refine⟨⟨λa=>s a^^^(if a=p.length-1-k-d then gm (co (bZ p q d t k) (p.length-1-k)) t else 0),λi h=>by
   show s i^^^(if i=p.length-1-k-d then gm (co (bZ p q d t k) (p.length-1-k)) t else 0)=0;rw[b i h,ALifn Om];rfl,λj=>?_⟩,λj l=>?_⟩
  ·rw[LA,bZ,e j,m j,Zv]
   congr 1
   exact LR _ _
  ·rw[bZ];unfold oQ;rw[kY];by_cases c:j<(bZ p q d t k).length
   ·rw[ALifp c];by_cases f:p.length-1-k=j
    ·subst f;rw[ALifp Om,show p.length-1-k-(p.length-1-k-d)=d from by omega,kr,iW t,ht,nU,Zz]
    ·rw[ALifn Om];exact n j Om
   ·rw[ALifn c]
theorem Dg{p q:List UInt8}{t:UInt8}(h0:0<aZ q)(ht:gm (co q (aZ q-1)) t=1):
  (∃s:Nat→UInt8,(∀i,p.length≤i→s i=0)∧∀j,co p j=co (dH p q t) j^^^conv s (co q) j)∧aZ (dH p q t)<aZ q:=by
 obtain⟨a,b⟩:=LY (p:=p) (q:=q) (d:=aZ q-1) (t:=t) Om ht (p.length-(aZ q-1)) (Zc _);refine⟨?_,?_⟩
 ·obtain⟨s,c,f⟩:=a;exact⟨s,c,λj=>by rw[f j];unfold dH;rw[nb]⟩
 ·have g:aZ (dH p q t)≤aZ q-1:=LJ λi h=>by
   unfold dH;rw[nb];by_cases e:p.length≤aZ q-1
   ·exact fJ (by rw[rZ];omega)
   ·exact b i Om
  omega
theorem LZ(p q:List UInt8)(t:UInt8):aZ (dH p q t)=(dH p q t).length:=by unfold dH;rw[Dd,mB]
theorem L1{p q:List UInt8}{t:UInt8}(h0:0<aZ q)(ht:gm (co q (aZ q-1)) t=1){x:UInt8}(e:e8 q x=0):e8 (dH p q t) x=e8 p x:=by
 obtain⟨⟨s,b,d⟩,c⟩:=Dg (p:=p) (q:=q) (t:=t) h0 ht;obtain⟨N,f⟩: ∃N,p.length+q.length+(dH p q t).length=N:=⟨_,rfl⟩;rw[oP p x (n:=N) (λi a=>fJ Om),oP (dH p q t) x (n:=N) (λi a=>fJ Om),yl x (λi _=>d i),Da,
  LC s (co q) p.length q.length x b (λi a=>fJ a) N Om,show ev (co q) q.length x=e8 q x from rfl,e,kX,Y8]
theorem Dh(n:Nat)(f:Nat→UInt8)(h: ∀i,i<n→f i=0):fX n f=YU n 0:=by
 refine oO (by rw[jG,Y1]) λi a=>?_;rw[jG] at a;rw[kY,ALifp a,h i a];simp [co,a]
theorem uR{n:Nat}{f g:Nat→UInt8}(h: ∀i,i<n→f i=g i):fX n f=fX n g:=by
 unfold fX;exact ZO λi a=>h i (List.mem_range.1 a)
theorem L2(p:List UInt8):fX p.length (co p)=p:=oO (jG _ _) λi a=>by rw[jG] at a;rw[kY,ALifp a]
def nW(p q:List UInt8)(i t:Nat):UInt8:=xs i λa=>if a≤t then gm (co p a) (co q (t-a)) else 0
def oR(p q:List UInt8)(i j t:Nat):UInt8:=nW p q i t^^^(if i≤t∧t<i+j then gm (co p i) (co q (t-i)) else 0)
theorem yq(p q:List UInt8)(i t:Nat):oR p q i 0 t=nW p q i t:=by
 unfold oR;rw[ALifn Om,Y8]
theorem L3{p q:List UInt8}(i t:Nat):oR p q i q.length t=nW p q (i+1) t:=by
 unfold oR nW;rw[oM]
 congr 1
 by_cases h:i≤t
 ·rw[ALifp h];by_cases a:t<i+q.length
  ·rw[ALifp ⟨h,a⟩]
  ·rw[ALifn Om,fJ (p:=q) Om,kX]
 ·rw[ALifn Om,ALifn h]
theorem L4{p q:List UInt8}(t:Nat):nW p q p.length t=conv (co p) (co q) t:=by
 unfold nW conv
 have c: ∀a,(t+1≤a∨p.length≤a)→(if a≤t then gm (co p a) (co q (t-a)) else 0)=0:=λa e=>by
  by_cases h:a≤t
  ·rw[ALifp h,fJ (p:=p) Om,gP]
  ·rw[ALifn h]
 have d:xs (t+1) (λa=>gm (co p a) (co q (t-a)))=xs (t+1) λa=>if a≤t then gm (co p a) (co q (t-a)) else 0:=ku λi b=>by rw[ALifp Om]
 rw[d];rcases aaI (t+1) p.length with h | h
 ·exact oN h _ λi b=>c i (.inl b)
 ·exact(oN h _ λi b=>c i (.inr b)).symm
def eE(p q:List UInt8)(i j:Nat):List UInt8:=fX (p.length+q.length) (oR p q i j)
theorem Di(p q:List UInt8)(i j:Nat):(eE p q i j).length=p.length+q.length:=jG _ _
theorem L5(p q:List UInt8):eE p q 0 0=YU (p.length+q.length) 0:=Dh _ _ λi _=>by rw[yq];rfl
theorem L6(p q:List UInt8)(i:Nat):eE p q i q.length=eE p q (i+1) 0:=uR λt _=>by rw[L3,yq]
theorem L7{p q:List UInt8}{i j:Nat}(h:i+j<p.length+q.length):co (eE p q i j) (i+j)=nW p q i (i+j):=by
 unfold eE;rw[kY,ALifp h];unfold oR;rw[ALifn Om,Y8]
theorem L8{p q:List UInt8}{i j:Nat}:(eE p q i j).set (i+j) (nW p q i (i+j)^^^gm (co p i) (co q j))=eE p q i (j+1):=
 yn _ _ _ _ _ λt _=>by
  unfold oR;by_cases e:t=i+j
  ·subst e;rw[ALifp Om,ALifp rfl,Z5]
  ·rw[ALifn e];by_cases h:i≤t∧t<i+j
   ·rw[ALifp Om,ALifp h]
   ·rw[ALifn Om,ALifn h]
theorem L9(p q:List UInt8):aw (eE (aw p) (aw q) (aZ p) 0)=hP p q:=by
 unfold hP eE;rw[mB,mB];refine LK λt=>?_;rw[kY,kY]
 split
 ·have h:=L4 (p:=aw p) (q:=aw q) t;rw[mB] at h;rw[yq,h];exact Lz (λi _=>nb p i) (λi _=>nb q i)
 ·rfl
def fj(q:List UInt8)(a:UInt8)(o:List UInt8)(z j:Nat):List UInt8:=fX o.length λx=>if z≤x∧x<z+j then co o x^^^gm a (co q (x-z)) else co o x
theorem Ma(q:List UInt8)(a:UInt8)(o:List UInt8)(z j:Nat):(fj q a o z j).length=o.length:=jG _ _
theorem Mb(q:List UInt8)(a:UInt8)(o:List UInt8)(z:Nat):fj q a o z 0=o:=by
 unfold fj;rw[uR (g:=co o) λi _=>ALifn Om];exact L2 o
theorem Md{q:List UInt8}{a:UInt8}{o:List UInt8}{z j:Nat}(h:z+j<o.length):co (fj q a o z j) (z+j)=co o (z+j):=by
 unfold fj;rw[kY,ALifp h,ALifn Om]
theorem Me{q:List UInt8}{a:UInt8}{o:List UInt8}{z j:Nat}:(fj q a o z j).set (z+j) (co o (z+j)^^^gm a (co q j))=fj q a o z (j+1):=
 yn _ _ _ _ _ λt _=>by
  by_cases e:t=z+j
  ·subst e;rw[ALifp Om,ALifp rfl,Z5]
  ·rw[ALifn e];by_cases h:z≤t∧t<z+j
   ·rw[ALifp Om,ALifp h]
   ·rw[ALifn Om,ALifn h]
theorem Mf{q:List UInt8}{t:UInt8}{o:List UInt8}{d i:Nat}(h:d≤i):fj q (gm (co o i) t) o (i-d) (d+1)=oQ q d t o i:=by
 unfold fj oQ;refine uR λx _=>?_;by_cases a:i-d≤x∧x<i-d+(d+1)
 ·rw[ALifp a,ALifp Om]
 ·rw[ALifn a,ALifn Om]
def hv(p:List UInt8)(x:UInt8):Nat→UInt8
 | 0=>0
 | j+1=>gm (hv p x j) x^^^co p (p.length-1-j)
theorem Mg(p:List UInt8)(x:UInt8)(j:Nat)(e:j≤p.length):gm (hv p x j) (pw x (p.length-j))^^^ev (co p) (p.length-j) x=e8 p x:=by
 induction j with
 | zero=>rw[hv,gP,Zn,ZA];rfl
 | succ j ih=>
  rw[←ih Om,hv,rU];obtain⟨m,d⟩: ∃m,p.length-(j+1)=m:=⟨_,rfl⟩;have b:p.length-j=m+1:=by omega
  have c:p.length-1-j=m:=by omega
  have a:ev (co p) (m+1) x=ev (co p) m x^^^gm (co p m) (pw x m):=rfl;rw[d,b,c,a,pw,kr,iW x,Zv,aax (gm (co p m) (pw x m))]
theorem Mh(p:List UInt8)(x:UInt8):hv p x p.length=e8 p x:=by
 have h:=Mg p x p.length (Zc _);rw[ZK,pw,nU,show ev (co p) 0 x=0 from rfl,Y8] at h;exact h
namespace E
section
open Go Go.RowKit Go.Shelf
def kB:Kd YV UInt8:=⟨eB,[u1 0],191,5,0,1,λ_=>rfl,rfl,λ_=>rfl,dT.mk' Kr Kr rfl⟩
def oS:Value→Bool
 | .slice none _ _=>true
 | _=>false
theorem Mi{i:Nat}{w:World}{α:Type}{en:α→List Value}{v:Value}{xs:List α}{bs:aA}(h:aP en v xs bs):(av .eql 191 (.tmp i) (.const (.slice none 0 0)) v (.slice none 0 0)).run YV w= .ok (.bool (oS v)) w:=by
 obtain⟨a,r,rfl⟩:=h.2;cases a<;>kernel_rfl
theorem uS{α:Type}{en:α→List Value}{v:Value}{xs:List α}{bs:aA}(h:aP en v xs bs)(h1:oS v=true):xs=[]:=by
 rcases h.1 with⟨a,_⟩ | ⟨g,b,d,t,e,c,rfl,_⟩
 ·exact a
 ·cases h1
theorem Dj(v:Value)(xs:List UInt8)(g:xs.length≤1000000):aa YV 233 #[v] [.p (aP eB v xs)] [] (λE=>[bC (E.val 0) xs]) (λE=>(E.val 0)):=by
 refine fO Tryz.func233 0 rfl λd a=>fG Tryz.func233 λw f=>r0 [] [(2,.slice none 0 0)] [] (r0 [(1,.t (tv (av .eql 191 (.tmp 3) (.const (.slice none 0 0)) (v) (.slice none 0 0)) (λ_=>Mi a)))] [(4,.bool (oS v))] [] ?_);refine cB (oS v) (λe=>?_) λe=>?_
 ·exact r0 [] [(2,.slice none 0 0)] [2] (cz kB (lf (.l [] [] [.slice none 0 0]) [1] [(0,0)] [] (hf:=by(try rewrite [uS a As]);kernel_rfl)))
 exact rr (λb=>[(0,.m (rn 1 eB ([u1 0]) 5)),(2,.m (mn 1 0 oH (.slice (some ⟨(b 0).y 0,0,none⟩) 0 0) (v) (xs:=[]) (ys:=xs) (.c d) (cP a.1) oG (λ_=>rfl) (by simp only[LL];omega)))]) (λb=>[(2,(b 2).val 0)]) [2] (λb L=>L++[bC ((b 2).val 0) (([])++xs)]) λb=>lf (.l [] [] [(b 2).val 0]) [1] [(0,0)] [] (hf:=by(try rewrite [uS a As]);kernel_rfl)
theorem yr{P:Program}{T:TypeId}{x y:Operand}{w:World}{a:Int}{k:Nat}(h0: -9223372036854775807≤a-(k:Int))(h1:a-(k:Int)≤9223372036854775807):(av .sub T x y (.int .i64 (a-(k:Int))) (.int .i64 1)).run P w= .ok (.int .i64 (a-((k+1:Nat):Int))) w:=by
 have h:=qL (P:=P) (T:=T) (x:=x) (y:=y) (w:=w) (a:=a-(k:Int)) (b:=1) Om Om;rw[show a-(k:Int)-1=a-((k+1:Nat):Int) by omega] at h;exact h
theorem Mj{P:Program}{T:TypeId}{x y:Operand}{w:World}{k:Nat}(h:k<9223372036854775807):(av .add T x y (.int .i64 ((k:Int)-1)) (.int .i64 1)).run P w= .ok (.int .i64 (k:Int)) w:=by
 have h:=qK (P:=P) (T:=T) (x:=x) (y:=y) (w:=w) (a:=(k:Int)-1) (b:=1) Om Om;rw[show(k:Int)-1+1=k by omega] at h;exact h
theorem Mk{xs:List UInt8}:tl xs (xs.length-0)=aZ xs:=rfl
theorem Ml{xs:List UInt8}{k:Nat}(ht:tl xs (xs.length-k)=aZ xs)(a:0≤((xs.length:Nat):Int)-1-(k:Int))(h:(((xs.getD (xs.length-1-k) 0).toNat:Int)==0)=true):tl xs (xs.length-(k+1))=aZ xs:=by
 rw[show xs.length-k=(xs.length-1-k)+1 by omega,tl,ALifp (show Go.Proofs.YtbcodenfkijdnaaGreat.co xs (xs.length-1-k)=0 from uO h)] at ht;rw[←ht]
 congr 1
 omega
theorem Mm{xs:List UInt8}{k:Nat}(ht:tl xs (xs.length-k)=aZ xs)(c:0≤((xs.length:Nat):Int)-1-(k:Int))(h:(((xs.getD (xs.length-1-k) 0).toNat:Int)==0)=false):Value.int .i64 (((xs.length:Nat):Int)-1-(k:Int))= .int .i64 (((aZ xs:Nat):Int)-1):=by
 have b:Go.Proofs.YtbcodenfkijdnaaGreat.co xs (xs.length-1-k)≠0:=λe=>by
  have a:xs.getD (xs.length-1-k) 0=0:=e;rw[a] at h;cases h
 rw[show xs.length-k=(xs.length-1-k)+1 by omega,tl,ALifn b] at ht;exact ALca (Value.int .i64) Om
theorem Mn{xs:List UInt8}{k:Nat}(ht:tl xs (xs.length-k)=aZ xs)(a:k≤xs.length)(b: ¬0≤((xs.length:Nat):Int)-1-(k:Int)):Value.int .i64 (((xs.length:Nat):Int)-1-(k:Int))= .int .i64 (((aZ xs:Nat):Int)-1):=by
 rw[show xs.length-k=0 by omega] at ht;rw[←ht];exact ALca (Value.int .i64) (by show _=((0:Nat):Int)-1;omega)
attribute [local irreducible] aZ
theorem Dk(v:Value)(xs:List UInt8)(l:xs.length≤1000000):aa YV 231 #[v] [.p (aP eB v xs)] [] N0 (λ_=>i6 (((aZ xs:Nat):Int)-1)):=by
 refine fO Tryz.func231 0 rfl λg a=>fG Tryz.func231 λw j=>r0 [] [(2,i6 0)] [] (r0 [(1,eD a.1 0),(2,sI (xs.length:Int) (1) Om)] [(3,i6 ((xs.length:Int)-1))] [] ?_);refine lq (λk=>k≤xs.length∧(tl xs (xs.length-k)=aZ xs)) (λk=>[(3,i6 (((xs.length:Nat):Int)-1-((k:Nat):Int)))]) (λ_ L=>L) (λk=>xs.length-k) 0 ⟨by omega,Mk⟩ (by rw[show((xs.length:Nat):Int)-1-((0:Nat):Int)=(xs.length:Int)-1 by omega];kernel_rfl) Kr (λk ⟨i,f⟩=>?_);cases b:(decide (0≤(((xs.length:Nat):Int)-1-((k:Nat):Int))))
 case true=>
  have c:=of_decide_eq_true b;refine r0 [(1,.t (tk (show Value.bool (decide (0≤(((xs.length:Nat):Int)-1-((k:Nat):Int))))= .bool true from ALca Value.bool b))),(4,.t (tk (show i6 (((xs.length:Nat):Int)-1-((k:Nat):Int))=iN (xs.length-1-k) from ALca (Value.int .i64) Om))),(5,fh a.1 0 (xs.length-1-k) 1),(6,iU kB a.1 0 (xs.length-1-k) 0)] [(15,.bool (((xs.getD (xs.length-1-k) 0).toNat:Int)==0))] [] ?_;refine cE ((xs.getD (xs.length-1-k) 0).toNat:Int) 0 (λh e=>?_) λh e=>?_
  ·exact r0 [(1,.t (tv (av .sub 3 (.tmp 16) (.const (i6 1)) (i6 (((xs.length:Nat):Int)-1-((k:Nat):Int))) (i6 1)) (λ_=>yr Om Om)))] [(3,i6 (((xs.length:Nat):Int)-1-((k+1:Nat):Int)))] [3] (le (k+1) ⟨by omega,Ml f As As⟩ Om Kr [0] Kr)
  exact lx (r0 [] [(2,i6 (((xs.length:Nat):Int)-1-((k:Nat):Int)))] [2] (aq (i6 (((xs.length:Nat):Int)-1-((k:Nat):Int))) ab.zero (by exact Mm f As As) [] [(0,0)] []))
 have c:=of_decide_eq_false b;exact rF [(1,.t (tk (show Value.bool (decide (0≤(((xs.length:Nat):Int)-1-((k:Nat):Int))))= .bool false from ALca Value.bool b))),(3,.d),(4,.d),(5,.d),(6,.d),(7,.d)] 15 (lx (r0 [] [(2,i6 (((xs.length:Nat):Int)-1-((k:Nat):Int)))] [2] (aq (i6 (((xs.length:Nat):Int)-1-((k:Nat):Int))) ab.zero (by exact Mn f As As) [] [(0,0)] [])))
theorem Mo(v:Value)(xs:List UInt8)(n:Nat)(a:n≤xs.length)(b:xs.length≤1000000):aa YV 233 #[gM v 0 n 1] [.p (aP eB v xs)] [] (λE=>[bC (E.val 0) (xs.take n)]) (λE=>E.val 0):=
 aa.at (Dj (gM v 0 n 1) (xs.take n) (by rw[Zg];omega)) (bP (λ_ h=>aP.take (en:=eB) (k:=1) (λ_=>rfl) h a) λ_ h=>h)
theorem uU(v:Value)(xs:List UInt8)(g:xs.length≤1000000):aa YV 234 #[v] [.p (aP eB v xs)] [] (λE=>[bC (E.val 0) (aw xs)]) (λE=>(E.val 0)):=by
 have e:=rV xs;exact fO Tryz.func234 0 rfl λa b=>fG Tryz.func234 λw f=>r0 [] [(2,.slice none 0 0)] [] (rr (λ_=>[(2,.c [0] [] (aa.at (rd':=[.c a]) (Dk v xs Om) (ei b (λ_ h=>h)))),(3,.t (tv (av .add 3 (.tmp 5) (.const (i6 1)) (i6 (((aZ xs:Nat):Int)-1)) (i6 1)) (λ_=>Mj Om))),(4,.m (CE 0 (.c a) (aZ xs) 1 (cP b) Om)),(5,.c [0] [1] (aa.at (rd':=[.c a]) (Mo v xs (aZ xs) Om Om) (ei b (λ_ h=>h))))]) (λd=>[(2,(d 5).val 0)]) [2] (λd L=>L++[bC ((d 5).val 0) ((xs).take ((aZ xs)))]) λd=>lf (.l [] [] [((d 5).val 0),(d 5).val 0]) [1] [(0,0)] [] (hf:=by kernel_rfl))
attribute [local irreducible] aw
theorem Mq{p q:List UInt8}{i j:Nat}(h:i+j<p.length+q.length):eE p q i (j+1)=(eE p q i j).set (i+j) ((eE p q i j).getD (i+j) 0^^^gm (p.getD i 0) (q.getD j 0)):=by
 rw[←L8,←L7 h];rfl
attribute [local irreducible] eE
theorem Mr(g:Nat)(v u:Value)(p q:List UInt8)(hp:p.length≤50000)(J:q.length≤50000):aa YV 219 #[pt g 0,v,u] [ob g (rB 255 aQ++rN 256 aW).toArray 312,.p (aP eB v p),.p (aP eB u q)] [] (λE=>[bC (E.val 0) (hP p q)]) (λE=>(E.val 0)):=by
 refine fO Tryz.func219 1 rfl λm x=>fO Tryz.func219 2 rfl λn y=>fG Tryz.func219 λw I=>?_;have s:=mB p;have C:=mB q;have G:=rV p;have H:=rV q;refine r0 [] [(6,.slice none 0 0)] [] (rr (λd=>[(1,.c [1] [3] (aa.at (rd':=[.c m]) (uU v p Om) (ei x (λ_ h=>h)))),(3,.c [2] [4] (aa.at (rd':=[.c n]) (uU u q Om) (ei y (λ_ h=>h))))]) (λd=>[(1,((d 1).val 0)),(2,((d 3).val 0))]) [1,2] (λd L=>L++[bC ((d 1).val 0) (aw p),bC ((d 3).val 0) (aw q)]) λd=>rr (λ_=>[(1,eS kB ((d 1).val 0) (aw p) 3),(3,eS kB ((d 3).val 0) (aw q) 4),(4,ad ((aw p).length) ((aw q).length)),(5,rK kB 5 (((aw p).length)+((aw q).length)))]) (λf=>[(7,.slice (some ⟨(f 5).y 0,0,none⟩) (((aw p).length)+((aw q).length)) (((aw p).length)+((aw q).length)))]) [] (λf L=>L++[bC (.slice (some ⟨(f 5).y 0,0,none⟩) (((aw p).length)+((aw q).length)) (((aw p).length)+((aw q).length))) (YU (((aw p).length)+((aw q).length)) 0)]) λf=>r0 [(1,eS kB ((d 1).val 0) (aw p) 3)] [(22,((d 1).val 0)),(23,iN ((aw p).length)),(24,i6 0)] [] ?_);refine lq (λi=>i≤(aw p).length) (λi=>[(24,iN i)]) (λi L=>L.set 5 (bC (.slice (some ⟨(f 5).y 0,0,none⟩) (((aw p).length)+((aw q).length)) (((aw p).length)+((aw q).length))) (eE (aw p) (aw q) i 0))) (λi=>((aw p).length)-i) 0 Om Kr (by rw[L5];kernel_rfl) (λi B=>?_);refine r0 [] [(25,.bool (decide ((i:Int)<(((aw p).length:Nat):Int))))] [] ?_;refine cc (i:Int) (((aw p).length:Nat):Int) (λA o=>?_) λA o=>?_
 ·refine r0 [(1,cy kB ((d 1).val 0) (aw p) 3 i),(2,eL kB ((d 1).val 0) (aw p) 3 i 0)] [(8,iN i),(9,u1 (((aw p).getD i 0).toNat:Int))] [] (r0 [(1,eS kB ((d 3).val 0) (aw q) 4)] [(29,((d 3).val 0)),(30,iN ((aw q).length)),(31,i6 0)] [] ?_);refine lq (λj=>j≤(aw q).length) (λj=>[(31,iN j)]) (λj L=>L.set 5 (bC (.slice (some ⟨(f 5).y 0,0,none⟩) (((aw p).length)+((aw q).length)) (((aw p).length)+((aw q).length))) (eE (aw p) (aw q) i j))) (λj=>((aw q).length)-j) 0 Om Kr Kr (λj z=>?_);have F:=Di (aw p) (aw q) i j;refine r0 [] [(32,.bool (decide ((j:Int)<(((aw q).length:Nat):Int))))] [] ?_;refine cc (j:Int) (((aw q).length:Nat):Int) (λr k=>?_) λr k=>?_
  ·exact r0 [(1,cy kB ((d 3).val 0) (aw q) 4 j),(2,eL kB ((d 3).val 0) (aw q) 4 j 0)] [(10,iN j),(11,u1 (((aw q).getD j 0).toNat:Int))] [] (rs [(3,ad i j),(4,cy kB (.slice (some ⟨(f 5).y 0,0,none⟩) (((aw p).length)+((aw q).length)) (((aw p).length)+((aw q).length))) (eE (aw p) (aw q) i j) 5 (i+j)),(5,eL kB (.slice (some ⟨(f 5).y 0,0,none⟩) (((aw p).length)+((aw q).length)) (((aw p).length)+((aw q).length))) (eE (aw p) (aw q) i j) 5 (i+j) 0),(9,.c [0] [] (pS g ((aw p).getD i 0) ((aw q).getD j 0))),(10,.t (tb (a:=u1 (((eE (aw p) (aw q) i j).getD (i+j) 0).toNat:Int)) (b:=u1 ((gm ((aw p).getD i 0) ((aw q).getD j 0)).toNat:Int)) λ_ _ _ _=>lL ((eE (aw p) (aw q) i j).getD (i+j) 0) ((gm ((aw p).getD i 0) ((aw q).getD j 0))))),(11,cy kB (.slice (some ⟨(f 5).y 0,0,none⟩) (((aw p).length)+((aw q).length)) (((aw p).length)+((aw q).length))) (eE (aw p) (aw q) i j) 5 (i+j)),(12,rA kB (.slice (some ⟨(f 5).y 0,0,none⟩) (((aw p).length)+((aw q).length)) (((aw p).length)+((aw q).length))) (eE (aw p) (aw q) i j) 5 (i+j) 0 (((eE (aw p) (aw q) i j).getD (i+j) 0)^^^(gm ((aw p).getD i 0) ((aw q).getD j 0))) (u1 ((((eE (aw p) (aw q) i j).getD (i+j) 0)^^^(gm ((aw p).getD i 0) ((aw q).getD j 0))).toNat:Int)) Kr)] 5 (bC (.slice (some ⟨(f 5).y 0,0,none⟩) (((aw p).length)+((aw q).length)) (((aw p).length)+((aw q).length))) ((eE (aw p) (aw q) i j).set (i+j) (((eE (aw p) (aw q) i j).getD (i+j) 0)^^^(gm ((aw p).getD i 0) ((aw q).getD j 0))))) (r0 [(0,ad j 1)] [(31,iN (j+1))] [31] (le (j+1) Om Om Kr [0,1,2,3,4,5] (by rw[Mq Om];kernel_rfl))))
  obtain rfl:j=(aw q).length:=by omega
  exact lx (r0 [(0,ad i 1)] [(24,iN (i+1))] [24] (le (i+1) Om Om Kr [0,1,2,3,4,5] (by rw[←L6 (aw p) (aw q) i];kernel_rfl)))
 obtain rfl:i=(aw p).length:=by omega
 have D:=Di (aw p) (aw q) (aw p).length 0;exact lx (rr (λ_=>[(1,.c [5] [6] (aa.at (rd':=[bC (.slice (some ⟨(f 5).y 0,0,none⟩) (((aw p).length)+((aw q).length)) (((aw p).length)+((aw q).length))) (eE (aw p) (aw q) ((aw p).length) 0)]) (uU (.slice (some ⟨(f 5).y 0,0,none⟩) (((aw p).length)+((aw q).length)) (((aw p).length)+((aw q).length))) (eE (aw p) (aw q) ((aw p).length) 0) Om) (bP (λ_ h=>ar.sq h) (λ_ h=>h))))]) (λe=>[(6,((e 1).val 0))]) [6] (λe L=>L++[bC ((e 1).val 0) (aw (eE (aw p) (aw q) ((aw p).length) 0))]) λe=>lf (.l [] [] [((e 1).val 0),(e 1).val 0]) [6] [(0,0),(1,1),(2,2)] [] (hf:=by rw[←L9,←s];kernel_rfl))
theorem Ms{q:List UInt8}{a:UInt8}{o:List UInt8}{z j:Nat}(h:z+j<o.length):fj q a o z (j+1)=(fj q a o z j).set (z+j) ((fj q a o z j).getD (z+j) 0^^^gm a (q.getD j 0)):=by
 rw[←Me,←Md h];rfl
theorem Mt{p q:List UInt8}{d k:Nat}{t:UInt8}(h:d≤p.length-1-k):bZ p q d t (k+1)=fj q (gm ((bZ p q d t k).getD (p.length-1-k) 0) t) (bZ p q d t k) (p.length-1-k-d) (d+1):=(Mf h).symm
theorem Dl{b:UInt8}(h:b≠0):(fI b != 0)=false:=by
 unfold fI;rw[show((b.toNat:Int)==0)=false from beq_false_of_ne λe=>h (UInt8.toNat_inj.1 (by show b.toNat=0;omega))];rfl
attribute [local irreducible] bZ fj
theorem Mu(g:Nat)(v u:Value)(p q:List UInt8)(d:Nat)(t:UInt8)(hp:p.length≤50000)(N:q.length≤50000)(B:aZ q=d+1)(I:d≤p.length)(ht:bO 1 (q.getD d 0)=t):aa YV 203 #[pt g 0,v,u] [ob g (rB 255 aQ++rN 256 aW).toArray 312,.p (aP eB v p),.p (aP eB u q)] [] (λE=>[bC (E.val 0) (dH p q t)]) (λE=> .tuple #[(E.val 0),i6 0]):=by
 refine fO Tryz.func203 1 rfl λo y=>fO Tryz.func203 2 rfl λr i=>fG Tryz.func203 λw M=>?_;have K:=rV q;have A:q.getD d 0≠0:=nV q B;refine r0 [] [(6,.slice none 0 0),(7,i6 0)] [] (rr (λJ=>[(1,.c [2] [] (aa.at (rd':=[.c r]) (Dk u q Om) (ei i (λ_ h=>h)))),(2,.t (tk (show i6 (((aZ q:Nat):Int)-1)=iN d from ALca (Value.int .i64) Om)))]) (λ_=>[(8,iN d)]) [] (λ_ L=>L) λJ=>rF [(1,.t (tk (show Value.bool (decide ((d:Int)<0))= .bool false from ALca Value.bool (by exact bj Om))))] 18 (r0 [(3,fh i.1 2 d 1),(4,iU kB i.1 2 d 0),(5,.c [0] [] (Lt g (q.getD d 0))),(9,.t (tk (show u1 ((bO (1:UInt8) (q.getD d 0)).toNat:Int)=u1 (t.toNat:Int) from ALca (λz:UInt8=>Value.int .u8 (z.toNat:Int)) ht)))] [(9,u1 (t.toNat:Int)),(10,i6 (fI (q.getD d 0)))] [] (rF [(1,.t (tk (show Value.bool ((fI (q.getD d 0)) != 0)= .bool false from ALca Value.bool (by exact Dl A))))] 29 (rr (λ_=>[(1,.c [1] [3] (aa.at (rd':=[.c o]) (Dj v p Om) (ei y (λ_ h=>h))))]) (λe=>[(11,((e 1).val 0))]) [] (λe L=>L++[bC ((e 1).val 0) p]) λe=>r0 [(1,eS kB ((e 1).val 0) p 3),(2,sI (p.length:Int) (1) Om)] [(12,i6 ((p.length:Int)-1))] [] ?_))));refine lq (λk=>k≤p.length-d) (λk=>[(12,i6 (((p.length:Nat):Int)-1-((k:Nat):Int)))]) (λk L=>L.set 3 (bC ((e 1).val 0) (bZ p q d t k))) (λk=>(p.length-d)-k) 0 Om (by rw[show((p.length:Nat):Int)-1-((0:Nat):Int)=(p.length:Int)-1 by omega];kernel_rfl) Kr (λk F=>?_);have H:=rZ p q d t k;refine r0 [] [(38,.bool (decide ((d:Int)≤(((p.length:Nat):Int)-1-((k:Nat):Int)))))] [] ?_;refine oI (d:Int) (((p.length:Nat):Int)-1-((k:Nat):Int)) (λs m=>?_) λs m=>?_
 ·refine r0 [(2,.t (tk (show i6 (((p.length:Nat):Int)-1-((k:Nat):Int))=iN (p.length-1-k) from ALca (Value.int .i64) Om))),(3,cy kB ((e 1).val 0) (bZ p q d t k) 3 (p.length-1-k)),(4,eL kB ((e 1).val 0) (bZ p q d t k) 3 (p.length-1-k) 0),(6,.c [0] [] (pS g ((bZ p q d t k).getD (p.length-1-k) 0) t))] [(13,u1 ((gm ((bZ p q d t k).getD (p.length-1-k) 0) t).toNat:Int))] [] (r0 [(1,ad d 1)] [(49,iN (d+1)),(50,i6 0)] [] ?_);refine lq (λj=>j≤d+1) (λj=>[(50,iN j)]) (λj L=>L.set 3 (bC ((e 1).val 0) (fj q (gm ((bZ p q d t k).getD (p.length-1-k) 0) t) (bZ p q d t k) (p.length-1-k-d) j))) (λj=>(d+1)-j) 0 Om Kr (by rw[Mb];kernel_rfl) (λj C=>?_);have D:=Ma q (gm ((bZ p q d t k).getD (p.length-1-k) 0) t) (bZ p q d t k) (p.length-1-k-d) j;refine r0 [] [(51,.bool (decide ((j:Int)<((d+1:Nat):Int))))] [] ?_;refine cc (j:Int) ((d+1:Nat):Int) (λx n=>?_) λx n=>?_
  ·exact r0 [] [(14,iN j)] [] (rs [(1,.t (tk (show i6 (((p.length:Nat):Int)-1-((k:Nat):Int))=iN (p.length-1-k) from ALca (Value.int .i64) Om))),(3,.t (tb (a:=iN (p.length-1-k)) (b:=iN d) λ_ _ _ _=>lQ (a:=p.length-1-k) (b:=d) Om Om)),(5,ad ((p.length-1-k)-d) j),(6,cy kB ((e 1).val 0) (fj q (gm ((bZ p q d t k).getD (p.length-1-k) 0) t) (bZ p q d t k) (p.length-1-k-d) j) 3 (((p.length-1-k)-d)+j)),(7,eL kB ((e 1).val 0) (fj q (gm ((bZ p q d t k).getD (p.length-1-k) 0) t) (bZ p q d t k) (p.length-1-k-d) j) 3 (((p.length-1-k)-d)+j) 0),(12,fh i.1 2 j 1),(13,iU kB i.1 2 j 0),(14,.c [0] [] (pS g (gm ((bZ p q d t k).getD (p.length-1-k) 0) t) (q.getD j 0))),(15,.t (tb (a:=u1 (((fj q (gm ((bZ p q d t k).getD (p.length-1-k) 0) t) (bZ p q d t k) (p.length-1-k-d) j).getD (((p.length-1-k)-d)+j) 0).toNat:Int)) (b:=u1 ((gm (gm ((bZ p q d t k).getD (p.length-1-k) 0) t) (q.getD j 0)).toNat:Int)) λ_ _ _ _=>lL ((fj q (gm ((bZ p q d t k).getD (p.length-1-k) 0) t) (bZ p q d t k) (p.length-1-k-d) j).getD (((p.length-1-k)-d)+j) 0) ((gm (gm ((bZ p q d t k).getD (p.length-1-k) 0) t) (q.getD j 0))))),(16,cy kB ((e 1).val 0) (fj q (gm ((bZ p q d t k).getD (p.length-1-k) 0) t) (bZ p q d t k) (p.length-1-k-d) j) 3 (((p.length-1-k)-d)+j)),(17,rA kB ((e 1).val 0) (fj q (gm ((bZ p q d t k).getD (p.length-1-k) 0) t) (bZ p q d t k) (p.length-1-k-d) j) 3 (((p.length-1-k)-d)+j) 0 (((fj q (gm ((bZ p q d t k).getD (p.length-1-k) 0) t) (bZ p q d t k) (p.length-1-k-d) j).getD (((p.length-1-k)-d)+j) 0)^^^(gm (gm ((bZ p q d t k).getD (p.length-1-k) 0) t) (q.getD j 0))) (u1 ((((fj q (gm ((bZ p q d t k).getD (p.length-1-k) 0) t) (bZ p q d t k) (p.length-1-k-d) j).getD (((p.length-1-k)-d)+j) 0)^^^(gm (gm ((bZ p q d t k).getD (p.length-1-k) 0) t) (q.getD j 0))).toNat:Int)) Kr)] 3 (bC ((e 1).val 0) ((fj q (gm ((bZ p q d t k).getD (p.length-1-k) 0) t) (bZ p q d t k) (p.length-1-k-d) j).set (((p.length-1-k)-d)+j) (((fj q (gm ((bZ p q d t k).getD (p.length-1-k) 0) t) (bZ p q d t k) (p.length-1-k-d) j).getD (((p.length-1-k)-d)+j) 0)^^^(gm (gm ((bZ p q d t k).getD (p.length-1-k) 0) t) (q.getD j 0))))) (r0 [(0,ad j 1)] [(50,iN (j+1))] [50] (le (j+1) Om Om Kr [0,1,2,3] (by rw[Ms Om];kernel_rfl))))
  obtain rfl:j=d+1:=by omega
  exact lx (r0 [(1,.t (tv (av .sub 3 (.tmp 39) (.const (i6 1)) (i6 (((p.length:Nat):Int)-1-((k:Nat):Int))) (i6 1)) (λ_=>yr Om Om)))] [(12,i6 (((p.length:Nat):Int)-1-((k+1:Nat):Int)))] [12] (le (k+1) Om Om Kr [0,1,2,3] (by rw[Mt Om];kernel_rfl)))
 obtain rfl:k=p.length-d:=by omega
 have G:=rZ p q d t (p.length-d);exact lx (rr (λ_=>[(1,.c [3] [4] (aa.at (rd':=[bC ((e 1).val 0) (bZ p q d t (p.length-d))]) (uU ((e 1).val 0) (bZ p q d t (p.length-d)) Om) (bP (λ_ h=>ar.sq h) (λ_ h=>h))))]) (λf=>[(6,((f 1).val 0)),(7,i6 0)]) [6,7] (λf L=>L++[bC ((f 1).val 0) (aw (bZ p q d t (p.length-d)))]) λf=>lf (.l [] [] [((f 1).val 0),(f 1).val 0]) [4] [(0,0),(1,1),(2,2)] [] (hf:=by rw[show dH p q t=aw (bZ p q d t (p.length-d)) by unfold dH;rw[B,Nat.add_sub_cancel]];kernel_rfl))
end
section
open Go Go.RowKit Go.Shelf
theorem Mv(g:Nat)(v:Value)(xs:List UInt8)(z:xs.length≤1000000)(bs:aA)(h:dO eB v xs bs):e4 5 YV 289 #[pt g 0] (λ(x:Nat×UInt8)=>#[i6 (x.1:Int),u1 (x.2.toNat:Int)]) ((Y4 xs.length).map λj=>(xs.length-1-j,xs.getD (xs.length-1-j) 0)) (Zs [[(g,.cells #[v] 191 (0,0))],bs]):=by
 refine gi (KO:=[[(g,.cells #[v] 191 (0,0))],bs]) Tryz.func289 (λo q p y u d m i=>?_);refine r0 [(0,.l 0),(1,eD h 1),(2,sI (xs.length:Int) (1) Om)] [(3,i6 ((xs.length:Int)-1))] [] ?_;refine jW (λk=>k≤xs.length) (λk=>[(3,i6 (((xs.length:Nat):Int)-1-((k:Nat):Int)))]) (λ_ L=>L) (λk=>xs.length-k) (λk=>k) 0 Om i (by rw[show((xs.length:Nat):Int)-1-((0:Nat):Int)=(xs.length:Int)-1 by omega];kernel_rfl) Kr (λk r w n b=>?_);refine r0 [] [(8,.bool (decide (0≤(((xs.length:Nat):Int)-1-((k:Nat):Int)))))] [] ?_;refine oI 0 (((xs.length:Nat):Int)-1-((k:Nat):Int)) (λf c=>?_) λf c=>?_
 ·refine iy d m b 6 (λ_=>[(1,.t (tk (show i6 (((xs.length:Nat):Int)-1-((k:Nat):Int))=iN (xs.length-1-k) from ALca (Value.int .i64) Om))),(2,.l 0),(3,.t (tk (show i6 (((xs.length:Nat):Int)-1-((k:Nat):Int))=iN (xs.length-1-k) from ALca (Value.int .i64) Om))),(4,fh h 1 (xs.length-1-k) 1),(5,iU kB h 1 (xs.length-1-k) 0)]) (λ_=>[(11,.func (.yield o) #[] #[]),(12,iN (xs.length-1-k)),(16,u1 ((xs.getD (xs.length-1-k) 0).toNat:Int))]) [] (λ_ L=>L) N0 [0,1] (nI Om) (λA s e a=>?_);refine cF _ rfl (r0 [(1,.t (tv (av .sub 3 (.tmp 9) (.const (i6 1)) (i6 (((xs.length:Nat):Int)-1-((k:Nat):Int))) (i6 1)) (λ_=>yr Om Om)))] [(3,i6 (((xs.length:Nat):Int)-1-((k+1:Nat):Int)))] [3] ?_);exact iG (k+1) Om a Om Kr [0,1] Kr
 refine jX ?_;exact kV d b (by rw[Zx,Zo];omega) [] [0,1]
theorem Mw(v:Value)(xs:List UInt8):aa YV 286 #[v] [.p (aP eB v xs)] [] (λE=>[ob (E.y 0) #[v] 191]) (λE=> .func (.func 289) #[] #[pt ((E.y 0)) 0]):=by
 exact fO Tryz.func286 0 rfl λb d=>fG Tryz.func286 λw e=>rr (λ_=>[(0,KD 1 0 (.c b) v (λ_ _=>aP.cells d))]) (λa=>[(1,pt (B0 a) 0),(2,.nilFunc)]) [] (λa L=>L++[ob (B0 a) #[v] 191]) λa=>r0 [] [(2,.func (.func 289) #[] #[pt (B0 a) 0])] [2] (lf (.l [(a 0).y 0] [] []) [1] [(0,0)] [])
theorem Mx(g:Nat)(v:Value)(p:List UInt8)(x:UInt8)(hp:p.length≤50000):aa YV 275 #[pt g 0,v,u1 (x.toNat:Int)] [ob g (rB 255 aQ++rN 256 aW).toArray 312,.p (aP eB v p)] [] N0 (λ_=>u1 ((e8 p x).toNat:Int)):=by
 refine fO Tryz.func275 1 rfl λd m=>fG Tryz.func275 λw A=>ra (λe=>[(3,pt (B0 e) 0),(5,pt (B1 e) 0),(6,u1 0)]) (λe=>[ob (B0 e) #[pt g 0] 239,ob (B1 e) #[u1 (x.toNat:Int)] 5]) λe=>rr (λ_=>[(1,.s 4)]) (λf=>[(7,pt (B0 f) 0)]) [] (λf L=>L++[ob (B0 f) #[u1 0] 5]) λf=>rr (λ_=>[(1,.c [1] [5] (aa.at (rd':=[.c d]) (Mw v p) (ei m (λ_ h=>h))))]) (λi=>[(11,.func (.func 289) #[] #[pt ((B1 i)) 0])]) [] (λi L=>L++[ob (B1 i) #[v] 191]) λi=>?_;refine nR (encs:=λ(x:Nat×UInt8)=>#[i6 (x.1:Int),u1 (x.2.toNat:Int)]) (xs:=(Y4 p.length).map λj=>(p.length-1-j,p.getD (p.length-1-j) 0)) (KO:=[[((B1 i),.cells #[v] 191 (0,0))],d]) (Mv (B1 i) v p Om d m.1) (enters_of Tryz.func289 Kr rfl) (λj=>j≤p.length) (λj L=>L.set 4 (ob (B0 f) #[u1 ((hv p x j).toNat:Int)] 5)) [5,1] Om Kr (λB j C r y n k=>?_) (λq k=>?_)
 ·obtain⟨o,rfl⟩:=mi n;refine r0 [] [(9,u1 ((p.getD (p.length-1-j) 0).toNat:Int))] [] ?_;refine ag [5,1] (λu z=>?_);exact rs [(0,.l 2),(1,.l 4),(2,.l 3),(3,.c [0] [] (pS g (hv p x j) x)),(5,.t (tb (a:=u1 ((gm (hv p x j) x).toNat:Int)) (b:=u1 ((p.getD (p.length-1-j) 0).toNat:Int)) λ_ _ _ _=>lL ((gm (hv p x j) x)) ((p.getD (p.length-1-j) 0)))),(6,.s 4)] 4 (ob (B0 f) #[u1 (((gm (hv p x j) x)^^^(p.getD (p.length-1-j) 0)).toNat:Int)] 5) (ne _ ⟨Om,rfl⟩ [0,1,2,3,4,5] Kr)
 refine cl [ob g (rB 255 aQ++rN 256 aW).toArray 312,.c d,ob (B0 e) #[pt g 0] 239,ob (B1 e) #[u1 (x.toNat:Int)] 5,ob (B0 f) #[u1 ((hv p x p.length).toNat:Int)] 5,ob (B1 i) #[v] 191] (by rw[Zx,Zo];kernel_rfl) ?_;simp only[Zx,Zo] at k;exact r0 [(0,.l 4)] [(6,u1 ((hv p x p.length).toNat:Int))] [6] (aq (u1 ((hv p x p.length).toNat:Int)) ab.zero (by rw[Mh]) [] [(0,0),(1,1)] [])
attribute [local irreducible] hP
theorem My(g:Nat)(v:Value)(rs:List UInt8)(r:rs.length≤100):aa YV 183 #[pt g 0,v] [ob g (rB 255 aQ++rN 256 aW).toArray 312,.p (aP eB v rs)] [] (λE=>[bC (E.val 0) (hZ rs rs.length)]) (λE=>(E.val 0)):=by
 refine fO Tryz.func183 1 rfl λi d=>fG Tryz.func183 λw q=>r0 [] [(4,.slice none 0 0)] [] (rr (λ_=>[(0,gO kB 2 1 [(1:UInt8)])]) (λe=>[(5,.slice (some ⟨(e 0).y 0,0,none⟩) 1 1)]) [] (λe L=>L++[bC (.slice (some ⟨(e 0).y 0,0,none⟩) 1 1) ([(1:UInt8)])]) λe=>r0 [(1,eD d.1 1)] [(9,v),(10,iN rs.length),(11,i6 0)] [] ?_);refine mv (λk _=>k≤rs.length) (λk a=>[(11,iN k),(5,a)]) (λk a L=>L.set 2 (bC a (hZ rs k))) (λk _=>rs.length-k) 0 (.slice (some ⟨(e 0).y 0,0,none⟩) 1 1) Om Kr Kr (λk a m=>?_);have o:=LV rs k;have n:([rs.getD k 0,(1:UInt8)]:List UInt8).length=2:=rfl;refine r0 [] [(12,.bool (decide ((k:Int)<(rs.length:Int))))] [] ?_;refine cc (k:Int) (rs.length:Int) (λj f=>?_) λj f=>?_
 ·exact r0 [(0,fh d.1 1 k 1),(1,iU kB d.1 1 k 0)] [(7,u1 ((rs.getD k 0).toNat:Int))] [] (rr (λb=>[(3,gO kB 3 2 [rs.getD k 0,(1:UInt8)]),(4,.c [0,2,3] [4] (aa.at (rd':=[ob g (rB 255 aQ++rN 256 aW).toArray 312,bC a (hZ rs k),bC (.slice (some ⟨(b 3).y 0,0,none⟩) 2 2) ([rs.getD k 0,(1:UInt8)])]) (Mr g a (.slice (some ⟨(b 3).y 0,0,none⟩) 2 2) (hZ rs k) ([rs.getD k 0,(1:UInt8)]) Om Om) (atS (bP (λ_ h=>ar.sq h) (bP (λ_ h=>ar.sq h) (λ_ h=>h))))))]) (λb=>[(5,((b 4).val 0))]) [5] (λb L=>L++[bC (.slice (some ⟨(b 3).y 0,0,none⟩) 2 2) ([rs.getD k 0,(1:UInt8)]),bC ((b 4).val 0) (hP (hZ rs k) ([rs.getD k 0,(1:UInt8)]))]) λb=>r0 [(0,ad k 1)] [(11,iN (k+1))] [11] (kS (k+1) ((b 4).val 0) Om Om Kr [0,1,4] Kr))
 obtain rfl:rs.length=k:=by omega
 refine kT ?_;exact r0 [] [(4,a)] [4] (lf (.l [] [] [a]) [2] [(0,0),(1,1)] [])
end
end E
theorem Dm(x:UInt8)(m n:Nat):pw (pw x m) n=pw x (m*n):=by
 induction n with
 | zero=>rfl
 | succ n ih=>rw[pw,ih,Nat.mul_succ,C9]
theorem yt(x:UInt8)(m n:Nat):pw (pw x m) n=pw (pw x n) m:=by rw[Dm,Dm,aab]
def vs(l:List (UInt8×UInt8))(j:Nat):UInt8:=l.foldr (λp s=>gm p.1 (pw p.2 j)^^^s) 0
theorem nX(p:UInt8×UInt8)(l:List (UInt8×UInt8))(j:Nat):vs (p::l) j=gm p.1 (pw p.2 j)^^^vs l j:=rfl
theorem Mz(x:UInt8)(l:List (UInt8×UInt8))(j:Nat):vs (l.map λp=>(gm p.1 (p.2^^^x),p.2)) j=vs l (j+1)^^^gm x (vs l j):=by
 induction l with
 | nil=>show(0:UInt8)=0^^^gm x 0;rw[kX];rfl
 | cons p l ih=>
  rw[List.map_cons,nX,nX,nX,ih,rS x];have h:gm (gm p.1 (p.2^^^x)) (pw p.2 j)=gm p.1 (pw p.2 (j+1))^^^gm x (gm p.1 (pw p.2 j)):=by
   rw[rS,rU,pw,kr,iW p.2 (pw p.2 j),kr p.1 x,yh p.1 x]
  rw[h,x4]
theorem Dn: ∀(l:List (UInt8×UInt8)) (k:Nat),l.length≤k→l.Pairwise (λp q=>p.2≠q.2)→(∀j,j<k→vs l j=0)→∀p∈l,p.1=0
 | [],_,_,_,_=>λ_ h=>by cases h
 | a::l,k,t,y,o=>by
  obtain⟨k,rfl⟩: ∃m,k=m+1:=⟨k-1,by simp at t;omega⟩;obtain⟨g,i⟩:=List.pairwise_cons.1 y;have v: ∀p∈l.map λp=>(gm p.1 (p.2^^^a.2),p.2),p.1=0:=by
   refine Dn _ k (by simpa using t) ?_ λj A=>?_
   ·rw[aan];exact i
   ·rw[Mz];have r:=o (j+1) Om;have c:=o j Om;rw[nX] at r c;have f:vs l (j+1)=gm a.1 (pw a.2 (j+1)):=(UInt8.xor_eq_zero_iff.1 r).symm;have d:vs l j=gm a.1 (pw a.2 j):=(UInt8.xor_eq_zero_iff.1 c).symm;rw[f,d,pw,iW (pw a.2 j) a.2,yh,Zz]
  have s: ∀p∈l,p.1=0:=λp b=>by
   have w:=v _ (List.mem_map_of_mem b);apply Zi;intro n;refine yg _ _ n (λe=>?_) w;exact g p b (UInt8.xor_eq_zero_iff.1 e).symm
  have x: ∀m:List (UInt8×UInt8),(∀p∈m,p.1=0)→vs m 0=0:=λm=>by
   induction m with
   | nil=>intro _;rfl
   | cons p m ih=>
    intro u;rw[nX,u p (ZR),gP,ih λq z=>u q (ZM _ z)];rfl
  intro p b;rcases List.mem_cons.1 b with rfl | b
  ·have c:=o 0 Om;rw[nX,x l s,Y8] at c;exact(nU p.1).symm.trans c
  ·exact s p b
theorem uV(i:Nat):(pw 2 i).toNat=gE (i%255):=by
 induction i with
 | zero=>decide+kernel
 | succ i ih=>
  rw[pw,kW,ih];have a:(2:UInt8).toNat=gE 1:=by decide+kernel
  rw[a,rQ _ _ (Zr _ Om) (by decide+kernel)];have b:gL (gE 1)=1:=by decide+kernel
  rw[b]
  congr 1
  omega
theorem Dp: ∀i,i<255→gL (gE i)=i:=by decide+kernel
theorem Dq{i j:Nat}(b:i<255)(c:j<255)(h:pw 2 i=pw 2 j):i=j:=by
 have a:=ALca UInt8.toNat h;rw[uV,uV,Y7 b,Y7 c] at a;rw[←Dp i b,←Dp j c,a]
theorem MA{x:UInt8}(h:x≠0):pw 2 (gL x.toNat)=x:=by
 have f:x.toNat≠0:=λe=>h (UInt8.toNat_inj.1 e);have b: ∀a,a<256→a≠0→gL a<255∧gE (gL a)=a:=by decide+kernel
 obtain⟨c,d⟩:=b x.toNat x.toNat_lt f;apply UInt8.toNat_inj.1;rw[uV,Y7 c,d]
theorem MB{x:UInt8}(h:x≠0):gL x.toNat<255:=by
 have c:x.toNat≠0:=λe=>h (UInt8.toNat_inj.1 e);have b: ∀a,a<256→a≠0→gL a<255:=by decide+kernel
 exact b x.toNat x.toNat_lt c
def et(e:Nat→UInt8)(n:Nat):List Nat:=(Y4 n).filter λi=>e i != 0
theorem Dt(e:Nat→UInt8)(n:Nat):et e (n+1)=et e n++(if e n != 0 then[n] else[]):=by
 unfold et;rw[List.range_succ,List.filter_append]
 congr 1
 by_cases h:e n != 0
 ·rw[ALifp h];simp [aaJ,h]
 ·rw[ALifn h];simp [aaJ,h]
theorem MC(l m:List (UInt8×UInt8))(j:Nat):vs (l++m) j=vs l j^^^vs m j:=by
 induction l with
 | nil=>rw[ZI];exact(Zn).symm
 | cons p l ih=>rw[aap,nX,nX,ih,Zv]
theorem ME(e:Nat→UInt8)(n j:Nat):vs ((et e n).map λi=>(e i,pw 2 i)) j=xs n λi=>gm (e i) (pw (pw 2 j) i):=by
 induction n with
 | zero=>rfl
 | succ n ih=>
  rw[Dt,List.map_append,MC,ih,oM]
  congr 1
  by_cases h:e n=0
  ·rw[ALifn (by simp [h]),h,gP];rfl
  ·rw[ALifp (by simp [h]),yt];exact Y8
theorem MF{e:Nat→UInt8}{n:Nat}(s:n≤255)(r:(et e n).length≤4)(h: ∀j,j<4→(xs n λi=>gm (e i) (pw (pw 2 j) i))=0): ∀i,i<n→e i=0:=by
 intro i o;apply Zi;intro c;have k:=Dn ((et e n).map λi=>(e i,pw 2 i)) 4 (by simpa using r) (by
  rw[aan];refine(List.Pairwise.filter _ (List.nodup_range (n:=n))).imp_of_mem ?_;intro a b l m f q;have d:=(List.mem_filter.1 l).1;have g:=(List.mem_filter.1 m).1;exact f (Dq (by have:=List.mem_range.1 d;omega) (by have:=List.mem_range.1 g;omega) q)) (λj p=>by rw[ME];exact h j p)
 exact c (k _ (List.mem_map.2 ⟨i,List.mem_filter.2 ⟨List.mem_range.2 o,by simp [c]⟩,rfl⟩))
structure Vd where
 A:Nat
 place:Int
 val:UInt8
deriving DecidableEq
def hit(s:Nat→UInt8)(i:Nat):Bool:=s 0 != 0&&s 1==gm (s 0) (pw 2 i)&&s 2==gm (s 1) (pw 2 i)&&s 3==gm (s 2) (pw 2 i)
theorem nY(s:Nat→UInt8)(i:Nat):hit s i=true↔s 0≠0∧s 1=gm (s 0) (pw 2 i)∧s 2=gm (s 1) (pw 2 i)∧s 3=gm (s 2) (pw 2 i):=by
 unfold hit;simp only[Y2,bne_iff_ne,beq_iff_eq,and_assoc]
theorem Du{a x y:UInt8}(d:a≠0)(h:gm a x=gm a y):x=y:=by
 have c:gm a (x^^^y)=0:=by rw[rS,h,Zz]
 apply Zi;intro b;exact yg _ _ d (λe=>b (UInt8.xor_eq_zero_iff.1 e)) c
theorem Dw{s:Nat→UInt8}{i j:Nat}(d:i<255)(e:j<255)(h1:hit s i=true)(h2:hit s j=true):i=j:=by
 obtain⟨a,b,_⟩:=(nY s i).1 h1;obtain⟨_,c,_⟩:=(nY s j).1 h2;exact Dq d e (Du a (b.symm.trans c))
def jH(s:Nat→UInt8):Nat→Option Nat
 | 0=>none
 | k+1=>match jH s k with
  | some i=>some i
  | none=>if hit s k then some k else none
theorem Dx{s:Nat→UInt8}{k:Nat}:jH s k=none↔∀i,i<k→hit s i=false:=by
 induction k with
 | zero=>exact⟨λ_ i b=>by omega,λ_=>rfl⟩
 | succ k ih=>
  rw[jH];cases h:jH s k with
  | some i=>
   refine⟨λh=>(by cases h),λa=>?_⟩;have:=ih.2 λi b=>a i Om;rw[h] at this;cases this
  | none=>
   by_cases a:hit s k=true
   ·simp only[a,if_true];exact⟨λh=>(by cases h),λc=>by rw[c k Om] at a;cases a⟩
   ·simp only[a];refine⟨λ_ i b=>?_,λ_=>rfl⟩;by_cases e:i=k
    ·subst e;simpa using a
    ·exact(ih.1 h) i Om
theorem Dy{s:Nat→UInt8}{k i:Nat}(g:k≤255)(e:i<k)(h:hit s i=true):jH s k=some i:=by
 cases d:jH s k with
 | none=>rw[Dx.1 d i e] at h;cases h
 | some j=>
  have c: ∀k,jH s k=some j→j<k∧hit s j=true:=λk=>by
   induction k with
   | zero=>intro h;cases h
   | succ k ih=>
    intro h;rw[jH] at h;cases a:jH s k with
    | some l=>
     rw[a] at h;obtain rfl:=Option.some.inj h;have:=ih a;exact⟨by omega,this.2⟩
    | none=>
     rw[a] at h;by_cases b:hit s k=true
     ·simp only[b,if_true] at h;obtain rfl:=Option.some.inj h;exact⟨by omega,b⟩
     ·simp only[b] at h;cases h
  obtain⟨f,a⟩:=c k d;rw[Dw Om Om a h]
def jY(s:Nat→UInt8):Prop:=s 0=0∧s 1=0∧s 2=0∧s 3=0
instance (s:Nat→UInt8):Decidable (jY s):=by unfold jY;exact inferInstance
def dx(s:Nat→UInt8):Vd:=if jY s then⟨0, -1,0⟩ else match jH s 39 with
 | some i=>if 35<i then⟨2,i,s 0⟩ else⟨1,i,s 0⟩
 | none=>⟨3, -1,0⟩
theorem yu{s:Nat→UInt8}(h:jY s):dx s=⟨0, -1,0⟩:=ALifp h
theorem Dz{s:Nat→UInt8}{i:Nat}(h:hit s i=true): ¬jY s:=λa=>((nY s i).1 h).1 a.1
theorem DA{s:Nat→UInt8}{i:Nat}(a:i≤35)(h:hit s i=true):dx s=⟨1,i,s 0⟩:=by
 unfold dx;rw[ALifn (Dz h),Dy Om (show i<39 by omega) h];exact ALifn Om
theorem DB{s:Nat→UInt8}{i:Nat}(h1:35<i)(a:i<39)(h:hit s i=true):dx s=⟨2,i,s 0⟩:=by
 unfold dx;rw[ALifn (Dz h),Dy Om a h];exact ALifp h1
theorem uW{s:Nat→UInt8}(h0: ¬jY s)(h: ∀i,i<39→hit s i=false):dx s=⟨3, -1,0⟩:=by
 unfold dx;rw[ALifn h0,Dx.2 h]
theorem MG{s t:Nat→UInt8}(h: ∀i,i<4→s i=t i):dx s=dx t:=by
 have d: ∀i,hit s i=hit t i:=λi=>by unfold hit;rw[h 0 Om,h 1 Om,h 2 Om,h 3 Om]
 have c: ∀k,jH s k=jH t k:=λk=>by
  induction k with
  | zero=>rfl
  | succ k ih=>rw[jH,jH,ih,d]
 have b:jY s↔jY t:=by unfold jY;rw[h 0 Om,h 1 Om,h 2 Om,h 3 Om]
 unfold dx;by_cases a:jY s
 ·rw[ALifp a,ALifp (b.1 a)]
 ·rw[ALifn a,ALifn (λe=>a (b.2 e)),c,h 0 Om]
theorem MI{s:Nat→UInt8}{r:UInt8}(h0:s 0≠0)(c:gm r (s 0)=s 1)(a:r≠0)(h2:s 2=gm (s 1) r)(b:s 3=gm (s 2) r):hit s (gL r.toNat)=true:=by
 rw[nY,MA a];exact⟨h0,by rw[←c,iW],h2,b⟩
theorem DC{s:Nat→UInt8}{r:UInt8}(k:gm r (s 0)=s 1)(h:r=0∨s 2≠gm (s 1) r∨s 3≠gm (s 2) r)(i:Nat):hit s i=false:=by
 cases j:hit s i with
 | false=>rfl
 | true=>
  exfalso;obtain⟨b,c,d,f⟩:=(nY s i).1 j;have e:r=pw 2 i:=Du b (by rw[iW,k,c]);subst e;rcases h with h | h | h
  ·have a:=uV i;rw[h] at a;have g: ∀m,m<255→gE m≠0:=by decide+kernel
   exact g (i%255) (Zr _ Om) a.symm
  ·exact h d
  ·exact h f
def cu:List UInt8:=LU [1,2,4,8]
theorem DD:cu=[64,120,54,15,1]:=by decide+kernel
def gi(x:UInt8):UInt8:=UInt8.ofNat (na 1 x.toNat)
theorem MJ(x:UInt8):(gi x).toNat=na 1 x.toNat:=by unfold gi;rw[Zy];exact Y7 (CZ _ _)
theorem DE{x:UInt8}(h:x≠0):gm x (gi x)=1:=by
 rw[iW];apply UInt8.toNat_inj.1;rw[kW,MJ,C0 _ _ Om x.toNat_lt (λe=>h (UInt8.toNat_inj.1 e))];rfl
def oT(d v:List UInt8):List UInt8:=YU 4 0++d++v
def kx(d v:List UInt8):List UInt8:=dH (oT d v) cu (gi (co cu (aZ cu-1)))
def gQ(d v:List UInt8):List UInt8:=fX 4 (co (kx d v))
theorem h8(d v:List UInt8):(gQ d v).length=4:=jG _ _
theorem oV:aZ cu=5:=by
 have h:=Df [1,2,4,8] 4;exact h
theorem MK:cu.length=5:=by rw[DD];rfl
theorem yv(d v:List UInt8):(kx d v).length≤4:=by
 have h:=(Dg (p:=oT d v) (q:=cu) (t:=gi (co cu (aZ cu-1))) (by rw[oV];omega) (DE (nV cu (t:=aZ cu-1) (by rw[oV])))).2;rw[LZ,oV] at h;exact Nat.le_of_lt_succ h
theorem ML(d v:List UInt8):kx d v++(YU 4 (0:UInt8)).drop (kx d v).length=gQ d v:=by
 have c:=yv d v;refine oO (by rw[h8];simp;omega) λi b=>?_;have a:i<4:=by simp at b;omega
 unfold gQ;rw[kY,ALifp a];unfold co;rw[Y0,Y0];by_cases h:i<(kx d v).length
 ·rw[ZC h]
 ·rw[Y9 Om,Za (l:=kx d v) Om,List.getElem?_drop];rw[show(kx d v).length+(i-(kx d v).length)=i by omega,List.getElem?_replicate,ALifp a];rfl
def pT(w v:List UInt8)(j:Nat):UInt8:=e8 (w++v) (pw 2 j)
def aR(w v:List UInt8):List UInt8:=fX 4 (pT w v)
theorem yw(w v:List UInt8):(aR w v).length=4:=jG _ _
def kZ(w v:List UInt8)(k:Nat):List UInt8:=fX 4 λj=>if j<k then pT w v j else 0
theorem yx(w v:List UInt8)(k:Nat):(kZ w v k).length=4:=jG _ _
theorem MM(w v:List UInt8):kZ w v 0=YU 4 0:=Dh _ _ λi _=>ALifn Om
theorem MN(w v:List UInt8):kZ w v 4=aR w v:=uR λi a=>ALifp a
theorem MO(w v:List UInt8)(k:Nat):(kZ w v k).set k (pT w v k)=kZ w v (k+1):=
 yn _ _ _ _ _ λi _=>by
  by_cases e:i=k
  ·subst e;rw[ALifp Om,ALifp rfl]
  ·rw[ALifn e];by_cases h:i<k
   ·rw[ALifp Om,ALifp h]
   ·rw[ALifn Om,ALifn h]
def gd(x y:UInt8):UInt8:=UInt8.ofNat (na x.toNat y.toNat)
theorem MP(x y:UInt8):(gd x y).toNat=na x.toNat y.toNat:=by unfold gd;rw[Zy];exact Y7 (CZ _ _)
theorem DF(x:UInt8){y:UInt8}(a:y≠0):gm (gd x y) y=x:=by
 apply UInt8.toNat_inj.1;rw[kW,MP,C0 _ _ x.toNat_lt y.toNat_lt (λe=>a (UInt8.toNat_inj.1 e))]
theorem MQ{s:Nat→UInt8}(h:(((dx s).A:Int)==1)=true): ∃i:Nat,i≤35∧(dx s).place=(i:Int):=by
 unfold dx at h⊢;by_cases c:jY s
 ·rw[ALifp c] at h;cases h
 ·rw[ALifn c] at h⊢;cases b:jH s 39 with
  | none=>rw[b] at h;cases h
  | some i=>
   rw[b] at h;by_cases a:35<i
   ·simp only[ALifp a] at h;cases h
   ·exact⟨i,by omega,by simp only[ALifn a]⟩
def fK(d v:List UInt8):List UInt8:=bif ((dx (co (aR d v))).A:Int)==1 then(d.set (dx (co (aR d v))).place.toNat ((d.getD (dx (co (aR d v))).place.toNat 0)^^^(dx (co (aR d v))).val)).drop 4 else d.drop 4
namespace E
section
open Go Go.RowKit Go.Shelf
attribute [local irreducible] aZ aw hZ hP dH aQ aW
def jI:Nat→List UInt8
 | 0=>[]
 | k+1=>jI k++[kt (aQ.getD (dA 1) 0) k]
theorem yy: ∀k,(jI k).length=k
 | 0=>rfl
 | k+1=>by rw[jI,YY,yy k];rfl
theorem MR:hZ (jI 4) (jI 4).length=cu:=by decide+kernel
theorem MS(g:Nat):aa YV 141 #[pt g 0] [ob g (rB 255 aQ++rN 256 aW).toArray 312] [] (λE=>[ob (E.y 0) #[pt g 0,(E.val 0)] 309,bC (E.val 0) cu]) (λE=>pt ((E.y 0)) 0):=by
 refine fG Tryz.func141 λw cs=>r0 [] [(2,.pointer none)] [] (ra (λq2=>[(3,pt (B0 q2) 0)]) (λq2=>[ob (B0 q2) #[.slice none 0 0] 191]) λq2=>rr (λ_=>[(2,.c [0] [] (uN g 1 Om Om)),(3,.c [] [2,3,4] (Lv g (aQ.getD (dA 1) 0) 4))]) (λq3=>[(9,.func (.func 216) #[] #[pt ((B3 q3)) 0,pt (((q3 3).y 1)) 0,pt (((q3 3).y 2)) 0])]) [] (λq3 L=>L++[ob (B3 q3) #[i6 4] 3,ob ((q3 3).y 1) #[pt g 0] 239,ob ((q3 3).y 2) #[u1 ((aQ.getD (dA 1) 0).toNat:Int)] 5]) λq3=>cz kB (cz kB ?_))
 refine Cr (encs:=λ(x:Nat×UInt8)=>#[i6 (x.1:Int),u1 (x.2.toNat:Int)]) (xs:=(Y4 4).map λk=>(k,kt (aQ.getD (dA 1) 0) k)) (KO:=[[((B3 q3),.cells #[i6 4] 3 (0,0))],[(((q3 3).y 1),.cells #[pt g 0] 239 (0,0))],[(((q3 3).y 2),.cells #[u1 ((aQ.getD (dA 1) 0).toNat:Int)] 5 (0,0))],[(g,.cells (rB 255 aQ++rN 256 aW).toArray 312 (0,0))]]) (Lw (B3 q3) ((q3 3).y 1) ((q3 3).y 2) g (aQ.getD (dA 1) 0)) (enters_of Tryz.func216 Kr rfl) (λj _=>j≤4) (λj vC3_0 L=>(L.set 1 (ob (B0 q2) #[vC3_0] 191)).set 6 (bC vC3_0 (jI j))) [2,3,4,0] (.slice none 0 0) Om Kr (λlR j vC3_0 xE R1 W1 hxE hk5=>?_) (λD4 vC3_0 hk5=>?_)
 ·obtain⟨hkb6,rfl⟩:=mi hxE
  have hpl:=yy j
  refine r0 [] [(5,u1 ((kt (aQ.getD (dA 1) 0) j).toNat:Int))] [] ?_
  refine ag [2,3,4,0] (λR2 W2=>?_)
  exact rr (λq8=>[(0,.l 1),(2,.m (bs 7 1)),(3,e7 kB (vC3_0) (jI j) 6 7 ([(kt (aQ.getD (dA 1) 0) j)])),(4,.m (fv 1 6 (bC ((q8 3).val 0) ((jI j)++([(kt (aQ.getD (dA 1) 0) j)]))) ((q8 3).val 0) λbs h=>ar.one ((λ_ h=>h) bs h)))]) N0 [] (λq8 L=>(L.set 1 (ob (B0 q2) #[(q8 3).val 0] 191)).set 6 (bC ((q8 3).val 0) ((jI j)++([(kt (aQ.getD (dA 1) 0) j)])))++[ob (B2 q8) #[u1 ((kt (aQ.getD (dA 1) 0) j).toNat:Int)] 5]) λq8=>ne _ ⟨(q8 3).val 0,Om,rfl⟩ [0,1,2,3,4,5,6] Kr
 have hpe:=yy 4
 exact rr (λq9=>[(2,.l 1),(3,.c [0,6] [7] (aa.at (rd':=[ob g (rB 255 aQ++rN 256 aW).toArray 312,bC vC3_0 (jI 4)]) (My g vC3_0 (jI 4) Om) (atS (bP (λ_ h=>ar.sq h) (λ_ h=>h))))),(4,KG (v:= .agg #[pt g 0,((q9 3).val 0)]) 7 (bC ((q9 3).val 0) (hZ (jI 4) (jI 4).length)) (Instr.build 309 #[(0,pt g 0),(1,((q9 3).val 0))]) (λbs h w=>by obtain⟨a5,c5,e5⟩:=ar.form h;rw[e5];kernel_rfl))]) (λq9=>[(2,pt (B5 q9) 0)]) [2] (λq9 L=>L++[bC ((q9 3).val 0) (hZ (jI 4) (jI 4).length),ob (B5 q9) #[pt g 0,((q9 3).val 0)] 309]) λq9=>lf (.l [(q9 5).y 0] [] [((q9 3).val 0)]) [8,7] [(0,0)] [] (hf:=by rw[←MR];kernel_rfl)
def tG:UInt8:=bO 1 (cu.getD 4 0)
theorem MT:tG=Go.Proofs.YtbcodenfkijdnaaGreat.gi (Go.Proofs.YtbcodenfkijdnaaGreat.co cu (aZ cu-1)):=by
 rw[oV];decide+kernel
theorem DG(d v:List UInt8):dH ((YU 4 0++d)++v) cu tG=kx d v:=by rw[MT];rfl
theorem MU:cu.length=5:=MK
attribute [local irreducible] cu
end
section
open Go Go.RowKit Go.Shelf
attribute [local irreducible] aZ aw hZ hP dH aQ aW cu
attribute [local irreducible] e8
theorem MV{k:Nat}(h:k<4):aQ.getD (dA (k:Int)) 0=Go.Proofs.YtbcodenfkijdnaaGreat.pw 2 k:=by
 have: ∀k:Nat,k<4→aQ.getD (dA (k:Int)) 0=Go.Proofs.YtbcodenfkijdnaaGreat.pw 2 k:=by decide+kernel
 exact this k h
theorem MW{w v:List UInt8}{k:Nat}(h:k<4):kZ w v (k+1)=(kZ w v k).set k (e8 (w++v) (aQ.getD (dA (k:Int)) 0)):=by
 rw[←MO,MV h];rfl
attribute [local irreducible] kZ
theorem MX(j g:Nat)(u:Value)(d v:List UInt8)(f:d.length=36)(hv:v.length=3):aa YV 256 #[pt j 0,.agg (rB 36 d).toArray,.agg (rB 3 v).toArray] [ob j #[pt g 0,u] 309,ob g (rB 255 aQ++rN 256 aW).toArray 312,.p (aP eB u cu)] [] N0 (λ_=> .agg (rB 4 (aR d v)).toArray):=by
 refine fO Tryz.func256 2 rfl λi t=>fG Tryz.func256 λw x=>?_;have r:(([]++d)++v).length=39:=by rw[ZI,YY,f,hv]
 refine ra (λa=>[(4,pt (B0 a) 0),(5,pt (B1 a) 0),(6,pt (B2 a) 0)]) (λa=>[ob (B0 a) (rB 36 d).toArray 371,ob (B1 a) (rB 3 v).toArray 262,ob (B2 a) (rB 4 (YU 4 0)).toArray 268]) λa=>ra (λe=>[(7,pt (B0 e) 0)]) (λe=>[ob (B0 e) (rB 4 (YU 4 0)).toArray 268]) λe=>rr (λb=>[(0,.m (rn 7 eB ([u1 0]) 5)),(1,aS 371 (B0 a) 36 1),(2,.m (mn 7 3 oH (.slice (some ⟨(b 0).y 0,0,none⟩) 0 0) (.slice (some ⟨(a 0).y 0,0,none⟩) 36 36) (xs:=[]) (ys:=d) (ob (B0 a) (rB 36 d).toArray 371) (λ_ h=>by rw[show _=_ from h];exact oL (λ_=>rfl) f) oG (λ_=>rfl) (by simp only[LL,yx,f,hv];omega))),(3,aS 262 (B1 a) 3 1),(4,.m (mn 7 4 oH ((b 2).val 0) (.slice (some ⟨(a 1).y 0,0,none⟩) 3 3) (xs:=[]++d) (ys:=v) (ob (B1 a) (rB 3 v).toArray 262) (λ_ h=>by rw[show _=_ from h];exact oL (λ_=>rfl) hv) oG (λ_=>rfl) (by simp only[LL,yx,f,hv];omega)))]) (λb=>[(8,(b 4).val 0)]) [] (λb L=>L++[bC ((b 4).val 0) (([]++d)++v)]) λb=>r0 [] [(15,i6 0)] [] ?_;refine lq (λk=>k≤4) (λk=>[(15,iN k)]) (λk L=>L.set 6 (ob (B0 e) (rB 4 (kZ d v k)).toArray 268)) (λk=>4-k) 0 Om Kr (by rw[MM];kernel_rfl) (λk q=>?_);refine r0 [] [(16,.bool (decide ((k:Int)<4)))] [] ?_;refine cc (k:Int) 4 (λo n=>?_) λo n=>?_
 ·exact r0 [] [(9,iN k)] [] (rs [(4,.l 0),(9,.l 0),(11,.c [1] [] (uN g (k:Int) Om Om)),(12,.c [1,7] [] (aa.at (rd':=[ob g (rB 255 aQ++rN 256 aW).toArray 312,bC ((b 4).val 0) (([]++d)++v)]) (Mx g ((b 4).val 0) (([]++d)++v) (aQ.getD (dA (k:Int)) 0) Om) (atS (bP (λ_ h=>ar.sq h) (λ_ h=>h))))),(13,iA 268 .i64 (B0 e) 0 4 1 k),(14,wD 6 (B0 e) k 268 (u1 ((e8 (([]++d)++v) (aQ.getD (dA (k:Int)) 0)).toNat:Int)) (rB 4 (kZ d v k)) (rB 4 ((kZ d v k).set k (e8 (([]++d)++v) (aQ.getD (dA (k:Int)) 0)))) (jT Om) (mj (yx ..)))] 6 (ob (B0 e) (rB 4 ((kZ d v k).set k (e8 (([]++d)++v) (aQ.getD (dA (k:Int)) 0)))).toArray 268) (r0 [(0,ad k 1)] [(15,iN (k+1))] [15] (le (k+1) Om Om Kr [0,1,2,3,4,5,6,7] (by rw[MW Om];kernel_rfl))))
 obtain rfl:k=4:=by omega
 exact cl [ob j #[pt g 0,u] 309,ob g (rB 255 aQ++rN 256 aW).toArray 312,.c i,ob (B0 a) (rB 36 d).toArray 371,ob (B1 a) (rB 3 v).toArray 262,ob (B2 a) (rB 4 (YU 4 0)).toArray 268,ob (B0 e) (rB 4 (aR d v)).toArray 268,bC ((b 4).val 0) (([]++d)++v)] (by rw[MN];kernel_rfl) (lx (rs [(0,.l 6),(1,.s 5)] 5 (ob (B2 a) (rB 4 (aR d v)).toArray 268) (lf ab.zero [] [(0,0),(1,1),(2,2)] [5])))
theorem yz:aa YV 273 #[] [] [] N0 (λ_=> .agg #[i6 3,i6 (-1),u1 0]):=by
 exact fG Tryz.func273 λw b=>ra (λa=>[(0,pt (B0 a) 0)]) (λa=>[ob (B0 a) #[i6 0,i6 0,u1 0] 368]) λa=>rs [(1,.s 0)] 0 (ob (B0 a) #[i6 3,i6 (-1),u1 0] 368) (lf ab.zero [] [] [0])
end
section
open Go Go.RowKit Go.Shelf
attribute [local irreducible] aZ aw hZ hP dH aQ aW cu
theorem MY(g:Nat)(v u:Value)(p G:List UInt8)(t:UInt8)(c:aZ G=5)(a:G.length=5)(ht:bO 1 (G.getD 4 0)=t)(hp:p.length≤50000)(b:4≤p.length):aa YV 203 #[pt g 0,v,u] [ob g (rB 255 aQ++rN 256 aW).toArray 312,.p (aP eB v p),.p (aP eB u G)] [] (λE=>[bC (E.val 0) (dH p G t)]) (λE=> .tuple #[(E.val 0),i6 0]):=
 Mu g v u p G 4 t hp (by rw[a];decide) c b ht
theorem MZ(f g:Nat)(u:Value)(d v G:List UInt8)(t:UInt8)(k:d.length=32)(hv:v.length=3)(q:aZ G=5)(i:G.length=5)(ht:bO 1 (G.getD 4 0)=t)(x:(dH ((YU 4 0++d)++v) G t).length≤4)(r:List UInt8)(z:dH ((YU 4 0++d)++v) G t++(YU 4 (0:UInt8)).drop (dH ((YU 4 0++d)++v) G t).length=r):aa YV 161 #[pt f 0,.agg (rB 32 d).toArray,.agg (rB 3 v).toArray] [ob f #[pt g 0,u] 309,ob g (rB 255 aQ++rN 256 aW).toArray 312,.p (aP eB u G)] [] N0 (λ_=> .agg (rB 4 r).toArray):=by
 refine fO Tryz.func161 2 rfl λn o=>fG Tryz.func161 λw A=>?_;have y:((YU 4 (0:UInt8)++d)++v).length=39:=by rw[YY,YY,Y1,k,hv]
 exact ra (λa=>[(4,pt (B0 a) 0),(5,pt (B1 a) 0),(6,pt (B2 a) 0)]) (λa=>[ob (B0 a) (rB 32 d).toArray 267,ob (B1 a) (rB 3 v).toArray 262,ob (B2 a) (rB 4 (YU 4 0)).toArray 268]) λa=>ra (λj=>[(7,pt (B0 j) 0)]) (λj=>[ob (B0 j) (rB 4 (YU 4 0)).toArray 268]) λj=>rr (λb=>[(0,rK kB 7 4),(1,aS 267 (B0 a) 32 1),(2,.m (mn 7 3 oH (.slice (some ⟨(b 0).y 0,0,none⟩) 4 4) (.slice (some ⟨(a 0).y 0,0,none⟩) 32 32) (xs:=YU 4 0) (ys:=d) (ob (B0 a) (rB 32 d).toArray 267) (λ_ h=>by rw[show _=_ from h];exact oL (λ_=>rfl) k) oG (λ_=>rfl) (by simp only[LL,k,hv,i];omega))),(3,aS 262 (B1 a) 3 1),(4,.m (mn 7 4 oH ((b 2).val 0) (.slice (some ⟨(a 1).y 0,0,none⟩) 3 3) (xs:=(YU 4 0)++d) (ys:=v) (ob (B1 a) (rB 3 v).toArray 262) (λ_ h=>by rw[show _=_ from h];exact oL (λ_=>rfl) hv) oG (λ_=>rfl) (by simp only[LL,k,hv,i];omega)))]) (λb=>[(8,(b 4).val 0)]) [] (λb L=>L++[bC ((b 4).val 0) (((YU 4 0)++d)++v)]) λb=>rr (λe=>[(0,.v (pt f 0)),(1,.v (pt f 0)),(2,.v (pt f 0)),(3,.m (ld 0 (pt g 0))),(4,.v ((b 4).val 0)),(5,.v (pt f 0)),(6,.v (pt f 0)),(7,.v (pt f 1)),(8,.m (ld 0 (u))),(9,.c [1,7,2] [8] (aa.at (rd':=[ob g (rB 255 aQ++rN 256 aW).toArray 312,bC ((b 4).val 0) (((YU 4 0)++d)++v),.c n]) (MY g ((b 4).val 0) u ((((YU 4 0)++d)++v)) G t q i ht Om Om) (atS (bP (λ_ h=>ar.sq h) (ei o (λ_ h=>h)))))),(10,.v (.tuple #[(e 9).val 0,i6 0])),(11,.v ((e 9).val 0)),(12,.v (i6 0)),(13,.v ((e 9).val 0)),(14,.v (i6 0))]) (λe=>[(9,(e 9).val 0),(10,i6 0)]) [] (λe L=>L++[bC ((e 9).val 0) (dH ((((YU 4 0)++d)++v)) (G) t)]) λe=>rT [] 30 (rs [(0,aS 268 (B0 j) 4 1),(2,.m (uH kB 6 (B0 j) 0 4 4 (rB 4 (YU 4 0)).toArray (rB 4 ((YU 4 0).take 0++(dH ((((YU 4 0)++d)++v)) (G) t)++(YU 4 0).drop (0+((dH ((((YU 4 0)++d)++v)) (G) t).length)))).toArray 268 191 191 8 (bC ((e 9).val 0) (dH ((((YU 4 0)++d)++v)) (G) t)) ((e 9).val 0) (dH ((((YU 4 0)++d)++v)) (G) t) (λ_ h=>ar.src h) Om (by rw[Y5,kq];omega) (ALca List.toArray (rl (d:=0) (λ_=>rfl) Y1 rfl Om))))] 6 (ob (B0 j) (rB 4 ((YU 4 0).take 0++(dH ((((YU 4 0)++d)++v)) (G) t)++(YU 4 0).drop (0+((dH ((((YU 4 0)++d)++v)) (G) t).length)))).toArray 268) (rs [(0,.l 6),(1,.s 5)] 5 (ob (B2 a) (rB 4 ((YU 4 0).take 0++(dH ((((YU 4 0)++d)++v)) (G) t)++(YU 4 0).drop (0+((dH ((((YU 4 0)++d)++v)) (G) t).length)))).toArray 268) (aq (.agg (rB 4 ((YU 4 0).take 0++(dH ((((YU 4 0)++d)++v)) (G) t)++(YU 4 0).drop (0+((dH ((((YU 4 0)++d)++v)) (G) t).length)))).toArray) ab.zero (by rw[Zf,aaB,ZI,z]) [] [(0,0),(1,1),(2,2)] [5])))
theorem M1(a g:Nat)(u:Value)(d v:List UInt8)(b:d.length=32)(hv:v.length=3):aa YV 161 #[.pointer (some ⟨a,0,none⟩),.agg (rB 32 d).toArray,.agg (rB 3 v).toArray] [ob a #[.pointer (some ⟨g,0,none⟩),u] 309,ob g (rB 255 aQ++rN 256 aW).toArray 312,.p (aP eB u cu)] [] N0 (λ_=> .agg (rB 4 (gQ d v)).toArray):=
 MZ a g u d v cu tG b hv oV MU rfl (by rw[DG];exact yv d v) (gQ d v) (by rw[DG];exact ML d v)
theorem M3{P:Program}{T:TypeId}{x y:Operand}{w:World}{k:Nat}(h:k<9223372036854775807):(av .sub T x y (.int .i64 ((k+1:Nat):Int)) (.int .i64 1)).run P w= .ok (.int .i64 (k:Int)) w:=lQ (a:=k+1) (b:=1) Om Om
def fk(s:List UInt8):Nat:=(dx (Go.Proofs.YtbcodenfkijdnaaGreat.co s)).A
def cM(s:List UInt8):Int:=(dx (Go.Proofs.YtbcodenfkijdnaaGreat.co s)).place
def eM(s:List UInt8):UInt8:=(dx (Go.Proofs.YtbcodenfkijdnaaGreat.co s)).val
def nZ(s:List UInt8):Value:= .agg #[.int .i64 ((fk s:Nat):Int),.int .i64 (cM s),.int .u8 ((eM s).toNat:Int)]
theorem pU{s:List UInt8}{k:Nat}{p:Int}{v:UInt8}(h:dx (Go.Proofs.YtbcodenfkijdnaaGreat.co s)=⟨k,p,v⟩):Value.agg #[.int .i64 (k:Int),.int .i64 p,.int .u8 (v.toNat:Int)]=nZ s:=by
 unfold nZ fk cM eM;rw[h]
theorem uX{b:UInt8}(h:b≠0):((b.toNat:Int)==0)=false:=beq_false_of_ne λe=>h (UInt8.toNat_inj.1 (by show b.toNat=0;omega))
theorem DH(a:UInt8){b:UInt8}(h:b≠0):bO a b=Go.Proofs.YtbcodenfkijdnaaGreat.gd a b:=by
 unfold bO Go.Proofs.YtbcodenfkijdnaaGreat.gd na;rw[uX h,ALcf];by_cases c:a=0
 ·subst c;rfl
 ·have d:a.toNat≠0:=λe=>c (UInt8.toNat_inj.1 e);have f:=pR a;have g:=pR b;rw[uX c,ALcf,ALifn d,C4 (yi _)]
  congr 2
  unfold dA gL;omega
theorem DI{s:List UInt8}(hs:s.length=4):decide (s=YU 4 0)=decide (jY (Go.Proofs.YtbcodenfkijdnaaGreat.co s)):=by
 rw[decide_eq_decide]
 constructor
 ·rintro rfl;exact⟨rfl,rfl,rfl,rfl⟩
 ·rintro ⟨a,b,c,d⟩;refine oO (by rw[hs,Y1]) λi e=>?_;rw[hs] at e;have:i=0∨i=1∨i=2∨i=3:=by omega
  rcases this with rfl | rfl | rfl | rfl
  ·exact a
  ·exact b
  ·exact c
  ·exact d
theorem M4{s:List UInt8}(hs:s.length=4)(h:decide (s=YU 4 0)=true):Value.agg #[.int .i64 0,.int .i64 (-1),.int .u8 0]=nZ s:=
 pU (k:=0) (p:= -1) (v:=0) (yu (of_decide_eq_true (DI hs▸h)))
theorem yA{s:List UInt8}(hs:s.length=4)(h:decide (s=YU 4 0)=false): ¬jY (Go.Proofs.YtbcodenfkijdnaaGreat.co s):=of_decide_eq_false (DI hs▸h)
theorem DJ{s:List UInt8}(h:((fI (s.getD 0 0) != 0)||(((bO (s.getD 1 0) (s.getD 0 0)).toNat:Int)==0))=false):Go.Proofs.YtbcodenfkijdnaaGreat.co s 0≠0∧gm (bO (s.getD 1 0) (s.getD 0 0)) (Go.Proofs.YtbcodenfkijdnaaGreat.co s 0)=Go.Proofs.YtbcodenfkijdnaaGreat.co s 1∧bO (s.getD 1 0) (s.getD 0 0)≠0:=by
 rw[aad] at h;have a:s.getD 0 0≠0:=λe=>by rw[e] at h;exact absurd h.1 Dc
 refine⟨a,?_,λe=>by rw[e] at h;exact absurd h.2 Dc⟩;rw[DH _ a];exact DF (s.getD 1 0) a
theorem M5{s:List UInt8}(hs:s.length=4)(b:decide (s=YU 4 0)=false)(h:((fI (s.getD 0 0) != 0)||(((bO (s.getD 1 0) (s.getD 0 0)).toNat:Int)==0))=true):Value.agg #[.int .i64 3,.int .i64 (-1),.int .u8 0]=nZ s:=by
 refine pU (k:=3) (p:= -1) (v:=0) (uW (yA hs b) λi _=>?_);by_cases a:s.getD 0 0=0
 ·cases c:hit (Go.Proofs.YtbcodenfkijdnaaGreat.co s) i with
  | false=>rfl
  | true=>exact absurd a ((nY _ _).1 c).1
 ·rw[Dl a,ZS] at h;refine DC (r:=bO (s.getD 1 0) (s.getD 0 0)) ?_ (.inl (uO h)) i;rw[DH _ a];exact DF (s.getD 1 0) a
def rR(s:List UInt8):UInt8:=bO (s.getD 1 0) (s.getD 0 0)
theorem M6{s:List UInt8}{k:Nat}(b: ∀j,j<k→s.getD (j+1) 0=gm (s.getD j 0) (rR s))(h:((s.getD (k+1) 0).toNat:Int)=((gm (s.getD k 0) (bO (s.getD 1 0) (s.getD 0 0))).toNat:Int)): ∀j,j<k+1→s.getD (j+1) 0=gm (s.getD j 0) (rR s):=by
 intro j c;rcases Zj j k with a | a
 ·exact b j a
 ·obtain rfl:j=k:=by omega
  exact UInt8.toNat_inj.1 (Int.ofNat.inj h)
theorem M7{s:List UInt8}{k:Nat}(hs:s.length=4)(d:decide (s=YU 4 0)=false)(f:((fI (s.getD 0 0) != 0)||(((bO (s.getD 1 0) (s.getD 0 0)).toNat:Int)==0))=false)(l:((k+1:Nat):Int)<4)(h:((s.getD (k+1) 0).toNat:Int)≠((gm (s.getD k 0) (bO (s.getD 1 0) (s.getD 0 0))).toNat:Int)):Value.agg #[.int .i64 3,.int .i64 (-1),.int .u8 0]=nZ s:=by
 obtain⟨g,c,j⟩:=DJ f;have a:s.getD (k+1) 0≠gm (s.getD k 0) (bO (s.getD 1 0) (s.getD 0 0)):=λe=>h (by rw[e]);refine pU (k:=3) (p:= -1) (v:=0) (uW (yA hs d) λi _=>DC c ?_ i);have b:k=0∨k=1∨k=2:=by omega
 rcases b with rfl | rfl | rfl
 ·exact absurd (c.symm.trans (iW _ _)) a
 ·exact .inr (.inl a)
 ·exact .inr (.inr a)
theorem yB{s:List UInt8}{k:Nat}(e:((fI (s.getD 0 0) != 0)||(((bO (s.getD 1 0) (s.getD 0 0)).toNat:Int)==0))=false)(g:k≤3)(f:4≤((k+1:Nat):Int))(b: ∀j,j<k→s.getD (j+1) 0=gm (s.getD j 0) (rR s)):hit (Go.Proofs.YtbcodenfkijdnaaGreat.co s) (gL (rR s).toNat)=true∧gC (bO (s.getD 1 0) (s.getD 0 0))=gL (rR s).toNat∧(mx (bO (s.getD 1 0) (s.getD 0 0)) != 0)=false∧gL (rR s).toNat<255:=by
 obtain⟨c,d,a⟩:=DJ e;obtain rfl:k=3:=by omega
 refine⟨MI c d a (b 1 Om) (b 2 Om),?_,?_,MB a⟩
 ·unfold gC;rw[uX a];rfl
 ·unfold mx;rw[uX a];rfl
theorem M8{s:List UInt8}{k:Nat}(hs:s.length=4)(f:decide (s=YU 4 0)=false)(l:((fI (s.getD 0 0) != 0)||(((bO (s.getD 1 0) (s.getD 0 0)).toNat:Int)==0))=false)(o:k≤3)(a:4≤((k+1:Nat):Int))(m: ∀j,j<k→s.getD (j+1) 0=gm (s.getD j 0) (rR s))(h:((mx (bO (s.getD 1 0) (s.getD 0 0)) != 0)||decide (39≤((gC (bO (s.getD 1 0) (s.getD 0 0)):Nat):Int)))=true):Value.agg #[.int .i64 3,.int .i64 (-1),.int .u8 0]=nZ s:=by
 obtain⟨b,c,d,e⟩:=yB l o a m;rw[d,ZS,c] at h;have g:=of_decide_eq_true h;refine pU (k:=3) (p:= -1) (v:=0) (uW (yA hs f) λi q=>?_);cases n:hit (Go.Proofs.YtbcodenfkijdnaaGreat.co s) i with
 | false=>rfl
 | true=>have:=Dw e Om b n;omega
theorem M9{s:List UInt8}{k:Nat}(g:((fI (s.getD 0 0) != 0)||(((bO (s.getD 1 0) (s.getD 0 0)).toNat:Int)==0))=false)(l:k≤3)(c:4≤((k+1:Nat):Int))(i: ∀j,j<k→s.getD (j+1) 0=gm (s.getD j 0) (rR s))(h:((mx (bO (s.getD 1 0) (s.getD 0 0)) != 0)||decide (39≤((gC (bO (s.getD 1 0) (s.getD 0 0)):Nat):Int)))=false)(a:36≤((gC (bO (s.getD 1 0) (s.getD 0 0)):Nat):Int)):Value.agg #[.int .i64 2,.int .i64 ((gC (bO (s.getD 1 0) (s.getD 0 0)):Nat):Int),.int .u8 ((s.getD 0 0).toNat:Int)]=nZ s:=by
 obtain⟨d,e,f,m⟩:=yB g l c i;rw[f,ZS] at h;have b:=of_decide_eq_false h;rw[e] at b a⊢;exact pU (k:=2) (DB Om Om d)
theorem Na{s:List UInt8}{k:Nat}(e:((fI (s.getD 0 0) != 0)||(((bO (s.getD 1 0) (s.getD 0 0)).toNat:Int)==0))=false)(g:k≤3)(b:4≤((k+1:Nat):Int))(f: ∀j,j<k→s.getD (j+1) 0=gm (s.getD j 0) (rR s))(a:((gC (bO (s.getD 1 0) (s.getD 0 0)):Nat):Int)<36):Value.agg #[.int .i64 1,.int .i64 ((gC (bO (s.getD 1 0) (s.getD 0 0)):Nat):Int),.int .u8 ((s.getD 0 0).toNat:Int)]=nZ s:=by
 obtain⟨c,d,h,i⟩:=yB e g b f;rw[d] at a⊢;exact pU (k:=1) (DA Om c)
theorem Nb(b g:Nat)(u:Value)(s:List UInt8)(hs:s.length=4):aa YV 255 #[pt b 0,.agg (rB 4 s).toArray] [ob b #[pt g 0,u] 309,ob g (rB 255 aQ++rN 256 aW).toArray 312,.p (aP eB u cu)] [] N0 (λ_=> .agg #[iN (fk s),i6 (cM s),u1 ((eM s).toNat:Int)]):=by
 refine fO Tryz.func255 2 rfl λy B=>fG Tryz.func255 λw G=>ra (λa=>[(3,pt (B0 a) 0),(4,pt (B1 a) 0)]) (λa=>[ob (B0 a) (rB 4 s).toArray 268,ob (B1 a) #[i6 0,i6 0,u1 0] 368]) λa=>r0 [(0,.l 3),(2,.t (iS 268 λ_ _ _=>xr (xs:=rB 4 s) (ys:=rB 4 (YU 4 0)) Kr (jA hs Y1)))] [(11,.bool (decide (s=YU 4 0)))] [] ?_;refine cB (decide (s=YU 4 0)) (λz=>?_) λz=>?_
 ·exact rr (λ_=>[(1,.s 4)]) N0 [] (λ_ L=>L.set 4 (ob (B1 a) #[i6 0,i6 (-1),u1 0] 368)) λH=>aq (.agg #[i6 0,i6 (-1),u1 0]) ab.zero (by exact M4 hs As) [] [(0,0),(1,1),(2,2)] [4]
 refine r0 [(0,.v (pt b 0)),(1,.v (pt b 0)),(2,.v (pt b 0)),(3,.m (ld 0 (pt g 0))),(4,.v (pt (B0 a) 1)),(5,.m (ld 3 (u1 ((s.getD 1 0).toNat:Int)))),(6,.v (pt (B0 a) 0)),(7,.m (ld 3 (u1 ((s.getD 0 0).toNat:Int)))),(8,.c [1] [] (C6 g (s.getD 1 0) (s.getD 0 0))),(9,.v (.tuple #[u1 ((bO (s.getD 1 0) (s.getD 0 0)).toNat:Int),i6 (fI (s.getD 0 0))])),(10,.v (u1 ((bO (s.getD 1 0) (s.getD 0 0)).toNat:Int))),(11,.v (i6 (fI (s.getD 0 0)))),(12,.v (u1 ((bO (s.getD 1 0) (s.getD 0 0)).toNat:Int))),(13,.v (i6 (fI (s.getD 0 0))))] [(5,u1 ((bO (s.getD 1 0) (s.getD 0 0)).toNat:Int)),(6,i6 (fI (s.getD 0 0)))] [] (r0 [] [(30,.bool (((fI (s.getD 0 0)) != 0)||(((bO (s.getD 1 0) (s.getD 0 0)).toNat:Int)==0)))] [] ?_);refine cB (((fI (s.getD 0 0)) != 0)||(((bO (s.getD 1 0) (s.getD 0 0)).toNat:Int)==0)) (λA=>?_) λA=>?_
 ·exact rr (λ_=>[(0,.c [] [] (yz)),(1,.s 4)]) N0 [] (λ_ L=>L.set 4 (ob (B1 a) #[i6 3,i6 (-1),u1 0] 368)) λI=>aq (.agg #[i6 3,i6 (-1),u1 0]) ab.zero (by exact M5 hs As As) [] [(0,0),(1,1),(2,2)] [4]
 refine r0 [] [(7,i6 1)] [] ?_;refine lq (λk=>k≤3∧(∀j,j<k→s.getD (j+1) 0=gm (s.getD j 0) (rR s))) (λk=>[(7,iN (k+1))]) (λ_ L=>L) (λk=>3-k) 0 ⟨by omega,λ_ h=>absurd h (aaz _)⟩ Kr Kr (λk ⟨x,i⟩=>?_);refine r0 [] [(33,.bool (decide (((k+1:Nat):Int)<4)))] [] ?_;refine cc ((k+1:Nat):Int) 4 (λn d=>?_) λn d=>?_
 ·refine r0 [(0,.v (iN (k+1))),(1,iA 268 .i64 (B0 a) 0 4 1 (k+1)),(2,rD 3 (B0 a) (k+1) 268 (rB 4 s) (nK Om)),(3,.v (pt b 0)),(4,.v (pt b 0)),(5,.v (pt b 0)),(6,.m (ld 0 (pt g 0))),(7,.v (iN (k+1))),(8,.t (tv (av .sub 3 (.tmp 43) (.const (i6 1)) (iN (k+1)) (i6 1)) (λ_=>M3 Om))),(9,iA 268 .i64 (B0 a) 0 4 1 k),(10,rD 3 (B0 a) k 268 (rB 4 s) (nK Om)),(11,.v (u1 ((bO (s.getD 1 0) (s.getD 0 0)).toNat:Int))),(12,.c [1] [] (pS g (s.getD k 0) (bO (s.getD 1 0) (s.getD 0 0)))),(13,.v (.bool (((s.getD (k+1) 0).toNat:Int) != ((gm (s.getD k 0) (bO (s.getD 1 0) (s.getD 0 0))).toNat:Int))))] [(49,.bool (((s.getD (k+1) 0).toNat:Int) != ((gm (s.getD k 0) (bO (s.getD 1 0) (s.getD 0 0))).toNat:Int)))] [] ?_;refine m6 ((s.getD (k+1) 0).toNat:Int) ((gm (s.getD k 0) (bO (s.getD 1 0) (s.getD 0 0))).toNat:Int) (λo e=>?_) λo e=>?_
  ·exact rr (λ_=>[(0,.c [] [] (yz)),(1,.s 4)]) N0 [] (λ_ L=>L.set 4 (ob (B1 a) #[i6 3,i6 (-1),u1 0] 368)) λC=>aq (.agg #[i6 3,i6 (-1),u1 0]) ab.zero (by exact M7 hs As As As As) [] [(0,0),(1,1),(2,2)] [4]
  exact r0 [(1,ad (k+1) 1)] [(7,iN ((k+1)+1))] [7] (le (k+1) ⟨by omega,M6 i As⟩ Om Kr [0,1,2,3,4] Kr)
 refine lx (r0 [(3,.l 0),(5,.c [1] [] (Lu g (bO (s.getD 1 0) (s.getD 0 0))))] [(8,iN (gC (bO (s.getD 1 0) (s.getD 0 0)))),(6,i6 (mx (bO (s.getD 1 0) (s.getD 0 0))))] [6] (r0 [] [(60,.bool (((mx (bO (s.getD 1 0) (s.getD 0 0))) != 0)||(decide (39≤(((gC (bO (s.getD 1 0) (s.getD 0 0))):Nat):Int)))))] [] ?_));refine cB (((mx (bO (s.getD 1 0) (s.getD 0 0))) != 0)||(decide (39≤(((gC (bO (s.getD 1 0) (s.getD 0 0))):Nat):Int)))) (λq=>?_) λq=>?_
 ·exact rr (λ_=>[(0,.c [] [] (yz)),(1,.s 4)]) N0 [] (λ_ L=>L.set 4 (ob (B1 a) #[i6 3,i6 (-1),u1 0] 368)) λD=>aq (.agg #[i6 3,i6 (-1),u1 0]) ab.zero (by exact M8 hs As As Om As i As) [] [(0,0),(1,1),(2,2)] [4]
 refine r0 [] [(68,.bool (decide (36≤(((gC (bO (s.getD 1 0) (s.getD 0 0))):Nat):Int))))] [] ?_;refine oI 36 (((gC (bO (s.getD 1 0) (s.getD 0 0))):Nat):Int) (λr f=>?_) λr f=>?_
 ·exact rr (λ_=>[(2,.l 3),(4,.s 4)]) N0 [] (λ_ L=>L.set 4 (ob (B1 a) #[i6 2,iN (gC (bO (s.getD 1 0) (s.getD 0 0))),u1 ((s.getD 0 0).toNat:Int)] 368)) λF=>aq (.agg #[i6 2,iN (gC (bO (s.getD 1 0) (s.getD 0 0))),u1 ((s.getD 0 0).toNat:Int)]) ab.zero (by exact M9 As Om As i As As) [] [(0,0),(1,1),(2,2)] [4]
 exact rs [(2,.l 3),(4,.s 4)] 4 (ob (B1 a) #[i6 1,iN (gC (bO (s.getD 1 0) (s.getD 0 0))),u1 ((s.getD 0 0).toNat:Int)] 368) (aq (.agg #[i6 1,iN (gC (bO (s.getD 1 0) (s.getD 0 0))),u1 ((s.getD 0 0).toNat:Int)]) ab.zero (by exact Na As Om As i As) [] [(0,0),(1,1),(2,2)] [4])
end
section
open Go Go.RowKit Go.Shelf
attribute [local irreducible] aZ aw hZ hP dH aQ aW cu aR
theorem DK{s:List UInt8}(h:(((fk s:Nat):Int)==1)=true):(cM s).toNat<36∧cM s=(((cM s).toNat:Nat):Int):=by
 obtain⟨i,b,a⟩:=MQ (s:=Go.Proofs.YtbcodenfkijdnaaGreat.co s) h;have:cM s=(i:Int):=a;omega
theorem Nc{d v:List UInt8}(a:d.length=36):((bif ((fk (aR d v):Nat):Int)==1 then d.set ((cM (aR d v)).toNat) ((d.getD ((cM (aR d v)).toNat) 0)^^^(eM (aR d v))) else d).drop 4).take 32=fK d v:=by
 unfold fK fk cM eM;cases ((dx (Go.Proofs.YtbcodenfkijdnaaGreat.co (aR d v))).A:Int)==1
 ·rw[ALcf,ALcf,Z6 (by rw[ZH,a];decide)]
 ·rw[ALct,ALct,Z6 (by rw[ZH,Y3,a];decide)]
theorem Nd(i g:Nat)(u:Value)(d v:List UInt8)(j:d.length=36)(hv:v.length=3):aa YV 229 #[pt i 0,.agg (rB 36 d).toArray,.agg (rB 3 v).toArray] [ob i #[pt g 0,u] 309,ob g (rB 255 aQ++rN 256 aW).toArray 312,.p (aP eB u cu)] [] N0 (λ_=> .tuple #[.agg (rB 32 (fK d v)).toArray,.agg #[iN (fk (aR d v)),i6 (cM (aR d v)),u1 ((eM (aR d v)).toNat:Int)]]):=by
 refine fO Tryz.func229 2 rfl λf n=>fG Tryz.func229 λw x=>ra (λe=>[(4,pt (B0 e) 0),(5,pt (B1 e) 0),(6,pt (B2 e) 0),(7,pt (B3 e) 0)]) (λe=>[ob (B0 e) (rB 36 d).toArray 371,ob (B1 e) (rB 3 v).toArray 262,ob (B2 e) (rB 32 (YU 32 0)).toArray 267,ob (B3 e) #[i6 0,i6 0,u1 0] 368]) λe=>rr (λk=>[(2,.l 3),(3,.l 4),(4,.c [0,1,2] [] (aa.at (rd':=[ob i #[pt g 0,u] 309,ob g (rB 255 aQ++rN 256 aW).toArray 312,.c f]) (MX i g u d v (by(simp only[LL,yw,j,hv];done)) (by(simp only[LL,yw,j,hv];done))) (atS (atS (ei n (λ_ h=>h)))))),(5,.c [0,1,2] [] (aa.at (rd':=[ob i #[pt g 0,u] 309,ob g (rB 255 aQ++rN 256 aW).toArray 312,.c f]) (Nb i g u (aR d v) (by(simp only[LL,yw,j,hv];done))) (atS (atS (ei n (λ_ h=>h)))))),(7,.s 7)]) (λk=>[(8,pt (B6 k) 0)]) [] (λk L=>L++[ob (B6 k) #[iN (fk (aR d v)),i6 (cM (aR d v)),u1 ((eM (aR d v)).toNat:Int)] 368]) λk=>r0 [(1,.l 7)] [(17,.bool (((fk (aR d v):Nat):Int)==1))] [] ?_;refine cJ (((fk (aR d v):Nat):Int)==1) N0 (λc=>[ob i #[pt g 0,u] 309,ob g (rB 255 aQ++rN 256 aW).toArray 312,.c f,ob (B0 e) (rB 36 (bif c then d.set ((cM (aR d v)).toNat) ((d.getD ((cM (aR d v)).toNat) 0)^^^(eM (aR d v))) else d)).toArray 371,ob (B1 e) (rB 3 v).toArray 262,ob (B2 e) (rB 32 (YU 32 0)).toArray 267,ob (B3 e) #[i6 0,i6 0,u1 0] 368,ob (B6 k) #[iN (fk (aR d v)),i6 (cM (aR d v)),u1 ((eM (aR d v)).toNat:Int)] 368]) (λq=>?_) (λq=>?_) ?_
 ·have o:=eq_of_beq q;have r:=DK As;refine rs [(1,.m (lt 7 (B6 k) 1 #[iN (fk (aR d v)),i6 (cM (aR d v)),u1 ((eM (aR d v)).toNat:Int)] 368 (ALca (λz:Int=>some (Value.int .i64 z)) (DK As).2))),(2,iA 371 .i64 (B0 e) 0 36 1 ((cM (aR d v)).toNat)),(3,rD 3 (B0 e) ((cM (aR d v)).toNat) 371 (rB 36 d) (nK Om)),(5,.l 7),(6,.t (tb (a:=u1 ((d.getD ((cM (aR d v)).toNat) 0).toNat:Int)) (b:=u1 ((eM (aR d v)).toNat:Int)) λ_ _ _ _=>lL (d.getD ((cM (aR d v)).toNat) 0) ((eM (aR d v))))),(7,iA 371 .i64 (B0 e) 0 36 1 ((cM (aR d v)).toNat)),(8,wD 3 (B0 e) ((cM (aR d v)).toNat) 371 (u1 (((d.getD ((cM (aR d v)).toNat) 0)^^^(eM (aR d v))).toNat:Int)) (rB 36 d) (rB 36 (d.set ((cM (aR d v)).toNat) ((d.getD ((cM (aR d v)).toNat) 0)^^^(eM (aR d v))))) (jT Om) (mj j))] 3 (ob (B0 e) (rB 36 (d.set ((cM (aR d v)).toNat) ((d.getD ((cM (aR d v)).toNat) 0)^^^(eM (aR d v))))).toArray 371) ?_;exact cm Kr [0,1,2,3,4,5,6,7] Kr
 ·have o:=ne_of_beq_false q;exact cm Kr [0,1,2,3,4,5,6,7] Kr
 exact rr (λ_=>[(0,aL 371 (B0 e) 36 1 4),(1,.t (tv (Instr.arrayAt 267 (.slice (some ⟨(e 0).y 0,4*1,none⟩) 32 32)) (λ_=>run_arrayAt _ 267 5 32 _ _ _ Tryz.underlying267 Om))),(2,.m (lg 3 (B0 e) (4*1) (rB 36 (bif ((fk (aR d v):Nat):Int)==1 then d.set ((cM (aR d v)).toNat) ((d.getD ((cM (aR d v)).toNat) 0)^^^(eM (aR d v))) else d)).toArray 371 (rB 32 (((bif ((fk (aR d v):Nat):Int)==1 then d.set ((cM (aR d v)).toNat) ((d.getD ((cM (aR d v)).toNat) 0)^^^(eM (aR d v))) else d).drop 4).take 32)) (xv (λ_=>rfl) (Kg (by rw[Y3];exact j) j) Om))),(3,.l 7),(4,.s 5),(5,.s 6)]) N0 [] (λ_ L=>(L.set 5 (ob (B2 e) (rB 32 (((bif ((fk (aR d v):Nat):Int)==1 then d.set ((cM (aR d v)).toNat) ((d.getD ((cM (aR d v)).toNat) 0)^^^(eM (aR d v))) else d).drop 4).take 32)).toArray 267)).set 6 (ob (B3 e) #[iN (fk (aR d v)),i6 (cM (aR d v)),u1 ((eM (aR d v)).toNat:Int)] 368)) λy=>aq (.tuple #[.agg (rB 32 (((bif ((fk (aR d v):Nat):Int)==1 then d.set ((cM (aR d v)).toNat) ((d.getD ((cM (aR d v)).toNat) 0)^^^(eM (aR d v))) else d).drop 4).take 32)).toArray,.agg #[iN (fk (aR d v)),i6 (cM (aR d v)),u1 ((eM (aR d v)).toNat:Int)]]) ab.zero (by rw[Nc j]) [] [(0,0),(1,1),(2,2)] [5,6]
end
section
open Go Go.RowKit Go.Shelf
attribute [local irreducible] pc bA
theorem yC(g i:Nat)(x:UInt8)(cl:List UInt8)(a:List Int)(d:i<74)(b:cl.length=74)(ht:a.length=256):aa YV 179 #[pt g 0,iN i,u1 (x.toNat:Int)] [ob g (rB 74 cl++rI 256 a).toArray 298] [0] (λ_=>[ob g (rB 74 (cl.set i x)++rI 256 (a.set x.toNat (i:Int))).toArray 298]) (λ_=> .tuple #[]):=by
 have e:=x.toNat_lt;refine fG Tryz.func179 λw c=>rs [(0,.v (pt g 0)),(1,.v (iN i)),(2,.v (pt g 0)),(3,.v (u1 (x.toNat:Int))),(4,.v (u1 (x.toNat:Int))),(5,.v (iN i)),(6,.v (pt g 0)),(7,.v (pt g 0)),(8,iA 295 .i64 g 0 74 1 i),(9,wM (A:=[]) (R:=rB 74 cl) (C:=(rI 256 a:List Value)) 0 g i 298 (u1 (x.toNat:Int)) (rB 74 cl++rI 256 a) (rB 74 (cl.set i x)++rI 256 a) rfl rfl rfl (jT Om) (mj b)),(10,.v (pt g 0)),(11,.v (pt g 74)),(12,iA 296 .u8 g 74 256 1 x.toNat),(13,wM (A:=(rB 74 (cl.set i x):List Value)) (R:=rI 256 a) (C:=[]) 0 g x.toNat 298 (iN i) (rB 74 (cl.set i x)++rI 256 a) (rB 74 (cl.set i x)++rI 256 (a.set x.toNat (i:Int))) (by rw[YX]) (by rw[YX]) kq (jT Om) (BG ht))] 0 (ob g (rB 74 (cl.set i x)++rI 256 (a.set x.toNat (i:Int))).toArray 298) ?_;exact eo ab.zero [0] [] []
def xc(cl:List UInt8)(d:Nat):Nat→UInt8
 | 0=>0
 | k+1=>xc cl d k^^^cl.getD ((bA d).getD k 0) 0
theorem DM{d j:Nat}(h:j<(bA d).length):(bA d).getD j 0<64:=by
 have a:(bA d).getD j 0∈bA d:=by
  rw[Y0,Ze h];exact aaq h
 unfold bA at a⊢;have:=(H6 64 0 d _ a).2.1;omega
def bl(d:Nat)(a p:Int)(cl:List UInt8):UInt8:=(bif (p%2)==1 then(bif (a%2)==1 then(xc cl d ((bA d).length))^^^(cl.getD 72 0) else(xc cl d ((bA d).length)))^^^(cl.getD 73 0) else(bif (a%2)==1 then(xc cl d ((bA d).length))^^^(cl.getD 72 0) else(xc cl d ((bA d).length))))
theorem DN(g d:Nat)(a p:Int)(cl:List UInt8)(m:List Int)(I:d<18446744073709551616)(H:cl.length=74)(ht:m.length=256):aa YV 157 #[pt g 0,u6 (d:Int),i6 a,i6 p] [ob g (rB 74 cl++rI 256 m).toArray 298] [] N0 (λ_=>u1 ((bl d a p cl).toNat:Int)):=by
 refine fG Tryz.func157 λw G=>ra (λk=>[(4,pt (B0 k) 0),(8,u1 0)]) (λk=>[ob (B0 k) #[pt g 0] 235]) λk=>rr (λ_=>[(1,.s 2)]) (λe=>[(9,pt (B0 e) 0)]) [] (λe L=>L++[ob (B0 e) #[u1 0] 5]) λe=>rr (λ_=>[(1,.c [] [3] (CP d))]) (λn=>[(12,.func (.func 172) #[] #[pt ((B1 n)) 0])]) [] (λn L=>L++[ob (B1 n) #[u6 (d:Int)] 44]) λn=>?_;refine Cq (encs:=λ(i:Nat)=>#[iN i]) (xs:=bA d) (XO:=[((B1 n),.cells #[u6 (d:Int)] 44 (0,0))]) (KO:=[]) (CO (B1 n) d Om) (enters_of Tryz.func172 Kr rfl) (λj=>j≤(bA d).length) (λj L=>L.set 2 (ob (B0 e) #[u1 ((xc cl d j).toNat:Int)] 5)) [ob g (rB 74 cl++rI 256 m).toArray 298,ob (B0 k) #[pt g 0] 235,ob (B0 e) #[u1 0] 5] [0,1,2,3] [3] [] Om Kr (λJ j K z D v u=>?_) (λy u=>?_)
 ·obtain⟨r,rfl⟩:=tN 0 v;have x:=DM r;refine r0 [] [(10,iN ((bA d).getD j 0))] [] ?_;refine ag [] (λB F=>?_);exact rs [(0,.l 2),(1,.l 1),(5,iA 295 .i64 g 0 74 1 ((bA d).getD j 0)),(6,rM (A:=[]) (R:=rB 74 cl) (C:=(rI 256 m:List Value)) 0 g ((bA d).getD j 0) 298 (rB 74 cl++rI 256 m) rfl rfl (nK Om)),(7,.t (tb (a:=u1 ((xc cl d j).toNat:Int)) (b:=u1 ((cl.getD ((bA d).getD j 0) 0).toNat:Int)) λ_ _ _ _=>lL ((xc cl d j)) (cl.getD ((bA d).getD j 0) 0))),(8,.s 2)] 2 (ob (B0 e) #[u1 (((xc cl d j)^^^(cl.getD ((bA d).getD j 0) 0)).toNat:Int)] 5) (ne _ ⟨Om,rfl⟩ [0,1,2] Kr)
 refine r0 [(1,.t (tv (av .and 3 (.tmp 22) (.const (i6 1)) (i6 a) (i6 1)) (λ_=>mw a 1 2 Dc Dc Dc Dc)))] [(24,.bool ((a%2)==1))] [] ?_;refine cJ ((a%2)==1) N0 (λc=>[ob g (rB 74 cl++rI 256 m).toArray 298,ob (B0 k) #[pt g 0] 235,ob (B0 e) #[u1 ((bif c then(xc cl d ((bA d).length))^^^(cl.getD 72 0) else(xc cl d ((bA d).length))).toNat:Int)] 5]) (λf=>?_) (λf=>?_) ?_
 ·have o:=eq_of_beq f;refine rs [(0,.l 2),(1,.l 1),(5,.l 0),(6,.t (tb (a:=u1 ((xc cl d ((bA d).length)).toNat:Int)) (b:=u1 ((cl.getD 72 0).toNat:Int)) λ_ _ _ _=>lL ((xc cl d ((bA d).length))) (cl.getD 72 0))),(7,.s 2)] 2 (ob (B0 e) #[u1 (((xc cl d ((bA d).length))^^^(cl.getD 72 0)).toNat:Int)] 5) ?_;exact cm Kr [0,1,2] Kr
 ·have o:=ne_of_beq_false f;exact cm Kr [0,1,2] Kr
 refine r0 [(1,.t (tv (av .and 3 (.tmp 32) (.const (i6 1)) (i6 p) (i6 1)) (λ_=>mw p 1 2 Dc Dc Dc Dc)))] [(34,.bool ((p%2)==1))] [] ?_;refine cJ ((p%2)==1) N0 (λc=>[ob g (rB 74 cl++rI 256 m).toArray 298,ob (B0 k) #[pt g 0] 235,ob (B0 e) #[u1 ((bif c then(bif (a%2)==1 then(xc cl d ((bA d).length))^^^(cl.getD 72 0) else(xc cl d ((bA d).length)))^^^(cl.getD 73 0) else(bif (a%2)==1 then(xc cl d ((bA d).length))^^^(cl.getD 72 0) else(xc cl d ((bA d).length)))).toNat:Int)] 5]) (λh=>?_) (λh=>?_) ?_
 ·have q:=eq_of_beq h;refine rs [(0,.l 2),(1,.l 1),(5,.l 0),(6,.t (tb (a:=u1 ((bif (a%2)==1 then(xc cl d ((bA d).length))^^^(cl.getD 72 0) else(xc cl d ((bA d).length))).toNat:Int)) (b:=u1 ((cl.getD 73 0).toNat:Int)) λ_ _ _ _=>lL ((bif (a%2)==1 then(xc cl d ((bA d).length))^^^(cl.getD 72 0) else(xc cl d ((bA d).length)))) (cl.getD 73 0))),(7,.s 2)] 2 (ob (B0 e) #[u1 (((bif (a%2)==1 then(xc cl d ((bA d).length))^^^(cl.getD 72 0) else(xc cl d ((bA d).length)))^^^(cl.getD 73 0)).toNat:Int)] 5) ?_;exact cm Kr [0,1,2] Kr
 ·have q:=ne_of_beq_false h;exact cm Kr [0,1,2] Kr
 exact r0 [(0,.l 2)] [(8,u1 ((bif (p%2)==1 then(bif (a%2)==1 then(xc cl d ((bA d).length))^^^(cl.getD 72 0) else(xc cl d ((bA d).length)))^^^(cl.getD 73 0) else(bif (a%2)==1 then(xc cl d ((bA d).length))^^^(cl.getD 72 0) else(xc cl d ((bA d).length)))).toNat:Int))] [8] (lf ab.zero [] [(0,0)] [])
theorem Nf(g d:Nat)(k:UInt8)(a p:Int)(cl:List UInt8)(e:List Int)(i:d<18446744073709551616)(f:cl.length=74)(ht:e.length=256):aa YV 254 #[pt g 0,u6 (d:Int),u1 (k.toNat:Int),i6 a,i6 p] [ob g (rB 74 cl++rI 256 e).toArray 298] [] N0 (λ_=>u1 (((bl d a p cl)^^^k).toNat:Int)):=by
 exact fG Tryz.func254 λw h=>r0 [] [(10,u1 0)] [] (r0 [(4,.c [0] [] (DN g d a p cl e Om (by(simp only[LL,f,ht];done)) (by(simp only[LL,f,ht];done)))),(6,.t (tb (a:=u1 ((bl d a p cl).toNat:Int)) (b:=u1 (k.toNat:Int)) λ_ _ _ _=>lL ((bl d a p cl)) (k)))] [(10,u1 (((bl d a p cl)^^^k).toNat:Int))] [10] (lf ab.zero [] [(0,0)] []))
def dd(k:UInt8)(a:List Int):Int:=(bif (k.toNat:Int)==0 then 0 else(bif (a.getD k.toNat 0)==(-1) then 4 else(bif (a.getD k.toNat 0)==72 then 3 else(bif (a.getD k.toNat 0)==73 then 2 else 1))))
def c7(k:UInt8)(a:List Int):Int:=(bif (k.toNat:Int)==0 then(-1) else(bif (a.getD k.toNat 0)==(-1) then(-1) else(bif (a.getD k.toNat 0)==72 then(-1) else(bif (a.getD k.toNat 0)==73 then(-1) else(a.getD k.toNat 0)))))
theorem Ng(g:Nat)(k:UInt8)(cl:List UInt8)(a:List Int)(m:cl.length=74)(ht:a.length=256):aa YV 253 #[pt g 0,u1 (k.toNat:Int)] [ob g (rB 74 cl++rI 256 a).toArray 298] [] N0 (λ_=> .tuple #[i6 (dd k a),i6 (c7 k a)]):=by
 have n:=k.toNat_lt;refine fG Tryz.func253 λw l=>r0 [] [(4,i6 0),(5,i6 0)] [] (r0 [] [(8,.bool ((k.toNat:Int)==0))] [] ?_);refine cE (k.toNat:Int) 0 (λd i=>?_) λd i=>?_
 ·exact r0 [] [(4,i6 0),(5,i6 (-1))] [4,5] (aq (.tuple #[i6 0,i6 (-1)]) ab.zero (by((try simp only[dd,c7]);(repeat (first | rw[d] | rw[ALct])))<;>rfl) [] [(0,0)] [])
 refine r0 [(4,iA 296 .u8 g 74 256 1 k.toNat),(5,rM (A:=(rB 74 cl:List Value)) (R:=rI 256 a) (C:=[]) 0 g k.toNat 298 (rB 74 cl++rI 256 a) (by rw[YX]) kq (I7 Om))] [(6,i6 (a.getD k.toNat 0))] [] (r0 [] [(16,.bool ((a.getD k.toNat 0)==(-1)))] [] ?_);refine cE (a.getD k.toNat 0) (-1) (λh j=>?_) λh j=>?_
 ·exact r0 [] [(4,i6 4),(5,i6 (-1))] [4,5] (aq (.tuple #[i6 4,i6 (-1)]) ab.zero (by((try simp only[dd,c7]);(repeat (first | rw[d] | rw[h] | rw[ALct] | rw[ALcf])))<;>rfl) [] [(0,0)] [])
 refine r0 [] [(19,.bool ((a.getD k.toNat 0)==72))] [] ?_;refine cE (a.getD k.toNat 0) 72 (λb e=>?_) λb e=>?_
 ·exact r0 [] [(4,i6 3),(5,i6 (-1))] [4,5] (aq (.tuple #[i6 3,i6 (-1)]) ab.zero (by((try simp only[dd,c7]);(repeat (first | rw[d] | rw[h] | rw[b] | rw[ALct] | rw[ALcf])))<;>rfl) [] [(0,0)] [])
 refine r0 [] [(22,.bool ((a.getD k.toNat 0)==73))] [] ?_;refine cE (a.getD k.toNat 0) 73 (λc f=>?_) λc f=>?_
 ·exact r0 [] [(4,i6 2),(5,i6 (-1))] [4,5] (aq (.tuple #[i6 2,i6 (-1)]) ab.zero (by((try simp only[dd,c7]);(repeat (first | rw[d] | rw[h] | rw[b] | rw[c] | rw[ALct] | rw[ALcf])))<;>rfl) [] [(0,0)] [])
 exact r0 [] [(4,i6 1),(5,i6 (a.getD k.toNat 0))] [4,5] (aq (.tuple #[i6 1,i6 (a.getD k.toNat 0)]) ab.zero (by((try simp only[dd,c7]);(repeat (first | rw[d] | rw[h] | rw[b] | rw[c] | rw[ALcf])))<;>rfl) [] [(0,0)] [])
theorem Nh{b:List Int}{K:UInt8}(hp: ∀k:UInt8,(dd k b==1)=true→0≤c7 k b)(h:((dd K b==1)&&decide (c7 K b<64))=true):0≤c7 K b∧c7 K b<64∧1*2^(c7 K b).toNat<18446744073709551616:=by
 rw[Y2] at h;have c:=hp K h.1;have d:=of_decide_eq_true h.2;refine⟨c,d,?_⟩;rw[Nat.one_mul];exact aao (Nat.pow_lt_pow_right (a:=2) Om (show(c7 K b).toNat<64 by omega)) Dc
def fL(d:Nat)(k:UInt8)(a:Int)(cl:List UInt8)(b:List Int):Nat:=(bif ((dd ((bl d a 0 cl)^^^k) b)==1)&&(decide ((c7 ((bl d a 0 cl)^^^k) b)<64)) then d^^^(1*2^(c7 (bl d a 0 cl^^^k) b).toNat) else d)
theorem Ni(g d:Nat)(k:UInt8)(a:Int)(cl:List UInt8)(b:List Int)(i:d<18446744073709551616)(e:cl.length=74)(ht:b.length=256)(hp: ∀k:UInt8,(dd k b==1)=true→0≤c7 k b):aa YV 227 #[pt g 0,u6 (d:Int),u1 (k.toNat:Int),i6 a] [ob g (rB 74 cl++rI 256 b).toArray 298] [] N0 (λ_=> .tuple #[u6 (((fL d k a cl b):Nat):Int),i6 (dd ((bl d a 0 cl)^^^k) b),i6 (c7 ((bl d a 0 cl)^^^k) b)]):=by
 refine fG Tryz.func227 λw j=>r0 [] [(8,u6 0),(9,i6 0),(10,i6 0)] [] (r0 [(0,.v (pt g 0)),(1,.v (pt g 0)),(2,.v (u6 (d:Int))),(3,.v (u1 (k.toNat:Int))),(4,.v (i6 a)),(5,.c [0] [] (Nf g d k a 0 cl b Om (by(simp only[LL,e,ht];done)) (by(simp only[LL,e,ht];done)))),(6,.c [0] [] (Ng g ((bl d a 0 cl)^^^k) cl b (by(simp only[LL,e,ht];done)) (by(simp only[LL,e,ht];done)))),(7,.v (.tuple #[i6 (dd ((bl d a 0 cl)^^^k) b),i6 (c7 ((bl d a 0 cl)^^^k) b)])),(8,.v (i6 (dd ((bl d a 0 cl)^^^k) b))),(9,.v (i6 (c7 ((bl d a 0 cl)^^^k) b))),(10,.v (i6 (dd ((bl d a 0 cl)^^^k) b))),(11,.v (i6 (c7 ((bl d a 0 cl)^^^k) b)))] [(9,i6 (dd ((bl d a 0 cl)^^^k) b)),(10,i6 (c7 ((bl d a 0 cl)^^^k) b))] [9,10] (r0 [] [(26,.bool (((dd ((bl d a 0 cl)^^^k) b)==1)&&(decide ((c7 ((bl d a 0 cl)^^^k) b)<64))))] [] ?_));refine cJ (((dd ((bl d a 0 cl)^^^k) b)==1)&&(decide ((c7 ((bl d a 0 cl)^^^k) b)<64))) (λc=>[(1,u6 (((bif c then d^^^(1*2^(c7 (bl d a 0 cl^^^k) b).toNat) else d):Nat):Int))]) (λ_=>[ob g (rB 74 cl++rI 256 b).toArray 298]) (λf=>?_) (λf=>?_) ?_
 ·have h:=Nh hp f;refine r0 [(1,.t (tk (show i6 (c7 ((bl d a 0 cl)^^^k) b)=iN ((c7 (bl d a 0 cl^^^k) b).toNat) from ALca (Value.int .i64) Om))),(2,.t (tv (convert 3 201 (iN ((c7 (bl d a 0 cl^^^k) b).toNat))) (λ_=>m0 Tryz.underlying3 Tryz.underlying201 Om))),(3,.t (tv (av .shl 44 (.const (u6 1)) (.tmp 29) (u6 1) (u6 (((c7 (bl d a 0 cl^^^k) b).toNat:Nat):Int))) (λ_=>tQ (a:=1) (c7 (bl d a 0 cl^^^k) b).toNat Om h.2.2))),(4,.t (tv (av .xor 44 (.tmp 27) (.tmp 30) (u6 (d:Int)) (u6 ((1*2^(c7 (bl d a 0 cl^^^k) b).toNat:Nat):Int))) (λ_=>IW i h.2.2)))] [(1,u6 ((d^^^(1*2^(c7 (bl d a 0 cl^^^k) b).toNat):Nat):Int))] [1] ?_;exact cm Kr [0] Kr
 ·exact cm Kr [0] Kr
 exact r0 [] [(8,u6 (((bif ((dd ((bl d a 0 cl)^^^k) b)==1)&&(decide ((c7 ((bl d a 0 cl)^^^k) b)<64)) then d^^^(1*2^(c7 (bl d a 0 cl^^^k) b).toNat) else d):Nat):Int)),(9,i6 (dd ((bl d a 0 cl)^^^k) b)),(10,i6 (c7 ((bl d a 0 cl)^^^k) b))] [8,9,10] (lf ab.zero [] [(0,0)] [])
end
section
open Go Go.RowKit Go.Shelf
def iX:Nat→List Int
 | 0=>YU 256 0
 | k+1=>(iX k).set k (-1)
def jZ:Nat→List UInt8
 | 0=>YU 74 0
 | k+1=>(jZ k).set (64+k) (UInt8.ofNat (1*2^k))
def j0:Nat→List Int
 | 0=>iX 256
 | k+1=>(j0 k).set (UInt8.ofNat (1*2^k)).toNat ((64+k:Nat):Int)
def j4:Nat→List UInt8
 | 0=>jZ 8
 | k+1=>(j4 k).set k (UInt8.ofNat ((ch 3 256).getD k 0))
def j5:Nat→List Int
 | 0=>j0 8
 | k+1=>(j5 k).set (UInt8.ofNat ((ch 3 256).getD k 0)).toNat ((k:Nat):Int)
def p5(k:Nat):Nat:=bif decide (k<8) then 56+k else 64+k
def a6:Nat→List UInt8
 | 0=>j4 56
 | k+1=>(a6 k).set (p5 k) (UInt8.ofNat ((ch 5 256).getD k 0))
def bL:Nat→List Int
 | 0=>j5 56
 | k+1=>(bL k).set (UInt8.ofNat ((ch 5 256).getD k 0)).toNat ((p5 k:Nat):Int)
theorem nc: ∀k,(iX k).length=256
 | 0=>Y1 ..
 | k+1=>by rw[iX,Y3];exact nc k
theorem n0: ∀k,(jZ k).length=74
 | 0=>Y1 ..
 | k+1=>by rw[jZ,Y3];exact n0 k
theorem n1: ∀k,(j0 k).length=256
 | 0=>nc 256
 | k+1=>by rw[j0,Y3];exact n1 k
theorem n2: ∀k,(j4 k).length=74
 | 0=>n0 8
 | k+1=>by rw[j4,Y3];exact n2 k
theorem n4: ∀k,(j5 k).length=256
 | 0=>n1 8
 | k+1=>by rw[j5,Y3];exact n4 k
theorem iY: ∀k,(a6 k).length=74
 | 0=>n2 56
 | k+1=>by rw[a6,Y3];exact iY k
theorem jJ: ∀k,(bL k).length=256
 | 0=>n4 56
 | k+1=>by rw[bL,Y3];exact jJ k
theorem yD:(ch 3 256).length=56:=by decide+kernel
theorem Nj:(ch 5 256).length=56:=by decide+kernel
def b5(k:Nat):Nat:=bif decide (k≤8) then 56+k else 64+k
theorem Nk{i:Nat}(h:i≤10):(bif ((b5 i:Nat):Int)==64 then 72 else b5 i)=p5 i:=by
 have: ∀i,i≤10→(bif ((b5 i:Nat):Int)==64 then 72 else b5 i)=p5 i:=by decide
 exact this i h
theorem Nl{i:Nat}:(p5 i=56+i∧i<8)∨(p5 i=64+i∧8≤i):=by
 unfold p5;rcases Zj i 8 with h | h
 ·exact .inl ⟨by rw[c0 h];rfl,h⟩
 ·exact .inr ⟨by rw[bj Om];rfl,h⟩
theorem Nm{i:Nat}(h:i<10):b5 (i+1)=p5 i+1:=by
 have: ∀i,i<10→b5 (i+1)=p5 i+1:=by decide
 exact this i h
attribute [local irreducible] iX jZ j0 j4 j5 a6 bL ch
theorem Nn:aa YV 140 #[] [] [] (λE=>[ob (E.y 0) (rB 74 (a6 10)++rI 256 (bL 10)).toArray 298]) (λE=>pt ((E.y 0)) 0):=by
 refine fG Tryz.func140 λw V=>r0 [] [(0,.pointer none)] [] (rr (λ_=>[(3,.s 1)]) (λe=>[(1,pt (B2 e) 0)]) [] (λe L=>L++[ob (B1 e) (rB 74 (YU 74 0)++rN 256 (YU 256 0)).toArray 298,ob (B2 e) #[pt (B1 e) 0] 235]) λe=>r0 [] [(9,i6 0)] [] ?_);refine lq (λk=>k≤256) (λk=>[(9,iN k)]) (λk L=>L.set 0 (ob (B1 e) (rB 74 (YU 74 0)++rI 256 (iX k)).toArray 298)) (λk=>256-k) 0 Om Kr (by rw[show iX 0=YU 256 0 by unfold iX;rfl];kernel_rfl) (λk Q=>?_);refine r0 [] [(10,.bool (decide ((k:Int)<256)))] [] ?_;refine cc (k:Int) 256 (λO x=>?_) λO x=>?_
 ·exact r0 [] [(2,iN k)] [] (rs [(0,.l 1),(4,iA 296 .i64 (B1 e) 74 256 1 k),(5,wM (A:=(rB 74 (YU 74 0):List Value)) (R:=rI 256 (iX k)) (C:=[]) 0 (B1 e) k 298 (i6 (-1)) (rB 74 (YU 74 0)++rI 256 (iX k)) (rB 74 (YU 74 0)++rI 256 ((iX k).set k (-1))) (by rw[YX]) (by rw[YX]) kq (jT Om) (BG (nc ..)))] 0 (ob (B1 e) (rB 74 (YU 74 0)++rI 256 ((iX k).set k (-1))).toArray 298) (r0 [(0,ad k 1)] [(9,iN (k+1))] [9] (le (k+1) Om Om Kr [0,1] (by rw[show iX (k+1)=(iX k).set k (-1) by rw[iX]];kernel_rfl))))
 obtain rfl:k=256:=by omega
 refine lx (r0 [] [(18,i6 0)] [] ?_);refine lq (λm=>m≤8) (λm=>[(18,iN m)]) (λm L=>L.set 0 (ob (B1 e) (rB 74 (jZ m)++rI 256 (j0 m)).toArray 298)) (λm=>8-m) 0 Om Kr (by rw[show jZ 0=YU 74 0 by unfold jZ;rfl,show j0 0=iX 256 by unfold j0;rfl];kernel_rfl) (λm G=>?_);refine r0 [] [(19,.bool (decide ((m:Int)<8)))] [] ?_;refine cc (m:Int) 8 (λy n=>?_) λy n=>?_
 ·exact r0 [] [(3,iN m)] [] (rs [(0,.l 1),(2,ad 64 m),(4,.t (tv (convert 3 201 (iN m)) (λ_=>m0 Tryz.underlying3 Tryz.underlying201 Om))),(5,.t (tv (av .shl 5 (.const (u1 1)) (.tmp 25) (u1 1) (u6 (m:Int))) (λ_=>uG (a:=1) m Om))),(6,.c [0] [0] (yC (B1 e) (64+m) (UInt8.ofNat (1*2^m)) (jZ m) (j0 m) Om (by(simp only[LL,nc,n0,n1,n2,n4,iY,jJ];done)) (by(simp only[LL,nc,n0,n1,n2,n4,iY,jJ];done))))] 0 (ob (B1 e) (rB 74 ((jZ m).set (64+m) (UInt8.ofNat (1*2^m)))++rI 256 ((j0 m).set (UInt8.ofNat (1*2^m)).toNat ((64+m):Int))).toArray 298) (r0 [(0,ad m 1)] [(18,iN (m+1))] [18] (le (m+1) Om Om Kr [0,1] (by rw[show jZ (m+1)=(jZ m).set (64+m) (UInt8.ofNat (1*2^m)) by rw[jZ],show j0 (m+1)=(j0 m).set (UInt8.ofNat (1*2^m)).toNat ((64+m:Nat):Int) by rw[j0]];kernel_rfl))))
 obtain rfl:m=8:=by omega
 refine lx (rr (λ_=>[(1,.s 2)]) (λf=>[(4,pt (B0 f) 0)]) [] (λf L=>L++[ob (B0 f) #[i6 0] 3]) λf=>rr (λ_=>[(0,.c [] [3,4] (CV 8 3))]) (λb=>[(29,.func (.func 214) #[] #[pt ((B0 b)) 0,pt (((b 0).y 1)) 0])]) [] (λb L=>L++[ob (B0 b) #[i6 3] 3,ob ((b 0).y 1) #[i6 8] 3]) λb=>?_);refine nR (encs:=λ(i:Nat)=>#[u1 ((UInt8.ofNat i).toNat:Int)]) (xs:=ch 3 256) (KO:=[[((B0 b),.cells #[i6 3] 3 (0,0))],[(((b 0).y 1),.cells #[i6 8] 3 (0,0))]]) (KY (B0 b) ((b 0).y 1)) (enters_of Tryz.func214 Kr rfl) (λj=>j≤(ch 3 256).length) (λj L=>(L.set 0 (ob (B1 e) (rB 74 (j4 j)++rI 256 (j5 j)).toArray 298)).set 2 (ob (B0 f) #[iN j] 3)) [3,4] Om (by rw[show j4 0=jZ 8 by unfold j4;rfl,show j5 0=j0 8 by unfold j5;rfl];kernel_rfl) (λT j U J M h q=>?_) (λI q=>?_)
 ·obtain⟨D,rfl⟩:=tN 0 h;have B:=yD;refine r0 [] [(5,u1 ((UInt8.ofNat ((ch 3 256).getD j 0)).toNat:Int))] [] ?_;refine ag [3,4] (λK N=>?_);exact rs [(0,.l 1),(1,.l 2),(3,.c [0] [0] (yC (B1 e) j (UInt8.ofNat ((ch 3 256).getD j 0)) (j4 j) (j5 j) Om (by(simp only[LL,nc,n0,n1,n2,n4,iY,jJ];done)) (by(simp only[LL,nc,n0,n1,n2,n4,iY,jJ];done))))] 0 (ob (B1 e) (rB 74 ((j4 j).set j (UInt8.ofNat ((ch 3 256).getD j 0)))++rI 256 ((j5 j).set (UInt8.ofNat ((ch 3 256).getD j 0)).toNat (j:Int))).toArray 298) (rs [(0,.l 2),(1,ad j 1),(2,.s 2)] 2 (ob (B0 f) #[iN (j+1)] 3) (ne _ ⟨Om,rfl⟩ [0,1,2,3,4] (by rw[show j4 (j+1)=(j4 j).set j (UInt8.ofNat ((ch 3 256).getD j 0)) by rw[j4],show j5 (j+1)=(j5 j).set (UInt8.ofNat ((ch 3 256).getD j 0)).toNat ((j:Nat):Int) by rw[j5]];kernel_rfl)))
 have B:=yD;refine rr (λ_=>[(0,.c [] [5,6] (CV 8 5))]) (λd=>[(37,.func (.func 214) #[] #[pt ((B0 d)) 0,pt (((d 0).y 1)) 0])]) [] (λd L=>L++[ob (B0 d) #[i6 5] 3,ob ((d 0).y 1) #[i6 8] 3]) λd=>?_;refine Cs (encs:=λ(i:Nat)=>#[u1 ((UInt8.ofNat i).toNat:Int)]) (xs:=ch 5 256) (KO:=[[((B0 d),.cells #[i6 5] 3 (0,0))],[(((d 0).y 1),.cells #[i6 8] 3 (0,0))]]) (KZ (B0 d) ((d 0).y 1)) (enters_of Tryz.func214 Kr rfl) (λi=>i≤(ch 5 256).length∧(i≤10)) (λi L=>(L.set 0 (ob (B1 e) (rB 74 (a6 i)++rI 256 (bL i)).toArray 298)).set 2 (ob (B0 f) #[iN (b5 i)] 3)) (λc _=>(c=Code.exit 6)) (λ_ _ L=>(L.set 0 (ob (B1 e) (rB 74 (a6 10)++rI 256 (bL 10)).toArray 298)).set 2 (ob (B0 f) #[i6 74] 3)) [5,6] ⟨by omega,Om⟩ (by rw[show a6 0=j4 56 by unfold a6;rfl,show bL 0=j5 56 by unfold bL;rfl,←yD];kernel_rfl) (λT i U J M h ⟨r,u⟩=>?_) (λv ⟨r,u⟩=>?_) λv c i u P=>?_
 ·obtain⟨F,rfl⟩:=tN 0 h;refine r0 [] [(6,u1 ((UInt8.ofNat ((ch 5 256).getD i 0)).toNat:Int))] [] ?_;refine ag [5,6] (λK N=>?_);refine r0 [(0,.l 2)] [(40,.bool (((b5 i:Nat):Int)==64))] [] ?_;refine cJ (((b5 i:Nat):Int)==64) N0 (λc=>[ob (B1 e) (rB 74 (a6 i)++rI 256 (bL i)).toArray 298,ob (B2 e) #[pt (B1 e) 0] 235,ob (B0 f) #[iN (bif c then 72 else b5 i)] 3,ob (B0 b) #[i6 3] 3,ob ((b 0).y 1) #[i6 8] 3,ob (B0 d) #[i6 5] 3,ob ((d 0).y 1) #[i6 8] 3]) (λg=>?_) (λg=>?_) ?_
  ·have o:=eq_of_beq g;refine rs [(0,.s 2)] 2 (ob (B0 f) #[i6 72] 3) ?_;exact cm Kr [0,1,2,3,4,5,6] Kr
  ·have o:=ne_of_beq_false g;exact cm Kr [0,1,2,3,4,5,6] Kr
  have H:=Nk u;have S:=Nl (i:=i);refine cl [ob (B1 e) (rB 74 (a6 i)++rI 256 (bL i)).toArray 298,ob (B2 e) #[pt (B1 e) 0] 235,ob (B0 f) #[iN (p5 i)] 3,ob (B0 b) #[i6 3] 3,ob ((b 0).y 1) #[i6 8] 3,ob (B0 d) #[i6 5] 3,ob ((d 0).y 1) #[i6 8] 3] (by rewrite [←H];kernel_rfl) (r0 [(0,.l 2)] [(42,.bool (((p5 i:Nat):Int)==74))] [] ?_);refine cE ((p5 i:Nat):Int) 74 (λz p=>?_) λz p=>?_
  ·exact nx 6 _ ⟨rfl,rfl⟩ [0,1,2,3,4,5,6] (by clear H;obtain rfl:i=10:=Om;kernel_rfl)
  exact rs [(0,.l 1),(1,.l 2),(3,.c [0] [0] (yC (B1 e) (p5 i) (UInt8.ofNat ((ch 5 256).getD i 0)) (a6 i) (bL i) Om (by(simp only[LL,nc,n0,n1,n2,n4,iY,jJ];done)) (by(simp only[LL,nc,n0,n1,n2,n4,iY,jJ];done))))] 0 (ob (B1 e) (rB 74 ((a6 i).set (p5 i) (UInt8.ofNat ((ch 5 256).getD i 0)))++rI 256 ((bL i).set (UInt8.ofNat ((ch 5 256).getD i 0)).toNat ((p5 i):Int))).toArray 298) (rs [(0,.l 2),(1,ad (p5 i) 1),(2,.s 2)] 2 (ob (B0 f) #[iN ((p5 i)+1)] 3) (ne _ ⟨⟨by omega,Om⟩,rfl⟩ [0,1,2,3,4,5,6] (by rw[show a6 (i+1)=(a6 i).set (p5 i) (UInt8.ofNat ((ch 5 256).getD i 0)) by rw[a6],show bL (i+1)=(bL i).set (UInt8.ofNat ((ch 5 256).getD i 0)).toNat ((p5 i:Nat):Int) by rw[bL],Nm (i:=i) Om];kernel_rfl)))
 ·exact absurd u (by rw[Nj];decide)
 obtain rfl:=P;exact r0 [(0,.l 1)] [(0,pt (B1 e) 0)] [0] (lf (.l [(e 1).y 0] [] []) [0] [] [])
end
section
open Go Go.RowKit Go.Shelf
attribute [local irreducible] pc bA
def dX(b:Bool):Int:=(bif b then 1 else 0)
theorem DO(b:Bool):aa YV 158 #[.bool b] [] [] N0 (λ_=>i6 (dX b)):=by
 refine fG Tryz.func158 λw c=>r0 [] [(2,i6 0)] [] (r0 [] [(3,.bool b)] [] ?_);refine cB (b) (λa=>?_) λa=>?_
 ·exact r0 [] [(2,i6 1)] [2] (aq (i6 1) ab.zero (by((try simp only[dX]);(repeat (first | rw[a] | rw[ALct])))<;>rfl) [] [] [])
 exact r0 [] [(2,i6 0)] [2] (aq (i6 0) ab.zero (by((try simp only[dX]);(repeat (first | rw[a] | rw[ALcf])))<;>rfl) [] [] [])
theorem No(x:Int)(h0: -9223372036854775808≤x)(h1:x≤9223372036854775807):aa YV 173 #[i6 x] [] [] N0 (λ_=> .agg (rB 3 ([aN x,aN (x/256),(aN (x/65536))&&& (127:UInt8)])).toArray):=by
 exact fG Tryz.func173 λw f=>ra (λe=>[(2,pt (B0 e) 0)]) (λe=>[ob (B0 e) (rB 3 (YU 3 0)).toArray 262]) λe=>rs [(1,.t (tc (k:= .i64) (l:= .u8) (a:=i6 x) λ_ _ _ c d=>ox c d)),(3,.t (tv (av .shr 3 (.tmp 5) (.const (u6 8)) (i6 x) (u6 8)) (λ_=>iE 8 Dc))),(4,.t (tc (k:= .i64) (l:= .u8) (a:=i6 (x/256)) λ_ _ _ c d=>ox c d)),(6,.t (tv (av .shr 3 (.tmp 8) (.const (u6 16)) (i6 x) (u6 16)) (λ_=>iE 16 Dc))),(7,.t (tc (k:= .i64) (l:= .u8) (a:=i6 (x/65536)) λ_ _ _ c d=>ox c d)),(8,.t (tb (a:=u1 ((aN (x/65536)).toNat:Int)) (b:=u1 127) λ_ _ _ _=>xn (aN (x/65536)) ((127:UInt8)))),(10,.s 0)] 0 (ob (B0 e) (rB 3 ([aN x,aN (x/256),(aN (x/65536))&&& (127:UInt8)])).toArray 262) (lf ab.zero [] [] [0])
def bT(x:Int)(b:Bool):List UInt8:=(bif b then([aN x,aN (x/256),(aN (x/65536))&&& (127:UInt8)]).set 2 (((aN (x/65536))&&& (127:UInt8))||| (128:UInt8)) else[aN x,aN (x/256),(aN (x/65536))&&& (127:UInt8)])
theorem DP(x:Int)(h0: -9223372036854775808≤x)(h1:x≤9223372036854775807)(b:Bool):aa YV 159 #[i6 x,.bool b] [] [] N0 (λ_=> .agg (rB 3 (bT x b)).toArray):=by
 refine fG Tryz.func159 λw g=>ra (λe=>[(4,pt (B0 e) 0)]) (λe=>[ob (B0 e) (rB 3 (YU 3 0)).toArray 262]) λe=>rr (λ_=>[(1,.c [] [] (No x Om Om)),(3,.s 1)]) (λd=>[(5,pt (B2 d) 0)]) [] (λd L=>L++[ob (B2 d) (rB 3 ([aN x,aN (x/256),(aN (x/65536))&&& (127:UInt8)])).toArray 262]) λd=>r0 [] [(8,.bool b)] [] ?_;refine cJ (b) N0 (λc=>[ob (B0 e) (rB 3 (YU 3 0)).toArray 262,ob (B2 d) (rB 3 (bif c then([aN x,aN (x/256),(aN (x/65536))&&& (127:UInt8)]).set 2 (((aN (x/65536))&&& (127:UInt8))||| (128:UInt8)) else[aN x,aN (x/256),(aN (x/65536))&&& (127:UInt8)])).toArray 262]) (λf=>?_) (λf=>?_) ?_
 ·refine rr (λ_=>[(1,.l 1),(2,.t (tb (a:=u1 (((aN (x/65536))&&& (127:UInt8)).toNat:Int)) (b:=u1 128) λ_ _ _ _=>IX ((aN (x/65536))&&& (127:UInt8)) ((128:UInt8)))),(4,.m (sw 1 (B2 d) 2 262 (u1 ((((aN (x/65536))&&& (127:UInt8))||| (128:UInt8)).toNat:Int)) (rB 3 ([aN x,aN (x/256),(aN (x/65536))&&& (127:UInt8)])).toArray (rB 3 (([aN x,aN (x/256),(aN (x/65536))&&& (127:UInt8)]).set 2 (((aN (x/65536))&&& (127:UInt8))||| (128:UInt8)))).toArray (mj (show([aN x,aN (x/256),(aN (x/65536))&&& (127:UInt8)]).length=3 by rfl)) (jT Dc)))]) N0 [] (λ_ L=>L.set 1 (ob (B2 d) (rB 3 (([aN x,aN (x/256),(aN (x/65536))&&& (127:UInt8)]).set 2 (((aN (x/65536))&&& (127:UInt8))||| (128:UInt8)))).toArray 262)) λh=>?_;exact cm Kr [0,1] Kr
 ·exact cm Kr [0,1] Kr
 exact rs [(0,.l 1),(1,.s 0)] 0 (ob (B0 e) (rB 3 (bif b then([aN x,aN (x/256),(aN (x/65536))&&& (127:UInt8)]).set 2 (((aN (x/65536))&&& (127:UInt8))||| (128:UInt8)) else[aN x,aN (x/256),(aN (x/65536))&&& (127:UInt8)])).toArray 262) (lf ab.zero [] [] [0])
theorem Np{P:Program}{w:World}{S T:TypeId}(a:P.underlying S=some (.int .i64))(b:P.underlying T=some (.int .u32)){c:Nat}(d:c<4294967296):(convert S T (.int .i64 (c:Int))).run P w= .ok (.int .u32 (c:Int)) w:=by
 have h:IntKind.u32.wrap (c:Int)=(c:Int):=by rw[aaf];omega
 simp only[convert,Zk,run_underlying a,run_underlying b,Y6,Conv.intToInt,h,Zl]
theorem Nq{P:Program}{T:TypeId}{y z:Operand}{w:World}(x:Int):(av .and T y z (.int .i64 x) (.int .i64 8388607)).run P w= .ok (.int .i64 (((x%8388608).toNat:Nat):Int)) w:=by
 have h:=mw (P:=P) (T:=T) (y:=y) (z:=z) (w:=w) x 23 8388608 Dc Dc Dc Dc;rw[show(((x%8388608).toNat:Nat):Int)=x%((8388608:Nat):Int) by omega];exact h
theorem uY(x:Int):aa YV 153 #[i6 x] [] [] N0 (λ_=>iN (pc ((x%8388608).toNat)%2)):=by
 exact fG Tryz.func153 λw a=>r0 [] [(2,i6 0)] [] (r0 [(1,.t (tv (av .and 3 (.tmp 3) (.const (i6 8388607)) (i6 x) (i6 8388607)) (λ_=>Nq x))),(2,.t (tv (convert 3 329 (iN ((x%8388608).toNat))) (λ_=>Np Tryz.underlying3 Tryz.underlying329 Om))),(3,.c [] [] (KS ((x%8388608).toNat) Om))] [(2,iN (pc ((x%8388608).toNat)%2))] [2] (lf ab.zero [] [] []))
def ia(x:Nat):Nat→List UInt8
 | 0=>[]
 | k+1=>ia x k++[UInt8.ofNat (x/256^k)]
theorem jL(x k:Nat):(ia x k).length=k:=by
 induction k with
 | zero=>rfl
 | succ k ih=>rw[ia,YY,ih];rfl
theorem Nr(x k:Nat):x/256^(k+1)=x/256^k/2^8:=by rw[aac,Zm]
theorem Nu(x:Nat)(n:x<18446744073709551616):aa YV 156 #[u6 (x:Int)] [] [] (λE=>[bC (E.val 0) (ia x 8)]) (λE=>(E.val 0)):=by
 refine fG Tryz.func156 λw j=>r0 [] [(2,.slice none 0 0)] [] (r0 [] [(3,.slice none 0 0)] [] (r0 [] [(4,i6 0)] [] (cz kB ?_)));refine mv (λk _=>k≤8) (λk b=>[(0,u6 ((x/256^k:Nat):Int)),(4,iN k),(3,b)]) (λk b L=>L.set 0 (bC b (ia x k))) (λk _=>8-k) 0 (.slice none 0 0) Om (by rw[aaa,aak];kernel_rfl) Kr (λk b h=>?_);have i:=jL x k;refine r0 [] [(5,.bool (decide ((k:Int)<8)))] [] ?_;refine cc (k:Int) 8 (λe d=>?_) λe d=>?_
 ·exact rr (λ_=>[(2,.t (tc (k:= .u64) (l:= .u8) (a:=u6 ((x/256^k:Nat):Int)) λ_ _ _ f g=>tS f g)),(3,.m (bs 1 1)),(4,e7 kB (b) (ia x k) 0 1 ([UInt8.ofNat (x/256^k)]))]) (λc=>[(3,(c 4).val 0)]) [3] (λc L=>L.set 0 (bC ((c 4).val 0) ((ia x k)++([UInt8.ofNat (x/256^k)])))++[ob (B3 c) #[u1 ((UInt8.ofNat (x/256^k)).toNat:Int)] 5]) λc=>r0 [(1,.t (tv (av .shr 44 (.tmp 11) (.const (u6 8)) (u6 ((x/256^k:Nat):Int)) (u6 8)) (λ_=>tO 8 Dc)))] [(0,u6 ((x/256^k/2^8:Nat):Int))] [0] (r0 [(0,ad k 1)] [(4,iN (k+1))] [4] (kS (k+1) ((c 4).val 0) Om Om (by rw[Nr x k];kernel_rfl) [0] Kr))
 obtain rfl:k=8:=by omega
 refine kT ?_;exact r0 [] [(2,b)] [2] (lf (.l [] [] [b]) [0] [] [])
end
end E
section
open Go Go.RowKit Go.Shelf
def aE(xs:List UInt8)(off:Nat):Nat→Nat
 | 0=>0
 | k+1=>aE xs off k||| (xs.getD (off+k) 0).toNat*2^(8*k)
theorem uZ{b:UInt8}{k:Nat}(d:k<8):b.toNat*2^(8*k)<18446744073709551616:=by
 have c:=b.toNat_lt;have a:2^(8*k)≤2^56:=ZN Dc Om
 calc b.toNat*2^(8*k)≤255*2^56:=Z3 Om a
  _<18446744073709551616:=by decide
theorem pV(xs:List UInt8)(off k:Nat):aE xs off k<2^(8*k):=by
 induction k with
 | zero=>simp [aE]
 | succ k ih=>
  have a:=(xs.getD (off+k) 0).toNat_lt;unfold aE;refine Nat.or_lt_two_pow (aao ih (ZN Dc Om)) ?_;rw[show 8*(k+1)=8+8*k by omega,Nat.pow_add];exact Nat.mul_lt_mul_of_pos_right Om (Nat.pow_pos Dc)
theorem pW(xs:List UInt8)(off k:Nat):aE xs off (k+1)=aE xs off k+256^k*(xs.getD (off+k) 0).toNat:=by
 rw[show aE xs off (k+1)=aE xs off k||| (xs.getD (off+k) 0).toNat*2^(8*k) from rfl];have h:=Z0 (pV xs off k) (xs.getD (off+k) 0).toNat;rw[aab,Nat.or_comm,←h,aaH,show(256:Nat)=2^8 from rfl,←Nat.pow_mul]
theorem pX(xs:List UInt8)(off:Nat){k:Nat}(c:k≤8):aE xs off k<18446744073709551616:=by
 have a:=pV xs off k;have b:2^(8*k)≤2^64:=ZN Dc Om;have:(2:Nat)^64=18446744073709551616:=by decide
 omega
def b6(N:Nat)(f:Nat→UInt8)(n:Nat):List UInt8:=(Y4 N).map λi=>if i<n then f i else 0
theorem k4(N:Nat)(f:Nat→UInt8)(n:Nat):(b6 N f n).length=N:=by unfold b6;rw[Zx,Zo]
theorem Nv{N:Nat}{f:Nat→UInt8}{n i:Nat}(h:i<N):(b6 N f n).getD i 0=if i<n then f i else 0:=by
 unfold b6;rw[Y0,ZD,ZP h];rfl
theorem Nw{N:Nat}{f:Nat→UInt8}{n:Nat}(h:n<N):(b6 N f n).set n (f n)=b6 N f (n+1):=by
 apply ZW;intro i;rw[List.getElem?_set];rcases Zj i N with a | a
 ·unfold b6;simp only[Zx,Zo,ZD,ZP a,Zd];by_cases e:n=i
  ·subst e;rw[ALifp rfl,ALifp h,ALifp Om]
  ·rw[ALifn e];by_cases b:i<n
   ·rw[ALifp b,ALifp Om]
   ·rw[ALifn b,ALifn Om]
 ·rw[Za (l:=b6 N f (n+1)) (by rw[k4];exact a),Za (l:=b6 N f n) (by rw[k4];exact a),k4];rw[ALifn Om]
theorem Nx(N:Nat)(f:Nat→UInt8):b6 N f 0=YU N 0:=by
 apply ZW;intro i;rcases Zj i N with a | a
 ·unfold b6;simp [a]
 ·rw[Za (by rw[k4];exact a),Za (by simpa using a)]
end
namespace E
section
open Go Go.RowKit Go.Shelf
theorem yE(ys:List UInt8)(k:Nat):aE ys 0 (k+1)=aE ys 0 k||| (ys.getD k 0).toNat*2^(8*k):=by rw[aE,Zf]
theorem Ny(ys:List UInt8)(o k:Nat):aE ys o (k+1)=aE ys o k||| (ys.getD (o+k) 0).toNat*2^(8*k):=rfl
theorem DQ(ys:List UInt8)(o:Nat):aE ys o 0=0:=rfl
theorem Nz{P:Program}{T:TypeId}{x y:Operand}{w:World}{ys:List UInt8}{k:Nat}(a:k<8):(av .or T x y (.int .u64 ((aE ys 0 k:Nat):Int)) (.int .u64 (((ys.getD k 0).toNat*2^(8*k):Nat):Int))).run P w= .ok (.int .u64 ((aE ys 0 (k+1):Nat):Int)) w:=by
 rw[yE];exact BB (pX _ _ Om) (uZ a)
theorem NA{P:Program}{T:TypeId}{x y:Operand}{w:World}{ys:List UInt8}{o k:Nat}(a:k<8):(av .or T x y (.int .u64 ((aE ys o k:Nat):Int)) (.int .u64 (((ys.getD (o+k) 0).toNat*2^(8*k):Nat):Int))).run P w= .ok (.int .u64 ((aE ys o (k+1):Nat):Int)) w:=by
 rw[Ny];exact BB (pX _ _ Om) (uZ a)
attribute [local irreducible] aE
theorem NB(v:Value)(ys:List UInt8)(j:ys.length=8):aa YV 228 #[v] [.p (aP eB v ys)] [] N0 (λ_=>u6 ((aE ys 0 8:Nat):Int)):=by
 refine fO Tryz.func228 0 rfl λd b=>fG Tryz.func228 λw i=>r0 [] [(2,u6 0)] [] (r0 [] [(3,u6 0)] [] (r0 [(1,eD b.1 0)] [(6,v),(7,iN ys.length),(8,i6 0)] [] ?_));refine lq (λk=>k≤8) (λk=>[(3,u6 ((aE ys 0 k:Nat):Int)),(8,iN k)]) (λ_ L=>L) (λk=>8-k) 0 Om (by rw[DQ];kernel_rfl) Kr (λk h=>?_);refine r0 [] [(9,.bool (decide ((k:Int)<(ys.length:Int))))] [] ?_;refine cc (k:Int) (ys.length:Int) (λe c=>?_) λe c=>?_
 ·exact r0 [(1,fh b.1 0 k 1),(2,iU kB b.1 0 k 0)] [(4,iN k),(5,u1 ((ys.getD k 0).toNat:Int))] [] (r0 [(2,.t (tc (k:= .u8) (l:= .u64) (a:=u1 ((ys.getD k 0).toNat:Int)) λ_ _ _ f g=>BC f g)),(4,ml 8 k),(5,.t (tv (convert 3 201 (iN (8*k))) (λ_=>m0 Tryz.underlying3 Tryz.underlying201 Om))),(6,.t (tv (av .shl 44 (.tmp 15) (.tmp 18) (u6 ((ys.getD k 0).toNat:Int)) (u6 ((8*k:Nat):Int))) (λ_=>tQ (8*k) Om (uZ Om)))),(7,.t (tv (av .or 44 (.tmp 13) (.tmp 19) (u6 ((aE ys 0 k:Nat):Int)) (u6 (((ys.getD k 0).toNat*2^(8*k):Nat):Int))) (λ_=>Nz Om)))] [(3,u6 ((aE ys 0 (k+1):Nat):Int))] [3] (r0 [(0,ad k 1)] [(8,iN (k+1))] [8] (le (k+1) Om Om Kr [0] Kr)))
 obtain rfl:k=8:=by omega
 exact lx (r0 [] [(2,u6 ((aE ys 0 8:Nat):Int))] [2] (lf ab.zero [] [(0,0)] []))
theorem NC(l:List UInt8)(i:l.length=64)(q:Nat)(j:q<8):aa YV 201 #[.agg (rB 64 l).toArray,iN q] [] [] N0 (λ_=>u6 ((aE l (8*q) 8:Nat):Int)):=by
 refine fG Tryz.func201 λw h=>ra (λb=>[(2,pt (B0 b) 0),(4,u6 0)]) (λb=>[ob (B0 b) (rB 64 l).toArray 43]) λb=>r0 [] [(5,u6 0)] [] (r0 [] [(7,i6 0)] [] ?_);refine lq (λk=>k≤8) (λk=>[(5,u6 ((aE l (8*q) k:Nat):Int)),(7,iN k)]) (λ_ L=>L) (λk=>8-k) 0 Om (by rw[DQ];kernel_rfl) Kr (λk g=>?_);refine r0 [] [(8,.bool (decide ((k:Int)<8)))] [] ?_;refine cc (k:Int) 8 (λd c=>?_) λd c=>?_
 ·exact r0 [] [(6,iN k)] [] (r0 [(0,.v (u6 ((aE l (8*q) k:Nat):Int))),(1,.v (iN q)),(2,ml 8 q),(3,.v (iN k)),(4,ad (8*q) k),(5,iA 43 .i64 (B0 b) 0 64 1 ((8*q)+k)),(6,rD 0 (B0 b) ((8*q)+k) 43 (rB 64 l) (nK Om)),(7,.t (tc (k:= .u8) (l:= .u64) (a:=u1 ((l.getD ((8*q)+k) 0).toNat:Int)) λ_ _ _ e f=>BC e f)),(8,.v (iN k)),(9,ml 8 k),(10,.t (tv (convert 3 201 (iN (8*k))) (λ_=>m0 Tryz.underlying3 Tryz.underlying201 Om))),(11,.t (tv (av .shl 44 (.tmp 17) (.tmp 20) (u6 ((l.getD ((8*q)+k) 0).toNat:Int)) (u6 ((8*k:Nat):Int))) (λ_=>tQ (8*k) Om (uZ Om)))),(12,.t (tv (av .or 44 (.tmp 10) (.tmp 21) (u6 ((aE l (8*q) k:Nat):Int)) (u6 (((l.getD (8*q+k) 0).toNat*2^(8*k):Nat):Int))) (λ_=>NA Om))),(13,.v (u6 ((aE l (8*q) (k+1):Nat):Int)))] [(5,u6 ((aE l (8*q) (k+1):Nat):Int))] [5] (r0 [(0,ad k 1)] [(7,iN (k+1))] [7] (le (k+1) Om Om Kr [0] Kr)))
 obtain rfl:k=8:=by omega
 exact lx (r0 [] [(4,u6 ((aE l (8*q) 8:Nat):Int))] [4] (lf ab.zero [] [] []))
theorem ND(b:Nat)(l:List UInt8)(o:l.length=64):e4 5 YV 200 #[pt b 0] (λ(x:Nat×Nat)=>#[i6 (x.1:Int),u6 (x.2:Int)]) ((Y4 8).map λk=>(k,aE l (8*k) 8)) (Zs [[(b,.cells (rB 64 l).toArray 43 (0,0))]]):=by
 refine gi (KO:=[[(b,.cells (rB 64 l).toArray 43 (0,0))]]) Tryz.func200 (λp r q v t f m j=>?_);refine r0 [] [(4,i6 0)] [] ?_;refine jW (λk=>k≤8) (λk=>[(4,iN k)]) (λ_ L=>L) (λk=>8-k) (λk=>k) 0 Om j Kr Kr (λk s u n d=>?_);refine r0 [] [(5,.bool (decide ((k:Int)<8)))] [] ?_;refine cc (k:Int) 8 (λi e=>?_) λi e=>?_
 ·refine r0 [] [(3,iN k)] [] ?_;refine iy f m d 5 (λ_=>[(2,.l 0),(4,.c [] [] (NC l (by(simp only[LL,o];done)) k Om))]) (λ_=>[(7,.func (.yield p) #[] #[]),(8,iN k),(11,u6 ((aE l (8*k) 8:Nat):Int))]) [] (λ_ L=>L) N0 [0] (nI Om) (λw g h a=>?_);refine cF _ rfl (r0 [(0,ad k 1)] [(4,iN (k+1))] [4] ?_);exact iG (k+1) Om a Om Kr [0] Kr
 obtain rfl:k=8:=by omega
 refine jX ?_;exact kV f d ba [] [0]
theorem NF(l:List UInt8)(c:l.length=64):aa YV 154 #[.agg (rB 64 l).toArray] [] [] (λE=>[ob (E.y 0) (rB 64 l).toArray 43]) (λE=> .func (.func 200) #[] #[pt ((E.y 0)) 0]):=by
 exact fG Tryz.func154 λw b=>ra (λa=>[(1,pt (B0 a) 0),(2,.nilFunc)]) (λa=>[ob (B0 a) (rB 64 l).toArray 43]) λa=>r0 [] [(2,.func (.func 200) #[] #[pt (B0 a) 0])] [2] (lf (.l [(a 0).y 0] [] []) [0] [] [])
theorem NG(l:List UInt8)(c:l.length=64):aa YV 160 #[.agg (rB 64 l).toArray] [] [] (λE=>[ob (E.y 0) (rB 64 l).toArray 43]) (λE=> .func (.func 202) #[] #[pt ((E.y 0)) 0]):=by
 exact fG Tryz.func160 λw b=>ra (λa=>[(1,pt (B0 a) 0),(2,.nilFunc)]) (λa=>[ob (B0 a) (rB 64 l).toArray 43]) λa=>r0 [] [(2,.func (.func 202) #[] #[pt (B0 a) 0])] [2] (lf (.l [(a 0).y 0] [] []) [0] [] [])
theorem NH(b:Nat)(l:List UInt8)(o:l.length=64):e4 5 YV 202 #[pt b 0] (λ(x:Nat×List UInt8)=>#[i6 (x.1:Int),.agg (rB 32 x.2).toArray]) ((Y4 2).map λk=>(k,(l.drop (32*k)).take 32)) (Zs [[(b,.cells (rB 64 l).toArray 43 (0,0))]]):=by
 refine gi (KO:=[[(b,.cells (rB 64 l).toArray 43 (0,0))]]) Tryz.func202 (λp r q w u e j i=>?_);refine r0 [] [(4,i6 0)] [] ?_;refine jW (λk=>k≤2) (λk=>[(4,iN k)]) (λ_ L=>L) (λk=>2-k) (λk=>k) 0 Om i Kr Kr (λk s v n c=>?_);refine r0 [] [(5,.bool (decide ((k:Int)<2)))] [] ?_;refine cc (k:Int) 2 (λh d=>?_) λh d=>?_
 ·refine r0 [] [(3,iN k)] [] ?_;refine iy e j c 7 (λ_=>[(3,ml 32 k),(4,aL 43 b 64 1 (32*k)),(5,.t (tv (Instr.arrayAt 267 (.slice (some ⟨b,(32*k)*1,none⟩) (64-(32*k)) (64-(32*k)))) (λ_=>run_arrayAt _ 267 5 32 _ _ _ Tryz.underlying267 Om))),(6,.m (lg 0 b ((32*k)*1) (rB 64 l).toArray 43 (rB 32 ((l.drop (32*k)).take 32)) (xv (λ_=>rfl) o Om)))]) (λ_=>[(7,.func (.yield p) #[] #[]),(8,iN k),(13,.agg (rB 32 ((l.drop (32*k)).take 32)).toArray)]) [] (λ_ L=>L) N0 [0] (nI Om) (λy f g a=>?_);refine cF _ rfl (r0 [(0,ad k 1)] [(4,iN (k+1))] [4] ?_);exact iG (k+1) Om a Om Kr [0] Kr
 obtain rfl:k=2:=by omega
 refine jX ?_;exact kV e c ba [] [0]
end
end E
end Go.Proofs.YtbcodenfkijdnaaGreat
