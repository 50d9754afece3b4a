/- WholeLater, in 7 texts: part 2. For every input; no condition. -/
import Derived.Test.YtbcodenfkijdnaaGreatPl1
import Derived.WalkKit
import Derived.Sort.CutIn
import Derived.IntWalk
import Derived.Laws.BitsAllLaws
set_option linter.unusedVariables false
set_option linter.unusedSimpArgs false
set_option maxRecDepth 100000
namespace Go.Proofs.YtbcodenfkijdnaaGreat
open List renaming replicate→WJ,not_mem_nil→WL,append_nil→WM,length_append→WN,mem_cons→WO,size_toArray→WQ,length_replicate→WR,getD_eq_getElem?_getD→WT,length_set→WU,range→WV,getElem?_append_right→WY,length_take→WZ,getElem?_eq_none→W4,getElem?_eq_getElem→W8,getElem?_toArray→Xb,length_range→Xh,flatten→Xk,length_drop→Xl,mem_append→Xn,length_map→Xo,getElem?_append_left→Xu,append_assoc→Xv,map_congr_left→XD,mem_singleton→XG,getElem?_map→XJ,ext_getElem?→XK,nil_append→XQ,drop_eq_getElem_cons→XT,getElem?_take_of_lt→XU,take_of_length_le→XY,take_append_drop→XZ,toArray→X0,mem_cons_of_mem→X1,mem_of_getElem?→X2,mem_append_left→X3,getElem_of_mem→X7,getElem?_range→X8,replicate_zero→Ya,mem_cons_self→Yc,getElem_mem→Yj,flatten_nil→Yl,ext_getElem→Yn,take_zero→Yu,any→Yw,length→Yy
open Go.Proofs.Tryz renaming prog→WK
open Bool renaming and_eq_true→WS,false_eq_true→XE,false_or→XF,or_eq_true→XR,or_eq_false_iff→X6,noConfusion→Yk
open Go.Result renaming andThen_ok→WW
open Nat renaming mod_eq_of_lt→WX,eq_of_beq_eq_true→W5,le_refl→W6,zero_add→W9,mul_one→Xc,lt_or_ge→Xd,div_div_eq_div_mul→Xg,mod_lt→Xj,beq→Xm,sub_zero→Xq,add_zero→Xs,blt_eq→Xw,blt→Xx,beq_refl→Xy,le_of_ble_eq_true→Xz,pow_le_pow_right→XC,lt_of_le_of_lt→XH,sub_self→XM,le_of_not_lt→XN,mul_le_mul→XV,add_sub_cancel_left→XX,pow_zero→X4,pow_succ→X5,ble→Yb,div_one→Yf,lt_of_lt_of_le→Yi,lt_succ_self→Yo,strongRecOn→Yr,not_lt_zero→Ys,min_eq_left→Yv,add_assoc→Yx,mul_zero→Yz,le_trans→YA
open Option renaming map_some→W7,getD_some→XI,bind_some→Yd
open UInt8 renaming xor_zero→Xa,toNat_ofNat'→Xp,xor_self→XA,zero_xor→XB,xor_assoc→XP,ofNat_toNat→Yg,toNat_xor→Ym,xor_comm→Yq
open Go.Sem renaming run_bind→Xe,run_pure→Xf
open Int renaming toNat_natCast→Xi,eq_ofNat_of_zero_le→XW,natCast_nonneg→Yh,natCast_emod→Yp,emod_nonneg→Yt
open Classical renaming choose→Xr,byContradiction→XL,choose_spec→XS
open Go.IntKind renaming wrap_u32→X9,wrap_u8→Ye
namespace E
section
open Go Go.RowKit Go.Shelf
section
variable (P:Program)
def xh(o:Oper)(ρ:Operand→Value):Value:=match (execOp ρ o).run P default with
 | .ok (.value v) _=>v
 | _=>undef
def Jf(c x y:Operand)(ρ:Operand→Value):Value:=match ρ c,x,y with
 | .bool E,_,.const (.bool false)=>(match ρ x with | .bool X=> .bool (E&&X) | _=>undef)
 | .bool E,_,_=>(match ρ y with | .bool Y=> .bool (E||Y) | _=>undef)
 | _,_,_=>undef
end
def tS(P:Program)(b:Bool)(xs ys:List Value):TD:=λo ρ=>match o.op with
 | .binOp d T x y _=>[sE d (match b with | true=> .neq | false=> .eql),sE (ρ x) (.agg xs.toArray),sE (ρ y) (.agg ys.toArray),sE (dO P T,P.eqGuardType P.depth T,(jC P 8 T).map λc=>eA c xs&&eA c ys) (true,false,some true)]
 | _=>[sB false]
theorem Jg{P:Program}{xs ys:List Value}:TD.ok P (tS P false xs ys) (.bool (Wx xs ys)):=by
 intro o ρ b w;unfold tS at b
 split at b
 ·rename_i i T x y q c;simp only[WO,WL,or_false,forall_eq_or_imp,forall_eq,sE] at b;obtain⟨rfl,d,e,g⟩:=b;exact(w8 (P:=P) T (λx y w=>wZ (x:=x) (y:=y) (w:=w) g rfl)) o ρ (by simp only[tN,c,WO,WL,or_false,forall_eq_or_imp,forall_eq,sE];exact⟨trivial,trivial,d,e⟩) w
 ·exact(bE b).elim
theorem Jh{P:Program}{xs ys:List Value}:TD.ok P (tS P true xs ys) (.bool (!Wx xs ys)):=by
 intro o ρ b w;unfold tS at b
 split at b
 ·rename_i i T x y q c;simp only[WO,WL,or_false,forall_eq_or_imp,forall_eq,sE] at b;obtain⟨rfl,d,e,g⟩:=b;exact(w8 (P:=P) T (λx y w=>ja (x:=x) (y:=y) (w:=w) g rfl)) o ρ (by simp only[tN,c,WO,WL,or_false,forall_eq_or_imp,forall_eq,sE];exact⟨trivial,trivial,d,e⟩) w
 ·exact(bE b).elim
def Ji(P:Program)(o:Oper)(ρ:Operand→Value):b4 P:=match o.op with
 | .binOp .eql _ x y _=>(match m0 (ρ x),m0 (ρ y) with | some xs,some ys=> .t (val:= .bool (Wx xs ys)) ⟨_,Jg⟩ | _,_=> .d undef)
 | .binOp .neq _ x y _=>(match m0 (ρ x),m0 (ρ y) with | some xs,some ys=> .t (val:= .bool (!Wx xs ys)) ⟨_,Jh⟩ | _,_=> .d undef)
 | _=> .d undef
inductive b8 (P:Program):Type 1
 | l (p:Nat)
 | e
 | s (p:Nat)
 | d
 | v (v:Value)
 | t {val:Value} (d:TH P val)
 | u {val:Value} (d:TD) (j:Nat) (E b:Bool) (h:E=b→TD.ok P d val)
 | m {val:ab→Value} (d:MH P val)
 | c {f:FuncId} {args:Array Value} {rd:aj} {O:List Nat} {wt:ab→aj} {v:ab→Value} (ps qs:List Nat) (h:aa P f args rd O wt v)
section
variable {P:Program}
def Be(P:Program)(T:TypeId):Nat:=((P.info? T).map (·.size)).getD 0
def Jj(P:Program)(p:Nat)(T:TypeId)(x:Value)(C:cp):b4 P:=match C p,kK x with
 | some (.c [(_,.cells cs _ _)]),some (_,b)=>(match dO P T with
  | true=> .m (ls p ((cs.toList.drop b).take (Be P T)))
  | false=> .m (ld p (cs.getD b undef)))
 | _,_=> .d undef
def Jk(P:Program)(p:Nat)(T:TypeId):b4 P:=match dO P T with
 | true=> .m (ss p)
 | false=> .m (st p)
def b8.hint(o:Oper)(ρ:Operand→Value)(C:cp):b8 P→b4 P
 | .l p=>(match o.op with | .load T x=>Jj P p T (ρ x) C | _=> .d undef)
 | .s p=>(match o.op with | .store T _ _=>Jk P p T | _=> .d undef)
 | .e=>Ji P o ρ
 | .d=> .d (.bool false)
 | .v x=> .v x
 | .t x=> .t x
 | .u x j E b h=> .u x j E b h
 | .m x=> .m x
 | .c g i h=> .c g i h
def Bf(o:Oper)(ρ:Operand→Value)(p:Nat):b4 P:=match o.op with
 | .pick c x y=> .k (Jf c x y ρ)
 | .alloc _=> .m (al p)
 | .box _ _=> .m (bx p)
 | _=> .v (xh P o ρ)
def tT(p:Nat):Wr→Nat
 | []=>p
 | x::r=>tT (match Yb p x.1 with | true=>x.1+1 | false=>p) r
def qV(L:List Oper)(a:Sl)(c:List (List Nat))(η:bD):List Oper→List (Nat×b8 P)→Nat→List Value→cp→Nat→List (b4 P)
 | [],_,_,_,_,_=>[]
 | o::os,[],k,b,C,p=>
  (λρ=>(λh=>h::qV L a c η os [] (k+1) (b++[h.val (η k)]) (lE C (h.wt o ρ C (η k))) (tT p (h.wt o ρ C (η k)))) (Bf o ρ p)) (qD L a (c.getD k []) b)
 | o::os,(j,x)::r,k,b,C,p=>match Xm j k with
  | true=>(λρ=>(λh=>h::qV L a c η os r (k+1) (b++[h.val (η k)]) (lE C (h.wt o ρ C (η k))) (tT p (h.wt o ρ C (η k)))) (x.hint o ρ C)) (qD L a (c.getD k []) b)
  | false=>(λρ=>(λh=>h::qV L a c η os ((j,x)::r) (k+1) (b++[h.val (η k)]) (lE C (h.wt o ρ C (η k))) (tT p (h.wt o ρ C (η k)))) (Bf o ρ p)) (qD L a (c.getD k []) b)
end
inductive It where
 | c (x:Code)
 | b (id:Nat)
 | x (id:Nat)
section
variable (F:Fence) (n:Nat) (P:Program) (Q:Exit→Act→World→Prop)
def dd:List It→Exit→Act→World→Prop
 | []=>Q
 | .c x::S=>Exit.then (x.wpIn F n P (dd S)) (dd S)
 | .b d::S=>Exit.inBlock d (dd S)
 | .x d::S=>Exit.then (dd S (.exit d)) (dd S)
end
def mq(id:Nat):List It→Option (List It)
 | []=>none
 | .c _::S=>mq id S
 | .x _::S=>mq id S
 | .b j::S=>match Xm j id with
  | true=>some S
  | false=>mq id S
def dg:Nat→List It→List It
 | 0,S=>S
 | n+1,S=>match S with
  | .c (.seq x y)::S=>dg n (.c x:: .c y::S)
  | .c (.block d x)::S=>dg n (.c x:: .b d::S)
  | .c .skip::S=>dg n S
  | .c (.label _)::S=>dg n S
  | .b _::S=>dg n S
  | .c (.exit d)::S=>dg n (.x d::S)
  | .x d::S=>(match mq d S with
   | some e=>dg n e
   | none=> .x d::S)
  | S=>S
abbrev nf(S:List It):List It:=dg 1000 S
section
variable {F:Fence} {n:Nat} {P:Program} {Q:Exit→Act→World→Prop} {a:Act} {w:World}
theorem tV{id:Nat}: ∀{S g:List It},mq id S=some g→dd F n P Q g .normal a w→dd F n P Q S (.exit id) a w
 | .c _::S,g,h,d=>tV (S:=S) h d
 | .x _::S,g,h,d=>tV (S:=S) h d
 | .b j::S,g,h,d=>by
  unfold mq at h;show if id=j then dd F n P Q S .normal a w else dd F n P Q S (.exit id) a w
  split at h
  ·rename_i i;cases h;rw[ALifp (W5 i).symm];exact d
  ·rename_i i;rw[ALifn (λe=>by rw[e,Xy] at i;cases i)];exact tV h d
theorem qW{id:Nat}: ∀{S:List It},mq id S=none→Q (.exit id) a w→dd F n P Q S (.exit id) a w
 | [],_,d=>d
 | .c _::S,h,d=>qW (S:=S) h d
 | .x _::S,h,d=>qW (S:=S) h d
 | .b j::S,h,d=>by
  unfold mq at h;show if id=j then dd F n P Q S .normal a w else dd F n P Q S (.exit id) a w
  split at h
  ·cases h
  ·rename_i g;rw[ALifn (λe=>by rw[e,Xy] at g;cases g)];exact qW h d
theorem gU: ∀{S:List It},Q .ret a w→dd F n P Q S .ret a w
 | [],h=>h
 | .c _::S,h=>gU (S:=S) h
 | .b _::S,h=>gU (S:=S) h
 | .x _::S,h=>gU (S:=S) h
theorem dD: ∀(m:Nat) (S:List It),dd F n P Q (dg m S) .normal a w→dd F n P Q S .normal a w
 | 0,_,h=>h
 | m+1,S,h=>by
  unfold dg at h
  split at h
  ·exact wpIn_seq (dD m _ h)
  ·exact wpIn_block (dD m _ h)
  ·exact wpIn_skip (dD m _ h)
  ·exact wpIn_label (dD m _ h)
  ·rename_i b;exact(dD m b h:dd F n P Q b .normal a w)
  ·rename_i c b;exact wpIn_exit (dD m (.x c::b) h:dd F n P Q b (.exit c) a w)
  ·split at h
   ·rename_i d;exact tV d (dD m _ h)
   ·exact h
  ·exact h
end
structure Go (F:Fence) (n:Nat) (P:Program) (R:List Nat) (base:World) (Q:Exit→Act→World→Prop) (S:List It) (a:Sl) (L:aj) (Ds:List Nat):Prop where
 out: ∀b W,Fr a Ds b→aE R base (L++Ds.map mk) W→dd F n P Q S .normal b W
def Wo(S:List It):It:=match nf S with | x::_=>x | []=> .b 0
def bQ(S:List It):List It:=match nf S with | _::S=>S | []=>[]
def aw(S:List It):List Oper:=match nf S with | .c (.region _ L _)::_=>L.toList | _=>[]
def eR(S:List It):Bool:=match nf S with | .c (.region _ _ d)::_=>d | _=>false
def lP(S:List It):Bool:=match nf S with | .c (.region _ _ _)::_=>true | _=>false
def kM(a:Sl)(S:List It):Option Bool:=match nf S with
 | .c (.cond c _ _)::_=>(match a.ev c with | .bool E=>some E | _=>none)
 | _=>none
def kN(a:Sl)(S:List It):Bool:=match nf S with
 | .c (.cond (.tmp i) _ _)::_=>a.kn i
 | _=>true
def m6(S:List It):List It:=match nf S with | .c (.cond _ x _)::S=> .c x::S | _=>[]
def m7(S:List It):List It:=match nf S with | .c (.cond _ _ y)::S=> .c y::S | _=>[]
def fU(S:List It):Code:=match nf S with | .c (.loop x)::_=>x | _=> .skip
def m8(S:List It):Bool:=match nf S with | .c (.loop _)::_=>true | _=>false
def eu:List Nat→Fe→Fe
 | [],e=>e
 | d::ds,e=>eu ds (e.filter λx=> !Xm x.1 d)
def mv(L:List Oper)(e b:Fe)(dr:List Nat):Bool:=L.all λo=>match o.dst with
 | none=>true
 | some d=>(lk b d).isSome||dr.contains d||(lk e d).isNone
def kO(L:List Oper)(a:Sl)(t:dS)(η:bD)(i:Nat):Option Value:=match fD i L 0 with
 | some j=>(match Xx i a.sz&&(t.cds j).all λc=>qE c.2 (t.vs η c.1) with
  | true=>some (t.vs η j)
  | false=>none)
 | none=>none
theorem pK{e b:Fe}{i:Nat}:lk (e++b) i=match lk e i with | some v=>some v | none=>lk b i:=by
 induction e with
 | nil=>rfl
 | cons x r ih=>
  obtain⟨j,v⟩:=x;show(match Xm j i with | true=>some v | false=>lk (r++b) i)=match (match Xm j i with | true=>some v | false=>lk r i) with | some v=>some v | none=>lk b i
  cases Xm j i
  ·exact ih
  ·rfl
theorem xi{p:Nat→Bool}: ∀{e:Fe} {i:Nat},lk (e.filter λx=>p x.1) i=if p i then lk e i else none
 | [],i=>by split<;>rfl
 | (j,v)::r,i=>by
  rw[List.filter_cons];have ih:=xi (p:=p) (e:=r) (i:=i);by_cases c:j=i
  ·subst c;cases d:p j with
   | true=>simp [lk]
   | false=>
    rw[d] at ih;simp only[XE,if_false] at ih⊢;exact ih
  ·have b:Xm j i=false:=by
    cases h:Xm j i with
    | false=>rfl
    | true=>exact absurd (W5 h) c
   cases d:p j with
   | true=>simp only[if_true,lk,b,ih]
   | false=>simp only[XE,if_false,lk,b,ih]
theorem Bg: ∀{ds:List Nat} {e:Fe} {i:Nat} {v:Value},lk (eu ds e) i=some v→lk e i=some v∧i∉ds
 | [],_,_,_,h=>⟨h,by simp⟩
 | d::ds,e,i,v,h=>by
  obtain⟨b,g⟩:=Bg (ds:=ds) h;rw[xi (p:=λi=> !Xm i d)] at b
  split at b
  ·rename_i j;refine⟨b,λc=>?_⟩;rcases List.mem_cons.1 c with rfl | c
   ·simp [Xy] at j
   ·exact g c
  ·cases b
theorem Bh{e:Fe}{i:Nat}{v:Value}(h:lk e i=some v):(i,v)∈e:=by
 induction e with
 | nil=>cases h
 | cons x r ih=>
  obtain⟨j,u⟩:=x;unfold lk at h
  split at h
  ·rename_i b;cases h;rw[W5 b];exact Yc
  ·exact X1 _ (ih h)
theorem Bi{xs:Nat→Value}: ∀(l:List Oper) (k:Nat) (b:Act),(br xs l k b).tmps.size=b.tmps.size
 | [],_,_=>rfl
 | o::os,k,b=>by rw[br,Bi os,wE]
theorem Bj(b:Act)(x:Option Tmp)(v:Value):(b.put x v).defers=b.defers:=by cases x<;>rfl
theorem Bl{xs:Nat→Value}: ∀(l:List Oper) (k:Nat) (b:Act),(br xs l k b).defers=b.defers
 | [],_,_=>rfl
 | o::os,k,b=>by rw[br,Bl os,Bj]
section
variable {F:Fence} {n:Nat} {P:Program} {R:List Nat} {base:World} {Q:Exit→Act→World→Prop} {S:List It} {a:Sl} {sz:Nat} {es:Fe} {L:aj} {Ds:List Nat}
def kq(S:List It)(a:Sl)(b:aj)(hs:bD→List (Nat×b8 P))(η:bD):List (b4 P):=qV (aw S) a (jz (eR S) (aw S)) η (aw S) (hs η) 0 [] (λp=>b[p]?) b.length
def tR(S:List It)(a:Sl)(b:aj)(m:Nat)(hs:bD→List (Nat×b8 P)):dS:=tj (aw S) a (jz (eR S) (aw S)) (qC (aw S) []) b m (kq S a b hs)
abbrev mR(Le:bD→aj→aj)(L:aj):Nat:=(Le (λ_=>ab.zero) L).length
theorem Bm(h:lP S=true): ∃id d,nf S= .c (.region id (aw S).toArray d)::bQ S∧eR S=d:=by
 unfold lP at h;unfold aw bQ eR
 split at h
 ·rename_i id b d g e;rw[e];exact⟨id,d,rfl,rfl⟩
 ·cases h
theorem Jl{b:Bool}{v:Value}(h:qE b v=true):v= .bool b:=by
 unfold qE at h
 split at h
 ·rw[eq_of_beq h]
 ·cases h
theorem Fr.region{b:Act}(r:Fr a Ds b){LL:List Oper}{t:dS}{η:bD}{xs:Nat→Value}{e:Fe}{dr:List Nat}(N: ∀i,i<LL.length→t.Is η i (xs i))(I:e.map (λx=>kO LL a t η x.1)=e.map λx=>some x.2)(H:mv LL a.e e dr=true):
  Fr ⟨a.sz,e++eu dr a.e⟩ Ds (br xs LL 0 b):=by
 refine⟨(Bi _ _ _).trans r.size,λi v h=>?_,(Bl _ _ _).trans r.defers⟩;have B:=ta (xs:=xs) i LL 0 b;show(br xs LL 0 b).eval (.tmp i)=v;rw[B];simp only[pK] at h;cases m:lk e i with
 | some u=>
  rw[m] at h;cases h;have J:=Bh m;have d:kO LL a t η i=some v:=by
   obtain⟨q,M,D⟩:=X7 J;have:=ALca (λz=>z[q]?) I;simpa [M,D] using this
  unfold kO at d;cases l:fD i LL 0 with
  | none=>rw[l] at d;cases d
  | some j=>
   rw[l] at d;simp only at d⊢
   split at d
   ·rename_i y;rw[WS] at y;rw[r.size,ALifp (Xw▸y.1)];cases d;rcases N j (At l) with⟨_,g⟩ | ⟨g,_⟩
    ·exact g
    ·exact absurd (λc A=>Jl (List.all_eq_true.1 y.2 c A)) g
   ·cases d
 | none=>
  rw[m] at h;simp only at h;obtain⟨g,G⟩:=Bg h;cases l:fD i LL 0 with
  | none=>exact r.get i v g
  | some j=>
   exfalso;have k:=(tm l).2;rw[Xq] at k;cases C:LL[j]? with
   | none=>rw[C] at k;cases k
   | some o=>
    rw[C] at k;have s:=List.all_eq_true.1 H o (X2 C);rw[show o.dst=some i from k] at s;simp only[m,g,Option.isSome_none,Option.isNone_some,Bool.or_false,XF] at s;exact G (by simpa using s)
theorem rr[hF:km F](hs:bD→List (Nat×b8 P))(e:bD→Fe)(dr:List Nat)(Le:bD→aj→aj)(C: ∀η,Go F n P R base Q (bQ S) ⟨sz,e η++eu dr es⟩ (Le η L) Ds)
  (D:P.follows .mixedOrders=true:=by kernel_rfl)
  (c: ∀η,(lP S,(fh (aw S) ⟨sz,es⟩ (tR S ⟨sz,es⟩ L (mR Le L) hs) η 0 (aw S) (kq S ⟨sz,es⟩ L hs η)).map a9.lhs,mi (eR S) (aw S) (λk=>(jz (eR S) (aw S)).getD k []),(WV (mR Le L)).map (λp=>(tR S ⟨sz,es⟩ L (mR Le L) hs).at η p (aw S).length),(e η).map (λx=>kO (aw S) ⟨sz,es⟩ (tR S ⟨sz,es⟩ L (mR Le L) hs) η x.1),mv (aw S) es (e η) dr)=
   (true,(fh (aw S) ⟨sz,es⟩ (tR S ⟨sz,es⟩ L (mR Le L) hs) η 0 (aw S) (kq S ⟨sz,es⟩ L hs η)).map a9.rhs,true,(Le η L).map some,(e η).map (λx=>some x.2),true):=by intro _;kernel_rfl):Go F n P R base Q S ⟨sz,es⟩ L Ds:=by
 have i:=ALca (λx=>x.1) (c λ_=>ab.zero);have j:=λη=>ALca (λx=>x.2.1) (c η);have l:=ALca (λx=>x.2.2.1) (c λ_=>ab.zero);have m:=λη=>ALca (λx=>x.2.2.2.1) (c η);have o:=λη=>ALca (λx=>x.2.2.2.2.1) (c η);have q:=λη=>ALca (λx=>x.2.2.2.2.2) (c η);simp only at i j l m o q;obtain⟨H,d,A,B⟩:=Bm i;subst B;refine⟨λb W r z=>dD 1000 S ?_⟩;rw[show dg 1000 S=_ from A];show(Code.region H (aw S).toArray (eR S)).wpIn F n P (dd F n P Q (bQ S)) b W;obtain⟨y,s,u⟩:=z.seg;refine Ho (t:=tR S ⟨sz,es⟩ L (mR Le L) hs) (R:=y) (base:=W) D (Av r j) hF.free l u (λη=>Le η L) m ?_;intro η xs I G g;exact(C η).out _ _ (r.region G (o η) (q η)) (s.out.whole g.out)
end
end
section
open Go Go.RowKit Go.Shelf
section
variable {F:Fence} {n:Nat} {P:Program} {R:List Nat} {base:World} {Q:Exit→Act→World→Prop} {S:List It} {a:Sl} {sz:Nat} {es:Fe} {L:aj} {Ds:List Nat}
abbrev i6(x:Int):Value:= .int .i64 x
abbrev u6(x:Int):Value:= .int .u64 x
abbrev u1(x:Int):Value:= .int .u8 x
abbrev pt(g o:Nat):Value:= .pointer (some ⟨g,o,none⟩)
abbrev iN(n:Nat):Value:=i6 (n:Int)
abbrev N0.{u,v} {α:Type u} {β:Type v}:α→List β:=λ_=>[]
theorem Jm{α:Type}{xs ys:List α}{n:Nat}{b:Bool}(h1:xs.length=n)(h2:ys.length=n):(bif b then xs else ys).length=n:=by cases b;exact h2;exact h1
theorem Bn{E:Bool}(h:kM a S=some E)(g:kN a S=true): ∃c x y d,nf S= .c (.cond c x y)::d∧m6 S= .c x::d∧m7 S= .c y::d∧(∀{b:Act},Fr a Ds b→b.eval c= .bool E):=by
 unfold kM at h;unfold kN at g;unfold m6 m7
 split at h
 ·rename_i c x y d e;rw[e] at g⊢
  split at h
  ·rename_i m j;cases h;refine⟨c,x,y,d,rfl,rfl,rfl,λ{b} k=>?_⟩;rw[k.ev λi l=>by subst l;exact g];exact j
  ·cases h
 ·cases h
theorem cB(E:Bool)(ht:E=true→Go F n P R base Q (m6 S) ⟨sz,es⟩ L Ds)(hf:E=false→Go F n P R base Q (m7 S) ⟨sz,es⟩ L Ds)(i:(kM ⟨sz,es⟩ S,kN ⟨sz,es⟩ S)=(some E,true):=by kernel_rfl):Go F n P R base Q S ⟨sz,es⟩ L Ds:=by
 obtain⟨c,x,y,o,j,k,l,m⟩:=Bn (Ds:=Ds) (ALca (·.1) i) (ALca (·.2) i);refine⟨λb W d g=>dD 1000 S ?_⟩;rw[show dg 1000 S=_ from j];exact wpIn_cond_split (m d) (λe=>by have:=(ht e).out b W d g;rw[k] at this;exact this) (λe=>by have:=(hf e).out b W d g;rw[l] at this;exact this)
theorem cT(E:Bool)(b:E=true)(ht:Go F n P R base Q (m6 S) ⟨sz,es⟩ L Ds)(c:(kM ⟨sz,es⟩ S,kN ⟨sz,es⟩ S)=(some E,true):=by kernel_rfl):Go F n P R base Q S ⟨sz,es⟩ L Ds:=cB E (λ_=>ht) (λh=>by rw[b] at h;cases h) c
theorem cF(E:Bool)(b:E=false)(hf:Go F n P R base Q (m7 S) ⟨sz,es⟩ L Ds)(c:(kM ⟨sz,es⟩ S,kN ⟨sz,es⟩ S)=(some E,true):=by kernel_rfl):Go F n P R base Q S ⟨sz,es⟩ L Ds:=cB E (λh=>by rw[b] at h;cases h) (λ_=>hf) c
theorem bW(x y:Int)(ht:(decide (x<y))=true→x<y→Go F n P R base Q (m6 S) ⟨sz,es⟩ L Ds)(hf:(decide (x<y))=false→y≤x→Go F n P R base Q (m7 S) ⟨sz,es⟩ L Ds)(b:(kM ⟨sz,es⟩ S,kN ⟨sz,es⟩ S)=(some (decide (x<y)),true):=by kernel_rfl):Go F n P R base Q S ⟨sz,es⟩ L Ds:=
 cB _ (λh=>ht h (of_decide_eq_true h)) (λh=>hf h (Int.not_lt.1 (of_decide_eq_false h))) b
theorem oN(x y:Int)(ht:(decide (x≤y))=true→x≤y→Go F n P R base Q (m6 S) ⟨sz,es⟩ L Ds)(hf:(decide (x≤y))=false→y<x→Go F n P R base Q (m7 S) ⟨sz,es⟩ L Ds)(b:(kM ⟨sz,es⟩ S,kN ⟨sz,es⟩ S)=(some (decide (x≤y)),true):=by kernel_rfl):Go F n P R base Q S ⟨sz,es⟩ L Ds:=
 cB _ (λh=>ht h (of_decide_eq_true h)) (λh=>hf h (Int.not_le.1 (of_decide_eq_false h))) b
theorem cN(x y:Int)(ht:(x==y)=true→x=y→Go F n P R base Q (m6 S) ⟨sz,es⟩ L Ds)(hf:(x==y)=false→x≠y→Go F n P R base Q (m7 S) ⟨sz,es⟩ L Ds)(b:(kM ⟨sz,es⟩ S,kN ⟨sz,es⟩ S)=(some (x==y),true):=by kernel_rfl):Go F n P R base Q S ⟨sz,es⟩ L Ds:=
 cB _ (λh=>ht h (eq_of_beq h)) (λh=>hf h (ne_of_beq_false h)) b
theorem m9(x y:Int)(ht:(!(x==y))=true→x≠y→Go F n P R base Q (m6 S) ⟨sz,es⟩ L Ds)(hf:(!(x==y))=false→x=y→Go F n P R base Q (m7 S) ⟨sz,es⟩ L Ds)(b:(kM ⟨sz,es⟩ S,kN ⟨sz,es⟩ S)=(some (!(x==y)),true):=by kernel_rfl):Go F n P R base Q S ⟨sz,es⟩ L Ds:=
 cB _ (λh=>ht h (λe=>by subst e;simp at h)) (λh=>hf h (by simpa using h)) b
theorem Fr.told{b:Act}(d:Fr a Ds b){c:Fe}(g:(c.map λx=>lk a.e x.1)=c.map λx=>some x.2):Fr ⟨a.sz,c⟩ Ds b:=by
 refine⟨d.size,λi v h=>?_,d.defers⟩;obtain⟨q,j,e⟩:=X7 (Bh h);have:=ALca (λz=>z[q]?) g;exact d.get i v (by simpa [j,e] using this)
theorem aE.under{L':aj}{W:World}(e:aE R base (L++Ds.map mk) W)(h: ∀{b:List Nat},aE b W L W→aE b W L' W):aE R base (L'++Ds.map mk) W:=by
 obtain⟨b,c,d⟩:=e.seg;exact c.out.whole (h d.out)
theorem cl(L':aj)(b:L=L')(c:Go F n P R base Q S ⟨sz,es⟩ L' Ds):Go F n P R base Q S ⟨sz,es⟩ L Ds:=by subst b;exact c
theorem cw(k:Nat)(x y:aA)(h: ∀bs,x.sat bs→y.sat bs)(e:Go F n P R base Q S ⟨sz,es⟩ (L.set k y) Ds)(i:L[k]? =some x:=by kernel_rfl):Go F n P R base Q S ⟨sz,es⟩ L Ds:=
 ⟨λb W d c=>e.out b W d (c.under λg=>g.weak k i h)⟩
theorem ck(k:Nat)(T:ay→Prop)(m: ∀bs,T bs→Go F n P R base Q S ⟨sz,es⟩ (L.set k (.c bs)) Ds)(h:L[k]? =some (.p T):=by kernel_rfl):Go F n P R base Q S ⟨sz,es⟩ L Ds:=by
 refine⟨λb W l i=>?_⟩;obtain⟨o,d,e⟩:=i.seg;obtain⟨bs,j,g⟩:=e.out.open k h;exact(m bs j).out b W l (d.out.whole g)
theorem cn{α:Type}(en:α→List Value)(z:List Value)(T:TypeId)(e:Go F n P R base Q S ⟨sz,es⟩ (L++[.p (aq en z T (.slice none 0 0) ([]:List α))]) Ds):Go F n P R base Q S ⟨sz,es⟩ L Ds:=
 ⟨λb W d c=>e.out b W d (c.under λh=>h.nilS en z T)⟩
end
def xj:List Oper→List Nat
 | []=>[]
 | o::os=>match o.dst with
  | some d=>d::xj os
  | none=>xj os
def kr:Code→List Nat
 | .region _ L _=>xj L.toList
 | .seq x y=>kr x++kr y
 | .cond _ x y=>kr x++kr y
 | .block _ x=>kr x
 | .loop x=>kr x
 | .scope x=>kr x
 | .rangeFunc _ b x y=>b.toList++(kr x++kr y)
 | _=>[]
def iF(S:List It)(e:Fe):Fe:=(λb=>e.filter λx=> !Yw b (Xm x.1)) (kr (fU S))
section
variable (F:Fence) (n:Nat) (P:Program) (R:List Nat) (base:World) {κ:Type}
def Bo(I:κ→Prop)(e:κ→Fe)(L:κ→aj)(D:κ→List Nat)(m:κ→Nat)(sz:Nat)(st:Fe)(j:Nat)(b:Act)(W:World):Prop:=∃k,I k∧m k<j∧Fr ⟨sz,e k++st⟩ (D k) b∧aE R base (L k++(D k).map mk) W
def qX(Q:Exit→Act→World→Prop)(S:List It)(I:κ→Prop)(e:κ→Fe)(L:κ→aj)(D:κ→List Nat)(m:κ→Nat)(sz:Nat)(st:Fe)(j:Nat):Exit→Act→World→Prop
 | .normal,b,W=>Bo R base I e L D m sz st j b W
 | e,b,W=>dd F n P Q S e b W
end
section
variable {F:Fence} {n:Nat} {P:Program} {R:List Nat} {base:World} {Q:Exit→Act→World→Prop} {S:List It} {a:Sl} {sz:Nat} {es:Fe} {L:aj} {Ds:List Nat} {κ:Type}
theorem kP{J:Nat→Prop}(h: ∃j,J j): ∃j,J j∧∀i,i<j→¬J i:=by
 classical
 obtain⟨j,k⟩:=h
 induction j using Yr with
 | _ j ih=>
  by_cases b: ∃i,i<j∧J i
  ·obtain⟨i,c,d⟩:=b;exact ih i c d
  ·exact⟨j,k,λi g e=>b ⟨i,g,e⟩⟩
theorem tX(h:m8 S=true):nf S= .c (.loop (fU S))::bQ S:=by
 unfold m8 at h;unfold fU bQ
 split at h
 ·rename_i x b e;rw[e]
 ·cases h
theorem Fr.stay{b:Act}(d:Fr a Ds b){c:Fe}(j:(c.map λx=>lk a.e x.1)=c.map λx=>some x.2):Fr ⟨a.sz,c++iF S a.e⟩ Ds b:=by
 have g:=d.told j;refine⟨d.size,λi v h=>?_,d.defers⟩;simp only[pK] at h;cases e:lk c i with
 | none=>
  rw[e] at h;simp only at h;unfold iF at h;rw[xi (p:=λi=> !Yw (kr (fU S)) (Xm i))] at h
  split at h
  ·exact d.get i v h
  ·cases h
 | some u=>rw[e] at h;cases h;exact g.get i v e
theorem lp(I:κ→Prop)(e:κ→Fe)(g:κ→aj)(D:κ→List Nat)(m:κ→Nat)(d:κ)(h0:I d)(l:((e d).map λx=>lk es x.1)=(e d).map λx=>some x.2)(z:L=g d)(u:Ds=D d)
  (N: ∀k,I k→Go F n P R base (qX F n P R base Q (bQ S) I e g D m sz (iF S es) (m k)) [.c (fU S)] ⟨sz,e k++iF S es⟩ (g k) (D k)) (A:m8 S=true):Go F n P R base Q S ⟨sz,es⟩ L Ds:=by
 classical
 subst z u;refine⟨λb W B q=>dD 1000 S ?_⟩;rw[show dg 1000 S=_ from tX A];show(Code.loop (fU S)).wpIn F n P (dd F n P Q (bQ S)) b W
 let J:Nat→Act→World→Prop:=Bo R base I e g D m sz (iF S es)
 let μ:Act→World→Nat:=λb W=>if h: ∃j,J j b W then Xr (kP h) else 0
 have t: ∀b W,(∃j,J j b W)→J (μ b W) b W∧∀i,i<μ b W→¬J i b W:=by
  intro b W h;have e:μ b W=Xr (kP h):=dif_pos h;rw[e];exact XS (kP h)
 refine wpIn_loop (λb W=>∃j,J j b W) μ ⟨m d+1,d,h0,Yo _,Fr.stay (a:=⟨sz,es⟩) B l,q⟩ λb W y=>?_;obtain⟨k,G,M,C,q⟩:=(t b W y).1;refine wpIn_mono (show(fU S).wpIn F n P _ b W from(N k G).out b W C q) λe s r l=>?_;cases e with
 | normal=>
  have o:J (m k) s r:=l;exact⟨⟨_,o⟩,XH (XN λH=>(t s r ⟨_,o⟩).2 _ H o) M⟩
 | _=>exact l
def jd(S c:List It):Option (List It):=match nf S with
 | .x b::S'=>(match mq b S' with
  | none=>some (.x b::c)
  | some _=>none)
 | _=>none
theorem tY{c:Exit→Act→World→Prop}{d g:List It}{b:Act}{W:World}(h1:jd S d=some g)(j:dd F n P Q g .normal b W)(i: ∀id,c (.exit id) b W=dd F n P Q d (.exit id) b W):dd F n P c S .normal b W:=by
 refine dD 1000 S ?_;unfold jd at h1
 split at h1
 ·rename_i id l e;rw[show dg 1000 S=_ from e]
  split at h1
  ·rename_i k;cases h1;exact qW k (by rw[i];exact j)
  ·cases h1
 ·cases h1
theorem xk{I:κ→Prop}{e:κ→Fe}{k:κ→aj}{D:κ→List Nat}{m:κ→Nat}{c:List It}{d:Nat}{st:Fe}{j:Nat}(i:Go F n P R base Q ((jd S c).getD []) ⟨sz,es⟩ L Ds)(o:(jd S c).isSome=true:=by kernel_rfl):Go F n P R base (qX F n P R base Q c I e k D m d st j) S ⟨sz,es⟩ L Ds:=by
 obtain⟨r,g⟩:=Option.isSome_iff_exists.1 o;rw[g] at i;exact⟨λb W q l=>tY g (i.out b W q l) λ_=>rfl⟩
class Rt (Q:Exit→Act→World→Prop) (Q0:outParam (Exit→Act→World→Prop)):Prop where
 out: ∀b W,Q0 .ret b W→Q .ret b W
instance {Q:Exit→Act→World→Prop}:Rt Q Q:=⟨λ_ _ h=>h⟩
def tZ(F:Fence)(n:Nat)(P:Program)(R:List Nat)(base:World)(Q:Exit→Act→World→Prop)(S:List It)(I:Nat→Prop)(e:Nat→Fe)(c:Nat→aj)(m:Nat→Nat)(b:List Nat)(sz:Nat)(st:Fe)(j:Nat):Exit→Act→World→Prop:=qX (κ:=Nat) F n P R base Q S I e c (λ_=>b) m sz st j
theorem lq(I:Nat→Prop)(e:Nat→Fe)(d:Nat→aj→aj)(m:Nat→Nat)(b:Nat)(h0:I b)(j:((e b).map λx=>lk es x.1)=(e b).map λx=>some x.2)(g:L=d b L)
  (l: ∀(k:Nat),I k→Go F n P R base (tZ F n P R base Q (bQ S) I e (λk=>d k L) m Ds sz (iF S es) (m k)) [.c (fU S)] ⟨sz,e k++iF S es⟩ (d k L) Ds) (i:m8 S=true:=by kernel_rfl):Go F n P R base Q S ⟨sz,es⟩ L Ds:=
 lp (κ:=Nat) I e (λx=>d x L) (λ_=>Ds) m b h0 j g rfl (λx=>l x) i
theorem le{I:Nat→Prop}{e:Nat→Fe}{l:Nat→aj}{m:Nat→Nat}{o:List It}{d:Nat}{st:Fe}{c:List Nat}{j:Nat}(k:Nat)(r:I k)(A:m k<j)(z:((e k++st).map λx=>lk es x.1)=(e k++st).map λx=>some x.2)(i:List Nat)(s:(dc (i.map λp=>[p]).flatten,(i.map λp=>[p]).map λg=>g.map λp=>L[p]?)=(true,((l k).map λx=>[x]).map λN=>N.map some))(u:(nf S).isEmpty=true:=by kernel_rfl)(B:sz=d:=by rfl)(q:Ds=c:=by rfl):
  Go F n P R base (tZ F n P R base Q o I e l m c d st j) S ⟨sz,es⟩ L Ds:=by
 subst B q;refine⟨λb W y t=>dD 1000 S ?_⟩;rw[show dg 1000 S=[] from List.isEmpty_iff.1 u];exact⟨k,r,A,Fr.told (a:=⟨sz,es⟩) y z,t.under λh=>h.pick i _ s⟩
theorem lx{I:Nat→Prop}{e:Nat→Fe}{g:Nat→aj}{m:Nat→Nat}{c:List It}{d:Nat}{st:Fe}{b:List Nat}{j:Nat}(k:Go F n P R base Q ((jd S c).getD []) ⟨sz,es⟩ L Ds)(i:(jd S c).isSome=true:=by kernel_rfl):Go F n P R base (tZ F n P R base Q c I e g m b d st j) S ⟨sz,es⟩ L Ds:=xk k i
instance {F:Fence} {n:Nat} {P:Program} {R:List Nat} {base:World} {Q Q0:Exit→Act→World→Prop} {I:Nat→Prop} {e:Nat→Fe} {LI:Nat→aj} {m:Nat→Nat} {S0:List It} {sz0:Nat} {st:Fe} {Ds0:List Nat} {j:Nat} [h:Rt Q Q0]:Rt (tZ F n P R base Q S0 I e LI m Ds0 sz0 st j) Q0:=⟨λb W hq=>gU (S:=S0) (h.out b W hq)⟩
def ua(F:Fence)(n:Nat)(P:Program)(R:List Nat)(base:World)(Q:Exit→Act→World→Prop)(S:List It)(I:Nat→Value→Prop)(e:Nat→Value→Fe)(c:Nat→Value→aj)(m:Nat→Value→Nat)(b:List Nat)(sz:Nat)(st:Fe)(j:Nat):Exit→Act→World→Prop:=qX (κ:=Nat×Value) F n P R base Q S (λx=>I x.1 x.2) (λx=>e x.1 x.2) (λx=>c x.1 x.2) (λ_=>b) (λx=>m x.1 x.2) sz st j
theorem mw(I:Nat→Value→Prop)(e:Nat→Value→Fe)(g:Nat→Value→aj→aj)(m:Nat→Value→Nat)(b:Nat)(d:Value)(h0:I b d)(l:((e b d).map λx=>lk es x.1)=(e b d).map λx=>some x.2)(i:L=g b d L)
  (o: ∀(k:Nat) (u:Value),I k u→Go F n P R base (ua F n P R base Q (bQ S) I e (λk u=>g k u L) m Ds sz (iF S es) (m k u)) [.c (fU S)] ⟨sz,e k u++iF S es⟩ (g k u L) Ds) (j:m8 S=true:=by kernel_rfl):Go F n P R base Q S ⟨sz,es⟩ L Ds:=
 lp (κ:=Nat×Value) (λx=>I x.1 x.2) (λx=>e x.1 x.2) (λx=>g x.1 x.2 L) (λ_=>Ds) (λx=>m x.1 x.2) (b,d) h0 l i rfl (λx=>o x.1 x.2) j
theorem kQ{I:Nat→Value→Prop}{e:Nat→Value→Fe}{l:Nat→Value→aj}{m:Nat→Value→Nat}{o:List It}{d:Nat}{st:Fe}{c:List Nat}{j:Nat}(k:Nat)(u:Value)(r:I k u)(B:m k u<j)(A:((e k u++st).map λx=>lk es x.1)=(e k u++st).map λx=>some x.2)(i:List Nat)(s:(dc (i.map λp=>[p]).flatten,(i.map λp=>[p]).map λg=>g.map λp=>L[p]?)=(true,((l k u).map λx=>[x]).map λN=>N.map some))(y:(nf S).isEmpty=true:=by kernel_rfl)(C:sz=d:=by rfl)(q:Ds=c:=by rfl):
  Go F n P R base (ua F n P R base Q o I e l m c d st j) S ⟨sz,es⟩ L Ds:=by
 subst C q;refine⟨λb W z t=>dD 1000 S ?_⟩;rw[show dg 1000 S=[] from List.isEmpty_iff.1 y];exact⟨(k,u),r,B,Fr.told (a:=⟨sz,es⟩) z A,t.under λh=>h.pick i _ s⟩
theorem kR{I:Nat→Value→Prop}{e:Nat→Value→Fe}{g:Nat→Value→aj}{m:Nat→Value→Nat}{c:List It}{d:Nat}{st:Fe}{b:List Nat}{j:Nat}(k:Go F n P R base Q ((jd S c).getD []) ⟨sz,es⟩ L Ds)(i:(jd S c).isSome=true:=by kernel_rfl):Go F n P R base (ua F n P R base Q c I e g m b d st j) S ⟨sz,es⟩ L Ds:=xk k i
instance {F:Fence} {n:Nat} {P:Program} {R:List Nat} {base:World} {Q Q0:Exit→Act→World→Prop} {I:Nat→Value→Prop} {e:Nat→Value→Fe} {LI:Nat→Value→aj} {m:Nat→Value→Nat} {S0:List It} {sz0:Nat} {st:Fe} {Ds0:List Nat} {j:Nat} [h:Rt Q Q0]:Rt (ua F n P R base Q S0 I e LI m Ds0 sz0 st j) Q0:=⟨λb W hq=>gU (S:=S0) (h.out b W hq)⟩
def WC(F:Fence)(n:Nat)(P:Program)(R:List Nat)(base:World)(Q:Exit→Act→World→Prop)(S:List It)(I:Nat→Value→Value→Prop)(e:Nat→Value→Value→Fe)(c:Nat→Value→Value→aj)(m:Nat→Value→Value→Nat)(b:List Nat)(sz:Nat)(st:Fe)(j:Nat):Exit→Act→World→Prop:=qX (κ:=Nat×Value×Value) F n P R base Q S (λx=>I x.1 x.2.1 x.2.2) (λx=>e x.1 x.2.1 x.2.2) (λx=>c x.1 x.2.1 x.2.2) (λ_=>b) (λx=>m x.1 x.2.1 x.2.2) sz st j
instance {F:Fence} {n:Nat} {P:Program} {R:List Nat} {base:World} {Q Q0:Exit→Act→World→Prop} {I:Nat→Value→Value→Prop} {e:Nat→Value→Value→Fe} {LI:Nat→Value→Value→aj} {m:Nat→Value→Value→Nat} {S0:List It} {sz0:Nat} {st:Fe} {Ds0:List Nat} {j:Nat} [h:Rt Q Q0]:Rt (WC F n P R base Q S0 I e LI m Ds0 sz0 st j) Q0:=⟨λb W hq=>gU (S:=S0) (h.out b W hq)⟩
def WD(F:Fence)(n:Nat)(P:Program)(R:List Nat)(base:World)(Q:Exit→Act→World→Prop)(S:List It)(I:Nat→Value→Value→Value→Prop)(e:Nat→Value→Value→Value→Fe)(c:Nat→Value→Value→Value→aj)(m:Nat→Value→Value→Value→Nat)(b:List Nat)(sz:Nat)(st:Fe)(j:Nat):Exit→Act→World→Prop:=qX (κ:=Nat×Value×Value×Value) F n P R base Q S (λx=>I x.1 x.2.1 x.2.2.1 x.2.2.2) (λx=>e x.1 x.2.1 x.2.2.1 x.2.2.2) (λx=>c x.1 x.2.1 x.2.2.1 x.2.2.2) (λ_=>b) (λx=>m x.1 x.2.1 x.2.2.1 x.2.2.2) sz st j
instance {F:Fence} {n:Nat} {P:Program} {R:List Nat} {base:World} {Q Q0:Exit→Act→World→Prop} {I:Nat→Value→Value→Value→Prop} {e:Nat→Value→Value→Value→Fe} {LI:Nat→Value→Value→Value→aj} {m:Nat→Value→Value→Value→Nat} {S0:List It} {sz0:Nat} {st:Fe} {Ds0:List Nat} {j:Nat} [h:Rt Q Q0]:Rt (WD F n P R base Q S0 I e LI m Ds0 sz0 st j) Q0:=⟨λb W hq=>gU (S:=S0) (h.out b W hq)⟩
def WE(F:Fence)(n:Nat)(P:Program)(R:List Nat)(base:World)(Q:Exit→Act→World→Prop)(S:List It)(I:Nat→List Nat→Prop)(e:Nat→List Nat→Fe)(b:Nat→List Nat→aj)(m:Nat→List Nat→Nat)(sz:Nat)(st:Fe)(j:Nat):Exit→Act→World→Prop:=qX (κ:=Nat×List Nat) F n P R base Q S (λx=>I x.1 x.2) (λx=>e x.1 x.2) (λx=>b x.1 x.2) (λx=>x.2) (λx=>m x.1 x.2) sz st j
instance {F:Fence} {n:Nat} {P:Program} {R:List Nat} {base:World} {Q Q0:Exit→Act→World→Prop} {I:Nat→List Nat→Prop} {e:Nat→List Nat→Fe} {LI:Nat→List Nat→aj} {m:Nat→List Nat→Nat} {S0:List It} {sz0:Nat} {st:Fe} {j:Nat} [h:Rt Q Q0]:Rt (WE F n P R base Q S0 I e LI m sz0 st j) Q0:=⟨λb W hq=>gU (S:=S0) (h.out b W hq)⟩
def ub(F:Fence)(n:Nat)(P:Program)(R:List Nat)(base:World)(Q:Exit→Act→World→Prop)(S:List It)(I:Nat→Value→List Nat→Prop)(e:Nat→Value→List Nat→Fe)(b:Nat→Value→List Nat→aj)(m:Nat→Value→List Nat→Nat)(sz:Nat)(st:Fe)(j:Nat):Exit→Act→World→Prop:=qX (κ:=Nat×Value×List Nat) F n P R base Q S (λx=>I x.1 x.2.1 x.2.2) (λx=>e x.1 x.2.1 x.2.2) (λx=>b x.1 x.2.1 x.2.2) (λx=>x.2.2) (λx=>m x.1 x.2.1 x.2.2) sz st j
theorem Bp(I:Nat→Value→List Nat→Prop)(e:Nat→Value→List Nat→Fe)(i:Nat→Value→List Nat→aj→aj)(m:Nat→Value→List Nat→Nat)(d:Nat)(g:Value)(b:List Nat)(h0:I d g b)(q:((e d g b).map λx=>lk es x.1)=(e d g b).map λx=>some x.2)(l:L=i d g b L)(j:Ds=b)
  (r: ∀(k:Nat) (u:Value) (E:List Nat),I k u E→Go F n P R base (ub F n P R base Q (bQ S) I e (λk u E=>i k u E L) m sz (iF S es) (m k u E)) [.c (fU S)] ⟨sz,e k u E++iF S es⟩ (i k u E L) E) (o:m8 S=true:=by kernel_rfl):Go F n P R base Q S ⟨sz,es⟩ L Ds:=
 lp (κ:=Nat×Value×List Nat) (λx=>I x.1 x.2.1 x.2.2) (λx=>e x.1 x.2.1 x.2.2) (λx=>i x.1 x.2.1 x.2.2 L) (λx=>x.2.2) (λx=>m x.1 x.2.1 x.2.2) (d,g,b) h0 q l j (λx=>r x.1 x.2.1 x.2.2) o
theorem uc{I:Nat→Value→List Nat→Prop}{e:Nat→Value→List Nat→Fe}{i:Nat→Value→List Nat→aj}{m:Nat→Value→List Nat→Nat}{l:List It}{c:Nat}{st:Fe}{j:Nat}(k:Nat)(u:Value)(E:List Nat)(q:I k u E)(A:m k u E<j)(z:((e k u E++st).map λx=>lk es x.1)=(e k u E++st).map λx=>some x.2)(d:List Nat)(r:(dc (d.map λp=>[p]).flatten,(d.map λp=>[p]).map λg=>g.map λp=>L[p]?)=(true,((i k u E).map λx=>[x]).map λN=>N.map some))(t:(nf S).isEmpty=true:=by kernel_rfl)(B:sz=c:=by rfl)(o:Ds=E:=by rfl):
  Go F n P R base (ub F n P R base Q l I e i m c st j) S ⟨sz,es⟩ L Ds:=by
 subst B o;refine⟨λb W y s=>dD 1000 S ?_⟩;rw[show dg 1000 S=[] from List.isEmpty_iff.1 t];exact⟨(k,u,Ds),q,A,Fr.told (a:=⟨sz,es⟩) y z,s.under λh=>h.pick d _ r⟩
theorem Bq{I:Nat→Value→List Nat→Prop}{e:Nat→Value→List Nat→Fe}{d:Nat→Value→List Nat→aj}{m:Nat→Value→List Nat→Nat}{b:List It}{c:Nat}{st:Fe}{j:Nat}(i:Go F n P R base Q ((jd S b).getD []) ⟨sz,es⟩ L Ds)(g:(jd S b).isSome=true:=by kernel_rfl):Go F n P R base (ub F n P R base Q b I e d m c st j) S ⟨sz,es⟩ L Ds:=xk i g
instance {F:Fence} {n:Nat} {P:Program} {R:List Nat} {base:World} {Q Q0:Exit→Act→World→Prop} {I:Nat→Value→List Nat→Prop} {e:Nat→Value→List Nat→Fe} {LI:Nat→Value→List Nat→aj} {m:Nat→Value→List Nat→Nat} {S0:List It} {sz0:Nat} {st:Fe} {j:Nat} [h:Rt Q Q0]:Rt (ub F n P R base Q S0 I e LI m sz0 st j) Q0:=⟨λb W hq=>gU (S:=S0) (h.out b W hq)⟩
def WG(F:Fence)(n:Nat)(P:Program)(R:List Nat)(base:World)(Q:Exit→Act→World→Prop)(S:List It)(I:Nat→Value→Value→List Nat→Prop)(e:Nat→Value→Value→List Nat→Fe)(b:Nat→Value→Value→List Nat→aj)(m:Nat→Value→Value→List Nat→Nat)(sz:Nat)(st:Fe)(j:Nat):Exit→Act→World→Prop:=qX (κ:=Nat×Value×Value×List Nat) F n P R base Q S (λx=>I x.1 x.2.1 x.2.2.1 x.2.2.2) (λx=>e x.1 x.2.1 x.2.2.1 x.2.2.2) (λx=>b x.1 x.2.1 x.2.2.1 x.2.2.2) (λx=>x.2.2.2) (λx=>m x.1 x.2.1 x.2.2.1 x.2.2.2) sz st j
instance {F:Fence} {n:Nat} {P:Program} {R:List Nat} {base:World} {Q Q0:Exit→Act→World→Prop} {I:Nat→Value→Value→List Nat→Prop} {e:Nat→Value→Value→List Nat→Fe} {LI:Nat→Value→Value→List Nat→aj} {m:Nat→Value→Value→List Nat→Nat} {S0:List It} {sz0:Nat} {st:Fe} {j:Nat} [h:Rt Q Q0]:Rt (WG F n P R base Q S0 I e LI m sz0 st j) Q0:=⟨λb W hq=>gU (S:=S0) (h.out b W hq)⟩
end
section
variable {F:Fence} {n:Nat} {P:Program} {R:List Nat} {base:World} {Q:Exit→Act→World→Prop} {S:List It} {a:Sl} {sz:Nat} {es:Fe} {L:aj} {Ds:List Nat}
def jQ(F:Fence)(n:Nat)(P:Program)(R:List Nat)(base:World)(Q:Exit→Act→World→Prop)(S:List It)(c:Sl)(L':aj)(Ds:List Nat):Exit→Act→World→Prop
 | .normal,b,W=>Fr c Ds b∧aE R base (L'++Ds.map mk) W
 | e,b,W=>dd F n P Q S e b W
def ue(S:List It):Code:=match nf S with | .c (.cond _ x _)::_=>x | _=> .skip
def uf(S:List It):Code:=match nf S with | .c (.cond _ _ y)::_=>y | _=> .skip
def xl(S:List It)(e:Fe):Fe:=(λb=>e.filter λx=> !Yw b (Xm x.1)) (kr (ue S)++kr (uf S))
theorem cJ(E:Bool)(l:Bool→Fe)(L':Bool→aj)(ht:E=true→Go F n P R base (jQ F n P R base Q (bQ S) ⟨sz,l true++xl S es⟩ (L' true) Ds) [.c (ue S)] ⟨sz,es⟩ L Ds)(hf:E=false→Go F n P R base (jQ F n P R base Q (bQ S) ⟨sz,l false++xl S es⟩ (L' false) Ds) [.c (uf S)] ⟨sz,es⟩ L Ds)
  (m:Go F n P R base Q (bQ S) ⟨sz,l E++xl S es⟩ (L' E) Ds) (r:(kM ⟨sz,es⟩ S,kN ⟨sz,es⟩ S)=(some E,true):=by kernel_rfl):Go F n P R base Q S ⟨sz,es⟩ L Ds:=by
 obtain⟨c,x,y,s,g,A,B,o⟩:=Bn (Ds:=Ds) (ALca (·.1) r) (ALca (·.2) r);have u:ue S=x:=by unfold ue;rw[g]
 have z:uf S=y:=by unfold uf;rw[g]
 have t:bQ S=s:=by unfold bQ;rw[g]
 rw[u] at ht;rw[z] at hf;rw[t] at ht hf m;refine⟨λb W i q=>dD 1000 S ?_⟩;rw[show dg 1000 S=_ from g];cases E with
 | true=>exact wpIn_cond (o i) (wpIn_mono (show x.wpIn F n P _ b W from(ht rfl).out b W i q) λe k j d=>by
   cases e with
   | normal=>exact m.out k j d.1 d.2
   | _=>exact d)
 | false=>exact wpIn_cond (o i) (wpIn_mono (show y.wpIn F n P _ b W from(hf rfl).out b W i q) λe k j d=>by
   cases e with
   | normal=>exact m.out k j d.1 d.2
   | _=>exact d)
theorem cm{i:List It}{d:Sl}{L':aj}{c:List Nat}(q:(d.e.map λx=>lk es x.1)=d.e.map λx=>some x.2)(e:List Nat)(k:(dc (e.map λp=>[p]).flatten,(e.map λp=>[p]).map λg=>g.map λp=>L[p]?)=(true,(L'.map λx=>[x]).map λN=>N.map some))(m:(nf S).isEmpty=true:=by kernel_rfl)(r:sz=d.sz:=by rfl)(j:Ds=c:=by rfl):Go F n P R base (jQ F n P R base Q i d L' c) S ⟨sz,es⟩ L Ds:=by
 subst j;refine⟨λb W o l=>dD 1000 S ?_⟩;rw[show dg 1000 S=[] from List.isEmpty_iff.1 m];have h:=o.told q;exact⟨⟨h.size.trans r,h.get,h.defers⟩,l.under λh=>h.pick e _ k⟩
theorem r0[hF:km F](hs:List (Nat×b8 P))(b:Fe)(dr:List Nat)(d:Go F n P R base Q (bQ S) ⟨sz,b++eu dr es⟩ L Ds)
 (e:P.follows .mixedOrders=true:=by kernel_rfl)
 (c: ∀η,(lP S,(fh (aw S) ⟨sz,es⟩ (tR S ⟨sz,es⟩ L L.length λ_=>hs) η 0 (aw S) (kq S ⟨sz,es⟩ L (λ_=>hs) η)).map a9.lhs,mi (eR S) (aw S) (λk=>(jz (eR S) (aw S)).getD k []),(WV L.length).map (λp=>(tR S ⟨sz,es⟩ L L.length λ_=>hs).at η p (aw S).length),b.map (λx=>kO (aw S) ⟨sz,es⟩ (tR S ⟨sz,es⟩ L L.length λ_=>hs) η x.1),mv (aw S) es b dr)=
  (true,(fh (aw S) ⟨sz,es⟩ (tR S ⟨sz,es⟩ L L.length λ_=>hs) η 0 (aw S) (kq S ⟨sz,es⟩ L (λ_=>hs) η)).map a9.rhs,true,L.map some,b.map (λx=>some x.2),true):=by intro _;kernel_rfl):Go F n P R base Q S ⟨sz,es⟩ L Ds:=rr (λ_=>hs) (λ_=>b) dr (λ_ L=>L) (λ_=>d) e c
theorem rF[hF:km F](hs:List (Nat×b8 P))(k:Nat)(d:Go F n P R base Q (m7 (bQ S)) ⟨sz,[(k,Value.bool false)]++eu [] es⟩ L Ds)(e:P.follows .mixedOrders=true:=by kernel_rfl)(c: ∀η,(lP S,(fh (aw S) ⟨sz,es⟩ (tR S ⟨sz,es⟩ L L.length λ_=>hs) η 0 (aw S) (kq S ⟨sz,es⟩ L (λ_=>hs) η)).map a9.lhs,mi (eR S) (aw S) (λk=>(jz (eR S) (aw S)).getD k []),(WV L.length).map (λp=>(tR S ⟨sz,es⟩ L L.length λ_=>hs).at η p (aw S).length),[(k,Value.bool false)].map (λx=>kO (aw S) ⟨sz,es⟩ (tR S ⟨sz,es⟩ L L.length λ_=>hs) η x.1),mv (aw S) es [(k,Value.bool false)] [])=(true,(fh (aw S) ⟨sz,es⟩ (tR S ⟨sz,es⟩ L L.length λ_=>hs) η 0 (aw S) (kq S ⟨sz,es⟩ L (λ_=>hs) η)).map a9.rhs,true,L.map some,[(k,Value.bool false)].map (λx=>some x.2),true):=by intro _;kernel_rfl)(b:(kM ⟨sz,[(k,Value.bool false)]++eu [] es⟩ (bQ S),kN ⟨sz,[(k,Value.bool false)]++eu [] es⟩ (bQ S))=(some false,true):=by kernel_rfl):Go F n P R base Q S ⟨sz,es⟩ L Ds:=r0 hs [(k,Value.bool false)] [] (cF false rfl d b) e c
theorem rT[hF:km F](hs:List (Nat×b8 P))(k:Nat)(d:Go F n P R base Q (m6 (bQ S)) ⟨sz,[(k,Value.bool true)]++eu [] es⟩ L Ds)(e:P.follows .mixedOrders=true:=by kernel_rfl)(c: ∀η,(lP S,(fh (aw S) ⟨sz,es⟩ (tR S ⟨sz,es⟩ L L.length λ_=>hs) η 0 (aw S) (kq S ⟨sz,es⟩ L (λ_=>hs) η)).map a9.lhs,mi (eR S) (aw S) (λk=>(jz (eR S) (aw S)).getD k []),(WV L.length).map (λp=>(tR S ⟨sz,es⟩ L L.length λ_=>hs).at η p (aw S).length),[(k,Value.bool true)].map (λx=>kO (aw S) ⟨sz,es⟩ (tR S ⟨sz,es⟩ L L.length λ_=>hs) η x.1),mv (aw S) es [(k,Value.bool true)] [])=(true,(fh (aw S) ⟨sz,es⟩ (tR S ⟨sz,es⟩ L L.length λ_=>hs) η 0 (aw S) (kq S ⟨sz,es⟩ L (λ_=>hs) η)).map a9.rhs,true,L.map some,[(k,Value.bool true)].map (λx=>some x.2),true):=by intro _;kernel_rfl)(b:(kM ⟨sz,[(k,Value.bool true)]++eu [] es⟩ (bQ S),kN ⟨sz,[(k,Value.bool true)]++eu [] es⟩ (bQ S))=(some true,true):=by kernel_rfl):Go F n P R base Q S ⟨sz,es⟩ L Ds:=r0 hs [(k,Value.bool true)] [] (cT true rfl d b) e c
theorem ra[hF:km F](b:bD→Fe)(A:bD→aj)(d: ∀η,Go F n P R base Q (bQ S) ⟨sz,b η++eu [] es⟩ (L++A η) Ds)(e:P.follows .mixedOrders=true:=by kernel_rfl)(c: ∀η,(lP S,(fh (aw S) ⟨sz,es⟩ (tR S ⟨sz,es⟩ L (mR (λη L=>L++A η) L) (λ_=>([]:List (Nat×b8 P)))) η 0 (aw S) (kq S ⟨sz,es⟩ L (λ_=>([]:List (Nat×b8 P))) η)).map a9.lhs,mi (eR S) (aw S) (λk=>(jz (eR S) (aw S)).getD k []),(WV (mR (λη L=>L++A η) L)).map (λp=>(tR S ⟨sz,es⟩ L (mR (λη L=>L++A η) L) (λ_=>([]:List (Nat×b8 P)))).at η p (aw S).length),(b η).map (λx=>kO (aw S) ⟨sz,es⟩ (tR S ⟨sz,es⟩ L (mR (λη L=>L++A η) L) (λ_=>([]:List (Nat×b8 P)))) η x.1),mv (aw S) es (b η) [])=(true,(fh (aw S) ⟨sz,es⟩ (tR S ⟨sz,es⟩ L (mR (λη L=>L++A η) L) (λ_=>([]:List (Nat×b8 P)))) η 0 (aw S) (kq S ⟨sz,es⟩ L (λ_=>([]:List (Nat×b8 P))) η)).map a9.rhs,true,(L++A η).map some,(b η).map (λx=>some x.2),true):=by intro _;kernel_rfl):Go F n P R base Q S ⟨sz,es⟩ L Ds:=rr (λ_=>[]) b [] (λη L=>L++A η) d e c
theorem rs[hF:km F](hs:List (Nat×b8 P))(k:Nat)(X:aA)(c:Go F n P R base Q (bQ S) ⟨sz,[]++eu [] es⟩ (L.set k X) Ds)(d:P.follows .mixedOrders=true:=by kernel_rfl)(b: ∀η,(lP S,(fh (aw S) ⟨sz,es⟩ (tR S ⟨sz,es⟩ L (mR (λ_ L=>L.set k X) L) (λ_=>hs)) η 0 (aw S) (kq S ⟨sz,es⟩ L (λ_=>hs) η)).map a9.lhs,mi (eR S) (aw S) (λk=>(jz (eR S) (aw S)).getD k []),(WV (mR (λ_ L=>L.set k X) L)).map (λp=>(tR S ⟨sz,es⟩ L (mR (λ_ L=>L.set k X) L) (λ_=>hs)).at η p (aw S).length),([]:Fe).map (λx=>kO (aw S) ⟨sz,es⟩ (tR S ⟨sz,es⟩ L (mR (λ_ L=>L.set k X) L) (λ_=>hs)) η x.1),mv (aw S) es ([]:Fe) [])=(true,(fh (aw S) ⟨sz,es⟩ (tR S ⟨sz,es⟩ L (mR (λ_ L=>L.set k X) L) (λ_=>hs)) η 0 (aw S) (kq S ⟨sz,es⟩ L (λ_=>hs) η)).map a9.rhs,true,(L.set k X).map some,([]:Fe).map (λx=>some x.2),true):=by intro _;kernel_rfl):Go F n P R base Q S ⟨sz,es⟩ L Ds:=rr (λ_=>hs) (λ_=>[]) [] (λ_ L=>L.set k X) (λ_=>c) d b
end
def nW:Nat→List Value→Fe
 | _,[]=>[]
 | k,v::r=>(k,v)::nW (k+1) r
theorem qY: ∀{l:List Value} {k i:Nat} {v:Value},lk (nW k l) i=some v→k≤i∧l[i-k]? =some v
 | [],_,_,_,h=>by cases h
 | u::r,k,i,v,h=>by
  unfold nW lk at h
  split at h
  ·rename_i c;cases h;rw[W5 c,XM];exact⟨W6 _,rfl⟩
  ·obtain⟨d,b⟩:=qY h;refine⟨by omega,?_⟩;rw[show i-k=(i-(k+1))+1 by omega,List.getElem?_cons_succ];exact b
def kt(fn:Func):Code:=fn.body.getD .skip
section
variable {P:Program} {f:FuncId} {fn:Func} {args:Array Value} {rd:aj} {O:List Nat} {wt:ab→aj} {v:ab→Value}
def fQ(P:Program)(fn:Func)(rd:aj)(O:List Nat)(wt:ab→aj)(v:ab→Value)(cs:List ay)(w:World):Exit→Act→World→Prop:=λe b W=>
 bt rd cs→Has cs.flatten w→bodyPostM Fence.wide 6 P fn (A9 O wt v cs w) e b W
theorem fE(hf:P.funcs[f]? =some fn)(h: ∀w cs,Go Fence.wide 6 P (bN cs.flatten) w (fQ P fn rd O wt v cs w) [.c (kt fn)] ⟨fn.ntmps,nW 0 args.toList⟩ rd [])(r:Enters P f:=by exact enters_of As Kr rfl)
  (k:(fn.body.isSome,Yb args.size fn.ntmps)=(true,true):=by kernel_rfl):aa P f args rd O wt v:=by
 refine⟨r,λw cs m l=>?_⟩;obtain⟨c,j⟩:=Option.isSome_iff_exists.1 (ALca (·.1) k);have u:args.size≤fn.ntmps:=Xz (ALca (·.2) k);refine(callsIn_wide (n:=6)).1 ?_;refine callsIn_of_wp_marks hf j trivial ?_ rfl;have g:=(h w cs).out {tmps:=args++Array.replicate (fn.ntmps-args.size) undef,defers:=[]} w ⟨by simp;omega,λi v t=>?_,rfl⟩ (by simpa using aE.start m l)
 ·rw[show kt fn=c by unfold kt;rw[j];rfl] at g;exact wpIn_mono (show c.wpIn Fence.wide 6 P _ _ _ from g) λe b W s=>s m l
 ·obtain⟨_,d⟩:=qY t;rw[Xq] at d;have o:i<args.toList.length:=(List.getElem?_eq_some_iff.1 d).1;have q:args[i]? =some v:=by rw[←Array.getElem?_toList];exact d
  rw[Array.getD_eq_getD_getElem?,Array.getElem?_append_left (by simpa using o),q];rfl
theorem fG(hf:P.funcs[f]? =some fn)(h: ∀w cs,Go Fence.wide 6 P (bN cs.flatten) w (fQ P fn rd O wt v cs w) [.c (kt fn)] ⟨fn.ntmps,nW 0 args.toList⟩ rd [])(e:(fn.name== "runtime.NumGoroutine")=false:=by kernel_rfl)
  (b:(fn.body.isSome,Yb args.size fn.ntmps)=(true,true):=by kernel_rfl):aa P f args rd O wt v:=by
 obtain⟨c,d⟩:=Option.isSome_iff_exists.1 (congrArg (·.1) b);exact fE hf h (enters_of hf e d) b
theorem fN{fn:Func}(hf:P.funcs[f]? =some fn)(e:(fn.name== "runtime.NumGoroutine")=false:=by kernel_rfl)(b:fn.body.isSome=true:=by kernel_rfl):Enters P f:=by
 obtain⟨c,d⟩:=Option.isSome_iff_exists.1 b;exact enters_of hf e d
theorem fO{fn:Func}(hf:P.funcs[f]? =some fn)(i:Nat){Q:ay→Prop}(d:rd[i]? =some (.p Q))(h: ∀bs,Q bs→aa P f args (rd.set i (.c bs)) O wt v)(e:(fn.name== "runtime.NumGoroutine")=false:=by kernel_rfl)(b:fn.body.isSome=true:=by kernel_rfl):aa P f args rd O wt v:=aa.ro i d h (fN hf e b)
instance {F:Fence} {n:Nat} {R:List Nat} {base:World} {Q Q0:Exit→Act→World→Prop} {S0:List It} {a':Sl} {L':aj} {Ds:List Nat} [h:Rt Q Q0]:Rt (jQ F n P R base Q S0 a' L' Ds) Q0:=⟨λb W hq=>gU (S:=S0) (h.out b W hq)⟩
def jD(P:Program)(L:aj)(e:Fe):List ResultVar→List Nat→List (RV P)
 | [],_=>[]
 | .tmp i::rs,b=> .t ((lk e i).getD undef)::jD P L e rs b
 | .cell _ T::rs,k::b=>(match L[k]? with
  | some (.c [(_,.cells cs _ _)])=>(match dO P T with
   | true=> .s (cs.toList.take (Be P T)) k
   | false=> .c (cs.getD 0 undef) k)
  | _=> .t undef)::jD P L e rs b
 | .cell _ _::rs,[]=> .t undef::jD P L e rs []
def fK(P:Program)(L:aj)(e:Fe):List ResultVar→List (RV P)→List a9
 | [],[]=>[]
 | .tmp i::rs,.t v::vs=>sE (lk e i) (some v)::fK P L e rs vs
 | .cell p T::rs,.c v k::vs=>(match L[k]? with
  | some (.c [(g,.cells cs _ (0,0))])=>[sE (lk e p) (some (nN g 0)),sE cs[0]? (some v),sE (λw=>(isAgg T).run P w) (λw=> .ok false w)]
  | _=>[sB false])++fK P L e rs vs
 | .cell p T::rs,.s l k::vs=>(match L[k]? with
  | some (.c [(g,.cells cs _ (0,0))])=>[sE (lk e p) (some (nN g 0)),sE ((cs.toList.drop 0).take l.length) l,sB (dO P T),sE ((P.info? T).map (·.size)) (some l.length)]
  | _=>[sB false])++fK P L e rs vs
 | _,_=>[sB false]
theorem ug{a:Sl}{Ds:List Nat}{b:Act}(j:Fr a Ds b){L:aj}{M:aj}: ∀{rs:List ResultVar} {vs:List (RV P)},(∀x∈fK P L a.e rs vs,x.2.1=x.2.2)→∀x∈fH P (L) b.tmps rs vs,x.2.1=x.2.2
 | [],[],_=>λx o=>by simp [fH] at o
 | [],_::_,h=>(bE (by simpa [fK] using h)).elim
 | .tmp i::rs,[],h=>(bE (by simpa [fK] using h)).elim
 | .cell p T::rs,[],h=>(bE (by simpa [fK] using h)).elim
 | .tmp i::rs,.t v::vs,h=>by
  simp only[fK,WO,forall_eq_or_imp,sE] at h;simp only[fH,WO,forall_eq_or_imp,sE];exact⟨j.get i v h.1,ug (M:=M) j h.2⟩
 | .tmp i::rs,.c v k::vs,h=>(bE (by simpa only[fK] using h)).elim
 | .tmp i::rs,.s l k::vs,h=>(bE (by simpa only[fK] using h)).elim
 | .cell p T::rs,.t v::vs,h=>(bE (by simpa only[fK] using h)).elim
 | .cell p T::rs,.c v k::vs,h=>by
  simp only[fK] at h;simp only[fH]
  split at h
  ·rename_i g cs q m;simp only[Xn,WO,WL,or_false,or_imp,forall_and,forall_eq,sE] at h;simp only[m,Xn,WO,WL,or_false,or_imp,forall_and,forall_eq,sE];exact⟨⟨j.get p _ h.1.1,h.1.2⟩,ug (M:=M) j h.2⟩
  ·exact(bE λe d=>h e (X3 _ d)).elim
 | .cell p T::rs,.s l k::vs,h=>by
  simp only[fK] at h;simp only[fH]
  split at h
  ·rename_i g cs q m;simp only[Xn,WO,WL,or_false,or_imp,forall_and,forall_eq,sE,sB] at h;simp only[m,Xn,WO,WL,or_false,or_imp,forall_and,forall_eq,sE,sB];exact⟨⟨j.get p _ h.1.1,h.1.2⟩,ug (M:=M) j h.2⟩
  ·exact(bE λe d=>h e (X3 _ d)).elim
section
variable {a:Sl} {sz:Nat} {es:Fe} {L:aj} {S:List It} {Ds:List Nat} {cs:List ay} {w:World} {Q:Exit→Act→World→Prop}
theorem Br{b:Act}{W:World}(j:Fr a Ds b)(e:aE (bN cs.flatten) w (L++Ds.map mk) W)(l:bt rd cs)(k:Has cs.flatten w)(vs:List (RV P))(E:ab)(g:List Nat)(c:List (Nat×Nat))(hv:nP vs=v E)
  (s:(fK P L a.e fn.results.toList vs).map a9.lhs=(fK P L a.e fn.results.toList vs).map a9.rhs)
  (hf:(dc (g++c.map (·.2)),g.map (λp=>L[p]?),c.map (λx=>L[x.2]?),c.all (λx=>pI rd[x.1]?),(WV rd.length).all λi=>O.contains i||c.any λx=>x.1==i)=(true,(wt E).map some,c.map (λx=>rd[x.1]?),true,true)):
  LeavesInM Fence.wide 6 P fn b.tmps (A9 O wt v cs w) b.defers .returning W:=by
 obtain⟨u,m,o⟩:=e.seg;rw[j.defers];have d:=ug (M:=L) j (a9.all s);refine AE m o vs ?_ λy e=>?_
 ·exact XD λx t=>by
   obtain⟨T,z,A⟩:=x;have:=d _ t;simp only at this;unfold a9.lhs a9.rhs;rw[this]
 ·obtain⟨q,d,r⟩:=e.fin2 (R:=[]) l k O (wt E) g c hf;exact⟨E,q,by rw[hv],d,r⟩
def qZ(S:List It):Bool:=match nf S with | .c .ret::_=>true | _=>false
theorem ao[hR:Rt Q (fQ P fn rd O wt v cs w)](u:Value)(E:ab)(q:u=v E)(g:List Nat)(c:List (Nat×Nat))(rs:List Nat)(hv:nP (jD P L es fn.results.toList rs)=u:=by kernel_rfl)
  (o:(fK P L es fn.results.toList (jD P L es fn.results.toList rs)).map a9.lhs=(fK P L es fn.results.toList (jD P L es fn.results.toList rs)).map a9.rhs:=by kernel_rfl)
  (hf:(dc (g++c.map (·.2)),g.map (λp=>L[p]?),c.map (λx=>L[x.2]?),c.all (λx=>pI rd[x.1]?),(WV rd.length).all λi=>O.contains i||c.any λx=>x.1==i)=(true,(wt E).map some,c.map (λx=>rd[x.1]?),true,true):=by kernel_rfl)
  (d:qZ S=true:=by kernel_rfl):Go Fence.wide 6 P (bN cs.flatten) w Q S ⟨sz,es⟩ L Ds:=by
 refine⟨λb W m l=>dD 1000 S ?_⟩;unfold qZ at d
 split at d
 ·rename_i r e;rw[show dg 1000 S=_ from e];exact wpIn_ret (gU (hR.out b W λk j=>Br m l k j _ E g c (hv.trans q) o hf))
 ·cases d
theorem lf[hR:Rt Q (fQ P fn rd O wt v cs w)](E:ab)(c:List Nat)(b:List (Nat×Nat))(rs:List Nat)(hv:nP (jD P L es fn.results.toList rs)=v E:=by kernel_rfl)
 (e:(fK P L es fn.results.toList (jD P L es fn.results.toList rs)).map a9.lhs=(fK P L es fn.results.toList (jD P L es fn.results.toList rs)).map a9.rhs:=by kernel_rfl)
 (hf:(dc (c++b.map (·.2)),c.map (λp=>L[p]?),b.map (λx=>L[x.2]?),b.all (λx=>pI rd[x.1]?),(WV rd.length).all λi=>O.contains i||b.any λx=>x.1==i)=(true,(wt E).map some,b.map (λx=>rd[x.1]?),true,true):=by kernel_rfl)
 (d:qZ S=true:=by kernel_rfl):Go Fence.wide 6 P (bN cs.flatten) w Q S ⟨sz,es⟩ L Ds:=ao (v E) E rfl c b rs hv e hf d
theorem Jn(u:Value)(E:ab)(o:u=v E)(d:List Nat)(c:List (Nat×Nat))(rs:List Nat)(hv:nP (jD P L es fn.results.toList rs)=u:=by kernel_rfl)
  (m:(fK P L es fn.results.toList (jD P L es fn.results.toList rs)).map a9.lhs=(fK P L es fn.results.toList (jD P L es fn.results.toList rs)).map a9.rhs:=by kernel_rfl)
  (hf:(dc (d++c.map (·.2)),d.map (λp=>L[p]?),c.map (λx=>L[x.2]?),c.all (λx=>pI rd[x.1]?),(WV rd.length).all λi=>O.contains i||c.any λx=>x.1==i)=(true,(wt E).map some,c.map (λx=>rd[x.1]?),true,true):=by kernel_rfl)
  (k:(nf S).isEmpty=true:=by kernel_rfl):Go Fence.wide 6 P (bN cs.flatten) w (fQ P fn rd O wt v cs w) S ⟨sz,es⟩ L Ds:=by
 refine⟨λb W l j=>dD 1000 S ?_⟩;rw[show dg 1000 S=[] from List.isEmpty_iff.1 k];exact λg e=>Br l j g e _ E d c (hv.trans o) m hf
theorem ew(E:ab)(c:List Nat)(b:List (Nat×Nat))(rs:List Nat)(hv:nP (jD P L es fn.results.toList rs)=v E:=by kernel_rfl)
  (e:(fK P L es fn.results.toList (jD P L es fn.results.toList rs)).map a9.lhs=(fK P L es fn.results.toList (jD P L es fn.results.toList rs)).map a9.rhs:=by kernel_rfl)
  (hf:(dc (c++b.map (·.2)),c.map (λp=>L[p]?),b.map (λx=>L[x.2]?),b.all (λx=>pI rd[x.1]?),(WV rd.length).all λi=>O.contains i||b.any λx=>x.1==i)=(true,(wt E).map some,b.map (λx=>rd[x.1]?),true,true):=by kernel_rfl)
  (d:(nf S).isEmpty=true:=by kernel_rfl):Go Fence.wide 6 P (bN cs.flatten) w (fQ P fn rd O wt v cs w) S ⟨sz,es⟩ L Ds:=
 Jn (v E) E rfl c b rs hv e hf d
end
end
end
section
open Go Go.RowKit Go.Shelf
structure Kd (P:Program) (α:Type) where
 en:α→List Value
 z:List Value
 TS:TypeId
 T:TypeId
 d:α
 k:Nat
 hk: ∀y,(en y).length=k
 hz:k=z.length
 h1: ∀y,(en y).all (·.oneCell')=true
 hT:dX P TS T z
theorem Kd.one{P:Program}{α:Type}(K:Kd P α): ∀y,∀u∈K.en y,u.oneCell'=true:=λy=>List.all_eq_true.1 (K.h1 y)
theorem Kd.lz{P:Program}{α:Type}(K:Kd P α): ∀y,(K.en y).length=K.z.length:=λy=>(K.hk y).trans K.hz
section
variable {P:Program} {α:Type}
abbrev sl(K:Kd P α)(v:Value)(xs:List α):aA:= .p (aq K.en K.z K.T v xs)
theorem Kd.cell(K:Kd P α){a:α}{f:Nat}(hf:f<K.k):(K.en a)[f]? =some ((K.en a).getD f undef):=by
 have h:f<(K.en a).length:=by rw[K.hk];exact hf
 rw[WT,W8 h];rfl
theorem Kd.part(K:Kd P α){a:α}{f n:Nat}(hf:f+n≤K.k):(((K.en a).drop f).take n).length=n∧((K.en a).drop f).take (((K.en a).drop f).take n).length=((K.en a).drop f).take n:=by
 have h:(((K.en a).drop f).take n).length=n:=by rw[WZ,Xl,K.hk];omega
 exact⟨h,by rw[h]⟩
section
variable (K:Kd P α) (v:Value) (xs:List α) (p:Nat)
def e8:b8 P:= .m (IA p (sl K v xs) λ_ h=>h)
def cO(i:Nat)(b:i<xs.length:=by omega):b8 P:= .m (IC p (sl K v xs) i K.k (λ_ h=>h) b)
def uh(off f:Nat)(b:0<xs.length:=by omega):b8 P:= .m (IE p (sl K v xs) off f (λ_ h=>h) b)
def eS(i f:Nat)(b:i<xs.length:=by omega)(hf:f<K.k:=by decide):b8 P:= .m (IG (d:=K.d) p (sl K v xs) i K.k f (λ_ h=>h) K.hk b hf (K.cell hf))
def pL(i f n:Nat)(b:i<xs.length:=by omega)(hf:f+n≤K.k:=by decide):b8 P:= .m (II (d:=K.d) p (sl K v xs) i K.k f (λ_ h=>h) K.hk b (by rw[(K.part hf).1];exact hf) (K.part hf).2)
def Jo(l:Nat)(b:l≤xs.length:=by omega):b8 P:= .m (I2 p (sl K v xs) l K.k (λ_ h=>h) b)
def Wy(i:Nat)(a:α)(b:i<xs.length:=by omega):b8 P:= .m (IM (T:=K.T) (v:=v) (xs:=xs) (en:=K.en) (z:=K.z) p i K.k a K.hk b)
def rh(i f:Nat)(a:α)(u:Value)(c:K.en a=(K.en (xs.getD i K.d)).set f u)(b:i<xs.length:=by omega)(hf:f<K.k:=by decide):b8 P:= .m (IK (T:=K.T) (v:=v) (xs:=xs) (en:=K.en) (z:=K.z) (d:=K.d) (a:=a) (u:=u) p i K.k f K.hk b hf c)
def eT(q:Nat)(ys:List α)(b:xs.length+ys.length≤1000000:=by simp only[List.length_append,List.length_cons,List.length_nil,List.length_replicate,List.length_take,List.length_drop,List.length_set];omega):b8 P:= .m (IX (xs:=xs) (ys:=ys) p q K.hT v K.one K.lz b)
end
section
variable {en:α→List Value} {v:Value} {xs:List α} {bs:ay} (h:SrE en v xs bs) (p:Nat)
def du:b8 P:= .m (I7 p (.c bs) (cP h))
def eU(i k:Nat)(b:i<xs.length:=by omega):b8 P:= .m (I9 p (.c bs) i k (cP h) b)
end
section
variable (K:Kd P α) {v:Value} {xs:List α} {bs:ay} (h:SrE K.en v xs bs) (p:Nat)
def iG(i f:Nat)(b:i<xs.length:=by omega)(hf:f<K.k:=by decide):b8 P:= .m (Jc (d:=K.d) p (.c bs) i K.k f (cP h) K.hk b hf (K.cell hf))
def mx(i f n:Nat)(b:i<xs.length:=by omega)(hf:f+n≤K.k:=by decide):b8 P:= .m (Je (d:=K.d) p (.c bs) i K.k f (cP h) K.hk b (by rw[(K.part hf).1];exact hf) (K.part hf).2)
end
def ad(a b:Nat)(h:a+b<9223372036854775808:=by omega):b8 P:= .t (tb (a:=i6 a) (b:=i6 b) λ_ _ _ _=>HY h)
def aI(a b:Int)(h0: -9223372036854775808≤a+b:=by omega)(h1:a+b≤9223372036854775807:=by omega):b8 P:= .t (tb (a:=i6 a) (b:=i6 b) λ_ _ _ _=>qx h0 h1)
def sI(a b:Int)(h0: -9223372036854775808≤a-b:=by omega)(h1:a-b≤9223372036854775807:=by omega):b8 P:= .t (tb (a:=i6 a) (b:=i6 b) λ_ _ _ _=>qy h0 h1)
def ml(a b:Nat)(h:a*b<9223372036854775808:=by omega):b8 P:= .t (tb (a:=i6 a) (b:=i6 b) λ_ _ _ _=>HX h)
end
section
variable {F:Fence} {n:Nat} {P:Program} {R:List Nat} {base:World} {Q:Exit→Act→World→Prop} {S:List It} {sz:Nat} {es:Fe} {L:aj} {Ds:List Nat}
theorem cz{α:Type}(K:Kd P α)(b:Go F n P R base Q S ⟨sz,es⟩ (L++[sl K (.slice none 0 0) []]) Ds):Go F n P R base Q S ⟨sz,es⟩ L Ds:=cn K.en K.z K.T b
end
end
section
open Go Go.RowKit Go.Shelf
def gI:List Nat→List Value→Fe
 | p::ps,v::vs=>gI ps vs++[(p,v)]
 | _,_=>[]
theorem ri(b:List Nat)(vs:List Value)(t:Array Value):ia t b.toArray vs.toArray=(b.zip vs).foldl (λt x=>t.setIfInBounds x.1 x.2) t:=by
 unfold ia;rw[List.zip_toArray,List.foldl_toArray]
theorem Bs(p:Nat)(b:List Nat)(v:Value)(vs:List Value)(t:Array Value):ia t (p::b).toArray (v::vs).toArray=ia (t.setIfInBounds p v) b.toArray vs.toArray:=by
 rw[ri,ri];rfl
theorem ui: ∀(b:List Nat) (vs:List Value) (t:Array Value) (i:Nat),b.length=vs.length→(∀p∈b,p<t.size)→
  (ia t b.toArray vs.toArray).getD i undef=match lk (gI b vs) i with | some v=>v | none=>t.getD i undef
 | [],[],t,i,_,_=>by rw[ri];rfl
 | p::b,v::vs,t,i,k,g=>by
  rw[Bs,ui b vs _ i (by simpa using k) (λq m=>by rw[Array.size_setIfInBounds];exact g q (X1 _ m))];show _=match lk (gI b vs++[(p,v)]) i with | some v=>v | none=>t.getD i undef
  rw[pK];cases lk (gI b vs) i with
  | some u=>rfl
  | none=>
   simp only;have f:=g p Yc;show _=match (match Xm p i with | true=>some v | false=>none) with | some v=>v | none=>t.getD i undef
   cases c:Xm p i with
   | true=>
    obtain rfl:=W5 c;simp [f]
   | false=>
    have d:p≠i:=λe=>by rw[e,Xy] at c;cases c
    simp [Array.getD_eq_getD_getElem?,d]
 | [],_::_,_,_,h,_=>by simp at h
 | _::_,[],_,_,h,_=>by simp at h
theorem uj: ∀(b:List Nat) (vs:List Value) (t:Array Value),(ia t b.toArray vs.toArray).size=t.size
 | [],_,t=>by rw[ri];rfl
 | p::b,[],t=>by rw[ri];rfl
 | p::b,v::vs,t=>by
  rw[Bs,uj,Array.size_setIfInBounds]
def fV(S:List It):Operand:=match nf S with | .c (.rangeFunc g _ _ _)::_=>g | _=> .const undef
def cb(S:List It):List Nat:=match nf S with | .c (.rangeFunc _ ps _ _)::_=>ps.toList | _=>[]
def jE(S:List It):Code:=match nf S with | .c (.rangeFunc _ _ x _)::_=>x | _=> .skip
def kS(S:List It):Code:=match nf S with | .c (.rangeFunc _ _ _ y)::_=>y | _=> .skip
def na(S:List It):Bool:=match nf S with | .c (.rangeFunc _ _ _ _)::_=>true | _=>false
theorem xm{S:List It}(h:na S=true):nf S= .c (.rangeFunc (fV S) (cb S).toArray (jE S) (kS S))::bQ S:=by
 unfold na at h;unfold fV cb jE kS bQ
 split at h
 ·rename_i g d x y b e;rw[e]
 ·cases h
structure Xt where
 c:Code
 i:Nat
 L:aj
section
variable {F:Fence} {n:Nat} {P:Program} {R:List Nat} {base:World} {Q:Exit→Act→World→Prop} {S:List It} {a:Sl} {sz:Nat} {es:Fe} {L:aj} {Ds:List Nat}
def oO(F:Fence)(n:Nat)(P:Program)(R:List Nat)(base:World)(sz:Nat)(KO:ay)(Q:List Nat→World→Exit→Act→World→Prop)(c:Code):Exit→Act→World→Prop
 | .normal,b,W=>∃e,aE R base e W∧iX KO e∧∀f d,aE f d e d→c.wpIn F n P (Q f d) b d
 | _,_,_=>False
theorem ag{KO:List ay}{e:List Nat→World→Exit→Act→World→Prop}{c:Code}(i:List Nat)(s: ∀d g,Go F n P d g (e d g) [.c c] ⟨sz,es⟩ L [])(r:i.map (λp=>L[p]?)=KO.map (λo=>some (.c o)):=by kernel_rfl)(m:(nf S).isEmpty=true:=by kernel_rfl):
  Go F n P R base (oO F n P R base sz KO.flatten e c) S ⟨sz,es⟩ L []:=by
 refine⟨λb W q k=>dD 1000 S ?_⟩;rw[show dg 1000 S=[] from List.isEmpty_iff.1 m];exact⟨L,by simpa using k,pJ i r,λd f h=>(s d f).out b f q (by simpa using h)⟩
theorem aE.left{M:aj}{W:World}(h:aE R base (L++M) W):aE R base L W:=by
 obtain⟨e,d,b⟩:=h.conc;obtain⟨f,es,rfl,c,g⟩:=nR d;rw[List.flatten_append] at b;exact aE.ofS c (b.sub (List.sublist_append_left _ _))
theorem ne{Rel:aj→Prop}{d:Code→aj→Prop}(L':aj)(i:Rel L')(c:List Nat)(e:(dc (c.map λp=>[p]).flatten,(c.map λp=>[p]).map λg=>g.map λp=>L[p]?)=(true,(L'.map λx=>[x]).map λN=>N.map some))(h:(nf S).isEmpty=true:=by kernel_rfl):Go F n P R base (lJ R base Rel d) S ⟨sz,es⟩ L Ds:=by
 refine⟨λb W k f=>dD 1000 S ?_⟩;rw[show dg 1000 S=[] from List.isEmpty_iff.1 h];exact⟨L',f.left.pick c L' e,i⟩
theorem nr{Rel:aj→Prop}{f:Code→aj→Prop}(L':aj)(k:f .ret L')(d:List Nat)(h:(dc (d.map λp=>[p]).flatten,(d.map λp=>[p]).map λg=>g.map λp=>L[p]?)=(true,(L'.map λx=>[x]).map λN=>N.map some))(c:qZ S=true:=by kernel_rfl):Go F n P R base (lJ R base Rel f) S ⟨sz,es⟩ L Ds:=by
 refine⟨λb W o i=>dD 1000 S ?_⟩;unfold qZ at c
 split at c
 ·rename_i m e;rw[show dg 1000 S=_ from e];exact wpIn_ret (gU ⟨L',i.left.pick d L' h,k⟩)
 ·cases c
def Bt(S:List It):Option Nat:=match nf S with
 | .x b::S'=>(match mq b S' with | none=>some b | some _=>none)
 | _=>none
theorem nx{Rel:aj→Prop}{f:Code→aj→Prop}(id:Nat)(L':aj)(m:f (.exit id) L')(d:List Nat)(h:(dc (d.map λp=>[p]).flatten,(d.map λp=>[p]).map λg=>g.map λp=>L[p]?)=(true,(L'.map λx=>[x]).map λN=>N.map some))(c:Bt S=some id:=by kernel_rfl):Go F n P R base (lJ R base Rel f) S ⟨sz,es⟩ L Ds:=by
 refine⟨λb W q i=>dD 1000 S ?_⟩;unfold Bt at c
 split at c
 ·rename_i j o e;rw[show dg 1000 S=_ from e]
  split at c
  ·rename_i k;cases c;exact qW k ⟨L',i.left.pick d L' h,m⟩
  ·cases c
 ·cases c
theorem rf{α:Type}{gf:Nat}{lb:Array Value}{encs:α→Array Value}{xs:List α}{KO:List ay}(hit:e4 5 P gf lb encs xs KO.flatten)(eg:Enters P gf)(Rel:Nat→aj→Prop)(I:Code→Nat→aj→Prop)(s:List Nat)(h0:Rel 0 L)
  (T: ∀i L',Rel i L'→iX KO.flatten L') (U: ∀c i L',I c i L'→iX KO.flatten L') (B: ∀x,(encs x).size=(cb S).length)
  (f: ∀(l i:Nat) (x:α) (L':aj) (H:List Nat) (w:World),xs[i]? =some x→Rel i L'→Go (Fence.wide.inRound l) 4 P H w (oO (Fence.wide.inRound l) 4 P H w sz KO.flatten (λM z=>lJ M z (Rel (i+1)) λc=>I c (i+1)) (kS S)) [.c (jE S)] ⟨sz,gI (cb S) (encs x).toList++es⟩ L' [])
  (q: ∀(D:Nat) (L':aj),Rel xs.length L'→Go Fence.wide 6 P R base Q (bQ S) ⟨sz,es⟩ L' (D::Ds))
  (r: ∀(D:Nat) (c:Code) (i:Nat) (L':aj),i<xs.length→I c (i+1) L'→Go Fence.wide 6 P R base Q (.c c::bQ S) ⟨sz,es⟩ L' (D::Ds))
  (K:(na S,(⟨sz,es⟩:Sl).ev (fV S),(cb S).all (Xx · sz),dc (s.map λp=>[p]).flatten,(s.map λp=>[p]).map λg=>g.map λp=>L[p]?)=(true,.func (.func gf) #[] lb,true,true,((KO.map aA.c).map λx=>[x]).map λN=>N.map some):=by kernel_rfl)
  (A:(match fV S with | .tmp i=>(lk es i).isSome | _=>true)=true:=by kernel_rfl):Go Fence.wide 6 P R base Q S ⟨sz,es⟩ L Ds:=by
 have c1:=ALca (λx=>x.1) K;have c2:=ALca (λx=>x.2.1) K;have c3:=ALca (λx=>x.2.2.1) K;have c4:=ALca (λx=>x.2.2.2) K;simp only at c1 c2 c3 c4;refine⟨λb W d hO=>dD 1000 S ?_⟩;rw[show dg 1000 S=_ from xm c1];show(Code.rangeFunc (fV S) (cb S).toArray (jE S) (kS S)).wpIn Fence.wide 6 P (dd Fence.wide 6 P Q (bQ S)) b W;obtain⟨H,OC,OW⟩:=hO.seg;have hg:b.eval (fV S)= .func (.func gf) #[] lb:=by
  rw[d.ev λi Y=>by rw[Y] at A;exact A];exact c2
 have hnd:KO.flatten.Pairwise λx y=>x.1≠y.1:=by
  exact aE.ndC (Os:=KO) (R:=H) (base:=W) (W:=W) (OW.out.pick s _ c4)
 refine HL (n:=6) Om hg eg hit Rel I OW h0 T U hnd (λx=>by rw[B x];simp) ?_ ?_ ?_
 ·intro l i x L' M w hx C V;have h:=f l i x L' M w hx C;have hsz:(encs x).toList.length=(cb S).length:=by rw[Array.length_toList];exact B x
  have Z: ∀p∈cb S,p<b.tmps.size:=λp hp=>by rw[d.size];exact Xw▸List.all_eq_true.1 c3 p hp
  have X:Fr ⟨sz,gI (cb S) (encs x).toList++es⟩ [] {tmps:=ia b.tmps (cb S).toArray (encs x),defers:=[]}:=by
   have ee:encs x=(encs x).toList.toArray:=by simp
   refine⟨?_,λi v G=>?_,rfl⟩
   ·show(ia b.tmps (cb S).toArray (encs x)).size=sz;rw[ee,uj];exact d.size
   ·show(ia b.tmps (cb S).toArray (encs x)).getD i undef=v;rw[ee,ui _ _ _ i hsz.symm Z];simp only[pK] at G;cases h1:lk (gI (cb S) (encs x).toList) i with
    | some u=>rw[h1] at G;cases G;rfl
    | none=>rw[h1] at G;exact d.get i v G
  refine wpIn_mono (show(jE S).wpIn (Fence.wide.inRound l) 4 P _ _ w from h.out _ w X (by simpa using V.out)) λe a' Wa hq=>?_;cases e with
  | normal=>
   obtain⟨La,q1,q2,q3⟩:=hq;exact⟨La,q1,q2,λO W3 h3=>q3 O W3 h3.out⟩
  | _=>exact hq
 ·intro D L' z C o;obtain⟨O,k,m⟩:=jA.markE OC.out o.out;exact(q D L' C).out _ z ⟨d.size,d.get,by show jU D::b.defers=_;rw[d.defers];rfl⟩ (k.out.whole m.out)
 ·intro D c i L' z Y C o;obtain⟨O,k,m⟩:=jA.markE OC.out o.out;exact(r D c i L' Y C).out _ z ⟨d.size,d.get,by show jU D::b.defers=_;rw[d.defers];rfl⟩ (k.out.whole m.out)
theorem Jp{α:Type}{gf:Nat}{lb:Array Value}{encs:α→Array Value}{xs:List α}{KO:List ay}{XO:ay}(hit:pC 5 P gf lb encs xs KO.flatten XO)(eg:Enters P gf)(Rel:Nat→aj→Prop)(I:Code→Nat→aj→Prop)(LG:aj)(qs s:List Nat)(M:(dc (qs.map λp=>[p]).flatten,(qs.map λp=>[p]).map λg=>g.map λp=>L[p]?)=(true,((LG++[aA.c XO]).map λx=>[x]).map λN=>N.map some))(h0:Rel 0 LG)
  (U: ∀i L',Rel i L'→iX KO.flatten L') (V: ∀c i L',I c i L'→iX KO.flatten L') (B: ∀x,(encs x).size=(cb S).length)
  (f: ∀(l i:Nat) (x:α) (L':aj) (H:List Nat) (w:World),xs[i]? =some x→Rel i L'→Go (Fence.wide.inRound l) 4 P H w (oO (Fence.wide.inRound l) 4 P H w sz KO.flatten (λO z=>lJ O z (Rel (i+1)) λc=>I c (i+1)) (kS S)) [.c (jE S)] ⟨sz,gI (cb S) (encs x).toList++es⟩ L' [])
  (q: ∀(D:Nat) (L':aj),Rel xs.length L'→Go Fence.wide 6 P R base Q (bQ S) ⟨sz,es⟩ L' (D::Ds))
  (r: ∀(D:Nat) (c:Code) (i:Nat) (L':aj),i<xs.length→I c (i+1) L'→Go Fence.wide 6 P R base Q (.c c::bQ S) ⟨sz,es⟩ L' (D::Ds))
  (K:(na S,(⟨sz,es⟩:Sl).ev (fV S),(cb S).all (Xx · sz),dc (s.map λp=>[p]).flatten,(s.map λp=>[p]).map λg=>g.map λp=>L[p]?)=(true,.func (.func gf) #[] lb,true,true,(((KO++[XO]).map aA.c).map λx=>[x]).map λN=>N.map some):=by kernel_rfl)
  (A:(match fV S with | .tmp i=>(lk es i).isSome | _=>true)=true:=by kernel_rfl):Go Fence.wide 6 P R base Q S ⟨sz,es⟩ L Ds:=by
 have c1:=ALca (λx=>x.1) K;have c2:=ALca (λx=>x.2.1) K;have c3:=ALca (λx=>x.2.2.1) K;have c4:=ALca (λx=>x.2.2.2) K;simp only at c1 c2 c3 c4;refine⟨λb W d hO=>dD 1000 S ?_⟩;rw[show dg 1000 S=_ from xm c1];show(Code.rangeFunc (fV S) (cb S).toArray (jE S) (kS S)).wpIn Fence.wide 6 P (dd Fence.wide 6 P Q (bQ S)) b W;obtain⟨H,OC,OW⟩:=hO.seg;have hg:b.eval (fV S)= .func (.func gf) #[] lb:=by
  rw[d.ev λi Z=>by rw[Z] at A;exact A];exact c2
 have hnd:(KO.flatten++XO).Pairwise λx y=>x.1≠y.1:=by
  have h9:=aE.ndC (Os:=KO++[XO]) (R:=H) (base:=W) (W:=W) (OW.out.pick s _ c4);simpa using h9
 refine AK (n:=6) Om hg eg hit Rel I (Lib.hid (OW.out.pick qs _ M)) h0 U V hnd (λx=>by rw[B x];simp) ?_ ?_ ?_
 ·intro l i x L' O w hx C X;have h:=f l i x L' O w hx C;have hsz:(encs x).toList.length=(cb S).length:=by rw[Array.length_toList];exact B x
  have hlt: ∀p∈cb S,p<b.tmps.size:=λp hp=>by rw[d.size];exact Xw▸List.all_eq_true.1 c3 p hp
  have Y:Fr ⟨sz,gI (cb S) (encs x).toList++es⟩ [] {tmps:=ia b.tmps (cb S).toArray (encs x),defers:=[]}:=by
   have ee:encs x=(encs x).toList.toArray:=by simp
   refine⟨?_,λi v G=>?_,rfl⟩
   ·show(ia b.tmps (cb S).toArray (encs x)).size=sz;rw[ee,uj];exact d.size
   ·show(ia b.tmps (cb S).toArray (encs x)).getD i undef=v;rw[ee,ui _ _ _ i hsz.symm hlt];simp only[pK] at G;cases h1:lk (gI (cb S) (encs x).toList) i with
    | some u=>rw[h1] at G;cases G;rfl
    | none=>rw[h1] at G;exact d.get i v G
  refine wpIn_mono (show(jE S).wpIn (Fence.wide.inRound l) 4 P _ _ w from h.out _ w Y (by simpa using X.out)) λe a' Wa M=>?_;cases e with
  | normal=>
   obtain⟨La,q1,q2,q3⟩:=M;exact⟨La,q1,q2,λT W3 h3=>q3 T W3 h3.out⟩
  | _=>exact M
 ·intro D L' z C o;obtain⟨T,k,m⟩:=jA.markE OC.out o.out;exact(q D L' C).out _ z ⟨d.size,d.get,by show jU D::b.defers=_;rw[d.defers];rfl⟩ (k.out.whole m.out)
 ·intro D c i L' z Z C o;obtain⟨T,k,m⟩:=jA.markE OC.out o.out;exact(r D c i L' Z C).out _ z ⟨d.size,d.get,by show jU D::b.defers=_;rw[d.defers];rfl⟩ (k.out.whole m.out)
theorem oP{α:Type}{gf:Nat}{lb:Array Value}{encs:α→Array Value}{xs:List α}{KO:List ay}(hit:e4 5 P gf lb encs xs KO.flatten)(w:Enters P gf)(I:Nat→Prop)(f:Nat→aj→aj)(b:List Nat)(h0:I 0)(z:L=f 0 L)
  (d: ∀(l i:Nat) (x:α) (k:List Nat) (m:World),xs[i]? =some x→I i→Go (Fence.wide.inRound l) 4 P k m (oO (Fence.wide.inRound l) 4 P k m sz KO.flatten (λu v=>lJ u v (λL'=>I (i+1)∧L'=f (i+1) L) λ_ _=>False) (kS S)) [.c (jE S)] ⟨sz,gI (cb S) (encs x).toList++es⟩ (f i L) [])
  (e: ∀(D:Nat),I xs.length→Go Fence.wide 6 P R base Q (bQ S) ⟨sz,es⟩ (f xs.length L) (D::Ds))
  (y: ∀i,b.map (λp=>(f i L)[p]?)=KO.map λo=>some (.c o):=by intros;kernel_rfl) (s: ∀x,(encs x).size=(cb S).length:=by intro _;kernel_rfl)
  (A:(na S,(⟨sz,es⟩:Sl).ev (fV S),(cb S).all (Xx · sz),dc (b.map λp=>[p]).flatten,(b.map λp=>[p]).map λg=>g.map λp=>L[p]?)=(true,.func (.func gf) #[] lb,true,true,((KO.map aA.c).map λx=>[x]).map λN=>N.map some):=by kernel_rfl)
  (r:(match fV S with | .tmp i=>(lk es i).isSome | _=>true)=true:=by kernel_rfl):Go Fence.wide 6 P R base Q S ⟨sz,es⟩ L Ds:=by
 refine rf hit w (λi L'=>I i∧L'=f i L) (λ_ _ _=>False) b ⟨h0,z⟩ (λi L' h=>?_) (λ_ _ _ h=>h.elim) s (λl i x L' k m B h=>?_) (λD L' h=>?_) (λ_ _ _ _ _ h=>h.elim) A r
 ·obtain⟨q,rfl⟩:=h;exact pJ b (y i)
 ·obtain⟨q,rfl⟩:=h;exact d l i x k m B q
 ·obtain⟨q,rfl⟩:=h;exact e D q
theorem Bu{α:Type}{gf:Nat}{lb:Array Value}{encs:α→Array Value}{xs:List α}{KO:List ay}{XO:ay}(hit:pC 5 P gf lb encs xs KO.flatten XO)(z:Enters P gf)(I:Nat→Prop)(f:Nat→aj→aj)(b:aj)(qs v k:List Nat)(h0:I 0)(B:b=f 0 b)
  (d: ∀(l i:Nat) (x:α) (m:List Nat) (q:World),xs[i]? =some x→I i→Go (Fence.wide.inRound l) 4 P m q (oO (Fence.wide.inRound l) 4 P m q sz KO.flatten (λw y=>lJ w y (λL'=>I (i+1)∧L'=f (i+1) b) λ_ _=>False) (kS S)) [.c (jE S)] ⟨sz,gI (cb S) (encs x).toList++es⟩ (f i b) [])
  (e: ∀(D:Nat),I xs.length→Go Fence.wide 6 P R base Q (bQ S) ⟨sz,es⟩ (f xs.length b) (D::Ds))
  (A: ∀i,k.map (λp=>(f i b)[p]?)=KO.map λo=>some (.c o):=by intros;kernel_rfl) (u: ∀x,(encs x).size=(cb S).length:=by intro _;kernel_rfl)
  (C:(na S,(⟨sz,es⟩:Sl).ev (fV S),(cb S).all (Xx · sz),dc (v.map λp=>[p]).flatten,(v.map λp=>[p]).map λg=>g.map λp=>L[p]?)=(true,.func (.func gf) #[] lb,true,true,(((KO++[XO]).map aA.c).map λx=>[x]).map λN=>N.map some):=by kernel_rfl)
  (G:(dc (qs.map λp=>[p]).flatten,(qs.map λp=>[p]).map λg=>g.map λp=>L[p]?)=(true,((b++[aA.c XO]).map λx=>[x]).map λN=>N.map some):=by kernel_rfl)
  (s:(match fV S with | .tmp i=>(lk es i).isSome | _=>true)=true:=by kernel_rfl):Go Fence.wide 6 P R base Q S ⟨sz,es⟩ L Ds:=by
 refine Jp hit z (λi L'=>I i∧L'=f i b) (λ_ _ _=>False) b qs v G ⟨h0,B⟩ (λi L' h=>?_) (λ_ _ _ h=>h.elim) u (λl i x L' m q H h=>?_) (λD L' h=>?_) (λ_ _ _ _ _ h=>h.elim) C s
 ·obtain⟨r,rfl⟩:=h;exact pJ k (A i)
 ·obtain⟨r,rfl⟩:=h;exact d l i x m q H r
 ·obtain⟨r,rfl⟩:=h;exact e D r
theorem xn{α:Type}{gf:Nat}{lb:Array Value}{encs:α→Array Value}{xs:List α}{KO:List ay}(hit:e4 5 P gf lb encs xs KO.flatten)(z:Enters P gf)(I:Nat→Value→Prop)(f:Nat→Value→aj→aj)(b:List Nat)(v:Value)(h0:I 0 v)(B:L=f 0 v L)
  (d: ∀(l i:Nat) (u:Value) (x:α) (k:List Nat) (m:World),xs[i]? =some x→I i u→Go (Fence.wide.inRound l) 4 P k m (oO (Fence.wide.inRound l) 4 P k m sz KO.flatten (λw y=>lJ w y (λL'=>∃u:Value,I (i+1) u∧L'=f (i+1) u L) λ_ _=>False) (kS S)) [.c (jE S)] ⟨sz,gI (cb S) (encs x).toList++es⟩ (f i u L) [])
  (e: ∀(D:Nat) (u:Value),I xs.length u→Go Fence.wide 6 P R base Q (bQ S) ⟨sz,es⟩ (f xs.length u L) (D::Ds))
  (A: ∀i (u:Value),b.map (λp=>(f i u L)[p]?)=KO.map λo=>some (.c o):=by intros;kernel_rfl) (s: ∀x,(encs x).size=(cb S).length:=by intro _;kernel_rfl)
  (C:(na S,(⟨sz,es⟩:Sl).ev (fV S),(cb S).all (Xx · sz),dc (b.map λp=>[p]).flatten,(b.map λp=>[p]).map λg=>g.map λp=>L[p]?)=(true,.func (.func gf) #[] lb,true,true,((KO.map aA.c).map λx=>[x]).map λN=>N.map some):=by kernel_rfl)
  (r:(match fV S with | .tmp i=>(lk es i).isSome | _=>true)=true:=by kernel_rfl):Go Fence.wide 6 P R base Q S ⟨sz,es⟩ L Ds:=by
 refine rf hit z (λi L'=>∃u:Value,I i u∧L'=f i u L) (λ_ _ _=>False) b ⟨v,h0,B⟩ (λi L' h=>?_) (λ_ _ _ h=>h.elim) s (λl i x L' k m G h=>?_) (λD L' h=>?_) (λ_ _ _ _ _ h=>h.elim) C r
 ·obtain⟨u,q,rfl⟩:=h;exact pJ b (A i u)
 ·obtain⟨u,q,rfl⟩:=h;exact d l i u x k m G q
 ·obtain⟨u,q,rfl⟩:=h;exact e D u q
theorem xp{α:Type}{gf:Nat}{lb:Array Value}{encs:α→Array Value}{xs:List α}{KO:List ay}(hit:e4 5 P gf lb encs xs KO.flatten)(A:Enters P gf)(I:Nat→Prop)(m:Nat→aj→aj)(X:Code→Nat→Prop)(q:Code→Nat→aj→aj)(b:List Nat)(h0:I 0)(C:L=m 0 L)
  (d: ∀(l i:Nat) (x:α) (r:List Nat) (s:World),xs[i]? =some x→I i→Go (Fence.wide.inRound l) 4 P r s (oO (Fence.wide.inRound l) 4 P r s sz KO.flatten (λy z=>lJ y z (λL'=>I (i+1)∧L'=m (i+1) L) (λc L'=>X c (i+1)∧L'=q c (i+1) L)) (kS S)) [.c (jE S)] ⟨sz,gI (cb S) (encs x).toList++es⟩ (m i L) [])
  (f: ∀(D:Nat),I xs.length→Go Fence.wide 6 P R base Q (bQ S) ⟨sz,es⟩ (m xs.length L) (D::Ds))
  (k: ∀(D:Nat) (c:Code) (i:Nat),i<xs.length→X c (i+1)→Go Fence.wide 6 P R base Q (.c c::bQ S) ⟨sz,es⟩ (q c (i+1) L) (D::Ds))
  (B: ∀i,b.map (λp=>(m i L)[p]?)=KO.map λo=>some (.c o):=by intros;kernel_rfl) (u: ∀c i,X c i→b.map (λp=>(q c i L)[p]?)=KO.map λo=>some (.c o):=by intros;kernel_rfl) (w: ∀x,(encs x).size=(cb S).length:=by intro _;kernel_rfl)
  (G:(na S,(⟨sz,es⟩:Sl).ev (fV S),(cb S).all (Xx · sz),dc (b.map λp=>[p]).flatten,(b.map λp=>[p]).map λg=>g.map λp=>L[p]?)=(true,.func (.func gf) #[] lb,true,true,((KO.map aA.c).map λx=>[x]).map λN=>N.map some):=by kernel_rfl)
  (v:(match fV S with | .tmp i=>(lk es i).isSome | _=>true)=true:=by kernel_rfl):Go Fence.wide 6 P R base Q S ⟨sz,es⟩ L Ds:=by
 refine rf hit A (λi L'=>I i∧L'=m i L) (λc i L'=>X c i∧L'=q c i L) b ⟨h0,C⟩ (λi L' h=>?_) (λc i L' h=>?_) w (λl i x L' r s K h=>?_) (λD L' h=>?_) (λD c i L' H h=>?_) G v
 ·obtain⟨e,rfl⟩:=h;exact pJ b (B i)
 ·obtain⟨e,rfl⟩:=h;exact pJ b (u c i e)
 ·obtain⟨e,rfl⟩:=h;exact d l i x r s K e
 ·obtain⟨e,rfl⟩:=h;exact f D e
 ·obtain⟨e,rfl⟩:=h;exact k D c i H e
end
end
section
open Go Go.RowKit Go.Shelf
def xq(k:Nat)(L:List Oper):Bool:=L.all λo=>match o.guard with | none=>true | some (j,_)=>Xx j k
section
variable {F:Fence} {n:Nat} {P:Program} {L:List Oper} {Q:Exit→Act→World→Prop} {a:Act} {t:dS} {R:List Nat} {base:World}
theorem Bv{LL:List Oper}{k:Nat}{o:Oper}{c:Array Value}(h:match o.guard with | none=>true=true | some (j,_)=>Xx j k=true):Region.wanted o (yielded LL.toArray c)=Region.wanted o (yielded (LL.take k).toArray c):=by
 unfold Region.wanted;cases e:o.guard with
 | none=>rfl
 | some f=>
  obtain⟨j,b⟩:=f;rw[e] at h;have d:j<k:=Xw▸h;have:yielded LL.toArray c j=yielded (LL.take k).toArray c j:=by
   unfold yielded;rw[Xb,Xb,List.getElem?_take,ALifp d]
  simp only[this]
theorem Bw{LL:List Oper}{N:Nat}(B:LL.take N=L)(m:xq N L=true)(h:jy F n P L Q a t)(A:Fence.free F)(r:mf L=true)(s: ∀k,k<L.length→∀j∈t.D k,j<k)
  (g: ∀xs w',gx L a t R base (λ_=>true) xs w'→wpListIn F n P LL.toArray Q (LL.drop N) (br xs L 0 a) w'):
  ∀(d k:Nat) (xs:Nat→Value) (w':World),k+d=L.length→gx L a t R base (λi=>decide (i<k)) xs w'→wpListIn F n P LL.toArray Q (L.drop k++LL.drop N) (br xs L 0 a) w'
 | 0,k,xs,w',D,u=>by
  obtain rfl:k=L.length:=by omega
  rw[List.drop_length,XQ];exact g xs w' (u.congr (λi x=>by simpa using x) (λ_ _=>rfl))
 | d+1,k,xs,w',D,u=>by
  have b:k<L.length:=by omega
  rw[XT b,List.cons_append];have q:L[k]? =some L[k]:=W8 b;have c:=tf h (S:=λi=>decide (i<k)) (xs:=xs) (w':=w') (k:=k) (o:=L[k]) b q (by simp) (λj p=>⟨by have:=s k b j p;omega,by simpa using s k b j p⟩)
   (λi x G j p=>by
    have H:=s i x j p;have I:i<k:=by simpa using G
    exact⟨by omega,by simp;omega⟩) u
   (λv f=>wpListIn F n P LL.toArray Q (L.drop (k+1)++LL.drop N) ((br xs L 0 a).put L[k].dst v) f) (λv f w=>by
    rw[qu v _ 0 a k _ r q,W9];refine Bw B m h A r s g d (k+1) _ f Om (w.congr (λj p=>?_) (λ_ _=>rfl));show(if j=k then true else decide (j<k))=decide (j<k+1);by_cases e:j=k
    ·subst e;simp
    ·rw[ALifn e,decide_eq_decide];omega) A
  have z:Region.wanted L[k] (yielded LL.toArray (br xs L 0 a).tmps)=Region.wanted L[k] (yielded L.toArray (br xs L 0 a).tmps):=by
   rw[Bv (k:=N),B];have:=List.all_eq_true.1 m L[k] (Yj b);revert this;cases L[k].guard with
   | none=>exact λh=>h
   | some K=>exact λh=>h
  unfold wpListIn;rw[z]
  split
  ·rename_i y;rw[ALifp y] at c;exact Oper.wpIn_mono (λC f ⟨v,e,h⟩=>by rw[e];exact h) c
  ·rename_i y;rw[ALifn y] at c;exact c
theorem Bx{LL:List Oper}{N:Nat}(T:LL.take N=L)(G:xq N L=true)(U:N<LL.length)(hs:Region.sinkB .any LL.toArray N=true)(h:jy F n P L Q a t)(hF:Fence.free F)(hc:Region.chainB .any LL.toArray N=true)(hb:mW .any LL.toArray N=true)(V:mW .any LL.toArray 0=true)(hsl:mf L=true)(hD:s9 .any LL.toArray N t.D=true)
  (C: ∀xs w',gx L a t R base (λ_=>true) xs w'→wpListIn F n P LL.toArray Q (LL.drop N) (br xs L 0 a) w'):
  ∀(c g:Nat) (b:Array Bool) (xs:Nat→Value) (w':World),gR b N=c→c+(LL.length-N)≤g→HeadInv .any LL.toArray N b→
   (∀i,i<N→b.getD i false=true→∀j∈t.D i,b.getD j false=true)→gx L a t R base (λi=>b.getD i false) xs w'→wpAnyIn F n P .any LL.toArray Q g b (br xs L 0 a) w'
 | 0,g,b,xs,w',w,hf,p,hk,hI=>by
  have hN:L.length=N:=by rw[←T,WZ];omega
  have m:=wB N w;have u: ∀i,i<N→b.getD i false=true:=by
   intro i x;have q:i<b.size:=by rw[p.size,WQ];omega
   have:=m i x;simp [q] at this⊢;exact this
  exact wx hc hb (LL.length-N) N g b _ w' (by rw[WQ];omega) (W6 _) Om p.size m u p.tail (by simpa using C xs w' (hI.congr (λi x=>u i Om) (λ_ _=>rfl)))
 | c+1,g,b,xs,w',w,hf,p,hk,hI=>by
  have hN:L.length=N:=by rw[←T,WZ];omega
  obtain⟨f,rfl⟩: ∃f,g=f+1:=⟨g-1,by omega⟩;have hun: ∃i,i<N∧b.getD i true=false:=by
   apply XL;intro hno;have m: ∀i,i<N→b.getD i true=true:=λi x=>by
    cases I:b.getD i true with
    | true=>rfl
    | false=>exact(hno ⟨i,x,I⟩).elim
   have: ∀k,k≤N→gR b k=0:=by
    intro k
    induction k with
    | zero=>intro _;rfl
    | succ k ih=>intro h;unfold gR;rw[ih Om,m k Om];rfl
   rw[this N (W6 _)] at w;omega
  obtain⟨i0,W,hu0⟩:=hun;have some:Region.ready .any LL.toArray b=[]→∀d i,i=d→i<N→b.getD i true=true:=by
   intro y d
   induction d using Yr with
   | _ d ih=>
    rintro i rfl x;cases I:b.getD i true with
    | true=>rfl
    | false=>
     exfalso;have D:i<LL.toArray.size:=by rw[WQ];omega
     have Z:LL.toArray[i]? =some LL.toArray[i]:=Array.getElem?_eq_getElem D;have hB:=List.all_eq_true.1 V i (List.mem_range.2 D);rw[Z] at hB;simp only[XR,decide_eq_true_eq,W7,XI,Ys,false_or] at hB;have:i∈Region.ready .any LL.toArray b:=mem_ready.2 ⟨I,_,Z,λe he hbd=>by
      have q:=Array.all_eq_true'.1 hB e he;rw[hbd] at q;have h3:e.on<i:=by simpa using q
      have M:=ih e.on h3 e.on rfl Om;have h5:e.on<b.size:=by rw[p.size,WQ];omega
      rw[Array.getD_eq_getD_getElem?,Array.getElem?_eq_getElem h5] at M⊢;exact M⟩
     rw[y] at this;cases this
  refine⟨λy=>(by have:=some y i0 i0 rfl W;rw[hu0] at this;cases this),λi x=>?_⟩;have z:i<N:=by
   rcases Xd i N with s | s
   ·exact s
   ·exact(tail_waits hs hc (by rw[WQ];exact U) p _ i0 rfl W hu0 i s x).elim
  obtain⟨I,o,ho,m⟩:=mem_ready.1 x;have K:L[i]? =Option.some o:=by rw[←T,XU z,←Xb];exact ho
  have H: ∀j∈t.D i,j<N∧b.getD j false=true:=by
   intro j r;have s:=List.all_eq_true.1 (List.all_eq_true.1 hD i (List.mem_range.2 z)) j r;rw[ho] at s;simp only[W7,XI,WS,decide_eq_true_eq] at s;refine⟨s.1,?_⟩;obtain⟨e,he,q⟩:=Array.any_eq_true'.1 s.2;simp only[WS,XR,beq_iff_eq,decide_eq_true_eq] at q;have h3:=m e he q.1;rcases q.2 with M | ⟨M,h5⟩
   ·rw[←M];exact h3
   ·exact hk e.on M h3 j (by simpa using h5)
  have O: ∀i,i<N→∀j∈t.D i,j<N:=by
   intro i x j r;have s:=List.all_eq_true.1 (List.all_eq_true.1 hD i (List.mem_range.2 x)) j r;simp only[WS,decide_eq_true_eq] at s;exact s.1
  have hSi:b.getD i false=false:=by
   have q:i<b.size:=by rw[p.size,WQ];omega
   simp [q] at I⊢;exact I
  have A:=tf h (S:=λi=>b.getD i false) (xs:=xs) (w':=w') (k:=i) (o:=o) Om K hSi (λj r=>⟨by have:=(H j r).1;omega,(H j r).2⟩) (λi' hi' hs j r=>⟨by have:=O i' Om j r;omega,hk i' Om hs j r⟩) hI
   (λv B=>wpAnyIn F n P .any LL.toArray Q f (b.setIfInBounds i true) ((br xs L 0 a).put o.dst v) B) (λv B hI2=>by
    rw[qu v _ 0 a i o hsl K,W9];refine Bx T G U hs h hF hc hb V hsl hD C c f _ _ B (by have:=wA I N z;omega) Om (p.set x z) ?_ (hI2.congr (λj r=>?_) (λ_ _=>rfl))
    ·intro j r Y j' X;by_cases e:j=i
     ·subst e;exact getD_set_true (H j' X).2
     ·rw[getD_set_ne false (Ne.symm e)] at Y;exact getD_set_true (hk j r Y j' X)
    ·show(if j=i then true else b.getD j false)=_;by_cases e:j=i
     ·subst e;have q:j<b.size:=by rw[p.size,WQ];omega
      simp [q]
     ·rw[ALifn e,getD_set_ne false (Ne.symm e)]) hF
  have hwa:Region.wanted o (yielded LL.toArray (br xs L 0 a).tmps)=Region.wanted o (yielded L.toArray (br xs L 0 a).tmps):=by
   rw[Bv (k:=N),T];have:=List.all_eq_true.1 G o (X2 K);revert this;cases o.guard with
   | none=>exact λh=>h
   | some jb=>exact λh=>h
  unfold wpOpIn;simp only[ho];rw[hwa]
  split
  ·rename_i hw;rw[ALifp hw] at A;exact Oper.wpIn_mono (λa'' B ⟨v,e,h⟩=>by rw[e];exact h) A
  ·rename_i hw;rw[ALifn hw] at A;exact A
def uk(d:Bool)(LL:List Oper)(N:Nat)(D:Nat→List Nat):Bool:=xq N (LL.take N)&&(if d then(Region.sinkB .any LL.toArray N&&decide (N<LL.length))&&Region.chainB .any LL.toArray N&&mW .any LL.toArray N&&mW .any LL.toArray 0&&mf (LL.take N)&&s9 .any LL.toArray N D else mi false (LL.take N) D)
theorem Jq{w:World}(I:Hid (aE R base t.L0 w))(Le:bD→aj)(r: ∀η,(WV t.m).map (λp=>t.at η p L.length)=(Le η).map some):
  (∀xs w',gx L a t R base (λ_=>true) xs w'→∃η,(∀i,i<L.length→t.Is η i (xs i))∧aE R base (Le η) w')∧gx L a t R base (λ_=>false) (jT L a) w∧br (jT L a) L 0 a=a:=by
 refine⟨?_,?_,wz _ 0 a λi o d T K=>by
  unfold jT;rw[W9,T,Yd,K]⟩
 ·intro xs w' ⟨η,c,f,_,s⟩;refine⟨η,λi M=>f i M rfl,?_⟩;have O:(Le η).length=t.m:=by
   have:=ALca Yy (r η);simpa using this.symm
  have B: ∀p,p<t.m→t.at η p L.length=(Le η)[p]? :=by
   intro p U;have:=ALca (λl=>l[p]?) (r η);simp only[XJ,X8 U,W7] at this;cases G:(Le η)[p]? with
   | none=>rw[G] at this;cases this
   | some x=>rw[G] at this;simpa using this
  exact⟨c,by rw[O];exact s.congr B⟩
 ·have C: ∀(H:Nat→Wr) (p N:Nat),de t.L0 H (λ_=>false) p N=t.L0[p]? :=by
   intro H p N
   induction N with
   | zero=>rfl
   | succ N ih=>rw[td (.inl rfl),ih]
  obtain⟨c,m⟩:=I.out;refine⟨λ_=>ab.zero,λp=>if p<t.L0.length then c p else[],λi _ V=>absurd V Bool.false_ne_true,λ_ _ _=>rfl,?_⟩;have e:(λp=>de t.L0 (t.wr λ_=>ab.zero) (λ_=>false) p L.length)=λp=>t.L0[p]? :=by funext p;exact C _ _ _
  rw[e];have g: ∀p,((p<t.L0.length)∧(if p<t.L0.length then c p else[])=c p)∨(¬p<t.L0.length∧(if p<t.L0.length then c p else[])=[]):=λp=>by
   by_cases h:p<t.L0.length
   ·exact .inl ⟨h,ALifp h⟩
   ·exact .inr ⟨h,ALifn h⟩
  refine⟨λp _ x y=>?_,λp _ y=>?_,λp _ z k=>?_,λp _=>?_,λp q _ _ D z k u v=>?_,λp _ z k=>?_,m.os,m.tape,m.output,m.size,m.far⟩
  ·rcases g p with⟨f,b⟩ | ⟨f,b⟩
   ·rw[b];exact m.sat p f x y
   ·exact absurd (List.getElem?_eq_some_iff.1 y).1 f
  ·rcases g p with⟨f,b⟩ | ⟨f,b⟩
   ·rw[b];exact m.nil p f y
   ·exact b
  ·rcases g p with⟨f,b⟩ | ⟨f,b⟩
   ·rw[b] at k;exact m.obj p f z k
   ·rw[b] at k;simp at k
  ·rcases g p with⟨f,b⟩ | ⟨f,b⟩
   ·rw[b];exact m.inn p f
   ·rw[b];exact List.Pairwise.nil
  ·rcases g p with⟨f,b⟩ | ⟨f,b⟩
   ·rw[b] at k;rcases g q with⟨s,A⟩ | ⟨s,A⟩
    ·rw[A] at v;exact m.nd p q f s D z k u v
    ·rw[A] at v;simp at v
   ·rw[b] at k;simp at k
  ·rcases g p with⟨f,b⟩ | ⟨f,b⟩
   ·rw[b] at k;exact m.lo p f z k
   ·rw[b] at k;simp at k
end
end
section
open Go Go.RowKit Go.Shelf
section
variable {F:Fence} {n:Nat} {P:Program} {R:List Nat} {base:World} {Q:Exit→Act→World→Prop} {S:List It} {sz:Nat} {es:Fe} {L:aj} {Ds:List Nat}
def nX(N:Nat)(S:List It)(a:Sl)(b:aj)(hs:bD→List (Nat×b8 P))(η:bD):List (b4 P):=qV ((aw S).take N) a (jz (eR S) ((aw S).take N)) η ((aw S).take N) (hs η) 0 [] (λp=>b[p]?) b.length
def tP(N:Nat)(S:List It)(a:Sl)(b:aj)(m:Nat)(hs:bD→List (Nat×b8 P)):dS:=tj ((aw S).take N) a (jz (eR S) ((aw S).take N)) (qC ((aw S).take N) []) b m (nX N S a b hs)
theorem By[hF:km F](hm:P.follows .mixedOrders=true)(N:Nat)(hs:bD→List (Nat×b8 P))(z:bD→Fe)(dr:List Nat)(Le:bD→aj→aj)
  (G: ∀η b W,Fr ⟨sz,z η++eu dr es⟩ Ds b→aE R base (Le η L++Ds.map mk) W→wpListIn F n P (aw S).toArray (dd F n P Q (bQ S)) ((aw S).drop N) b W)
  (m: ∀η,((lP S,true),(fh ((aw S).take N) ⟨sz,es⟩ (tP N S ⟨sz,es⟩ L (mR Le L) hs) η 0 ((aw S).take N) (nX N S ⟨sz,es⟩ L hs η)).map a9.lhs,uk (eR S) (aw S) N (λk=>(jz (eR S) ((aw S).take N)).getD k []),(WV (mR Le L)).map (λp=>(tP N S ⟨sz,es⟩ L (mR Le L) hs).at η p ((aw S).take N).length),(z η).map (λx=>kO ((aw S).take N) ⟨sz,es⟩ (tP N S ⟨sz,es⟩ L (mR Le L) hs) η x.1),mv ((aw S).take N) es (z η) dr)=
   ((true,true),(fh ((aw S).take N) ⟨sz,es⟩ (tP N S ⟨sz,es⟩ L (mR Le L) hs) η 0 ((aw S).take N) (nX N S ⟨sz,es⟩ L hs η)).map a9.rhs,true,(Le η L).map some,(z η).map (λx=>some x.2),true)):Go F n P R base Q S ⟨sz,es⟩ L Ds:=by
 have K:=ALca (λx=>x.1.1) (m λ_=>ab.zero);have o:=λη=>ALca (λx=>x.2.1) (m η);have f:=ALca (λx=>x.2.2.1) (m λ_=>ab.zero);have q:=λη=>ALca (λx=>x.2.2.2.1) (m η);have r:=λη=>ALca (λx=>x.2.2.2.2.1) (m η);have B:=λη=>ALca (λx=>x.2.2.2.2.2) (m η);simp only at K o f q r B;obtain⟨id,d,Z,hd⟩:=Bm K;subst hd;refine⟨λb W M Y=>dD 1000 S ?_⟩;rw[show dg 1000 S=_ from Z];show(Code.region id (aw S).toArray (eR S)).wpIn F n P (dd F n P Q (bQ S)) b W;obtain⟨I,U,V⟩:=Y.seg;obtain⟨c,y⟩: ∃c,(aw S).take N=c:=⟨_,rfl⟩;unfold tP nX at o q r;unfold uk at f;obtain⟨d,D⟩: ∃d,eR S=d:=⟨_,rfl⟩;rw[y] at o f q r B;rw[D] at o f q r⊢;rw[WS] at f;have u:=Av (F:=F) (n:=n) (Q:=dd F n P Q (bQ S)) M o;obtain⟨s1,O,T⟩:=Jq (a:=b) (t:=tj c ⟨sz,es⟩ (jz d c) (qC c []) L (mR Le L) _) (R:=I) (base:=W) V (λη=>Le η L) q;have g: ∀xs A,gx c b (tj c ⟨sz,es⟩ (jz d c) (qC c []) L (mR Le L) _) I W (λ_=>true) xs A→wpListIn F n P (aw S).toArray (dd F n P Q (bQ S)) ((aw S).drop N) (br xs c 0 b) A:=λxs A X=>by
  obtain⟨η,hx,C⟩:=s1 xs A X;exact G η _ _ (M.region hx (r η) (B η)) (U.out.whole C)
 cases d with
 | false=>
  have h:=f.2;unfold mi at h;simp only[XE,if_false,WS] at h;refine wpIn_region_lit ?_;have s:=Bw (LL:=aw S) (N:=N) y f.1 u hF.free h.1 (λk G j hj=>by simpa using List.all_eq_true.1 (List.all_eq_true.1 h.2 k (List.mem_range.2 G)) j hj) g c.length 0 (jT c b) W Om (O.congr (λi _=>by simp) (λ_ _=>rfl));rw[T,List.drop_zero,←y,XZ] at s;exact s
 | true=>
  have h:=f.2;simp only[if_true,WS,decide_eq_true_eq] at h;obtain⟨⟨⟨⟨⟨⟨q1,q2⟩,q3⟩,q4⟩,q5⟩,q6⟩,q7⟩:=h;refine wpIn_region_any hm ?_;have H: ∀k,gR (Array.replicate (aw S).length false) k≤k:=by
   intro k
   induction k with
   | zero=>exact W6 _
   | succ k ih=>unfold gR;split<;>omega
  have s:=Bx (LL:=aw S) (N:=N) y f.1 q2 q1 u hF.free q3 q4 q5 q6 q7 g _ (aw S).toArray.size (Array.replicate (aw S).length false) (jT c b) W.drew rfl (by rw[WQ];have:=H N;omega)
   ⟨by simp,λj oj _ v e _ _=>(by rw[getD_replicate_false] at v;exact Yk v),λt _ w=>(by rw[WQ] at w;simp [w])⟩ (λi _ v=>(by rw[getD_replicate_false] at v;exact Yk v))
   (O.drew.congr (λi _=>(getD_replicate_false _ _).symm) (λ_ _=>rfl))
  rw[T] at s;simpa using s
def um(LL:List Oper)(e:Fe)(o:Oper):Bool:=match o.guard with
 | none=>true
 | some (j,g)=>(match ((LL[j]?).bind (·.dst)).bind (lk e) with
  | some (.bool c)=>c==g
  | _=>false)
def oQ(e:Fe):Operand→Bool
 | .tmp i=>(lk e i).isSome
 | _=>true
def nY(P:Program)(sz:Nat)(e:Fe)(o:Oper):Value×List a9:=match o.op with
 | .pick c x y=>(match (⟨sz,e⟩:Sl).ev c with
  | .bool b=>((⟨sz,e⟩:Sl).ev (match b with | true=>x | false=>y),[sB (oQ e c&&oQ e (match b with | true=>x | false=>y))])
  | _=>(undef,[sB false]))
 | _=>(match qA o.op with
  | some l=>(xh P o (⟨sz,e⟩:Sl).ev,[sB (mc o&&l.all (oQ e)),sE (λw=>(execOp (⟨sz,e⟩:Sl).ev o).run P w) (λw=> .ok (.value (xh P o (⟨sz,e⟩:Sl).ev)) w)])
  | none=>(undef,[sB false]))
def iH(P:Program)(LL:List Oper)(sz:Nat):List Oper→Fe→Fe×List a9
 | [],e=>(e,[])
 | o::os,e=>match o.dst with
  | some d=>((iH P LL sz os ((d,(nY P sz e o).1)::e)).1,sB (um LL e o)::sB (Xx d sz)::((nY P sz e o).2++(iH P LL sz os ((d,(nY P sz e o).1)::e)).2))
  | none=>([],[sB false])
theorem Fr.put{b:Act}(c:Fr ⟨sz,es⟩ Ds b){d:Nat}(m:d<sz)(v:Value):Fr ⟨sz,(d,v)::es⟩ Ds (b.put (some d) v):=by
 refine⟨(wE _ _ _).trans c.size,λi u h=>?_,(Bj _ _ _).trans c.defers⟩;have k:b.tmps.size=sz:=c.size;show(b.tmps.setIfInBounds d v).getD i undef=u;unfold lk at h
 split at h
 ·rename_i f;cases h;rw[W5 f] at m⊢;simp [k,m]
 ·rename_i f;have g:d≠i:=λe=>by rw[e,Xy] at f;cases f
  have:=c.get i u h;simp only[Array.getD_eq_getD_getElem?] at this⊢;rw[Array.getElem?_setIfInBounds,ALifn g];exact this
theorem nb{b:Act}(c:Fr ⟨sz,es⟩ Ds b){x:Operand}(h:oQ es x=true):b.eval x=(⟨sz,es⟩:Sl).ev x:=c.ev λi d=>by subst d;exact h
theorem Jr[hF:km F]{b:Act}{W:World}{o:Oper}{K:Act→World→Prop}{k:Exit→Act→World→Prop}(g:Fr ⟨sz,es⟩ Ds b)(d: ∀q∈(nY P sz es o).2,q.2.1=q.2.2)(r:K (b.put o.dst (nY P sz es o).1) W):o.wpIn F n P b W K k:=by
 refine Oper.wpIn_mono (λm z ⟨v,e,h⟩=>by rw[e];exact h) (pv (K:=λv w=>K (b.put o.dst v) w) (v:=(nY P sz es o).1) hF.free (w':=W) ?_ ?_ r)
 ·unfold nY at d
  split at d
  ·rename_i c x y f;unfold mc;rw[f]
  ·split at d
   ·simp only[WO,WL,or_false,forall_eq_or_imp,forall_eq,sB,WS] at d;exact d.1.1
   ·exact(bE d).elim
 ·unfold nY at d⊢
  split at d
  ·rename_i c x y f;simp only at d⊢
   split at d
   ·rename_i E p;simp only[WO,WL,or_false,forall_eq,sB,WS] at d;have i:=(nb g d.1).trans p;cases E with
    | true=>exact pq f i (nb g d.2)
    | false=>exact pq f i (nb g d.2)
   ·exact(bE d).elim
  ·split at d
   ·rename_i l s;simp only[WO,WL,or_false,forall_eq_or_imp,forall_eq,sE,sB,WS] at d;rw[Aj s λx u=>nb g (List.all_eq_true.1 d.1.2 x u)];exact congrFun d.2 W
   ·exact(bE d).elim
theorem xr{LL:List Oper}{o:Oper}{b:Act}(f:Fr ⟨sz,es⟩ Ds b)(h1:um LL es o=true):Region.wanted o (yielded LL.toArray b.tmps)=true:=by
 unfold um at h1;unfold Region.wanted;cases k:o.guard with
 | none=>rfl
 | some s=>
  obtain⟨j,g⟩:=s;rw[k] at h1;simp only at h1⊢
  split at h1
  ·rename_i c i;obtain⟨q,p,m⟩:=Option.bind_eq_some_iff.1 i;have e:=f.get q _ m;have d:q<b.tmps.size:=by
    rcases Xd q b.tmps.size with h | h
    ·exact h
    ·rw[Array.getD_eq_getD_getElem?,Array.getElem?_eq_none h] at e;cases e
   have r:yielded LL.toArray b.tmps j=some c:=by
    unfold yielded;rw[Xb,p];simp only[Yd];rw[Array.getD_eq_getD_getElem?,Array.getElem?_eq_getElem d] at e;rw[Array.getElem?_eq_getElem d];simp only[XI] at e;rw[e]
   rw[r,eq_of_beq h1];simp
  ·cases h1
theorem rj[hF:km F]{LL:List Oper}{W:World}{i:Exit→Act→World→Prop}: ∀{os:List Oper} {es:Fe} {b:Act},Fr ⟨sz,es⟩ Ds b→(∀q∈(iH P LL sz os es).2,q.2.1=q.2.2)→(∀k,Fr ⟨sz,(iH P LL sz os es).1⟩ Ds k→i .normal k W)→wpListIn F n P LL.toArray i os b W
 | [],es,b,e,_,f=>f b e
 | o::os,es,b,e,c,f=>by
  unfold iH at c f;cases g:o.dst with
  | none=>rw[g] at c;exact(bE c).elim
  | some d=>
   rw[g] at c f;simp only[WO,Xn,forall_eq_or_imp,sB] at c;obtain⟨p,r,m⟩:=c;have s:=xr (LL:=LL) e p;unfold wpListIn;rw[ALifp s];refine Jr (F:=F) e (λq h=>m q (.inl h)) ?_;rw[g];exact rj (e.put (Xw▸r) _) (λq h=>m q (.inr h)) f
def rl:Nat→List It→Fe→Bool
 | 0,_,_=>false
 | k+1,S,e=>match nf S with
  | .c .ret::_=>true
  | .c (.cond c x y)::S'=>oQ e c&&(match (⟨0,e⟩:Sl).ev c with
   | .bool b=>rl k (.c (match b with | true=>x | false=>y)::S') e
   | _=>false)
  | _=>false
theorem xu: ∀(k:Nat) {S:List It} {b:Act} {W:World},rl k S es=true→Fr ⟨sz,es⟩ Ds b→Q .ret b W→dd F n P Q S .normal b W
 | 0,_,_,_,h,_,_=>by cases h
 | k+1,S,b,W,h,i,g=>by
  unfold rl at h;refine dD 1000 S ?_
  split at h
  ·rename_i o e;rw[show dg 1000 S=_ from e];exact wpIn_ret (gU g)
  ·rename_i c x y o e;rw[show dg 1000 S=_ from e];rw[WS] at h;obtain⟨p,d⟩:=h
   split at d
   ·rename_i E q;have m:=(nb i p).trans q;have f:=xu k d i g;cases E with
    | true=>exact wpIn_cond m f
    | false=>exact wpIn_cond m f
   ·cases d
  ·cases h
def rm(P:Program)(fn:Func)(J Jx:Nat→(Nat→Prop)→World→Prop)(KO:ay)(W0:World)(N:Nat):Exit→Act→World→Prop:=
 bodyPostM Fence.wide 5 P fn λe b=>(∃v,e= .returned v)∧((∃L,fI J KO W0 L N b)∨∃i,i<N∧∃c,Jx (i+1) c b)
def xv{α:Type}(P:Program)(l:Nat)(J Jx:Nat→(Nat→Prop)→World→Prop)(KO:ay)(W0:World)(encs:α→Array Value)(xs:List α):Prop:=
 ∀(L:ay) (j:Nat) (x:α) (wr:World),xs[j]? =some x→fI J KO W0 L j wr→YieldAt Fence.wide 4 P l (encs x) wr λe b=>(e= .returned (.bool true)∧fI J KO W0 L (j+1) b)∨(e= .returned (.bool false)∧∃c,Jx (j+1) c b)
section
variable {α:Type} {gf:Nat} {fn:Func} {lb:Array Value} {encs:α→Array Value} {xs:List α} {KO:List ay} {J Jx:Nat→(Nat→Prop)→World→Prop} {W0:World} {l j:Nat}
theorem gi(hf:P.funcs[gf]? =some fn)(h: ∀l J Jx W0 R,gH J→xv P l J Jx KO.flatten W0 encs xs→Hid (fx J KO W0 0 R W0)→Go Fence.wide 5 P R W0 (rm P fn J Jx KO.flatten W0 xs.length) [.c (kt fn)] ⟨fn.ntmps,nW 0 (.func (.yield l) #[] #[]::lb.toList)⟩ (KO.map .c) [])
  (f:(fn.body.isSome,Yb (lb.size+1) fn.ntmps)=(true,true):=by kernel_rfl):e4 5 P gf lb encs xs KO.flatten:=by
 refine HN λl J Jx W q s k=>?_;obtain⟨R,p,r⟩:=jc.start (jc.zero k.out);obtain⟨c,e⟩:=Option.isSome_iff_exists.1 (ALca (·.1) f);have w:lb.size+1≤fn.ntmps:=Xz (ALca (·.2) f);refine callsIn_of_wp_marks hf e trivial ?_ rfl;have g:(#[Value.func (.yield l) #[] #[]]++lb).size=lb.size+1:=by simp;omega
 have d:=(h l J Jx W R q s.out p).out {tmps:=(#[Value.func (.yield l) #[] #[]]++lb)++Array.replicate (fn.ntmps-(#[Value.func (.yield l) #[] #[]]++lb).size) undef,defers:=[]} W ⟨by rw[Array.size_append,g,Array.size_replicate];show _=fn.ntmps;omega,λi v u=>?_,rfl⟩ (by simpa using r.out)
 ·rw[show kt fn=c by unfold kt;rw[e];rfl] at d;exact d
 ·obtain⟨_,b⟩:=qY u;rw[Xq] at b;have m:i<lb.size+1:=by have:=(List.getElem?_eq_some_iff.1 b).1;simpa using this
  have o:(#[Value.func (.yield l) #[] #[]]++lb)[i]? =some v:=by rw[←Array.getElem?_toList];simpa using b
  rw[Array.getD_eq_getD_getElem?,Array.getElem?_append_left (by rw[g];exact m),o];rfl
theorem gG{XO:ay}(hf:P.funcs[gf]? =some fn)(h: ∀l J Jx W0 R,gH J→xv P l J Jx KO.flatten W0 encs xs→Hid (fx J KO W0 0 R W0)→Go Fence.wide 5 P R W0 (rm P fn J Jx KO.flatten W0 xs.length) [.c (kt fn)] ⟨fn.ntmps,nW 0 (.func (.yield l) #[] #[]::lb.toList)⟩ (KO.map .c++[aA.c XO]) [])
  (f:(fn.body.isSome,Yb (lb.size+1) fn.ntmps)=(true,true):=by kernel_rfl):pC 5 P gf lb encs xs KO.flatten XO:=by
 refine HO λl J Jx W q s k=>?_;obtain⟨R,p,r⟩:=jc.start (LE:=[aA.c XO]) ⟨[XO],⟨rfl,trivial⟩,by simpa using k.out⟩;obtain⟨c,e⟩:=Option.isSome_iff_exists.1 (ALca (·.1) f);have w:lb.size+1≤fn.ntmps:=Xz (ALca (·.2) f);refine callsIn_of_wp_marks hf e trivial ?_ rfl;have g:(#[Value.func (.yield l) #[] #[]]++lb).size=lb.size+1:=by simp;omega
 have d:=(h l J Jx W R q s.out p).out {tmps:=(#[Value.func (.yield l) #[] #[]]++lb)++Array.replicate (fn.ntmps-(#[Value.func (.yield l) #[] #[]]++lb).size) undef,defers:=[]} W ⟨by rw[Array.size_append,g,Array.size_replicate];show _=fn.ntmps;omega,λi v u=>?_,rfl⟩ (by simpa using r.out)
 ·rw[show kt fn=c by unfold kt;rw[e];rfl] at d;exact d
 ·obtain⟨_,b⟩:=qY u;rw[Xq] at b;have m:i<lb.size+1:=by have:=(List.getElem?_eq_some_iff.1 b).1;simpa using this
  have o:(#[Value.func (.yield l) #[] #[]]++lb)[i]? =some v:=by rw[←Array.getElem?_toList];simpa using b
  rw[Array.getD_eq_getD_getElem?,Array.getElem?_append_left (by rw[g];exact m),o];rfl
theorem xw(W:World):aE (bN ([]:List ay).flatten) W [] W:=aE.start (cs:=[]) trivial ⟨λ_ h=>by simp at h,List.Pairwise.nil⟩
theorem Bz{N:Nat}{b:Act}{W:World}{KO:ay}(c:fn.results.toList=[])(e:b.defers=[])(h:(∃L,fI J KO W0 L N W)∨∃i,i<N∧∃d,Jx (i+1) d W):rm P fn J Jx KO W0 N .ret b W:=by
 show LeavesInM Fence.wide 5 P fn b.tmps _ b.defers .returning W;rw[e];exact HK (Lib.hid (xw W)) [] (by rw[c];rfl) λ_=>⟨⟨_,rfl⟩,h⟩
def BA(S:List It)(N:Nat):Option Oper:=(aw S)[N]?
def je(S:List It)(N:Nat):Nat:=match BA S N with | some o=>o.dst.getD 0 | none=>0
def uq(S:List It)(N l sz:Nat)(e:Fe)(vs:List Value):Bool×Option (List Value)×Option Value:=match BA S N with
 | some o=>(match o.op with
  | .call ⟨.value x,b,_⟩=>(um (aw S) e o&&oQ e x&&b.toList.all (oQ e)&&o.dst.isSome&&Xx (o.dst.getD 0) sz,some (b.toList.map (⟨sz,e⟩:Sl).ev),some ((⟨sz,e⟩:Sl).ev x))
  | _=>(false,none,none))
 | none=>(false,none,none)
theorem iy[hR:Rt Q (rm P fn J Jx KO.flatten W0 xs.length)](hJ:gH J)(hY:xv P l J Jx KO.flatten W0 encs xs)(hI:Hid (fx J KO W0 j R base))(N:Nat)(hs:bD→List (Nat×b8 P))(h:bD→Fe)(dr:List Nat)(Le:bD→aj→aj)(LE:bD→aj)(ps:List Nat){x:α}(hx:xs[j]? =some x)
  (hk: ∀η H r,Hid (fx J KO W0 (j+1) H r)→Go Fence.wide 5 P H r Q (bQ S) ⟨sz,(iH P (aw S) sz ((aw S).drop (N+1)) ((je S N,.bool true)::(h η++eu dr es))).1⟩ (KO.map .c++LE η) [])
  (he: ∀η,((lP S,true),(fh ((aw S).take N) ⟨sz,es⟩ (tP N S ⟨sz,es⟩ L (mR Le L) hs) η 0 ((aw S).take N) (nX N S ⟨sz,es⟩ L hs η)).map a9.lhs,uk (eR S) (aw S) N (λk=>(jz (eR S) ((aw S).take N)).getD k []),(WV (mR Le L)).map (λp=>(tP N S ⟨sz,es⟩ L (mR Le L) hs).at η p ((aw S).take N).length),(h η).map (λx=>kO ((aw S).take N) ⟨sz,es⟩ (tP N S ⟨sz,es⟩ L (mR Le L) hs) η x.1),mv ((aw S).take N) es (h η) dr)=
   ((true,true),(fh ((aw S).take N) ⟨sz,es⟩ (tP N S ⟨sz,es⟩ L (mR Le L) hs) η 0 ((aw S).take N) (nX N S ⟨sz,es⟩ L hs η)).map a9.rhs,true,(Le η L).map some,(h η).map (λx=>some x.2),true):=by intro _;kernel_rfl)
  (K: ∀η,(uq S N l sz (h η++eu dr es) (encs x).toList,(iH P (aw S) sz ((aw S).drop (N+1)) ((je S N,.bool true)::(h η++eu dr es))).2.map a9.lhs,(iH P (aw S) sz ((aw S).drop (N+1)) ((je S N,.bool false)::(h η++eu dr es))).2.map a9.lhs,rl 10 (bQ S) (iH P (aw S) sz ((aw S).drop (N+1)) ((je S N,.bool false)::(h η++eu dr es))).1)=
   ((true,some (encs x).toList,some (.func (.yield l) #[] #[])),(iH P (aw S) sz ((aw S).drop (N+1)) ((je S N,.bool true)::(h η++eu dr es))).2.map a9.rhs,(iH P (aw S) sz ((aw S).drop (N+1)) ((je S N,.bool false)::(h η++eu dr es))).2.map a9.rhs,true):=by intro _;kernel_rfl)
  (hp: ∀η,(dc (ps.map λp=>[p]).flatten,(ps.map λp=>[p]).map λg=>g.map λp=>(Le η L)[p]?)=(true,((KO.map aA.c++LE η).map λx=>[x]).map λN=>N.map some):=by intro _;kernel_rfl) (D:fn.results.toList=[]:=by kernel_rfl) (hm:P.follows .mixedOrders=true:=by kernel_rfl):Go Fence.wide 5 P R base Q S ⟨sz,es⟩ L []:=by
 refine By hm N hs h dr Le (λη b W A hO=>?_) he;have f:=ALca (λx=>x.1) (K η);have u:=ALca (λx=>x.2.1) (K η);have v:=ALca (λx=>x.2.2.1) (K η);have w:=ALca (λx=>x.2.2.2) (K η);simp only at f u v w;have hO':aE R base (KO.map .c++LE η) W:=aE.pick (by simpa using hO) ps _ (hp η);obtain⟨ds,hds,hIS⟩:=fx.step hI hJ hO';obtain⟨V,z,O,U,G,m⟩:=hY ds.flatten j x W hx hIS;unfold uq at f
 split at f
 ·rename_i o ho
  split at f
  ·rename_i xo M ats C;simp only[Prod.mk.injEq,WS,Option.some.injEq] at f;obtain⟨⟨⟨⟨⟨g1,g2⟩,g3⟩,g4⟩,I⟩,g6,g7⟩:=f;obtain⟨d,B⟩:=Option.isSome_iff_exists.1 g4;have y:je S N=d:=by unfold je;rw[ho];simp [B]
   have hdr:(aw S).drop N=o::(aw S).drop (N+1):=by
    obtain⟨hlt,e⟩:=List.getElem?_eq_some_iff.1 (show(aw S)[N]? =some o from ho);rw[XT hlt,e]
   rw[hdr];have hw:Region.wanted o (yielded (aw S).toArray b.tmps)=true:=xr A g1;unfold wpListIn;rw[ALifp hw];have hxo:b.eval xo= .func (.yield l) #[] #[]:=(nb A g2).trans g7;have hag:M.map b.eval=encs x:=by
    apply Array.toList_inj.1;rw[Array.toList_map,←g6];exact XD λq hq=>nb A (List.all_eq_true.1 g3 q hq)
   have s:(execOp b.eval o).run P W= .ok (.round l V z O U) W:=by
    unfold execOp;simp only[C,resolve,hxo,Deferred.ofValue,Xe,Xf,WW,invoke];rw[hag];simpa using G
   unfold Oper.wpIn;refine⟨λ_ _=>trivial,?_⟩;rw[Oper.semAt_plain Fence.wide _ o (λc hc=>by rw[C] at hc;cases hc),s,Oper.uponIn_round];refine⟨λ_=>by omega,m.mono ?_⟩;rintro e r (⟨rfl,X⟩ | ⟨rfl,O',X⟩)
   ·rw[y] at u;obtain⟨H,Z,hO3⟩:=jc.start (J:=J) (Os:=KO) (W0:=W0) (LE:=LE η) (j:=j+1) ⟨ds,hds,X⟩;have h4:=hk η H r Z;rw[y] at h4;show wpListIn Fence.wide 5 P (aw S).toArray _ ((aw S).drop (N+1)) (b.put o.dst (.bool true)) r;rw[B];have Y:d<sz:=by rw[B] at I;exact Xw▸I
    exact rj (A.put Y _) (a9.all u) λT i=>h4.out T r i (by simpa using hO3.out)
   ·rw[y] at v w;show wpListIn Fence.wide 5 P (aw S).toArray _ ((aw S).drop (N+1)) (b.put o.dst (.bool false)) r;rw[B];have Y:d<sz:=by rw[B] at I;exact Xw▸I
    exact rj (A.put Y _) (a9.all v) λT i=>xu 10 w i (hR.out T r (Bz D (by rw[i.defers];rfl) (.inr ⟨j,(List.getElem?_eq_some_iff.1 hx).1,O',X⟩)))
  ·simp at f
 ·simp at f
theorem kT(k:gH J)(i:Hid (fx J KO W0 j R base))(r:j=xs.length)(LE:aj)(f:List Nat)
  (hp:(dc (f.map λp=>[p]).flatten,(f.map λp=>[p]).map λg=>g.map λp=>L[p]?)=(true,((KO.map aA.c++LE).map λx=>[x]).map λN=>N.map some):=by kernel_rfl) (d:fn.results.toList=[]:=by kernel_rfl) (o:(nf S).isEmpty=true:=by kernel_rfl):Go Fence.wide 5 P R base (rm P fn J Jx KO.flatten W0 xs.length) S ⟨sz,es⟩ L []:=by
 refine⟨λb W q m=>dD 1000 S ?_⟩;have e:aE R base (KO.map .c++LE) W:=aE.pick (by simpa using m) f _ hp;have h:=jc.leaf (fx.step i k e);rw[show dg 1000 S=[] from List.isEmpty_iff.1 o];exact Bz d (by rw[q.defers];rfl) (.inl (by rw[←r];exact h))
end
section
variable {J:Nat→(Nat→Prop)→World→Prop} {KO:List ay} {W0:World}
def BB(J:Nat→(Nat→Prop)→World→Prop)(KO:List ay)(W0:World)(I:Nat→Prop)(e:Nat→Fe)(d:Nat→aj)(m c:Nat→Nat)(sz:Nat)(st:Fe)(i:Nat)(b:Act)(W:World):Prop:=∃(k:Nat) (R:List Nat) (base:World),I k∧Hid (fx J KO W0 (c k) R base)∧m k<i∧Fr ⟨sz,e k++st⟩ [] b∧aE R base (d k) W
def ur(P:Program)(J:Nat→(Nat→Prop)→World→Prop)(KO:List ay)(W0:World)(Q:Exit→Act→World→Prop)(S:List It)(I:Nat→Prop)(e:Nat→Fe)(d:Nat→aj)(m c:Nat→Nat)(sz:Nat)(st:Fe)(i:Nat):Exit→Act→World→Prop
 | .normal,b,W=>BB J KO W0 I e d m c sz st i b W
 | x,b,W=>dd Fence.wide 5 P Q S x b W
theorem jX(I:Nat→Prop)(e:Nat→Fe)(p:Nat→aj→aj)(m c:Nat→Nat)(f:Nat)(h0:I f)(z:Hid (fx J KO W0 (c f) R base))(r:((e f).map λx=>lk es x.1)=(e f).map λx=>some x.2)(A:L=p f L)
  (M: ∀(k:Nat) (q:List Nat) (d:World),I k→Hid (fx J KO W0 (c k) q d)→Go Fence.wide 5 P q d (ur P J KO W0 Q (bQ S) I e (λk=>p k L) m c sz (iF S es) (m k)) [.c (fU S)] ⟨sz,e k++iF S es⟩ (p k L) []) (B:m8 S=true:=by kernel_rfl):Go Fence.wide 5 P R base Q S ⟨sz,es⟩ L []:=by
 classical
 refine⟨λb W C s=>dD 1000 S ?_⟩;rw[show dg 1000 S=_ from tX B];show(Code.loop (fU S)).wpIn Fence.wide 5 P (dd Fence.wide 5 P Q (bQ S)) b W
 let g:Nat→Act→World→Prop:=BB J KO W0 I e (λk=>p k L) m c sz (iF S es)
 let μ:Act→World→Nat:=λb W=>if h: ∃j,g j b W then Xr (kP h) else 0
 have w: ∀b W,(∃j,g j b W)→g (μ b W) b W∧∀i,i<μ b W→¬g i b W:=by
  intro b W h;have e:μ b W=Xr (kP h):=dif_pos h;rw[e];exact XS (kP h)
 refine wpIn_loop (λb W=>∃j,g j b W) μ ⟨m f+1,f,R,base,h0,z,Yo _,Fr.stay (a:=⟨sz,es⟩) C r,by have h:=s;rw[A] at h;simpa using h⟩ λb W o=>?_;obtain⟨k,q,d,G,y,K,D,s⟩:=(w b W o).1;refine wpIn_mono (show(fU S).wpIn Fence.wide 5 P _ b W from(M k q d G y).out b W D (by simpa using s)) λe v u r=>?_;cases e with
 | normal=>
  have o:g (m k) v u:=r;exact⟨⟨_,o⟩,XH (XN λH=>(w v u ⟨_,o⟩).2 _ H o) K⟩
 | _=>exact r
theorem iI{I:Nat→Prop}{e:Nat→Fe}{h:Nat→aj}{m c:Nat→Nat}{o:List It}{d:Nat}{st:Fe}{i:Nat}(k:Nat)(q:I k)(hC:Hid (fx J KO W0 (c k) R base))(y:m k<i)(w:((e k++st).map λx=>lk es x.1)=(e k++st).map λx=>some x.2)(f:List Nat)(r:(dc (f.map λp=>[p]).flatten,(f.map λp=>[p]).map λg=>g.map λp=>L[p]?)=(true,((h k).map λx=>[x]).map λN=>N.map some))(u:(nf S).isEmpty=true:=by kernel_rfl)(z:sz=d:=by rfl):
  Go Fence.wide 5 P R base (ur P J KO W0 Q o I e h m c d st i) S ⟨sz,es⟩ L []:=by
 subst z;refine⟨λb W v s=>dD 1000 S ?_⟩;rw[show dg 1000 S=[] from List.isEmpty_iff.1 u];exact⟨k,R,base,q,hC,y,Fr.told (a:=⟨sz,es⟩) v w,aE.pick (by simpa using s) f _ r⟩
theorem jY{I:Nat→Prop}{e:Nat→Fe}{k:Nat→aj}{m c:Nat→Nat}{d:List It}{f:Nat}{st:Fe}{i:Nat}(h:Go Fence.wide 5 P R base Q ((jd S d).getD []) ⟨sz,es⟩ L [])(p:(jd S d).isSome=true:=by kernel_rfl):Go Fence.wide 5 P R base (ur P J KO W0 Q d I e k m c f st i) S ⟨sz,es⟩ L []:=by
 obtain⟨r,g⟩:=Option.isSome_iff_exists.1 p;rw[g] at h;exact⟨λb W q o=>tY g (h.out b W q o) λ_=>rfl⟩
instance {P:Program} {J:Nat→(Nat→Prop)→World→Prop} {KO:List ay} {W0:World} {Q Q0:Exit→Act→World→Prop} {I:Nat→Prop} {e:Nat→Fe} {LI:Nat→aj} {m c:Nat→Nat} {S0:List It} {sz0:Nat} {st:Fe} {i:Nat} [h:Rt Q Q0]:Rt (ur P J KO W0 Q S0 I e LI m c sz0 st i) Q0:=⟨λb W hq=>gU (S:=S0) (h.out b W hq)⟩
def WH(J:Nat→(Nat→Prop)→World→Prop)(KO:List ay)(W0:World)(I:Nat→Value→Prop)(e:Nat→Value→Fe)(d:Nat→Value→aj)(m c:Nat→Value→Nat)(sz:Nat)(st:Fe)(i:Nat)(b:Act)(W:World):Prop:=∃(k:Nat) (u:Value) (R:List Nat) (base:World),I k u∧Hid (fx J KO W0 (c k u) R base)∧m k u<i∧Fr ⟨sz,e k u++st⟩ [] b∧aE R base (d k u) W
def WI(P:Program)(J:Nat→(Nat→Prop)→World→Prop)(KO:List ay)(W0:World)(Q:Exit→Act→World→Prop)(S:List It)(I:Nat→Value→Prop)(e:Nat→Value→Fe)(d:Nat→Value→aj)(m c:Nat→Value→Nat)(sz:Nat)(st:Fe)(i:Nat):Exit→Act→World→Prop
 | .normal,b,W=>WH J KO W0 I e d m c sz st i b W
 | x,b,W=>dd Fence.wide 5 P Q S x b W
instance {P:Program} {J:Nat→(Nat→Prop)→World→Prop} {KO:List ay} {W0:World} {Q Q0:Exit→Act→World→Prop} {I:Nat→Value→Prop} {e:Nat→Value→Fe} {LI:Nat→Value→aj} {m c:Nat→Value→Nat} {S0:List It} {sz0:Nat} {st:Fe} {i:Nat} [h:Rt Q Q0]:Rt (WI P J KO W0 Q S0 I e LI m c sz0 st i) Q0:=⟨λb W hq=>gU (S:=S0) (h.out b W hq)⟩
end
end
end
section
open Go Go.RowKit Go.Shelf
theorem fk{P:Program}{T:TypeId}{x y:Operand}{w:World}{yk:IntKind}{a:Int}(n:Nat)(b:n≤64)(h0: -9223372036854775808≤a*2^n)(h1:a*2^n≤9223372036854775807):(av .shl T x y (.int .i64 a) (.int yk (n:Int))).run P w= .ok (.int .i64 (a*2^n)) w:=by
 have e:IntKind.i64.wrap (a*2^n)=a*2^n:=IntWalk.i64_in _ Om;unfold av;simp only[Xe,eqGuard_shl,Xf,WW,binOp_shl,shift_shl_i64 _ _ _ (Yh n) Om,Xi,e]
theorem Js(a b k:Nat)(g:a%2^k=0)(j:b<2^k)(h:a+b<9223372036854775808):bits .or .i64 (a:Int) (b:Int)=((a+b:Nat):Int):=by
 have d: ∀c:Nat,c<9223372036854775808→(BitVec.ofInt 64 (c:Int)).toNat=c:=by
  intro c l;rw[BitVec.ofInt_natCast,BitVec.toNat_ofNat];exact WX Om
 show IntKind.i64.wrap ((BitVec.ofInt 64 (a:Int)||| BitVec.ofInt 64 (b:Int)).toNat:Int)=_;rw[BitVec.toNat_or,d a Om,d b Om];have e:a||| b=a+b:=by
  have f:=Nat.div_add_mod a (2^k);rw[g,Xs] at f;rw[←f];exact(Nat.two_pow_add_eq_or_of_lt j (a/2^k)).symm
 rw[e];exact IntWalk.i64_in _ Om
theorem pM{P:Program}{T:TypeId}{x y:Operand}{w:World}{a b:Int}(k M:Nat)(d:2^k=M)(h0:0≤a)(f:a%(M:Int)=0)(c:0≤b)(g:b<(M:Int))(h:a+b<9223372036854775808):(av .or T x y (.int .i64 a) (.int .i64 b)).run P w= .ok (.int .i64 (a+b)) w:=by
 obtain⟨m,rfl⟩:=XW h0;obtain⟨n,rfl⟩:=XW c;have e:=Js m n k (by rw[d];omega) (by rw[d];omega) Om;rw[show((m:Int)+(n:Int))=((m+n:Nat):Int) by omega,←e];rfl
theorem Jt(x:Int)(k:Nat)(c:k≤64):(((x%18446744073709551616).toNat%2^k:Nat):Int)=x%((2^k:Nat):Int):=by
 have b:((2^k:Nat):Int)∣18446744073709551616:=by
  have h:2^k∣18446744073709551616:=(show(18446744073709551616:Nat)=2^64 by decide)▸Nat.pow_dvd_pow 2 c;exact Int.natCast_dvd_natCast.2 h
 rw[Yp,Int.toNat_of_nonneg (Yt _ Dc),Int.emod_emod_of_dvd _ b]
theorem Ju(x:Int)(k m:Nat)(b:2^k=m)(d:k≤62)(h1:0<m)(h2:m≤4611686018427387904):bits .and .i64 x ((m-1:Nat):Int)=x%(m:Int):=by
 show IntKind.i64.wrap ((BitVec.ofInt 64 x&&& BitVec.ofInt 64 ((m-1:Nat):Int)).toNat:Int)=_;have e:(BitVec.ofInt 64 ((m-1:Nat):Int)).toNat=2^k-1:=by
  rw[BitVec.ofInt_natCast,BitVec.toNat_ofNat,b];exact WX Om
 have c:=Jt x k Om;rw[b] at c;rw[BitVec.toNat_and,e,Nat.and_two_pow_sub_one_eq_mod,BitVec.toNat_ofInt,b];rw[show(x%((2^64:Nat):Int))=x%18446744073709551616 from rfl,c];have f:0≤x%(m:Int):=Yt _ Om;have g:x%(m:Int)<(m:Int):=Int.emod_lt_of_pos _ Om;exact IntWalk.i64_in _ Om
theorem mA{P:Program}{T:TypeId}{y z:Operand}{w:World}(x:Int)(k m:Nat)(c:2^k=m)(b:k≤62)(h1:0<m)(h2:m≤4611686018427387904):(av .and T y z (.int .i64 x) (.int .i64 ((m-1:Nat):Int))).run P w= .ok (.int .i64 (x%(m:Int))) w:=by
 rw[←Ju x k m c b h1 h2];rfl
section
variable {P:Program} {T:TypeId} {x y:Operand} {w:World}
theorem BC{a b:Nat}(c:a<18446744073709551616)(d:b<18446744073709551616):(av .and T x y (.int .u64 (a:Int)) (.int .u64 (b:Int))).run P w= .ok (.int .u64 ((a&&& b:Nat):Int)) w:=by
 rw[←u64_and_nat a b c d];rfl
theorem Jv{a b:Nat}(c:a<4294967296)(d:b<4294967296):(av .and T x y (.int .u32 (a:Int)) (.int .u32 (b:Int))).run P w= .ok (.int .u32 ((a&&& b:Nat):Int)) w:=by
 rw[←u32_and_nat a b c d];rfl
theorem Jw{a b:Nat}(c:a<256)(d:b<256):(av .and T x y (.int .u8 (a:Int)) (.int .u8 (b:Int))).run P w= .ok (.int .u8 ((a&&& b:Nat):Int)) w:=by
 rw[←u8_and_nat a b c d];rfl
theorem Jy{a b:Nat}(h:b≤a)(d:a<18446744073709551616):(av .sub T x y (.int .u64 (a:Int)) (.int .u64 (b:Int))).run P w= .ok (.int .u64 ((a-b:Nat):Int)) w:=by
 have c:IntKind.u64.wrap ((a:Int)-b)=((a-b:Nat):Int):=by rw[IntKind.wrap_u64];omega
 rw[←c];rfl
theorem Jz{a b:Nat}(h:b≤a)(d:a<4294967296):(av .sub T x y (.int .u32 (a:Int)) (.int .u32 (b:Int))).run P w= .ok (.int .u32 ((a-b:Nat):Int)) w:=by
 have c:IntKind.u32.wrap ((a:Int)-b)=((a-b:Nat):Int):=by rw[X9];omega
 rw[←c];rfl
theorem JA{a b:Nat}(h:b≤a)(d:a<256):(av .sub T x y (.int .u8 (a:Int)) (.int .u8 (b:Int))).run P w= .ok (.int .u8 ((a-b:Nat):Int)) w:=by
 have c:IntKind.u8.wrap ((a:Int)-b)=((a-b:Nat):Int):=by rw[Ye];omega
 rw[←c];rfl
theorem BD{a:Nat}(c:a<18446744073709551616):(av .and T x y (.int .u64 (a:Int)) (.int .u64 1)).run P w= .ok (.int .u64 ((a%2:Nat):Int)) w:=by
 have h:=BC (P:=P) (T:=T) (x:=x) (y:=y) (w:=w) (a:=a) (b:=1) c Om;rwa [Nat.and_one_is_mod] at h
theorem BE{a:Nat}:(av .and T x y (.int .i64 (a:Int)) (.int .i64 1)).run P w= .ok (.int .i64 ((a%2:Nat):Int)) w:=by
 have h:=mA (P:=P) (T:=T) (y:=x) (z:=y) (w:=w) (a:Int) 1 2 Dc Dc Dc Dc;exact h
end
section
variable {P:Program} {T:TypeId} {x y:Operand} {w:World}
theorem uu{yk:IntKind}{a:UInt8}(n:Nat)(b:n≤8):(av .shl T x y (.int .u8 (a.toNat:Int)) (.int yk (n:Int))).run P w= .ok (.int .u8 ((UInt8.ofNat (a.toNat*2^n)).toNat:Int)) w:=by
 have e:IntKind.u8.wrap ((a.toNat:Int)*2^n)=((UInt8.ofNat (a.toNat*2^n)).toNat:Int):=by
  rw[Xp,Ye,Yp,Int.natCast_mul,Int.natCast_pow];rfl
 rw[←e];generalize (a.toNat:Int)=A;unfold av;simp only[Xe,eqGuard_shl,Xf,WW,binOp_shl,shift_shl_u8 _ _ _ (Yh n) Om,Xi]
end
theorem lQ{P:Program}{T:TypeId}{x y:Operand}{w:World}{a b:Nat}(h:b≤a)(c:a≤9223372036854775807):(av .sub T x y (.int .i64 (a:Int)) (.int .i64 (b:Int))).run P w= .ok (.int .i64 ((a-b:Nat):Int)) w:=by
 rw[show((a-b:Nat):Int)=(a:Int)-(b:Int) by omega];exact qy Om Om
section
variable {A R R' C cs cs':List Value} {a i:Nat} {v:Value}
theorem JB(e:cs=A++(R++C))(hA:A.length=a)(h:R.toArray[i]? =some v):cs.toArray[a+i*1]? =some v:=by
 rw[Xb] at h⊢;rw[e,Xc,WY Om,show a+i-A.length=i by omega,Xu (List.getElem?_eq_some_iff.1 h).1];exact h
theorem JC(e:cs=A++(R++C))(hA:A.length=a)(b:i<R.toArray.size):a+i*1<cs.toArray.size:=by
 rw[WQ] at b⊢;rw[e,WN,WN];omega
theorem JD(e:cs=A++(R++C))(c:cs'=A++(R'++C))(hA:A.length=a)(b:i<R.toArray.size)(h:R.toArray.setIfInBounds i v=R'.toArray):cs.toArray.setIfInBounds (a+i*1) v=cs'.toArray:=by
 rw[WQ] at b;rw[List.setIfInBounds_toArray] at h⊢;have d:R.set i v=R':=ALca Array.toList h;rw[e,c,Xc,List.set_append_right _ _ Om,show a+i-A.length=i by omega,List.set_append_left _ _ b,d]
end
theorem ku{n:Nat}{xs:List UInt8}:(rB n xs).length=n:=(oI (k:=1) λ_=>rfl).trans (Xc n)
theorem JE{P:Program}{T:TypeId}{w:World}{K:IntKind}{g off k s N:Nat}(b:(P.underlying T,P.arrayLen T,iY P (P.elem T))=(some (.array N (P.elem T)),N,some s))(d:k<N):(Instr.indexAt T (.pointer (some ⟨g,off,none⟩)) (.int K (k:Int))).run P w= .ok (.pointer (some ⟨g,off+k*s,none⟩)) w:=by
 have c:P.arrayLen T=N:=ALca (·.2.1) b;rw[run_indexAt_array w T _ K (k:Int) (by rw[c];exact ALca (·.1) b),c,ALifp Om,nT (ALca (·.2.2) b),WW,Xi,add_lit]
section
variable {P:Program} {A R R' C cs':List Value} {a:Nat} {v:Value}
def iA(T:TypeId)(K:IntKind)(g off N s k:Nat)(c:k<N:=by omega)(b:(P.underlying T,P.arrayLen T,iY P (P.elem T))=(some (.array N (P.elem T)),N,some s):=by kernel_rfl):b8 P:= .t (tv (Instr.indexAt T (.pointer (some ⟨g,off,none⟩)) (.int K (k:Int))) λ_=>JE b c)
def rM(p g i:Nat)(t:TypeId)(cs:List Value)(e:cs=A++(R++C))(hA:A.length=a)(h:R.toArray[i]? =some v):b8 P:= .m (lt p g (a+i*1) cs.toArray t (JB e hA h))
def wM(p g i:Nat)(t:TypeId)(v:Value)(cs cs':List Value)(e:cs=A++(R++C))(c:cs'=A++(R'++C))(hA:A.length=a)(b:i<R.toArray.size)(h:R.toArray.setIfInBounds i v=R'.toArray):b8 P:= .m (sw p g (a+i*1) t v cs.toArray cs'.toArray (JD e c hA b h) (JC e hA b))
def rD(p g i:Nat)(t:TypeId)(R:List Value)(h:R.toArray[i]? =some v):b8 P:= .m (lt p g (0+i*1) R.toArray t (by rw[W9,Xc];exact h))
def wD(p g i:Nat)(t:TypeId)(v:Value)(R R':List Value)(b:i<R.toArray.size)(h:R.toArray.setIfInBounds i v=R'.toArray):b8 P:= .m (sw p g (0+i*1) t v R.toArray R'.toArray (by rw[W9,Xc];exact h) (by rw[W9,Xc];exact b))
end
def aS{P:Program}(T:TypeId)(g N s:Nat)(h:0<N:=by decide)(b:(P.underlying T,P.arrayLen T,iY P (P.elem T))=(some (.array N (P.elem T)),N,some s):=by kernel_rfl):b8 P:= .t (tv (Instr.sliceAt T (.pointer (some ⟨g,0,none⟩)) none none none) λ_=>H2 b h)
def aL{P:Program}(T:TypeId)(g N s l:Nat)(h:l<N:=by omega)(b:(P.underlying T,P.arrayLen T,iY P (P.elem T))=(some (.array N (P.elem T)),N,some s):=by kernel_rfl):b8 P:= .t (tv (Instr.sliceAt T (.pointer (some ⟨g,0,none⟩)) (some (.int .i64 (l:Int))) none none) λ_=>H0 b h)
def aM{P:Program}(T:TypeId)(g N s l m:Nat)(h:l+m≤N:=by omega)(h1:l<N:=by omega)(b:(P.underlying T,P.arrayLen T,iY P (P.elem T))=(some (.array N (P.elem T)),N,some s):=by kernel_rfl):b8 P:= .t (tv (Instr.sliceAt T (.pointer (some ⟨g,0,none⟩)) (some (.int .i64 (l:Int))) (some (.int .i64 ((l+m:Nat):Int))) none) λ_=>Im b h h1)
end
section
open Go Go.RowKit Go.Shelf
section
variable {α:Type} {P:Program} {en:α→List Value} {z:List Value} {T:TypeId} {v:Value} {xs:List α} {bs:ay}
theorem aG.take{k:Nat}(G: ∀y,(en y).length=k)(h:aG en v xs bs){m:Nat}(H:m≤xs.length):aG en (gT v 0 m k) (xs.take m) bs:=by
 obtain⟨s,a,r,rfl⟩:=h;have d:(xs.take m).length=m:=by rw[WZ];omega
 have C: ∃f,gT (.slice a xs.length (xs.length+r)) 0 m k= .slice f m (xs.length+r)∧(∀g b,a=some ⟨g,b,none⟩→f=some ⟨g,b,none⟩):=by
  simp only[gT,sliced,Xq,Nat.zero_mul];refine⟨_,rfl,λg b B=>?_⟩;subst B
  split
  ·rfl
  ·simp only[W7];unfold Addr.add
   split<;>simp_all
 obtain⟨f,n,o⟩:=C;rw[n];refine⟨?_,f,xs.length-m+r,by rw[d];congr 1;omega⟩;by_cases e:m=0
 ·subst e;exact .inl ⟨Yu,_,_,rfl⟩
 ·obtain⟨g,b,l,t,p,c,u,w,x⟩:=s.some (i:=0) Om;injection u with q D F;refine .inr ⟨g,b,l,t,p,_,by rw[o _ _ q,d],w,?_⟩;have A:ak en xs=ak en (xs.take m)++ak en (xs.drop m):=by rw[←kp,XZ]
  have j:=ALca (λy=>y.take (ak en (xs.take m)).length) x;rw[List.take_take,A,WN,Yv (Nat.le_add_right _ _),List.take_left] at j;exact j
def xx(P:Program)(p:Nat)(x:aA)(v:Value)(m s:Nat)(o:Oper)(ρ:Operand→Value)(_:cp):MD:=match o.op with
 | .slice T a none (some b) none=>⟨[(p,x)],λ_=>[],[sE (ρ a) v,sE (ρ b) (.int .i64 (m:Int)),sE (P.underlying T,iY P (P.elem T)) (some (.slice (P.elem T)),some s)]⟩
 | _=>MD.bad
theorem JF(p:Nat)(x:aA)(m s:Nat)(h: ∀bs,x.sat bs→aG en v xs bs)(u:m≤xs.length):MD.ok P (λ_=>gT v 0 m s) (xx P p x v m s) []:=by
 intro o ρ C d w c g;unfold xx at d g⊢
 split at d
 ·rename_i f a b e;simp only[e] at g⊢;simp only[WO,WL,or_false,forall_eq_or_imp,forall_eq,sE] at d;obtain⟨n,q,j⟩:=d;obtain⟨l,h2⟩:=g.ent;obtain⟨i,r,rfl⟩:=(h _ l).2;have k:P.underlying f=some (.slice (P.elem f)):=ALca (·.1) j;have t:(Instr.sliceAt f (.slice i xs.length (xs.length+r)) none (some (.int .i64 (m:Int))) none).run P w= .ok (sliced i 0 m (xs.length+r) s) w:=by
   rw[run_sliceAt_slice (h:=k),run_slice_h (ht:=k) (kh:= .i64) (h:=(m:Int)) (h0:=by omega) (h2:=by omega),nT (ALca (·.2) j)];simp only[WW,Xi]
  refine⟨ab.zero,λ_=>[],w,.inl ?_,λx h=>by simp at h,by simpa using a8.refl w⟩;unfold execOp;simp only[e,n,W7,Option.map_none,q,Xe,t,WW,Xf,gT]
 ·exact(bE d).elim
def BF(p:Nat)(x:aA)(m s:Nat)(h: ∀bs,x.sat bs→aG en v xs bs)(a:m≤xs.length):MH P (λ_=>gT v 0 m s):=⟨[],xx P p x v m s,JF p x m s h a⟩
end
theorem BG{z:List Value}: ∀{n i:Nat},i<n*z.length→((WJ n z).flatten)[i]? =z[i%z.length]?
 | 0,i,h=>by omega
 | n+1,i,h=>by
  rw[List.replicate_succ,List.flatten_cons];rcases Xd i z.length with a | a
  ·rw[Xu a,WX a]
  ·rw[WY a,BG (n:=n) (by rw[Nat.succ_mul] at h;omega),Nat.mod_eq_sub_mod a]
theorem JG{z:List Value}(n:Nat):madeCells z.toArray (n*z.length)=((WJ n z).flatten).toArray:=by
 apply Array.ext';apply XK;intro i;rw[Array.getElem?_toList];unfold madeCells;rw[Array.getElem?_map];rcases Xd i (n*z.length) with a | a
 ·rw[Array.getElem?_range,ALifp a,BG a,W7];have c:0<z.length:=Nat.pos_of_ne_zero λe=>by rw[e,Yz] at a;omega
  have b:i%z.length<z.length:=Xj _ c;rw[W8 b];simp [b]
 ·rw[Array.getElem?_range,ALifn Om,W4 (by simp;exact a)];rfl
section
variable {α:Type} {P:Program}
def xy(P:Program)(en:α→List Value)(z:List Value)(a:TypeId)(d:α)(T:TypeId)(p n:Nat)(o:Oper)(ρ:Operand→Value)(_:cp):MD:=
 ⟨[],λE=>[(p,.p (aq en z a (.slice (some ⟨E.y 0,0,none⟩) n n) (WJ n d)))],[sE (λw=>(execOp ρ o).run P w) (λw=>(vS (Instr.makeSlice T (.int .i64 (n:Int)) (.int .i64 (n:Int)))).run P w)]⟩
theorem JH(K:Kd P α)(p n:Nat)(h:K.en K.d=K.z)(l:n≤1000000):MD.ok P (λE=> .slice (some ⟨E.y 0,0,none⟩) n n) (xy P K.en K.z K.T K.d K.TS p n) []:=by
 intro o ρ C a w c g;simp only[xy,XG,forall_eq,sE] at a g⊢;obtain⟨q,⟨i,f,k,r,m,d,b⟩,s⟩:=K.hT;have e:=run_make (P:=P) K.TS K.T i f q k r .i64 .i64 (n:Int) (n:Int) Om (Int.le_refl _) (by have:=XV b l;omega) Om (w:=w);rw[Xi,m,show f.cells=K.z.toArray by rw[←d],JG] at e;have a:=congrFun a w;have j:ak K.en (WJ n K.d)=(WJ n K.z).flatten:=by unfold ak;rw[List.flatMap_replicate,h]
 refine⟨ab.of w.heap.size,λ_=>[(w.heap.size,.cells ((WJ n K.z).flatten).toArray K.T (0,0))],_,.inl (a.trans (lI e)),?_,by simpa using a8.alloc w (.cells ((WJ n K.z).flatten).toArray K.T (0,0))⟩;refine .inr ⟨w.heap.size,0,by rw[WR];rfl,?_⟩;rw[j];unfold bF;rw[Ya,Yl,WM]
def rn(K:Kd P α)(p n:Nat)(b:n≤1000000:=by omega)(a:K.en K.d=K.z:=by rfl):b8 P:= .m ⟨[],xy P K.en K.z K.T K.d K.TS p n,JH K p n a b⟩
end
theorem aG.cells{α:Type}{en:α→List Value}{v:Value}{xs:List α}{bs:ay}(h:aG en v xs bs):v.cells=#[v]:=by
 obtain⟨a,r,rfl⟩:=h.2;rfl
def xz(P:Program)(p q:Nat)(x:aA)(v:Value)(o:Oper)(ρ:Operand→Value)(_:cp):MD:=match o.op with
 | .box T a=>⟨[(q,x)],λE=>[(p,ob (E.y 0) #[v] T)],[sE (ρ a) v]⟩
 | _=>MD.bad
theorem JI{P:Program}(p q:Nat)(x:aA)(v:Value)(hv: ∀bs,x.sat bs→v.cells=#[v]):MD.ok P (λE=> .pointer (some ⟨E.y 0,0,none⟩)) (xz P p q x v) []:=by
 intro o ρ C b w c e;unfold xz at b e⊢
 split at b
 ·rename_i T a d;simp only[d] at e⊢;simp only[WO,WL,or_false,forall_eq,sE] at b;have f:x.sat (c q):=e.sat (q,x) (by simp);have g:=hv _ f;refine⟨ab.of w.heap.size,λ_=>[(w.heap.size,.cells #[v] T (0,0))],_,.inl ?_,λy h=>?_,by simpa using a8.alloc w (.cells #[v] T)⟩
  ·unfold execOp;simp only[d,b,Xe,show(Instr.box T v).run P w= .ok (.pointer (some ⟨w.heap.size,0,none⟩)) (w.alloc (.cells v.cells T)) from rfl,g,WW,Xf];rfl
  ·rw[List.mem_singleton.1 h];rfl
 ·exact(bE b).elim
def BH{P:Program}(p q:Nat)(x:aA)(v:Value)(hv: ∀bs,x.sat bs→v.cells=#[v]):b8 P:= .m ⟨[],xz P p q x v,JI p q x v hv⟩
def xA{α:Type}(P:Program)(K:Kd P α)(p n:Nat)(ys:List α)(o:Oper)(ρ:Operand→Value)(_:cp):MD:=
 ⟨[],λE=>[(p,.p (aq K.en K.z K.T (.slice (some ⟨E.y 0,0,none⟩) n n) ys))],[sE (λw=>(execOp ρ o).run P w) (λw=> .ok (.value (.slice (some ⟨w.heap.size,0,none⟩) n n)) (w.alloc (.cells (ak K.en ys).toArray K.T))),sE ys.length n]⟩
theorem JJ{α:Type}{P:Program}(K:Kd P α)(p n:Nat)(ys:List α):MD.ok P (λE=> .slice (some ⟨E.y 0,0,none⟩) n n) (xA P K p n ys) []:=by
 intro o ρ C a w c b;simp only[xA,WO,WL,or_false,forall_eq_or_imp,forall_eq,sE] at a b⊢;obtain⟨a,rfl⟩:=a;refine⟨ab.of w.heap.size,λ_=>[(w.heap.size,.cells (ak K.en ys).toArray K.T (0,0))],_,.inl (congrFun a w),?_,by simpa using a8.alloc w (.cells (ak K.en ys).toArray K.T (0,0))⟩;refine .inr ⟨w.heap.size,0,rfl,?_⟩;unfold bF;rw[Ya,Yl,WM]
def gV{α:Type}{P:Program}(K:Kd P α)(p n:Nat)(ys:List α):b8 P:= .m ⟨[],xA P K p n ys,JJ K p n ys⟩
def xB(P:Program)(q:Nat)(x:aA)(s:Sem Value)(o:Oper)(ρ:Operand→Value)(_:cp):MD:=⟨[(q,x)],λ_=>[],[sE (λw=>(execOp ρ o).run P w) (λw=>(vS s).run P w)]⟩
theorem JK{P:Program}{v:Value}(q:Nat)(x:aA)(s:Sem Value)(h: ∀bs,x.sat bs→∀w,s.run P w= .ok v w):MD.ok P (λ_=>v) (xB P q x s) []:=by
 intro o ρ C b w c a;simp only[xB,XG,forall_eq,sE] at b a⊢;have d:x.sat (c q):=a.sat (q,x) (by simp);exact⟨ab.zero,λ_=>[],w,.inl ((congrFun b w).trans (lI (h _ d w))),λy h=>by simp at h,by simpa using a8.refl w⟩
def JL{P:Program}{v:Value}(q:Nat)(x:aA)(s:Sem Value)(h: ∀bs,x.sat bs→∀w,s.run P w= .ok v w):b8 P:= .m ⟨[],xB P q x s,JK q x s h⟩
theorem JM{P:Program}(w:World)(T U TY b:TypeId)(A:Addr)(e d:Nat)(a:Option Addr)(c:Nat)(g:P.underlying T=some (.slice b)){i:TypeInfo}(f:P.info? b=some i):
  (Builtin.copy_ #[T,U] TY #[.slice (some A) e d,.slice a 0 c]).run P w= .ok (goInt 0) w:=by
 cases a<;>simp [Builtin.copy_,run_underlying g,Builtin.lenOf,Builtin.firstCells,sizeOf,typeInfo,f,storeCells,loadCells,loadCellsFrom]
theorem a8.same{w:World}{g:Nat}{o:Obj}(h:w.heap[g]? =some o):a8 [g] [(g,o)] w w:=a8.put rfl rfl rfl rfl h (λ_ _=>rfl)
section
variable {α:Type} {P:Program}
def xC(P:Program)(p g off b a:Nat)(cs cs':Array Value)(t T U TY:TypeId)(q:Nat)(x:aA)(u:Value)(o:Oper)(ρ:Operand→Value)(_:cp):MD:=⟨[(p,ob g cs t),(q,x)],λ_=>[(p,ob g cs' t)],[sE (λw=>(execOp ρ o).run P w) (λw=>(HW T U TY (.slice (some ⟨g,off,none⟩) b a) u).run P w)]⟩
theorem JN(K:Kd P α)(L:K.k=1)(p g off f l:Nat)(cs cs':Array Value)(t U TY:TypeId)(q:Nat)(x:aA)(u:Value)(ys:List α)(Y: ∀bs,x.sat bs→SrE K.en u ys bs)(R:ys.length≤f)(hf:off+ys.length≤cs.size)(I:(cs.toList.take off++ak K.en ys++cs.toList.drop (off+(ak K.en ys).length)).toArray=cs'):
  MD.ok P (λ_=> .int .i64 (ys.length:Int)) (xC P p g off f l cs cs' t K.TS U TY q x u) [p]:=by
 intro o ρ C B w c m;simp only[xC,XG,forall_eq,sE] at B m⊢;have S:=m.has;obtain⟨r,W⟩:=m.two;obtain⟨b,s⟩:=r.one;obtain⟨N,⟨i,zv,J,hz,G,hzc,Q⟩,h0⟩:=K.hT;have D:(ak K.en ys).length=ys.length:=by rw[fJ (n:=ys.length) (k:=1) (λy=>(K.hk y).trans L) rfl,Xc]
 rcases Y _ W with⟨rfl,a,h,rfl⟩ | ⟨H,d,j,t2,O,h,rfl,V,F⟩
 ·have e:cs'=cs:=by
   rw[←I];apply Array.ext';simp [ak]
  subst e;refine⟨ab.zero,λ_=>[(g,.cells cs' t (0,0))],w,.inl ((congrFun B w).trans (lI (JM w K.TS U TY K.T ⟨g,off,none⟩ f l a h N J))),rfl,by simpa [b,bN] using a8.same s⟩
 ·have A:w.heap[H]? =some (.cells j t2 O):=S.obj _ (List.mem_flatMap.2 ⟨(q,x),by simp,V⟩);have M:=run_copy_row (P:=P) w K.TS U TY K.T g off f l ⟨H,d,none⟩ ys.length h cs t (ak K.en ys) N (by rw[J,W7,G,←K.hz,L]) s (by rw[D];exact(Yv R).symm) (oH A F) (by rw[D];exact hf) (by
   intro v X;obtain⟨y,_,Z⟩:=List.mem_flatMap.1 X;exact K.one y v Z)
  rw[I,D] at M;exact⟨ab.zero,λ_=>[(g,.cells cs' t (0,0))],_,.inl ((congrFun B w).trans (lI M)),rfl,by simpa [b,bN] using a8.setRow cs' s⟩
def uv(K:Kd P α)(p g off a b:Nat)(cs cs':Array Value)(t U TY:TypeId)(q:Nat)(x:aA)(u:Value)(ys:List α)(f: ∀bs,x.sat bs→SrE K.en u ys bs)(d:ys.length≤a)(hf:off+ys.length≤cs.size)(c:(cs.toList.take off++ak K.en ys++cs.toList.drop (off+(ak K.en ys).length)).toArray=cs')(e:K.k=1:=by rfl):MH P (λ_=> .int .i64 (ys.length:Int)):=⟨[p],xC P p g off a b cs cs' t K.TS U TY q x u,JN K e p g off a b cs cs' t U TY q x u ys f d hf c⟩
theorem oR{en:α→List Value}{d:α}{a m c:Nat}{ys:List α}{t:TypeId}(h1: ∀x,(en x).length=1)(h:ys.length=m):SrE en (.slice (some ⟨a,0,none⟩) m c) ys [(a,.cells ((cI en d m ys).toArray) t (0,0))]:=
 .inr ⟨a,0,_,t,(0,0),c,by rw[h],by simp,AY (d:=d) h⟩
end
end
section
open Go Go.RowKit Go.Shelf
section
variable {α:Type} {P:Program} {en:α→List Value} {v:Value} {xs:List α}
def xD(P:Program)(p:Nat)(x:aA)(v:Value)(n:Nat)(o:Oper)(ρ:Operand→Value)(_:cp):MD:=match o.op with
 | .sliceToArrayPointer T a=>⟨[(p,x)],λ_=>[],[sE (ρ a) v,sE (P.underlying T) (some (.array n (P.elem T)))]⟩
 | _=>MD.bad
theorem JO(p:Nat)(x:aA)(n:Nat)(h: ∀j,x.sat j→SrE en v xs j)(h0:0<n)(A:n≤xs.length):MD.ok P (λ_=>e7 v 0) (xD P p x v n) []:=by
 intro o ρ C b w c f;unfold xD at b f⊢
 split at b
 ·rename_i T a d;simp only[d] at f⊢;simp only[WO,WL,or_false,forall_eq_or_imp,forall_eq,sE] at b;obtain⟨m,l⟩:=b;obtain⟨k,y⟩:=f.ent;obtain⟨g,q,s,t,u,r,rfl,_⟩:=(h _ k).some (i:=0) Om;refine⟨ab.zero,λ_=>[],w,.inl ?_,λx h=>by simp at h,by simpa using a8.refl w⟩;unfold execOp;simp only[d,m,Xe,run_arrayAt w T (P.elem T) n _ _ _ l Om,WW,Xf,e7,add_lit,Xs]
 ·exact(bE b).elim
def BI(p:Nat)(x:aA)(n:Nat)(h: ∀a,x.sat a→SrE en v xs a)(h0:0<n)(b:n≤xs.length):MH P (λ_=>e7 v 0):=⟨[],xD P p x v n,JO p x n h h0 b⟩
theorem JP(p:Nat)(x:aA)(n:Nat)(l:List Value)(h: ∀i,x.sat i→SrE en v xs i)(u:ak en xs=l)(h0:0<xs.length)(y:l.length=n):MD.ok P (λ_=> .agg l.toArray) (m5 P p x v 0 n) []:=by
 intro o ρ C b w c f;unfold m5 at b f⊢
 split at b
 ·rename_i B a d;simp only[d] at f⊢;simp only[WO,WL,or_false,forall_eq_or_imp,forall_eq,sE,sB] at b;obtain⟨k,s,A⟩:=b;obtain⟨m,q⟩:=f.ent;obtain⟨g,H,F,t,G,D,rfl,r,j⟩:=(h _ m).some h0;refine⟨ab.zero,λ_=>[],w,.inl ?_,λx h=>by simp at h,by simpa using a8.refl w⟩;unfold execOp;simp only[e7,add_lit,Xs] at k;rw[u] at j;simp only[d,k,Instr.loadAt,Instr.sureAddr,Xe,Xf,WW,Bd (q.obj _ r) j s (by rw[A,y])]
 ·exact(bE b).elim
def BJ(p:Nat)(x:aA)(n:Nat)(l:List Value)(h: ∀a,x.sat a→SrE en v xs a)(b:ak en xs=l)(h0:0<xs.length)(c:l.length=n):MH P (λ_=> .agg l.toArray):=⟨[],m5 P p x v 0 n,JP p x n l h b h0 c⟩
theorem BK{d:α}{n:Nat}(a: ∀x,(en x).length=1)(h:xs.length=n):(cI en d n xs).length=n:=by rw[kL h,fJ a h,Xc]
end
section
variable {α:Type} {P:Program} {en:α→List Value} {z:List Value} {e:TypeId} {xs ys:List α}
theorem JQ{T' TY:TypeId}(H:dX P T' e z)(d: ∀y,(en y).length=z.length)(h1: ∀y,∀u∈en y,u.oneCell'=true){w:World}{g:Nat}{cs:Array Value}{t:TypeId}(I:w.heap[g]? =some (.cells cs t (0,0)))
  (q:(cs.toList.drop 0).take (ak en xs).length=ak en xs) {A:Addr} {c:Nat} (Q:0<ys.length) (f: ∀j u,(ak en ys)[j]? =some u→w.cell? (A.add j)=some u) (n:xs.length+ys.length≤1000000):
  ∃D k w',(Builtin.append_ #[T',T'] TY #[.slice (some ⟨g,0,none⟩) xs.length xs.length,.slice (some A) ys.length c]).run P w= .ok D w'∧aq en z e D (xs++ys) k∧a8 [] k w w':=by
 obtain⟨N,⟨i,B,K,O,C,m,p⟩,G⟩:=H;have s:0<B.cells.size:=by rw[←Array.length_toList,m];exact G
 have L:(ak en ys).length=ys.length*i.size:=by rw[C];exact fJ d rfl
 have M:(ak en xs).length=xs.length*i.size:=by rw[C];exact fJ d rfl
 have o:(xs.length+ys.length)*i.bytes≤140737488355328:=YA (XV n p) Dc;have l:=oH (news:=ak en xs) I (off:=0) q;have h:=run_append_grow (P:=P) w T' TY e i B N K O ⟨g,0,none⟩ xs.length xs.length (ak en xs) M l A ys.length c (ak en ys) L f Om Om (growslice_fits Om o);have J:=grownCap_ge w (xs.length+ys.length) xs.length e;have F:(ak en xs).toArray++(ak en ys).toArray++Builtin.zeroCells B.cells (grownCap w (xs.length+ys.length) xs.length e-(xs.length+ys.length))=bF (ak en (xs++ys)) z (grownCap w (xs.length+ys.length) xs.length e-(xs.length+ys.length)):=by
  apply Array.toList_inj.1;unfold bF;simp only[Array.toList_append,wW _ _ s,m,kp]
 rw[F] at h;refine⟨_,_,_,h,.inr ⟨w.heap.size,grownCap w (xs.length+ys.length) xs.length e-(xs.length+ys.length),by rw[WN];congr 1;omega,rfl⟩,?_⟩;have a:=(Below.refl w.heap.size w.drew).alloc (W6 _) (.cells (bF (ak en (xs++ys)) z (grownCap w (xs.length+ys.length) xs.length e-(xs.length+ys.length))) e);exact⟨a.os,a.tape,a.output,a.size,λx r=>by obtain rfl:=List.mem_singleton.1 r;exact World.alloc_heap_new w.drew _,λx r=>by obtain rfl:=List.mem_singleton.1 r;exact .inr (W6 _),List.pairwise_singleton _ _,λb n _=>a.block b n⟩
def xF(P:Program)(p a q:Nat)(T':TypeId)(g n:Nat)(cs:Array Value)(t:TypeId)(u:Value)(b:aA)(y:ab→aA)(o:Oper)(ρ:Operand→Value)(C:cp):MD:=
 ⟨[(a,ob g cs t),(q,b)],λE=>[(p,y E)],[sE (λw=>(execOp ρ o).run P w) (λw=>(qK T' o.type (.slice (some ⟨g,0,none⟩) n n) u).run P w)]⟩
theorem JR{T':TypeId}(p m q g n:Nat)(cs:Array Value)(t:TypeId)(H:dX P T' e z)(u:Value)(r:aA)(l: ∀s,r.sat s→SrE en u ys s)(a: ∀y,(en y).length=z.length)(h1: ∀y,∀u∈en y,u.oneCell'=true)(K:xs.length=n)(i:(cs.toList.drop 0).take (ak en xs).length=ak en xs)(B:0<ys.length)(I:xs.length+ys.length≤1000000):
  MD.ok P (λE=>E.val 0) (xF P p m q T' g n cs t u r (λE=> .p (aq en z e (E.val 0) (xs++ys)))) []:=by
 subst K;intro o ρ C A w c b;simp only[xF,WO,WL,or_false,forall_eq,sE] at A b⊢;have L:c m=[(g,.cells cs t (0,0))]:=b.sat (m,ob g cs t) (by simp);have M:SrE en u ys (c q):=l _ (b.sat (q,r) (by simp));have d:=b.has;simp only[List.flatMap_cons,List.flatMap_nil,WM] at d;have J:w.heap[g]? =some (.cells cs t (0,0)):=d.obj (g,.cells cs t (0,0)) (by rw[L];simp);have j:Has (c q) w:=⟨λx l=>d.obj x (List.mem_append_right _ l),(List.pairwise_append.1 d.nd).2.1⟩;rcases M with⟨rfl,_⟩ | ⟨U,Q,F,V,T,D,rfl,h,G⟩
 ·simp at B
 ·obtain⟨R,f,S,N,O,k⟩:=JQ (TY:=o.type) (c:=D) H a h1 J i B (oH (j.obj _ h) G) I;exact⟨ab.ov R,λ_=>f,S,.inl ((congrFun A w).trans (tK N)),O,by simpa using k⟩
def JS{T':TypeId}(p f q g n:Nat)(cs:Array Value)(t:TypeId)(h:dX P T' e z)(u:Value)(c:aA)(k: ∀d,c.sat d→SrE en u ys d)(h1: ∀y,∀u∈en y,u.oneCell'=true)(a: ∀y,(en y).length=z.length)(j:xs.length=n)(b:(cs.toList.drop 0).take (ak en xs).length=ak en xs)(l:0<ys.length)(i:xs.length+ys.length≤1000000):MH P (λE=>E.val 0):=
 ⟨[],xF P p f q T' g n cs t u c (λE=> .p (aq en z e (E.val 0) (xs++ys))),JR p f q g n cs t h u c k a h1 j b l i⟩
def JT(K:Kd P α)(p j q g n:Nat)(cs:Array Value)(t:TypeId)(xs ys:List α)(u:Value)(c:aA)(h: ∀b,c.sat b→SrE K.en u ys b)(f:xs.length=n)(a:(cs.toList.drop 0).take (ak K.en xs).length=ak K.en xs)(i:0<ys.length)(d:xs.length+ys.length≤1000000):MH P (λE=>E.val 0):=JS (xs:=xs) p j q g n cs t K.hT u c h K.one K.lz f a i d
end
end
section
open Go Go.RowKit Go.Shelf
def bw(x:Nat):Nat→Nat
 | 0=>x
 | k+1=>bw x k&&& (bw x k-1)
theorem rq(x:Nat): ∀k,bw x k≤x
 | 0=>W6 _
 | k+1=>YA Nat.and_le_left (rq x k)
theorem pN{x:Nat}(c:x<18446744073709551616){k:Nat}(h:pc (bw x k)+k=pc x)(h0:((bw x k:Nat):Int)≠0):pc (bw x (k+1))+(k+1)=pc x∧k<pc x:=by
 have a:=rq x k;have b:=Ha (bw x k) Om Om;show pc (bw x k&&& (bw x k-1))+(k+1)=pc x∧_;omega
theorem xG{x k:Nat}(h:pc (bw x k)+k=pc x)(h0:((bw x k:Nat):Int)=0):k=pc x:=by
 have a:bw x k=0:=by omega
 rw[a,G6] at h;omega
attribute [local irreducible] pc
theorem ru(x:Nat)(m:x<18446744073709551616):aa WK 171 #[u6 (x:Int)] [] [] N0 (λ_=>iN (pc x)):=by
 refine fG Tryz.func171 λw l=>r0 [] [(2,i6 0)] [] (r0 [] [(3,i6 0)] [] ?_);refine lq (λk=>k≤pc x∧(pc (bw x k)+k=pc x)) (λk=>[(0,u6 ((bw x k:Nat):Int)),(3,iN k)]) (λ_ L=>L) (λk=>(pc x)-k) 0 ⟨by omega,(Xs (pc x))⟩ Kr Kr (λk ⟨g,d⟩=>?_);have f:=rq x k;have j:=wv x;refine r0 [] [(5,.bool (((bw x k:Nat):Int) != 0))] [] ?_;refine m9 ((bw x k:Nat):Int) 0 (λe c=>?_) λe c=>?_
 ·refine r0 [(2,.t (tv (av .sub 44 (.tmp 7) (.const (u6 1)) (u6 ((bw x k:Nat):Int)) (u6 1)) (λ_=>Jy (b:=1) Om Om))),(3,.t (tv (av .and 44 (.tmp 6) (.tmp 8) (u6 ((bw x k:Nat):Int)) (u6 ((bw x k-1:Nat):Int))) (λ_=>BC (a:=bw x k) (b:=bw x k-1) Om Om)))] [(0,u6 ((bw x (k+1):Nat):Int))] [0] (r0 [(1,ad k 1)] [(3,iN (k+1))] [3] ?_);have i:=pN Om d As;exact le (k+1) ⟨by omega,(pN Om d As).1⟩ Om Kr [] Kr
 have h:=xG d As;obtain rfl:k=pc x:=by omega
 exact lx (r0 [] [(2,iN (pc x))] [2] (lf ab.zero [] [] []))
theorem JU(x:Nat)(m:x<4294967296):aa WK 230 #[.int .u32 (x:Int)] [] [] N0 (λ_=>iN (pc x)):=by
 refine fG Tryz.func230 λw l=>r0 [] [(2,i6 0)] [] (r0 [] [(3,i6 0)] [] ?_);refine lq (λk=>k≤pc x∧(pc (bw x k)+k=pc x)) (λk=>[(0,.int .u32 ((bw x k:Nat):Int)),(3,iN k)]) (λ_ L=>L) (λk=>(pc x)-k) 0 ⟨by omega,(Xs (pc x))⟩ Kr Kr (λk ⟨g,d⟩=>?_);have f:=rq x k;have j:=wv x;refine r0 [] [(5,.bool (((bw x k:Nat):Int) != 0))] [] ?_;refine m9 ((bw x k:Nat):Int) 0 (λe c=>?_) λe c=>?_
 ·refine r0 [(2,.t (tv (av .sub 329 (.tmp 7) (.const (.int .u32 1)) (.int .u32 ((bw x k:Nat):Int)) (.int .u32 1)) (λ_=>Jz (b:=1) Om Om))),(3,.t (tv (av .and 329 (.tmp 6) (.tmp 8) (.int .u32 ((bw x k:Nat):Int)) (.int .u32 ((bw x k-1:Nat):Int))) (λ_=>Jv (a:=bw x k) (b:=bw x k-1) Om Om)))] [(0,.int .u32 ((bw x (k+1):Nat):Int))] [0] (r0 [(1,ad k 1)] [(3,iN (k+1))] [3] ?_);have i:=pN Om d As;exact le (k+1) ⟨by omega,(pN Om d As).1⟩ Om Kr [] Kr
 have h:=xG d As;obtain rfl:k=pc x:=by omega
 exact lx (r0 [] [(2,iN (pc x))] [2] (lf ab.zero [] [] []))
theorem BL(x:Nat)(m:x<256):aa WK 251 #[u1 (x:Int)] [] [] N0 (λ_=>iN (pc x)):=by
 refine fG Tryz.func251 λw l=>r0 [] [(2,i6 0)] [] (r0 [] [(3,i6 0)] [] ?_);refine lq (λk=>k≤pc x∧(pc (bw x k)+k=pc x)) (λk=>[(0,u1 ((bw x k:Nat):Int)),(3,iN k)]) (λ_ L=>L) (λk=>(pc x)-k) 0 ⟨by omega,(Xs (pc x))⟩ Kr Kr (λk ⟨g,d⟩=>?_);have f:=rq x k;have j:=wv x;refine r0 [] [(5,.bool (((bw x k:Nat):Int) != 0))] [] ?_;refine m9 ((bw x k:Nat):Int) 0 (λe c=>?_) λe c=>?_
 ·refine r0 [(2,.t (tv (av .sub 5 (.tmp 7) (.const (u1 1)) (u1 ((bw x k:Nat):Int)) (u1 1)) (λ_=>JA (b:=1) Om Om))),(3,.t (tv (av .and 5 (.tmp 6) (.tmp 8) (u1 ((bw x k:Nat):Int)) (u1 ((bw x k-1:Nat):Int))) (λ_=>Jw (a:=bw x k) (b:=bw x k-1) Om Om)))] [(0,u1 ((bw x (k+1):Nat):Int))] [0] (r0 [(1,ad k 1)] [(3,iN (k+1))] [3] ?_);have i:=pN Om d As;exact le (k+1) ⟨by omega,(pN Om d As).1⟩ Om Kr [] Kr
 have h:=xG d As;obtain rfl:k=pc x:=by omega
 exact lx (r0 [] [(2,iN (pc x))] [2] (lf ab.zero [] [] []))
theorem BM:aa WK 215 #[] [] [] N0 (λ_=>i6 8):=by
 exact fG Tryz.func215 λw a=>r0 [] [(0,i6 0)] [] (r0 [(1,.t (tv (Op.unary .xor (u1 0)) (λ_=>rfl))),(2,.c [] [] (BL 255 Om))] [(0,iN (pc 255))] [0] (ao (iN (pc 255)) ab.zero Kr [] [] []))
theorem JV(x:Nat)(d:x<4294967296):aa WK 199 #[.int .u32 (x:Int)] [] [] N0 (λ_=>iN (pc x%2)):=by
 exact fG Tryz.func199 λw b=>r0 [] [(2,i6 0)] [] (r0 [(1,.c [] [] (JU x Om)),(2,.t (tv (av .and 3 (.tmp 4) (.const (i6 1)) (iN (pc x)) (i6 1)) (λ_=>BE (a:=pc x))))] [(2,iN (pc x%2))] [2] (lf ab.zero [] [] []))
def on(x k:Nat):Nat:=(gv k 0 x).length
theorem pO: ∀(k i x:Nat),gv (k+1) i x=gv k i x++(bif x/2^k%2==1 then[i+k] else[])
 | 0,i,x=>by
  show(if x%2=1 then i::gv 0 (i+1) (x/2) else gv 0 (i+1) (x/2))=[]++_;rw[X4,Yf];by_cases h:x%2=1
  ·rw[ALifp h,h];rfl
  ·rw[ALifn h,show(x%2==1)=false from beq_false_of_ne h];rfl
 | k+1,i,x=>by
  have e:=pO k (i+1) (x/2);rw[Xg,Nat.mul_comm,←X5,show i+1+k=i+(k+1) by omega] at e;show(if x%2=1 then i::gv (k+1) (i+1) (x/2) else gv (k+1) (i+1) (x/2))=(if x%2=1 then i::gv k (i+1) (x/2) else gv k (i+1) (x/2))++_;rw[e];by_cases h:x%2=1
  ·rw[ALifp h,ALifp h];rfl
  ·rw[ALifn h,ALifn h]
theorem BN(x k:Nat): ∀d,∃t,gv (k+d) 0 x=gv k 0 x++t
 | 0=>⟨[],(WM _).symm⟩
 | d+1=>by
  obtain⟨t,h⟩:=BN x k d;exact⟨_,by rw[show k+(d+1)=k+d+1 from rfl,pO,h,Xv]⟩
theorem JW{x k:Nat}(h:(((x/2^k%2:Nat):Int)==1)=true):on x (k+1)=on x k+1:=by
 have a:x/2^k%2=1:=by have:=eq_of_beq h;omega
 unfold on;rw[pO,a,WN];rfl
theorem JX{x k:Nat}(h:(((x/2^k%2:Nat):Int)==1)=false):on x (k+1)=on x k:=by
 have a:(x/2^k%2==1)=false:=by have:=ne_of_beq_false h;exact beq_false_of_ne Om
 unfold on;rw[pO,a,WN];rfl
theorem JY{x k:Nat}(c:k<64)(h:(((x/2^k%2:Nat):Int)==1)=true):(bH x)[on x k]? =some k:=by
 have b:x/2^k%2=1:=by have:=eq_of_beq h;omega
 obtain⟨t,e⟩:=BN x (k+1) (64-(k+1));have a:=pO k 0 x;rw[b] at a;rw[show k+1+(64-(k+1))=64 by omega,a,Xv] at e;show(gv 64 0 x)[(gv k 0 x).length]? =_;rw[e,WY (W6 _),XM];show some (0+k)=_;rw[W9]
theorem JZ{x k:Nat}(e:k≤64)(c:((x/2^k:Nat):Int)=0):on x k=(bH x).length:=by
 have h:x/2^k=0:=Int.ofNat.inj c;have b: ∀d,gv (k+d) 0 x=gv k 0 x:=by
  intro d
  induction d with
  | zero=>rfl
  | succ d ih=>
   rw[show k+(d+1)=k+d+1 from rfl,pO,ih,Nat.pow_add,←Xg,h,Nat.zero_div];exact WM _
 have a:=b (64-k);rw[show k+(64-k)=64 by omega] at a;exact ALca Yy a.symm
theorem BO{x:Nat}(k:Nat):x/2^(k+1)=x/2^k/2^1:=by rw[X5,←Xg]
theorem xH{x k:Nat}(b:x<18446744073709551616)(a:k≤64)(h:((x/2^k:Nat):Int)≠0):k<64:=by
 refine Nat.lt_of_le_of_ne a λe=>?_;subst e;exact h (by have:x/2^64=0:=Nat.div_eq_of_lt b;omega)
theorem BP(g x:Nat)(h:x<18446744073709551616):pC 5 WK 172 #[pt g 0] (λ(i:Nat)=>#[iN i]) (bH x) (Xk []) [(g,.cells #[u6 (x:Int)] 44 (0,0))]:=by
 refine gG (KO:=[]) Tryz.func172 (λw z y D B n u r=>?_);refine r0 [] [(3,i6 0)] [] ?_;refine jX (λk=>k≤64) (λk=>[(3,iN k)]) (λk L=>L.set 0 (ob g #[u6 ((x/2^k:Nat):Int)] 44)) (λk=>64-k) (λk=>on x k) 0 Om r Kr (by rw[X4,Yf];kernel_rfl) (λk A C v a=>?_);have c:x/2^k<18446744073709551616:=XH (Nat.div_le_self _ _) h;refine r0 [(0,.l 0)] [(5,.bool (((x/2^k:Nat):Int) != 0))] [] ?_;refine m9 ((x/2^k:Nat):Int) 0 (λq j=>?_) λq j=>?_
 ·cases f:(((x/2^k%2:Nat):Int)==1)
  case true=>
   have m:=eq_of_beq f;refine iy n u a 6 (λ_=>[(0,.l 0),(1,.t (tv (av .and 44 (.tmp 8) (.const (u6 1)) (u6 ((x/2^k:Nat):Int)) (u6 1)) (λ_=>BD c))),(2,.t (tk (show Value.bool (((x/2^k%2:Nat):Int)==1)= .bool true from ALca Value.bool f)))]) (λ_=>[(11,.bool true),(12,.func (.yield w) #[] #[]),(13,iN k)]) [] (λ_ L=>L) (λ_=>[ob g #[u6 ((x/2^k:Nat):Int)] 44]) [0] (JY (xH h Om As) As) (λF o p b=>?_);refine cF _ rfl (rs [(0,.l 0),(1,.t (tv (av .shr 44 (.tmp 17) (.const (u6 1)) (u6 ((x/2^k:Nat):Int)) (u6 1)) (λ_=>tA 1 Dc))),(2,.s 0)] 0 (ob g #[u6 ((x/2^k/2^1:Nat):Int)] 44) (r0 [(1,ad k 1)] [(3,iN (k+1))] [3] ?_));have e:=xH h Om As;exact iI (k+1) Om (by(rw[JW As]);exact b) Om Kr [0] (by rw[BO (x:=x) k];kernel_rfl)
  have m:=ne_of_beq_false f;refine rF [(0,.l 0),(1,.t (tv (av .and 44 (.tmp 8) (.const (u6 1)) (u6 ((x/2^k:Nat):Int)) (u6 1)) (λ_=>BD c))),(2,.t (tk (show Value.bool (((x/2^k%2:Nat):Int)==1)= .bool false from ALca Value.bool f))),(4,.d),(5,.d),(6,.d),(7,.d)] 16 (rs [(0,.l 0),(1,.t (tv (av .shr 44 (.tmp 17) (.const (u6 1)) (u6 ((x/2^k:Nat):Int)) (u6 1)) (λ_=>tA 1 Dc))),(2,.s 0)] 0 (ob g #[u6 ((x/2^k/2^1:Nat):Int)] 44) (r0 [(1,ad k 1)] [(3,iN (k+1))] [3] ?_));have e:=xH h Om As;exact iI (k+1) Om (by(rw[JX As]);exact a) Om Kr [0] (by rw[BO (x:=x) k];kernel_rfl)
 refine jY ?_;exact kT n a (by exact JZ Om As) [ob g #[u6 ((x/2^k:Nat):Int)] 44] [0]
theorem BQ(x:Nat):aa WK 132 #[u6 (x:Int)] [] [] (λE=>[ob (E.y 0) #[u6 (x:Int)] 44]) (λE=> .func (.func 172) #[] #[pt ((E.y 0)) 0]):=by
 exact fG Tryz.func132 λw b=>ra (λa=>[(1,pt (B0 a) 0),(2,.nilFunc)]) (λa=>[ob (B0 a) #[u6 (x:Int)] 44]) λa=>r0 [] [(2,.func (.func 172) #[] #[pt (B0 a) 0])] [2] (lf (.l [(a 0).y 0] [] []) [0] [] [])
end
section
open Go Go.RowKit Go.Shelf
attribute [local irreducible] pc
def ch(k:Nat):Nat→List Nat
 | 0=>[]
 | j+1=>ch k j++(bif ((pc j:Nat):Int)==((k:Nat):Int) then[j] else[])
theorem BR{k j:Nat}(h:(((pc j:Nat):Int)==((k:Nat):Int))=true):(ch k (j+1)).length=(ch k j).length+1:=by
 show(ch k j++_).length=_;rw[h,WN];rfl
theorem BS{k j:Nat}(h:(((pc j:Nat):Int)==((k:Nat):Int))=false):(ch k (j+1)).length=(ch k j).length:=by
 show(ch k j++_).length=_;rw[h,WN];rfl
theorem BT(k j:Nat): ∀d,∃t,ch k (j+d)=ch k j++t
 | 0=>⟨[],(WM _).symm⟩
 | d+1=>by
  obtain⟨t,h⟩:=BT k j d;exact⟨_,by show ch k (j+d)++_=_;rw[h,Xv]⟩
theorem BU{k j n:Nat}(a:j<n)(h:(((pc j:Nat):Int)==((k:Nat):Int))=true):(ch k n)[(ch k j).length]? =some j:=by
 obtain⟨t,e⟩:=BT k (j+1) (n-(j+1));rw[show j+1+(n-(j+1))=n by omega,show ch k (j+1)=ch k j++[j] by show ch k j++_=_;rw[h];rfl,Xv] at e;rw[e,WY (W6 _),XM];rfl
theorem BV{P:Program}{T:TypeId}{x y:Operand}{w:World}:(av .shl T x y (.int .u64 1) (.int .u64 8)).run P w= .ok (.int .u64 256) w:=tB (a:=1) (yk:= .u64) 8 Dc Dc
theorem J0(g b:Nat):e4 5 WK 214 #[pt g 0,pt b 0] (λ(i:Nat)=>#[u1 ((UInt8.ofNat i).toNat:Int)]) (ch 3 256) (Xk [[(g,.cells #[i6 3] 3 (0,0))],[(b,.cells #[i6 8] 3 (0,0))]]):=by
 refine gi (KO:=[[(g,.cells #[i6 3] 3 (0,0))],[(b,.cells #[i6 8] 3 (0,0))]]) Tryz.func214 (λv y x C A n s r=>?_);refine rF [(0,.l 0),(3,.l 0),(4,.l 1),(8,.l 1),(9,.c [] [] (BM))] 17 (r0 [(0,.l 1),(1,.t (tv (convert 3 201 (i6 8)) (λ_=>m4 Tryz.underlying3 Tryz.underlying201 (c:=8) Om))),(2,.t (tv (av .shl 44 (.const (u6 1)) (.tmp 19) (u6 1) (u6 8)) (λ_=>BV)))] [(20,u6 256),(21,u6 0)] [] ?_);refine jX (λk=>k≤256) (λk=>[(21,u6 (k:Int))]) (λ_ L=>L) (λk=>256-k) (λk=>(ch 3 k).length) 0 Om r Kr Kr (λk z B u f=>?_);refine r0 [] [(22,.bool (decide ((k:Int)<256)))] [] ?_;refine bW (k:Int) 256 (λq m=>?_) λq m=>?_
 ·refine r0 [] [(4,u6 (k:Int))] [] ?_;cases e:((((pc k):Nat):Int)==3)
  case true=>
   have h:=eq_of_beq e;refine iy n s f 8 (λ_=>[(1,.c [] [] (ru k Om)),(2,.l 0),(3,.t (tk (show Value.bool ((((pc k):Nat):Int)==3)= .bool true from ALca Value.bool e))),(7,.t (tv (convert 44 5 (u6 (k:Int))) (λ_=>tC Tryz.underlying44 Tryz.underlying5)))]) (λ_=>[(28,.bool true),(29,.func (.yield v) #[] #[]),(31,u1 ((UInt8.ofNat k).toNat:Int))]) [] (λ_ L=>L) N0 [0,1] (BU Om As) (λw o p j=>?_);refine cF _ rfl (r0 [(0,.t (tb (a:=u6 (k:Int)) (b:=u6 1) λ_ _ _ _=>tJ (a:=k) (b:=1) Om))] [(21,u6 ((k+1:Nat):Int))] [21] ?_);exact iI (k+1) Om (by(rw[BR As]);exact j) Om Kr [0,1] Kr
  have h:=ne_of_beq_false e;refine rF [(1,.c [] [] (ru k Om)),(2,.l 0),(3,.t (tk (show Value.bool ((((pc k):Nat):Int)==3)= .bool false from ALca Value.bool e))),(5,.d),(6,.d),(7,.d),(8,.d),(9,.d)] 34 (r0 [(0,.t (tb (a:=u6 (k:Int)) (b:=u6 1) λ_ _ _ _=>tJ (a:=k) (b:=1) Om))] [(21,u6 ((k+1:Nat):Int))] [21] ?_);exact iI (k+1) Om (by(rw[BS As]);exact f) Om Kr [0,1] Kr
 obtain rfl:k=256:=by omega
 refine jY ?_;exact kT n f bg [] [0,1]
theorem J1(g b:Nat):e4 5 WK 214 #[pt g 0,pt b 0] (λ(i:Nat)=>#[u1 ((UInt8.ofNat i).toNat:Int)]) (ch 5 256) (Xk [[(g,.cells #[i6 5] 3 (0,0))],[(b,.cells #[i6 8] 3 (0,0))]]):=by
 refine gi (KO:=[[(g,.cells #[i6 5] 3 (0,0))],[(b,.cells #[i6 8] 3 (0,0))]]) Tryz.func214 (λv y x C A n s r=>?_);refine rF [(0,.l 0),(3,.l 0),(4,.l 1),(8,.l 1),(9,.c [] [] (BM))] 17 (r0 [(0,.l 1),(1,.t (tv (convert 3 201 (i6 8)) (λ_=>m4 Tryz.underlying3 Tryz.underlying201 (c:=8) Om))),(2,.t (tv (av .shl 44 (.const (u6 1)) (.tmp 19) (u6 1) (u6 8)) (λ_=>BV)))] [(20,u6 256),(21,u6 0)] [] ?_);refine jX (λk=>k≤256) (λk=>[(21,u6 (k:Int))]) (λ_ L=>L) (λk=>256-k) (λk=>(ch 5 k).length) 0 Om r Kr Kr (λk z B u f=>?_);refine r0 [] [(22,.bool (decide ((k:Int)<256)))] [] ?_;refine bW (k:Int) 256 (λq m=>?_) λq m=>?_
 ·refine r0 [] [(4,u6 (k:Int))] [] ?_;cases e:((((pc k):Nat):Int)==5)
  case true=>
   have h:=eq_of_beq e;refine iy n s f 8 (λ_=>[(1,.c [] [] (ru k Om)),(2,.l 0),(3,.t (tk (show Value.bool ((((pc k):Nat):Int)==5)= .bool true from ALca Value.bool e))),(7,.t (tv (convert 44 5 (u6 (k:Int))) (λ_=>tC Tryz.underlying44 Tryz.underlying5)))]) (λ_=>[(28,.bool true),(29,.func (.yield v) #[] #[]),(31,u1 ((UInt8.ofNat k).toNat:Int))]) [] (λ_ L=>L) N0 [0,1] (BU Om As) (λw o p j=>?_);refine cF _ rfl (r0 [(0,.t (tb (a:=u6 (k:Int)) (b:=u6 1) λ_ _ _ _=>tJ (a:=k) (b:=1) Om))] [(21,u6 ((k+1:Nat):Int))] [21] ?_);exact iI (k+1) Om (by(rw[BR As]);exact j) Om Kr [0,1] Kr
  have h:=ne_of_beq_false e;refine rF [(1,.c [] [] (ru k Om)),(2,.l 0),(3,.t (tk (show Value.bool ((((pc k):Nat):Int)==5)= .bool false from ALca Value.bool e))),(5,.d),(6,.d),(7,.d),(8,.d),(9,.d)] 34 (r0 [(0,.t (tb (a:=u6 (k:Int)) (b:=u6 1) λ_ _ _ _=>tJ (a:=k) (b:=1) Om))] [(21,u6 ((k+1:Nat):Int))] [21] ?_);exact iI (k+1) Om (by(rw[BS As]);exact f) Om Kr [0,1] Kr
 obtain rfl:k=256:=by omega
 refine jY ?_;exact kT n f bg [] [0,1]
theorem BW(n k:Int):aa WK 180 #[i6 n,i6 k] [] [] (λE=>[ob (E.y 0) #[i6 k] 3,ob (E.y 1) #[i6 n] 3]) (λE=> .func (.func 214) #[] #[pt ((E.y 0)) 0,pt ((E.y 1)) 0]):=by
 exact fG Tryz.func180 λw b=>ra (λa=>[(2,pt (B0 a) 0),(3,pt (B1 a) 0),(4,.nilFunc)]) (λa=>[ob (B0 a) #[i6 n] 3,ob (B1 a) #[i6 k] 3]) λa=>r0 [] [(4,.func (.func 214) #[] #[pt (B1 a) 0,pt (B0 a) 0])] [4] (lf (.l [(a 1).y 0,(a 0).y 0] [] []) [1,0] [] [])
end
end E
def xt(a:Nat):Nat:=(a*2)^^^(if a.testBit 7 then 285 else 0)
def uw:List Nat:=[1,2,4,8,16,32,64,128,29,58,116,232,205,135,19,38,76,152,45,90,180,117,234,201,143,3,6,12,24,48,96,192,157,39,78,156,37,74,148,53,106,212,181,119,238,193,159,35,70,140,5,10,20,40,80,160,93,186,105,210,185,111,222,161,95,190,97,194,153,47,94,188,101,202,137,15,30,60,120,240,253,231,211,187,107,214,177,127,254,225,223,163,91,182,113,226,217,175,67,134,17,34,68,136,13,26,52,104,208,189,103,206,129,31,62,124,248,237,199,147,59,118,236,197,151,51,102,204,133,23,46,92,184,109,218,169,79,158,33,66,132,21,42,84,168,77,154,41,82,164,85,170,73,146,57,114,228,213,183,115,230,209,191,99,198,145,63,126,252,229,215,179,123,246,241,255,227,219,171,75,150,49,98,196,149,55,110,220,165,87,174,65,130,25,50,100,200,141,7,14,28,56,112,224,221,167,83,166,81,162,89,178,121,242,249,239,195,155,43,86,172,69,138,9,18,36,72,144,61,122,244,245,247,243,251,235,203,139,11,22,44,88,176,125,250,233,207,131,27,54,108,216,173,71,142]
def aW:List Nat:=[0,0,1,25,2,50,26,198,3,223,51,238,27,104,199,75,4,100,224,14,52,141,239,129,28,193,105,248,200,8,76,113,5,138,101,47,225,36,15,33,53,147,142,218,240,18,130,69,29,181,194,125,106,39,249,185,201,154,9,120,77,228,114,166,6,191,139,98,102,221,48,253,226,152,37,179,16,145,34,136,54,208,148,206,143,150,219,189,241,210,19,92,131,56,70,64,30,66,182,163,195,72,126,110,107,58,40,84,250,133,186,61,202,94,155,159,10,21,121,43,78,212,229,172,115,243,167,87,7,112,192,247,140,128,99,13,103,74,222,237,49,197,254,24,227,165,153,119,38,184,180,124,17,68,146,217,35,32,137,46,55,63,209,91,149,188,207,205,144,135,151,178,220,252,190,97,242,86,211,171,20,42,93,158,132,60,57,83,71,109,65,162,31,45,67,216,183,123,164,118,196,23,73,236,127,12,111,246,108,161,59,82,41,157,85,170,251,96,134,177,187,204,62,90,203,89,95,176,156,169,160,81,11,245,22,235,122,117,44,215,79,174,213,233,230,231,173,232,116,214,244,234,168,80,88,175]
def gE(i:Nat):Nat:=uw.getD i 0
def gL(a:Nat):Nat:=aW.getD a 0
theorem xI: ∀a,a<256→a≠0→gE (gL a)=a:=by decide+kernel
theorem BX: ∀i,i<255→gL (gE i)=i:=by decide+kernel
theorem ux: ∀i,i<255→0<gE i∧gE i<256:=by decide+kernel
theorem rv: ∀i,i<256→gL i<255:=by decide+kernel
theorem J2: ∀i,i<255→xt (gE i)=gE ((i+1)%255):=by decide+kernel
theorem J3:uw.length=255:=by decide+kernel
def dh(a b:Nat):Nat:=if a=0∨b=0 then 0 else gE ((gL a+gL b)%255)
theorem J4(a b:Nat):(a^^^b)*2=(a*2)^^^(b*2):=by
 have h:=@Nat.shiftLeft_xor_distrib 1 a b;simpa [Nat.shiftLeft_eq] using h
theorem J5(a b i k:Nat):(if(a^^^b).testBit i then k else 0)=(if a.testBit i then k else 0)^^^(if b.testBit i then k else 0):=by
 rw[Nat.testBit_xor];cases a.testBit i<;>cases b.testBit i<;>simp
theorem J6(a b c d:Nat):(a^^^b)^^^(c^^^d)=(a^^^c)^^^(b^^^d):=by
 ac_rfl
theorem J7(a b:Nat):xt (a^^^b)=xt a^^^xt b:=by
 unfold xt;rw[J4,J5,J6]
theorem J8:xt 0=0:=by decide
theorem J9(a b:Nat):dh a b<256:=by
 unfold dh
 split
 ·omega
 ·exact(ux _ (Xj _ Om)).2
theorem Ka(a b:Nat):dh a b=dh b a:=by
 unfold dh;rw[Nat.add_comm (gL a)];simp only[or_comm]
theorem uy(a:Nat):dh a 0=0:=by simp [dh]
theorem uz(a:Nat):dh 0 a=0:=by simp [dh]
theorem ry(i b:Nat)(a:i<255)(c:b≠0):dh (gE i) b=gE ((i+gL b)%255):=by
 have h:=ux i a;unfold dh;rw[ALifn Om,BX i a]
theorem xJ(a b:Nat)(c:a≠0)(d:b≠0):dh a b≠0:=by
 unfold dh;rw[ALifn Om];have:=(ux ((gL a+gL b)%255) (Xj _ Om)).1;omega
theorem BY(a b:Nat)(c:a≠0)(d:b≠0):gL (dh a b)=(gL a+gL b)%255:=by
 unfold dh;rw[ALifn Om,BX _ (Xj _ Om)]
theorem Kb(a b c:Nat):dh (dh a b) c=dh a (dh b c):=by
 by_cases e:a=0
 ·subst e;simp [uz]
 by_cases d:b=0
 ·subst d;simp [uz,uy]
 by_cases f:c=0
 ·subst f;simp [uy]
 have i:=xJ a b e d;have j:=xJ b c d f;have g:dh (dh a b) c=gE ((gL (dh a b)+gL c)%255):=by rw[dh,ALifn Om]
 have h:dh a (dh b c)=gE ((gL a+gL (dh b c))%255):=by rw[dh,ALifn Om]
 rw[g,h,BY a b e d,BY b c d f]
 congr 1
 omega
theorem xK(i b:Nat)(c:i+1<255):dh (gE (i+1)) b=xt (dh (gE i) b):=by
 by_cases a:b=0
 ·subst a;simp [uy,J8]
 ·rw[ry _ _ c a,ry _ _ Om a,J2 _ (Xj _ Om)]
  congr 1
  omega
theorem BZ:gE 0=1:=by decide
theorem uA(b:Nat)(a:b<256):dh 1 b=b:=by
 by_cases h:b=0
 ·subst h;rfl
 ·have:=rv b a;rw[←BZ,ry 0 b Om h,W9,WX this,xI b a h]
theorem Kc(i:Nat):i<255→∀b c,b<256→c<256→dh (gE i) (b^^^c)=dh (gE i) b^^^dh (gE i) c:=by
 induction i with
 | zero=>
  intro _ b c a d;have f:b^^^c<256:=Nat.xor_lt_two_pow (n:=8) a d;rw[BZ,uA _ f,uA _ a,uA _ d]
 | succ i ih=>
  intro e b c a d;rw[xK _ _ e,xK _ _ e,xK _ _ e,ih Om b c a d,J7]
theorem Ke(a b c:Nat)(d:a<256)(e:b<256)(f:c<256):dh a (b^^^c)=dh a b^^^dh a c:=by
 by_cases h:a=0
 ·subst h;simp [uz]
 ·have:=rv a d;rw[←xI a d h];exact Kc _ this b c e f
def WA(b i k:Nat):Nat:=if b/2^i%2=1 then k else 0
theorem Wp(b i k:Nat)(a:k<256):WA b i k<256:=by unfold WA;split<;>omega
def nc(x y:Nat):Nat:=if x=0 then 0 else gE ((gL x+255-gL y)%255)
theorem B8(x y:Nat):nc x y<256:=by
 unfold nc;split
 ·omega
 ·exact(ux _ (Xj _ Om)).2
theorem B9(x y:Nat)(lx:x<256)(ly:y<256)(a:y≠0):dh (nc x y) y=x:=by
 unfold nc;split
 ·rename_i h;rw[h,uz]
 ·rename_i h;have b:=rv x lx;have c:=rv y ly;rw[ry _ _ (Xj _ Om) a,show((gL x+255-gL y)%255+gL y)%255=gL x from by omega,xI x lx h]
def gm(a b:UInt8):UInt8:=UInt8.ofNat (dh a.toNat b.toNat)
theorem kU(a b:UInt8):(gm a b).toNat=dh a.toNat b.toNat:=by
 unfold gm;rw[Xp];exact WX (J9 _ _)
theorem lS(a b:UInt8):gm a b=gm b a:=by unfold gm;rw[Ka]
theorem Ca(a b c:UInt8):gm (gm a b) c=gm a (gm b c):=by
 apply UInt8.toNat_inj.1;rw[kU,kU,kU,kU,Kb]
theorem Cb(a b c:UInt8):gm a (b^^^c)=gm a b^^^gm a c:=by
 apply UInt8.toNat_inj.1;rw[kU,Ym,Ym,kU,kU,Ke _ _ _ a.toNat_lt b.toNat_lt c.toNat_lt]
theorem Cc(a b c:UInt8):gm (b^^^c) a=gm b a^^^gm c a:=by rw[lS,Cb,lS a b,lS a c]
theorem nZ(a:UInt8):gm a 0=0:=by unfold gm;rw[UInt8.toNat_zero,uy];rfl
theorem mB(a:UInt8):gm 0 a=0:=by rw[lS,nZ]
theorem Kf(a:UInt8):gm 1 a=a:=by
 apply UInt8.toNat_inj.1;rw[kU,show(1:UInt8).toNat=1 from rfl,uA _ a.toNat_lt]
theorem Cd(a:UInt8):gm a 1=a:=by rw[lS,Kf]
theorem Ce(a b:UInt8)(d:a≠0)(f:b≠0):gm a b≠0:=by
 intro h;have c:=ALca UInt8.toNat h;rw[kU] at c;exact xJ _ _ (λe=>d (UInt8.toNat_inj.1 e)) (λe=>f (UInt8.toNat_inj.1 e)) c
theorem x4(a b c d:UInt8):(a^^^b)^^^(c^^^d)=(a^^^c)^^^(b^^^d):=by ac_rfl
namespace E
section
open Go Go.RowKit Go.Shelf
def aT:List UInt8:=uw.map UInt8.ofNat
def dE(n:Int):Nat:=(n%255).toNat
theorem xL(n:Int):dE n<255:=by unfold dE;omega
theorem Kg{P:Program}{T:TypeId}{x y:Operand}{w:World}{a:Int}(h0: -9223372036854775808≤a)(h1:a≤9223372036854775807):(av .rem T x y (.int .i64 a) (.int .i64 255)).run P w= .ok (.int .i64 (a.tmod 255)) w:=rfl
theorem Kh(n:Int):(bif decide (n.tmod 255<0) then n.tmod 255+255 else n.tmod 255)=((dE n:Nat):Int):=by
 have h:=Int.tmod_eq_emod (a:=n) (b:=255);unfold dE;by_cases c:n.tmod 255<0
 ·rw[cD c,ALct];split at h<;>omega
 ·rw[bf c,ALcf];split at h<;>omega
def tw(a:UInt8):UInt8:=UInt8.ofNat (xt a.toNat)
theorem Cg: ∀n,n<256→(bif (((UInt8.ofNat n&&& 128).toNat:Int) != 0) then(UInt8.ofNat (n*2^1)^^^29) else UInt8.ofNat (n*2^1))=UInt8.ofNat (xt n):=by decide+kernel
theorem Ki{a:UInt8}(h:(((a&&& 128).toNat:Int) != 0)=true):Value.int .u8 ((UInt8.ofNat (a.toNat*2^1)^^^29).toNat:Int)= .int .u8 ((tw a).toNat:Int):=by
 have b:=Cg a.toNat a.toNat_lt;rw[Yg,h] at b;exact ALca (λz:UInt8=>Value.int .u8 (z.toNat:Int)) b
theorem Kj{a:UInt8}(h:(((a&&& 128).toNat:Int) != 0)=false):Value.int .u8 ((UInt8.ofNat (a.toNat*2^1)).toNat:Int)= .int .u8 ((tw a).toNat:Int):=by
 have b:=Cg a.toNat a.toNat_lt;rw[Yg,h] at b;exact ALca (λz:UInt8=>Value.int .u8 (z.toNat:Int)) b
theorem Kk(a:UInt8):aa WK 184 #[u1 (a.toNat:Int)] [] [] N0 (λ_=>u1 ((tw a).toNat:Int)):=by
 refine fG Tryz.func184 λw d=>r0 [] [(2,u1 0)] [] (r0 [(1,.t (tb (a:=u1 (a.toNat:Int)) (b:=u1 128) λ_ _ _ _=>wV (a) ((128:UInt8))))] [(5,.bool (((a&&& (128:UInt8)).toNat:Int) != 0))] [] ?_);refine cB (((a&&& (128:UInt8)).toNat:Int) != 0) (λc=>?_) λc=>?_
 ·exact r0 [(1,.t (tv (av .shl 5 (.tmp 6) (.const (u6 1)) (u1 (a.toNat:Int)) (u6 1)) (λ_=>uu 1 Dc))),(2,.t (tb (a:=u1 ((UInt8.ofNat (a.toNat*2^1)).toNat:Int)) (b:=u1 29) λ_ _ _ _=>lL ((UInt8.ofNat (a.toNat*2^1))) ((29:UInt8))))] [(2,u1 (((UInt8.ofNat (a.toNat*2^1))^^^(29:UInt8)).toNat:Int))] [2] (ao (u1 (((UInt8.ofNat (a.toNat*2^1))^^^(29:UInt8)).toNat:Int)) ab.zero (by exact Ki As) [] [] [])
 exact r0 [(1,.t (tv (av .shl 5 (.tmp 9) (.const (u6 1)) (u1 (a.toNat:Int)) (u6 1)) (λ_=>uu 1 Dc)))] [(2,u1 ((UInt8.ofNat (a.toNat*2^1)).toNat:Int))] [2] (ao (u1 ((UInt8.ofNat (a.toNat*2^1)).toNat:Int)) ab.zero (by exact Kj As) [] [] [])
theorem Kl(n:Int)(h0: -9223372036854775808≤n)(h1:n≤9223372036854775807):aa WK 218 #[i6 n] [] [] N0 (λ_=>iN (dE n)):=by
 have f:=Int.tmod_lt_of_pos n (show(0:Int)<255 by omega);have d:=Int.lt_tmod_of_pos n (show(0:Int)<255 by omega);refine fG Tryz.func218 λw e=>r0 [] [(2,i6 0)] [] (r0 [(1,.t (tv (av .rem 3 (.tmp 3) (.const (i6 255)) (i6 n) (i6 255)) (λ_=>Kg h0 h1)))] [(0,i6 (n.tmod 255))] [0] (r0 [] [(6,.bool (decide ((n.tmod 255)<0)))] [] ?_));refine cJ (decide ((n.tmod 255)<0)) (λc=>[(0,i6 (bif c then((n.tmod 255)+255) else(n.tmod 255)))]) N0 (λb=>?_) (λb=>?_) ?_
 ·have a:=of_decide_eq_true b;refine r0 [(1,aI (n.tmod 255) (255) Om)] [(0,i6 ((n.tmod 255)+255))] [0] ?_;exact cm Kr [] Kr
 ·have a:=of_decide_eq_false b;exact cm Kr [] Kr
 exact r0 [] [(2,i6 (bif decide ((n.tmod 255)<0) then((n.tmod 255)+255) else(n.tmod 255)))] [2] (ao (i6 (bif decide ((n.tmod 255)<0) then((n.tmod 255)+255) else(n.tmod 255))) ab.zero (by exact ALca (Value.int .i64) (Kh n)) [] [] [])
def fW:Nat→UInt8
 | 0=>1
 | k+1=>tw (fW k)
def ib:Nat→List UInt8
 | 0=>WJ 255 0
 | k+1=>(ib k).set k (fW k)
def ic:Nat→List Nat
 | 0=>WJ 256 0
 | k+1=>(ic k).set (fW k).toNat k
theorem Ch: ∀k,(ib k).length=255
 | 0=>WR ..
 | k+1=>by rw[ib,WU];exact Ch k
theorem Ci: ∀k,(ic k).length=256
 | 0=>WR ..
 | k+1=>by rw[ic,WU];exact Ci k
theorem Km:ib 255=aT:=by decide+kernel
theorem Kn:ic 255=aW:=by decide+kernel
theorem Ko(k:Nat):(fW k).toNat<256:=(fW k).toNat_lt
attribute [local irreducible] aT aW ib ic fW
theorem Kp:aa WK 142 #[] [] [] (λE=>[ob (E.y 0) (rB 255 aT++rN 256 aW).toArray 312]) (λE=>pt ((E.y 0)) 0):=by
 refine fG Tryz.func142 λw f=>r0 [] [(0,.pointer none)] [] (ra (λa=>[(1,pt (B1 a) 0)]) (λa=>[ob (B1 a) (rB 255 (WJ 255 0)++rN 256 (WJ 256 0)).toArray 312]) λa=>r0 [] [(2,u1 1)] [] (r0 [] [(6,i6 0)] [] ?_));refine lq (λk=>k≤255) (λk=>[(2,u1 ((fW k).toNat:Int)),(6,iN k)]) (λk L=>L.set 0 (ob (B1 a) (rB 255 (ib k)++rN 256 (ic k)).toArray 312)) (λk=>255-k) 0 Om Kr (by rw[show ib 0=WJ 255 0 by unfold ib;rfl,show ic 0=WJ 256 0 by unfold ic;rfl];kernel_rfl) (λk e=>?_);have g:=Ko k;refine r0 [] [(7,.bool (decide ((k:Int)<255)))] [] ?_;refine bW (k:Int) 255 (λd b=>?_) λd b=>?_
 ·exact r0 [] [(3,iN k)] [] (rs [(5,iA 310 .i64 (B1 a) 0 255 1 k),(6,wM (A:=[]) (C:=(rN 256 (ic k):List Value)) 0 (B1 a) k 312 (u1 ((fW k).toNat:Int)) (rB 255 (ib k)++rN 256 (ic k)) (rB 255 ((ib k).set k (fW k))++rN 256 (ic k)) rfl rfl rfl (jV Om) (mn (Ch ..)))] 0 (ob (B1 a) (rB 255 ((ib k).set k (fW k))++rN 256 (ic k)).toArray 312) (rs [(5,iA 296 .u8 (B1 a) 255 256 1 ((fW k).toNat)),(6,wM (A:=(rB 255 ((ib k).set k (fW k)):List Value)) (C:=[]) 0 (B1 a) ((fW k).toNat) 312 (iN k) (rB 255 ((ib k).set k (fW k))++rN 256 (ic k)) (rB 255 ((ib k).set k (fW k))++rN 256 ((ic k).set ((fW k).toNat) k)) (by rw[WM]) (by rw[WM]) ku (jV Om) (H8 (Ci ..)))] 0 (ob (B1 a) (rB 255 ((ib k).set k (fW k))++rN 256 ((ic k).set ((fW k).toNat) k)).toArray 312) (r0 [(1,.c [] [] (Kk (fW k)))] [(2,u1 ((tw (fW k)).toNat:Int))] [2] (r0 [(0,ad k 1)] [(6,iN (k+1))] [6] (le (k+1) Om Om Kr [0] (by rw[show ib (k+1)=(ib k).set k (fW k) by rw[ib],show ic (k+1)=(ic k).set (fW k).toNat k by rw[ic]];kernel_rfl))))))
 obtain rfl:k=255:=by omega
 exact cl [ob (B1 a) (rB 255 aT++rN 256 aW).toArray 312] (by rw[Km,Kn];kernel_rfl) (lx (r0 [] [(0,pt (B1 a) 0)] [0] (lf (.l [(a 1).y 0] [] []) [0] [] [])))
theorem uB(g:Nat)(n:Int)(h0: -9223372036854775808≤n)(h1:n≤9223372036854775807):aa WK 182 #[pt g 0,i6 n] [ob g (rB 255 aT++rN 256 aW).toArray 312] [] N0 (λ_=>u1 ((aT.getD (dE n) 0).toNat:Int)):=by
 have b:=xL n;exact fG Tryz.func182 λw a=>r0 [] [(4,u1 0)] [] (r0 [(2,.c [] [] (Kl n Om Om)),(5,iA 310 .i64 g 0 255 1 (dE n)),(6,rM (A:=[]) (C:=(rN 256 aW:List Value)) 0 g (dE n) 312 (rB 255 aT++rN 256 aW) rfl rfl (nU Om))] [(4,u1 ((aT.getD (dE n) 0).toNat:Int))] [4] (lf ab.zero [] [(0,0)] []))
theorem pP(a:UInt8):aW.getD a.toNat 0<255:=rv a.toNat a.toNat_lt
theorem Cj{m:Nat}(h:m<255):aT.getD m 0=UInt8.ofNat (gE m):=by
 unfold aT gE;rw[WT,WT,XJ];have a:m<uw.length:=by rw[J3];exact h
 rw[W8 a];rfl
theorem Ck{a:UInt8}(h:((a.toNat:Int)==0)=false):a.toNat≠0:=by have:=ne_of_beq_false h;omega
theorem uC{a:UInt8}(h:((a.toNat:Int)==0)=true):a=0:=by
 have b:=eq_of_beq h;exact UInt8.toNat_inj.1 (by show a.toNat=0;omega)
theorem Kq{a b:UInt8}(h:(((a.toNat:Int)==0)||((b.toNat:Int)==0))=true):Value.int .u8 0= .int .u8 ((gm a b).toNat:Int):=by
 rcases XR _ _▸h with c | c
 ·rw[uC c,mB];rfl
 ·rw[uC c,nZ];rfl
theorem Ks{a b:UInt8}(h:(((a.toNat:Int)==0)||((b.toNat:Int)==0))=false):Value.int .u8 ((aT.getD (dE (((aW.getD a.toNat 0+aW.getD b.toNat 0:Nat)):Int)) 0).toNat:Int)= .int .u8 ((gm a b).toNat:Int):=by
 rw[X6] at h;have c:=Ck h.1;have d:=Ck h.2;rw[Cj (xL _)];unfold gm dh;rw[ALifn Om,show dE (((aW.getD a.toNat 0+aW.getD b.toNat 0:Nat)):Int)=(gL a.toNat+gL b.toNat)%255 by unfold dE gL;omega]
theorem pQ(g:Nat)(a b:UInt8):aa WK 217 #[pt g 0,u1 (a.toNat:Int),u1 (b.toNat:Int)] [ob g (rB 255 aT++rN 256 aW).toArray 312] [] N0 (λ_=>u1 ((gm a b).toNat:Int)):=by
 have i:=a.toNat_lt;have j:=b.toNat_lt;have e:=pP a;have f:=pP b;refine fG Tryz.func217 λw h=>r0 [] [(6,u1 0)] [] (r0 [] [(12,.bool (((a.toNat:Int)==0)||((b.toNat:Int)==0)))] [] ?_);refine cB (((a.toNat:Int)==0)||((b.toNat:Int)==0)) (λd=>?_) λd=>?_
 ·exact r0 [] [(6,u1 0)] [6] (ao (u1 0) ab.zero (by exact Kq As) [] [(0,0)] [])
 exact r0 [(5,iA 296 .u8 g 255 256 1 a.toNat),(6,rM (A:=(rB 255 aT:List Value)) (C:=[]) 0 g a.toNat 312 (rB 255 aT++rN 256 aW) (by rw[WM]) ku (qM Om)),(11,iA 296 .u8 g 255 256 1 b.toNat),(12,rM (A:=(rB 255 aT:List Value)) (C:=[]) 0 g b.toNat 312 (rB 255 aT++rN 256 aW) (by rw[WM]) ku (qM Om)),(13,ad (aW.getD a.toNat 0) (aW.getD b.toNat 0)),(14,.c [0] [] (uB g (((aW.getD a.toNat 0)+(aW.getD b.toNat 0):Nat):Int) Om Om))] [(6,u1 ((aT.getD (dE (((aW.getD a.toNat 0)+(aW.getD b.toNat 0):Nat):Int)) 0).toNat:Int))] [6] (ao (u1 ((aT.getD (dE (((aW.getD a.toNat 0)+(aW.getD b.toNat 0):Nat):Int)) 0).toNat:Int)) ab.zero (by exact Ks As) [] [(0,0)] [])
def bO(a b:UInt8):UInt8:=(bif (b.toNat:Int)==0 then(0:UInt8) else(bif (a.toNat:Int)==0 then(0:UInt8) else aT.getD (dE (((aW.getD a.toNat 0:Nat):Int)-((aW.getD b.toNat 0:Nat):Int))) 0))
def fL(b:UInt8):Int:=(bif (b.toNat:Int)==0 then 16 else 0)
theorem Cl(g:Nat)(a b:UInt8):aa WK 257 #[pt g 0,u1 (a.toNat:Int),u1 (b.toNat:Int)] [ob g (rB 255 aT++rN 256 aW).toArray 312] [] N0 (λ_=> .tuple #[u1 ((bO a b).toNat:Int),i6 (fL b)]):=by
 have l:=a.toNat_lt;have m:=b.toNat_lt;have i:=pP a;have j:=pP b;refine fG Tryz.func257 λw k=>r0 [] [(6,u1 0),(7,i6 0)] [] (r0 [] [(8,.bool ((b.toNat:Int)==0))] [] ?_);refine cN (b.toNat:Int) 0 (λd e=>?_) λd e=>?_
 ·exact r0 [] [(6,u1 0),(7,i6 16)] [6,7] (ao (.tuple #[u1 0,i6 16]) ab.zero (by((try simp only[bO,fL]);(repeat (first | rw[d] | rw[ALct])))<;>rfl) [] [(0,0)] [])
 refine r0 [] [(11,.bool ((a.toNat:Int)==0))] [] ?_;refine cN (a.toNat:Int) 0 (λh f=>?_) λh f=>?_
 ·exact r0 [] [(6,u1 0),(7,i6 0)] [6,7] (ao (.tuple #[u1 0,i6 0]) ab.zero (by((try simp only[bO,fL]);(repeat (first | rw[d] | rw[h] | rw[ALct] | rw[ALcf])))<;>rfl) [] [(0,0)] [])
 exact r0 [(5,iA 296 .u8 g 255 256 1 a.toNat),(6,rM (A:=(rB 255 aT:List Value)) (C:=[]) 0 g a.toNat 312 (rB 255 aT++rN 256 aW) (by rw[WM]) ku (qM Om)),(11,iA 296 .u8 g 255 256 1 b.toNat),(12,rM (A:=(rB 255 aT:List Value)) (C:=[]) 0 g b.toNat 312 (rB 255 aT++rN 256 aW) (by rw[WM]) ku (qM Om)),(13,sI ((aW.getD a.toNat 0:Nat):Int) (((aW.getD b.toNat 0:Nat):Int)) Om),(14,.c [0] [] (uB g (((aW.getD a.toNat 0:Nat):Int)-((aW.getD b.toNat 0:Nat):Int)) Om Om))] [(6,u1 ((aT.getD (dE (((aW.getD a.toNat 0:Nat):Int)-((aW.getD b.toNat 0:Nat):Int))) 0).toNat:Int)),(7,i6 0)] [6,7] (ao (.tuple #[u1 ((aT.getD (dE (((aW.getD a.toNat 0:Nat):Int)-((aW.getD b.toNat 0:Nat):Int))) 0).toNat:Int),i6 0]) ab.zero (by((try simp only[bO,fL]);(repeat (first | rw[d] | rw[h] | rw[ALcf])))<;>rfl) [] [(0,0)] [])
theorem Kt(g:Nat)(b:UInt8):aa WK 232 #[pt g 0,u1 (b.toNat:Int)] [ob g (rB 255 aT++rN 256 aW).toArray 312] [] N0 (λ_=> .tuple #[u1 ((bO (1:UInt8) b).toNat:Int),i6 (fL b)]):=by
 exact fG Tryz.func232 λw a=>r0 [] [(4,u1 0),(5,i6 0)] [] (r0 [(2,.c [0] [] (Cl g (1:UInt8) b))] [(4,u1 ((bO (1:UInt8) b).toNat:Int)),(5,i6 (fL b))] [4,5] (lf ab.zero [] [(0,0)] []))
def gJ(a:UInt8):Nat:=(bif (a.toNat:Int)==0 then 0 else aW.getD a.toNat 0)
def mC(a:UInt8):Int:=(bif (a.toNat:Int)==0 then 16 else 0)
theorem Ku(g:Nat)(a:UInt8):aa WK 274 #[pt g 0,u1 (a.toNat:Int)] [ob g (rB 255 aT++rN 256 aW).toArray 312] [] N0 (λ_=> .tuple #[iN (gJ a),i6 (mC a)]):=by
 have e:=a.toNat_lt;refine fG Tryz.func274 λw d=>r0 [] [(4,i6 0),(5,i6 0)] [] (r0 [] [(7,.bool ((a.toNat:Int)==0))] [] ?_);refine cN (a.toNat:Int) 0 (λc b=>?_) λc b=>?_
 ·exact r0 [] [(4,i6 0),(5,i6 16)] [4,5] (ao (.tuple #[i6 0,i6 16]) ab.zero (by((try simp only[gJ,mC]);(repeat (first | rw[c] | rw[ALct])))<;>rfl) [] [(0,0)] [])
 exact r0 [(4,iA 296 .u8 g 255 256 1 a.toNat),(5,rM (A:=(rB 255 aT:List Value)) (C:=[]) 0 g a.toNat 312 (rB 255 aT++rN 256 aW) (by rw[WM]) ku (qM Om))] [(4,iN (aW.getD a.toNat 0)),(5,i6 0)] [4,5] (ao (.tuple #[iN (aW.getD a.toNat 0),i6 0]) ab.zero (by((try simp only[gJ,mC]);(repeat (first | rw[c] | rw[ALcf])))<;>rfl) [] [(0,0)] [])
theorem Kv(g:Nat)(a:UInt8)(n:Int):aa WK 181 #[pt g 0,u1 (a.toNat:Int),i6 n] [] [] (λE=>[ob (E.y 0) #[i6 n] 3,ob (E.y 1) #[pt g 0] 239,ob (E.y 2) #[u1 (a.toNat:Int)] 5]) (λE=> .func (.func 216) #[] #[pt ((E.y 0)) 0,pt ((E.y 1)) 0,pt ((E.y 2)) 0]):=by
 exact fG Tryz.func181 λw c=>ra (λb=>[(3,pt (B0 b) 0),(4,pt (B1 b) 0),(5,pt (B2 b) 0),(6,.nilFunc)]) (λb=>[ob (B0 b) #[pt g 0] 239,ob (B1 b) #[u1 (a.toNat:Int)] 5,ob (B2 b) #[i6 n] 3]) λb=>r0 [] [(6,.func (.func 216) #[] #[pt (B2 b) 0,pt (B0 b) 0,pt (B1 b) 0])] [6] (lf (.l [(b 2).y 0,(b 0).y 0,(b 1).y 0] [] []) [2,0,1] [] [])
def kv(a:UInt8):Nat→UInt8
 | 0=>1
 | k+1=>gm (kv a k) a
theorem Kw(h f e g:Nat)(a:UInt8):e4 5 WK 216 #[pt h 0,pt f 0,pt e 0] (λ(x:Nat×UInt8)=>#[i6 (x.1:Int),u1 (x.2.toNat:Int)]) ((WV 4).map λk=>(k,kv a k)) (Xk [[(h,.cells #[i6 4] 3 (0,0))],[(f,.cells #[pt g 0] 239 (0,0))],[(e,.cells #[u1 (a.toNat:Int)] 5 (0,0))],[(g,.cells (rB 255 aT++rN 256 aW).toArray 312 (0,0))]]):=by
 refine gi (KO:=[[(h,.cells #[i6 4] 3 (0,0))],[(f,.cells #[pt g 0] 239 (0,0))],[(e,.cells #[u1 (a.toNat:Int)] 5 (0,0))],[(g,.cells (rB 255 aT++rN 256 aW).toArray 312 (0,0))]]) Tryz.func216 (λs v u A y j q p=>?_);refine r0 [] [(5,u1 1)] [] (r0 [(0,.l 0)] [(8,i6 4),(9,i6 0)] [] ?_);refine jX (λk=>k≤4) (λk=>[(5,u1 ((kv a k).toNat:Int)),(9,iN k)]) (λ_ L=>L) (λk=>4-k) (λk=>k) 0 Om p Kr Kr (λk w z r d=>?_);refine r0 [] [(10,.bool (decide ((k:Int)<4)))] [] ?_;refine bW (k:Int) 4 (λo i=>?_) λo i=>?_
 ·refine r0 [] [(6,iN k)] [] ?_;refine iy j q d 3 N0 (λ_=>[(12,.func (.yield s) #[] #[]),(13,iN k),(14,u1 ((kv a k).toNat:Int))]) [] (λ_ L=>L) N0 [0,1,2,3] (nS Om) (λt m n b=>?_);refine cF _ rfl (r0 [(0,.l 1),(2,.l 2),(3,.c [3] [] (pQ g (kv a k) a))] [(5,u1 ((gm (kv a k) a).toNat:Int))] [5] (r0 [(0,ad k 1)] [(9,iN (k+1))] [9] ?_));exact iI (k+1) Om b Om Kr [0,1,2,3] Kr
 obtain rfl:k=4:=by omega
 refine jY ?_;exact kT j d bg [] [0,1,2,3]
end
end E
def xs(n:Nat)(f:Nat→UInt8):UInt8:=
 match n with
 | 0=>0
 | n+1=>xs n f^^^f n
theorem Cm(n:Nat)(f:Nat→UInt8):xs (n+1) f=xs n f^^^f n:=rfl
theorem xM{n:Nat}{f g:Nat→UInt8}(h: ∀i,i<n→f i=g i):xs n f=xs n g:=by
 induction n with
 | zero=>rfl
 | succ n ih=>rw[xs,xs,ih (λi a=>h i Om),h n Om]
theorem oS{n:Nat}{f:Nat→UInt8}(h: ∀i,i<n→f i=0):xs n f=0:=by
 induction n with
 | zero=>rfl
 | succ n ih=>rw[xs,ih (λi a=>h i Om),h n Om,Xa]
theorem Kx(n:Nat)(f g:Nat→UInt8):xs n (λi=>f i^^^g i)=xs n f^^^xs n g:=by
 induction n with
 | zero=>exact(XA (a:=0)).symm
 | succ n ih=>rw[xs,xs,xs,ih,x4]
theorem Ky(n d:Nat)(f:Nat→UInt8)(h: ∀i,n≤i→f i=0):xs (n+d) f=xs n f:=by
 induction d with
 | zero=>rfl
 | succ d ih=>rw[←Yx,xs,ih,h (n+d) Om,Xa]
theorem uD{n m:Nat}(a:n≤m)(f:Nat→UInt8)(h: ∀i,n≤i→f i=0):xs m f=xs n f:=by
 have:=Ky n (m-n) f h;rwa [show n+(m-n)=m from by omega] at this
def conv(f g:Nat→UInt8)(n:Nat):UInt8:=xs (n+1) (λi=>gm (f i) (g (n-i)))
theorem Kz{f a g b:Nat→UInt8}{n:Nat}(h: ∀i,i≤n→f i=a i)(c: ∀i,i≤n→g i=b i):conv f g n=conv a b n:=
 xM (λi d=>by rw[h i Om,c (n-i) Om])
theorem KA(f g h:Nat→UInt8)(n:Nat):conv (λi=>f i^^^g i) h n=conv f h n^^^conv g h n:=by
 unfold conv
 rw[←Kx];exact xM (λi _=>Cc _ _ _)
theorem Cn(f g:Nat→UInt8)(M N:Nat)(hf: ∀i,M≤i→f i=0)(a: ∀i,N≤i→g i=0)(n:Nat)(h:M+N≤n+1):conv f g n=0:=by
 refine oS (λi _=>?_);by_cases b:M≤i
 ·rw[hf i b,mB]
 ·rw[a (n-i) Om,nZ]
theorem KB(f g:Nat→UInt8)(M N:Nat)(hf: ∀i,M<i→f i=0)(b: ∀i,N<i→g i=0):conv f g (M+N)=gm (f M) (g N):=by
 unfold conv
 have a:xs (M+N+1) (λi=>gm (f i) (g (M+N-i)))=xs (M+1) (λi=>gm (f i) (g (M+N-i))):=
  uD Om _ (λi c=>by rw[hf i Om,mB])
 rw[a,xs,oS (λi c=>by rw[b (M+N-i) Om,nZ]),XB,show M+N-M=N from by omega]
def pw(x:UInt8):Nat→UInt8
 | 0=>1
 | n+1=>gm (pw x n) x
def ev(f:Nat→UInt8)(N:Nat)(x:UInt8):UInt8:=xs N (λi=>gm (f i) (pw x i))
def co(p:List UInt8)(i:Nat):UInt8:=p.getD i 0
theorem xN{p:List UInt8}{i:Nat}(h:i<p.length):co p i=p[i]:=by simp [co,h]
theorem mD{p:List UInt8}{i:Nat}(h:p.length≤i):co p i=0:=by simp [co,h]
def tl(p:List UInt8):Nat→Nat
 | 0=>0
 | k+1=>if co p k=0 then tl p k else k+1
def a6(p:List UInt8):Nat:=tl p p.length
theorem KC(p:List UInt8)(k:Nat):tl p k≤k:=by
 induction k with
 | zero=>exact W6 0
 | succ k ih=>rw[tl];split<;>omega
theorem KD(p:List UInt8)(k:Nat): ∀i,tl p k≤i→i<k→co p i=0:=by
 induction k with
 | zero=>intro i _ h;omega
 | succ k ih=>
  intro i a d;rw[tl] at a;by_cases b:co p k=0
  ·rw[ALifp b] at a;by_cases c:i=k
   ·rw[c];exact b
   ·exact ih i a Om
  ·rw[ALifn b] at a;omega
theorem KE(p:List UInt8)(k:Nat): ∀t,tl p k=t+1→co p t≠0:=by
 induction k with
 | zero=>intro t h;rw[tl] at h;omega
 | succ k ih=>
  intro t h;rw[tl] at h;by_cases a:co p k=0
  ·rw[ALifp a] at h;exact ih t h
  ·rw[ALifn a] at h;obtain rfl:k=t:=by omega
   exact a
theorem rz(p:List UInt8):a6 p≤p.length:=KC p _
theorem kx(p:List UInt8){i:Nat}(h:a6 p≤i):co p i=0:=by
 by_cases a:i<p.length
 ·exact KD p _ i h a
 ·exact mD Om
theorem oT(p:List UInt8){t:Nat}(h:a6 p=t+1):co p t≠0:=KE p _ t h
theorem rA{p:List UInt8}{n:Nat}(h0: ∀i,n≤i→co p i=0)(h1:n=0∨co p (n-1)≠0):a6 p=n:=by
 rcases Nat.lt_trichotomy (a6 p) n with h | h | h
 ·rcases h1 with h1 | h1
  ·omega
  ·exact absurd (kx p (show a6 p≤n-1 by omega)) h1
 ·exact h
 ·have:=oT p (t:=a6 p-1) Om;exact absurd (h0 _ Om) this
theorem Co{p q:List UInt8}(h: ∀i,co p i=co q i):a6 p=a6 q:=by
 refine rA (λi b=>by rw[h];exact kx q b) ?_;by_cases a:a6 q=0
 ·exact .inl a
 ·exact .inr (by rw[h];exact oT q Om)
theorem KF{p:List UInt8}{n:Nat}(h0: ∀i,n≤i→co p i=0):a6 p≤n:=by
 apply XN;intro h;exact oT p (t:=a6 p-1) Om (h0 _ Om)
def ax(p:List UInt8):List UInt8:=p.take (a6 p)
theorem mE(p:List UInt8):(ax p).length=a6 p:=by unfold ax;rw[WZ];have:=rz p;omega
theorem n0(p:List UInt8)(i:Nat):co (ax p) i=co p i:=by
 by_cases h:i<a6 p
 ·unfold co ax;rw[WT,WT,XU h]
 ·rw[kx p Om,mD (by rw[mE];omega)]
theorem Cp(p:List UInt8):a6 (ax p)=a6 p:=Co (n0 p)
theorem rC{p q:List UInt8}(c:p.length=q.length)(h: ∀i,i<p.length→co p i=co q i):p=q:=by
 refine Yn c λi a b=>?_;have:=h i a;rwa [xN a,xN b] at this
theorem KG{p q:List UInt8}(h: ∀i,co p i=co q i):ax p=ax q:=
 rC (by rw[mE,mE,Co h]) λi _=>by rw[n0,n0,h]
def gy(n:Nat)(f:Nat→UInt8):List UInt8:=(WV n).map f
theorem jG(n:Nat)(f:Nat→UInt8):(gy n f).length=n:=by simp [gy]
theorem mF(n:Nat)(f:Nat→UInt8)(i:Nat):co (gy n f) i=if i<n then f i else 0:=by
 by_cases h:i<n
 ·rw[ALifp h,xN (by rw[jG];exact h)];simp [gy]
 ·rw[ALifn h,mD (by rw[jG];omega)]
theorem KH{n:Nat}{f:Nat→UInt8}(h: ∀i,n≤i→f i=0)(i:Nat):co (gy n f) i=f i:=by
 rw[mF];split
 ·rfl
 ·exact(h i Om).symm
theorem xO(n:Nat)(f g:Nat→UInt8)(k:Nat)(v:UInt8)(b: ∀i,i<n→g i=if i=k then v else f i):(gy n f).set k v=gy n g:=by
 refine Yn (by rw[WU,jG,jG]) λi a c=>?_;rw[WU,jG] at a;rw[List.getElem_set];simp only[gy,List.getElem_map,List.getElem_range];rw[b i a];by_cases e:k=i
 ·rw[ALifp e,ALifp e.symm]
 ·rw[ALifn e,ALifn (Ne.symm e)]
def ie(p q:List UInt8):List UInt8:=ax (gy (a6 p+a6 q) (conv (co p) (co q)))
theorem xP(p q:List UInt8)(i:Nat):co (ie p q) i=conv (co p) (co q) i:=by
 unfold ie;rw[n0,KH];intro i a;exact Cn _ _ (a6 p) (a6 q) (λ_ h=>kx p h) (λ_ h=>kx q h) i Om
def ng(p:List UInt8)(x:UInt8):UInt8:=ev (co p) p.length x
theorem KJ(p q:List UInt8):a6 (ie p q)=if a6 p=0∨a6 q=0 then 0 else a6 p+a6 q-1:=by
 split
 ·rename_i h;refine rA (λi _=>?_) (.inl rfl);rw[xP];rcases h with h | h
  ·exact oS (λj _=>by rw[kx p Om,mB])
  ·exact oS (λj _=>by rw[kx q Om,nZ])
 ·rename_i h;refine rA (λi a=>?_) (.inr ?_)
  ·rw[xP];exact Cn _ _ (a6 p) (a6 q) (λ_ h=>kx p h) (λ_ h=>kx q h) i Om
  ·rw[xP,show a6 p+a6 q-1-1=(a6 p-1)+(a6 q-1) from by omega,
    KB _ _ _ _ (λi a=>kx p Om) (λi a=>kx q Om)]
   exact Ce _ _ (oT p Om) (oT q Om)
theorem KK(r:UInt8):a6 [r,1]=2:=rA (λi a=>mD (show 2≤i from a)) (.inr (show(1:UInt8)≠0 by decide))
theorem KL(a c:UInt8):a=c^^^(a^^^c):=by rw[Yq a c,←XP,XA,XB]
theorem KM(p q:List UInt8):(ie p q).length=a6 (ie p q):=by
 have h:a6 (ie p q)=a6 (gy (a6 p+a6 q) (conv (co p) (co q))):=by unfold ie;rw[Cp]
 rw[h];unfold ie;rw[mE]
def ig(rs:List UInt8):Nat→List UInt8
 | 0=>[1]
 | k+1=>ie (ig rs k) [co rs k,1]
def KN(rs:List UInt8):List UInt8:=ig rs rs.length
theorem Cq(rs:List UInt8)(k:Nat):a6 (ig rs k)=k+1:=by
 induction k with
 | zero=>exact rA (λi a=>mD (show 1≤i by omega)) (.inr (show(1:UInt8)≠0 by decide))
 | succ k ih=>rw[ig,KJ,ih,KK,ALifn Om];omega
theorem KP(rs:List UInt8)(k:Nat):(ig rs k).length=k+1:=by
 cases k with
 | zero=>rfl
 | succ k=>rw[ig,KM];exact Cq rs (k+1)
def oV(q:List UInt8)(d:Nat)(t:UInt8)(o:List UInt8)(i:Nat):List UInt8:=gy o.length λj=>if i-d≤j∧j≤i then co o j^^^gm (gm (co o i) t) (co q (j-(i-d))) else co o j
theorem KQ(q:List UInt8)(d:Nat)(t:UInt8)(o:List UInt8)(i:Nat):(oV q d t o i).length=o.length:=jG _ _
def bY(p q:List UInt8)(d:Nat)(t:UInt8):Nat→List UInt8
 | 0=>p
 | k+1=>oV q d t (bY p q d t k) (p.length-1-k)
theorem rE(p q:List UInt8)(d:Nat)(t:UInt8)(k:Nat):(bY p q d t k).length=p.length:=by
 induction k with
 | zero=>rfl
 | succ k ih=>rw[bY,KQ,ih]
def ed(p q:List UInt8)(t:UInt8):List UInt8:=ax (bY p q (a6 q-1) t (p.length-(a6 q-1)))
theorem KR{q o:List UInt8}{d:Nat}{t:UInt8}{i:Nat}(l:a6 q=d+1)(k:d≤i)(m:i<o.length)(j:Nat):
  co (oV q d t o i) j=co o j^^^conv (λa=>if a=i-d then gm (co o i) t else 0) (co q) j:=by
 have g:conv (λa=>if a=i-d then gm (co o i) t else 0) (co q) j=if i-d≤j then gm (gm (co o i) t) (co q (j-(i-d))) else 0:=by
  unfold conv
  by_cases h:i-d≤j
  ·rw[ALifp h];have b:xs (j+1) (λa=>gm (if a=i-d then gm (co o i) t else 0) (co q (j-a)))=xs (i-d+1) (λa=>gm (if a=i-d then gm (co o i) t else 0) (co q (j-a))):=
    uD Om _ λa c=>by
     show gm (if a=i-d then gm (co o i) t else 0) (co q (j-a))=0;rw[ALifn Om,mB]
   rw[b,Cm,oS (λa c=>by
    show gm (if a=i-d then gm (co o i) t else 0) (co q (j-a))=0;rw[ALifn Om,mB]),ALifp rfl,XB]
  ·rw[ALifn h];exact oS λa c=>by
    show gm (if a=i-d then gm (co o i) t else 0) (co q (j-a))=0;rw[ALifn Om,mB]
 rw[g];unfold oV;rw[mF];by_cases e:j<o.length
 ·rw[ALifp e];by_cases b:i-d≤j
  ·rw[ALifp b];by_cases f:j≤i
   ·rw[ALifp ⟨b,f⟩]
   ·rw[ALifn Om,kx q Om,nZ,Xa]
  ·rw[ALifn Om,ALifn b,Xa]
 ·rw[ALifn e,mD (p:=o) Om]
  split
  ·rw[kx q Om,nZ];rfl
  ·rfl
theorem KS{p q:List UInt8}{d:Nat}{t:UInt8}(g:a6 q=d+1)(ht:gm (co q d) t=1)(k:Nat)(r:k≤p.length-d):
  (∃s:Nat→UInt8,(∀i,p.length≤i→s i=0)∧∀j,co p j=co (bY p q d t k) j^^^conv s (co q) j)∧∀j,p.length-k≤j→co (bY p q d t k) j=0:=by
 induction k with
 | zero=>exact⟨⟨λ_=>0,λ_ _=>rfl,λj=>by
   rw[show conv (λ_=>0) (co q) j=0 from oS λi _=>mB _,Xa];rfl⟩,λj l=>mD (by rw[rE];omega)⟩
 | succ k ih=>
  obtain⟨⟨s,b,m⟩,n⟩:=ih Om;have u:=rE p q d t k;have e:=λj=>KR (q:=q) (o:=bY p q d t k) (d:=d) (t:=t) (i:=p.length-1-k) g Om Om j;refine⟨⟨λa=>s a^^^(if a=p.length-1-k-d then gm (co (bY p q d t k) (p.length-1-k)) t else 0),λi h=>by
   show s i^^^(if i=p.length-1-k-d then gm (co (bY p q d t k) (p.length-1-k)) t else 0)=0;rw[b i h,ALifn Om];rfl,λj=>?_⟩,λj l=>?_⟩
  ·rw[KA,bY,e j,m j,XP]
   congr 1
   exact KL _ _
  ·rw[bY];unfold oV;rw[mF];by_cases c:j<(bY p q d t k).length
   ·rw[ALifp c];by_cases f:p.length-1-k=j
    ·subst f;rw[ALifp Om,show p.length-1-k-(p.length-1-k-d)=d from by omega,Ca,lS t,ht,Cd,XA]
    ·rw[ALifn Om];exact n j Om
   ·rw[ALifn c]
theorem KT{p q:List UInt8}{t:UInt8}(h0:0<a6 q)(ht:gm (co q (a6 q-1)) t=1):
  (∃s:Nat→UInt8,(∀i,p.length≤i→s i=0)∧∀j,co p j=co (ed p q t) j^^^conv s (co q) j)∧a6 (ed p q t)<a6 q:=by
 obtain⟨a,b⟩:=KS (p:=p) (q:=q) (d:=a6 q-1) (t:=t) Om ht (p.length-(a6 q-1)) (W6 _);refine⟨?_,?_⟩
 ·obtain⟨s,c,f⟩:=a;exact⟨s,c,λj=>by rw[f j];unfold ed;rw[n0]⟩
 ·have g:a6 (ed p q t)≤a6 q-1:=KF λi h=>by
   unfold ed;rw[n0];by_cases e:p.length≤a6 q-1
   ·exact mD (by rw[rE];omega)
   ·exact b i Om
  omega
theorem KU(p q:List UInt8)(t:UInt8):a6 (ed p q t)=(ed p q t).length:=by unfold ed;rw[Cp,mE]

theorem Cr(n:Nat)(f:Nat→UInt8)(h: ∀i,i<n→f i=0):gy n f=WJ n 0:=by
 refine rC (by rw[jG,WR]) λi a=>?_;rw[jG] at a;rw[mF,ALifp a,h i a];simp [co,a]
theorem uE{n:Nat}{f g:Nat→UInt8}(h: ∀i,i<n→f i=g i):gy n f=gy n g:=by
 unfold gy;exact XD λi a=>h i (List.mem_range.1 a)
theorem KW(p:List UInt8):gy p.length (co p)=p:=rC (jG _ _) λi a=>by rw[jG] at a;rw[mF,ALifp a]
def n1(p q:List UInt8)(i t:Nat):UInt8:=xs i λa=>if a≤t then gm (co p a) (co q (t-a)) else 0
def oW(p q:List UInt8)(i j t:Nat):UInt8:=n1 p q i t^^^(if i≤t∧t<i+j then gm (co p i) (co q (t-i)) else 0)
theorem xQ(p q:List UInt8)(i t:Nat):oW p q i 0 t=n1 p q i t:=by
 unfold oW;rw[ALifn Om,Xa]
theorem KX{p q:List UInt8}(i t:Nat):oW p q i q.length t=n1 p q (i+1) t:=by
 unfold oW n1;rw[Cm]
 congr 1
 by_cases h:i≤t
 ·rw[ALifp h];by_cases a:t<i+q.length
  ·rw[ALifp ⟨h,a⟩]
  ·rw[ALifn Om,mD (p:=q) Om,nZ]
 ·rw[ALifn Om,ALifn h]
theorem KY{p q:List UInt8}(t:Nat):n1 p q p.length t=conv (co p) (co q) t:=by
 unfold n1 conv
 have c: ∀a,(t+1≤a∨p.length≤a)→(if a≤t then gm (co p a) (co q (t-a)) else 0)=0:=λa e=>by
  by_cases h:a≤t
  ·rw[ALifp h,mD (p:=p) Om,mB]
  ·rw[ALifn h]
 have d:xs (t+1) (λa=>gm (co p a) (co q (t-a)))=xs (t+1) λa=>if a≤t then gm (co p a) (co q (t-a)) else 0:=xM λi b=>by rw[ALifp Om]
 rw[d];rcases Nat.le_total (t+1) p.length with h | h
 ·exact uD h _ λi b=>c i (.inl b)
 ·exact(uD h _ λi b=>c i (.inr b)).symm
def eG(p q:List UInt8)(i j:Nat):List UInt8:=gy (p.length+q.length) (oW p q i j)
theorem Cs(p q:List UInt8)(i j:Nat):(eG p q i j).length=p.length+q.length:=jG _ _
theorem KZ(p q:List UInt8):eG p q 0 0=WJ (p.length+q.length) 0:=Cr _ _ λi _=>by rw[xQ];rfl
theorem K0(p q:List UInt8)(i:Nat):eG p q i q.length=eG p q (i+1) 0:=uE λt _=>by rw[KX,xQ]
theorem K1{p q:List UInt8}{i j:Nat}(h:i+j<p.length+q.length):co (eG p q i j) (i+j)=n1 p q i (i+j):=by
 unfold eG;rw[mF,ALifp h];unfold oW;rw[ALifn Om,Xa]
theorem K2{p q:List UInt8}{i j:Nat}:(eG p q i j).set (i+j) (n1 p q i (i+j)^^^gm (co p i) (co q j))=eG p q i (j+1):=
 xO _ _ _ _ _ λt _=>by
  unfold oW;by_cases e:t=i+j
  ·subst e;rw[ALifp Om,ALifp rfl,XX]
  ·rw[ALifn e];by_cases h:i≤t∧t<i+j
   ·rw[ALifp Om,ALifp h]
   ·rw[ALifn Om,ALifn h]
theorem K3(p q:List UInt8):ax (eG (ax p) (ax q) (a6 p) 0)=ie p q:=by
 unfold ie eG;rw[mE,mE];refine KG λt=>?_;rw[mF,mF]
 split
 ·have h:=KY (p:=ax p) (q:=ax q) t;rw[mE] at h;rw[xQ,h];exact Kz (λi _=>n0 p i) (λi _=>n0 q i)
 ·rfl
def fl(q:List UInt8)(a:UInt8)(o:List UInt8)(z j:Nat):List UInt8:=gy o.length λx=>if z≤x∧x<z+j then co o x^^^gm a (co q (x-z)) else co o x
theorem K4(q:List UInt8)(a:UInt8)(o:List UInt8)(z j:Nat):(fl q a o z j).length=o.length:=jG _ _
theorem K5(q:List UInt8)(a:UInt8)(o:List UInt8)(z:Nat):fl q a o z 0=o:=by
 unfold fl;rw[uE (g:=co o) λi _=>ALifn Om];exact KW o
theorem K6{q:List UInt8}{a:UInt8}{o:List UInt8}{z j:Nat}(h:z+j<o.length):co (fl q a o z j) (z+j)=co o (z+j):=by
 unfold fl;rw[mF,ALifp h,ALifn Om]
theorem K7{q:List UInt8}{a:UInt8}{o:List UInt8}{z j:Nat}:(fl q a o z j).set (z+j) (co o (z+j)^^^gm a (co q j))=fl q a o z (j+1):=
 xO _ _ _ _ _ λt _=>by
  by_cases e:t=z+j
  ·subst e;rw[ALifp Om,ALifp rfl,XX]
  ·rw[ALifn e];by_cases h:z≤t∧t<z+j
   ·rw[ALifp Om,ALifp h]
   ·rw[ALifn Om,ALifn h]
theorem K8{q:List UInt8}{t:UInt8}{o:List UInt8}{d i:Nat}(h:d≤i):fl q (gm (co o i) t) o (i-d) (d+1)=oV q d t o i:=by
 unfold fl oV;refine uE λx _=>?_;by_cases a:i-d≤x∧x<i-d+(d+1)
 ·rw[ALifp a,ALifp Om]
 ·rw[ALifn a,ALifn Om]
def hv(p:List UInt8)(x:UInt8):Nat→UInt8
 | 0=>0
 | j+1=>gm (hv p x j) x^^^co p (p.length-1-j)
theorem K9(p:List UInt8)(x:UInt8)(j:Nat)(e:j≤p.length):gm (hv p x j) (pw x (p.length-j))^^^ev (co p) (p.length-j) x=ng p x:=by
 induction j with
 | zero=>rw[hv,mB,XB,Xq];rfl
 | succ j ih=>
  rw[←ih Om,hv,Cc];obtain⟨m,d⟩: ∃m,p.length-(j+1)=m:=⟨_,rfl⟩;have b:p.length-j=m+1:=by omega
  have c:p.length-1-j=m:=by omega
  have a:ev (co p) (m+1) x=ev (co p) m x^^^gm (co p m) (pw x m):=rfl;rw[d,b,c,a,pw,Ca,lS x,XP,Yq (gm (co p m) (pw x m))]
theorem Lb(p:List UInt8)(x:UInt8):hv p x p.length=ng p x:=by
 have h:=K9 p x p.length (W6 _);rw[XM,pw,Cd,show ev (co p) 0 x=0 from rfl,Xa] at h;exact h
namespace E
section
open Go Go.RowKit Go.Shelf
def kB:Kd WK UInt8:=⟨eB,[u1 0],191,5,0,1,λ_=>rfl,rfl,λ_=>rfl,dX.mk' Kr Kr rfl⟩
def oX:Value→Bool
 | .slice none _ _=>true
 | _=>false
theorem Lc{i:Nat}{w:World}{α:Type}{en:α→List Value}{v:Value}{xs:List α}{bs:ay}(h:aG en v xs bs):(av .eql 191 (.tmp i) (.const (.slice none 0 0)) v (.slice none 0 0)).run WK w= .ok (.bool (oX v)) w:=by
 obtain⟨a,r,rfl⟩:=h.2;cases a<;>kernel_rfl
theorem uF{α:Type}{en:α→List Value}{v:Value}{xs:List α}{bs:ay}(h:aG en v xs bs)(h1:oX v=true):xs=[]:=by
 rcases h.1 with⟨a,_⟩ | ⟨g,b,d,t,e,c,rfl,_⟩
 ·exact a
 ·cases h1
theorem Cu(v:Value)(xs:List UInt8)(g:xs.length≤1000000):aa WK 233 #[v] [.p (aG eB v xs)] [] (λE=>[bC (E.val 0) xs]) (λE=>(E.val 0)):=by
 refine fO Tryz.func233 0 rfl λd a=>fG Tryz.func233 λw f=>r0 [] [(2,.slice none 0 0)] [] (r0 [(1,.t (tv (av .eql 191 (.tmp 3) (.const (.slice none 0 0)) (v) (.slice none 0 0)) (λ_=>Lc a)))] [(4,.bool (oX v))] [] ?_);refine cB (oX v) (λe=>?_) λe=>?_
 ·exact r0 [] [(2,.slice none 0 0)] [2] (cz kB (lf (.l [] [] [.slice none 0 0]) [1] [(0,0)] [] (hf:=by(try rewrite [uF a As]);kernel_rfl)))
 exact rr (λb=>[(0,.m (qU 1 eB ([u1 0]) 5)),(2,.m (mo 1 0 oM (.slice (some ⟨(b 0).y 0,0,none⟩) 0 0) (v) (xs:=[]) (ys:=xs) (.c d) (cP a.1) oL (λ_=>rfl) (by simp only[LL];omega)))]) (λb=>[(2,(b 2).val 0)]) [2] (λb L=>L++[bC ((b 2).val 0) (([])++xs)]) λb=>lf (.l [] [] [(b 2).val 0]) [1] [(0,0)] [] (hf:=by(try rewrite [uF a As]);kernel_rfl)
theorem xR{P:Program}{T:TypeId}{x y:Operand}{w:World}{a:Int}{k:Nat}(h0: -9223372036854775807≤a-(k:Int))(h1:a-(k:Int)≤9223372036854775807):(av .sub T x y (.int .i64 (a-(k:Int))) (.int .i64 1)).run P w= .ok (.int .i64 (a-((k+1:Nat):Int))) w:=by
 have h:=qy (P:=P) (T:=T) (x:=x) (y:=y) (w:=w) (a:=a-(k:Int)) (b:=1) Om Om;rw[show a-(k:Int)-1=a-((k+1:Nat):Int) by omega] at h;exact h
theorem Ld{P:Program}{T:TypeId}{x y:Operand}{w:World}{k:Nat}(h:k<9223372036854775807):(av .add T x y (.int .i64 ((k:Int)-1)) (.int .i64 1)).run P w= .ok (.int .i64 (k:Int)) w:=by
 have h:=qx (P:=P) (T:=T) (x:=x) (y:=y) (w:=w) (a:=(k:Int)-1) (b:=1) Om Om;rw[show(k:Int)-1+1=k by omega] at h;exact h
theorem Lf{xs:List UInt8}:tl xs (xs.length-0)=a6 xs:=rfl
theorem Lh{xs:List UInt8}{k:Nat}(ht:tl xs (xs.length-k)=a6 xs)(a:0≤((xs.length:Nat):Int)-1-(k:Int))(h:(((xs.getD (xs.length-1-k) 0).toNat:Int)==0)=true):tl xs (xs.length-(k+1))=a6 xs:=by
 rw[show xs.length-k=(xs.length-1-k)+1 by omega,tl,ALifp (show Go.Proofs.YtbcodenfkijdnaaGreat.co xs (xs.length-1-k)=0 from uC h)] at ht;rw[←ht]
 congr 1
 omega
theorem Li{xs:List UInt8}{k:Nat}(ht:tl xs (xs.length-k)=a6 xs)(c:0≤((xs.length:Nat):Int)-1-(k:Int))(h:(((xs.getD (xs.length-1-k) 0).toNat:Int)==0)=false):Value.int .i64 (((xs.length:Nat):Int)-1-(k:Int))= .int .i64 (((a6 xs:Nat):Int)-1):=by
 have b:Go.Proofs.YtbcodenfkijdnaaGreat.co xs (xs.length-1-k)≠0:=λe=>by
  have a:xs.getD (xs.length-1-k) 0=0:=e;rw[a] at h;cases h
 rw[show xs.length-k=(xs.length-1-k)+1 by omega,tl,ALifn b] at ht;exact ALca (Value.int .i64) Om
theorem Lj{xs:List UInt8}{k:Nat}(ht:tl xs (xs.length-k)=a6 xs)(a:k≤xs.length)(b: ¬0≤((xs.length:Nat):Int)-1-(k:Int)):Value.int .i64 (((xs.length:Nat):Int)-1-(k:Int))= .int .i64 (((a6 xs:Nat):Int)-1):=by
 rw[show xs.length-k=0 by omega] at ht;rw[←ht];exact ALca (Value.int .i64) (by show _=((0:Nat):Int)-1;omega)
attribute [local irreducible] a6
theorem Cv(v:Value)(xs:List UInt8)(l:xs.length≤1000000):aa WK 231 #[v] [.p (aG eB v xs)] [] N0 (λ_=>i6 (((a6 xs:Nat):Int)-1)):=by
 refine fO Tryz.func231 0 rfl λg a=>fG Tryz.func231 λw j=>r0 [] [(2,i6 0)] [] (r0 [(1,du a.1 0),(2,sI (xs.length:Int) (1) Om)] [(3,i6 ((xs.length:Int)-1))] [] ?_);refine lq (λk=>k≤xs.length∧(tl xs (xs.length-k)=a6 xs)) (λk=>[(3,i6 (((xs.length:Nat):Int)-1-((k:Nat):Int)))]) (λ_ L=>L) (λk=>xs.length-k) 0 ⟨by omega,Lf⟩ (by rw[show((xs.length:Nat):Int)-1-((0:Nat):Int)=(xs.length:Int)-1 by omega];kernel_rfl) Kr (λk ⟨i,f⟩=>?_);cases b:(decide (0≤(((xs.length:Nat):Int)-1-((k:Nat):Int))))
 case true=>
  have c:=of_decide_eq_true b;refine r0 [(1,.t (tk (show Value.bool (decide (0≤(((xs.length:Nat):Int)-1-((k:Nat):Int))))= .bool true from ALca Value.bool b))),(4,.t (tk (show i6 (((xs.length:Nat):Int)-1-((k:Nat):Int))=iN (xs.length-1-k) from ALca (Value.int .i64) Om))),(5,eU a.1 0 (xs.length-1-k) 1),(6,iG kB a.1 0 (xs.length-1-k) 0)] [(15,.bool (((xs.getD (xs.length-1-k) 0).toNat:Int)==0))] [] ?_;refine cN ((xs.getD (xs.length-1-k) 0).toNat:Int) 0 (λh e=>?_) λh e=>?_
  ·exact r0 [(1,.t (tv (av .sub 3 (.tmp 16) (.const (i6 1)) (i6 (((xs.length:Nat):Int)-1-((k:Nat):Int))) (i6 1)) (λ_=>xR Om Om)))] [(3,i6 (((xs.length:Nat):Int)-1-((k+1:Nat):Int)))] [3] (le (k+1) ⟨by omega,Lh f As As⟩ Om Kr [0] Kr)
  exact lx (r0 [] [(2,i6 (((xs.length:Nat):Int)-1-((k:Nat):Int)))] [2] (ao (i6 (((xs.length:Nat):Int)-1-((k:Nat):Int))) ab.zero (by exact Li f As As) [] [(0,0)] []))
 have c:=of_decide_eq_false b;exact rF [(1,.t (tk (show Value.bool (decide (0≤(((xs.length:Nat):Int)-1-((k:Nat):Int))))= .bool false from ALca Value.bool b))),(3,.d),(4,.d),(5,.d),(6,.d),(7,.d)] 15 (lx (r0 [] [(2,i6 (((xs.length:Nat):Int)-1-((k:Nat):Int)))] [2] (ao (i6 (((xs.length:Nat):Int)-1-((k:Nat):Int))) ab.zero (by exact Lj f As As) [] [(0,0)] [])))
theorem Ll(v:Value)(xs:List UInt8)(n:Nat)(a:n≤xs.length)(b:xs.length≤1000000):aa WK 233 #[gT v 0 n 1] [.p (aG eB v xs)] [] (λE=>[bC (E.val 0) (xs.take n)]) (λE=>E.val 0):=
 aa.at (Cu (gT v 0 n 1) (xs.take n) (by rw[WZ];omega)) (bL (λ_ h=>aG.take (en:=eB) (k:=1) (λ_=>rfl) h a) λ_ h=>h)
theorem uG(v:Value)(xs:List UInt8)(g:xs.length≤1000000):aa WK 234 #[v] [.p (aG eB v xs)] [] (λE=>[bC (E.val 0) (ax xs)]) (λE=>(E.val 0)):=by
 have e:=rz xs;exact fO Tryz.func234 0 rfl λa b=>fG Tryz.func234 λw f=>r0 [] [(2,.slice none 0 0)] [] (rr (λ_=>[(2,.c [0] [] (aa.at (rd':=[.c a]) (Cv v xs Om) (ec b (λ_ h=>h)))),(3,.t (tv (av .add 3 (.tmp 5) (.const (i6 1)) (i6 (((a6 xs:Nat):Int)-1)) (i6 1)) (λ_=>Ld Om))),(4,.m (BF 0 (.c a) (a6 xs) 1 (cP b) Om)),(5,.c [0] [1] (aa.at (rd':=[.c a]) (Ll v xs (a6 xs) Om Om) (ec b (λ_ h=>h))))]) (λd=>[(2,(d 5).val 0)]) [2] (λd L=>L++[bC ((d 5).val 0) ((xs).take ((a6 xs)))]) λd=>lf (.l [] [] [((d 5).val 0),(d 5).val 0]) [1] [(0,0)] [] (hf:=by kernel_rfl))
attribute [local irreducible] ax
theorem Lm{p q:List UInt8}{i j:Nat}(h:i+j<p.length+q.length):eG p q i (j+1)=(eG p q i j).set (i+j) ((eG p q i j).getD (i+j) 0^^^gm (p.getD i 0) (q.getD j 0)):=by
 rw[←K2,←K1 h];rfl
attribute [local irreducible] eG
theorem Ln(g:Nat)(v u:Value)(p q:List UInt8)(hp:p.length≤50000)(J:q.length≤50000):aa WK 219 #[pt g 0,v,u] [ob g (rB 255 aT++rN 256 aW).toArray 312,.p (aG eB v p),.p (aG eB u q)] [] (λE=>[bC (E.val 0) (ie p q)]) (λE=>(E.val 0)):=by
 refine fO Tryz.func219 1 rfl λm x=>fO Tryz.func219 2 rfl λn y=>fG Tryz.func219 λw I=>?_;have s:=mE p;have C:=mE q;have G:=rz p;have H:=rz q;refine r0 [] [(6,.slice none 0 0)] [] (rr (λd=>[(1,.c [1] [3] (aa.at (rd':=[.c m]) (uG v p Om) (ec x (λ_ h=>h)))),(3,.c [2] [4] (aa.at (rd':=[.c n]) (uG u q Om) (ec y (λ_ h=>h))))]) (λd=>[(1,((d 1).val 0)),(2,((d 3).val 0))]) [1,2] (λd L=>L++[bC ((d 1).val 0) (ax p),bC ((d 3).val 0) (ax q)]) λd=>rr (λ_=>[(1,e8 kB ((d 1).val 0) (ax p) 3),(3,e8 kB ((d 3).val 0) (ax q) 4),(4,ad ((ax p).length) ((ax q).length)),(5,rn kB 5 (((ax p).length)+((ax q).length)))]) (λf=>[(7,.slice (some ⟨(f 5).y 0,0,none⟩) (((ax p).length)+((ax q).length)) (((ax p).length)+((ax q).length)))]) [] (λf L=>L++[bC (.slice (some ⟨(f 5).y 0,0,none⟩) (((ax p).length)+((ax q).length)) (((ax p).length)+((ax q).length))) (WJ (((ax p).length)+((ax q).length)) 0)]) λf=>r0 [(1,e8 kB ((d 1).val 0) (ax p) 3)] [(22,((d 1).val 0)),(23,iN ((ax p).length)),(24,i6 0)] [] ?_);refine lq (λi=>i≤(ax p).length) (λi=>[(24,iN i)]) (λi L=>L.set 5 (bC (.slice (some ⟨(f 5).y 0,0,none⟩) (((ax p).length)+((ax q).length)) (((ax p).length)+((ax q).length))) (eG (ax p) (ax q) i 0))) (λi=>((ax p).length)-i) 0 Om Kr (by rw[KZ];kernel_rfl) (λi B=>?_);refine r0 [] [(25,.bool (decide ((i:Int)<(((ax p).length:Nat):Int))))] [] ?_;refine bW (i:Int) (((ax p).length:Nat):Int) (λA o=>?_) λA o=>?_
 ·refine r0 [(1,cO kB ((d 1).val 0) (ax p) 3 i),(2,eS kB ((d 1).val 0) (ax p) 3 i 0)] [(8,iN i),(9,u1 (((ax p).getD i 0).toNat:Int))] [] (r0 [(1,e8 kB ((d 3).val 0) (ax q) 4)] [(29,((d 3).val 0)),(30,iN ((ax q).length)),(31,i6 0)] [] ?_);refine lq (λj=>j≤(ax q).length) (λj=>[(31,iN j)]) (λj L=>L.set 5 (bC (.slice (some ⟨(f 5).y 0,0,none⟩) (((ax p).length)+((ax q).length)) (((ax p).length)+((ax q).length))) (eG (ax p) (ax q) i j))) (λj=>((ax q).length)-j) 0 Om Kr Kr (λj z=>?_);have F:=Cs (ax p) (ax q) i j;refine r0 [] [(32,.bool (decide ((j:Int)<(((ax q).length:Nat):Int))))] [] ?_;refine bW (j:Int) (((ax q).length:Nat):Int) (λr k=>?_) λr k=>?_
  ·exact r0 [(1,cO kB ((d 3).val 0) (ax q) 4 j),(2,eS kB ((d 3).val 0) (ax q) 4 j 0)] [(10,iN j),(11,u1 (((ax q).getD j 0).toNat:Int))] [] (rs [(3,ad i j),(4,cO kB (.slice (some ⟨(f 5).y 0,0,none⟩) (((ax p).length)+((ax q).length)) (((ax p).length)+((ax q).length))) (eG (ax p) (ax q) i j) 5 (i+j)),(5,eS kB (.slice (some ⟨(f 5).y 0,0,none⟩) (((ax p).length)+((ax q).length)) (((ax p).length)+((ax q).length))) (eG (ax p) (ax q) i j) 5 (i+j) 0),(9,.c [0] [] (pQ g ((ax p).getD i 0) ((ax q).getD j 0))),(10,.t (tb (a:=u1 (((eG (ax p) (ax q) i j).getD (i+j) 0).toNat:Int)) (b:=u1 ((gm ((ax p).getD i 0) ((ax q).getD j 0)).toNat:Int)) λ_ _ _ _=>lL ((eG (ax p) (ax q) i j).getD (i+j) 0) ((gm ((ax p).getD i 0) ((ax q).getD j 0))))),(11,cO kB (.slice (some ⟨(f 5).y 0,0,none⟩) (((ax p).length)+((ax q).length)) (((ax p).length)+((ax q).length))) (eG (ax p) (ax q) i j) 5 (i+j)),(12,rh kB (.slice (some ⟨(f 5).y 0,0,none⟩) (((ax p).length)+((ax q).length)) (((ax p).length)+((ax q).length))) (eG (ax p) (ax q) i j) 5 (i+j) 0 (((eG (ax p) (ax q) i j).getD (i+j) 0)^^^(gm ((ax p).getD i 0) ((ax q).getD j 0))) (u1 ((((eG (ax p) (ax q) i j).getD (i+j) 0)^^^(gm ((ax p).getD i 0) ((ax q).getD j 0))).toNat:Int)) Kr)] 5 (bC (.slice (some ⟨(f 5).y 0,0,none⟩) (((ax p).length)+((ax q).length)) (((ax p).length)+((ax q).length))) ((eG (ax p) (ax q) i j).set (i+j) (((eG (ax p) (ax q) i j).getD (i+j) 0)^^^(gm ((ax p).getD i 0) ((ax q).getD j 0))))) (r0 [(0,ad j 1)] [(31,iN (j+1))] [31] (le (j+1) Om Om Kr [0,1,2,3,4,5] (by rw[Lm Om];kernel_rfl))))
  obtain rfl:j=(ax q).length:=by omega
  exact lx (r0 [(0,ad i 1)] [(24,iN (i+1))] [24] (le (i+1) Om Om Kr [0,1,2,3,4,5] (by rw[←K0 (ax p) (ax q) i];kernel_rfl)))
 obtain rfl:i=(ax p).length:=by omega
 have D:=Cs (ax p) (ax q) (ax p).length 0;exact lx (rr (λ_=>[(1,.c [5] [6] (aa.at (rd':=[bC (.slice (some ⟨(f 5).y 0,0,none⟩) (((ax p).length)+((ax q).length)) (((ax p).length)+((ax q).length))) (eG (ax p) (ax q) ((ax p).length) 0)]) (uG (.slice (some ⟨(f 5).y 0,0,none⟩) (((ax p).length)+((ax q).length)) (((ax p).length)+((ax q).length))) (eG (ax p) (ax q) ((ax p).length) 0) Om) (bL (λ_ h=>aq.sq h) (λ_ h=>h))))]) (λe=>[(6,((e 1).val 0))]) [6] (λe L=>L++[bC ((e 1).val 0) (ax (eG (ax p) (ax q) ((ax p).length) 0))]) λe=>lf (.l [] [] [((e 1).val 0),(e 1).val 0]) [6] [(0,0),(1,1),(2,2)] [] (hf:=by rw[←K3,←s];kernel_rfl))
theorem Lp{q:List UInt8}{a:UInt8}{o:List UInt8}{z j:Nat}(h:z+j<o.length):fl q a o z (j+1)=(fl q a o z j).set (z+j) ((fl q a o z j).getD (z+j) 0^^^gm a (q.getD j 0)):=by
 rw[←K7,←K6 h];rfl
theorem Lq{p q:List UInt8}{d k:Nat}{t:UInt8}(h:d≤p.length-1-k):bY p q d t (k+1)=fl q (gm ((bY p q d t k).getD (p.length-1-k) 0) t) (bY p q d t k) (p.length-1-k-d) (d+1):=(K8 h).symm
theorem Cw{b:UInt8}(h:b≠0):(fL b != 0)=false:=by
 unfold fL;rw[show((b.toNat:Int)==0)=false from beq_false_of_ne λe=>h (UInt8.toNat_inj.1 (by show b.toNat=0;omega))];rfl
attribute [local irreducible] bY fl
theorem Lr(g:Nat)(v u:Value)(p q:List UInt8)(d:Nat)(t:UInt8)(hp:p.length≤50000)(N:q.length≤50000)(B:a6 q=d+1)(I:d≤p.length)(ht:bO 1 (q.getD d 0)=t):aa WK 203 #[pt g 0,v,u] [ob g (rB 255 aT++rN 256 aW).toArray 312,.p (aG eB v p),.p (aG eB u q)] [] (λE=>[bC (E.val 0) (ed p q t)]) (λE=> .tuple #[(E.val 0),i6 0]):=by
 refine fO Tryz.func203 1 rfl λo y=>fO Tryz.func203 2 rfl λr i=>fG Tryz.func203 λw M=>?_;have K:=rz q;have A:q.getD d 0≠0:=oT q B;refine r0 [] [(6,.slice none 0 0),(7,i6 0)] [] (rr (λJ=>[(1,.c [2] [] (aa.at (rd':=[.c r]) (Cv u q Om) (ec i (λ_ h=>h)))),(2,.t (tk (show i6 (((a6 q:Nat):Int)-1)=iN d from ALca (Value.int .i64) Om)))]) (λ_=>[(8,iN d)]) [] (λ_ L=>L) λJ=>rF [(1,.t (tk (show Value.bool (decide ((d:Int)<0))= .bool false from ALca Value.bool (by exact bf Om))))] 18 (r0 [(3,eU i.1 2 d 1),(4,iG kB i.1 2 d 0),(5,.c [0] [] (Kt g (q.getD d 0))),(9,.t (tk (show u1 ((bO (1:UInt8) (q.getD d 0)).toNat:Int)=u1 (t.toNat:Int) from ALca (λz:UInt8=>Value.int .u8 (z.toNat:Int)) ht)))] [(9,u1 (t.toNat:Int)),(10,i6 (fL (q.getD d 0)))] [] (rF [(1,.t (tk (show Value.bool ((fL (q.getD d 0)) != 0)= .bool false from ALca Value.bool (by exact Cw A))))] 29 (rr (λ_=>[(1,.c [1] [3] (aa.at (rd':=[.c o]) (Cu v p Om) (ec y (λ_ h=>h))))]) (λe=>[(11,((e 1).val 0))]) [] (λe L=>L++[bC ((e 1).val 0) p]) λe=>r0 [(1,e8 kB ((e 1).val 0) p 3),(2,sI (p.length:Int) (1) Om)] [(12,i6 ((p.length:Int)-1))] [] ?_))));refine lq (λk=>k≤p.length-d) (λk=>[(12,i6 (((p.length:Nat):Int)-1-((k:Nat):Int)))]) (λk L=>L.set 3 (bC ((e 1).val 0) (bY p q d t k))) (λk=>(p.length-d)-k) 0 Om (by rw[show((p.length:Nat):Int)-1-((0:Nat):Int)=(p.length:Int)-1 by omega];kernel_rfl) Kr (λk F=>?_);have H:=rE p q d t k;refine r0 [] [(38,.bool (decide ((d:Int)≤(((p.length:Nat):Int)-1-((k:Nat):Int)))))] [] ?_;refine oN (d:Int) (((p.length:Nat):Int)-1-((k:Nat):Int)) (λs m=>?_) λs m=>?_
 ·refine r0 [(2,.t (tk (show i6 (((p.length:Nat):Int)-1-((k:Nat):Int))=iN (p.length-1-k) from ALca (Value.int .i64) Om))),(3,cO kB ((e 1).val 0) (bY p q d t k) 3 (p.length-1-k)),(4,eS kB ((e 1).val 0) (bY p q d t k) 3 (p.length-1-k) 0),(6,.c [0] [] (pQ g ((bY p q d t k).getD (p.length-1-k) 0) t))] [(13,u1 ((gm ((bY p q d t k).getD (p.length-1-k) 0) t).toNat:Int))] [] (r0 [(1,ad d 1)] [(49,iN (d+1)),(50,i6 0)] [] ?_);refine lq (λj=>j≤d+1) (λj=>[(50,iN j)]) (λj L=>L.set 3 (bC ((e 1).val 0) (fl q (gm ((bY p q d t k).getD (p.length-1-k) 0) t) (bY p q d t k) (p.length-1-k-d) j))) (λj=>(d+1)-j) 0 Om Kr (by rw[K5];kernel_rfl) (λj C=>?_);have D:=K4 q (gm ((bY p q d t k).getD (p.length-1-k) 0) t) (bY p q d t k) (p.length-1-k-d) j;refine r0 [] [(51,.bool (decide ((j:Int)<((d+1:Nat):Int))))] [] ?_;refine bW (j:Int) ((d+1:Nat):Int) (λx n=>?_) λx n=>?_
  ·exact r0 [] [(14,iN j)] [] (rs [(1,.t (tk (show i6 (((p.length:Nat):Int)-1-((k:Nat):Int))=iN (p.length-1-k) from ALca (Value.int .i64) Om))),(3,.t (tb (a:=iN (p.length-1-k)) (b:=iN d) λ_ _ _ _=>lQ (a:=p.length-1-k) (b:=d) Om Om)),(5,ad ((p.length-1-k)-d) j),(6,cO kB ((e 1).val 0) (fl q (gm ((bY p q d t k).getD (p.length-1-k) 0) t) (bY p q d t k) (p.length-1-k-d) j) 3 (((p.length-1-k)-d)+j)),(7,eS kB ((e 1).val 0) (fl q (gm ((bY p q d t k).getD (p.length-1-k) 0) t) (bY p q d t k) (p.length-1-k-d) j) 3 (((p.length-1-k)-d)+j) 0),(12,eU i.1 2 j 1),(13,iG kB i.1 2 j 0),(14,.c [0] [] (pQ g (gm ((bY p q d t k).getD (p.length-1-k) 0) t) (q.getD j 0))),(15,.t (tb (a:=u1 (((fl q (gm ((bY p q d t k).getD (p.length-1-k) 0) t) (bY p q d t k) (p.length-1-k-d) j).getD (((p.length-1-k)-d)+j) 0).toNat:Int)) (b:=u1 ((gm (gm ((bY p q d t k).getD (p.length-1-k) 0) t) (q.getD j 0)).toNat:Int)) λ_ _ _ _=>lL ((fl q (gm ((bY p q d t k).getD (p.length-1-k) 0) t) (bY p q d t k) (p.length-1-k-d) j).getD (((p.length-1-k)-d)+j) 0) ((gm (gm ((bY p q d t k).getD (p.length-1-k) 0) t) (q.getD j 0))))),(16,cO kB ((e 1).val 0) (fl q (gm ((bY p q d t k).getD (p.length-1-k) 0) t) (bY p q d t k) (p.length-1-k-d) j) 3 (((p.length-1-k)-d)+j)),(17,rh kB ((e 1).val 0) (fl q (gm ((bY p q d t k).getD (p.length-1-k) 0) t) (bY p q d t k) (p.length-1-k-d) j) 3 (((p.length-1-k)-d)+j) 0 (((fl q (gm ((bY p q d t k).getD (p.length-1-k) 0) t) (bY p q d t k) (p.length-1-k-d) j).getD (((p.length-1-k)-d)+j) 0)^^^(gm (gm ((bY p q d t k).getD (p.length-1-k) 0) t) (q.getD j 0))) (u1 ((((fl q (gm ((bY p q d t k).getD (p.length-1-k) 0) t) (bY p q d t k) (p.length-1-k-d) j).getD (((p.length-1-k)-d)+j) 0)^^^(gm (gm ((bY p q d t k).getD (p.length-1-k) 0) t) (q.getD j 0))).toNat:Int)) Kr)] 3 (bC ((e 1).val 0) ((fl q (gm ((bY p q d t k).getD (p.length-1-k) 0) t) (bY p q d t k) (p.length-1-k-d) j).set (((p.length-1-k)-d)+j) (((fl q (gm ((bY p q d t k).getD (p.length-1-k) 0) t) (bY p q d t k) (p.length-1-k-d) j).getD (((p.length-1-k)-d)+j) 0)^^^(gm (gm ((bY p q d t k).getD (p.length-1-k) 0) t) (q.getD j 0))))) (r0 [(0,ad j 1)] [(50,iN (j+1))] [50] (le (j+1) Om Om Kr [0,1,2,3] (by rw[Lp Om];kernel_rfl))))
  obtain rfl:j=d+1:=by omega
  exact lx (r0 [(1,.t (tv (av .sub 3 (.tmp 39) (.const (i6 1)) (i6 (((p.length:Nat):Int)-1-((k:Nat):Int))) (i6 1)) (λ_=>xR Om Om)))] [(12,i6 (((p.length:Nat):Int)-1-((k+1:Nat):Int)))] [12] (le (k+1) Om Om Kr [0,1,2,3] (by rw[Lq Om];kernel_rfl)))
 obtain rfl:k=p.length-d:=by omega
 have G:=rE p q d t (p.length-d);exact lx (rr (λ_=>[(1,.c [3] [4] (aa.at (rd':=[bC ((e 1).val 0) (bY p q d t (p.length-d))]) (uG ((e 1).val 0) (bY p q d t (p.length-d)) Om) (bL (λ_ h=>aq.sq h) (λ_ h=>h))))]) (λf=>[(6,((f 1).val 0)),(7,i6 0)]) [6,7] (λf L=>L++[bC ((f 1).val 0) (ax (bY p q d t (p.length-d)))]) λf=>lf (.l [] [] [((f 1).val 0),(f 1).val 0]) [4] [(0,0),(1,1),(2,2)] [] (hf:=by rw[show ed p q t=ax (bY p q d t (p.length-d)) by unfold ed;rw[B,Nat.add_sub_cancel]];kernel_rfl))
end
section
open Go Go.RowKit Go.Shelf
theorem Ls(g:Nat)(v:Value)(xs:List UInt8)(z:xs.length≤1000000)(bs:ay)(h:SrE eB v xs bs):e4 5 WK 289 #[pt g 0] (λ(x:Nat×UInt8)=>#[i6 (x.1:Int),u1 (x.2.toNat:Int)]) ((WV xs.length).map λj=>(xs.length-1-j,xs.getD (xs.length-1-j) 0)) (Xk [[(g,.cells #[v] 191 (0,0))],bs]):=by
 refine gi (KO:=[[(g,.cells #[v] 191 (0,0))],bs]) Tryz.func289 (λo q p y u d m i=>?_);refine r0 [(0,.l 0),(1,du h 1),(2,sI (xs.length:Int) (1) Om)] [(3,i6 ((xs.length:Int)-1))] [] ?_;refine jX (λk=>k≤xs.length) (λk=>[(3,i6 (((xs.length:Nat):Int)-1-((k:Nat):Int)))]) (λ_ L=>L) (λk=>xs.length-k) (λk=>k) 0 Om i (by rw[show((xs.length:Nat):Int)-1-((0:Nat):Int)=(xs.length:Int)-1 by omega];kernel_rfl) Kr (λk r w n b=>?_);refine r0 [] [(8,.bool (decide (0≤(((xs.length:Nat):Int)-1-((k:Nat):Int)))))] [] ?_;refine oN 0 (((xs.length:Nat):Int)-1-((k:Nat):Int)) (λf c=>?_) λf c=>?_
 ·refine iy d m b 6 (λ_=>[(1,.t (tk (show i6 (((xs.length:Nat):Int)-1-((k:Nat):Int))=iN (xs.length-1-k) from ALca (Value.int .i64) Om))),(2,.l 0),(3,.t (tk (show i6 (((xs.length:Nat):Int)-1-((k:Nat):Int))=iN (xs.length-1-k) from ALca (Value.int .i64) Om))),(4,eU h 1 (xs.length-1-k) 1),(5,iG kB h 1 (xs.length-1-k) 0)]) (λ_=>[(11,.func (.yield o) #[] #[]),(12,iN (xs.length-1-k)),(16,u1 ((xs.getD (xs.length-1-k) 0).toNat:Int))]) [] (λ_ L=>L) N0 [0,1] (nS Om) (λA s e a=>?_);refine cF _ rfl (r0 [(1,.t (tv (av .sub 3 (.tmp 9) (.const (i6 1)) (i6 (((xs.length:Nat):Int)-1-((k:Nat):Int))) (i6 1)) (λ_=>xR Om Om)))] [(3,i6 (((xs.length:Nat):Int)-1-((k+1:Nat):Int)))] [3] ?_);exact iI (k+1) Om a Om Kr [0,1] Kr
 refine jY ?_;exact kT d b (by rw[Xo,Xh];omega) [] [0,1]
theorem Lt(v:Value)(xs:List UInt8):aa WK 286 #[v] [.p (aG eB v xs)] [] (λE=>[ob (E.y 0) #[v] 191]) (λE=> .func (.func 289) #[] #[pt ((E.y 0)) 0]):=by
 exact fO Tryz.func286 0 rfl λb d=>fG Tryz.func286 λw e=>rr (λ_=>[(0,BH 1 0 (.c b) v (λ_ _=>aG.cells d))]) (λa=>[(1,pt (B0 a) 0),(2,.nilFunc)]) [] (λa L=>L++[ob (B0 a) #[v] 191]) λa=>r0 [] [(2,.func (.func 289) #[] #[pt (B0 a) 0])] [2] (lf (.l [(a 0).y 0] [] []) [1] [(0,0)] [])
theorem Lu(g:Nat)(v:Value)(p:List UInt8)(x:UInt8)(hp:p.length≤50000):aa WK 275 #[pt g 0,v,u1 (x.toNat:Int)] [ob g (rB 255 aT++rN 256 aW).toArray 312,.p (aG eB v p)] [] N0 (λ_=>u1 ((ng p x).toNat:Int)):=by
 refine fO Tryz.func275 1 rfl λd m=>fG Tryz.func275 λw A=>ra (λe=>[(3,pt (B0 e) 0),(5,pt (B1 e) 0),(6,u1 0)]) (λe=>[ob (B0 e) #[pt g 0] 239,ob (B1 e) #[u1 (x.toNat:Int)] 5]) λe=>rr (λ_=>[(1,.s 4)]) (λf=>[(7,pt (B0 f) 0)]) [] (λf L=>L++[ob (B0 f) #[u1 0] 5]) λf=>rr (λ_=>[(1,.c [1] [5] (aa.at (rd':=[.c d]) (Lt v p) (ec m (λ_ h=>h))))]) (λi=>[(11,.func (.func 289) #[] #[pt ((B1 i)) 0])]) [] (λi L=>L++[ob (B1 i) #[v] 191]) λi=>?_;refine oP (encs:=λ(x:Nat×UInt8)=>#[i6 (x.1:Int),u1 (x.2.toNat:Int)]) (xs:=(WV p.length).map λj=>(p.length-1-j,p.getD (p.length-1-j) 0)) (KO:=[[((B1 i),.cells #[v] 191 (0,0))],d]) (Ls (B1 i) v p Om d m.1) (enters_of Tryz.func289 Kr rfl) (λj=>j≤p.length) (λj L=>L.set 4 (ob (B0 f) #[u1 ((hv p x j).toNat:Int)] 5)) [5,1] Om Kr (λB j C r y n k=>?_) (λq k=>?_)
 ·obtain⟨o,rfl⟩:=lK n;refine r0 [] [(9,u1 ((p.getD (p.length-1-j) 0).toNat:Int))] [] ?_;refine ag [5,1] (λu z=>?_);exact rs [(0,.l 2),(1,.l 4),(2,.l 3),(3,.c [0] [] (pQ g (hv p x j) x)),(5,.t (tb (a:=u1 ((gm (hv p x j) x).toNat:Int)) (b:=u1 ((p.getD (p.length-1-j) 0).toNat:Int)) λ_ _ _ _=>lL ((gm (hv p x j) x)) ((p.getD (p.length-1-j) 0)))),(6,.s 4)] 4 (ob (B0 f) #[u1 (((gm (hv p x j) x)^^^(p.getD (p.length-1-j) 0)).toNat:Int)] 5) (ne _ ⟨Om,rfl⟩ [0,1,2,3,4,5] Kr)
 refine cl [ob g (rB 255 aT++rN 256 aW).toArray 312,.c d,ob (B0 e) #[pt g 0] 239,ob (B1 e) #[u1 (x.toNat:Int)] 5,ob (B0 f) #[u1 ((hv p x p.length).toNat:Int)] 5,ob (B1 i) #[v] 191] (by rw[Xo,Xh];kernel_rfl) ?_;simp only[Xo,Xh] at k;exact r0 [(0,.l 4)] [(6,u1 ((hv p x p.length).toNat:Int))] [6] (ao (u1 ((hv p x p.length).toNat:Int)) ab.zero (by rw[Lb]) [] [(0,0),(1,1)] [])
attribute [local irreducible] ie
theorem Lv(g:Nat)(v:Value)(rs:List UInt8)(r:rs.length≤100):aa WK 183 #[pt g 0,v] [ob g (rB 255 aT++rN 256 aW).toArray 312,.p (aG eB v rs)] [] (λE=>[bC (E.val 0) (ig rs rs.length)]) (λE=>(E.val 0)):=by
 refine fO Tryz.func183 1 rfl λi d=>fG Tryz.func183 λw q=>r0 [] [(4,.slice none 0 0)] [] (rr (λ_=>[(0,gV kB 2 1 [(1:UInt8)])]) (λe=>[(5,.slice (some ⟨(e 0).y 0,0,none⟩) 1 1)]) [] (λe L=>L++[bC (.slice (some ⟨(e 0).y 0,0,none⟩) 1 1) ([(1:UInt8)])]) λe=>r0 [(1,du d.1 1)] [(9,v),(10,iN rs.length),(11,i6 0)] [] ?_);refine mw (λk _=>k≤rs.length) (λk a=>[(11,iN k),(5,a)]) (λk a L=>L.set 2 (bC a (ig rs k))) (λk _=>rs.length-k) 0 (.slice (some ⟨(e 0).y 0,0,none⟩) 1 1) Om Kr Kr (λk a m=>?_);have o:=KP rs k;have n:([rs.getD k 0,(1:UInt8)]:List UInt8).length=2:=rfl;refine r0 [] [(12,.bool (decide ((k:Int)<(rs.length:Int))))] [] ?_;refine bW (k:Int) (rs.length:Int) (λj f=>?_) λj f=>?_
 ·exact r0 [(0,eU d.1 1 k 1),(1,iG kB d.1 1 k 0)] [(7,u1 ((rs.getD k 0).toNat:Int))] [] (rr (λb=>[(3,gV kB 3 2 [rs.getD k 0,(1:UInt8)]),(4,.c [0,2,3] [4] (aa.at (rd':=[ob g (rB 255 aT++rN 256 aW).toArray 312,bC a (ig rs k),bC (.slice (some ⟨(b 3).y 0,0,none⟩) 2 2) ([rs.getD k 0,(1:UInt8)])]) (Ln g a (.slice (some ⟨(b 3).y 0,0,none⟩) 2 2) (ig rs k) ([rs.getD k 0,(1:UInt8)]) Om Om) (aP (bL (λ_ h=>aq.sq h) (bL (λ_ h=>aq.sq h) (λ_ h=>h))))))]) (λb=>[(5,((b 4).val 0))]) [5] (λb L=>L++[bC (.slice (some ⟨(b 3).y 0,0,none⟩) 2 2) ([rs.getD k 0,(1:UInt8)]),bC ((b 4).val 0) (ie (ig rs k) ([rs.getD k 0,(1:UInt8)]))]) λb=>r0 [(0,ad k 1)] [(11,iN (k+1))] [11] (kQ (k+1) ((b 4).val 0) Om Om Kr [0,1,4] Kr))
 obtain rfl:rs.length=k:=by omega
 refine kR ?_;exact r0 [] [(4,a)] [4] (lf (.l [] [] [a]) [2] [(0,0),(1,1)] [])
end
end E
theorem uH(i:Nat):(pw 2 i).toNat=gE (i%255):=by
 induction i with
 | zero=>decide+kernel
 | succ i ih=>
  rw[pw,kU,ih];have a:(2:UInt8).toNat=gE 1:=by decide+kernel
  rw[a,ry _ _ (Xj _ Om) (by decide+kernel)];have b:gL (gE 1)=1:=by decide+kernel
  rw[b]
  congr 1
  omega
theorem Cx: ∀i,i<255→gL (gE i)=i:=by decide+kernel
theorem Lw{i j:Nat}(b:i<255)(c:j<255)(h:pw 2 i=pw 2 j):i=j:=by
 have a:=ALca UInt8.toNat h;rw[uH,uH,WX b,WX c] at a;rw[←Cx i b,←Cx j c,a]
theorem Lx{x:UInt8}(h:x≠0):pw 2 (gL x.toNat)=x:=by
 have f:x.toNat≠0:=λe=>h (UInt8.toNat_inj.1 e);have b: ∀a,a<256→a≠0→gL a<255∧gE (gL a)=a:=by decide+kernel
 obtain⟨c,d⟩:=b x.toNat x.toNat_lt f;apply UInt8.toNat_inj.1;rw[uH,WX c,d]
theorem Ly{x:UInt8}(h:x≠0):gL x.toNat<255:=by
 have c:x.toNat≠0:=λe=>h (UInt8.toNat_inj.1 e);have b: ∀a,a<256→a≠0→gL a<255:=by decide+kernel
 exact b x.toNat x.toNat_lt c
structure Vd where
 A:Nat
 place:Int
 val:UInt8
deriving DecidableEq
def hit(s:Nat→UInt8)(i:Nat):Bool:=s 0 != 0&&s 1==gm (s 0) (pw 2 i)&&s 2==gm (s 1) (pw 2 i)&&s 3==gm (s 2) (pw 2 i)
theorem pR(s:Nat→UInt8)(i:Nat):hit s i=true↔s 0≠0∧s 1=gm (s 0) (pw 2 i)∧s 2=gm (s 1) (pw 2 i)∧s 3=gm (s 2) (pw 2 i):=by
 unfold hit;simp only[WS,bne_iff_ne,beq_iff_eq,and_assoc]
theorem Cy{a x y:UInt8}(d:a≠0)(h:gm a x=gm a y):x=y:=by
 have c:gm a (x^^^y)=0:=by rw[Cb,h,XA]
 apply XL;intro b;exact Ce _ _ d (λe=>b (UInt8.xor_eq_zero_iff.1 e)) c
theorem Cz{s:Nat→UInt8}{i j:Nat}(d:i<255)(e:j<255)(h1:hit s i=true)(h2:hit s j=true):i=j:=by
 obtain⟨a,b,_⟩:=(pR s i).1 h1;obtain⟨_,c,_⟩:=(pR s j).1 h2;exact Lw d e (Cy a (b.symm.trans c))
def lT(s:Nat→UInt8):Nat→Option Nat
 | 0=>none
 | k+1=>match lT s k with
  | some i=>some i
  | none=>if hit s k then some k else none
theorem CA{s:Nat→UInt8}{k:Nat}:lT s k=none↔∀i,i<k→hit s i=false:=by
 induction k with
 | zero=>exact⟨λ_ i b=>by omega,λ_=>rfl⟩
 | succ k ih=>
  rw[lT];cases h:lT s k with
  | some i=>
   refine⟨λh=>(by cases h),λa=>?_⟩;have:=ih.2 λi b=>a i Om;rw[h] at this;cases this
  | none=>
   by_cases a:hit s k=true
   ·simp only[a,if_true];exact⟨λh=>(by cases h),λc=>by rw[c k Om] at a;cases a⟩
   ·simp only[a];refine⟨λ_ i b=>?_,λ_=>rfl⟩;by_cases e:i=k
    ·subst e;simpa using a
    ·exact(ih.1 h) i Om
theorem CB{s:Nat→UInt8}{k i:Nat}(g:k≤255)(e:i<k)(h:hit s i=true):lT s k=some i:=by
 cases d:lT s k with
 | none=>rw[CA.1 d i e] at h;cases h
 | some j=>
  have c: ∀k,lT s k=some j→j<k∧hit s j=true:=λk=>by
   induction k with
   | zero=>intro h;cases h
   | succ k ih=>
    intro h;rw[lT] at h;cases a:lT s k with
    | some l=>
     rw[a] at h;obtain rfl:=Option.some.inj h;have:=ih a;exact⟨by omega,this.2⟩
    | none=>
     rw[a] at h;by_cases b:hit s k=true
     ·simp only[b,if_true] at h;obtain rfl:=Option.some.inj h;exact⟨by omega,b⟩
     ·simp only[b] at h;cases h
  obtain⟨f,a⟩:=c k d;rw[Cz Om Om a h]
def nh(s:Nat→UInt8):Prop:=s 0=0∧s 1=0∧s 2=0∧s 3=0
instance (s:Nat→UInt8):Decidable (nh s):=by unfold nh;exact inferInstance
def gz(s:Nat→UInt8):Vd:=if nh s then⟨0, -1,0⟩ else match lT s 39 with
 | some i=>if 35<i then⟨2,i,s 0⟩ else⟨1,i,s 0⟩
 | none=>⟨3, -1,0⟩
theorem Lz{s:Nat→UInt8}(h:nh s):gz s=⟨0, -1,0⟩:=ALifp h
theorem CC{s:Nat→UInt8}{i:Nat}(h:hit s i=true): ¬nh s:=λa=>((pR s i).1 h).1 a.1
theorem LA{s:Nat→UInt8}{i:Nat}(a:i≤35)(h:hit s i=true):gz s=⟨1,i,s 0⟩:=by
 unfold gz;rw[ALifn (CC h),CB Om (show i<39 by omega) h];exact ALifn Om
theorem LB{s:Nat→UInt8}{i:Nat}(h1:35<i)(a:i<39)(h:hit s i=true):gz s=⟨2,i,s 0⟩:=by
 unfold gz;rw[ALifn (CC h),CB Om a h];exact ALifp h1
theorem xS{s:Nat→UInt8}(h0: ¬nh s)(h: ∀i,i<39→hit s i=false):gz s=⟨3, -1,0⟩:=by
 unfold gz;rw[ALifn h0,CA.2 h]
theorem LC{s:Nat→UInt8}{r:UInt8}(h0:s 0≠0)(c:gm r (s 0)=s 1)(a:r≠0)(h2:s 2=gm (s 1) r)(b:s 3=gm (s 2) r):hit s (gL r.toNat)=true:=by
 rw[pR,Lx a];exact⟨h0,by rw[←c,lS],h2,b⟩
theorem CD{s:Nat→UInt8}{r:UInt8}(k:gm r (s 0)=s 1)(h:r=0∨s 2≠gm (s 1) r∨s 3≠gm (s 2) r)(i:Nat):hit s i=false:=by
 cases j:hit s i with
 | false=>rfl
 | true=>
  exfalso;obtain⟨b,c,d,f⟩:=(pR s i).1 j;have e:r=pw 2 i:=Cy b (by rw[lS,k,c]);subst e;rcases h with h | h | h
  ·have a:=uH i;rw[h] at a;have g: ∀m,m<255→gE m≠0:=by decide+kernel
   exact g (i%255) (Xj _ Om) a.symm
  ·exact h d
  ·exact h f
def c8:List UInt8:=KN [1,2,4,8]
theorem LD:c8=[64,120,54,15,1]:=by decide+kernel
def gi(x:UInt8):UInt8:=UInt8.ofNat (nc 1 x.toNat)
theorem LF(x:UInt8):(gi x).toNat=nc 1 x.toNat:=by unfold gi;rw[Xp];exact WX (B8 _ _)
theorem LH{x:UInt8}(h:x≠0):gm x (gi x)=1:=by
 rw[lS];apply UInt8.toNat_inj.1;rw[kU,LF,B9 _ _ Om x.toNat_lt (λe=>h (UInt8.toNat_inj.1 e))];rfl
def CE(d v:List UInt8):List UInt8:=WJ 4 0++d++v
def ni(d v:List UInt8):List UInt8:=ed (CE d v) c8 (gi (co c8 (a6 c8-1)))
def jf(d v:List UInt8):List UInt8:=gy 4 (co (ni d v))
theorem jZ(d v:List UInt8):(jf d v).length=4:=jG _ _
theorem rG:a6 c8=5:=by
 have h:=Cq [1,2,4,8] 4;exact h
theorem LJ:c8.length=5:=by rw[LD];rfl
theorem CF(d v:List UInt8):(ni d v).length≤4:=by
 have h:=(KT (p:=CE d v) (q:=c8) (t:=gi (co c8 (a6 c8-1))) (by rw[rG];omega) (LH (oT c8 (t:=a6 c8-1) (by rw[rG])))).2;rw[KU,rG] at h;exact Nat.le_of_lt_succ h
theorem LK(d v:List UInt8):ni d v++(WJ 4 (0:UInt8)).drop (ni d v).length=jf d v:=by
 have c:=CF d v;refine rC (by rw[jZ];simp;omega) λi b=>?_;have a:i<4:=by simp at b;omega
 unfold jf;rw[mF,ALifp a];unfold co;rw[WT,WT];by_cases h:i<(ni d v).length
 ·rw[Xu h]
 ·rw[WY Om,W4 (l:=ni d v) Om,List.getElem?_drop];rw[show(ni d v).length+(i-(ni d v).length)=i by omega,List.getElem?_replicate,ALifp a];rfl
def xT(w v:List UInt8)(j:Nat):UInt8:=ng (w++v) (pw 2 j)
def a4(w v:List UInt8):List UInt8:=gy 4 (xT w v)
theorem xU(w v:List UInt8):(a4 w v).length=4:=jG _ _
def kV(w v:List UInt8)(k:Nat):List UInt8:=gy 4 λj=>if j<k then xT w v j else 0
theorem xV(w v:List UInt8)(k:Nat):(kV w v k).length=4:=jG _ _
theorem LM(w v:List UInt8):kV w v 0=WJ 4 0:=Cr _ _ λi _=>ALifn Om
theorem LN(w v:List UInt8):kV w v 4=a4 w v:=uE λi a=>ALifp a
theorem LP(w v:List UInt8)(k:Nat):(kV w v k).set k (xT w v k)=kV w v (k+1):=
 xO _ _ _ _ _ λi _=>by
  by_cases e:i=k
  ·subst e;rw[ALifp Om,ALifp rfl]
  ·rw[ALifn e];by_cases h:i<k
   ·rw[ALifp Om,ALifp h]
   ·rw[ALifn Om,ALifn h]
def gd(x y:UInt8):UInt8:=UInt8.ofNat (nc x.toNat y.toNat)
theorem LQ(x y:UInt8):(gd x y).toNat=nc x.toNat y.toNat:=by unfold gd;rw[Xp];exact WX (B8 _ _)
theorem CG(x:UInt8){y:UInt8}(a:y≠0):gm (gd x y) y=x:=by
 apply UInt8.toNat_inj.1;rw[kU,LQ,B9 _ _ x.toNat_lt y.toNat_lt (λe=>a (UInt8.toNat_inj.1 e))]
theorem LR{s:Nat→UInt8}(h:(((gz s).A:Int)==1)=true): ∃i:Nat,i≤35∧(gz s).place=(i:Int):=by
 unfold gz at h⊢;by_cases c:nh s
 ·rw[ALifp c] at h;cases h
 ·rw[ALifn c] at h⊢;cases b:lT s 39 with
  | none=>rw[b] at h;cases h
  | some i=>
   rw[b] at h;by_cases a:35<i
   ·simp only[ALifp a] at h;cases h
   ·exact⟨i,by omega,by simp only[ALifn a]⟩
def gX(d v:List UInt8):List UInt8:=bif ((gz (co (a4 d v))).A:Int)==1 then(d.set (gz (co (a4 d v))).place.toNat ((d.getD (gz (co (a4 d v))).place.toNat 0)^^^(gz (co (a4 d v))).val)).drop 4 else d.drop 4
namespace E
section
open Go Go.RowKit Go.Shelf
attribute [local irreducible] a6 ax ig ie ed aT aW
def jH:Nat→List UInt8
 | 0=>[]
 | k+1=>jH k++[kv (aT.getD (dE 1) 0) k]
theorem xW: ∀k,(jH k).length=k
 | 0=>rfl
 | k+1=>by rw[jH,WN,xW k];rfl
theorem LS:ig (jH 4) (jH 4).length=c8:=by decide+kernel
theorem LU(g:Nat):aa WK 141 #[pt g 0] [ob g (rB 255 aT++rN 256 aW).toArray 312] [] (λE=>[ob (E.y 0) #[pt g 0,(E.val 0)] 309,bC (E.val 0) c8]) (λE=>pt ((E.y 0)) 0):=by
 refine fG Tryz.func141 λw cs=>r0 [] [(2,.pointer none)] [] (ra (λq2=>[(3,pt (B0 q2) 0)]) (λq2=>[ob (B0 q2) #[.slice none 0 0] 191]) λq2=>rr (λ_=>[(2,.c [0] [] (uB g 1 Om Om)),(3,.c [] [2,3,4] (Kv g (aT.getD (dE 1) 0) 4))]) (λq3=>[(9,.func (.func 216) #[] #[pt ((B3 q3)) 0,pt (((q3 3).y 1)) 0,pt (((q3 3).y 2)) 0])]) [] (λq3 L=>L++[ob (B3 q3) #[i6 4] 3,ob ((q3 3).y 1) #[pt g 0] 239,ob ((q3 3).y 2) #[u1 ((aT.getD (dE 1) 0).toNat:Int)] 5]) λq3=>cz kB (cz kB ?_))
 refine xn (encs:=λ(x:Nat×UInt8)=>#[i6 (x.1:Int),u1 (x.2.toNat:Int)]) (xs:=(WV 4).map λk=>(k,kv (aT.getD (dE 1) 0) k)) (KO:=[[((B3 q3),.cells #[i6 4] 3 (0,0))],[(((q3 3).y 1),.cells #[pt g 0] 239 (0,0))],[(((q3 3).y 2),.cells #[u1 ((aT.getD (dE 1) 0).toNat:Int)] 5 (0,0))],[(g,.cells (rB 255 aT++rN 256 aW).toArray 312 (0,0))]]) (Kw (B3 q3) ((q3 3).y 1) ((q3 3).y 2) g (aT.getD (dE 1) 0)) (enters_of Tryz.func216 Kr rfl) (λj _=>j≤4) (λj vC3_0 L=>(L.set 1 (ob (B0 q2) #[vC3_0] 191)).set 6 (bC vC3_0 (jH j))) [2,3,4,0] (.slice none 0 0) Om Kr (λlR j vC3_0 xE R1 W1 hxE hk5=>?_) (λD4 vC3_0 hk5=>?_)
 ·obtain⟨hkb6,rfl⟩:=lK hxE
  have hpl:=xW j
  refine r0 [] [(5,u1 ((kv (aT.getD (dE 1) 0) j).toNat:Int))] [] ?_
  refine ag [2,3,4,0] (λR2 W2=>?_)
  exact rr (λq8=>[(0,.l 1),(2,.m (bs 7 1)),(3,eT kB (vC3_0) (jH j) 6 7 ([(kv (aT.getD (dE 1) 0) j)])),(4,.m (fj 1 6 (bC ((q8 3).val 0) ((jH j)++([(kv (aT.getD (dE 1) 0) j)]))) ((q8 3).val 0) λbs h=>aq.one ((λ_ h=>h) bs h)))]) N0 [] (λq8 L=>(L.set 1 (ob (B0 q2) #[(q8 3).val 0] 191)).set 6 (bC ((q8 3).val 0) ((jH j)++([(kv (aT.getD (dE 1) 0) j)])))++[ob (B2 q8) #[u1 ((kv (aT.getD (dE 1) 0) j).toNat:Int)] 5]) λq8=>ne _ ⟨(q8 3).val 0,Om,rfl⟩ [0,1,2,3,4,5,6] Kr
 have hpe:=xW 4
 exact rr (λq9=>[(2,.l 1),(3,.c [0,6] [7] (aa.at (rd':=[ob g (rB 255 aT++rN 256 aW).toArray 312,bC vC3_0 (jH 4)]) (Lv g vC3_0 (jH 4) Om) (aP (bL (λ_ h=>aq.sq h) (λ_ h=>h))))),(4,JL (v:= .agg #[pt g 0,((q9 3).val 0)]) 7 (bC ((q9 3).val 0) (ig (jH 4) (jH 4).length)) (Instr.build 309 #[(0,pt g 0),(1,((q9 3).val 0))]) (λbs h w=>by obtain⟨a5,c5,e5⟩:=aq.form h;rw[e5];kernel_rfl))]) (λq9=>[(2,pt (B5 q9) 0)]) [2] (λq9 L=>L++[bC ((q9 3).val 0) (ig (jH 4) (jH 4).length),ob (B5 q9) #[pt g 0,((q9 3).val 0)] 309]) λq9=>lf (.l [(q9 5).y 0] [] [((q9 3).val 0)]) [8,7] [(0,0)] [] (hf:=by rw[←LS];kernel_rfl)
def tG:UInt8:=bO 1 (c8.getD 4 0)
theorem LV:tG=Go.Proofs.YtbcodenfkijdnaaGreat.gi (Go.Proofs.YtbcodenfkijdnaaGreat.co c8 (a6 c8-1)):=by
 rw[rG];decide+kernel
theorem CH(d v:List UInt8):ed ((WJ 4 0++d)++v) c8 tG=ni d v:=by rw[LV];rfl
theorem LW:c8.length=5:=LJ
attribute [local irreducible] c8
end
section
open Go Go.RowKit Go.Shelf
attribute [local irreducible] a6 ax ig ie ed aT aW c8
attribute [local irreducible] ng
theorem LX{k:Nat}(h:k<4):aT.getD (dE (k:Int)) 0=Go.Proofs.YtbcodenfkijdnaaGreat.pw 2 k:=by
 have: ∀k:Nat,k<4→aT.getD (dE (k:Int)) 0=Go.Proofs.YtbcodenfkijdnaaGreat.pw 2 k:=by decide+kernel
 exact this k h
theorem LY{w v:List UInt8}{k:Nat}(h:k<4):kV w v (k+1)=(kV w v k).set k (ng (w++v) (aT.getD (dE (k:Int)) 0)):=by
 rw[←LP,LX h];rfl
attribute [local irreducible] kV
theorem LZ(j g:Nat)(u:Value)(d v:List UInt8)(f:d.length=36)(hv:v.length=3):aa WK 256 #[pt j 0,.agg (rB 36 d).toArray,.agg (rB 3 v).toArray] [ob j #[pt g 0,u] 309,ob g (rB 255 aT++rN 256 aW).toArray 312,.p (aG eB u c8)] [] N0 (λ_=> .agg (rB 4 (a4 d v)).toArray):=by
 refine fO Tryz.func256 2 rfl λi t=>fG Tryz.func256 λw x=>?_;have r:(([]++d)++v).length=39:=by rw[XQ,WN,f,hv]
 refine ra (λa=>[(4,pt (B0 a) 0),(5,pt (B1 a) 0),(6,pt (B2 a) 0)]) (λa=>[ob (B0 a) (rB 36 d).toArray 371,ob (B1 a) (rB 3 v).toArray 262,ob (B2 a) (rB 4 (WJ 4 0)).toArray 268]) λa=>ra (λe=>[(7,pt (B0 e) 0)]) (λe=>[ob (B0 e) (rB 4 (WJ 4 0)).toArray 268]) λe=>rr (λb=>[(0,.m (qU 7 eB ([u1 0]) 5)),(1,aS 371 (B0 a) 36 1),(2,.m (mo 7 3 oM (.slice (some ⟨(b 0).y 0,0,none⟩) 0 0) (.slice (some ⟨(a 0).y 0,0,none⟩) 36 36) (xs:=[]) (ys:=d) (ob (B0 a) (rB 36 d).toArray 371) (λ_ h=>by rw[show _=_ from h];exact oR (λ_=>rfl) f) oL (λ_=>rfl) (by simp only[LL,xV,f,hv];omega))),(3,aS 262 (B1 a) 3 1),(4,.m (mo 7 4 oM ((b 2).val 0) (.slice (some ⟨(a 1).y 0,0,none⟩) 3 3) (xs:=[]++d) (ys:=v) (ob (B1 a) (rB 3 v).toArray 262) (λ_ h=>by rw[show _=_ from h];exact oR (λ_=>rfl) hv) oL (λ_=>rfl) (by simp only[LL,xV,f,hv];omega)))]) (λb=>[(8,(b 4).val 0)]) [] (λb L=>L++[bC ((b 4).val 0) (([]++d)++v)]) λb=>r0 [] [(15,i6 0)] [] ?_;refine lq (λk=>k≤4) (λk=>[(15,iN k)]) (λk L=>L.set 6 (ob (B0 e) (rB 4 (kV d v k)).toArray 268)) (λk=>4-k) 0 Om Kr (by rw[LM];kernel_rfl) (λk q=>?_);refine r0 [] [(16,.bool (decide ((k:Int)<4)))] [] ?_;refine bW (k:Int) 4 (λo n=>?_) λo n=>?_
 ·exact r0 [] [(9,iN k)] [] (rs [(4,.l 0),(9,.l 0),(11,.c [1] [] (uB g (k:Int) Om Om)),(12,.c [1,7] [] (aa.at (rd':=[ob g (rB 255 aT++rN 256 aW).toArray 312,bC ((b 4).val 0) (([]++d)++v)]) (Lu g ((b 4).val 0) (([]++d)++v) (aT.getD (dE (k:Int)) 0) Om) (aP (bL (λ_ h=>aq.sq h) (λ_ h=>h))))),(13,iA 268 .i64 (B0 e) 0 4 1 k),(14,wD 6 (B0 e) k 268 (u1 ((ng (([]++d)++v) (aT.getD (dE (k:Int)) 0)).toNat:Int)) (rB 4 (kV d v k)) (rB 4 ((kV d v k).set k (ng (([]++d)++v) (aT.getD (dE (k:Int)) 0)))) (jV Om) (mn (xV ..)))] 6 (ob (B0 e) (rB 4 ((kV d v k).set k (ng (([]++d)++v) (aT.getD (dE (k:Int)) 0)))).toArray 268) (r0 [(0,ad k 1)] [(15,iN (k+1))] [15] (le (k+1) Om Om Kr [0,1,2,3,4,5,6,7] (by rw[LY Om];kernel_rfl))))
 obtain rfl:k=4:=by omega
 exact cl [ob j #[pt g 0,u] 309,ob g (rB 255 aT++rN 256 aW).toArray 312,.c i,ob (B0 a) (rB 36 d).toArray 371,ob (B1 a) (rB 3 v).toArray 262,ob (B2 a) (rB 4 (WJ 4 0)).toArray 268,ob (B0 e) (rB 4 (a4 d v)).toArray 268,bC ((b 4).val 0) (([]++d)++v)] (by rw[LN];kernel_rfl) (lx (rs [(0,.l 6),(1,.s 5)] 5 (ob (B2 a) (rB 4 (a4 d v)).toArray 268) (lf ab.zero [] [(0,0),(1,1),(2,2)] [5])))
theorem xX:aa WK 273 #[] [] [] N0 (λ_=> .agg #[i6 3,i6 (-1),u1 0]):=by
 exact fG Tryz.func273 λw b=>ra (λa=>[(0,pt (B0 a) 0)]) (λa=>[ob (B0 a) #[i6 0,i6 0,u1 0] 368]) λa=>rs [(1,.s 0)] 0 (ob (B0 a) #[i6 3,i6 (-1),u1 0] 368) (lf ab.zero [] [] [0])
end
section
open Go Go.RowKit Go.Shelf
attribute [local irreducible] a6 ax ig ie ed aT aW c8
theorem L1(g:Nat)(v u:Value)(p G:List UInt8)(t:UInt8)(c:a6 G=5)(a:G.length=5)(ht:bO 1 (G.getD 4 0)=t)(hp:p.length≤50000)(b:4≤p.length):aa WK 203 #[pt g 0,v,u] [ob g (rB 255 aT++rN 256 aW).toArray 312,.p (aG eB v p),.p (aG eB u G)] [] (λE=>[bC (E.val 0) (ed p G t)]) (λE=> .tuple #[(E.val 0),i6 0]):=
 Lr g v u p G 4 t hp (by rw[a];decide) c b ht
theorem L2(f g:Nat)(u:Value)(d v G:List UInt8)(t:UInt8)(k:d.length=32)(hv:v.length=3)(q:a6 G=5)(i:G.length=5)(ht:bO 1 (G.getD 4 0)=t)(x:(ed ((WJ 4 0++d)++v) G t).length≤4)(r:List UInt8)(z:ed ((WJ 4 0++d)++v) G t++(WJ 4 (0:UInt8)).drop (ed ((WJ 4 0++d)++v) G t).length=r):aa WK 161 #[pt f 0,.agg (rB 32 d).toArray,.agg (rB 3 v).toArray] [ob f #[pt g 0,u] 309,ob g (rB 255 aT++rN 256 aW).toArray 312,.p (aG eB u G)] [] N0 (λ_=> .agg (rB 4 r).toArray):=by
 refine fO Tryz.func161 2 rfl λn o=>fG Tryz.func161 λw A=>?_;have y:((WJ 4 (0:UInt8)++d)++v).length=39:=by rw[WN,WN,WR,k,hv]
 exact ra (λa=>[(4,pt (B0 a) 0),(5,pt (B1 a) 0),(6,pt (B2 a) 0)]) (λa=>[ob (B0 a) (rB 32 d).toArray 267,ob (B1 a) (rB 3 v).toArray 262,ob (B2 a) (rB 4 (WJ 4 0)).toArray 268]) λa=>ra (λj=>[(7,pt (B0 j) 0)]) (λj=>[ob (B0 j) (rB 4 (WJ 4 0)).toArray 268]) λj=>rr (λb=>[(0,rn kB 7 4),(1,aS 267 (B0 a) 32 1),(2,.m (mo 7 3 oM (.slice (some ⟨(b 0).y 0,0,none⟩) 4 4) (.slice (some ⟨(a 0).y 0,0,none⟩) 32 32) (xs:=WJ 4 0) (ys:=d) (ob (B0 a) (rB 32 d).toArray 267) (λ_ h=>by rw[show _=_ from h];exact oR (λ_=>rfl) k) oL (λ_=>rfl) (by simp only[LL,k,hv,i];omega))),(3,aS 262 (B1 a) 3 1),(4,.m (mo 7 4 oM ((b 2).val 0) (.slice (some ⟨(a 1).y 0,0,none⟩) 3 3) (xs:=(WJ 4 0)++d) (ys:=v) (ob (B1 a) (rB 3 v).toArray 262) (λ_ h=>by rw[show _=_ from h];exact oR (λ_=>rfl) hv) oL (λ_=>rfl) (by simp only[LL,k,hv,i];omega)))]) (λb=>[(8,(b 4).val 0)]) [] (λb L=>L++[bC ((b 4).val 0) (((WJ 4 0)++d)++v)]) λb=>rr (λe=>[(0,.v (pt f 0)),(1,.v (pt f 0)),(2,.v (pt f 0)),(3,.m (ld 0 (pt g 0))),(4,.v ((b 4).val 0)),(5,.v (pt f 0)),(6,.v (pt f 0)),(7,.v (pt f 1)),(8,.m (ld 0 (u))),(9,.c [1,7,2] [8] (aa.at (rd':=[ob g (rB 255 aT++rN 256 aW).toArray 312,bC ((b 4).val 0) (((WJ 4 0)++d)++v),.c n]) (L1 g ((b 4).val 0) u ((((WJ 4 0)++d)++v)) G t q i ht Om Om) (aP (bL (λ_ h=>aq.sq h) (ec o (λ_ h=>h)))))),(10,.v (.tuple #[(e 9).val 0,i6 0])),(11,.v ((e 9).val 0)),(12,.v (i6 0)),(13,.v ((e 9).val 0)),(14,.v (i6 0))]) (λe=>[(9,(e 9).val 0),(10,i6 0)]) [] (λe L=>L++[bC ((e 9).val 0) (ed ((((WJ 4 0)++d)++v)) (G) t)]) λe=>rT [] 30 (rs [(0,aS 268 (B0 j) 4 1),(2,.m (uv kB 6 (B0 j) 0 4 4 (rB 4 (WJ 4 0)).toArray (rB 4 ((WJ 4 0).take 0++(ed ((((WJ 4 0)++d)++v)) (G) t)++(WJ 4 0).drop (0+((ed ((((WJ 4 0)++d)++v)) (G) t).length)))).toArray 268 191 191 8 (bC ((e 9).val 0) (ed ((((WJ 4 0)++d)++v)) (G) t)) ((e 9).val 0) (ed ((((WJ 4 0)++d)++v)) (G) t) (λ_ h=>aq.src h) Om (by rw[WQ,ku];omega) (ALca X0 (qQ (d:=0) (λ_=>rfl) WR rfl Om))))] 6 (ob (B0 j) (rB 4 ((WJ 4 0).take 0++(ed ((((WJ 4 0)++d)++v)) (G) t)++(WJ 4 0).drop (0+((ed ((((WJ 4 0)++d)++v)) (G) t).length)))).toArray 268) (rs [(0,.l 6),(1,.s 5)] 5 (ob (B2 a) (rB 4 ((WJ 4 0).take 0++(ed ((((WJ 4 0)++d)++v)) (G) t)++(WJ 4 0).drop (0+((ed ((((WJ 4 0)++d)++v)) (G) t).length)))).toArray 268) (ao (.agg (rB 4 ((WJ 4 0).take 0++(ed ((((WJ 4 0)++d)++v)) (G) t)++(WJ 4 0).drop (0+((ed ((((WJ 4 0)++d)++v)) (G) t).length)))).toArray) ab.zero (by rw[W9,Yu,XQ,z]) [] [(0,0),(1,1),(2,2)] [5])))
theorem L3(a g:Nat)(u:Value)(d v:List UInt8)(b:d.length=32)(hv:v.length=3):aa WK 161 #[.pointer (some ⟨a,0,none⟩),.agg (rB 32 d).toArray,.agg (rB 3 v).toArray] [ob a #[.pointer (some ⟨g,0,none⟩),u] 309,ob g (rB 255 aT++rN 256 aW).toArray 312,.p (aG eB u c8)] [] N0 (λ_=> .agg (rB 4 (jf d v)).toArray):=
 L2 a g u d v c8 tG b hv rG LW rfl (by rw[CH];exact CF d v) (jf d v) (by rw[CH];exact LK d v)
theorem L4{P:Program}{T:TypeId}{x y:Operand}{w:World}{k:Nat}(h:k<9223372036854775807):(av .sub T x y (.int .i64 ((k+1:Nat):Int)) (.int .i64 1)).run P w= .ok (.int .i64 (k:Int)) w:=lQ (a:=k+1) (b:=1) Om Om
def fm(s:List UInt8):Nat:=(gz (Go.Proofs.YtbcodenfkijdnaaGreat.co s)).A
def cU(s:List UInt8):Int:=(gz (Go.Proofs.YtbcodenfkijdnaaGreat.co s)).place
def eO(s:List UInt8):UInt8:=(gz (Go.Proofs.YtbcodenfkijdnaaGreat.co s)).val
def n2(s:List UInt8):Value:= .agg #[.int .i64 ((fm s:Nat):Int),.int .i64 (cU s),.int .u8 ((eO s).toNat:Int)]
theorem pS{s:List UInt8}{k:Nat}{p:Int}{v:UInt8}(h:gz (Go.Proofs.YtbcodenfkijdnaaGreat.co s)=⟨k,p,v⟩):Value.agg #[.int .i64 (k:Int),.int .i64 p,.int .u8 (v.toNat:Int)]=n2 s:=by
 unfold n2 fm cU eO;rw[h]
theorem uI{b:UInt8}(h:b≠0):((b.toNat:Int)==0)=false:=beq_false_of_ne λe=>h (UInt8.toNat_inj.1 (by show b.toNat=0;omega))
theorem CI(a:UInt8){b:UInt8}(h:b≠0):bO a b=Go.Proofs.YtbcodenfkijdnaaGreat.gd a b:=by
 unfold bO Go.Proofs.YtbcodenfkijdnaaGreat.gd nc;rw[uI h,ALcf];by_cases c:a=0
 ·subst c;rfl
 ·have d:a.toNat≠0:=λe=>c (UInt8.toNat_inj.1 e);have f:=pP a;have g:=pP b;rw[uI c,ALcf,ALifn d,Cj (xL _)]
  congr 2
  unfold dE gL;omega
theorem CJ{s:List UInt8}(hs:s.length=4):decide (s=WJ 4 0)=decide (nh (Go.Proofs.YtbcodenfkijdnaaGreat.co s)):=by
 rw[decide_eq_decide]
 constructor
 ·rintro rfl;exact⟨rfl,rfl,rfl,rfl⟩
 ·rintro ⟨a,b,c,d⟩;refine rC (by rw[hs,WR]) λi e=>?_;rw[hs] at e;have:i=0∨i=1∨i=2∨i=3:=by omega
  rcases this with rfl | rfl | rfl | rfl
  ·exact a
  ·exact b
  ·exact c
  ·exact d
theorem L5{s:List UInt8}(hs:s.length=4)(h:decide (s=WJ 4 0)=true):Value.agg #[.int .i64 0,.int .i64 (-1),.int .u8 0]=n2 s:=
 pS (k:=0) (p:= -1) (v:=0) (Lz (of_decide_eq_true (CJ hs▸h)))
theorem xY{s:List UInt8}(hs:s.length=4)(h:decide (s=WJ 4 0)=false): ¬nh (Go.Proofs.YtbcodenfkijdnaaGreat.co s):=of_decide_eq_false (CJ hs▸h)
theorem CK{s:List UInt8}(h:((fL (s.getD 0 0) != 0)||(((bO (s.getD 1 0) (s.getD 0 0)).toNat:Int)==0))=false):Go.Proofs.YtbcodenfkijdnaaGreat.co s 0≠0∧gm (bO (s.getD 1 0) (s.getD 0 0)) (Go.Proofs.YtbcodenfkijdnaaGreat.co s 0)=Go.Proofs.YtbcodenfkijdnaaGreat.co s 1∧bO (s.getD 1 0) (s.getD 0 0)≠0:=by
 rw[X6] at h;have a:s.getD 0 0≠0:=λe=>by rw[e] at h;exact absurd h.1 Dc
 refine⟨a,?_,λe=>by rw[e] at h;exact absurd h.2 Dc⟩;rw[CI _ a];exact CG (s.getD 1 0) a
theorem L6{s:List UInt8}(hs:s.length=4)(b:decide (s=WJ 4 0)=false)(h:((fL (s.getD 0 0) != 0)||(((bO (s.getD 1 0) (s.getD 0 0)).toNat:Int)==0))=true):Value.agg #[.int .i64 3,.int .i64 (-1),.int .u8 0]=n2 s:=by
 refine pS (k:=3) (p:= -1) (v:=0) (xS (xY hs b) λi _=>?_);by_cases a:s.getD 0 0=0
 ·cases c:hit (Go.Proofs.YtbcodenfkijdnaaGreat.co s) i with
  | false=>rfl
  | true=>exact absurd a ((pR _ _).1 c).1
 ·rw[Cw a,XF] at h;refine CD (r:=bO (s.getD 1 0) (s.getD 0 0)) ?_ (.inl (uC h)) i;rw[CI _ a];exact CG (s.getD 1 0) a
def rR(s:List UInt8):UInt8:=bO (s.getD 1 0) (s.getD 0 0)
theorem L7{s:List UInt8}{k:Nat}(b: ∀j,j<k→s.getD (j+1) 0=gm (s.getD j 0) (rR s))(h:((s.getD (k+1) 0).toNat:Int)=((gm (s.getD k 0) (bO (s.getD 1 0) (s.getD 0 0))).toNat:Int)): ∀j,j<k+1→s.getD (j+1) 0=gm (s.getD j 0) (rR s):=by
 intro j c;rcases Xd j k with a | a
 ·exact b j a
 ·obtain rfl:j=k:=by omega
  exact UInt8.toNat_inj.1 (Int.ofNat.inj h)
theorem L8{s:List UInt8}{k:Nat}(hs:s.length=4)(d:decide (s=WJ 4 0)=false)(f:((fL (s.getD 0 0) != 0)||(((bO (s.getD 1 0) (s.getD 0 0)).toNat:Int)==0))=false)(l:((k+1:Nat):Int)<4)(h:((s.getD (k+1) 0).toNat:Int)≠((gm (s.getD k 0) (bO (s.getD 1 0) (s.getD 0 0))).toNat:Int)):Value.agg #[.int .i64 3,.int .i64 (-1),.int .u8 0]=n2 s:=by
 obtain⟨g,c,j⟩:=CK f;have a:s.getD (k+1) 0≠gm (s.getD k 0) (bO (s.getD 1 0) (s.getD 0 0)):=λe=>h (by rw[e]);refine pS (k:=3) (p:= -1) (v:=0) (xS (xY hs d) λi _=>CD c ?_ i);have b:k=0∨k=1∨k=2:=by omega
 rcases b with rfl | rfl | rfl
 ·exact absurd (c.symm.trans (lS _ _)) a
 ·exact .inr (.inl a)
 ·exact .inr (.inr a)
theorem xZ{s:List UInt8}{k:Nat}(e:((fL (s.getD 0 0) != 0)||(((bO (s.getD 1 0) (s.getD 0 0)).toNat:Int)==0))=false)(g:k≤3)(f:4≤((k+1:Nat):Int))(b: ∀j,j<k→s.getD (j+1) 0=gm (s.getD j 0) (rR s)):hit (Go.Proofs.YtbcodenfkijdnaaGreat.co s) (gL (rR s).toNat)=true∧gJ (bO (s.getD 1 0) (s.getD 0 0))=gL (rR s).toNat∧(mC (bO (s.getD 1 0) (s.getD 0 0)) != 0)=false∧gL (rR s).toNat<255:=by
 obtain⟨c,d,a⟩:=CK e;obtain rfl:k=3:=by omega
 refine⟨LC c d a (b 1 Om) (b 2 Om),?_,?_,Ly a⟩
 ·unfold gJ;rw[uI a];rfl
 ·unfold mC;rw[uI a];rfl
theorem L9{s:List UInt8}{k:Nat}(hs:s.length=4)(f:decide (s=WJ 4 0)=false)(l:((fL (s.getD 0 0) != 0)||(((bO (s.getD 1 0) (s.getD 0 0)).toNat:Int)==0))=false)(o:k≤3)(a:4≤((k+1:Nat):Int))(m: ∀j,j<k→s.getD (j+1) 0=gm (s.getD j 0) (rR s))(h:((mC (bO (s.getD 1 0) (s.getD 0 0)) != 0)||decide (39≤((gJ (bO (s.getD 1 0) (s.getD 0 0)):Nat):Int)))=true):Value.agg #[.int .i64 3,.int .i64 (-1),.int .u8 0]=n2 s:=by
 obtain⟨b,c,d,e⟩:=xZ l o a m;rw[d,XF,c] at h;have g:=of_decide_eq_true h;refine pS (k:=3) (p:= -1) (v:=0) (xS (xY hs f) λi q=>?_);cases n:hit (Go.Proofs.YtbcodenfkijdnaaGreat.co s) i with
 | false=>rfl
 | true=>have:=Cz e Om b n;omega
theorem Ma{s:List UInt8}{k:Nat}(g:((fL (s.getD 0 0) != 0)||(((bO (s.getD 1 0) (s.getD 0 0)).toNat:Int)==0))=false)(l:k≤3)(c:4≤((k+1:Nat):Int))(i: ∀j,j<k→s.getD (j+1) 0=gm (s.getD j 0) (rR s))(h:((mC (bO (s.getD 1 0) (s.getD 0 0)) != 0)||decide (39≤((gJ (bO (s.getD 1 0) (s.getD 0 0)):Nat):Int)))=false)(a:36≤((gJ (bO (s.getD 1 0) (s.getD 0 0)):Nat):Int)):Value.agg #[.int .i64 2,.int .i64 ((gJ (bO (s.getD 1 0) (s.getD 0 0)):Nat):Int),.int .u8 ((s.getD 0 0).toNat:Int)]=n2 s:=by
 obtain⟨d,e,f,m⟩:=xZ g l c i;rw[f,XF] at h;have b:=of_decide_eq_false h;rw[e] at b a⊢;exact pS (k:=2) (LB Om Om d)
theorem Mb{s:List UInt8}{k:Nat}(e:((fL (s.getD 0 0) != 0)||(((bO (s.getD 1 0) (s.getD 0 0)).toNat:Int)==0))=false)(g:k≤3)(b:4≤((k+1:Nat):Int))(f: ∀j,j<k→s.getD (j+1) 0=gm (s.getD j 0) (rR s))(a:((gJ (bO (s.getD 1 0) (s.getD 0 0)):Nat):Int)<36):Value.agg #[.int .i64 1,.int .i64 ((gJ (bO (s.getD 1 0) (s.getD 0 0)):Nat):Int),.int .u8 ((s.getD 0 0).toNat:Int)]=n2 s:=by
 obtain⟨c,d,h,i⟩:=xZ e g b f;rw[d] at a⊢;exact pS (k:=1) (LA Om c)
theorem Md(b g:Nat)(u:Value)(s:List UInt8)(hs:s.length=4):aa WK 255 #[pt b 0,.agg (rB 4 s).toArray] [ob b #[pt g 0,u] 309,ob g (rB 255 aT++rN 256 aW).toArray 312,.p (aG eB u c8)] [] N0 (λ_=> .agg #[iN (fm s),i6 (cU s),u1 ((eO s).toNat:Int)]):=by
 refine fO Tryz.func255 2 rfl λy B=>fG Tryz.func255 λw G=>ra (λa=>[(3,pt (B0 a) 0),(4,pt (B1 a) 0)]) (λa=>[ob (B0 a) (rB 4 s).toArray 268,ob (B1 a) #[i6 0,i6 0,u1 0] 368]) λa=>r0 [(0,.l 3),(2,.t (iE 268 λ_ _ _=>wZ (xs:=rB 4 s) (ys:=rB 4 (WJ 4 0)) Kr (iZ hs WR)))] [(11,.bool (decide (s=WJ 4 0)))] [] ?_;refine cB (decide (s=WJ 4 0)) (λz=>?_) λz=>?_
 ·exact rr (λ_=>[(1,.s 4)]) N0 [] (λ_ L=>L.set 4 (ob (B1 a) #[i6 0,i6 (-1),u1 0] 368)) λH=>ao (.agg #[i6 0,i6 (-1),u1 0]) ab.zero (by exact L5 hs As) [] [(0,0),(1,1),(2,2)] [4]
 refine r0 [(0,.v (pt b 0)),(1,.v (pt b 0)),(2,.v (pt b 0)),(3,.m (ld 0 (pt g 0))),(4,.v (pt (B0 a) 1)),(5,.m (ld 3 (u1 ((s.getD 1 0).toNat:Int)))),(6,.v (pt (B0 a) 0)),(7,.m (ld 3 (u1 ((s.getD 0 0).toNat:Int)))),(8,.c [1] [] (Cl g (s.getD 1 0) (s.getD 0 0))),(9,.v (.tuple #[u1 ((bO (s.getD 1 0) (s.getD 0 0)).toNat:Int),i6 (fL (s.getD 0 0))])),(10,.v (u1 ((bO (s.getD 1 0) (s.getD 0 0)).toNat:Int))),(11,.v (i6 (fL (s.getD 0 0)))),(12,.v (u1 ((bO (s.getD 1 0) (s.getD 0 0)).toNat:Int))),(13,.v (i6 (fL (s.getD 0 0))))] [(5,u1 ((bO (s.getD 1 0) (s.getD 0 0)).toNat:Int)),(6,i6 (fL (s.getD 0 0)))] [] (r0 [] [(30,.bool (((fL (s.getD 0 0)) != 0)||(((bO (s.getD 1 0) (s.getD 0 0)).toNat:Int)==0)))] [] ?_);refine cB (((fL (s.getD 0 0)) != 0)||(((bO (s.getD 1 0) (s.getD 0 0)).toNat:Int)==0)) (λA=>?_) λA=>?_
 ·exact rr (λ_=>[(0,.c [] [] (xX)),(1,.s 4)]) N0 [] (λ_ L=>L.set 4 (ob (B1 a) #[i6 3,i6 (-1),u1 0] 368)) λI=>ao (.agg #[i6 3,i6 (-1),u1 0]) ab.zero (by exact L6 hs As As) [] [(0,0),(1,1),(2,2)] [4]
 refine r0 [] [(7,i6 1)] [] ?_;refine lq (λk=>k≤3∧(∀j,j<k→s.getD (j+1) 0=gm (s.getD j 0) (rR s))) (λk=>[(7,iN (k+1))]) (λ_ L=>L) (λk=>3-k) 0 ⟨by omega,λ_ h=>absurd h (Ys _)⟩ Kr Kr (λk ⟨x,i⟩=>?_);refine r0 [] [(33,.bool (decide (((k+1:Nat):Int)<4)))] [] ?_;refine bW ((k+1:Nat):Int) 4 (λn d=>?_) λn d=>?_
 ·refine r0 [(0,.v (iN (k+1))),(1,iA 268 .i64 (B0 a) 0 4 1 (k+1)),(2,rD 3 (B0 a) (k+1) 268 (rB 4 s) (nU Om)),(3,.v (pt b 0)),(4,.v (pt b 0)),(5,.v (pt b 0)),(6,.m (ld 0 (pt g 0))),(7,.v (iN (k+1))),(8,.t (tv (av .sub 3 (.tmp 43) (.const (i6 1)) (iN (k+1)) (i6 1)) (λ_=>L4 Om))),(9,iA 268 .i64 (B0 a) 0 4 1 k),(10,rD 3 (B0 a) k 268 (rB 4 s) (nU Om)),(11,.v (u1 ((bO (s.getD 1 0) (s.getD 0 0)).toNat:Int))),(12,.c [1] [] (pQ g (s.getD k 0) (bO (s.getD 1 0) (s.getD 0 0)))),(13,.v (.bool (((s.getD (k+1) 0).toNat:Int) != ((gm (s.getD k 0) (bO (s.getD 1 0) (s.getD 0 0))).toNat:Int))))] [(49,.bool (((s.getD (k+1) 0).toNat:Int) != ((gm (s.getD k 0) (bO (s.getD 1 0) (s.getD 0 0))).toNat:Int)))] [] ?_;refine m9 ((s.getD (k+1) 0).toNat:Int) ((gm (s.getD k 0) (bO (s.getD 1 0) (s.getD 0 0))).toNat:Int) (λo e=>?_) λo e=>?_
  ·exact rr (λ_=>[(0,.c [] [] (xX)),(1,.s 4)]) N0 [] (λ_ L=>L.set 4 (ob (B1 a) #[i6 3,i6 (-1),u1 0] 368)) λC=>ao (.agg #[i6 3,i6 (-1),u1 0]) ab.zero (by exact L8 hs As As As As) [] [(0,0),(1,1),(2,2)] [4]
  exact r0 [(1,ad (k+1) 1)] [(7,iN ((k+1)+1))] [7] (le (k+1) ⟨by omega,L7 i As⟩ Om Kr [0,1,2,3,4] Kr)
 refine lx (r0 [(3,.l 0),(5,.c [1] [] (Ku g (bO (s.getD 1 0) (s.getD 0 0))))] [(8,iN (gJ (bO (s.getD 1 0) (s.getD 0 0)))),(6,i6 (mC (bO (s.getD 1 0) (s.getD 0 0))))] [6] (r0 [] [(60,.bool (((mC (bO (s.getD 1 0) (s.getD 0 0))) != 0)||(decide (39≤(((gJ (bO (s.getD 1 0) (s.getD 0 0))):Nat):Int)))))] [] ?_));refine cB (((mC (bO (s.getD 1 0) (s.getD 0 0))) != 0)||(decide (39≤(((gJ (bO (s.getD 1 0) (s.getD 0 0))):Nat):Int)))) (λq=>?_) λq=>?_
 ·exact rr (λ_=>[(0,.c [] [] (xX)),(1,.s 4)]) N0 [] (λ_ L=>L.set 4 (ob (B1 a) #[i6 3,i6 (-1),u1 0] 368)) λD=>ao (.agg #[i6 3,i6 (-1),u1 0]) ab.zero (by exact L9 hs As As Om As i As) [] [(0,0),(1,1),(2,2)] [4]
 refine r0 [] [(68,.bool (decide (36≤(((gJ (bO (s.getD 1 0) (s.getD 0 0))):Nat):Int))))] [] ?_;refine oN 36 (((gJ (bO (s.getD 1 0) (s.getD 0 0))):Nat):Int) (λr f=>?_) λr f=>?_
 ·exact rr (λ_=>[(2,.l 3),(4,.s 4)]) N0 [] (λ_ L=>L.set 4 (ob (B1 a) #[i6 2,iN (gJ (bO (s.getD 1 0) (s.getD 0 0))),u1 ((s.getD 0 0).toNat:Int)] 368)) λF=>ao (.agg #[i6 2,iN (gJ (bO (s.getD 1 0) (s.getD 0 0))),u1 ((s.getD 0 0).toNat:Int)]) ab.zero (by exact Ma As Om As i As As) [] [(0,0),(1,1),(2,2)] [4]
 exact rs [(2,.l 3),(4,.s 4)] 4 (ob (B1 a) #[i6 1,iN (gJ (bO (s.getD 1 0) (s.getD 0 0))),u1 ((s.getD 0 0).toNat:Int)] 368) (ao (.agg #[i6 1,iN (gJ (bO (s.getD 1 0) (s.getD 0 0))),u1 ((s.getD 0 0).toNat:Int)]) ab.zero (by exact Mb As Om As i As) [] [(0,0),(1,1),(2,2)] [4])
end
section
open Go Go.RowKit Go.Shelf
attribute [local irreducible] a6 ax ig ie ed aT aW c8 a4
theorem CM{s:List UInt8}(h:(((fm s:Nat):Int)==1)=true):(cU s).toNat<36∧cU s=(((cU s).toNat:Nat):Int):=by
 obtain⟨i,b,a⟩:=LR (s:=Go.Proofs.YtbcodenfkijdnaaGreat.co s) h;have:cU s=(i:Int):=a;omega
theorem Me{d v:List UInt8}(a:d.length=36):((bif ((fm (a4 d v):Nat):Int)==1 then d.set ((cU (a4 d v)).toNat) ((d.getD ((cU (a4 d v)).toNat) 0)^^^(eO (a4 d v))) else d).drop 4).take 32=gX d v:=by
 unfold gX fm cU eO;cases ((gz (Go.Proofs.YtbcodenfkijdnaaGreat.co (a4 d v))).A:Int)==1
 ·rw[ALcf,ALcf,XY (by rw[Xl,a];decide)]
 ·rw[ALct,ALct,XY (by rw[Xl,WU,a];decide)]
theorem Mf(i g:Nat)(u:Value)(d v:List UInt8)(j:d.length=36)(hv:v.length=3):aa WK 229 #[pt i 0,.agg (rB 36 d).toArray,.agg (rB 3 v).toArray] [ob i #[pt g 0,u] 309,ob g (rB 255 aT++rN 256 aW).toArray 312,.p (aG eB u c8)] [] N0 (λ_=> .tuple #[.agg (rB 32 (gX d v)).toArray,.agg #[iN (fm (a4 d v)),i6 (cU (a4 d v)),u1 ((eO (a4 d v)).toNat:Int)]]):=by
 refine fO Tryz.func229 2 rfl λf n=>fG Tryz.func229 λw x=>ra (λe=>[(4,pt (B0 e) 0),(5,pt (B1 e) 0),(6,pt (B2 e) 0),(7,pt (B3 e) 0)]) (λe=>[ob (B0 e) (rB 36 d).toArray 371,ob (B1 e) (rB 3 v).toArray 262,ob (B2 e) (rB 32 (WJ 32 0)).toArray 267,ob (B3 e) #[i6 0,i6 0,u1 0] 368]) λe=>rr (λk=>[(2,.l 3),(3,.l 4),(4,.c [0,1,2] [] (aa.at (rd':=[ob i #[pt g 0,u] 309,ob g (rB 255 aT++rN 256 aW).toArray 312,.c f]) (LZ i g u d v (by(simp only[LL,xU,j,hv];done)) (by(simp only[LL,xU,j,hv];done))) (aP (aP (ec n (λ_ h=>h)))))),(5,.c [0,1,2] [] (aa.at (rd':=[ob i #[pt g 0,u] 309,ob g (rB 255 aT++rN 256 aW).toArray 312,.c f]) (Md i g u (a4 d v) (by(simp only[LL,xU,j,hv];done))) (aP (aP (ec n (λ_ h=>h)))))),(7,.s 7)]) (λk=>[(8,pt (B6 k) 0)]) [] (λk L=>L++[ob (B6 k) #[iN (fm (a4 d v)),i6 (cU (a4 d v)),u1 ((eO (a4 d v)).toNat:Int)] 368]) λk=>r0 [(1,.l 7)] [(17,.bool (((fm (a4 d v):Nat):Int)==1))] [] ?_;refine cJ (((fm (a4 d v):Nat):Int)==1) N0 (λc=>[ob i #[pt g 0,u] 309,ob g (rB 255 aT++rN 256 aW).toArray 312,.c f,ob (B0 e) (rB 36 (bif c then d.set ((cU (a4 d v)).toNat) ((d.getD ((cU (a4 d v)).toNat) 0)^^^(eO (a4 d v))) else d)).toArray 371,ob (B1 e) (rB 3 v).toArray 262,ob (B2 e) (rB 32 (WJ 32 0)).toArray 267,ob (B3 e) #[i6 0,i6 0,u1 0] 368,ob (B6 k) #[iN (fm (a4 d v)),i6 (cU (a4 d v)),u1 ((eO (a4 d v)).toNat:Int)] 368]) (λq=>?_) (λq=>?_) ?_
 ·have o:=eq_of_beq q;have r:=CM As;refine rs [(1,.m (lt 7 (B6 k) 1 #[iN (fm (a4 d v)),i6 (cU (a4 d v)),u1 ((eO (a4 d v)).toNat:Int)] 368 (ALca (λz:Int=>some (Value.int .i64 z)) (CM As).2))),(2,iA 371 .i64 (B0 e) 0 36 1 ((cU (a4 d v)).toNat)),(3,rD 3 (B0 e) ((cU (a4 d v)).toNat) 371 (rB 36 d) (nU Om)),(5,.l 7),(6,.t (tb (a:=u1 ((d.getD ((cU (a4 d v)).toNat) 0).toNat:Int)) (b:=u1 ((eO (a4 d v)).toNat:Int)) λ_ _ _ _=>lL (d.getD ((cU (a4 d v)).toNat) 0) ((eO (a4 d v))))),(7,iA 371 .i64 (B0 e) 0 36 1 ((cU (a4 d v)).toNat)),(8,wD 3 (B0 e) ((cU (a4 d v)).toNat) 371 (u1 (((d.getD ((cU (a4 d v)).toNat) 0)^^^(eO (a4 d v))).toNat:Int)) (rB 36 d) (rB 36 (d.set ((cU (a4 d v)).toNat) ((d.getD ((cU (a4 d v)).toNat) 0)^^^(eO (a4 d v))))) (jV Om) (mn j))] 3 (ob (B0 e) (rB 36 (d.set ((cU (a4 d v)).toNat) ((d.getD ((cU (a4 d v)).toNat) 0)^^^(eO (a4 d v))))).toArray 371) ?_;exact cm Kr [0,1,2,3,4,5,6,7] Kr
 ·have o:=ne_of_beq_false q;exact cm Kr [0,1,2,3,4,5,6,7] Kr
 exact rr (λ_=>[(0,aL 371 (B0 e) 36 1 4),(1,.t (tv (Instr.arrayAt 267 (.slice (some ⟨(e 0).y 0,4*1,none⟩) 32 32)) (λ_=>run_arrayAt _ 267 5 32 _ _ _ Tryz.underlying267 Om))),(2,.m (lg 3 (B0 e) (4*1) (rB 36 (bif ((fm (a4 d v):Nat):Int)==1 then d.set ((cU (a4 d v)).toNat) ((d.getD ((cU (a4 d v)).toNat) 0)^^^(eO (a4 d v))) else d)).toArray 371 (rB 32 (((bif ((fm (a4 d v):Nat):Int)==1 then d.set ((cU (a4 d v)).toNat) ((d.getD ((cU (a4 d v)).toNat) 0)^^^(eO (a4 d v))) else d).drop 4).take 32)) (w1 (λ_=>rfl) (Jm (by rw[WU];exact j) j) Om))),(3,.l 7),(4,.s 5),(5,.s 6)]) N0 [] (λ_ L=>(L.set 5 (ob (B2 e) (rB 32 (((bif ((fm (a4 d v):Nat):Int)==1 then d.set ((cU (a4 d v)).toNat) ((d.getD ((cU (a4 d v)).toNat) 0)^^^(eO (a4 d v))) else d).drop 4).take 32)).toArray 267)).set 6 (ob (B3 e) #[iN (fm (a4 d v)),i6 (cU (a4 d v)),u1 ((eO (a4 d v)).toNat:Int)] 368)) λy=>ao (.tuple #[.agg (rB 32 (((bif ((fm (a4 d v):Nat):Int)==1 then d.set ((cU (a4 d v)).toNat) ((d.getD ((cU (a4 d v)).toNat) 0)^^^(eO (a4 d v))) else d).drop 4).take 32)).toArray,.agg #[iN (fm (a4 d v)),i6 (cU (a4 d v)),u1 ((eO (a4 d v)).toNat:Int)]]) ab.zero (by rw[Me j]) [] [(0,0),(1,1),(2,2)] [5,6]
end
section
open Go Go.RowKit Go.Shelf
attribute [local irreducible] pc bH
theorem x8(g i:Nat)(x:UInt8)(cl:List UInt8)(a:List Int)(d:i<74)(b:cl.length=74)(ht:a.length=256):aa WK 179 #[pt g 0,iN i,u1 (x.toNat:Int)] [ob g (rB 74 cl++rI 256 a).toArray 298] [0] (λ_=>[ob g (rB 74 (cl.set i x)++rI 256 (a.set x.toNat (i:Int))).toArray 298]) (λ_=> .tuple #[]):=by
 have e:=x.toNat_lt;refine fG Tryz.func179 λw c=>rs [(0,.v (pt g 0)),(1,.v (iN i)),(2,.v (pt g 0)),(3,.v (u1 (x.toNat:Int))),(4,.v (u1 (x.toNat:Int))),(5,.v (iN i)),(6,.v (pt g 0)),(7,.v (pt g 0)),(8,iA 295 .i64 g 0 74 1 i),(9,wM (A:=[]) (R:=rB 74 cl) (C:=(rI 256 a:List Value)) 0 g i 298 (u1 (x.toNat:Int)) (rB 74 cl++rI 256 a) (rB 74 (cl.set i x)++rI 256 a) rfl rfl rfl (jV Om) (mn b)),(10,.v (pt g 0)),(11,.v (pt g 74)),(12,iA 296 .u8 g 74 256 1 x.toNat),(13,wM (A:=(rB 74 (cl.set i x):List Value)) (R:=rI 256 a) (C:=[]) 0 g x.toNat 298 (iN i) (rB 74 (cl.set i x)++rI 256 a) (rB 74 (cl.set i x)++rI 256 (a.set x.toNat (i:Int))) (by rw[WM]) (by rw[WM]) ku (jV Om) (AS ht))] 0 (ob g (rB 74 (cl.set i x)++rI 256 (a.set x.toNat (i:Int))).toArray 298) ?_;exact ew ab.zero [0] [] []
def xc(cl:List UInt8)(d:Nat):Nat→UInt8
 | 0=>0
 | k+1=>xc cl d k^^^cl.getD ((bH d).getD k 0) 0
theorem CN{d j:Nat}(h:j<(bH d).length):(bH d).getD j 0<64:=by
 have a:(bH d).getD j 0∈bH d:=by
  rw[WT,W8 h];exact Yj h
 unfold bH at a⊢;have:=(Hb 64 0 d _ a).2.1;omega
def bP(d:Nat)(a p:Int)(cl:List UInt8):UInt8:=(bif (p%2)==1 then(bif (a%2)==1 then(xc cl d ((bH d).length))^^^(cl.getD 72 0) else(xc cl d ((bH d).length)))^^^(cl.getD 73 0) else(bif (a%2)==1 then(xc cl d ((bH d).length))^^^(cl.getD 72 0) else(xc cl d ((bH d).length))))
theorem CO(g d:Nat)(a p:Int)(cl:List UInt8)(m:List Int)(I:d<18446744073709551616)(H:cl.length=74)(ht:m.length=256):aa WK 157 #[pt g 0,u6 (d:Int),i6 a,i6 p] [ob g (rB 74 cl++rI 256 m).toArray 298] [] N0 (λ_=>u1 ((bP d a p cl).toNat:Int)):=by
 refine fG Tryz.func157 λw G=>ra (λk=>[(4,pt (B0 k) 0),(8,u1 0)]) (λk=>[ob (B0 k) #[pt g 0] 235]) λk=>rr (λ_=>[(1,.s 2)]) (λe=>[(9,pt (B0 e) 0)]) [] (λe L=>L++[ob (B0 e) #[u1 0] 5]) λe=>rr (λ_=>[(1,.c [] [3] (BQ d))]) (λn=>[(12,.func (.func 172) #[] #[pt ((B1 n)) 0])]) [] (λn L=>L++[ob (B1 n) #[u6 (d:Int)] 44]) λn=>?_;refine Bu (encs:=λ(i:Nat)=>#[iN i]) (xs:=bH d) (XO:=[((B1 n),.cells #[u6 (d:Int)] 44 (0,0))]) (KO:=[]) (BP (B1 n) d Om) (enters_of Tryz.func172 Kr rfl) (λj=>j≤(bH d).length) (λj L=>L.set 2 (ob (B0 e) #[u1 ((xc cl d j).toNat:Int)] 5)) [ob g (rB 74 cl++rI 256 m).toArray 298,ob (B0 k) #[pt g 0] 235,ob (B0 e) #[u1 0] 5] [0,1,2,3] [3] [] Om Kr (λJ j K z D v u=>?_) (λy u=>?_)
 ·obtain⟨r,rfl⟩:=tz 0 v;have x:=CN r;refine r0 [] [(10,iN ((bH d).getD j 0))] [] ?_;refine ag [] (λB F=>?_);exact rs [(0,.l 2),(1,.l 1),(5,iA 295 .i64 g 0 74 1 ((bH d).getD j 0)),(6,rM (A:=[]) (R:=rB 74 cl) (C:=(rI 256 m:List Value)) 0 g ((bH d).getD j 0) 298 (rB 74 cl++rI 256 m) rfl rfl (nU Om)),(7,.t (tb (a:=u1 ((xc cl d j).toNat:Int)) (b:=u1 ((cl.getD ((bH d).getD j 0) 0).toNat:Int)) λ_ _ _ _=>lL ((xc cl d j)) (cl.getD ((bH d).getD j 0) 0))),(8,.s 2)] 2 (ob (B0 e) #[u1 (((xc cl d j)^^^(cl.getD ((bH d).getD j 0) 0)).toNat:Int)] 5) (ne _ ⟨Om,rfl⟩ [0,1,2] Kr)
 refine r0 [(1,.t (tv (av .and 3 (.tmp 22) (.const (i6 1)) (i6 a) (i6 1)) (λ_=>mA a 1 2 Dc Dc Dc Dc)))] [(24,.bool ((a%2)==1))] [] ?_;refine cJ ((a%2)==1) N0 (λc=>[ob g (rB 74 cl++rI 256 m).toArray 298,ob (B0 k) #[pt g 0] 235,ob (B0 e) #[u1 ((bif c then(xc cl d ((bH d).length))^^^(cl.getD 72 0) else(xc cl d ((bH d).length))).toNat:Int)] 5]) (λf=>?_) (λf=>?_) ?_
 ·have o:=eq_of_beq f;refine rs [(0,.l 2),(1,.l 1),(5,.l 0),(6,.t (tb (a:=u1 ((xc cl d ((bH d).length)).toNat:Int)) (b:=u1 ((cl.getD 72 0).toNat:Int)) λ_ _ _ _=>lL ((xc cl d ((bH d).length))) (cl.getD 72 0))),(7,.s 2)] 2 (ob (B0 e) #[u1 (((xc cl d ((bH d).length))^^^(cl.getD 72 0)).toNat:Int)] 5) ?_;exact cm Kr [0,1,2] Kr
 ·have o:=ne_of_beq_false f;exact cm Kr [0,1,2] Kr
 refine r0 [(1,.t (tv (av .and 3 (.tmp 32) (.const (i6 1)) (i6 p) (i6 1)) (λ_=>mA p 1 2 Dc Dc Dc Dc)))] [(34,.bool ((p%2)==1))] [] ?_;refine cJ ((p%2)==1) N0 (λc=>[ob g (rB 74 cl++rI 256 m).toArray 298,ob (B0 k) #[pt g 0] 235,ob (B0 e) #[u1 ((bif c then(bif (a%2)==1 then(xc cl d ((bH d).length))^^^(cl.getD 72 0) else(xc cl d ((bH d).length)))^^^(cl.getD 73 0) else(bif (a%2)==1 then(xc cl d ((bH d).length))^^^(cl.getD 72 0) else(xc cl d ((bH d).length)))).toNat:Int)] 5]) (λh=>?_) (λh=>?_) ?_
 ·have q:=eq_of_beq h;refine rs [(0,.l 2),(1,.l 1),(5,.l 0),(6,.t (tb (a:=u1 ((bif (a%2)==1 then(xc cl d ((bH d).length))^^^(cl.getD 72 0) else(xc cl d ((bH d).length))).toNat:Int)) (b:=u1 ((cl.getD 73 0).toNat:Int)) λ_ _ _ _=>lL ((bif (a%2)==1 then(xc cl d ((bH d).length))^^^(cl.getD 72 0) else(xc cl d ((bH d).length)))) (cl.getD 73 0))),(7,.s 2)] 2 (ob (B0 e) #[u1 (((bif (a%2)==1 then(xc cl d ((bH d).length))^^^(cl.getD 72 0) else(xc cl d ((bH d).length)))^^^(cl.getD 73 0)).toNat:Int)] 5) ?_;exact cm Kr [0,1,2] Kr
 ·have q:=ne_of_beq_false h;exact cm Kr [0,1,2] Kr
 exact r0 [(0,.l 2)] [(8,u1 ((bif (p%2)==1 then(bif (a%2)==1 then(xc cl d ((bH d).length))^^^(cl.getD 72 0) else(xc cl d ((bH d).length)))^^^(cl.getD 73 0) else(bif (a%2)==1 then(xc cl d ((bH d).length))^^^(cl.getD 72 0) else(xc cl d ((bH d).length)))).toNat:Int))] [8] (lf ab.zero [] [(0,0)] [])
theorem Mg(g d:Nat)(k:UInt8)(a p:Int)(cl:List UInt8)(e:List Int)(i:d<18446744073709551616)(f:cl.length=74)(ht:e.length=256):aa WK 254 #[pt g 0,u6 (d:Int),u1 (k.toNat:Int),i6 a,i6 p] [ob g (rB 74 cl++rI 256 e).toArray 298] [] N0 (λ_=>u1 (((bP d a p cl)^^^k).toNat:Int)):=by
 exact fG Tryz.func254 λw h=>r0 [] [(10,u1 0)] [] (r0 [(4,.c [0] [] (CO g d a p cl e Om (by(simp only[LL,f,ht];done)) (by(simp only[LL,f,ht];done)))),(6,.t (tb (a:=u1 ((bP d a p cl).toNat:Int)) (b:=u1 (k.toNat:Int)) λ_ _ _ _=>lL ((bP d a p cl)) (k)))] [(10,u1 (((bP d a p cl)^^^k).toNat:Int))] [10] (lf ab.zero [] [(0,0)] []))
def dy(k:UInt8)(a:List Int):Int:=(bif (k.toNat:Int)==0 then 0 else(bif (a.getD k.toNat 0)==(-1) then 4 else(bif (a.getD k.toNat 0)==72 then 3 else(bif (a.getD k.toNat 0)==73 then 2 else 1))))
def dm(k:UInt8)(a:List Int):Int:=(bif (k.toNat:Int)==0 then(-1) else(bif (a.getD k.toNat 0)==(-1) then(-1) else(bif (a.getD k.toNat 0)==72 then(-1) else(bif (a.getD k.toNat 0)==73 then(-1) else(a.getD k.toNat 0)))))
theorem Mh(g:Nat)(k:UInt8)(cl:List UInt8)(a:List Int)(m:cl.length=74)(ht:a.length=256):aa WK 253 #[pt g 0,u1 (k.toNat:Int)] [ob g (rB 74 cl++rI 256 a).toArray 298] [] N0 (λ_=> .tuple #[i6 (dy k a),i6 (dm k a)]):=by
 have n:=k.toNat_lt;refine fG Tryz.func253 λw l=>r0 [] [(4,i6 0),(5,i6 0)] [] (r0 [] [(8,.bool ((k.toNat:Int)==0))] [] ?_);refine cN (k.toNat:Int) 0 (λd i=>?_) λd i=>?_
 ·exact r0 [] [(4,i6 0),(5,i6 (-1))] [4,5] (ao (.tuple #[i6 0,i6 (-1)]) ab.zero (by((try simp only[dy,dm]);(repeat (first | rw[d] | rw[ALct])))<;>rfl) [] [(0,0)] [])
 refine r0 [(4,iA 296 .u8 g 74 256 1 k.toNat),(5,rM (A:=(rB 74 cl:List Value)) (R:=rI 256 a) (C:=[]) 0 g k.toNat 298 (rB 74 cl++rI 256 a) (by rw[WM]) ku (H6 Om))] [(6,i6 (a.getD k.toNat 0))] [] (r0 [] [(16,.bool ((a.getD k.toNat 0)==(-1)))] [] ?_);refine cN (a.getD k.toNat 0) (-1) (λh j=>?_) λh j=>?_
 ·exact r0 [] [(4,i6 4),(5,i6 (-1))] [4,5] (ao (.tuple #[i6 4,i6 (-1)]) ab.zero (by((try simp only[dy,dm]);(repeat (first | rw[d] | rw[h] | rw[ALct] | rw[ALcf])))<;>rfl) [] [(0,0)] [])
 refine r0 [] [(19,.bool ((a.getD k.toNat 0)==72))] [] ?_;refine cN (a.getD k.toNat 0) 72 (λb e=>?_) λb e=>?_
 ·exact r0 [] [(4,i6 3),(5,i6 (-1))] [4,5] (ao (.tuple #[i6 3,i6 (-1)]) ab.zero (by((try simp only[dy,dm]);(repeat (first | rw[d] | rw[h] | rw[b] | rw[ALct] | rw[ALcf])))<;>rfl) [] [(0,0)] [])
 refine r0 [] [(22,.bool ((a.getD k.toNat 0)==73))] [] ?_;refine cN (a.getD k.toNat 0) 73 (λc f=>?_) λc f=>?_
 ·exact r0 [] [(4,i6 2),(5,i6 (-1))] [4,5] (ao (.tuple #[i6 2,i6 (-1)]) ab.zero (by((try simp only[dy,dm]);(repeat (first | rw[d] | rw[h] | rw[b] | rw[c] | rw[ALct] | rw[ALcf])))<;>rfl) [] [(0,0)] [])
 exact r0 [] [(4,i6 1),(5,i6 (a.getD k.toNat 0))] [4,5] (ao (.tuple #[i6 1,i6 (a.getD k.toNat 0)]) ab.zero (by((try simp only[dy,dm]);(repeat (first | rw[d] | rw[h] | rw[b] | rw[c] | rw[ALcf])))<;>rfl) [] [(0,0)] [])
theorem Mi{b:List Int}{K:UInt8}(hp: ∀k:UInt8,(dy k b==1)=true→0≤dm k b)(h:((dy K b==1)&&decide (dm K b<64))=true):0≤dm K b∧dm K b<64∧1*2^(dm K b).toNat<18446744073709551616:=by
 rw[WS] at h;have c:=hp K h.1;have d:=of_decide_eq_true h.2;refine⟨c,d,?_⟩;rw[Nat.one_mul];exact Yi (Nat.pow_lt_pow_right (a:=2) Om (show(dm K b).toNat<64 by omega)) Dc
def gA(d:Nat)(k:UInt8)(a:Int)(cl:List UInt8)(b:List Int):Nat:=(bif ((dy ((bP d a 0 cl)^^^k) b)==1)&&(decide ((dm ((bP d a 0 cl)^^^k) b)<64)) then d^^^(1*2^(dm (bP d a 0 cl^^^k) b).toNat) else d)
theorem Mj(g d:Nat)(k:UInt8)(a:Int)(cl:List UInt8)(b:List Int)(i:d<18446744073709551616)(e:cl.length=74)(ht:b.length=256)(hp: ∀k:UInt8,(dy k b==1)=true→0≤dm k b):aa WK 227 #[pt g 0,u6 (d:Int),u1 (k.toNat:Int),i6 a] [ob g (rB 74 cl++rI 256 b).toArray 298] [] N0 (λ_=> .tuple #[u6 (((gA d k a cl b):Nat):Int),i6 (dy ((bP d a 0 cl)^^^k) b),i6 (dm ((bP d a 0 cl)^^^k) b)]):=by
 refine fG Tryz.func227 λw j=>r0 [] [(8,u6 0),(9,i6 0),(10,i6 0)] [] (r0 [(0,.v (pt g 0)),(1,.v (pt g 0)),(2,.v (u6 (d:Int))),(3,.v (u1 (k.toNat:Int))),(4,.v (i6 a)),(5,.c [0] [] (Mg g d k a 0 cl b Om (by(simp only[LL,e,ht];done)) (by(simp only[LL,e,ht];done)))),(6,.c [0] [] (Mh g ((bP d a 0 cl)^^^k) cl b (by(simp only[LL,e,ht];done)) (by(simp only[LL,e,ht];done)))),(7,.v (.tuple #[i6 (dy ((bP d a 0 cl)^^^k) b),i6 (dm ((bP d a 0 cl)^^^k) b)])),(8,.v (i6 (dy ((bP d a 0 cl)^^^k) b))),(9,.v (i6 (dm ((bP d a 0 cl)^^^k) b))),(10,.v (i6 (dy ((bP d a 0 cl)^^^k) b))),(11,.v (i6 (dm ((bP d a 0 cl)^^^k) b)))] [(9,i6 (dy ((bP d a 0 cl)^^^k) b)),(10,i6 (dm ((bP d a 0 cl)^^^k) b))] [9,10] (r0 [] [(26,.bool (((dy ((bP d a 0 cl)^^^k) b)==1)&&(decide ((dm ((bP d a 0 cl)^^^k) b)<64))))] [] ?_));refine cJ (((dy ((bP d a 0 cl)^^^k) b)==1)&&(decide ((dm ((bP d a 0 cl)^^^k) b)<64))) (λc=>[(1,u6 (((bif c then d^^^(1*2^(dm (bP d a 0 cl^^^k) b).toNat) else d):Nat):Int))]) (λ_=>[ob g (rB 74 cl++rI 256 b).toArray 298]) (λf=>?_) (λf=>?_) ?_
 ·have h:=Mi hp f;refine r0 [(1,.t (tk (show i6 (dm ((bP d a 0 cl)^^^k) b)=iN ((dm (bP d a 0 cl^^^k) b).toNat) from ALca (Value.int .i64) Om))),(2,.t (tv (convert 3 201 (iN ((dm (bP d a 0 cl^^^k) b).toNat))) (λ_=>m4 Tryz.underlying3 Tryz.underlying201 Om))),(3,.t (tv (av .shl 44 (.const (u6 1)) (.tmp 29) (u6 1) (u6 (((dm (bP d a 0 cl^^^k) b).toNat:Nat):Int))) (λ_=>tB (a:=1) (dm (bP d a 0 cl^^^k) b).toNat Om h.2.2))),(4,.t (tv (av .xor 44 (.tmp 27) (.tmp 30) (u6 (d:Int)) (u6 ((1*2^(dm (bP d a 0 cl^^^k) b).toNat:Nat):Int))) (λ_=>HU i h.2.2)))] [(1,u6 ((d^^^(1*2^(dm (bP d a 0 cl^^^k) b).toNat):Nat):Int))] [1] ?_;exact cm Kr [0] Kr
 ·exact cm Kr [0] Kr
 exact r0 [] [(8,u6 (((bif ((dy ((bP d a 0 cl)^^^k) b)==1)&&(decide ((dm ((bP d a 0 cl)^^^k) b)<64)) then d^^^(1*2^(dm (bP d a 0 cl^^^k) b).toNat) else d):Nat):Int)),(9,i6 (dy ((bP d a 0 cl)^^^k) b)),(10,i6 (dm ((bP d a 0 cl)^^^k) b))] [8,9,10] (lf ab.zero [] [(0,0)] [])
end
section
open Go Go.RowKit Go.Shelf
def jg:Nat→List Int
 | 0=>WJ 256 0
 | k+1=>(jg k).set k (-1)
def j0:Nat→List UInt8
 | 0=>WJ 74 0
 | k+1=>(j0 k).set (64+k) (UInt8.ofNat (1*2^k))
def j4:Nat→List Int
 | 0=>jg 256
 | k+1=>(j4 k).set (UInt8.ofNat (1*2^k)).toNat ((64+k:Nat):Int)
def j7:Nat→List UInt8
 | 0=>j0 8
 | k+1=>(j7 k).set k (UInt8.ofNat ((ch 3 256).getD k 0))
def j8:Nat→List Int
 | 0=>j4 8
 | k+1=>(j8 k).set (UInt8.ofNat ((ch 3 256).getD k 0)).toNat ((k:Nat):Int)
def p5(k:Nat):Nat:=bif decide (k<8) then 56+k else 64+k
def bI:Nat→List UInt8
 | 0=>j7 56
 | k+1=>(bI k).set (p5 k) (UInt8.ofNat ((ch 5 256).getD k 0))
def bR:Nat→List Int
 | 0=>j8 56
 | k+1=>(bR k).set (UInt8.ofNat ((ch 5 256).getD k 0)).toNat ((p5 k:Nat):Int)
theorem nj: ∀k,(jg k).length=256
 | 0=>WR ..
 | k+1=>by rw[jg,WU];exact nj k
theorem n4: ∀k,(j0 k).length=74
 | 0=>WR ..
 | k+1=>by rw[j0,WU];exact n4 k
theorem n7: ∀k,(j4 k).length=256
 | 0=>nj 256
 | k+1=>by rw[j4,WU];exact n7 k
theorem n8: ∀k,(j7 k).length=74
 | 0=>n4 8
 | k+1=>by rw[j7,WU];exact n8 k
theorem n9: ∀k,(j8 k).length=256
 | 0=>n7 8
 | k+1=>by rw[j8,WU];exact n9 k
theorem jI: ∀k,(bI k).length=74
 | 0=>n8 56
 | k+1=>by rw[bI,WU];exact jI k
theorem jJ: ∀k,(bR k).length=256
 | 0=>n9 56
 | k+1=>by rw[bR,WU];exact jJ k
theorem x9:(ch 3 256).length=56:=by decide+kernel
theorem Mk:(ch 5 256).length=56:=by decide+kernel
def b5(k:Nat):Nat:=bif decide (k≤8) then 56+k else 64+k
theorem Ml{i:Nat}(h:i≤10):(bif ((b5 i:Nat):Int)==64 then 72 else b5 i)=p5 i:=by
 have: ∀i,i≤10→(bif ((b5 i:Nat):Int)==64 then 72 else b5 i)=p5 i:=by decide
 exact this i h
theorem Mm{i:Nat}:(p5 i=56+i∧i<8)∨(p5 i=64+i∧8≤i):=by
 unfold p5;rcases Xd i 8 with h | h
 ·exact .inl ⟨by rw[cD h];rfl,h⟩
 ·exact .inr ⟨by rw[bf Om];rfl,h⟩
theorem Mn{i:Nat}(h:i<10):b5 (i+1)=p5 i+1:=by
 have: ∀i,i<10→b5 (i+1)=p5 i+1:=by decide
 exact this i h
attribute [local irreducible] jg j0 j4 j7 j8 bI bR ch
theorem Mo:aa WK 140 #[] [] [] (λE=>[ob (E.y 0) (rB 74 (bI 10)++rI 256 (bR 10)).toArray 298]) (λE=>pt ((E.y 0)) 0):=by
 refine fG Tryz.func140 λw V=>r0 [] [(0,.pointer none)] [] (rr (λ_=>[(3,.s 1)]) (λe=>[(1,pt (B2 e) 0)]) [] (λe L=>L++[ob (B1 e) (rB 74 (WJ 74 0)++rN 256 (WJ 256 0)).toArray 298,ob (B2 e) #[pt (B1 e) 0] 235]) λe=>r0 [] [(9,i6 0)] [] ?_);refine lq (λk=>k≤256) (λk=>[(9,iN k)]) (λk L=>L.set 0 (ob (B1 e) (rB 74 (WJ 74 0)++rI 256 (jg k)).toArray 298)) (λk=>256-k) 0 Om Kr (by rw[show jg 0=WJ 256 0 by unfold jg;rfl];kernel_rfl) (λk Q=>?_);refine r0 [] [(10,.bool (decide ((k:Int)<256)))] [] ?_;refine bW (k:Int) 256 (λO x=>?_) λO x=>?_
 ·exact r0 [] [(2,iN k)] [] (rs [(0,.l 1),(4,iA 296 .i64 (B1 e) 74 256 1 k),(5,wM (A:=(rB 74 (WJ 74 0):List Value)) (R:=rI 256 (jg k)) (C:=[]) 0 (B1 e) k 298 (i6 (-1)) (rB 74 (WJ 74 0)++rI 256 (jg k)) (rB 74 (WJ 74 0)++rI 256 ((jg k).set k (-1))) (by rw[WM]) (by rw[WM]) ku (jV Om) (AS (nj ..)))] 0 (ob (B1 e) (rB 74 (WJ 74 0)++rI 256 ((jg k).set k (-1))).toArray 298) (r0 [(0,ad k 1)] [(9,iN (k+1))] [9] (le (k+1) Om Om Kr [0,1] (by rw[show jg (k+1)=(jg k).set k (-1) by rw[jg]];kernel_rfl))))
 obtain rfl:k=256:=by omega
 refine lx (r0 [] [(18,i6 0)] [] ?_);refine lq (λm=>m≤8) (λm=>[(18,iN m)]) (λm L=>L.set 0 (ob (B1 e) (rB 74 (j0 m)++rI 256 (j4 m)).toArray 298)) (λm=>8-m) 0 Om Kr (by rw[show j0 0=WJ 74 0 by unfold j0;rfl,show j4 0=jg 256 by unfold j4;rfl];kernel_rfl) (λm G=>?_);refine r0 [] [(19,.bool (decide ((m:Int)<8)))] [] ?_;refine bW (m:Int) 8 (λy n=>?_) λy n=>?_
 ·exact r0 [] [(3,iN m)] [] (rs [(0,.l 1),(2,ad 64 m),(4,.t (tv (convert 3 201 (iN m)) (λ_=>m4 Tryz.underlying3 Tryz.underlying201 Om))),(5,.t (tv (av .shl 5 (.const (u1 1)) (.tmp 25) (u1 1) (u6 (m:Int))) (λ_=>uu (a:=1) m Om))),(6,.c [0] [0] (x8 (B1 e) (64+m) (UInt8.ofNat (1*2^m)) (j0 m) (j4 m) Om (by(simp only[LL,nj,n4,n7,n8,n9,jI,jJ];done)) (by(simp only[LL,nj,n4,n7,n8,n9,jI,jJ];done))))] 0 (ob (B1 e) (rB 74 ((j0 m).set (64+m) (UInt8.ofNat (1*2^m)))++rI 256 ((j4 m).set (UInt8.ofNat (1*2^m)).toNat ((64+m):Int))).toArray 298) (r0 [(0,ad m 1)] [(18,iN (m+1))] [18] (le (m+1) Om Om Kr [0,1] (by rw[show j0 (m+1)=(j0 m).set (64+m) (UInt8.ofNat (1*2^m)) by rw[j0],show j4 (m+1)=(j4 m).set (UInt8.ofNat (1*2^m)).toNat ((64+m:Nat):Int) by rw[j4]];kernel_rfl))))
 obtain rfl:m=8:=by omega
 refine lx (rr (λ_=>[(1,.s 2)]) (λf=>[(4,pt (B0 f) 0)]) [] (λf L=>L++[ob (B0 f) #[i6 0] 3]) λf=>rr (λ_=>[(0,.c [] [3,4] (BW 8 3))]) (λb=>[(29,.func (.func 214) #[] #[pt ((B0 b)) 0,pt (((b 0).y 1)) 0])]) [] (λb L=>L++[ob (B0 b) #[i6 3] 3,ob ((b 0).y 1) #[i6 8] 3]) λb=>?_);refine oP (encs:=λ(i:Nat)=>#[u1 ((UInt8.ofNat i).toNat:Int)]) (xs:=ch 3 256) (KO:=[[((B0 b),.cells #[i6 3] 3 (0,0))],[(((b 0).y 1),.cells #[i6 8] 3 (0,0))]]) (J0 (B0 b) ((b 0).y 1)) (enters_of Tryz.func214 Kr rfl) (λj=>j≤(ch 3 256).length) (λj L=>(L.set 0 (ob (B1 e) (rB 74 (j7 j)++rI 256 (j8 j)).toArray 298)).set 2 (ob (B0 f) #[iN j] 3)) [3,4] Om (by rw[show j7 0=j0 8 by unfold j7;rfl,show j8 0=j4 8 by unfold j8;rfl];kernel_rfl) (λT j U J M h q=>?_) (λI q=>?_)
 ·obtain⟨D,rfl⟩:=tz 0 h;have B:=x9;refine r0 [] [(5,u1 ((UInt8.ofNat ((ch 3 256).getD j 0)).toNat:Int))] [] ?_;refine ag [3,4] (λK N=>?_);exact rs [(0,.l 1),(1,.l 2),(3,.c [0] [0] (x8 (B1 e) j (UInt8.ofNat ((ch 3 256).getD j 0)) (j7 j) (j8 j) Om (by(simp only[LL,nj,n4,n7,n8,n9,jI,jJ];done)) (by(simp only[LL,nj,n4,n7,n8,n9,jI,jJ];done))))] 0 (ob (B1 e) (rB 74 ((j7 j).set j (UInt8.ofNat ((ch 3 256).getD j 0)))++rI 256 ((j8 j).set (UInt8.ofNat ((ch 3 256).getD j 0)).toNat (j:Int))).toArray 298) (rs [(0,.l 2),(1,ad j 1),(2,.s 2)] 2 (ob (B0 f) #[iN (j+1)] 3) (ne _ ⟨Om,rfl⟩ [0,1,2,3,4] (by rw[show j7 (j+1)=(j7 j).set j (UInt8.ofNat ((ch 3 256).getD j 0)) by rw[j7],show j8 (j+1)=(j8 j).set (UInt8.ofNat ((ch 3 256).getD j 0)).toNat ((j:Nat):Int) by rw[j8]];kernel_rfl)))
 have B:=x9;refine rr (λ_=>[(0,.c [] [5,6] (BW 8 5))]) (λd=>[(37,.func (.func 214) #[] #[pt ((B0 d)) 0,pt (((d 0).y 1)) 0])]) [] (λd L=>L++[ob (B0 d) #[i6 5] 3,ob ((d 0).y 1) #[i6 8] 3]) λd=>?_;refine xp (encs:=λ(i:Nat)=>#[u1 ((UInt8.ofNat i).toNat:Int)]) (xs:=ch 5 256) (KO:=[[((B0 d),.cells #[i6 5] 3 (0,0))],[(((d 0).y 1),.cells #[i6 8] 3 (0,0))]]) (J1 (B0 d) ((d 0).y 1)) (enters_of Tryz.func214 Kr rfl) (λi=>i≤(ch 5 256).length∧(i≤10)) (λi L=>(L.set 0 (ob (B1 e) (rB 74 (bI i)++rI 256 (bR i)).toArray 298)).set 2 (ob (B0 f) #[iN (b5 i)] 3)) (λc _=>(c=Code.exit 6)) (λ_ _ L=>(L.set 0 (ob (B1 e) (rB 74 (bI 10)++rI 256 (bR 10)).toArray 298)).set 2 (ob (B0 f) #[i6 74] 3)) [5,6] ⟨by omega,Om⟩ (by rw[show bI 0=j7 56 by unfold bI;rfl,show bR 0=j8 56 by unfold bR;rfl,←x9];kernel_rfl) (λT i U J M h ⟨r,u⟩=>?_) (λv ⟨r,u⟩=>?_) λv c i u P=>?_
 ·obtain⟨F,rfl⟩:=tz 0 h;refine r0 [] [(6,u1 ((UInt8.ofNat ((ch 5 256).getD i 0)).toNat:Int))] [] ?_;refine ag [5,6] (λK N=>?_);refine r0 [(0,.l 2)] [(40,.bool (((b5 i:Nat):Int)==64))] [] ?_;refine cJ (((b5 i:Nat):Int)==64) N0 (λc=>[ob (B1 e) (rB 74 (bI i)++rI 256 (bR i)).toArray 298,ob (B2 e) #[pt (B1 e) 0] 235,ob (B0 f) #[iN (bif c then 72 else b5 i)] 3,ob (B0 b) #[i6 3] 3,ob ((b 0).y 1) #[i6 8] 3,ob (B0 d) #[i6 5] 3,ob ((d 0).y 1) #[i6 8] 3]) (λg=>?_) (λg=>?_) ?_
  ·have o:=eq_of_beq g;refine rs [(0,.s 2)] 2 (ob (B0 f) #[i6 72] 3) ?_;exact cm Kr [0,1,2,3,4,5,6] Kr
  ·have o:=ne_of_beq_false g;exact cm Kr [0,1,2,3,4,5,6] Kr
  have H:=Ml u;have S:=Mm (i:=i);refine cl [ob (B1 e) (rB 74 (bI i)++rI 256 (bR i)).toArray 298,ob (B2 e) #[pt (B1 e) 0] 235,ob (B0 f) #[iN (p5 i)] 3,ob (B0 b) #[i6 3] 3,ob ((b 0).y 1) #[i6 8] 3,ob (B0 d) #[i6 5] 3,ob ((d 0).y 1) #[i6 8] 3] (by rewrite [←H];kernel_rfl) (r0 [(0,.l 2)] [(42,.bool (((p5 i:Nat):Int)==74))] [] ?_);refine cN ((p5 i:Nat):Int) 74 (λz p=>?_) λz p=>?_
  ·exact nx 6 _ ⟨rfl,rfl⟩ [0,1,2,3,4,5,6] (by clear H;obtain rfl:i=10:=Om;kernel_rfl)
  exact rs [(0,.l 1),(1,.l 2),(3,.c [0] [0] (x8 (B1 e) (p5 i) (UInt8.ofNat ((ch 5 256).getD i 0)) (bI i) (bR i) Om (by(simp only[LL,nj,n4,n7,n8,n9,jI,jJ];done)) (by(simp only[LL,nj,n4,n7,n8,n9,jI,jJ];done))))] 0 (ob (B1 e) (rB 74 ((bI i).set (p5 i) (UInt8.ofNat ((ch 5 256).getD i 0)))++rI 256 ((bR i).set (UInt8.ofNat ((ch 5 256).getD i 0)).toNat ((p5 i):Int))).toArray 298) (rs [(0,.l 2),(1,ad (p5 i) 1),(2,.s 2)] 2 (ob (B0 f) #[iN ((p5 i)+1)] 3) (ne _ ⟨⟨by omega,Om⟩,rfl⟩ [0,1,2,3,4,5,6] (by rw[show bI (i+1)=(bI i).set (p5 i) (UInt8.ofNat ((ch 5 256).getD i 0)) by rw[bI],show bR (i+1)=(bR i).set (UInt8.ofNat ((ch 5 256).getD i 0)).toNat ((p5 i:Nat):Int) by rw[bR],Mn (i:=i) Om];kernel_rfl)))
 ·exact absurd u (by rw[Mk];decide)
 obtain rfl:=P;exact r0 [(0,.l 1)] [(0,pt (B1 e) 0)] [0] (lf (.l [(e 1).y 0] [] []) [0] [] [])
end
section
open Go Go.RowKit Go.Shelf
attribute [local irreducible] pc bH
def fo(b:Bool):Int:=(bif b then 1 else 0)
theorem CP(b:Bool):aa WK 158 #[.bool b] [] [] N0 (λ_=>i6 (fo b)):=by
 refine fG Tryz.func158 λw c=>r0 [] [(2,i6 0)] [] (r0 [] [(3,.bool b)] [] ?_);refine cB (b) (λa=>?_) λa=>?_
 ·exact r0 [] [(2,i6 1)] [2] (ao (i6 1) ab.zero (by((try simp only[fo]);(repeat (first | rw[a] | rw[ALct])))<;>rfl) [] [] [])
 exact r0 [] [(2,i6 0)] [2] (ao (i6 0) ab.zero (by((try simp only[fo]);(repeat (first | rw[a] | rw[ALcf])))<;>rfl) [] [] [])
theorem Mq(x:Int)(h0: -9223372036854775808≤x)(h1:x≤9223372036854775807):aa WK 173 #[i6 x] [] [] N0 (λ_=> .agg (rB 3 ([aR x,aR (x/256),(aR (x/65536))&&& (127:UInt8)])).toArray):=by
 exact fG Tryz.func173 λw f=>ra (λe=>[(2,pt (B0 e) 0)]) (λe=>[ob (B0 e) (rB 3 (WJ 3 0)).toArray 262]) λe=>rs [(1,.t (tc (k:= .i64) (l:= .u8) (a:=i6 x) λ_ _ _ c d=>oB c d)),(3,.t (tv (av .shr 3 (.tmp 5) (.const (u6 8)) (i6 x) (u6 8)) (λ_=>iD 8 Dc))),(4,.t (tc (k:= .i64) (l:= .u8) (a:=i6 (x/256)) λ_ _ _ c d=>oB c d)),(6,.t (tv (av .shr 3 (.tmp 8) (.const (u6 16)) (i6 x) (u6 16)) (λ_=>iD 16 Dc))),(7,.t (tc (k:= .i64) (l:= .u8) (a:=i6 (x/65536)) λ_ _ _ c d=>oB c d)),(8,.t (tb (a:=u1 ((aR (x/65536)).toNat:Int)) (b:=u1 127) λ_ _ _ _=>wV (aR (x/65536)) ((127:UInt8)))),(10,.s 0)] 0 (ob (B0 e) (rB 3 ([aR x,aR (x/256),(aR (x/65536))&&& (127:UInt8)])).toArray 262) (lf ab.zero [] [] [0])
def dF(x:Int)(b:Bool):List UInt8:=(bif b then([aR x,aR (x/256),(aR (x/65536))&&& (127:UInt8)]).set 2 (((aR (x/65536))&&& (127:UInt8))||| (128:UInt8)) else[aR x,aR (x/256),(aR (x/65536))&&& (127:UInt8)])
theorem CQ(x:Int)(h0: -9223372036854775808≤x)(h1:x≤9223372036854775807)(b:Bool):aa WK 159 #[i6 x,.bool b] [] [] N0 (λ_=> .agg (rB 3 (dF x b)).toArray):=by
 refine fG Tryz.func159 λw g=>ra (λe=>[(4,pt (B0 e) 0)]) (λe=>[ob (B0 e) (rB 3 (WJ 3 0)).toArray 262]) λe=>rr (λ_=>[(1,.c [] [] (Mq x Om Om)),(3,.s 1)]) (λd=>[(5,pt (B2 d) 0)]) [] (λd L=>L++[ob (B2 d) (rB 3 ([aR x,aR (x/256),(aR (x/65536))&&& (127:UInt8)])).toArray 262]) λd=>r0 [] [(8,.bool b)] [] ?_;refine cJ (b) N0 (λc=>[ob (B0 e) (rB 3 (WJ 3 0)).toArray 262,ob (B2 d) (rB 3 (bif c then([aR x,aR (x/256),(aR (x/65536))&&& (127:UInt8)]).set 2 (((aR (x/65536))&&& (127:UInt8))||| (128:UInt8)) else[aR x,aR (x/256),(aR (x/65536))&&& (127:UInt8)])).toArray 262]) (λf=>?_) (λf=>?_) ?_
 ·refine rr (λ_=>[(1,.l 1),(2,.t (tb (a:=u1 (((aR (x/65536))&&& (127:UInt8)).toNat:Int)) (b:=u1 128) λ_ _ _ _=>HV ((aR (x/65536))&&& (127:UInt8)) ((128:UInt8)))),(4,.m (sw 1 (B2 d) 2 262 (u1 ((((aR (x/65536))&&& (127:UInt8))||| (128:UInt8)).toNat:Int)) (rB 3 ([aR x,aR (x/256),(aR (x/65536))&&& (127:UInt8)])).toArray (rB 3 (([aR x,aR (x/256),(aR (x/65536))&&& (127:UInt8)]).set 2 (((aR (x/65536))&&& (127:UInt8))||| (128:UInt8)))).toArray (mn (show([aR x,aR (x/256),(aR (x/65536))&&& (127:UInt8)]).length=3 by rfl)) (jV Dc)))]) N0 [] (λ_ L=>L.set 1 (ob (B2 d) (rB 3 (([aR x,aR (x/256),(aR (x/65536))&&& (127:UInt8)]).set 2 (((aR (x/65536))&&& (127:UInt8))||| (128:UInt8)))).toArray 262)) λh=>?_;exact cm Kr [0,1] Kr
 ·exact cm Kr [0,1] Kr
 exact rs [(0,.l 1),(1,.s 0)] 0 (ob (B0 e) (rB 3 (bif b then([aR x,aR (x/256),(aR (x/65536))&&& (127:UInt8)]).set 2 (((aR (x/65536))&&& (127:UInt8))||| (128:UInt8)) else[aR x,aR (x/256),(aR (x/65536))&&& (127:UInt8)])).toArray 262) (lf ab.zero [] [] [0])
theorem Mr{P:Program}{w:World}{S T:TypeId}(a:P.underlying S=some (.int .i64))(b:P.underlying T=some (.int .u32)){c:Nat}(d:c<4294967296):(convert S T (.int .i64 (c:Int))).run P w= .ok (.int .u32 (c:Int)) w:=by
 have h:IntKind.u32.wrap (c:Int)=(c:Int):=by rw[X9];omega
 simp only[convert,Xe,run_underlying a,run_underlying b,WW,Conv.intToInt,h,Xf]
theorem Ms{P:Program}{T:TypeId}{y z:Operand}{w:World}(x:Int):(av .and T y z (.int .i64 x) (.int .i64 8388607)).run P w= .ok (.int .i64 (((x%8388608).toNat:Nat):Int)) w:=by
 have h:=mA (P:=P) (T:=T) (y:=y) (z:=z) (w:=w) x 23 8388608 Dc Dc Dc Dc;rw[show(((x%8388608).toNat:Nat):Int)=x%((8388608:Nat):Int) by omega];exact h
theorem uJ(x:Int):aa WK 153 #[i6 x] [] [] N0 (λ_=>iN (pc ((x%8388608).toNat)%2)):=by
 exact fG Tryz.func153 λw a=>r0 [] [(2,i6 0)] [] (r0 [(1,.t (tv (av .and 3 (.tmp 3) (.const (i6 8388607)) (i6 x) (i6 8388607)) (λ_=>Ms x))),(2,.t (tv (convert 3 329 (iN ((x%8388608).toNat))) (λ_=>Mr Tryz.underlying3 Tryz.underlying329 Om))),(3,.c [] [] (JV ((x%8388608).toNat) Om))] [(2,iN (pc ((x%8388608).toNat)%2))] [2] (lf ab.zero [] [] []))
def jL(x:Nat):Nat→List UInt8
 | 0=>[]
 | k+1=>jL x k++[UInt8.ofNat (x/256^k)]
theorem nk(x k:Nat):(jL x k).length=k:=by
 induction k with
 | zero=>rfl
 | succ k ih=>rw[jL,WN,ih];rfl
theorem Mt(x k:Nat):x/256^(k+1)=x/256^k/2^8:=by rw[X5,Xg]
theorem Mu(x:Nat)(n:x<18446744073709551616):aa WK 156 #[u6 (x:Int)] [] [] (λE=>[bC (E.val 0) (jL x 8)]) (λE=>(E.val 0)):=by
 refine fG Tryz.func156 λw j=>r0 [] [(2,.slice none 0 0)] [] (r0 [] [(3,.slice none 0 0)] [] (r0 [] [(4,i6 0)] [] (cz kB ?_)));refine mw (λk _=>k≤8) (λk b=>[(0,u6 ((x/256^k:Nat):Int)),(4,iN k),(3,b)]) (λk b L=>L.set 0 (bC b (jL x k))) (λk _=>8-k) 0 (.slice none 0 0) Om (by rw[X4,Yf];kernel_rfl) Kr (λk b h=>?_);have i:=nk x k;refine r0 [] [(5,.bool (decide ((k:Int)<8)))] [] ?_;refine bW (k:Int) 8 (λe d=>?_) λe d=>?_
 ·exact rr (λ_=>[(2,.t (tc (k:= .u64) (l:= .u8) (a:=u6 ((x/256^k:Nat):Int)) λ_ _ _ f g=>tC f g)),(3,.m (bs 1 1)),(4,eT kB (b) (jL x k) 0 1 ([UInt8.ofNat (x/256^k)]))]) (λc=>[(3,(c 4).val 0)]) [3] (λc L=>L.set 0 (bC ((c 4).val 0) ((jL x k)++([UInt8.ofNat (x/256^k)])))++[ob (B3 c) #[u1 ((UInt8.ofNat (x/256^k)).toNat:Int)] 5]) λc=>r0 [(1,.t (tv (av .shr 44 (.tmp 11) (.const (u6 8)) (u6 ((x/256^k:Nat):Int)) (u6 8)) (λ_=>tA 8 Dc)))] [(0,u6 ((x/256^k/2^8:Nat):Int))] [0] (r0 [(0,ad k 1)] [(4,iN (k+1))] [4] (kQ (k+1) ((c 4).val 0) Om Om (by rw[Mt x k];kernel_rfl) [0] Kr))
 obtain rfl:k=8:=by omega
 refine kR ?_;exact r0 [] [(2,b)] [2] (lf (.l [] [] [b]) [0] [] [])
end
end E
section
open Go Go.RowKit Go.Shelf
def Wv(xs:List UInt8)(off:Nat):Nat→Nat
 | 0=>0
 | k+1=>Wv xs off k||| (xs.getD (off+k) 0).toNat*2^(8*k)
theorem uK{b:UInt8}{k:Nat}(d:k<8):b.toNat*2^(8*k)<18446744073709551616:=by
 have c:=b.toNat_lt;have a:2^(8*k)≤2^56:=XC Dc Om
 calc b.toNat*2^(8*k)≤255*2^56:=XV Om a
  _<18446744073709551616:=by decide
theorem Mv(xs:List UInt8)(off k:Nat):Wv xs off k<2^(8*k):=by
 induction k with
 | zero=>simp [Wv]
 | succ k ih=>
  have a:=(xs.getD (off+k) 0).toNat_lt;unfold Wv;refine Nat.or_lt_two_pow (Yi ih (XC Dc Om)) ?_;rw[show 8*(k+1)=8+8*k by omega,Nat.pow_add];exact Nat.mul_lt_mul_of_pos_right Om (Nat.pow_pos Dc)
theorem rH(xs:List UInt8)(off:Nat){k:Nat}(c:k≤8):Wv xs off k<18446744073709551616:=by
 have a:=Mv xs off k;have b:2^(8*k)≤2^64:=XC Dc Om;have:(2:Nat)^64=18446744073709551616:=by decide
 omega
def cq(N:Nat)(f:Nat→UInt8)(n:Nat):List UInt8:=(WV N).map λi=>if i<n then f i else 0
theorem mG(N:Nat)(f:Nat→UInt8)(n:Nat):(cq N f n).length=N:=by unfold cq;rw[Xo,Xh]
theorem Mw{N:Nat}{f:Nat→UInt8}{n:Nat}(h:n<N):(cq N f n).set n (f n)=cq N f (n+1):=by
 apply XK;intro i;rw[List.getElem?_set];rcases Xd i N with a | a
 ·unfold cq;simp only[Xo,Xh,XJ,X8 a,W7];by_cases e:n=i
  ·subst e;rw[ALifp rfl,ALifp h,ALifp Om]
  ·rw[ALifn e];by_cases b:i<n
   ·rw[ALifp b,ALifp Om]
   ·rw[ALifn b,ALifn Om]
 ·rw[W4 (l:=cq N f (n+1)) (by rw[mG];exact a),W4 (l:=cq N f n) (by rw[mG];exact a),mG];rw[ALifn Om]
theorem Mx(N:Nat)(f:Nat→UInt8):cq N f 0=WJ N 0:=by
 apply XK;intro i;rcases Xd i N with a | a
 ·unfold cq;simp [a]
 ·rw[W4 (by rw[mG];exact a),W4 (by simpa using a)]
end
namespace E
section
open Go Go.RowKit Go.Shelf
theorem ya(ys:List UInt8)(k:Nat):Wv ys 0 (k+1)=Wv ys 0 k||| (ys.getD k 0).toNat*2^(8*k):=by rw[Wv,W9]
theorem My(ys:List UInt8)(o k:Nat):Wv ys o (k+1)=Wv ys o k||| (ys.getD (o+k) 0).toNat*2^(8*k):=rfl
theorem CR(ys:List UInt8)(o:Nat):Wv ys o 0=0:=rfl
theorem Mz{P:Program}{T:TypeId}{x y:Operand}{w:World}{ys:List UInt8}{k:Nat}(a:k<8):(av .or T x y (.int .u64 ((Wv ys 0 k:Nat):Int)) (.int .u64 (((ys.getD k 0).toNat*2^(8*k):Nat):Int))).run P w= .ok (.int .u64 ((Wv ys 0 (k+1):Nat):Int)) w:=by
 rw[ya];exact AN (rH _ _ Om) (uK a)
theorem MA{P:Program}{T:TypeId}{x y:Operand}{w:World}{ys:List UInt8}{o k:Nat}(a:k<8):(av .or T x y (.int .u64 ((Wv ys o k:Nat):Int)) (.int .u64 (((ys.getD (o+k) 0).toNat*2^(8*k):Nat):Int))).run P w= .ok (.int .u64 ((Wv ys o (k+1):Nat):Int)) w:=by
 rw[My];exact AN (rH _ _ Om) (uK a)
attribute [local irreducible] Wv
theorem MB(v:Value)(ys:List UInt8)(j:ys.length=8):aa WK 228 #[v] [.p (aG eB v ys)] [] N0 (λ_=>u6 ((Wv ys 0 8:Nat):Int)):=by
 refine fO Tryz.func228 0 rfl λd b=>fG Tryz.func228 λw i=>r0 [] [(2,u6 0)] [] (r0 [] [(3,u6 0)] [] (r0 [(1,du b.1 0)] [(6,v),(7,iN ys.length),(8,i6 0)] [] ?_));refine lq (λk=>k≤8) (λk=>[(3,u6 ((Wv ys 0 k:Nat):Int)),(8,iN k)]) (λ_ L=>L) (λk=>8-k) 0 Om (by rw[CR];kernel_rfl) Kr (λk h=>?_);refine r0 [] [(9,.bool (decide ((k:Int)<(ys.length:Int))))] [] ?_;refine bW (k:Int) (ys.length:Int) (λe c=>?_) λe c=>?_
 ·exact r0 [(1,eU b.1 0 k 1),(2,iG kB b.1 0 k 0)] [(4,iN k),(5,u1 ((ys.getD k 0).toNat:Int))] [] (r0 [(2,.t (tc (k:= .u8) (l:= .u64) (a:=u1 ((ys.getD k 0).toNat:Int)) λ_ _ _ f g=>AO f g)),(4,ml 8 k),(5,.t (tv (convert 3 201 (iN (8*k))) (λ_=>m4 Tryz.underlying3 Tryz.underlying201 Om))),(6,.t (tv (av .shl 44 (.tmp 15) (.tmp 18) (u6 ((ys.getD k 0).toNat:Int)) (u6 ((8*k:Nat):Int))) (λ_=>tB (8*k) Om (uK Om)))),(7,.t (tv (av .or 44 (.tmp 13) (.tmp 19) (u6 ((Wv ys 0 k:Nat):Int)) (u6 (((ys.getD k 0).toNat*2^(8*k):Nat):Int))) (λ_=>Mz Om)))] [(3,u6 ((Wv ys 0 (k+1):Nat):Int))] [3] (r0 [(0,ad k 1)] [(8,iN (k+1))] [8] (le (k+1) Om Om Kr [0] Kr)))
 obtain rfl:k=8:=by omega
 exact lx (r0 [] [(2,u6 ((Wv ys 0 8:Nat):Int))] [2] (lf ab.zero [] [(0,0)] []))
theorem MC(l:List UInt8)(i:l.length=64)(q:Nat)(j:q<8):aa WK 201 #[.agg (rB 64 l).toArray,iN q] [] [] N0 (λ_=>u6 ((Wv l (8*q) 8:Nat):Int)):=by
 refine fG Tryz.func201 λw h=>ra (λb=>[(2,pt (B0 b) 0),(4,u6 0)]) (λb=>[ob (B0 b) (rB 64 l).toArray 43]) λb=>r0 [] [(5,u6 0)] [] (r0 [] [(7,i6 0)] [] ?_);refine lq (λk=>k≤8) (λk=>[(5,u6 ((Wv l (8*q) k:Nat):Int)),(7,iN k)]) (λ_ L=>L) (λk=>8-k) 0 Om (by rw[CR];kernel_rfl) Kr (λk g=>?_);refine r0 [] [(8,.bool (decide ((k:Int)<8)))] [] ?_;refine bW (k:Int) 8 (λd c=>?_) λd c=>?_
 ·exact r0 [] [(6,iN k)] [] (r0 [(0,.v (u6 ((Wv l (8*q) k:Nat):Int))),(1,.v (iN q)),(2,ml 8 q),(3,.v (iN k)),(4,ad (8*q) k),(5,iA 43 .i64 (B0 b) 0 64 1 ((8*q)+k)),(6,rD 0 (B0 b) ((8*q)+k) 43 (rB 64 l) (nU Om)),(7,.t (tc (k:= .u8) (l:= .u64) (a:=u1 ((l.getD ((8*q)+k) 0).toNat:Int)) λ_ _ _ e f=>AO e f)),(8,.v (iN k)),(9,ml 8 k),(10,.t (tv (convert 3 201 (iN (8*k))) (λ_=>m4 Tryz.underlying3 Tryz.underlying201 Om))),(11,.t (tv (av .shl 44 (.tmp 17) (.tmp 20) (u6 ((l.getD ((8*q)+k) 0).toNat:Int)) (u6 ((8*k:Nat):Int))) (λ_=>tB (8*k) Om (uK Om)))),(12,.t (tv (av .or 44 (.tmp 10) (.tmp 21) (u6 ((Wv l (8*q) k:Nat):Int)) (u6 (((l.getD (8*q+k) 0).toNat*2^(8*k):Nat):Int))) (λ_=>MA Om))),(13,.v (u6 ((Wv l (8*q) (k+1):Nat):Int)))] [(5,u6 ((Wv l (8*q) (k+1):Nat):Int))] [5] (r0 [(0,ad k 1)] [(7,iN (k+1))] [7] (le (k+1) Om Om Kr [0] Kr)))
 obtain rfl:k=8:=by omega
 exact lx (r0 [] [(4,u6 ((Wv l (8*q) 8:Nat):Int))] [4] (lf ab.zero [] [] []))
theorem ME(b:Nat)(l:List UInt8)(o:l.length=64):e4 5 WK 200 #[pt b 0] (λ(x:Nat×Nat)=>#[i6 (x.1:Int),u6 (x.2:Int)]) ((WV 8).map λk=>(k,Wv l (8*k) 8)) (Xk [[(b,.cells (rB 64 l).toArray 43 (0,0))]]):=by
 refine gi (KO:=[[(b,.cells (rB 64 l).toArray 43 (0,0))]]) Tryz.func200 (λp r q v t f m j=>?_);refine r0 [] [(4,i6 0)] [] ?_;refine jX (λk=>k≤8) (λk=>[(4,iN k)]) (λ_ L=>L) (λk=>8-k) (λk=>k) 0 Om j Kr Kr (λk s u n d=>?_);refine r0 [] [(5,.bool (decide ((k:Int)<8)))] [] ?_;refine bW (k:Int) 8 (λi e=>?_) λi e=>?_
 ·refine r0 [] [(3,iN k)] [] ?_;refine iy f m d 5 (λ_=>[(2,.l 0),(4,.c [] [] (MC l (by(simp only[LL,o];done)) k Om))]) (λ_=>[(7,.func (.yield p) #[] #[]),(8,iN k),(11,u6 ((Wv l (8*k) 8:Nat):Int))]) [] (λ_ L=>L) N0 [0] (nS Om) (λw g h a=>?_);refine cF _ rfl (r0 [(0,ad k 1)] [(4,iN (k+1))] [4] ?_);exact iI (k+1) Om a Om Kr [0] Kr
 obtain rfl:k=8:=by omega
 refine jY ?_;exact kT f d bg [] [0]
theorem MF(l:List UInt8)(c:l.length=64):aa WK 154 #[.agg (rB 64 l).toArray] [] [] (λE=>[ob (E.y 0) (rB 64 l).toArray 43]) (λE=> .func (.func 200) #[] #[pt ((E.y 0)) 0]):=by
 exact fG Tryz.func154 λw b=>ra (λa=>[(1,pt (B0 a) 0),(2,.nilFunc)]) (λa=>[ob (B0 a) (rB 64 l).toArray 43]) λa=>r0 [] [(2,.func (.func 200) #[] #[pt (B0 a) 0])] [2] (lf (.l [(a 0).y 0] [] []) [0] [] [])
theorem MG(l:List UInt8)(c:l.length=64):aa WK 160 #[.agg (rB 64 l).toArray] [] [] (λE=>[ob (E.y 0) (rB 64 l).toArray 43]) (λE=> .func (.func 202) #[] #[pt ((E.y 0)) 0]):=by
 exact fG Tryz.func160 λw b=>ra (λa=>[(1,pt (B0 a) 0),(2,.nilFunc)]) (λa=>[ob (B0 a) (rB 64 l).toArray 43]) λa=>r0 [] [(2,.func (.func 202) #[] #[pt (B0 a) 0])] [2] (lf (.l [(a 0).y 0] [] []) [0] [] [])
theorem MI(b:Nat)(l:List UInt8)(o:l.length=64):e4 5 WK 202 #[pt b 0] (λ(x:Nat×List UInt8)=>#[i6 (x.1:Int),.agg (rB 32 x.2).toArray]) ((WV 2).map λk=>(k,(l.drop (32*k)).take 32)) (Xk [[(b,.cells (rB 64 l).toArray 43 (0,0))]]):=by
 refine gi (KO:=[[(b,.cells (rB 64 l).toArray 43 (0,0))]]) Tryz.func202 (λp r q w u e j i=>?_);refine r0 [] [(4,i6 0)] [] ?_;refine jX (λk=>k≤2) (λk=>[(4,iN k)]) (λ_ L=>L) (λk=>2-k) (λk=>k) 0 Om i Kr Kr (λk s v n c=>?_);refine r0 [] [(5,.bool (decide ((k:Int)<2)))] [] ?_;refine bW (k:Int) 2 (λh d=>?_) λh d=>?_
 ·refine r0 [] [(3,iN k)] [] ?_;refine iy e j c 7 (λ_=>[(3,ml 32 k),(4,aL 43 b 64 1 (32*k)),(5,.t (tv (Instr.arrayAt 267 (.slice (some ⟨b,(32*k)*1,none⟩) (64-(32*k)) (64-(32*k)))) (λ_=>run_arrayAt _ 267 5 32 _ _ _ Tryz.underlying267 Om))),(6,.m (lg 0 b ((32*k)*1) (rB 64 l).toArray 43 (rB 32 ((l.drop (32*k)).take 32)) (w1 (λ_=>rfl) o Om)))]) (λ_=>[(7,.func (.yield p) #[] #[]),(8,iN k),(13,.agg (rB 32 ((l.drop (32*k)).take 32)).toArray)]) [] (λ_ L=>L) N0 [0] (nS Om) (λy f g a=>?_);refine cF _ rfl (r0 [(0,ad k 1)] [(4,iN (k+1))] [4] ?_);exact iI (k+1) Om a Om Kr [0] Kr
 obtain rfl:k=2:=by omega
 refine jY ?_;exact kT e c bg [] [0]
end
section
open Go Go.RowKit Go.Shelf
theorem oY(m:Int):aa WK 71 #[i6 m] [] [] N0 (λ_=> .bool ((m==1)||(m==2))):=by
 exact fG Tryz.func71 λw a=>r0 [] [(2,.bool false)] [] (r0 [] [(2,.bool ((m==1)||(m==2)))] [2] (lf ab.zero [] [] []))
theorem uL:aa WK 75 #[i6 1] [] [] N0 (λ_=>i6 9):=by
 exact fG Tryz.func75 λw a=>r0 [] [(2,i6 0)] [] (r0 [] [(3,i6 1)] [] (rT [] 4 (r0 [] [(2,i6 9)] [2] (ao (i6 9) ab.zero bg [] [] []))))
theorem uM:aa WK 75 #[i6 2] [] [] N0 (λ_=>i6 36):=by
 exact fG Tryz.func75 λw a=>r0 [] [(2,i6 0)] [] (r0 [] [(3,i6 2)] [] (rF [] 4 (rT [] 6 (r0 [] [(2,i6 36)] [2] (ao (i6 36) ab.zero bg [] [] [])))))
theorem yb:aa WK 192 #[i6 1] [] [] N0 (λ_=>i6 8):=by
 refine fG Tryz.func192 λw f=>r0 [] [(2,i6 0)] [] (r0 [(1,.c [] [] (oY 1))] [(5,.bool (!((1==1)||(1==2))))] [] ?_);have e:(!((1==1)||(1==2)))=false:=by decide
 exact cF (!((1==1)||(1==2))) e (r0 [(1,.c [] [] (uL)),(2,.t (tb (a:=i6 72) (b:=i6 9) λ_ _ _ _=>oK (a:=72) (d:=9) Dc Om))] [(2,iN (72/9))] [2] (ao (iN (72/9)) ab.zero bg [] [] []))
theorem yc:aa WK 192 #[i6 2] [] [] N0 (λ_=>i6 2):=by
 refine fG Tryz.func192 λw f=>r0 [] [(2,i6 0)] [] (r0 [(1,.c [] [] (oY 2))] [(5,.bool (!((2==1)||(2==2))))] [] ?_);have e:(!((2==1)||(2==2)))=false:=by decide
 exact cF (!((2==1)||(2==2))) e (r0 [(1,.c [] [] (uM)),(2,.t (tb (a:=i6 72) (b:=i6 36) λ_ _ _ _=>oK (a:=72) (d:=36) Dc Om))] [(2,iN (72/36))] [2] (ao (iN (72/36)) ab.zero bg [] [] []))
theorem CS{α:Type}{en:α→List Value}{d:α}{a l m c N:Nat}{ys:List α}{t:TypeId}(h1: ∀x,(en x).length=1)(h:ys.length=N)(b:l+m≤N):SrE en (.slice (some ⟨a,l*1,none⟩) m c) ((ys.drop l).take m) [(a,.cells ((cI en d N ys).toArray) t (0,0))]:=
 .inr ⟨a,l*1,_,t,(0,0),c,by rw[show((ys.drop l).take m).length=m by rw[WZ,Xl];omega],by simp,A1 (d:=d) h1 h b⟩
theorem CT(xs:List UInt8)(d:xs.length=72)(q:Nat)(g:q<8):aa WK 194 #[.agg (rB 72 xs).toArray,i6 1,iN q] [] [] (λE=>[bC (E.val 0) ((xs.drop (9*q)).take 9)]) (λE=>(E.val 0)):=by
 refine fG Tryz.func194 λw f=>ra (λa=>[(3,pt (B0 a) 0),(6,.slice none 0 0)]) (λa=>[ob (B0 a) (rB 72 xs).toArray 217]) λa=>r0 [(5,.c [] [] (yb))] [(15,.bool ((decide ((q:Int)<0))||(decide (8≤(q:Int)))))] [] ?_;have e:((decide ((q:Int)<0))||(decide (8≤(q:Int))))=false:=by rw[bf Om,bf Om];rfl
 exact cF ((decide ((q:Int)<0))||(decide (8≤(q:Int)))) e (r0 [(1,.c [] [] (uL))] [(7,i6 9)] [] (rr (λb=>[(0,.m (qU 1 eB ([u1 0]) 5)),(3,ml 9 q),(6,ml 9 q),(8,ad (9*q) 9),(9,aM 217 (B0 a) 72 1 (9*q) 9),(10,.m (mo 1 0 oM (.slice (some ⟨(b 0).y 0,0,none⟩) 0 0) (.slice (some ⟨(a 0).y 0,(9*q)*1,none⟩) 9 (72-(9*q))) (xs:=[]) (ys:=(xs.drop (9*q)).take 9) (ob (B0 a) (rB 72 xs).toArray 217) (λ_ h=>by rw[show _=_ from h];exact CS (λ_=>rfl) d Om) oL (λ_=>rfl) (by simp only[LL,d];omega)))]) (λb=>[(6,(b 10).val 0)]) [6] (λb L=>L++[bC ((b 10).val 0) ([]++((xs.drop (9*q)).take 9))]) λb=>lf (.l [] [] [(b 10).val 0]) [1] [] [] (hf:=by kernel_rfl)))
theorem CU(xs:List UInt8)(d:xs.length=72)(q:Nat)(g:q<2):aa WK 194 #[.agg (rB 72 xs).toArray,i6 2,iN q] [] [] (λE=>[bC (E.val 0) ((xs.drop (36*q)).take 36)]) (λE=>(E.val 0)):=by
 refine fG Tryz.func194 λw f=>ra (λa=>[(3,pt (B0 a) 0),(6,.slice none 0 0)]) (λa=>[ob (B0 a) (rB 72 xs).toArray 217]) λa=>r0 [(5,.c [] [] (yc))] [(15,.bool ((decide ((q:Int)<0))||(decide (2≤(q:Int)))))] [] ?_;have e:((decide ((q:Int)<0))||(decide (2≤(q:Int))))=false:=by rw[bf Om,bf Om];rfl
 exact cF ((decide ((q:Int)<0))||(decide (2≤(q:Int)))) e (r0 [(1,.c [] [] (uM))] [(7,i6 36)] [] (rr (λb=>[(0,.m (qU 1 eB ([u1 0]) 5)),(3,ml 36 q),(6,ml 36 q),(8,ad (36*q) 36),(9,aM 217 (B0 a) 72 1 (36*q) 36),(10,.m (mo 1 0 oM (.slice (some ⟨(b 0).y 0,0,none⟩) 0 0) (.slice (some ⟨(a 0).y 0,(36*q)*1,none⟩) 36 (72-(36*q))) (xs:=[]) (ys:=(xs.drop (36*q)).take 36) (ob (B0 a) (rB 72 xs).toArray 217) (λ_ h=>by rw[show _=_ from h];exact CS (λ_=>rfl) d Om) oL (λ_=>rfl) (by simp only[LL,d];omega)))]) (λb=>[(6,(b 10).val 0)]) [6] (λb L=>L++[bC ((b 10).val 0) ([]++((xs.drop (36*q)).take 36))]) λb=>lf (.l [] [] [(b 10).val 0]) [1] [] [] (hf:=by kernel_rfl)))
theorem MJ(xs ys:List UInt8)(v:Value)(g:xs.length=72)(q:Nat)(j:q<8)(h:ys.length=9):aa WK 155 #[.agg (rB 72 xs).toArray,i6 1,iN q,v] [.p (aG eB v ys)] [] N0 (λ_=> .agg (rB 72 (xs.take (9*q)++ys++xs.drop ((9*q)+ys.length))).toArray):=by
 refine fO Tryz.func155 0 rfl λe b=>fG Tryz.func155 λw i=>ra (λa=>[(4,pt (B0 a) 0),(8,pt (B1 a) 0)]) (λa=>[ob (B0 a) (rB 72 xs).toArray 217,ob (B1 a) (rB 72 (WJ 72 0)).toArray 217]) λa=>r0 [(1,.c [] [] (uL))] [(9,i6 9)] [] (r0 [(5,.c [] [] (yb)),(10,du b.1 0),] [(25,.bool (((decide (0≤(q:Int)))&&(decide ((q:Int)<8)))&&((ys.length:Int)==9)))] [] ?_);have f:(((decide (0≤(q:Int)))&&(decide ((q:Int)<8)))&&((ys.length:Int)==9))=true:=by rw[cD Om,cD Om];simp [h]
 exact cT (((decide (0≤(q:Int)))&&(decide ((q:Int)<8)))&&((ys.length:Int)==9)) f (rs [(2,ml 9 q),(3,aL 217 (B0 a) 72 1 (9*q)),(5,.m (uv kB 1 (B0 a) ((9*q)*1) (72-(9*q)) (72-(9*q)) (rB 72 xs).toArray (rB 72 (xs.take (9*q)++ys++xs.drop ((9*q)+ys.length))).toArray 217 191 191 0 (.c e) v ys (cP b.1) Om (by rw[WQ,ku];omega) (by rw[Xc];exact ALca X0 (qQ (d:=0) (λ_=>rfl) g rfl Om))))] 1 (ob (B0 a) (rB 72 (xs.take (9*q)++ys++xs.drop ((9*q)+ys.length))).toArray 217) (rs [(0,.l 1),(1,.s 2)] 2 (ob (B1 a) (rB 72 (xs.take (9*q)++ys++xs.drop ((9*q)+ys.length))).toArray 217) (lf ab.zero [] [(0,0)] [2])))
theorem MK(xs ys:List UInt8)(v:Value)(g:xs.length=72)(q:Nat)(j:q<2)(h:ys.length=36):aa WK 155 #[.agg (rB 72 xs).toArray,i6 2,iN q,v] [.p (aG eB v ys)] [] N0 (λ_=> .agg (rB 72 (xs.take (36*q)++ys++xs.drop ((36*q)+ys.length))).toArray):=by
 refine fO Tryz.func155 0 rfl λe b=>fG Tryz.func155 λw i=>ra (λa=>[(4,pt (B0 a) 0),(8,pt (B1 a) 0)]) (λa=>[ob (B0 a) (rB 72 xs).toArray 217,ob (B1 a) (rB 72 (WJ 72 0)).toArray 217]) λa=>r0 [(1,.c [] [] (uM))] [(9,i6 36)] [] (r0 [(5,.c [] [] (yc)),(10,du b.1 0),] [(25,.bool (((decide (0≤(q:Int)))&&(decide ((q:Int)<2)))&&((ys.length:Int)==36)))] [] ?_);have f:(((decide (0≤(q:Int)))&&(decide ((q:Int)<2)))&&((ys.length:Int)==36))=true:=by rw[cD Om,cD Om];simp [h]
 exact cT (((decide (0≤(q:Int)))&&(decide ((q:Int)<2)))&&((ys.length:Int)==36)) f (rs [(2,ml 36 q),(3,aL 217 (B0 a) 72 1 (36*q)),(5,.m (uv kB 1 (B0 a) ((36*q)*1) (72-(36*q)) (72-(36*q)) (rB 72 xs).toArray (rB 72 (xs.take (36*q)++ys++xs.drop ((36*q)+ys.length))).toArray 217 191 191 0 (.c e) v ys (cP b.1) Om (by rw[WQ,ku];omega) (by rw[Xc];exact ALca X0 (qQ (d:=0) (λ_=>rfl) g rfl Om))))] 1 (ob (B0 a) (rB 72 (xs.take (36*q)++ys++xs.drop ((36*q)+ys.length))).toArray 217) (rs [(0,.l 1),(1,.s 2)] 2 (ob (B1 a) (rB 72 (xs.take (36*q)++ys++xs.drop ((36*q)+ys.length))).toArray 217) (lf ab.zero [] [(0,0)] [2])))
end
section
open Go Go.RowKit Go.Shelf
def jM(a:List Nat)(i:Nat):UInt8:=UInt8.ofNat (a.getD (i/8) 0/2^(8*(i%8)))
theorem ML{a:List Nat}{k j:Nat}(b:j<8):jM a (8*k+j)=UInt8.ofNat (a.getD k 0/2^(8*j)):=by
 unfold jM;rw[show(8*k+j)/8=k by omega,show(8*k+j)%8=j by omega]
attribute [local irreducible] cq
theorem MM(b:List Nat)(x:b.length=8)(v: ∀i,b.getD i 0<18446744073709551616):aa WK 196 #[.agg (rW 8 b).toArray] [] [] N0 (λ_=> .agg (rB 64 (cq 64 (jM b) (8*8))).toArray):=by
 refine fG Tryz.func196 λw u=>ra (λd=>[(1,pt (B0 d) 0),(2,pt (B1 d) 0)]) (λd=>[ob (B0 d) (rW 8 b).toArray 320,ob (B1 d) (rB 64 z6).toArray 43]) λd=>ra (λc=>[(3,pt (B0 c) 0)]) (λc=>[ob (B0 c) (rB 64 z6).toArray 43]) λc=>r0 [(0,.l 0)] [(7,.agg (rW 8 b).toArray),(8,i6 0)] [] ?_;refine lq (λk=>k≤8) (λk=>[(8,iN k)]) (λk L=>L.set 2 (ob (B0 c) (rB 64 (cq 64 (jM b) (8*k))).toArray 43)) (λk=>8-k) 0 Om Kr (by rw[Yz,Mx];kernel_rfl) (λk q=>?_);refine r0 [] [(9,.bool (decide ((k:Int)<8)))] [] ?_;refine bW (k:Int) 8 (λm g=>?_) λm g=>?_
 ·refine r0 [(1,.t (tv (Instr.index 320 (.agg (rW 8 b).toArray) (iN k)) (λ_=>Hi (n:=8) (e:=44) Tryz.underlying320 Om (λ_=>by kernel_rfl) Kr (H5 Om))))] [(4,iN k),(5,u6 ((b.getD k 0:Nat):Int))] [] (r0 [] [(12,i6 0)] [] ?_);refine lq (λj=>j≤8) (λj=>[(12,iN j)]) (λj L=>L.set 2 (ob (B0 c) (rB 64 (cq 64 (jM b) (8*k+j))).toArray 43)) (λj=>8-j) 0 Om Kr Kr (λj r=>?_);refine r0 [] [(13,.bool (decide ((j:Int)<8)))] [] ?_;refine bW (j:Int) 8 (λh f=>?_) λh f=>?_
  ·exact r0 [] [(6,iN j)] [] (rs [(1,ml 8 k),(3,ad (8*k) j),(6,ml 8 j),(7,.t (tv (convert 3 201 (iN (8*j))) (λ_=>m4 Tryz.underlying3 Tryz.underlying201 Om))),(8,.t (tv (av .shr 44 (.tmp 19) (.tmp 22) (u6 ((b.getD k 0:Nat):Int)) (u6 ((8*j:Nat):Int))) (λ_=>tA (8*j) Om))),(9,.t (tc (k:= .u64) (l:= .u8) (a:=u6 ((b.getD k 0/2^(8*j):Nat):Int)) λ_ _ _ o p=>tC o p)),(10,iA 43 .i64 (B0 c) 0 64 1 ((8*k)+j)),(11,wD 2 (B0 c) ((8*k)+j) 43 (u1 ((UInt8.ofNat (b.getD k 0/2^(8*j))).toNat:Int)) (rB 64 (cq 64 (jM b) (8*k+j))) (rB 64 ((cq 64 (jM b) (8*k+j)).set ((8*k)+j) (UInt8.ofNat (b.getD k 0/2^(8*j))))) (jV Om) (mn (mG ..)))] 2 (ob (B0 c) (rB 64 ((cq 64 (jM b) (8*k+j)).set ((8*k)+j) (UInt8.ofNat (b.getD k 0/2^(8*j))))).toArray 43) (r0 [(0,ad j 1)] [(12,iN (j+1))] [12] (le (j+1) Om Om Kr [0,1,2] (by rw[←Yx,←Mw Om,ML Om];kernel_rfl))))
  obtain rfl:j=8:=by omega
  exact lx (r0 [(0,ad k 1)] [(8,iN (k+1))] [8] (le (k+1) Om Om Kr [0,1,2] Kr))
 obtain rfl:k=8:=by omega
 exact lx (rs [(0,.l 2),(1,.s 1)] 1 (ob (B1 d) (rB 64 (cq 64 (jM b) (8*8))).toArray 43) (lf ab.zero [] [] [1]))
end
section
open Go Go.RowKit Go.Shelf
attribute [local irreducible] bI bR c8 aT aW
theorem MN:aa WK 115 #[] [] [] (λE=>[ob (E.y 0) #[pt ((E.y 1)) 0,pt ((E.y 2)) 0] 242,ob (E.y 1) (rB 74 (bI 10)++rI 256 (bR 10)).toArray 298,ob (E.y 2) #[pt ((E.y 3)) 0,(E.val 0)] 309,ob (E.y 3) (rB 255 aT++rN 256 aW).toArray 312,bC (E.val 0) c8]) (λE=>pt ((E.y 0)) 0):=by
 exact fG Tryz.func115 λw b=>r0 [] [(0,.pointer none)] [] (rr (λa=>[(0,.c [] [0] (Mo)),(1,.c [] [1] (Kp)),(2,.c [1] [2,3] (LU (B1 a)))]) (λa=>[(0,pt (B4 a) 0)]) [0] (λa L=>L++[ob (B0 a) (rB 74 (bI 10)++rI 256 (bR 10)).toArray 298,ob (B1 a) (rB 255 aT++rN 256 aW).toArray 312,ob (B2 a) #[pt ((B1 a)) 0,((a 2).val 0)] 309,bC ((a 2).val 0) c8,ob (B4 a) #[pt ((B0 a)) 0,pt ((B2 a)) 0] 242]) λa=>lf (.l [(a 4).y 0,(B0 a),(B2 a),(B1 a)] [] [((a 2).val 0)]) [4,0,2,1,3] [] [])
end
end E
end Go.Proofs.YtbcodenfkijdnaaGreat
