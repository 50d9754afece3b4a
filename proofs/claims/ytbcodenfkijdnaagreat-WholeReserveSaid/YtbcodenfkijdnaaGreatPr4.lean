/- WholeReserve, in 6 texts: part 4. For every input; no condition. -/
import Derived.Test.YtbcodenfkijdnaaGreatPr3
set_option linter.unusedVariables false
set_option linter.unusedSimpArgs false
set_option maxRecDepth 100000
namespace Go.Proofs.YtbcodenfkijdnaaGreat
open Go Go.RowKit Go.Shelf
open Go.Proofs.Tryz renaming prog→VA
open List renaming replicate→VB,length_append→VC,getD_eq_getElem?_getD→VD,length_replicate→VE,getElem?_eq_getElem→VF,length_set→VH,length_take→VI,length_map→VJ,length_drop→VO,length_eraseIdx→VP,append_assoc→VR,range→VS,length_range→VT,not_mem_nil→VV,take_add_one→VX,take_length→VY,drop_eq_getElem_cons→V1,take_zero→V2,mem_or_eq_of_mem_set→V3,set_append_right→V5,toList_toArray→V8,getElem?_drop→Wc,foldl_append→We,length_cons→Wg,length_tail→Wh,mem_cons→Wi,map_cons→Wk,flatten→Wl
open Nat renaming le_trans→VG,succ_le_succ→VL,zero_le→VN,le_refl→VQ,le_succ_of_le→VU,lt_succ_self→VZ,mul_assoc→V4,mul_comm→V7,mul_le_mul_right→V9,lt_succ_of_lt→Wf,mul_succ→Wo
open Bool renaming and_eq_true→VK,or_eq_false_iff→VW,or_eq_true→V0,true_and→Wj
open Int renaming natCast_mul→VM,toNat_of_nonneg→Wd
open Classical renaming choose→V6
open Go.Result renaming andThen_ok→Wb
open Go.Sem renaming run_bind→Wm,run_pure→Wn
namespace E
theorem OM(g:Nat)(c:Lg)(x:Re)(d:fI c)(j:c.l.length≠c.I):aa VA 235 #[pt g 0,.agg #[iN x.s,iN x.t,iN x.k,iN x.i,iN x.o]] [pk (aA g c)] [0] (λ_=>[pk (aA g {c with l:=c.l++[iQ x c.next],next:=c.next+1})]) (λ_=> .tuple #[.agg #[iN c.next,iN x.t,iN x.k,iN x.i,iN x.o],.bool true]):=aa.pkZ Tryz.func235 λL e=>by
 obtain⟨v,rfl⟩:=e;refine⟨[0,1],λE=>[ob g #[(E.val 0),iN c.I,iN (c.next+1),.bool c.lost] 124,gw (E.val 0) (c.l++([(⟨c.next,x.t,x.k,x.i,x.o⟩:Re)]))],?_,rfl,λE=>⟨rfl,rfl,⟨_,rfl⟩⟩⟩;have f:=d.l;have k:=d.r;have i:=d.n;exact fG Tryz.func235 λw cs=>ra (λa=>[(3,pt (B0 a) 0),(4,pt (B1 a) 0),(5,.bool false)]) (λa=>[ob (B0 a) #[iN x.s,iN x.t,iN x.k,iN x.i,iN x.o] 59,ob (B1 a) #[i6 0,i6 0,i6 0,i6 0,i6 0] 59]) λa=>rs [(3,.l 0),(5,.s 2)] 2 (ob (B0 a) #[iN c.next,iN x.t,iN x.k,iN x.i,iN x.o] 59) (rs [(3,.l 0),(4,ad c.next 1),(7,.s 0)] 0 (ob g #[v,iN c.I,iN (c.next+1),.bool c.lost] 124) (rF [(3,.l 0),(4,e8 gN v c.l 1),(8,.l 0),(9,.t (tk (show Value.bool ((c.l.length:Int)==(c.I:Int))= .bool false from ALca Value.bool (by rw[dP];omega))))] 28 (rr (λb=>[(4,.l 0),(5,.l 2),(6,.m (bs 4 1)),(7,fp gN (v) c.l 1 4 ([(⟨c.next,x.t,x.k,x.i,x.o⟩:Re)])),(10,.m (fz 0 1 (gw ((b 7).val 0) (c.l++([(⟨c.next,x.t,x.k,x.i,x.o⟩:Re)]))) ((b 7).val 0) λbs h=>ar.one ((λ_ h=>h) bs h)))]) N0 [] (λb L=>(L.set 0 (ob g #[(b 7).val 0,iN c.I,iN (c.next+1),.bool c.lost] 124)).set 1 (gw ((b 7).val 0) (c.l++([(⟨c.next,x.t,x.k,x.i,x.o⟩:Re)])))++[ob (B6 b) #[iN c.next,iN x.t,iN x.k,iN x.i,iN x.o] 59]) λb=>rr (λ_=>[(0,.l 2),(1,.s 3)]) (λ_=>[(5,.bool true)]) [5] (λ_ L=>L.set 3 (ob (B1 a) #[iN c.next,iN x.t,iN x.k,iN x.i,iN x.o] 59)) λn=>lf (.l [] [] [(b 7).val 0]) [0,1] [] [3])))
theorem ON(g:Nat)(c:Lg)(x:Re)(b:fI c)(f:c.l.length=c.I)(i:cq x=true):aa VA 235 #[pt g 0,.agg #[iN x.s,iN x.t,iN x.k,iN x.i,iN x.o]] [pk (aA g c)] [0] (λ_=>[pk (aA g {c with next:=c.next+1,lost:=true})]) (λ_=> .tuple #[.agg #[iN c.next,iN x.t,iN x.k,iN x.i,iN x.o],.bool false]):=aa.pkZ Tryz.func235 λL e=>by
 obtain⟨v,rfl⟩:=e;refine⟨[0,1],λ_=>[ob g #[v,iN c.I,iN (c.next+1),.bool true] 124,gw v c.l],?_,rfl,λE=>⟨rfl,rfl,⟨_,rfl⟩⟩⟩;have j:=b.l;have n:=b.r;have m:=b.n;refine fG Tryz.func235 λw cs=>ra (λa=>[(3,pt (B0 a) 0),(4,pt (B1 a) 0),(5,.bool false)]) (λa=>[ob (B0 a) #[iN x.s,iN x.t,iN x.k,iN x.i,iN x.o] 59,ob (B1 a) #[i6 0,i6 0,i6 0,i6 0,i6 0] 59]) λa=>rs [(3,.l 0),(5,.s 2)] 2 (ob (B0 a) #[iN c.next,iN x.t,iN x.k,iN x.i,iN x.o] 59) (rs [(3,.l 0),(4,ad c.next 1),(7,.s 0)] 0 (ob g #[v,iN c.I,iN (c.next+1),.bool c.lost] 124) (rT [(3,.l 0),(4,e8 gN v c.l 1),(8,.l 0),(9,.t (tk (show Value.bool ((c.l.length:Int)==(c.I:Int))= .bool true from ALca Value.bool (by rw[f];exact beq_self_eq_true _))))] 28 (rs [(3,.s 0)] 0 (ob g #[v,iN c.I,iN (c.next+1),.bool true] 124) (r0 [(1,.c [0,1] [] (aa.at (rd':=[ob g #[v,iN c.I,iN (c.next+1),.bool true] 124,gw v c.l]) (x9 g v c.l c.I (c.next+1) true Om) (aK (bM (λ_ h=>ar.sq h) (λ_ h=>h)))))] [(6,i6 (hP cq c.l))] [] (r0 [(0,.l 2),(1,.c [] [] (uN (⟨c.next,x.t,x.k,x.i,x.o⟩:Re)))] [(40,.bool ((!(((⟨c.next,x.t,x.k,x.i,x.o⟩:Re).k:Int)==2))||(decide ((hP cq c.l)<0))))] [] ?_)))));have d:((!(((⟨c.next,x.t,x.k,x.i,x.o⟩:Re).k:Int)==2))||(decide ((hP cq c.l)<0)))=true:=by rw[show(!((x.k:Int)==2))=true from i];rfl
 exact cT ((!(((⟨c.next,x.t,x.k,x.i,x.o⟩:Re).k:Int)==2))||(decide ((hP cq c.l)<0))) d (rr (λ_=>[(0,.l 2),(1,.s 3)]) (λ_=>[(5,.bool false)]) [5] (λ_ L=>L.set 3 (ob (B1 a) #[iN c.next,iN x.t,iN x.k,iN x.i,iN x.o] 59)) λo=>lf ab.zero [0,1] [] [3])
theorem OO(g:Nat)(c:Lg)(x:Re)(b:fI c)(f:c.l.length=c.I)(o:cq x=false)(i:aU cq c.l=c.l.length):aa VA 235 #[pt g 0,.agg #[iN x.s,iN x.t,iN x.k,iN x.i,iN x.o]] [pk (aA g c)] [0] (λ_=>[pk (aA g {c with next:=c.next+1,lost:=true})]) (λ_=> .tuple #[.agg #[iN c.next,iN x.t,iN x.k,iN x.i,iN x.o],.bool false]):=aa.pkZ Tryz.func235 λL e=>by
 obtain⟨v,rfl⟩:=e;refine⟨[0,1],λ_=>[ob g #[v,iN c.I,iN (c.next+1),.bool true] 124,gw v c.l],?_,rfl,λE=>⟨rfl,rfl,⟨_,rfl⟩⟩⟩;have j:=b.l;have n:=b.r;have m:=b.n;refine fG Tryz.func235 λw cs=>ra (λa=>[(3,pt (B0 a) 0),(4,pt (B1 a) 0),(5,.bool false)]) (λa=>[ob (B0 a) #[iN x.s,iN x.t,iN x.k,iN x.i,iN x.o] 59,ob (B1 a) #[i6 0,i6 0,i6 0,i6 0,i6 0] 59]) λa=>rs [(3,.l 0),(5,.s 2)] 2 (ob (B0 a) #[iN c.next,iN x.t,iN x.k,iN x.i,iN x.o] 59) (rs [(3,.l 0),(4,ad c.next 1),(7,.s 0)] 0 (ob g #[v,iN c.I,iN (c.next+1),.bool c.lost] 124) (rT [(3,.l 0),(4,e8 gN v c.l 1),(8,.l 0),(9,.t (tk (show Value.bool ((c.l.length:Int)==(c.I:Int))= .bool true from ALca Value.bool (by rw[f];exact beq_self_eq_true _))))] 28 (rs [(3,.s 0)] 0 (ob g #[v,iN c.I,iN (c.next+1),.bool true] 124) (r0 [(1,.c [0,1] [] (aa.at (rd':=[ob g #[v,iN c.I,iN (c.next+1),.bool true] 124,gw v c.l]) (OF g v c.l c.I (c.next+1) true Om Om) (aK (bM (λ_ h=>ar.sq h) (λ_ h=>h)))))] [(6,i6 (-1))] [] (r0 [(0,.l 2),(1,.c [] [] (uN (⟨c.next,x.t,x.k,x.i,x.o⟩:Re)))] [(40,.bool ((!(((⟨c.next,x.t,x.k,x.i,x.o⟩:Re).k:Int)==2))||true))] [] ?_)))));have d:((!(((⟨c.next,x.t,x.k,x.i,x.o⟩:Re).k:Int)==2))||true)=true:=by rw[Bool.or_true]
 exact cT ((!(((⟨c.next,x.t,x.k,x.i,x.o⟩:Re).k:Int)==2))||true) d (rr (λ_=>[(0,.l 2),(1,.s 3)]) (λ_=>[(5,.bool false)]) [5] (λ_ L=>L.set 3 (ob (B1 a) #[iN c.next,iN x.t,iN x.k,iN x.i,iN x.o] 59)) λp=>lf ab.zero [0,1] [] [3])
theorem OP(g:Nat)(c:Lg)(x:Re)(e:fI c)(o:c.l.length=c.I)(p:cq x=false)(n:aU cq c.l<c.l.length):aa VA 235 #[pt g 0,.agg #[iN x.s,iN x.t,iN x.k,iN x.i,iN x.o]] [pk (aA g c)] [0] (λ_=>[pk (aA g {c with l:=c.l.eraseIdx (aU cq c.l)++[iQ x c.next],next:=c.next+1,lost:=true})]) (λ_=> .tuple #[.agg #[iN c.next,iN x.t,iN x.k,iN x.i,iN x.o],.bool true]):=aa.pkZ Tryz.func235 λL i=>by
 obtain⟨v,rfl⟩:=i;refine⟨[0,1],λE=>[ob g #[(E.val 0),iN c.I,iN (c.next+1),.bool true] 124,gw (E.val 0) ((c.l.eraseIdx (aU cq c.l))++([(⟨c.next,x.t,x.k,x.i,x.o⟩:Re)]))],?_,rfl,λE=>⟨rfl,rfl,⟨_,rfl⟩⟩⟩;have r:=e.l;have y:=e.r;have u:=e.n;have j:(c.l.eraseIdx (aU cq c.l)).length=c.l.length-1:=by rw[VP,ALifp n]
 refine fG Tryz.func235 λw cs=>ra (λb=>[(3,pt (B0 b) 0),(4,pt (B1 b) 0),(5,.bool false)]) (λb=>[ob (B0 b) #[iN x.s,iN x.t,iN x.k,iN x.i,iN x.o] 59,ob (B1 b) #[i6 0,i6 0,i6 0,i6 0,i6 0] 59]) λb=>rs [(3,.l 0),(5,.s 2)] 2 (ob (B0 b) #[iN c.next,iN x.t,iN x.k,iN x.i,iN x.o] 59) (rs [(3,.l 0),(4,ad c.next 1),(7,.s 0)] 0 (ob g #[v,iN c.I,iN (c.next+1),.bool c.lost] 124) (rT [(3,.l 0),(4,e8 gN v c.l 1),(8,.l 0),(9,.t (tk (show Value.bool ((c.l.length:Int)==(c.I:Int))= .bool true from ALca Value.bool (by rw[o];exact beq_self_eq_true _))))] 28 (rs [(3,.s 0)] 0 (ob g #[v,iN c.I,iN (c.next+1),.bool true] 124) (r0 [(1,.c [0,1] [] (aa.at (rd':=[ob g #[v,iN c.I,iN (c.next+1),.bool true] 124,gw v c.l]) (OE g v c.l c.I (c.next+1) true Om Om) (aK (bM (λ_ h=>ar.sq h) (λ_ h=>h)))))] [(6,iN (aU cq c.l))] [] (r0 [(0,.l 2),(1,.c [] [] (uN (⟨c.next,x.t,x.k,x.i,x.o⟩:Re)))] [(40,.bool ((!(((⟨c.next,x.t,x.k,x.i,x.o⟩:Re).k:Int)==2))||(decide (((aU cq c.l:Nat):Int)<0))))] [] ?_)))));have f:((!(((⟨c.next,x.t,x.k,x.i,x.o⟩:Re).k:Int)==2))||(decide (((aU cq c.l:Nat):Int)<0)))=false:=by rw[show(!((x.k:Int)==2))=false from p,Bool.false_or];exact bh Om
 exact cF ((!(((⟨c.next,x.t,x.k,x.i,x.o⟩:Re).k:Int)==2))||(decide (((aU cq c.l:Nat):Int)<0))) f (rr (λd=>[(4,.m (ld 0 (v))),(7,ad (aU cq c.l) 1),(8,.c [1] [1] (OL v c.l (aU cq c.l) Om)),(11,.m (fz 0 1 (gw ((d 8).val 0) (c.l.eraseIdx (aU cq c.l))) ((d 8).val 0) λbs h=>ar.one ((λ_ h=>h) bs h)))]) N0 [] (λd L=>(L.set 0 (ob g #[(d 8).val 0,iN c.I,iN (c.next+1),.bool true] 124)).set 1 (gw ((d 8).val 0) (c.l.eraseIdx (aU cq c.l)))) λd=>rr (λa=>[(4,.l 0),(5,.l 2),(6,.m (bs 4 1)),(7,fp gN ((d 8).val 0) (c.l.eraseIdx (aU cq c.l)) 1 4 ([(⟨c.next,x.t,x.k,x.i,x.o⟩:Re)])),(10,.m (fz 0 1 (gw ((a 7).val 0) ((c.l.eraseIdx (aU cq c.l))++([(⟨c.next,x.t,x.k,x.i,x.o⟩:Re)]))) ((a 7).val 0) λbs h=>ar.one ((λ_ h=>h) bs h)))]) N0 [] (λa L=>(L.set 0 (ob g #[(a 7).val 0,iN c.I,iN (c.next+1),.bool true] 124)).set 1 (gw ((a 7).val 0) ((c.l.eraseIdx (aU cq c.l))++([(⟨c.next,x.t,x.k,x.i,x.o⟩:Re)])))++[ob (B6 a) #[iN c.next,iN x.t,iN x.k,iN x.i,iN x.o] 59]) λa=>rr (λ_=>[(0,.l 2),(1,.s 3)]) (λ_=>[(5,.bool true)]) [5] (λ_ L=>L.set 3 (ob (B1 b) #[iN c.next,iN x.t,iN x.k,iN x.i,iN x.o] 59)) λq=>lf (.l [] [] [(a 7).val 0]) [0,1] [] [3])
theorem OQ(g:Nat)(c:Lg)(x:Re)(d:fI c):aa VA 235 #[pt g 0,.agg #[iN x.s,iN x.t,iN x.k,iN x.i,iN x.o]] [pk (aA g c)] [0] (λ_=>[pk (aA g (bP c x))]) (λ_=> .tuple #[.agg #[iN c.next,iN x.t,iN x.k,iN x.i,iN x.o],.bool (Dp c x)]):=by
 unfold bP Dp;by_cases a:c.l.length=c.I
 ·rw[ALifp a,cx a];cases e:cq x with
  | true=>rw[ALifp (.inl rfl)];exact ON g c x d a e
  | false=>
   by_cases b:aU cq c.l=c.l.length
   ·rw[ALifp (.inr b),cx b];exact OO g c x d a e b
   ·rw[ALifn (λh=>h.elim (λh=>by cases h) b),bh b];exact OP g c x d a e (by have:=nO cq c.l;omega)
 ·rw[ALifn a,bh a];exact OM g c x d a
section
section
variable {α:Type} {P:Program} {en:α→List Value} {z:List Value} {e T:TypeId} {v:Value} {xs ys:List α} {bs:aw} {w:World}
theorem OR{i:Nat}(a:i<xs.length):aj en xs=aj en (xs.take i)++(en xs[i]++aj en (xs.drop (i+1))):=by
 have e:xs=xs.take i++(xs[i]::xs.drop (i+1)):=by rw[←V1 a,List.take_append_drop]
 conv=>lhs;rw[e]
 rw[jV];rfl
theorem OS{i:Nat}{a:α}(b:i<xs.length):aj en (xs.set i a)=aj en (xs.take i)++(en a++aj en (xs.drop (i+1))):=by
 rw[List.set_eq_take_append_cons_drop,ALifp b,jV];rfl
theorem OT(A X C l:List Value)(f:Nat)(c:f+l.length≤X.length):(A++(X++C)).take (A.length+f)++l++(A++(X++C)).drop (A.length+f+l.length)=A++((X.take f++l++X.drop (f+l.length))++C):=by
 have a:(A++(X++C)).take (A.length+f)=A++X.take f:=by
  rw[List.take_append,List.take_of_length_le Om,Nat.add_sub_cancel_left,List.take_append_of_le_length Om]
 have b:(A++(X++C)).drop (A.length+f+l.length)=X.drop (f+l.length)++C:=by
  rw[List.drop_append,List.drop_eq_nil_of_le Om,List.nil_append,show A.length+f+l.length-A.length=f+l.length by omega,List.drop_append_of_le_length c]
 rw[a,b];simp only[VR]
theorem OU(p i k f:Nat){a d:α}{l:List Value}(u: ∀y,(en y).length=k)(m:i<xs.length)(N:f+l.length≤k)(Q:en a=(en (xs.getD i d)).take f++l++(en (xs.getD i d)).drop (f+l.length)):MD.ok P (λ_=>undef) (pj P p (.p (ar en z T v xs)) (.p (ar en z T v (xs.set i a))) v (i*k+f) l) [p]:=by
 intro o ρ C j w c s;unfold pj at j s⊢
 split at j
 ·rename_i I x y n;simp only[n] at s⊢;simp only[Wi,VV,or_false,forall_eq_or_imp,forall_eq,sE,sB] at j;obtain⟨F,M,K,L⟩:=j;obtain⟨J,D⟩:=s.ent;obtain⟨g,r,rfl,G⟩:=ar.some (show ar en z T v xs (c p) from J) m;rw[G] at D;have b:=D.one;have t:xs.getD i d=xs[i]:=by rw[VD,VF m];rfl
  have hA:(aj en (xs.take i)).length=i*k:=fy u (by rw[VI];omega);have O:(bB (aj en xs) z r).toList.take (0+(i*k+f))++l++(bB (aj en xs) z r).toList.drop (0+(i*k+f)+l.length)=(bB (aj en (xs.set i a)) z r).toList:=by
   unfold bB;rw[V8,V8,OR (en:=en) m,OS m,Q,t,Nat.zero_add,←hA];have:=OT (aj en (xs.take i)) (en xs[i]) (aj en (xs.drop (i+1))++(VB r z).flatten) l f (by rw[u];exact N);simp only[VR] at this⊢;exact this
  have A:0+(i*k+f)+l.length≤(bB (aj en xs) z r).size:=by
   rw[s0,fy u rfl];have:=V9 k (show i+1≤xs.length from m);rw[Nat.add_mul] at this;omega
  simp only[eZ,add_lit] at F;have B:=a6.setRow (bB (aj en (xs.set i a)) z r) b;refine⟨ab.zero,λ_=>[(g,.cells (bB (aj en (xs.set i a)) z r) T (0,0))],w.setRow g (bB (aj en (xs.set i a)) z r),.inr ⟨?_,by simp⟩,λq h=>?_,?_⟩
  ·unfold execOp;have H:=sS (P:=P) (T:=I) b A (List.all_eq_true.1 K) L;rw[O,Array.toArray_toList] at H;simp only[n,F,sT M,Instr.storeAt,Instr.sureAddr,Wm,Wn,Wb,H]
  ·rw[List.mem_singleton.1 h];exact .inr ⟨g,r,by rw[VH],rfl⟩
  ·rw[show([p].flatMap λp=>bI (c p))=_ by simp only[List.flatMap_cons,List.flatMap_nil,G,bI];rfl];exact B
 ·exact(bA j).elim
def Dx(K:Kd P α)(v:Value)(xs:List α)(p i f:Nat)(a:α)(l:List Value)(g:K.en a=(K.en (xs.getD i K.d)).take f++l++(K.en (xs.getD i K.d)).drop (f+l.length))(b:i<xs.length:=by omega)(c:f+l.length≤K.k:=by exact Nat.le_of_ble_eq_true rfl):b9 P:=
 .m ⟨[p],pj P p (.p (ar K.en K.z K.T v xs)) (.p (ar K.en K.z K.T v (xs.set i a))) v (i*K.k+f) l,OU (d:=K.d) p i K.k f K.hk b c g⟩
end
end
structure Pa where
 k:Nat
 l:Nat
 a:Nat
deriving DecidableEq
def bp:Pa:=⟨0,0,0⟩
def oK(x:Pa):List Value:=[iN x.k,iN x.l,iN x.a]
def eF:Kd VA Pa:=⟨oK,[i6 0,i6 0,i6 0],354,386,bp,3,λ_=>rfl,rfl,λ_=>rfl,dU.mk' Kr Kr rfl⟩
abbrev dZ(v:Value)(xs:List Pa):aB:= .p (ar oK ([i6 0,i6 0,i6 0]) 386 v xs)
def bH(k:Nat)(x:Pa):Bool:=(x.k:Int)==(k:Int)
structure Tb where
 l:List Pa
 I:Nat
structure hZ (ev:Nat) (t:Tb):Prop where
 l:t.l.length≤t.I
 r1:1≤t.I
 r:t.I≤256
 b: ∀i,i<t.l.length→eS ev (t.l.getD i bp).l (t.l.getD i bp).a
abbrev dS(g:Nat)(t:Tb)(L:ah):Prop:=∃v:Value,L=[ob g #[v,iN t.I,.func (.func 178) #[] #[]] 356,dZ v t.l]
def eb(xs:List Pa):Nat→Nat×Nat
 | 0=>(0,0)
 | k+1=>if k=0∨(xs.getD k bp).l<(eb xs k).2 then(k,(xs.getD k bp).l) else eb xs k
theorem yb(xs:List Pa): ∀k,1≤k→(eb xs k).1<k
 | 0,h=>by omega
 | 1,_=>by unfold eb;rw[ALifp (.inl rfl)];exact Nat.zero_lt_one
 | k+2,_=>by
  unfold eb
  split
  ·exact VZ _
  ·exact Wf (yb xs (k+1) Om)
theorem OV{xs:List Pa}{k:Nat}(h:(((k:Int)==0)||decide ((((xs.getD k bp).l:Nat):Int)<(((eb xs k).2:Nat):Int)))=true):eb xs (k+1)=(k,(xs.getD k bp).l):=by
 rw[eb,ALifp];simp only[V0,decide_eq_true_eq,beq_iff_eq] at h;omega
theorem OX{xs:List Pa}{k:Nat}(h:(((k:Int)==0)||decide ((((xs.getD k bp).l:Nat):Int)<(((eb xs k).2:Nat):Int)))=false):eb xs (k+1)=eb xs k:=by
 rw[eb,ALifn];simp only[VW,decide_eq_false_iff_not,dP] at h;omega
def da(t:Tb)(k:Nat):Bk:=if aU (bH k) t.l=t.l.length then bg else⟨(t.l.getD (aU (bH k) t.l) bp).l,(t.l.getD (aU (bH k) t.l) bp).a⟩
def uO(t:Tb)(k:Nat):Bool:= !decide (aU (bH k) t.l=t.l.length)
def oL(t:Tb)(k l a:Nat):Tb:=
 if aU (bH k) t.l=t.l.length then
  (if t.l.length=t.I then{t with l:=t.l.eraseIdx (eb t.l t.l.length).1++[⟨k,l,a⟩]} else{t with l:=t.l++[⟨k,l,a⟩]})
 else{t with l:=t.l.set (aU (bH k) t.l) ⟨(t.l.getD (aU (bH k) t.l) bp).k,l,a⟩}
def oM(t:Tb)(k:Nat):Tb:=if aU (bH k) t.l=t.l.length then t else{t with l:=t.l.eraseIdx (aU (bH k) t.l)}
def Dy(t:Tb)(k:Nat):Nat:=if aU (bH k) t.l=t.l.length∧t.l.length=t.I then(t.l.getD (eb t.l t.l.length).1 bp).k else 0
def Dz(t:Tb)(k:Nat):Bool:=decide (aU (bH k) t.l=t.l.length)&&decide (t.l.length=t.I)
structure Tk where
 lr:Nat
 er:Nat
 lp:Nat
 ep:Nat
 I:Nat
 H:Nat
 F:List Bk
 t:Tb
structure dO (c:Tk):Prop where
 r:iq c.lr c.er
 p:iq c.lp c.ep
 h1:1≤c.H
 h2:c.H≤65536
 n:c.F.length≤8
 b: ∀i,i<c.F.length→eS c.er (c.F.getD i bg).l (c.F.getD i bg).a
 t:hZ c.ep c.t
abbrev aC(g a:Nat)(c:Tk)(L:ah):Prop:=∃v:Value,L=[ob g #[iN c.lr,iN c.er,iN c.lp,iN c.ep,iN c.I,iN c.H,v,pt a 0] 294,j9 v c.F,pk (dS a c.t)]
def ft(c:Tk)(r p n:Nat):Tk:={c with F:=c.F.set r ⟨cp (c.F.getD r bg).l n,(c.F.getD r bg).a⟩,t:=oL c.t p (cp (da c.t p).l n) (da c.t p).a}
def oN(c:Tk)(r:Nat):Tk:={c with F:=c.F.set r ⟨0,0⟩}
def pM(c:Tk)(p:Nat):Tk:={c with t:=oM c.t p}
theorem hZ.get{ev:Nat}{t:Tb}(h:hZ ev t)(b:1≤ev)(k:Nat):eS ev (da t k).l (da t k).a:=by
 unfold da
 split
 ·exact⟨VN _,b⟩
 ·have:=nO (bH k) t.l;exact h.b _ Om
theorem OY(l a:Nat):aa VA 178 #[.agg #[iN l,iN a]] [] [] N0 (λ_=>iN l):=by
 exact fG Tryz.func178 λw cs=>ra (λb=>[(1,pt (B0 b) 0),(2,i6 0)]) (λb=>[ob (B0 b) #[iN l,iN a] 290]) λb=>r0 [(1,.l 0)] [(2,iN l)] [2] (lf ab.zero [] [] [])
theorem OZ(b k:Nat)(x:Pa):aa VA 279 #[.agg #[iN x.k,iN x.l,iN x.a],pt b 0] [ob b #[iN k] 3] [] N0 (λ_=> .bool (bH k x)):=by
 exact fG Tryz.func279 λw cs=>ra (λa=>[(2,pt (B0 a) 0),(3,.bool false)]) (λa=>[ob (B0 a) #[iN x.k,iN x.l,iN x.a] 386]) λa=>r0 [(1,.l 1),(2,.l 0)] [(3,.bool ((x.k:Int)==(k:Int)))] [3] (ak (.bool ((x.k:Int)==(k:Int))) ab.zero Vm [] [(0,0)] [])
theorem O0(v:Value)(b k:Nat)(xs:List Pa)(m:xs.length≤1000000):aa VA 278 #[v,.func (.func 279) #[] #[pt b 0]] [ob b #[iN k] 3,.p (aH oK v xs)] [] N0 (λ_=>i6 (hP (bH k) xs)):=by
 refine fO Tryz.func278 1 rfl λf a=>fG Tryz.func278 λw cs=>r0 [] [(4,i6 0)] [] (r0 [(1,eD a.1 1)] [(7,iN xs.length),(8,i6 0)] [] ?_);refine lq (λn=>n≤xs.length∧(∀j,j<n→bH k (xs.getD j bp)=false)) (λn=>[(8,iN n)]) (λ_ L=>L) (λn=>xs.length-n) 0 ⟨by omega,(λ_ h=>absurd h (Nat.not_lt_zero _))⟩ Kr Kr (λn ⟨l,e⟩=>?_);refine r0 [] [(9,.bool (decide ((n:Int)<(xs.length:Int))))] [] ?_;refine b0 (n:Int) (xs.length:Int) (λg d=>?_) λg d=>?_
 ·refine r0 [] [(5,iN n)] [] (r0 [(3,fa a.1 1 n 3),(4,mQ eF a.1 1 n 0 3),(5,.c [0] [] (OZ b k (xs.getD n bp)))] [(16,.bool (bH k (xs.getD n bp)))] [] ?_);refine cB (bH k (xs.getD n bp)) (λi=>?_) λi=>?_
  ·exact r0 [] [(4,iN n)] [] (ak (iN n) ab.zero (by(rw[Dn Om e As];done)) [] [(0,0),(1,1)] [])
  exact r0 [(0,ad n 1)] [(8,iN (n+1))] [8] (le (n+1) ⟨by omega,xP e As⟩ Om Kr [0,1] Kr)
 obtain rfl:xs.length=n:=by omega
 exact lx (r0 [] [(4,i6 (-1))] [] (ak (i6 (-1)) ab.zero (by(rw[Dm e];done)) [] [(0,0),(1,1)] []))
theorem DA(g:Nat)(v:Value)(l:List Pa)(room k:Nat)(e:l.length≤1000000):aa VA 261 #[pt g 0,iN k] [ob g #[v,iN room,.func (.func 178) #[] #[]] 356,.p (aH oK v l)] [] N0 (λ_=>i6 (hP (bH k) l)):=by
 exact fO Tryz.func261 1 rfl λb d=>fG Tryz.func261 λw cs=>ra (λa=>[(3,pt (B0 a) 0),(4,i6 0)]) (λa=>[ob (B0 a) #[iN k] 3]) λa=>r0 [(3,.l 0),(5,.c [2,1] [] (aa.at (rd':=[ob (B0 a) #[iN k] 3,.c b]) (O0 v (B0 a) k l Om) (aK (ei d (λ_ h=>h)))))] [(4,i6 (hP (bH k) l))] [4] (lf ab.zero [] [(0,0),(1,1)] [])
theorem yc(g:Nat)(v:Value)(l:List Pa)(room k:Nat)(b:l.length≤1000000)(h:aU (bH k) l<l.length):aa VA 261 #[pt g 0,iN k] [ob g #[v,iN room,.func (.func 178) #[] #[]] 356,.p (aH oK v l)] [] N0 (λ_=>iN (aU (bH k) l)):=by
 have a:=DA g v l room k b;unfold hP at a;rwa [ALifn Om] at a
theorem uP(g:Nat)(v:Value)(l:List Pa)(room k:Nat)(b:l.length≤1000000)(h:aU (bH k) l=l.length):aa VA 261 #[pt g 0,iN k] [ob g #[v,iN room,.func (.func 178) #[] #[]] 356,.p (aH oK v l)] [] N0 (λ_=>i6 (-1)):=by
 have a:=DA g v l room k b;unfold hP at a;rwa [ALifp h] at a
theorem O3(g:Nat)(v:Value)(l:List Pa)(room:Nat)(m:l.length≤1000000):aa VA 263 #[pt g 0] [ob g #[v,iN room,.func (.func 178) #[] #[]] 356,.p (aH oK v l)] [] N0 (λ_=>iN ((eb l l.length).1)):=by
 refine fO Tryz.func263 1 rfl λh b=>fG Tryz.func263 λw cs=>r0 [] [(2,i6 0)] [] (r0 [] [(3,i6 0),(4,i6 0)] [] (r0 [(3,.l 0),(4,eD b.1 1)] [(11,v),(12,iN l.length),(13,i6 0)] [] ?_));refine lq (λk=>k≤l.length) (λk=>[(3,iN ((eb l k).1)),(4,iN ((eb l k).2)),(13,iN k)]) (λ_ L=>L) (λk=>l.length-k) 0 Om Kr Kr (λk j=>?_);refine r0 [] [(14,.bool (decide ((k:Int)<(l.length:Int))))] [] ?_;refine b0 (k:Int) (l.length:Int) (λi e=>?_) λi e=>?_
 ·refine rr (λ_=>[(1,fa b.1 1 k 3),(2,mQ eF b.1 1 k 0 3),(5,.s 2)]) (λd=>[(6,pt (B3 d) 0),(5,iN k)]) [] (λd L=>L++[ob (B3 d) #[iN ((l.getD k bp).k),iN ((l.getD k bp).l),iN ((l.getD k bp).a)] 386]) λd=>r0 [(3,.l 0),(5,.l 2),(6,.c [] [] (OY ((l.getD k bp).l) ((l.getD k bp).a)))] [(7,iN ((l.getD k bp).l))] [] (r0 [] [(31,.bool (((k:Int)==0)||(decide ((((l.getD k bp).l:Nat):Int)<(((eb l k).2:Nat):Int)))))] [] ?_);refine cB (((k:Int)==0)||(decide ((((l.getD k bp).l:Nat):Int)<(((eb l k).2:Nat):Int)))) (λf=>?_) λf=>?_
  ·exact r0 [] [(3,iN k),(4,iN ((l.getD k bp).l))] [3,4] (r0 [(0,ad k 1)] [(13,iN (k+1))] [13] (le (k+1) Om Om (by(rw[OV As]);kernel_rfl) [0,1] Kr))
  exact r0 [(0,ad k 1)] [(13,iN (k+1))] [13] (le (k+1) Om Om (by(rw[OX As]);kernel_rfl) [0,1] Kr)
 obtain rfl:l.length=k:=by omega
 exact lx (r0 [] [(2,iN ((eb l l.length).1))] [2] (lf ab.zero [] [(0,0),(1,1)] []))
section
open Go.Lib
set_option maxRecDepth 1000000 in
set_option maxHeartbeats 1000000 in
theorem O4(g n b i j:Nat)(w:World)(S:i<j)(R:j≤n)(H:n≤b)(a:Array Value)(x:w.heap[g]? =some (.cells a 386 (0,0)))(news:List Value)(d:news.length=(n-(j))*3)(m: ∀u∈news,u.oneCell'=true)(o: ∀t u,news[t]? =some u→w.cell? ⟨g,(j)*3+t,none⟩=some u)(k:i*3+news.length≤a.size)(C:n*3≤a.size):Calls VA 280 #[.slice (some ⟨g,0,none⟩) n b,.int .i64 (i:Int),.int .i64 (j:Int)] w λe w'=>e= .returned (.slice (some ⟨g,0,none⟩) (n-(j-i)) b)∧w'=(w.drew.setRow g (a.toList.take (i*3)++news++a.toList.drop (i*3+news.length)).toArray).setRow g ((a.toList.take (i*3)++news++a.toList.drop (i*3+news.length)).toArray.toList.take ((i+(n-j))*3)++(VB (n-(i+(n-j))) eF.z).flatten++(a.toList.take (i*3)++news++a.toList.drop (i*3+news.length)).toArray.toList.drop ((i+(n-j))*3+(n-(i+(n-j)))*3)).toArray:=by
 have F:Tryz.prog.follows .mixedOrders=true:=by kernel_rfl
 have P:i≤b:=by omega
 have Q:j≤b:=by omega
 obtain⟨V,Z,B,T,D,U,N⟩:=eF.hT.hi;obtain⟨A,hA,s⟩: ∃A:Addr,(if b=j then some (⟨g,0,none⟩:Addr) else some ⟨g,(j)*3,none⟩)=some A∧Hid (∀t u,news[t]? =some u→w.drew.cell? (A.add t)=some u):=by
  by_cases h:b=j
  ·refine⟨⟨g,0,none⟩,by simp [h],λt u v=>?_⟩;have K:news.length=0:=by rw[d];omega
   rw[List.length_eq_zero_iff.1 K] at v;simp at v
  ·exact⟨⟨g,(j)*3,none⟩,by simp [h],λt u v=>by rw[Addr.add_lit];exact o t u v⟩
 have W:Hid (news.length=(n-(j))*3):=d;have X:Hid (∀u∈news,u.oneCell'=true):=m;have Y:Hid (i*3+news.length≤a.size):=k;have I:Hid (w.drew.heap[g]? =some (.cells a 386 (0,0))):=x;obtain⟨p,q⟩: ∃p,p=w.drew.setRow g (a.toList.take (i*3)++news++a.toList.drop (i*3+news.length)).toArray:=⟨_,rfl⟩;have G:Hid (p=w.drew.setRow g (a.toList.take (i*3)++news++a.toList.drop (i*3+news.length)).toArray):=q;obtain⟨c,f⟩: ∃c,c=(a.toList.take (i*3)++news++a.toList.drop (i*3+news.length)).toArray:=⟨_,rfl⟩;have y:c.size=a.size:=by
  rw[f];simp only[List.size_toArray,VC,VI,VO,Array.length_toList];omega
 have l:p.heap[g]? =some (.cells c 386 (0,0)):=by rw[q,←f];exact setRow_heap _ g a _ _ _ I.out
 obtain⟨z,r⟩: ∃z,z=p.setRow g (c.toList.take ((i+(n-j))*3)++(VB (n-(i+(n-j))) eF.z).flatten++c.toList.drop ((i+(n-j))*3+(n-(i+(n-j)))*3)).toArray:=⟨_,rfl⟩;have O: ∀J,(Builtin.clear_ #[354] J #[.slice (some ⟨g,(i+(n-j))*3,none⟩) (n-(i+(n-j))) (b-(i+(n-j)))]).run VA p= .ok (.tuple #[]) z:=λJ=>by
  rw[r];exact Du eF.hT l Om (by show _+_*3≤_;rw[y];omega) (λu v=>by
   simp only[eF,Wi,VV,or_false] at v;rcases v with rfl | rfl | rfl<;>rfl)
 have L:Hid (z=p.setRow g (c.toList.take ((i+(n-j))*3)++(VB (n-(i+(n-j))) eF.z).flatten++c.toList.drop ((i+(n-j))*3+(n-(i+(n-j)))*3)).toArray):=r;have M:Hid (c=(a.toList.take (i*3)++news++a.toList.drop (i*3+news.length)).toArray):=f;clear q o d m k x r l y f
 go_enter Tryz.func280,Tryz.ntmps280
 go_wp2_with fail
 go_region_law_o (refine Dt rfl (.tmp 22) (.tmp 25) 354 rfl 386 V 3 eF.hT.ht B D g i b a I.out (by simp [Act.eval,Act.put]) A (n-(j)) (b-(j)) news (by simp [Act.eval,Act.put]) W.out s.out X.out Om Y.out ?_;rw[←G.out])
 go_wp2
 go_ret
 refine⟨by rw[show n-(j-i)=i+(n-j) by omega];rfl,?_⟩;rw[L.out,G.out,M.out]
theorem O5(v:Value)(xs:List Pa)(i:Nat)(k:i<xs.length):aa VA 280 #[v,iN i,iN (i+1)] [dZ v xs] [0] (λE=>[dZ (E.val 0) (xs.eraseIdx i)]) (λE=>E.val 0):=
 Dw eF (enters_of Tryz.func280 Kr rfl) k λg f w h e b j m l d c a=>O4 g xs.length f i (i+1) w (VZ i) k b h j e m l d c a
end
theorem DB(g:Nat)(v:Value)(l:List Pa)(room i:Nat)(b:i<l.length)(d:l.length≤1000000):aa VA 262 #[pt g 0,iN i] [ob g #[v,iN room,.func (.func 178) #[] #[]] 356,dZ v l] [0,1] (λE=>[ob g #[(E.val 0),iN room,.func (.func 178) #[] #[]] 356,dZ (E.val 0) (l.eraseIdx i)]) (λ_=>iN ((l.getD i bp).k)):=by
 exact fG Tryz.func262 λw cs=>r0 [] [(4,i6 0)] [] (r0 [(3,.l 0),(5,cH eF v l 1 i),(6,tB eF v l 1 (i*3) 0),(7,eP eF v l 1 i 0)] [(5,iN ((l.getD i bp).k))] [] (rr (λa=>[(4,.m (ld 0 (v))),(7,ad i 1),(8,.c [1] [1] (O5 v l i Om)),(11,.m (fz 0 1 (dZ ((a 8).val 0) (l.eraseIdx i)) ((a 8).val 0) λbs h=>ar.one ((λ_ h=>h) bs h)))]) N0 [] (λa L=>(L.set 0 (ob g #[(a 8).val 0,iN room,.func (.func 178) #[] #[]] 356)).set 1 (dZ ((a 8).val 0) (l.eraseIdx i))) λa=>r0 [] [(4,iN ((l.getD i bp).k))] [4] (lf (.l [] [] [((a 8).val 0)]) [0,1] [] [])))
theorem O6(g:Nat)(t:Tb)(k:Nat)(e:t.l.length≤1000000)(h:aU (bH k) t.l<t.l.length):aa VA 238 #[pt g 0,iN k] [pk (dS g t)] [0] (λ_=>[pk (dS g t)]) (λ_=> .tuple #[.agg #[iN ((t.l.getD (aU (bH k) t.l) bp).l),iN ((t.l.getD (aU (bH k) t.l) bp).a)],.bool true]):=aa.pkZ Tryz.func238 λL d=>by
 obtain⟨v,rfl⟩:=d;refine⟨[1],λ_=>[dZ v t.l],?_,rfl,λE=>⟨rfl,rfl,⟨_,rfl⟩⟩⟩;exact fG Tryz.func238 λw cs=>ra (λb=>[(4,pt (B0 b) 0),(5,.bool false)]) (λb=>[ob (B0 b) #[i6 0,i6 0] 290]) λb=>r0 [(2,.c [0,1] [] (aa.at (rd':=[ob g #[v,iN t.I,.func (.func 178) #[] #[]] 356,dZ v t.l]) (yc g v t.l t.I k Om Om) (aK (bM (λ_ h=>ar.sq h) (λ_ h=>h)))))] [(6,iN (aU (bH k) t.l))] [] (rF [(1,.t (tk (show Value.bool (decide (((aU (bH k) t.l:Nat):Int)<0))= .bool false from ALca Value.bool (by exact bh Om))))] 12 (rr (λ_=>[(3,.l 0),(5,cH eF v t.l 1 (aU (bH k) t.l)),(6,tB eF v t.l 1 ((aU (bH k) t.l)*3) 1),(7,pr eF v t.l 1 (aU (bH k) t.l) 1 2),(8,.s 2)]) (λ_=>[(5,.bool true)]) [5] (λ_ L=>L.set 2 (ob (B0 b) #[iN ((t.l.getD (aU (bH k) t.l) bp).l),iN ((t.l.getD (aU (bH k) t.l) bp).a)] 290)) λf=>lf ab.zero [1] [(0,0)] [2]))
theorem O7(g:Nat)(t:Tb)(k:Nat)(e:t.l.length≤1000000)(h:aU (bH k) t.l=t.l.length):aa VA 238 #[pt g 0,iN k] [pk (dS g t)] [0] (λ_=>[pk (dS g t)]) (λ_=> .tuple #[.agg #[i6 0,i6 0],.bool false]):=aa.pkZ Tryz.func238 λL d=>by
 obtain⟨v,rfl⟩:=d;refine⟨[1],λ_=>[dZ v t.l],?_,rfl,λE=>⟨rfl,rfl,⟨_,rfl⟩⟩⟩;exact fG Tryz.func238 λw cs=>ra (λa=>[(4,pt (B0 a) 0),(5,.bool false)]) (λa=>[ob (B0 a) #[i6 0,i6 0] 290]) λa=>r0 [(2,.c [0,1] [] (aa.at (rd':=[ob g #[v,iN t.I,.func (.func 178) #[] #[]] 356,dZ v t.l]) (uP g v t.l t.I k Om Om) (aK (bM (λ_ h=>ar.sq h) (λ_ h=>h)))))] [(6,i6 (-1))] [] (rT [] 12 (ra (λb=>[(7,pt (B0 b) 0)]) (λb=>[ob (B0 b) #[i6 0,i6 0] 290]) λb=>r0 [(0,.l 3),(1,.s 2)] [(5,.bool false)] [5] (lf ab.zero [1] [(0,0)] [2])))
theorem O8(g:Nat)(t:Tb)(k l a:Nat)(e:t.l.length≤1000000)(h:aU (bH k) t.l<t.l.length):aa VA 239 #[pt g 0,iN k,.agg #[iN l,iN a]] [pk (dS g t)] [0] (λ_=>[pk (dS g {t with l:=t.l.set (aU (bH k) t.l) ⟨(t.l.getD (aU (bH k) t.l) bp).k,l,a⟩})]) (λ_=> .tuple #[i6 0,.bool false]):=aa.pkZ Tryz.func239 λL d=>by
 obtain⟨v,rfl⟩:=d;refine⟨[1],λ_=>[dZ v (t.l.set (aU (bH k) t.l) (⟨(t.l.getD (aU (bH k) t.l) bp).k,l,a⟩:Pa))],?_,rfl,λE=>⟨rfl,rfl,⟨_,rfl⟩⟩⟩;exact fG Tryz.func239 λw cs=>ra (λb=>[(5,pt (B0 b) 0),(6,i6 0),(7,.bool false)]) (λb=>[ob (B0 b) #[iN l,iN a] 290]) λb=>r0 [(2,.c [0,1] [] (aa.at (rd':=[ob g #[v,iN t.I,.func (.func 178) #[] #[]] 356,dZ v t.l]) (yc g v t.l t.I k Om Om) (aK (bM (λ_ h=>ar.sq h) (λ_ h=>h)))))] [(8,iN (aU (bH k) t.l))] [] (rT [(1,.t (tk (show Value.bool (decide (0≤((aU (bH k) t.l:Nat):Int)))= .bool true from ALca Value.bool (by exact cx Om))))] 13 (rs [(3,.l 0),(5,.l 2),(6,cH eF v t.l 1 (aU (bH k) t.l)),(7,tB eF v t.l 1 ((aU (bH k) t.l)*3) 1),(8,Dx eF v t.l 1 (aU (bH k) t.l) 1 (⟨(t.l.getD (aU (bH k) t.l) bp).k,l,a⟩:Pa) [iN l,iN a] Kr Om)] 1 (dZ v (t.l.set (aU (bH k) t.l) (⟨(t.l.getD (aU (bH k) t.l) bp).k,l,a⟩:Pa))) (r0 [] [(6,i6 0),(7,.bool false)] [6,7] (lf ab.zero [1] [(0,0)] []))))
theorem O9(g:Nat)(t:Tb)(k l a:Nat)(f:t.l.length≤1000)(h:aU (bH k) t.l=t.l.length)(i:t.l.length≠t.I):aa VA 239 #[pt g 0,iN k,.agg #[iN l,iN a]] [pk (dS g t)] [0] (λ_=>[pk (dS g {t with l:=t.l++[⟨k,l,a⟩]})]) (λ_=> .tuple #[i6 0,.bool false]):=aa.pkZ Tryz.func239 λL e=>by
 obtain⟨v,rfl⟩:=e;refine⟨[0,1],λE=>[ob g #[(E.val 0),iN t.I,.func (.func 178) #[] #[]] 356,dZ (E.val 0) (t.l++([(⟨k,l,a⟩:Pa)]))],?_,rfl,λE=>⟨rfl,rfl,⟨_,rfl⟩⟩⟩;exact fG Tryz.func239 λw cs=>ra (λd=>[(5,pt (B0 d) 0),(6,i6 0),(7,.bool false)]) (λd=>[ob (B0 d) #[iN l,iN a] 290]) λd=>r0 [(2,.c [0,1] [] (aa.at (rd':=[ob g #[v,iN t.I,.func (.func 178) #[] #[]] 356,dZ v t.l]) (uP g v t.l t.I k Om Om) (aK (bM (λ_ h=>ar.sq h) (λ_ h=>h)))))] [(8,i6 (-1))] [] (rF [] 13 (rF [(3,.l 0),(4,e8 eF v t.l 1),(8,.l 0),(9,.t (tk (show Value.bool ((t.l.length:Int)==(t.I:Int))= .bool false from ALca Value.bool (by rw[dP];omega))))] 32 (rr (λb=>[(4,.m (ld 0 (v))),(6,.m (ls 2 ([iN l,iN a]))),(8,.m (bs 3 1)),(9,fp eF (v) t.l 1 3 ([(⟨k,l,a⟩:Pa)])),(12,.m (fz 0 1 (dZ ((b 9).val 0) (t.l++([(⟨k,l,a⟩:Pa)]))) ((b 9).val 0) λbs h=>ar.one ((λ_ h=>h) bs h)))]) N0 [] (λb L=>(L.set 0 (ob g #[(b 9).val 0,iN t.I,.func (.func 178) #[] #[]] 356)).set 1 (dZ ((b 9).val 0) (t.l++([(⟨k,l,a⟩:Pa)])))++[ob ((b 8).y 0) #[iN k,iN l,iN a] 386]) λb=>r0 [] [(6,i6 0),(7,.bool false)] [6,7] (lf (.l [] [] [(b 9).val 0]) [0,1] [] []))))
theorem Pb(g:Nat)(t:Tb)(k l a:Nat)(o:t.l.length≤1000)(h1:1≤t.l.length)(h:aU (bH k) t.l=t.l.length)(n:t.l.length=t.I):aa VA 239 #[pt g 0,iN k,.agg #[iN l,iN a]] [pk (dS g t)] [0] (λ_=>[pk (dS g {t with l:=t.l.eraseIdx (eb t.l t.l.length).1++[⟨k,l,a⟩]})]) (λ_=> .tuple #[iN ((t.l.getD ((eb t.l t.l.length).1) bp).k),.bool true]):=aa.pkZ Tryz.func239 λL i=>by
 obtain⟨v,rfl⟩:=i;refine⟨[0,1],λE=>[ob g #[(E.val 0),iN t.I,.func (.func 178) #[] #[]] 356,dZ (E.val 0) ((t.l.eraseIdx ((eb t.l t.l.length).1))++([(⟨k,l,a⟩:Pa)]))],?_,rfl,λE=>⟨rfl,rfl,⟨_,rfl⟩⟩⟩;have f:=yb t.l t.l.length h1;have j:(t.l.eraseIdx (eb t.l t.l.length).1).length=t.l.length-1:=by rw[VP,ALifp f]
 exact fG Tryz.func239 λw cs=>ra (λe=>[(5,pt (B0 e) 0),(6,i6 0),(7,.bool false)]) (λe=>[ob (B0 e) #[iN l,iN a] 290]) λe=>r0 [(2,.c [0,1] [] (aa.at (rd':=[ob g #[v,iN t.I,.func (.func 178) #[] #[]] 356,dZ v t.l]) (uP g v t.l t.I k Om Om) (aK (bM (λ_ h=>ar.sq h) (λ_ h=>h)))))] [(8,i6 (-1))] [] (rF [] 13 (rT [(3,.l 0),(4,e8 eF v t.l 1),(8,.l 0),(9,.t (tk (show Value.bool ((t.l.length:Int)==(t.I:Int))= .bool true from ALca Value.bool (by rw[n];exact beq_self_eq_true _))))] 32 (rr (λ_=>[(2,.c [0,1] [] (aa.at (rd':=[ob g #[v,iN t.I,.func (.func 178) #[] #[]] 356,dZ v t.l]) (O3 g v t.l t.I Om) (aK (bM (λ_ h=>ar.sq h) (λ_ h=>h))))),(3,.c [0,1] [0,1] (DB g v t.l t.I ((eb t.l t.l.length).1) Om Om))]) (λ_=>[(6,iN ((t.l.getD ((eb t.l t.l.length).1) bp).k)),(7,.bool true)]) [6,7] (λd L=>(L.set 0 (ob g #[((d 3).val 0),iN t.I,.func (.func 178) #[] #[]] 356)).set 1 (dZ ((d 3).val 0) (t.l.eraseIdx ((eb t.l t.l.length).1)))) λd=>rr (λb=>[(4,.m (ld 0 (((d 3).val 0)))),(6,.m (ls 2 ([iN l,iN a]))),(8,.m (bs 3 1)),(9,fp eF (((d 3).val 0)) (t.l.eraseIdx ((eb t.l t.l.length).1)) 1 3 ([(⟨k,l,a⟩:Pa)])),(12,.m (fz 0 1 (dZ ((b 9).val 0) ((t.l.eraseIdx ((eb t.l t.l.length).1))++([(⟨k,l,a⟩:Pa)]))) ((b 9).val 0) λbs h=>ar.one ((λ_ h=>h) bs h)))]) N0 [] (λb L=>(L.set 0 (ob g #[(b 9).val 0,iN t.I,.func (.func 178) #[] #[]] 356)).set 1 (dZ ((b 9).val 0) ((t.l.eraseIdx ((eb t.l t.l.length).1))++([(⟨k,l,a⟩:Pa)])))++[ob ((b 8).y 0) #[iN k,iN l,iN a] 386]) λb=>r0 [] [(6,iN ((t.l.getD ((eb t.l t.l.length).1) bp).k)),(7,.bool true)] [6,7] (lf (.l [] [] [(b 9).val 0]) [0,1] [] []))))
theorem Pc(g:Nat)(t:Tb)(k:Nat)(d:t.l.length≤1000000)(h:aU (bH k) t.l<t.l.length):aa VA 270 #[pt g 0,iN k] [pk (dS g t)] [0] (λ_=>[pk (dS g {t with l:=t.l.eraseIdx (aU (bH k) t.l)})]) (λ_=> .bool true):=aa.pkZ Tryz.func270 λL b=>by
 obtain⟨v,rfl⟩:=b;refine⟨[0,1],λE=>[ob g #[(E.val 0),iN t.I,.func (.func 178) #[] #[]] 356,dZ (E.val 0) (t.l.eraseIdx (aU (bH k) t.l))],?_,rfl,λE=>⟨rfl,rfl,⟨_,rfl⟩⟩⟩;exact fG Tryz.func270 λw cs=>r0 [] [(4,.bool false)] [] (r0 [(2,.c [0,1] [] (aa.at (rd':=[ob g #[v,iN t.I,.func (.func 178) #[] #[]] 356,dZ v t.l]) (yc g v t.l t.I k Om Om) (aK (bM (λ_ h=>ar.sq h) (λ_ h=>h)))))] [(5,iN (aU (bH k) t.l))] [] (rF [(1,.t (tk (show Value.bool (decide (((aU (bH k) t.l:Nat):Int)<0))= .bool false from ALca Value.bool (by exact bh Om))))] 10 (rr (λ_=>[(2,.c [0,1] [0,1] (DB g v t.l t.I (aU (bH k) t.l) Om Om))]) N0 [] (λa L=>(L.set 0 (ob g #[((a 2).val 0),iN t.I,.func (.func 178) #[] #[]] 356)).set 1 (dZ ((a 2).val 0) (t.l.eraseIdx (aU (bH k) t.l)))) λa=>r0 [] [(4,.bool true)] [4] (lf (.l [] [] [((a 2).val 0)]) [0,1] [] []))))
theorem Pd(g:Nat)(t:Tb)(k:Nat)(b:t.l.length≤1000000)(h:aU (bH k) t.l=t.l.length):aa VA 270 #[pt g 0,iN k] [pk (dS g t)] [0] (λ_=>[pk (dS g t)]) (λ_=> .bool false):=aa.pkZ Tryz.func270 λL a=>by
 obtain⟨v,rfl⟩:=a;refine⟨[1],λ_=>[dZ v t.l],?_,rfl,λE=>⟨rfl,rfl,⟨_,rfl⟩⟩⟩;exact fG Tryz.func270 λw cs=>r0 [] [(4,.bool false)] [] (r0 [(2,.c [0,1] [] (aa.at (rd':=[ob g #[v,iN t.I,.func (.func 178) #[] #[]] 356,dZ v t.l]) (uP g v t.l t.I k Om Om) (aK (bM (λ_ h=>ar.sq h) (λ_ h=>h)))))] [(5,i6 (-1))] [] (rT [] 10 (r0 [] [(4,.bool false)] [4] (lf ab.zero [1] [(0,0)] []))))
theorem Pe(g:Nat)(t:Tb)(k:Nat)(b:t.l.length≤1000000):aa VA 238 #[pt g 0,iN k] [pk (dS g t)] [0] (λ_=>[pk (dS g t)]) (λ_=> .tuple #[.agg #[iN ((da t k).l),iN ((da t k).a)],.bool (uO t k)]):=by
 unfold da uO;by_cases h:aU (bH k) t.l=t.l.length
 ·rw[ALifp h,cx h];exact O7 g t k b h
 ·rw[ALifn h,bh h];exact O6 g t k b (by have:=nO (bH k) t.l;omega)
theorem Pf(g:Nat)(t:Tb)(k l a:Nat)(c:t.l.length≤1000)(h1:1≤t.I):aa VA 239 #[pt g 0,iN k,.agg #[iN l,iN a]] [pk (dS g t)] [0] (λ_=>[pk (dS g (oL t k l a))]) (λ_=> .tuple #[iN (Dy t k),.bool (Dz t k)]):=by
 unfold oL Dy Dz;by_cases h:aU (bH k) t.l=t.l.length
 ·by_cases b:t.l.length=t.I
  ·rw[ALifp h,ALifp b,ALifp ⟨h,b⟩,cx h,cx b];exact Pb g t k l a c Om h b
  ·rw[ALifp h,ALifn b,ALifn (λq=>b q.2),cx h,bh b];exact O9 g t k l a c h b
 ·rw[ALifn h,ALifn (λq=>h q.1),bh h];exact O8 g t k l a Om (by have:=nO (bH k) t.l;omega)
theorem Pg(g:Nat)(t:Tb)(k:Nat)(a:t.l.length≤1000000):aa VA 270 #[pt g 0,iN k] [pk (dS g t)] [0] (λ_=>[pk (dS g (oM t k))]) (λ_=> .bool (uO t k)):=by
 unfold oM uO;by_cases h:aU (bH k) t.l=t.l.length
 ·rw[ALifp h,cx h];exact Pd g t k a h
 ·rw[ALifn h,bh h];exact Pc g t k a (by have:=nO (bH k) t.l;omega)
theorem DC(g:Nat)(v:Value)(rs:List Bk)(j c d e f h i r:Nat)(k:r<rs.length):aa VA 236 #[pt g 0,iN r] [ob g #[iN c,iN d,iN e,iN f,iN h,iN i,v,pt j 0] 294,.p (aH xZ v rs)] [] N0 (λ_=> .bool true):=by
 exact fO Tryz.func236 1 rfl λb a=>fG Tryz.func236 λw cs=>r0 [] [(4,.bool false)] [] (r0 [(7,.m (ld 0 (v))),(8,eD a.1 1),] [(4,.bool ((decide (0≤(r:Int)))&&(decide ((r:Int)<(rs.length:Int)))))] [4] (ak (.bool ((decide (0≤(r:Int)))&&(decide ((r:Int)<(rs.length:Int))))) ab.zero (by exact ALca Value.bool (by simp only[VK,decide_eq_true_eq];omega)) [] [(0,0),(1,1)] []))
theorem DD(g b:Nat)(c:Tk)(d:dO c)(r p n:Nat)(x:r<c.F.length)(u:n≤65536):aa VA 206 #[pt g 0,iN r,iN p,iN n] [pk (aC g b c)] [0] (λ_=>[pk (aC g b (ft c r p n))]) (λ_=> .tuple #[.agg #[.bool (cN c.lr ((c.F.getD r bg).l) n),.bool (cN c.lp ((da c.t p).l) n)],i6 0]):=aa.pkZ Tryz.func206 λL t=>by
 obtain⟨v,rfl⟩:=t;refine⟨[1,2],λ_=>[j9 v (c.F.set r (⟨cp ((c.F.getD r bg).l) n,(c.F.getD r bg).a⟩:Bk)),pk (dS b (oL c.t p (cp ((da c.t p).l) n) ((da c.t p).a)))],?_,rfl,λE=>⟨rfl,rfl,⟨_,rfl⟩⟩⟩;have y:=d.t.l;have z:=d.t.r;have o:=d.t.r1;have A:=d.n;have j:=d.b r x;have k:=d.t.get d.p.e1 p;refine fG Tryz.func206 λw cs=>ra (λf=>[(8,pt (B0 f) 0),(9,i6 0)]) (λf=>[ob (B0 f) #[.bool false,.bool false] 339]) λf=>r0 [(2,.c [0,1] [] (aa.at (rd':=[ob g #[iN c.lr,iN c.er,iN c.lp,iN c.ep,iN c.I,iN c.H,v,pt b 0] 294,j9 v c.F]) (DC g v c.F b c.lr c.er c.lp c.ep c.I c.H r Om) (aK (bM (λ_ h=>ar.sq h) (λ_ h=>h)))))] [(20,.bool (decide ((n:Int)<0)))] [] ?_;have q:(decide ((n:Int)<0))=false:=by exact bh Om
 exact cF (decide ((n:Int)<0)) q (ra (λe=>[(10,pt (B0 e) 0)]) (λe=>[ob (B0 e) #[.bool false,.bool false] 339]) λe=>rr (λ_=>[(3,.m (ld 0 (v))),(8,.m (ld 0 (v))),(10,cH kC v c.F 1 r),(11,pr kC v c.F 1 r 0 2),(16,.m (ls 0 ([iN c.lr,iN c.er]))),(18,.c [] [] (Di c.lr c.er ((c.F.getD r bg).l) ((c.F.getD r bg).a) n (by exact d.r) (by exact j) Om)),(22,cH kC v c.F 1 r),(23,qB kC v c.F 1 r (⟨cp ((c.F.getD r bg).l) n,(c.F.getD r bg).a⟩:Bk)),(25,.s 4)]) N0 [] (λ_ L=>(L.set 1 (j9 v (c.F.set r (⟨cp ((c.F.getD r bg).l) n,(c.F.getD r bg).a⟩:Bk)))).set 4 (ob (B0 e) #[.bool (cN c.lr ((c.F.getD r bg).l) n),.bool false] 339)) λB=>rr (λ_=>[(3,.m (ld 0 (pt b 0))),(5,.c [2] [2] (Pe b c.t p Om)),(9,.m (al 5)),(10,.s 5)]) (λi=>[(11,pt ((i 9).y 0) 0)]) [] (λi L=>L++[ob ((i 9).y 0) #[iN ((da c.t p).l),iN ((da c.t p).a)] 290]) λi=>rr (λ_=>[(0,.m (ls 5 ([iN ((da c.t p).l),iN ((da c.t p).a)]))),(5,.m (ls 0 ([iN c.lp,iN c.ep]))),(7,.c [] [] (Di c.lp c.ep ((da c.t p).l) ((da c.t p).a) n (by exact d.p) (by exact k) Om)),(11,.s 5),(13,.s 4)]) N0 [] (λ_ L=>(L.set 4 (ob (B0 e) #[.bool (cN c.lr ((c.F.getD r bg).l) n),.bool (cN c.lp ((da c.t p).l) n)] 339)).set 5 (ob ((i 9).y 0) #[iN (cp ((da c.t p).l) n),iN ((da c.t p).a)] 290)) λC=>rs [(3,.l 0),(5,.l 5),(6,.c [2] [2] (Pf b c.t p (cp ((da c.t p).l) n) ((da c.t p).a) Om Om))] 2 ((pk (dS b (oL c.t p (cp ((da c.t p).l) n) ((da c.t p).a))))) (rr (λ_=>[(0,.l 4),(1,.s 3)]) (λ_=>[(9,i6 0)]) [9] (λ_ L=>L.set 3 (ob (B0 f) #[.bool (cN c.lr ((c.F.getD r bg).l) n),.bool (cN c.lp ((da c.t p).l) n)] 339)) λD=>lf ab.zero [1,2] [(0,0)] [3]))
theorem Ph(g a:Nat)(c:Tk)(b:dO c)(p:Nat):aa VA 249 #[pt g 0,iN p] [pk (aC g a c)] [0] (λ_=>[pk (aC g a (pM c p))]) (λ_=> .tuple #[]):=aa.pkZ Tryz.func249 λL e=>by
 obtain⟨v,rfl⟩:=e;refine⟨[1,2],λ_=>[j9 v c.F,pk (dS a (oM c.t p))],?_,rfl,λE=>⟨rfl,rfl,⟨_,rfl⟩⟩⟩;have f:=b.t.l;have h:=b.t.r;have d:=b.t.r1;have i:=b.n;refine fG Tryz.func249 λw cs=>rs [(3,.l 0),(5,.c [2] [2] (Pg a c.t p Om))] 2 ((pk (dS a (oM c.t p)))) ?_;exact eo ab.zero [1,2] [(0,0)] []
theorem Pj(g a:Nat)(c:Tk)(b:dO c)(r:Nat)(k:r<c.F.length):aa VA 250 #[pt g 0,iN r] [pk (aC g a c)] [0] (λ_=>[pk (aC g a (oN c r))]) (λ_=> .tuple #[]):=aa.pkZ Tryz.func250 λL e=>by
 obtain⟨v,rfl⟩:=e;refine⟨[1,2],λ_=>[j9 v (c.F.set r (⟨0,0⟩:Bk)),pk (dS a c.t)],?_,rfl,λE=>⟨rfl,rfl,⟨_,rfl⟩⟩⟩;have f:=b.t.l;have i:=b.t.r;have d:=b.t.r1;have j:=b.n;refine fG Tryz.func250 λw cs=>rT [(2,.c [0,1] [] (aa.at (rd':=[ob g #[iN c.lr,iN c.er,iN c.lp,iN c.ep,iN c.I,iN c.H,v,pt a 0] 294,j9 v c.F]) (DC g v c.F a c.lr c.er c.lp c.ep c.I c.H r Om) (aK (bM (λ_ h=>ar.sq h) (λ_ h=>h)))))] 6 (rs [(3,.l 0),(6,cH kC v c.F 1 r),(7,qB kC v c.F 1 r (⟨0,0⟩:Bk))] 1 (j9 v (c.F.set r (⟨0,0⟩:Bk))) ?_);exact eo ab.zero [1,2] [(0,0)] []
section
def aY{α:Type}(f:α→α)(l:List α)(k:Nat):List α:=(l.take k).map f++l.drop k
section
variable {α:Type} {f:α→α} {l:List α} {k:Nat} {d:α}
theorem rO(f:α→α)(l:List α)(k:Nat):(aY f l k).length=l.length:=by unfold aY;rw[VC,VJ,VI,VO];omega
theorem uQ(a:k<l.length):(aY f l k).getD k d=l.getD k d:=by
 unfold aY;rw[VD,List.getElem?_append_right (by rw[VJ,VI];omega),VJ,VI,Wc,VD]
 congr 2;omega
theorem DE(f:α→α)(l:List α):aY f l 0=l:=by unfold aY;simp
theorem DF(f:α→α)(l:List α):aY f l l.length=l.map f:=by unfold aY;simp
theorem DG(a:k<l.length):(aY f l k).set k (f (l.getD k d))=aY f l (k+1):=by
 unfold aY;rw[V5 _ _ (by rw[VJ,VI];omega),VJ,VI,show k-min k l.length=0 by omega,V1 a,VX,VF a,List.map_append,VR,VD,VF a];rfl
end
def dT(ev:Nat)(b:Bk):Bk:=⟨g8 ev b.l b.a,g9 ev b.l b.a⟩
def cR(ev:Nat)(p:Pa):Pa:=⟨p.k,g8 ev p.l p.a,g9 ev p.l p.a⟩
theorem Pk{ev:Nat}{l:List Bk}{k:Nat}(b:k<l.length):(aY (dT ev) l k).set k ⟨g8 ev ((aY (dT ev) l k).getD k bg).l ((aY (dT ev) l k).getD k bg).a,g9 ev ((aY (dT ev) l k).getD k bg).l ((aY (dT ev) l k).getD k bg).a⟩=aY (dT ev) l (k+1):=by
 rw[←DG (d:=bg) b,uQ b];rfl
theorem Pm{ev:Nat}{l:List Pa}{k:Nat}(b:k<l.length):(aY (cR ev) l k).set k ⟨((aY (cR ev) l k).getD k bp).k,g8 ev ((aY (cR ev) l k).getD k bp).l ((aY (cR ev) l k).getD k bp).a,g9 ev ((aY (cR ev) l k).getD k bp).l ((aY (cR ev) l k).getD k bp).a⟩=aY (cR ev) l (k+1):=by
 rw[←DG (d:=bp) b,uQ b];rfl
def rP(t:Tb)(ev:Nat):Tb:={t with l:=aY (cR ev) t.l t.l.length}
def mo(c:Tk):Tk:={c with F:=aY (dT c.er) c.F c.F.length,t:=rP c.t c.ep}
end
theorem Pn(b g e:Nat)(c:Tk)(hp:iq c.lp c.ep)(v:Value)(k l a:Nat)(f:eS c.ep l a):aa VA 210 #[iN k,.agg #[iN l,iN a],pt b 0] [ob b #[pt g 0] 120,ob g #[iN c.lr,iN c.er,iN c.lp,iN c.ep,iN c.I,iN c.H,v,pt e 0] 294] [] N0 (λ_=> .agg #[iN (g8 c.ep l a),iN (g9 c.ep l a)]):=by
 exact fG Tryz.func210 λw cs=>ra (λd=>[(4,pt (B0 d) 0),(5,pt (B1 d) 0)]) (λd=>[ob (B0 d) #[iN l,iN a] 290,ob (B1 d) #[i6 0,i6 0] 290]) λd=>rs [(0,.l 2),(1,.l 0),(5,.l 1),(6,.c [] [] (Dj c.lp c.ep l a hp f)),(7,.s 3)] 3 (ob (B1 d) #[iN (g8 c.ep l a),iN (g9 c.ep l a)] 290) (lf ab.zero [] [(0,0),(1,1)] [3])
theorem Po(e:Nat)(t:Tb)(b g:Nat)(c:Tk)(o:dO c)(ht:hZ c.ep t)(v:Value):aa VA 209 #[pt e 0,.func (.func 210) #[] #[pt b 0]] [pk (dS e t),ob b #[pt g 0] 120,ob g #[iN c.lr,iN c.er,iN c.lp,iN c.ep,iN c.I,iN c.H,v,pt e 0] 294] [0] (λ_=>[pk (dS e (rP t c.ep))]) (λ_=> .tuple #[]):=aa.pkZ Tryz.func209 λL n=>by
 obtain⟨d,rfl⟩:=n;refine⟨[1],λ_=>[dZ d (aY (cR c.ep) t.l t.l.length)],?_,rfl,λE=>⟨rfl,rfl,⟨_,rfl⟩⟩⟩;have r:=ht.l;have u:=ht.r;refine fG Tryz.func209 λw cs=>r0 [(3,.l 0),(4,e8 eF d t.l 1)] [(9,d),(10,iN t.l.length),(11,i6 0)] [] ?_;refine lq (λk=>k≤t.l.length) (λk=>[(11,iN k)]) (λk L=>L.set 1 (dZ d (aY (cR c.ep) t.l k))) (λk=>t.l.length-k) 0 Om Kr (by rw[DE];kernel_rfl) (λk p=>?_);have q:=rO (cR c.ep) t.l k;refine r0 [] [(12,.bool (decide ((k:Int)<(t.l.length:Int))))] [] ?_;refine b0 (k:Int) (t.l.length:Int) (λj h=>?_) λj h=>?_
 ·refine rr (λ_=>[(1,cH eF d (aY (cR c.ep) t.l k) 1 k),(2,pr eF d (aY (cR c.ep) t.l k) 1 k 0 3),(5,.s 4)]) (λf=>[(5,pt (B3 f) 0),(4,iN k)]) [] (λf L=>L++[ob (B3 f) #[iN (((aY (cR c.ep) t.l k).getD k bp).k),iN (((aY (cR c.ep) t.l k).getD k bp).l),iN (((aY (cR c.ep) t.l k).getD k bp).a)] 386]) λf=>?_;have i:eS c.ep ((aY (cR c.ep) t.l k).getD k bp).l ((aY (cR c.ep) t.l k).getD k bp).a:=by rw[uQ Om];exact ht.b k Om
  exact rs [(3,.m (ld 0 (d))),(7,.m (ld 4 (iN (((aY (cR c.ep) t.l k).getD k bp).k)))),(9,.m (ls 4 ([iN (((aY (cR c.ep) t.l k).getD k bp).l),iN (((aY (cR c.ep) t.l k).getD k bp).a)]))),(10,.c [2,3] [] (Pn b g e c o.p v (((aY (cR c.ep) t.l k).getD k bp).k) (((aY (cR c.ep) t.l k).getD k bp).l) (((aY (cR c.ep) t.l k).getD k bp).a) i)),(11,cH eF d (aY (cR c.ep) t.l k) 1 k),(12,tB eF d (aY (cR c.ep) t.l k) 1 (k*3) 1),(13,Dx eF d (aY (cR c.ep) t.l k) 1 k 1 (⟨((aY (cR c.ep) t.l k).getD k bp).k,g8 c.ep (((aY (cR c.ep) t.l k).getD k bp).l) (((aY (cR c.ep) t.l k).getD k bp).a),g9 c.ep (((aY (cR c.ep) t.l k).getD k bp).l) (((aY (cR c.ep) t.l k).getD k bp).a)⟩:Pa) [iN (g8 c.ep (((aY (cR c.ep) t.l k).getD k bp).l) (((aY (cR c.ep) t.l k).getD k bp).a)),iN (g9 c.ep (((aY (cR c.ep) t.l k).getD k bp).l) (((aY (cR c.ep) t.l k).getD k bp).a))] Kr Om)] 1 (dZ d ((aY (cR c.ep) t.l k).set k (⟨((aY (cR c.ep) t.l k).getD k bp).k,g8 c.ep (((aY (cR c.ep) t.l k).getD k bp).l) (((aY (cR c.ep) t.l k).getD k bp).a),g9 c.ep (((aY (cR c.ep) t.l k).getD k bp).l) (((aY (cR c.ep) t.l k).getD k bp).a)⟩:Pa))) (r0 [(0,ad k 1)] [(11,iN (k+1))] [11] (le (k+1) Om Om Kr [0,1,2,3] (by rw[←Pm Om];kernel_rfl)))
 obtain rfl:t.l.length=k:=by omega
 refine lx ?_;exact eo ab.zero [1] [(0,0),(2,2),(3,3)] []
theorem Pp(g d:Nat)(c:Tk)(b:dO c):aa VA 164 #[pt g 0] [pk (aC g d c)] [0] (λ_=>[pk (aC g d (mo c))]) (λ_=> .tuple #[]):=aa.pkZ Tryz.func164 λL o=>by
 obtain⟨v,rfl⟩:=o;refine⟨[1,2],λ_=>[j9 v (aY (dT c.er) c.F c.F.length),pk (dS d (rP c.t c.ep))],?_,rfl,λE=>⟨rfl,rfl,⟨_,rfl⟩⟩⟩;have r:=b.t.l;have t:=b.t.r;have j:=b.t.r1;have u:=b.n;refine fG Tryz.func164 λw cs=>ra (λe=>[(1,pt (B0 e) 0)]) (λe=>[ob (B0 e) #[pt g 0] 120]) λe=>r0 [(0,.l 3),(3,.l 0),(4,e8 kC v c.F 1)] [(7,v),(8,iN c.F.length),(9,i6 0)] [] ?_;refine lq (λk=>k≤c.F.length) (λk=>[(9,iN k)]) (λk L=>L.set 1 (j9 v (aY (dT c.er) c.F k))) (λk=>c.F.length-k) 0 Om Kr (by rw[DE];kernel_rfl) (λk p=>?_);have q:=rO (dT c.er) c.F k;refine r0 [] [(10,.bool (decide ((k:Int)<(c.F.length:Int))))] [] ?_;refine b0 (k:Int) (c.F.length:Int) (λn h=>?_) λn h=>?_
 ·refine rr (λ_=>[(1,cH kC v (aY (dT c.er) c.F k) 1 k),(2,pr kC v (aY (dT c.er) c.F k) 1 k 0 2),(5,.s 4)]) (λf=>[(3,pt (B3 f) 0),(2,iN k)]) [] (λf L=>L++[ob (B3 f) #[iN (((aY (dT c.er) c.F k).getD k bg).l),iN (((aY (dT c.er) c.F k).getD k bg).a)] 290]) λf=>?_;have i:eS c.er ((aY (dT c.er) c.F k).getD k bg).l ((aY (dT c.er) c.F k).getD k bg).a:=by rw[uQ Om];exact b.b k Om
  exact rs [(0,.m (ld 3 (pt g 0))),(3,.m (ld 0 (v))),(5,.m (ls 4 ([iN (((aY (dT c.er) c.F k).getD k bg).l),iN (((aY (dT c.er) c.F k).getD k bg).a)]))),(6,.m (ld 3 (pt g 0))),(10,.m (ls 0 ([iN c.lr,iN c.er]))),(11,.c [] [] (Dj c.lr c.er (((aY (dT c.er) c.F k).getD k bg).l) (((aY (dT c.er) c.F k).getD k bg).a) b.r i)),(12,cH kC v (aY (dT c.er) c.F k) 1 k),(13,qB kC v (aY (dT c.er) c.F k) 1 k (⟨g8 c.er (((aY (dT c.er) c.F k).getD k bg).l) (((aY (dT c.er) c.F k).getD k bg).a),g9 c.er (((aY (dT c.er) c.F k).getD k bg).l) (((aY (dT c.er) c.F k).getD k bg).a)⟩:Bk))] 1 (j9 v ((aY (dT c.er) c.F k).set k (⟨g8 c.er (((aY (dT c.er) c.F k).getD k bg).l) (((aY (dT c.er) c.F k).getD k bg).a),g9 c.er (((aY (dT c.er) c.F k).getD k bg).l) (((aY (dT c.er) c.F k).getD k bg).a)⟩:Bk))) (r0 [(0,ad k 1)] [(9,iN (k+1))] [9] (le (k+1) Om Om Kr [0,1,2,3] (by rw[←Pk Om];kernel_rfl)))
 obtain rfl:c.F.length=k:=by omega
 refine lx (rs [(0,.l 3),(3,.l 0),(5,.c [2,3,0] [2] (Po d c.t (B0 e) g c b b.t v))] 2 ((pk (dS d (rP c.t c.ep)))) ?_);exact eo ab.zero [1,2] [(0,0)] []
theorem Pq(room:Nat)(h1:1≤room)(h2:room≤256):aa VA 177 #[iN room,.func (.func 178) #[] #[]] [] [] (λE=>[ob (E.y 0) #[.slice none 0 0,iN room,.func (.func 178) #[] #[]] 356]) (λE=> .tuple #[pt ((E.y 0)) 0,i6 0]):=by
 refine fG Tryz.func177 λw cs=>r0 [] [(4,.pointer none),(5,i6 0)] [] (r0 [] [(11,.bool ((decide ((room:Int)<1))||(decide (256<(room:Int)))))] [] ?_);have b:((decide ((room:Int)<1))||(decide (256<(room:Int))))=false:=by rw[VW];exact⟨bh Om,bh Om⟩
 exact cF ((decide ((room:Int)<1))||(decide (256<(room:Int)))) b (rr N0 (λa=>[(4,pt (B3 a) 0),(5,i6 0)]) [4,5] (λa L=>L++[ob (B3 a) #[.slice none 0 0,iN room,.func (.func 178) #[] #[]] 356]) λa=>lf (.l [(a 3).y 0] [] []) [0] [] [])
theorem Pr(room:Nat)(h1:1≤room)(h2:room≤256):aa VA 177 #[iN room,.func (.func 178) #[] #[]] [] [] (λE=>[pk (dS (E.y 0) ⟨[],room⟩)]) (λE=> .tuple #[pt (E.y 0) 0,i6 0]):=(Pq room h1 h2).outs λE b a=>ya ⟨_,rfl⟩ a
theorem DH(f d e b a heavy:Int):aa VA 110 #[.agg #[i6 f,i6 d,i6 e,i6 b,i6 a,i6 heavy]] [] [] N0 (λ_=> .bool (((((gM f d&&gM e b)&&decide (1≤a))&&decide (a≤256))&&decide (1≤heavy))&&decide (heavy≤65536))):=by
 exact fG Tryz.func110 λw cs=>ra (λg=>[(1,pt (B0 g) 0),(2,.bool false)]) (λg=>[ob (B0 g) #[i6 f,i6 d,i6 e,i6 b,i6 a,i6 heavy] 29]) λg=>r0 [(1,.m (ls 0 ([i6 f,i6 d]))),(2,.c [] [] (x8 f d)),(5,.m (ls 0 ([i6 e,i6 b]))),(6,.c [] [] (x8 e b)),(10,.m (ld 0 (i6 a))),(15,.m (ld 0 (i6 a))),(20,.m (ld 0 (i6 heavy))),(25,.m (ld 0 (i6 heavy))),] [(2,.bool ((((((gM f d)&&(gM e b))&&(decide (1≤a)))&&(decide (a≤256)))&&(decide (1≤heavy)))&&(decide (heavy≤65536))))] [2] (ak (.bool ((((((gM f d)&&(gM e b))&&(decide (1≤a)))&&(decide (a≤256)))&&(decide (1≤heavy)))&&(decide (heavy≤65536)))) ab.zero Vm [] [] [])
def oO(e c d b a heavy f:Nat):Tk:=⟨e,c,d,b,a,heavy,VB f bg,⟨[],a⟩⟩
theorem Ps(h f g e a heavy b:Nat)(m:iq h f)(k:iq g e)(h1:1≤a)(h2:a≤256)(o:1≤heavy)(n:heavy≤65536)(p:1≤b)(q:b≤8):aa VA 138 #[.agg #[iN h,iN f,iN g,iN e,iN a,iN heavy],iN b] [] [] (λE=>[ob (E.y 0) #[iN h,iN f,iN g,iN e,iN a,iN heavy,(E.val 0),pt ((E.y 1)) 0] 294,j9 (E.val 0) (VB b bg),pk (dS (E.y 1) ⟨[],a⟩)]) (λE=> .tuple #[pt ((E.y 0)) 0,i6 0]):=by
 refine fG Tryz.func138 λw cs=>ra (λj=>[(2,pt (B0 j) 0),(4,.pointer none),(5,i6 0)]) (λj=>[ob (B0 j) #[iN h,iN f,iN g,iN e,iN a,iN heavy] 29]) λj=>rF [(0,.l 0),(1,.c [] [] (aa.v ((DH (h:Int) (f:Int) (g:Int) (e:Int) (a:Int) (heavy:Int))) λ_=>ALca Value.bool (show(((((gM (h:Int) (f:Int)&&gM (g:Int) (e:Int))&&decide (1≤(a:Int)))&&decide ((a:Int)≤256))&&decide (1≤(heavy:Int)))&&decide ((heavy:Int)≤65536))=true from(by rw[m.r,k.r];simp only[VK,decide_eq_true_eq,true_and];omega))))] 8 (r0 [] [(12,.bool ((decide ((b:Int)<1))||(decide (8<(b:Int)))))] [] ?_);have n:((decide ((b:Int)<1))||(decide (8<(b:Int))))=false:=by rw[VW];exact⟨bh Om,bh Om⟩
 exact cF ((decide ((b:Int)<1))||(decide (8<(b:Int)))) n (rr (λ_=>[(1,.l 0),(2,.c [] [1] (Pr a Om Om))]) (λi=>[(6,pt ((B2 i)) 0),(7,i6 0)]) [] (λi L=>L++[pk (dS (B2 i) ⟨[],a⟩)]) λi=>rF [] 26 (rr (λ_=>[(0,.l 0),(2,qI kC 2 b)]) (λd=>[(4,pt (B5 d) 0),(5,i6 0)]) [4,5] (λd L=>L++[j9 (.slice (some ⟨(d 2).y 0,0,none⟩) b b) (VB b bg),ob (B5 d) #[iN h,iN f,iN g,iN e,iN a,iN heavy,.slice (some ⟨(d 2).y 0,0,none⟩) b b,pt ((B2 i)) 0] 294]) λd=>lf (.l [(d 5).y 0,(B2 i)] [] [.slice (some ⟨(d 2).y 0,0,none⟩) b b]) [3,2,1] [] []))
theorem Pt(f d e c a heavy b:Nat)(h:iq f d)(g:iq e c)(h1:1≤a)(h2:a≤256)(i:1≤heavy)(j:heavy≤65536)(k:1≤b)(l:b≤8):aa VA 138 #[.agg #[iN f,iN d,iN e,iN c,iN a,iN heavy],iN b] [] [] (λE=>[pk (aC (E.y 0) (E.y 1) (oO f d e c a heavy b))]) (λE=> .tuple #[pt ((E.y 0)) 0,i6 0]):=(Ps f d e c a heavy b h g h1 h2 i j k l).outs λE n m=>rn ⟨_,rfl⟩ m
def kD(r s b m c way a:Int):Bool:=(((((iJ r s b m c&&decide (0≤way))&&decide (way<4))&&decide (0≤a))&&decide (a≤64))&&decide (a<r*b*m))
theorem Pu(R S B M C:Nat)(d:cE R S B M C)(way a:Int):aa VA 106 #[.agg #[iN R,iN S,iN B,iN M,iN C,i6 way,i6 a]] [] [] N0 (λ_=> .bool (kD R S B M C way a)):=by
 exact fG Tryz.func106 λw cs=>ra (λb=>[(1,pt (B0 b) 0),(2,.bool false)]) (λb=>[ob (B0 b) #[iN R,iN S,iN B,iN M,iN C,i6 way,i6 a] 25]) λb=>r0 [(1,.m (ls 0 ([iN R,iN S,iN B,iN M,iN C]))),(3,.m (ld 0 (i6 way))),(4,.c [] [] (xG (R:Int) (S:Int) (B:Int) (M:Int) (C:Int) way)),(7,.m (ld 0 (i6 a))),(12,.m (ld 0 (i6 a))),(17,.m (ld 0 (i6 a))),(19,.m (ls 0 ([iN R,iN S,iN B,iN M,iN C]))),(20,.c [] [] (k9 R S B M C d)),] [(2,.bool ((((((iJ (R:Int) (S:Int) (B:Int) (M:Int) (C:Int))&&(decide (0≤way)))&&(decide (way<4)))&&(decide (0≤a)))&&(decide (a≤64)))&&(decide (a<(((R*B)*M:Nat):Int)))))] [2] (ak (.bool ((((((iJ (R:Int) (S:Int) (B:Int) (M:Int) (C:Int))&&(decide (0≤way)))&&(decide (way<4)))&&(decide (0≤a)))&&(decide (a≤64)))&&(decide (a<(((R*B)*M:Nat):Int))))) ab.zero (by unfold kD;rw[VM,VM]) [] [] [])
theorem Pv(r s b m c way a:Int)(f:iJ r s b m c=false):aa VA 106 #[.agg #[i6 r,i6 s,i6 b,i6 m,i6 c,i6 way,i6 a]] [] [] N0 (λ_=> .bool (kD r s b m c way a)):=by
 exact fG Tryz.func106 λw cs=>ra (λe=>[(1,pt (B0 e) 0),(2,.bool false)]) (λe=>[ob (B0 e) #[i6 r,i6 s,i6 b,i6 m,i6 c,i6 way,i6 a] 25]) λe=>r0 [(1,.m (ls 0 ([i6 r,i6 s,i6 b,i6 m,i6 c]))),(3,.m (ld 0 (i6 way))),(4,.c [] [] (aa.v ((xG r s b m c way)) λ_=>ALca Value.bool (show(((iJ r s b m c)&&(decide (0≤way)))&&(decide (way<4)))=false from(by rw[f];rfl)))),(6,.d),(7,.d),(8,.d),(11,.d),(12,.d),(13,.d),(16,.d),(17,.d),(18,.d),(19,.d),(20,.d),(21,.d)] [(2,.bool false)] [2] (ak (.bool false) ab.zero (by unfold kD;rw[f];rfl) [] [] [])
theorem Pw(r s b m c way a:Int):aa VA 106 #[.agg #[i6 r,i6 s,i6 b,i6 m,i6 c,i6 way,i6 a]] [] [] N0 (λ_=> .bool (kD r s b m c way a)):=by
 cases d:iJ r s b m c with
 | false=>exact Pv r s b m c way a d
 | true=>
  obtain⟨R,S,B,M,C,rfl,rfl,rfl,rfl,rfl,e⟩:=Cw d;exact Pu R S B M C e way a
def mq(r s b m c way e mode i g h f a heavy d:Int):Bool:=((((kD r s b m c way e&&((mode==1)||(mode==2)))&&(((((gM i g&&gM h f)&&decide (1≤a))&&decide (a≤256))&&decide (1≤heavy))&&decide (heavy≤65536)))&&decide (1≤d))&&decide (d≤256))
theorem DI(r s b m c way e mode j h i g a heavy d:Int)(f:Bool):aa VA 79 #[.agg #[i6 r,i6 s,i6 b,i6 m,i6 c,i6 way,i6 e,i6 mode,i6 j,i6 h,i6 i,i6 g,i6 a,i6 heavy,i6 d,.bool f]] [] [] N0 (λ_=> .bool (mq r s b m c way e mode j h i g a heavy d)):=by
 exact fG Tryz.func79 λw cs=>ra (λk=>[(1,pt (B0 k) 0),(2,.bool false)]) (λk=>[ob (B0 k) #[i6 r,i6 s,i6 b,i6 m,i6 c,i6 way,i6 e,i6 mode,i6 j,i6 h,i6 i,i6 g,i6 a,i6 heavy,i6 d,.bool f] 31]) λk=>r0 [(1,.m (ls 0 ([i6 r,i6 s,i6 b,i6 m,i6 c,i6 way,i6 e]))),(2,.c [] [] (Pw r s b m c way e)),(5,.m (ld 0 (i6 mode))),(6,.c [] [] (oA mode)),(10,.m (ls 0 ([i6 j,i6 h,i6 i,i6 g,i6 a,i6 heavy]))),(11,.c [] [] (DH j h i g a heavy)),(15,.m (ld 0 (i6 d))),(20,.m (ld 0 (i6 d))),] [(2,.bool (((((kD r s b m c way e)&&((mode==1)||(mode==2)))&&(((((gM j h&&gM i g)&&decide (1≤a))&&decide (a≤256))&&decide (1≤heavy))&&decide (heavy≤65536)))&&(decide (1≤d)))&&(decide (d≤256))))] [2] (ak (.bool (((((kD r s b m c way e)&&((mode==1)||(mode==2)))&&(((((gM j h&&gM i g)&&decide (1≤a))&&decide (a≤256))&&decide (1≤heavy))&&decide (heavy≤65536)))&&(decide (1≤d)))&&(decide (d≤256)))) ab.zero Vm [] [] [])
structure Cf where
 R:Nat
 S:Nat
 B:Nat
 M:Nat
 C:Nat
 G:Nat
 res:Nat
 E:Nat
 lr:Nat
 er:Nat
 lp:Nat
 ep:Nat
 I:Nat
 H:Nat
 log:Nat
 W:Bool
abbrev cA(c:Cf):Array Value:=#[i6 (c.R:Int),i6 (c.S:Int),i6 (c.B:Int),i6 (c.M:Int),i6 (c.C:Int),i6 (c.G:Int),i6 (c.res:Int),i6 (c.E:Int),i6 (c.lr:Int),i6 (c.er:Int),i6 (c.lp:Int),i6 (c.ep:Int),i6 (c.I:Int),i6 (c.H:Int),i6 (c.log:Int),.bool c.W]
abbrev lA(c:Cf)(a b d t:Nat):Array Value:=#[i6 (c.R:Int),i6 (c.S:Int),i6 (c.B:Int),i6 (c.M:Int),i6 (c.C:Int),i6 (c.G:Int),i6 (c.res:Int),i6 (c.E:Int),i6 (c.lr:Int),i6 (c.er:Int),i6 (c.lp:Int),i6 (c.ep:Int),i6 (c.I:Int),i6 (c.H:Int),i6 (c.log:Int),.bool c.W,pt a 0,pt b 0,pt d 0,i6 (t:Int)]
structure cY (c:Cf):Prop where
 ly:g5 c.R c.S c.B c.M c.C c.G c.res
 E:c.E=1∨c.E=2
 r:iq c.lr c.er
 p:iq c.lp c.ep
 m1:1≤c.I
 m2:c.I≤256
 h1:1≤c.H
 h2:c.H≤65536
 l1:1≤c.log
 l2:c.log≤256
theorem Px{k:Nat}{w:World}(h:k<3):(Instr.index 228 (.agg #[i6 0,i6 0,i6 0]) (.int .i64 (k:Int))).run VA w= .ok (i6 0) w:=by
 rcases k with _ | _ | _ | k
 ·kernel_rfl
 ·kernel_rfl
 ·kernel_rfl
 ·omega
theorem g5.v{R S B M C way a:Nat}(h:g5 R S B M C way a):kD R S B M C way a=true:=by
 have b:=h.G;have c:=h.r64;have d:=h.rp;unfold kD;rw[h.Q.ok];simp only[Wj,VK,decide_eq_true_eq];rw[←VM,←VM];omega
theorem cY.v{c:Cf}(h:cY c):mq c.R c.S c.B c.M c.C c.G c.res c.E c.lr c.er c.lp c.ep c.I c.H c.log=true:=by
 have a:=h.m1;have b:=h.m2;have d:=h.h1;have f:=h.h2;have g:=h.l1;have i:=h.l2;unfold mq;rw[h.ly.v,h.r.r,h.p.r];simp only[Wj,VK,V0,decide_eq_true_eq,beq_iff_eq];rcases h.E with e | e<;>omega
theorem Py{r s b m c way a:Int}(h:kD r s b m c way a=true): ∃R S B M C w q:Nat,r=R∧s=S∧b=B∧m=M∧c=C∧way=w∧a=q∧g5 R S B M C w q:=by
 unfold kD at h;simp only[VK,decide_eq_true_eq] at h;obtain⟨⟨⟨⟨⟨f,g⟩,i⟩,j⟩,k⟩,d⟩:=h;obtain⟨R,S,B,M,C,rfl,rfl,rfl,rfl,rfl,e⟩:=Cw f;rw[←VM,←VM] at d;exact⟨R,S,B,M,C,way.toNat,a.toNat,rfl,rfl,rfl,rfl,rfl,by omega,by omega,e,by omega,by omega,by omega⟩
theorem Pz{r s b m c way f mode k i j g a heavy d:Int}(e:Bool)(h:mq r s b m c way f mode k i j g a heavy d=true): ∃q:Cf,r=q.R∧s=q.S∧b=q.B∧m=q.M∧c=q.C∧way=q.G∧f=q.res∧mode=q.E∧k=q.lr∧i=q.er∧j=q.lp∧g=q.ep∧a=q.I∧heavy=q.H∧d=q.log∧e=q.W∧cY q:=by
 unfold mq at h;simp only[VK,V0,decide_eq_true_eq,beq_iff_eq] at h;obtain⟨⟨⟨⟨p,D⟩,⟨⟨⟨⟨⟨t,hp⟩,u⟩,v⟩,x⟩,y⟩⟩,z⟩,A⟩:=h;obtain⟨R,S,B,M,C,w,q,rfl,rfl,rfl,rfl,rfl,rfl,rfl,l⟩:=Py p;obtain⟨k,i,rfl,rfl,o⟩:=De t;obtain⟨j,g,rfl,rfl,n⟩:=De hp;exact⟨⟨R,S,B,M,C,w,q,mode.toNat,k,i,j,g,a.toNat,heavy.toNat,d.toNat,e⟩,rfl,rfl,rfl,rfl,rfl,rfl,rfl,by show mode=(mode.toNat:Int);omega,rfl,rfl,rfl,rfl,by show a=(a.toNat:Int);omega,by show heavy=(heavy.toNat:Int);omega,by show d=(d.toNat:Int);omega,rfl,l,by show mode.toNat=1∨mode.toNat=2;omega,o,n,by show 1≤a.toNat;omega,by show a.toNat≤256;omega,by show 1≤heavy.toNat;omega,by show heavy.toNat≤65536;omega,by show 1≤d.toNat;omega,by show d.toNat≤256;omega⟩
theorem yd(c:Cf)(h:cY c):aa VA 79 #[.agg (cA c)] [] [] N0 (λ_=> .bool true):=by
 have a:=DI c.R c.S c.B c.M c.C c.G c.res c.E c.lr c.er c.lp c.ep c.I c.H c.log c.W;rwa [h.v] at a
theorem PA(c:Cf)(a:cY c):aa VA 114 #[.agg (cA c)] [] [] (λE=>[ob (E.y 0) #[iN c.R,iN c.S,iN c.B,iN c.M,iN c.C,iN c.G,iN c.res,iN c.E,iN c.lr,iN c.er,iN c.lp,iN c.ep,iN c.I,iN c.H,iN c.log,.bool c.W,pt ((E.y 1)) 0,pt ((E.y 2)) 0,pt ((E.y 3)) 0,i6 0] 122,pk (aq (E.y 1) ((E.y 4)) ((E.y 5)) ⟨lj c.R c.S c.B c.M c.C c.G c.res,lC,[]⟩),pk (aC (E.y 2) ((E.y 6)) (oO c.lr c.er c.lp c.ep c.I c.H c.R)),pk (aA (E.y 3) (oJ c.log))]) (λE=> .tuple #[pt ((E.y 0)) 0,i6 0]):=by
 have f:=a.ly;have p:=a.r;have o:=a.p;have y:=a.m1;have z:=a.m2;have q:=a.h1;have r:=a.h2;have v:=a.l1;have x:=a.l2;have A:=f.Q.bd.r1;have B:=f.Q.bd.r8;refine fG Tryz.func114 λw cs=>ra (λi=>[(1,pt (B0 i) 0),(2,.pointer none),(3,i6 0)]) (λi=>[ob (B0 i) (cA c) 31]) λi=>rF [(0,.l 0),(1,.c [] [] (yd c a))] 10 (rr (λ_=>[(0,.l 0)]) (λd=>[(4,pt (B2 d) 0)]) [] (λd L=>L++[ob (B2 d) #[iN c.R,iN c.S,iN c.B,iN c.M,iN c.C,iN c.G,iN c.res,iN c.E,iN c.lr,iN c.er,iN c.lp,iN c.ep,iN c.I,iN c.H,iN c.log,.bool c.W,.pointer none,.pointer none,.pointer none,i6 0] 122]) λd=>ra (λj=>[(5,pt (B0 j) 0)]) (λj=>[ob (B0 j) #[i6 0,i6 0,i6 0] 228]) λj=>rr (λb=>[(2,.m (ls 0 ([iN c.R,iN c.S,iN c.B,iN c.M,iN c.C,iN c.G,iN c.res]))),(3,.c [] [3] (N1 c.R c.S c.B c.M c.C c.G c.res f)),(9,.s 1),(11,.s 2)]) N0 [] (λb L=>L.set 1 (ob (B2 d) #[iN c.R,iN c.S,iN c.B,iN c.M,iN c.C,iN c.G,iN c.res,iN c.E,iN c.lr,iN c.er,iN c.lp,iN c.ep,iN c.I,iN c.H,iN c.log,.bool c.W,pt ((B3 b)) 0,.pointer none,.pointer none,i6 0] 122)++[pk (aq (B3 b) ((b 3).y 1) ((b 3).y 2) ⟨lj c.R c.S c.B c.M c.C c.G c.res,lC,[]⟩)]) λb=>rr (λe=>[(2,.m (ls 0 ([iN c.lr,iN c.er,iN c.lp,iN c.ep,iN c.I,iN c.H]))),(6,.m (ld 0 (iN c.R))),(7,.c [] [4] (Pt c.lr c.er c.lp c.ep c.I c.H c.R p o Om Om Om Om Om Om)),(13,.s 1),(15,.s 2)]) N0 [] (λe L=>L.set 1 (ob (B2 d) #[iN c.R,iN c.S,iN c.B,iN c.M,iN c.C,iN c.G,iN c.res,iN c.E,iN c.lr,iN c.er,iN c.lp,iN c.ep,iN c.I,iN c.H,iN c.log,.bool c.W,pt ((B3 b)) 0,pt ((B7 e)) 0,.pointer none,i6 0] 122)++[pk (aC (B7 e) ((e 7).y 1) (oO c.lr c.er c.lp c.ep c.I c.H c.R))]) λe=>rr (λh=>[(2,.m (ld 0 (iN c.log))),(3,.c [] [5] (OH c.log Om Om)),(9,.s 1),(11,.s 2)]) N0 [] (λh L=>L.set 1 (ob (B2 d) #[iN c.R,iN c.S,iN c.B,iN c.M,iN c.C,iN c.G,iN c.res,iN c.E,iN c.lr,iN c.er,iN c.lp,iN c.ep,iN c.I,iN c.H,iN c.log,.bool c.W,pt ((B3 b)) 0,pt ((B7 e)) 0,pt ((B3 h)) 0,i6 0] 122)++[pk (aA (B3 h) (oJ c.log))]) λh=>r0 [(0,.l 2)] [(48,.agg #[i6 0,i6 0,i6 0]),(49,i6 0)] [] ?_);refine lq (λk=>k≤3) (λk=>[(49,iN k)]) (λ_ L=>L) (λk=>3-k) 0 Om Kr Kr (λk u=>?_);refine r0 [] [(50,.bool (decide ((k:Int)<3)))] [] ?_;refine b0 (k:Int) 3 (λn g=>?_) λn g=>?_
 ·exact r0 [(0,.t (tv (Instr.index 228 (.agg #[i6 0,i6 0,i6 0]) (iN k)) (λ_=>Px Om)))] [(7,i6 0)] [] (rF [] 53 (r0 [(0,ad k 1)] [(49,iN (k+1))] [49] (le (k+1) Om Om Kr [0,1,2,3,4,5] Kr)))
 obtain rfl:k=3:=by omega
 exact lx (r0 [] [(2,pt (B2 d) 0),(3,i6 0)] [] (lf (.l [(d 2).y 0,(B3 b),(B7 e),(B3 h),(b 3).y 1,(b 3).y 2,(e 7).y 1] [] []) [1,3,4,5] [] []))
theorem m6(b e d a:Nat)(c:Cf)(time:Nat)(g:Lg)(f:fI g)(k i o:Nat):aa VA 205 #[pt b 0,iN k,iN i,iN o] [ob b (lA c e d a time) 122,pk (aA a g)] [1] (λ_=>[pk (aA a (bP g ⟨0,time,k,i,o⟩))]) (λ_=> .tuple #[]):=by
 refine fG Tryz.func205 λw cs=>rs [(3,.m (ld 0 (pt a 0))),(7,.m (ld 0 (iN time))),(12,.c [1] [1] (OQ a g ⟨0,time,k,i,o⟩ f))] 1 ((pk (aA a (bP g ⟨0,time,k,i,o⟩)))) ?_;exact eo ab.zero [1] [(0,0)] [] (hf:=by kernel_rfl)
theorem PB(g a b:Nat)(r:Rp)(d:aT r)(p:Nat)(hp:p<r.m.R*r.m.B*r.m.M):aa VA 64 #[pt a 0,iN p] [pk (aq g a b r)] [0] (λ_=>[pk (aq g a b r)]) (λ_=> .tuple #[iN (bq r.m p),i6 0]):=(CR a r.m d.m p hp).inW λL c=>⟨1,by rw[c];rfl,by rw[c];rfl⟩
theorem PC(g a b:Nat)(r:Rp)(d:aT r)(p:Nat)(hp:p<r.m.R*r.m.B*r.m.M):aa VA 86 #[pt a 0,iN p] [pk (aq g a b r)] [0] (λ_=>[pk (aq g a b r)]) (λ_=> .bool (decide (p<r.m.R*r.m.B*r.m.M-r.m.res+r.m.O)&& !r.m.N.getD p false)):=(M5 a r.m d.m p hp).inW λL c=>⟨1,by rw[c];rfl,by rw[c];rfl⟩
theorem PD(g a b:Nat)(r:Rp)(d:aT r)(p:Nat)(hp:p<r.m.R*r.m.B*r.m.M):aa VA 25 #[pt a 0,iN p] [pk (aq g a b r)] [0] (λ_=>[pk (aq g a b r)]) (λ_=> .bool (r.m.N.getD p false)):=(uC a r.m d.m p hp).inW λL c=>⟨1,by rw[c];rfl,by rw[c];rfl⟩
theorem PE(g a b:Nat)(r:Rp)(d:aT r)(p:Nat)(hp:p<r.m.R):aa VA 26 #[pt a 0,iN p] [pk (aq g a b r)] [0] (λ_=>[pk (aq g a b r)]) (λ_=> .tuple #[i6 (jx r.m p),.bool (c6 r.m p)]):=(xI a r.m d.m p hp).inW λL c=>⟨1,by rw[c];rfl,by rw[c];rfl⟩
theorem DJ(g a b:Nat)(r:Rp)(d:aT r):aa VA 63 #[pt a 0] [pk (aq g a b r)] [0] (λ_=>[pk (aq g a b r)]) (λ_=> .agg #[iN r.m.R,iN r.m.S,iN r.m.B,iN r.m.M,iN r.m.C,iN r.m.G,iN r.m.res]):=(iL a r.m d.m).inW λL c=>⟨1,by rw[c];rfl,by rw[c];rfl⟩
theorem pN(g a i h d e:Nat)(c:Cf)(time:Nat)(r:Rp)(f:aT r)(p:Nat)(hp:p<r.m.R*r.m.B*r.m.M):aa VA 248 #[pt g 0,iN p] [ob g (lA c a i h time) 122,pk (aq a d e r)] [1] (λ_=>[pk (aq a d e r)]) (λ_=>iN (bq r.m p*64)):=by
 have j:=uz f.m hp;exact fG Tryz.func248 λw cs=>r0 [] [(4,i6 0)] [] (r0 [(3,.m (ld 0 (pt a 0))),(4,.c [1] [1] (rL a d e r f)),(6,.c [1] [1] (PB a d e r f p hp)),] [(5,iN (bq r.m p))] [] (r0 [(1,.t (tv (av .shl 3 (.tmp 17) (.const (u6 6)) (iN (bq r.m p)) (u6 6)) (λ_=>dF (b:=((bq r.m p*64:Nat):Int)) (fB 6 Dc Om Om) Om)))] [(4,iN (bq r.m p*64))] [4] (lf ab.zero [1] [(0,0)] [])))
theorem PF(i h e a j m p:Nat)(c:Cf)(time:Nat)(r:Rp)(n:aT r)(k:Tk)(y:dO k)(g:Lg)(s:fI g)(f t:Nat)(q:f<r.m.R*r.m.B*r.m.M)(x:t<r.m.R*r.m.B*r.m.M):aa VA 213 #[pt i 0,i6 1,.agg #[i6 3,iN f,iN t]] [ob i (lA c h e a time) 122,pk (aq h j m r),pk (aC e p k),pk (aA a g)] [1,2,3] (λ_=>[pk (aq h j m r),pk (aC e p k),pk (aA a (bP g ⟨0,time,3,(bq r.m f*64),(bq r.m t*64)⟩))]) (λ_=> .tuple #[]):=by
 have u:=n.m.np;have v:=n.m.ly.rp;refine fG Tryz.func213 λw cs=>ra (λo=>[(5,pt (B0 o) 0)]) (λo=>[ob (B0 o) #[i6 3,iN f,iN t] 349]) λo=>r0 [(1,.l 4),(2,.t (tv (av .shl 3 (.tmp 9) (.const (u6 20)) (iN f) (u6 20)) (λ_=>dF (b:=((f*1048576:Nat):Int)) (fB 20 Dc Om Om) Om))),(4,.l 4),(5,.t (tv (av .shl 3 (.tmp 12) (.const (u6 20)) (iN t) (u6 20)) (λ_=>dF (b:=((t*1048576:Nat):Int)) (fB 20 Dc Om Om) Om)))] [(6,iN (f*1048576)),(7,iN (t*1048576))] [] (rT [] 15 (r0 [(2,.l 4),(3,.c [0,1] [1] (pN i h e a j m c time r n f Om)),(6,.l 4),(7,.c [0,1] [1] (pN i h e a j m c time r n t Om))] [(6,iN (bq r.m f*64)),(7,iN (bq r.m t*64))] [6,7] (rF [(1,.l 4)] 26 (rs [(2,.l 4),(5,.c [0,3] [3] (m6 i h e a c time g s 3 (bq r.m f*64) (bq r.m t*64)))] 3 ((pk (aA a (bP g ⟨0,time,3,(bq r.m f*64),(bq r.m t*64)⟩)))) (rF [(1,.l 4),(4,.d),(5,.d)] 35 (rF [(1,.l 4)] 50 ?_))))));exact eo ab.zero [1,2,3] [(0,0)] []
theorem PG(i h e a j m p:Nat)(c:Cf)(time:Nat)(r:Rp)(n:aT r)(k:Tk)(x:dO k)(g:Lg)(s:fI g)(f:Nat)(q:f<r.m.R*r.m.B*r.m.M):aa VA 213 #[pt i 0,i6 1,.agg #[i6 5,iN f,i6 0]] [ob i (lA c h e a time) 122,pk (aq h j m r),pk (aC e p k),pk (aA a g)] [1,2,3] (λ_=>[pk (aq h j m r),pk (aC e p k),pk (aA a (bP g ⟨0,time,5,(bq r.m f*64),0⟩))]) (λ_=> .tuple #[]):=by
 have u:=n.m.np;have v:=n.m.ly.rp;refine fG Tryz.func213 λw cs=>ra (λo=>[(5,pt (B0 o) 0)]) (λo=>[ob (B0 o) #[i6 5,iN f,i6 0] 349]) λo=>r0 [(1,.l 4),(2,.t (tv (av .shl 3 (.tmp 9) (.const (u6 20)) (iN f) (u6 20)) (λ_=>dF (b:=((f*1048576:Nat):Int)) (fB 20 Dc Om Om) Om))),(4,.l 4),(5,.t (tv (av .shl 3 (.tmp 12) (.const (u6 20)) (i6 0) (u6 20)) (λ_=>dF (b:=((0:Nat):Int)) (fB 20 Dc Om Om) Om)))] [(6,iN (f*1048576)),(7,i6 0)] [] (rT [] 15 (r0 [(2,.l 4),(3,.c [0,1] [1] (pN i h e a j m c time r n f Om)),(6,.l 4),(7,.c [0,1] [1] (pN i h e a j m c time r n 0 Om))] [(6,iN (bq r.m f*64)),(7,iN (bq r.m 0*64))] [6,7] (rT [(1,.l 4)] 26 (r0 [(1,.l 4)] [(7,i6 0)] [7] (rs [(2,.l 4),(5,.c [0,3] [3] (m6 i h e a c time g s 5 (bq r.m f*64) 0))] 3 ((pk (aA a (bP g ⟨0,time,5,(bq r.m f*64),0⟩)))) (rF [(1,.l 4),(4,.d),(5,.d)] 35 (rF [(1,.l 4)] 50 ?_)))))));exact eo ab.zero [1,2,3] [(0,0)] []
theorem PH(h e a d i j m:Nat)(c:Cf)(time:Nat)(r:Rp)(n:aT r)(k:Tk)(s:dO k)(g:Lg)(q:fI g)(f t:Nat)(p:f<r.m.R*r.m.B*r.m.M)(x:t<r.m.R*r.m.B*r.m.M):aa VA 213 #[pt h 0,i6 1,.agg #[i6 6,iN f,iN t]] [ob h (lA c e a d time) 122,pk (aq e i j r),pk (aC a m k),pk (aA d g)] [1,2,3] (λ_=>[pk (aq e i j r),pk (aC a m (pM k f)),pk (aA d (bP g ⟨0,time,6,(bq r.m f*64),(bq r.m t*64)⟩))]) (λ_=> .tuple #[]):=by
 have u:=n.m.np;have v:=n.m.ly.rp;refine fG Tryz.func213 λw cs=>ra (λo=>[(5,pt (B0 o) 0)]) (λo=>[ob (B0 o) #[i6 6,iN f,iN t] 349]) λo=>r0 [(1,.l 4),(2,.t (tv (av .shl 3 (.tmp 9) (.const (u6 20)) (iN f) (u6 20)) (λ_=>dF (b:=((f*1048576:Nat):Int)) (fB 20 Dc Om Om) Om))),(4,.l 4),(5,.t (tv (av .shl 3 (.tmp 12) (.const (u6 20)) (iN t) (u6 20)) (λ_=>dF (b:=((t*1048576:Nat):Int)) (fB 20 Dc Om Om) Om)))] [(6,iN (f*1048576)),(7,iN (t*1048576))] [] (rT [] 15 (r0 [(2,.l 4),(3,.c [0,1] [1] (pN h e a d i j c time r n f Om)),(6,.l 4),(7,.c [0,1] [1] (pN h e a d i j c time r n t Om))] [(6,iN (bq r.m f*64)),(7,iN (bq r.m t*64))] [6,7] (rF [(1,.l 4)] 26 (rs [(2,.l 4),(5,.c [0,3] [3] (m6 h e a d c time g q 6 (bq r.m f*64) (bq r.m t*64)))] 3 ((pk (aA d (bP g ⟨0,time,6,(bq r.m f*64),(bq r.m t*64)⟩)))) (rT [(1,.l 4)] 35 (rs [(3,.l 0),(5,.l 4),(6,.c [2] [2] (Ph a m k s f))] 2 ((pk (aC a m (pM k f)))) ?_))))));exact eo ab.zero [1,2,3] [(0,0)] []
theorem PI(j h e a m n o:Nat)(c:Cf)(time:Nat)(r:Rp)(p:aT r)(k:Tk)(y:dO k)(g:Lg)(s:fI g)(f t:Nat)(q:f<8)(x:t<8):aa VA 213 #[pt j 0,i6 2,.agg #[i6 4,iN f,iN t]] [ob j (lA c h e a time) 122,pk (aq h m n r),pk (aC e o k),pk (aA a g)] [1,2,3] (λ_=>[pk (aq h m n r),pk (aC e o k),pk (aA a (bP g ⟨0,time,4,(f*1048576),(t*1048576)⟩))]) (λ_=> .tuple #[]):=by
 have u:=p.m.np;have v:=p.m.ly.rp;refine fG Tryz.func213 λw cs=>ra (λi=>[(5,pt (B0 i) 0)]) (λi=>[ob (B0 i) #[i6 4,iN f,iN t] 349]) λi=>r0 [(1,.l 4),(2,.t (tv (av .shl 3 (.tmp 9) (.const (u6 20)) (iN f) (u6 20)) (λ_=>dF (b:=((f*1048576:Nat):Int)) (fB 20 Dc Om Om) Om))),(4,.l 4),(5,.t (tv (av .shl 3 (.tmp 12) (.const (u6 20)) (iN t) (u6 20)) (λ_=>dF (b:=((t*1048576:Nat):Int)) (fB 20 Dc Om Om) Om)))] [(6,iN (f*1048576)),(7,iN (t*1048576))] [] (rF [] 15 (rF [(1,.l 4)] 26 (rs [(2,.l 4),(5,.c [0,3] [3] (m6 j h e a c time g s 4 (f*1048576) (t*1048576)))] 3 ((pk (aA a (bP g ⟨0,time,4,(f*1048576),(t*1048576)⟩)))) (rF [(1,.l 4),(4,.d),(5,.d)] 35 (rF [(1,.l 4)] 50 ?_)))));exact eo ab.zero [1,2,3] [(0,0)] []
theorem PJ(j h e a m n o:Nat)(c:Cf)(time:Nat)(r:Rp)(p:aT r)(k:Tk)(x:dO k)(g:Lg)(s:fI g)(f:Nat)(q:f<8):aa VA 213 #[pt j 0,i6 2,.agg #[i6 5,iN f,i6 1]] [ob j (lA c h e a time) 122,pk (aq h m n r),pk (aC e o k),pk (aA a g)] [1,2,3] (λ_=>[pk (aq h m n r),pk (aC e o k),pk (aA a (bP g ⟨0,time,5,(f*1048576),1⟩))]) (λ_=> .tuple #[]):=by
 have u:=p.m.np;have v:=p.m.ly.rp;refine fG Tryz.func213 λw cs=>ra (λi=>[(5,pt (B0 i) 0)]) (λi=>[ob (B0 i) #[i6 5,iN f,i6 1] 349]) λi=>r0 [(1,.l 4),(2,.t (tv (av .shl 3 (.tmp 9) (.const (u6 20)) (iN f) (u6 20)) (λ_=>dF (b:=((f*1048576:Nat):Int)) (fB 20 Dc Om Om) Om))),(4,.l 4),(5,.t (tv (av .shl 3 (.tmp 12) (.const (u6 20)) (i6 1) (u6 20)) (λ_=>dF (b:=((1048576:Nat):Int)) (fB 20 Dc Om Om) Om)))] [(6,iN (f*1048576)),(7,i6 1048576)] [] (rF [] 15 (rT [(1,.l 4)] 26 (r0 [(1,.l 4)] [(7,i6 1)] [7] (rs [(2,.l 4),(5,.c [0,3] [3] (m6 j h e a c time g s 5 (f*1048576) 1))] 3 ((pk (aA a (bP g ⟨0,time,5,(f*1048576),1⟩)))) (rF [(1,.l 4),(4,.d),(5,.d)] 35 (rF [(1,.l 4)] 50 ?_))))));exact eo ab.zero [1,2,3] [(0,0)] []
theorem PK(j e a d m n h:Nat)(c:Cf)(time:Nat)(r:Rp)(o:aT r)(k:Tk)(u:dO k)(g:Lg)(s:fI g)(f t:Nat)(p:f<8)(y:t<8)(q:f<k.F.length):aa VA 213 #[pt j 0,i6 2,.agg #[i6 6,iN f,iN t]] [ob j (lA c e a d time) 122,pk (aq e m n r),pk (aC a h k),pk (aA d g)] [1,2,3] (λ_=>[pk (aq e m n r),pk (aC a h (oN k f)),pk (aA d (bP g ⟨0,time,6,(f*1048576),(t*1048576)⟩))]) (λ_=> .tuple #[]):=by
 have v:=o.m.np;have x:=o.m.ly.rp;refine fG Tryz.func213 λw cs=>ra (λi=>[(5,pt (B0 i) 0)]) (λi=>[ob (B0 i) #[i6 6,iN f,iN t] 349]) λi=>r0 [(1,.l 4),(2,.t (tv (av .shl 3 (.tmp 9) (.const (u6 20)) (iN f) (u6 20)) (λ_=>dF (b:=((f*1048576:Nat):Int)) (fB 20 Dc Om Om) Om))),(4,.l 4),(5,.t (tv (av .shl 3 (.tmp 12) (.const (u6 20)) (iN t) (u6 20)) (λ_=>dF (b:=((t*1048576:Nat):Int)) (fB 20 Dc Om Om) Om)))] [(6,iN (f*1048576)),(7,iN (t*1048576))] [] (rF [] 15 (rF [(1,.l 4)] 26 (rs [(2,.l 4),(5,.c [0,3] [3] (m6 j e a d c time g s 6 (f*1048576) (t*1048576)))] 3 ((pk (aA d (bP g ⟨0,time,6,(f*1048576),(t*1048576)⟩)))) (rF [(1,.l 4)] 35 (rT [(1,.l 4)] 50 (rs [(3,.l 0),(5,.l 4),(6,.c [2] [2] (Pj a h k u f Om))] 2 ((pk (aC a h (oN k f)))) ?_))))));exact eo ab.zero [1,2,3] [(0,0)] []
theorem PL(m:Nat)(a:m<18446744073709551616):aa VA 131 #[u6 (m:Int)] [] [] N0 (λ_=> .bool (decide (pc m=64))):=by
 exact fG Tryz.func131 λw cs=>r0 [] [(2,.bool false)] [] (r0 [(1,.c [] [] (qK m Om))] [(2,.bool ((((pc m):Nat):Int)==64))] [2] (ak (.bool ((((pc m):Nat):Int)==64)) ab.zero (by exact ALca Value.bool (lB (pc m) 64)) [] [] []))
def eT(x:UInt8)(k:Nat):List UInt8:=VB k x++VB (64-k) 0
theorem PM{x:UInt8}{k:Nat}(h:k≤64):(eT x k).length=64:=by unfold eT;rw[VC,VE,VE];omega
theorem PN{x:UInt8}{k:Nat}(h:k<64):(eT x k).set k x=eT x (k+1):=by
 unfold eT;rw[V5 _ _ (by rw[VE];exact VQ _),VE,Nat.sub_self,show 64-k=(64-(k+1))+1 by omega,List.replicate_succ,List.replicate_succ',VR];rfl
theorem PO(x:UInt8):aa VA 46 #[u1 (x.toNat:Int)] [] [] N0 (λ_=> .agg (rB 64 (eT x 64)).toArray):=by
 refine fG Tryz.func46 λw cs=>ra (λb=>[(2,pt (B0 b) 0)]) (λb=>[ob (B0 b) (rB 64 z6).toArray 43]) λb=>ra (λa=>[(3,pt (B0 a) 0)]) (λa=>[ob (B0 a) (rB 64 z6).toArray 43]) λa=>r0 [] [(5,i6 0)] [] ?_;refine lq (λk=>k≤64) (λk=>[(5,iN k)]) (λk L=>L.set 1 (ob (B0 a) (rB 64 (eT x k)).toArray 43)) (λk=>64-k) 0 Om Kr (by rw[show eT x 0=VB 64 0 from rfl];kernel_rfl) (λk f=>?_);have d:=PM (x:=x) (k:=k) Om;refine r0 [] [(6,.bool (decide ((k:Int)<64)))] [] ?_;refine b0 (k:Int) 64 (λe c=>?_) λe c=>?_
 ·exact r0 [] [(4,iN k)] [] (rs [(2,iA 43 .i64 (B0 a) 0 64 1 k),(3,wD 1 (B0 a) k 43 (u1 (x.toNat:Int)) (rB 64 (eT x k)) (rB 64 ((eT x k).set k x)) (jk Om) (lP (show(eT x k).length=64 by(simp only[LL,d];done))))] 1 (ob (B0 a) (rB 64 ((eT x k).set k x)).toArray 43) (r0 [(0,ad k 1)] [(5,iN (k+1))] [5] (le (k+1) Om Om Kr [0,1] (by rw[←PN Om];kernel_rfl))))
 obtain rfl:k=64:=by omega
 exact lx (rs [(0,.l 1),(1,.s 0)] 0 (ob (B0 b) (rB 64 (eT x 64)).toArray 43) (lf ab.zero [] [] [0]))
theorem DK(v:Value)(xs:List UInt8)(e:xs.length=64):aa VA 130 #[v] [.p (aH eB v xs)] [] N0 (λ_=> .tuple #[.agg (rB 64 xs).toArray,i6 0]):=by
 exact fO Tryz.func130 0 rfl λb a=>fG Tryz.func130 λw cs=>ra (λd=>[(2,pt (B0 d) 0),(3,i6 0)]) (λd=>[ob (B0 d) (rB 64 z6).toArray 43]) λd=>rF [(1,eD a.1 0),(2,.t (tk (show Value.bool ((xs.length:Int) != 64)= .bool false from ALca Value.bool (by rw[e];rfl))))] 6 (rr (λ_=>[(1,.m (A2 0 (.c b) 64 (cP a.1) Dc Om)),(2,.m (A3 0 (.c b) 64 (rB 64 xs) (cP a.1) (km e).symm Om (A4 (λ_=>rfl) e))),(3,.s 1)]) (λ_=>[(3,i6 0)]) [3] (λ_ L=>L.set 1 (ob (B0 d) (rB 64 xs).toArray 43)) λf=>lf ab.zero [] [(0,0)] [1])
def jN(l o:List UInt8)(is:List Nat):List UInt8:=is.foldl (λl i=>l.set i (o.getD i 0)) l
def ir(l o:List UInt8)(m:Nat):List UInt8:=jN l o (bC m)
theorem uR(o:List UInt8): ∀(is:List Nat) (l:List UInt8),(jN l o is).length=l.length
 | [],_=>rfl
 | i::is,l=>by
  show(jN (l.set i (o.getD i 0)) o is).length=_;rw[uR o is,VH]
theorem PQ{l o:List UInt8}{is:List Nat}{k:Nat}(h:k<is.length):(jN l o (is.take k)).set (is.getD k 0) (o.getD (is.getD k 0) 0)=jN l o (is.take (k+1)):=by
 unfold jN;rw[VX,VF h,We,VD,VF h];rfl
theorem PR(l y:List UInt8)(m:Nat)(f:l.length=64)(h:y.length=64)(u:m<18446744073709551616):aa VA 94 #[.agg (rB 64 l).toArray,.agg (rB 64 y).toArray,u6 (m:Int)] [] [] N0 (λ_=> .agg (rB 64 (jN l y ((bC m).take ((bC m).length)))).toArray):=by
 refine fG Tryz.func94 λw cs=>ra (λa=>[(3,pt (B0 a) 0),(4,pt (B1 a) 0),(6,pt (B2 a) 0)]) (λa=>[ob (B0 a) (rB 64 l).toArray 43,ob (B1 a) (rB 64 y).toArray 43,ob (B2 a) (rB 64 z6).toArray 43]) λa=>rr (λ_=>[(1,.c [] [3] (Ba m))]) (λb=>[(9,.func (.func 172) #[] #[pt ((B1 b)) 0])]) [] (λb L=>L++[ob (B1 b) #[u6 (m:Int)] 44]) λb=>?_;refine AN (encs:=λ(i:Nat)=>#[iN i]) (xs:=bC m) (XO:=[((B1 b),.cells #[u6 (m:Int)] 44 (0,0))]) (KO:=[]) (A9 (B1 b) m Om) (enters_of Tryz.func172 Kr rfl) (λk=>k≤(bC m).length) (λk L=>L.set 0 (ob (B0 a) (rB 64 (jN l y ((bC m).take k))).toArray 43)) [ob (B0 a) (rB 64 l).toArray 43,ob (B1 a) (rB 64 y).toArray 43,ob (B2 a) (rB 64 z6).toArray 43] [0,1,2,3] [3] [] Om (by rw[show jN l y ((bC m).take 0)=l by rw[V2];rfl];kernel_rfl) (λv k x p r g e=>?_) (λo e=>?_)
 ·obtain⟨d,rfl⟩:=qj 0 g;have j:=(uR y ((bC m).take k) l).trans f;have n:=BX d;refine r0 [] [(7,iN ((bC m).getD k 0))] [] ?_;refine ag [] (λq t=>?_);exact rs [(2,iA 43 .i64 (B1 a) 0 64 1 ((bC m).getD k 0)),(3,rD 1 (B1 a) ((bC m).getD k 0) 43 (rB 64 y) (nt Om)),(4,iA 43 .i64 (B0 a) 0 64 1 ((bC m).getD k 0)),(5,wD 0 (B0 a) ((bC m).getD k 0) 43 (u1 ((y.getD ((bC m).getD k 0) 0).toNat:Int)) (rB 64 (jN l y ((bC m).take k))) (rB 64 ((jN l y ((bC m).take k)).set ((bC m).getD k 0) (y.getD ((bC m).getD k 0) 0))) (jk Om) (lP (show(jN l y ((bC m).take k)).length=64 by(simp only[LL,f,h,uR,f,h];done))))] 0 (ob (B0 a) (rB 64 ((jN l y ((bC m).take k)).set ((bC m).getD k 0) (y.getD ((bC m).getD k 0) 0))).toArray 43) (ne _ ⟨Om,rfl⟩ [0,1,2] (by rw[←PQ Om];kernel_rfl))
 exact rs [(0,.l 0),(1,.s 2)] 2 (ob (B2 a) (rB 64 (jN l y ((bC m).take ((bC m).length)))).toArray 43) (lf ab.zero [] [] [2])
section
theorem nP{α:Type}{p:α→Prop}{l:List α}(d:α):(∀i,i<l.length→p (l.getD i d))↔∀x∈l,p x:=by
 constructor
 ·intro h x b;obtain⟨i,a,rfl⟩:=List.getElem_of_mem b;have:=h i a;rwa [VD,VF a] at this
 ·intro h i a;rw[VD,VF a];exact h _ (List.getElem_mem a)
theorem DM{α:Type}{l:List α}{i:Nat}(h:i<l.length):(l.eraseIdx i).length=l.length-1:=by rw[VP,ALifp h]
theorem mv(g:Lg)(x:Re):(bP g x).next=g.next+1:=by
 unfold bP
 split
 ·split<;>rfl
 ·rfl
theorem ye(g:Lg)(x:Re):(bP g x).I=g.I:=by
 unfold bP
 split
 ·split<;>rfl
 ·rfl
theorem fI.add{g:Lg}(h:fI g)(x:Re)(b:g.next+1≤1000000000):fI (bP g x):=by
 refine⟨?_,by rw[ye];exact h.r1,by rw[ye];exact h.r,by rw[mv];exact b⟩;rw[ye];have d:=h.l;have f:=nO cq g.l;unfold bP
 split
 ·rename_i e
  split
  ·exact h.l
  ·rename_i c;have a:aU cq g.l<g.l.length:=by omega
   show(g.l.eraseIdx (aU cq g.l)++[iQ x g.next]).length≤g.I;rw[VC,DM a];show g.l.length-1+1≤g.I;omega
 ·show(g.l++[iQ x g.next]).length≤g.I;rw[VC];show g.l.length+1≤g.I;omega
theorem fI.clear{g:Lg}(h:fI g):fI (mn g):=⟨VN _,h.r1,h.r,h.n⟩
theorem DN{α:Type}{l:List α}{i:Nat}{x:α}(h:x∈l.eraseIdx i):x∈l:=List.mem_of_mem_eraseIdx h
section
variable {ev:Nat} {t:Tb}
theorem hZ.mk'{a:Tb}(h:hZ ev t)(b:a.I=t.I)(d:a.l.length≤t.I)(c: ∀x∈a.l,eS ev x.l x.a):hZ ev a:=⟨by rw[b];exact d,by rw[b];exact h.r1,by rw[b];exact h.r,(nP (p:=λx:Pa=>eS ev x.l x.a) bp).2 c⟩
theorem hZ.mem(h:hZ ev t): ∀x∈t.l,eS ev x.l x.a:=(nP (p:=λx:Pa=>eS ev x.l x.a) bp).1 h.b
theorem hZ.put(h:hZ ev t){k l a:Nat}(c:eS ev l a):hZ ev (oL t k l a):=by
 have d:=h.l;have f:=h.r1;unfold oL
 split
 ·split
  ·rename_i e;refine h.mk' rfl ?_ λx b=>?_
   ·show(t.l.eraseIdx (eb t.l t.l.length).1++[(⟨k,l,a⟩:Pa)]).length≤t.I;rw[VC,DM (yb t.l t.l.length Om)];show t.l.length-1+1≤t.I;omega
   ·rcases List.mem_append.1 b with b | b
    ·exact h.mem x (DN b)
    ·rw[List.mem_singleton.1 b];exact c
  ·rename_i e;refine h.mk' rfl ?_ λx b=>?_
   ·show(t.l++[(⟨k,l,a⟩:Pa)]).length≤t.I;rw[VC];show t.l.length+1≤t.I;omega
   ·rcases List.mem_append.1 b with b | b
    ·exact h.mem x b
    ·rw[List.mem_singleton.1 b];exact c
 ·refine h.mk' rfl ?_ λx b=>?_
  ·show(t.l.set _ _).length≤t.I;rw[VH];exact h.l
  ·rcases V3 b with b | rfl
   ·exact h.mem x b
   ·exact c
theorem hZ.drop(h:hZ ev t)(k:Nat):hZ ev (oM t k):=by
 unfold oM
 split
 ·exact h
 ·refine h.mk' rfl ?_ λx a=>h.mem x (DN a);show(t.l.eraseIdx _).length≤t.I;rw[VP];have:=h.l
  split<;>omega
theorem hZ.tick(h:hZ ev t):hZ ev (rP t ev):=by
 refine h.mk' rfl ?_ λx a=>?_
 ·show(aY (cR ev) t.l t.l.length).length≤t.I;rw[rO];exact h.l
 ·have a:x∈aY (cR ev) t.l t.l.length:=a;rw[DF] at a;obtain⟨y,b,rfl⟩:=List.mem_map.1 a;exact Dg (h.mem y b)
end
section
variable {k:Tk}
theorem dO.rk(h:dO k): ∀x∈k.F,eS k.er x.l x.a:=(nP (p:=λx:Bk=>eS k.er x.l x.a) bg).1 h.b
theorem dO.set(h:dO k)(r:Nat){b:Bk}(d:eS k.er b.l b.a): ∀i,i<(k.F.set r b).length→eS k.er ((k.F.set r b).getD i bg).l ((k.F.set r b).getD i bg).a:=
 (nP (p:=λx:Bk=>eS k.er x.l x.a) bg).2 λx c=>by
  rcases V3 c with c | rfl
  ·exact h.rk x c
  ·exact d
theorem dO.note(h:dO k){r:Nat}(p n:Nat)(c:r<k.F.length):dO (ft k r p n):=
 ⟨h.r,h.p,h.h1,h.h2,by show(k.F.set r _).length≤8;rw[VH];exact h.n,h.set r (b:=⟨cp (k.F.getD r bg).l n,(k.F.getD r bg).a⟩) (Df (h.b r c)),h.t.put (Df (h.t.get h.p.e1 p))⟩
theorem dO.reset(h:dO k)(r:Nat):dO (oN k r):=
 ⟨h.r,h.p,h.h1,h.h2,by show(k.F.set r _).length≤8;rw[VH];exact h.n,h.set r (b:=⟨0,0⟩) ⟨VN _,h.r.e1⟩,h.t⟩
theorem dO.drop(h:dO k)(p:Nat):dO (pM k p):=⟨h.r,h.p,h.h1,h.h2,h.n,h.b,h.t.drop p⟩
theorem dO.tick(h:dO k):dO (mo k):=by
 refine⟨h.r,h.p,h.h1,h.h2,?_,(nP (p:=λx:Bk=>eS k.er x.l x.a) bg).2 λx a=>?_,h.t.tick⟩
 ·show(aY (dT k.er) k.F k.F.length).length≤8;rw[rO];exact h.n
 ·have a:x∈aY (dT k.er) k.F k.F.length:=a;rw[DF] at a;obtain⟨y,b,rfl⟩:=List.mem_map.1 a;exact Dg (h.rk y b)
theorem PS(k:Tk)(r p n:Nat):(ft k r p n).F.length=k.F.length:=VH
theorem PT(k:Tk)(r:Nat):(oN k r).F.length=k.F.length:=VH
theorem PU(k:Tk):(mo k).F.length=k.F.length:=rO ..
end
def fj(of:Nat)(v:Ev):Nat:=if v.k=3 then 1 else if v.k=4 then 2 else if v.k=5 then 1+v.t else of
def gj(of:Nat)(k:Tk)(v:Ev):Tk:=if v.k=6 then(if of=1 then pM k v.f else oN k v.f) else k
def nQ(m:Mp)(of x:Nat):Nat:=if of=1 then bq m x*64 else x*1048576
def gx(m:Mp)(of time:Nat)(v:Ev):Re:=⟨0,time,v.k,nQ m of v.f,if v.k=5 then v.t else nQ m of v.t⟩
structure iu (np n of:Nat) (v:Ev):Prop where
 k:(of=1∧v.f<np∧(v.k=3∨v.k=6)∧v.t<np)∨(of=1∧v.f<np∧v.k=5∧v.t=0)∨(of=2∧v.f<n∧(v.k=4∨v.k=6)∧v.t<8)∨(of=2∧v.f<n∧v.k=5∧v.t=1)
theorem PV(of:Nat)(k:Tk)(v:Ev):(gj of k v).F.length=k.F.length:=by
 unfold gj
 split
 ·split
  ·rfl
  ·exact PT _ _
 ·rfl
theorem PW{k:Tk}(h:dO k)(of:Nat)(v:Ev):dO (gj of k v):=by
 unfold gj
 split
 ·split
  ·exact h.drop _
  ·exact h.reset _
 ·exact h
def e4(of:Nat)(k:Tk)(l:List Ev):Tk:=l.foldl (λk v=>gj (fj of v) k v) k
def ew(m:Mp)(of time:Nat)(g:Lg)(l:List Ev):Lg:=l.foldl (λg v=>bP g (gx m (fj of v) time v)) g
theorem yf(of:Nat): ∀(l:List Ev) {k:Tk},dO k→dO (e4 of k l)
 | [],_,h=>h
 | v::l,_,h=>yf of l (PW h (fj of v) v)
theorem yg(of:Nat): ∀(l:List Ev) (k:Tk),(e4 of k l).F.length=k.F.length
 | [],_=>rfl
 | v::l,k=>(yg of l (gj (fj of v) k v)).trans (PV _ k v)
theorem uS(m:Mp)(of time:Nat): ∀(l:List Ev) (g:Lg),(ew m of time g l).next=g.next+l.length
 | [],_=>rfl
 | v::l,g=>(uS m of time l (bP g (gx m (fj of v) time v))).trans (by rw[mv,Wg];omega)
theorem yh(m:Mp)(of time:Nat): ∀(l:List Ev) {g:Lg},fI g→g.next+l.length≤1000000000→fI (ew m of time g l)
 | [],_,h,_=>h
 | v::l,g,h,a=>by
  rw[Wg] at a;exact yh m of time l (h.add _ Om) (by rw[mv];omega)
theorem yi{α β:Type}{f:β→α→β}{b:β}{l:List α}{i:Nat}{d:α}(h:i<l.length):(l.take (i+1)).foldl f b=f ((l.take i).foldl f b) (l.getD i d):=by
 rw[VX,VF h,We,VD,VF h];rfl
theorem PX{of:Nat}{k:Tk}{l:List Ev}{i:Nat}(h:i<l.length):e4 of k (l.take (i+1))=gj (fj of (l.getD i cI)) (e4 of k (l.take i)) (l.getD i cI):=yi h
theorem PY{m:Mp}{of time:Nat}{g:Lg}{l:List Ev}{i:Nat}(h:i<l.length):ew m of time g (l.take (i+1))=bP (ew m of time g (l.take i)) (gx m (fj of (l.getD i cI)) time (l.getD i cI)):=yi h
structure eG (m m':Mp):Prop where
 R:m'.R=m.R
 S:m'.S=m.S
 B:m'.B=m.B
 M:m'.M=m.M
 C:m'.C=m.C
 G:m'.G=m.G
 res:m'.res=m.res
theorem eG.rfl'(m:Mp):eG m m:=⟨rfl,rfl,rfl,rfl,rfl,rfl,rfl⟩
theorem eG.tr{a b c:Mp}(h:eG a b)(g:eG b c):eG a c:=⟨g.R.trans h.R,g.S.trans h.S,g.B.trans h.B,g.M.trans h.M,g.C.trans h.C,g.G.trans h.G,g.res.trans h.res⟩
theorem DO(r:Rp)(a:Ak):eG r.m (cM r a).m:=by
 unfold cM;cases a.k==1<;>cases dp r.m<;>cases dR r.m<;>exact⟨rfl,rfl,rfl,rfl,rfl,rfl,rfl⟩
theorem nR(r:Rp)(a:Ak):eG r.m (bc r a).m:=by
 unfold bc;cases cX r a
 ·cases r.j.A==0
  ·exact eG.rfl' _
  ·exact DO r a
 ·exact eG.rfl' _
theorem DP(r:Rp):eG r.m (dj r).m:=by
 unfold dj;cases r.j.A==1<;>exact⟨rfl,rfl,rfl,rfl,rfl,rfl,rfl⟩
theorem DQ(s:Rp×List Ev):eG s.1.m (fq s).1.m:=by
 unfold fq;cases cX (aX s.1) (s.1.q.headD aG)
 ·exact DO (aX s.1) _
 ·exact eG.rfl' _
theorem DR: ∀(n:Nat) (s:Rp×List Ev),eG s.1.m (eu n s).1.m
 | 0,s=>eG.rfl' _
 | n+1,s=>by
  unfold eu
  split
  ·exact(DQ s).tr (DR n _)
  ·exact eG.rfl' _
theorem uU(r:Rp):eG r.m (eA r).1.m:=by
 unfold eA;cases kA r.m (bk r).j
 ·exact eG.rfl' _
 ·exact(DP (bk r)).tr (DR _ (ae (bk r)))
theorem PZ{r:Rp}{a:Ak}(h:aT r)(c:et r.m a):aT (bc r a):=by
 unfold bc;cases hv:cX r a
 ·rw[ALcf];cases r.j.A==0
  ·refine⟨h.m,h.j,λx b=>?_,?_,h.fr⟩
   ·have b:x∈pH r.q a:=b;unfold pH at b
    split at b
    ·exact h.q x b
    ·split at b
     ·exact h.q x b
     ·rcases List.mem_append.1 b with b | b
      ·exact h.q x b
      ·rw[List.mem_singleton.1 b];exact c
   ·show(pH r.q a).length≤256;have:=h.n;unfold pH
    split
    ·exact h.n
    ·split
     ·exact h.n
     ·rw[VC];show r.q.length+1≤256;omega
  ·exact C6 h c hv
 ·exact h
theorem DS{r:Rp}{a:Ak}(h:aT r)(d:et r.m a)(of:Nat): ∀v∈fh r a,iu (r.m.R*r.m.B*r.m.M) r.m.R (fj of v) v:=by
 have i:=h.m.Q.bd.r8;have e:=h.m.pg;have f:=h.m.rk;have g:=h.m.ly.rp;unfold fh;rcases d.k with⟨b,c⟩ | ⟨b,c⟩
 ·rw[b];show ∀v∈(bif dp r.m then _ else _),_;cases hp:dp r.m
  ·intro v hv;obtain rfl:=List.mem_singleton.1 hv;exact⟨.inr (.inl ⟨by rw[b];rfl,c,rfl,by rw[b]⟩)⟩
  ·intro v hv;obtain rfl:=List.mem_singleton.1 hv;refine⟨.inl ⟨rfl,c,.inl rfl,?_⟩⟩;show dY r.m<_;have:r.m.O≠r.m.res:=by unfold dp at hp;simpa using hp
   unfold dY;rw[ALifn this];show r.m.R*r.m.B*r.m.M-r.m.res+r.m.O<_;omega
 ·rw[b];show ∀v∈(bif dR r.m then _ else _),_;cases hp:dR r.m
  ·intro v hv;obtain rfl:=List.mem_singleton.1 hv;exact⟨.inr (.inr (.inr ⟨by rw[b];rfl,c,rfl,by rw[b]⟩))⟩
  ·intro v hv;obtain rfl:=List.mem_singleton.1 hv;refine⟨.inr (.inr (.inl ⟨rfl,c,.inl rfl,?_⟩))⟩;show fH r.m<_;have:r.m.F≠r.m.S:=by unfold dR at hp;simpa using hp
   unfold fH;rw[ALifn this];omega
theorem pO{r:Rp}{a:Ak}(h:aT r)(d:et r.m a)(of:Nat): ∀v∈bO r a,iu (r.m.R*r.m.B*r.m.M) r.m.R (fj of v) v:=by
 unfold bO;cases cX r a
 ·rw[ALcf];cases r.j.A==0
  ·rw[ALcf];cases rH r.q a==14
   ·intro v hv;cases hv
   ·intro v hv;obtain rfl:=List.mem_singleton.1 hv;rcases d.k with⟨b,c⟩ | ⟨b,c⟩
    ·exact⟨.inr (.inl ⟨by rw[b];rfl,c,rfl,by rw[b]⟩)⟩
    ·exact⟨.inr (.inr (.inr ⟨by rw[b];rfl,c,rfl,by rw[b]⟩))⟩
  ·exact DS h d of
 ·intro v hv;cases hv
theorem oP(r:Rp)(a:Ak):(bO r a).length≤1:=by
 unfold bO;cases cX r a
 ·rw[ALcf];cases r.j.A==0
  ·rw[ALcf];cases rH r.q a==14
   ·exact VN _
   ·exact VQ _
  ·rw[ALct,uH];exact VQ _
 ·exact VN _
theorem P0{s:Rp×List Ev}(h:aT s.1)(b:0<s.1.q.length)(of:Nat)(a: ∀v∈s.2,iu (s.1.m.R*s.1.m.B*s.1.m.M) s.1.m.R (fj of v) v): ∀v∈(fq s).2,iu (s.1.m.R*s.1.m.B*s.1.m.M) s.1.m.R (fj of v) v:=by
 unfold fq;cases cX (aX s.1) (s.1.q.headD aG)
 ·intro v hv;rcases List.mem_append.1 hv with hv | hv
  ·exact a v hv
  ·exact DS (r:=aX s.1) (uG h) ⟨(rK h b).k⟩ of v hv
 ·exact a
theorem DT: ∀(n:Nat) (s:Rp×List Ev),n=s.1.q.length→aT s.1→∀b,(∀v∈s.2,iu (s.1.m.R*s.1.m.B*s.1.m.M) s.1.m.R (fj b v) v)→aT (eu n s).1∧(eu n s).2.length≤s.2.length+n∧∀v∈(eu n s).2,iu (s.1.m.R*s.1.m.B*s.1.m.M) s.1.m.R (fj b v) v
 | 0,s,_,h,b,c=>⟨h,VQ _,c⟩
 | n+1,s,i,h,b,c=>by
  unfold eu
  split
  ·have e:0<s.1.q.length:=by omega
   have a:=DQ s;obtain⟨f,g,d⟩:=DT n (fq s) (by rw[xU,Wh];omega) (xT h e) b (by rw[a.R,a.B,a.M];exact P0 h e b c);rw[a.R,a.B,a.M] at d;exact⟨f,by have:=C9 s;omega,d⟩
  ·exact⟨h,by omega,c⟩
theorem DU{r:Rp}(h:aT r)(b:r.j.A≠0)(f:r.j.nx<gh r.j.A r.m.B r.m.M r.m.C):aT (eA r).1∧(eA r).2.length≤257∧∀v∈(eA r).2,iu (r.m.R*r.m.B*r.m.M) r.m.R (fj r.j.A v) v:=by
 unfold eA;cases kA r.m (bk r).j
 ·exact⟨rJ h b f,VN _,λv hv=>by cases hv⟩
 ·rw[ALct];have l:=rJ h b f;have a:=DP (bk r);have i: ∀v∈(ae (bk r)).2,iu (r.m.R*r.m.B*r.m.M) r.m.R (fj r.j.A v) v:=by
   intro v hv;obtain rfl:=List.mem_singleton.1 hv;have w:=h.m.Q.bd.r8;have n:=h.m.rk;rcases h.j.k with e | ⟨e,c⟩ | ⟨e,c⟩
   ·rw[e] at b;exact absurd rfl b
   ·rw[e];exact⟨.inl ⟨rfl,c.hf,.inr rfl,c.ht⟩⟩
   ·rw[e];refine⟨.inr (.inr (.inl ⟨rfl,c.hf,.inr rfl,?_⟩))⟩;have:=c.t1;show r.j.tg<8;omega
  obtain⟨g,o,d⟩:=DT (bk r).q.length (ae (bk r)) (by unfold ae dj;rfl) (uF l b) r.j.A (by
   show ∀v∈(ae (bk r)).2,iu ((dj (bk r)).m.R*(dj (bk r)).m.B*(dj (bk r)).m.M) (dj (bk r)).m.R _ v;rw[a.R,a.B,a.M];exact i)
  have d: ∀v∈(cv (bk r)).2,iu ((dj (bk r)).m.R*(dj (bk r)).m.B*(dj (bk r)).m.M) (dj (bk r)).m.R (fj r.j.A v) v:=d;rw[a.R,a.B,a.M] at d;refine⟨g,?_,d⟩;have p:=h.n;have s:(bk r).q.length=r.q.length:=rfl;have u:(ae (bk r)).2.length=1:=rfl;show(eu (bk r).q.length (ae (bk r))).2.length≤257;omega
theorem P1(of:Nat)(v:Ev):(((bif ((v.k:Nat):Int)==3 then 1 else(bif ((v.k:Nat):Int)==4 then 2 else(bif ((v.k:Nat):Int)==5 then 1+v.t else of))):Nat):Int)=((fj of v:Nat):Int):=by
 unfold fj;by_cases a:v.k=3
 ·rw[a];rfl
 by_cases b:v.k=4
 ·rw[b];rfl
 by_cases c:v.k=5
 ·rw[c];rfl
 have d:(((v.k:Nat):Int)==3)=false:=by rw[dP];omega
 have e:(((v.k:Nat):Int)==4)=false:=by rw[dP];omega
 have f:(((v.k:Nat):Int)==5)=false:=by rw[dP];omega
 rw[d,e,f,ALifn a,ALifn b,ALifn c];rfl
structure Le where
 r:Rp
 k:Tk
 g:Lg
 time:Nat
structure cS (s:Le) (K:Nat):Prop where
 r:aT s.r
 k:dO s.k
 g:fI s.g
 n:s.g.next≤K
 rk:s.k.F.length=s.r.m.R
theorem cS.mono{s:Le}{K a:Nat}(h:cS s K)(b:K≤a):cS s a:=⟨h.r,h.k,h.g,VG h.n b,h.rk⟩
def uV(of:Nat)(s:Le)(l:List Ev):Le:={s with k:=e4 of s.k l,g:=ew s.r.m of s.time s.g l}
theorem DV{s:Le}{K:Nat}(h:cS s K)(of:Nat)(l:List Ev)(a:K+l.length≤1000000000):cS (uV of s l) (K+l.length):=by
 have b:=h.n;exact⟨h.r,yf of l h.k,yh _ of _ l h.g Om,by show(ew _ of _ s.g l).next≤_;rw[uS];omega,(yg of l s.k).trans h.rk⟩
def uW(s:Le)(x:Re):Le:={s with g:=bP s.g x}
theorem uX{s:Le}{K:Nat}(h:cS s K)(x:Re)(a:K+1≤1000000000):cS (uW s x) (K+1):=by
 have b:=h.n;exact⟨h.r,h.k,h.g.add x Om,by show(bP s.g x).next≤_;rw[mv];omega,h.rk⟩
def yj(s:Le)(r p n:Nat):Le:={s with k:=ft s.k r p n}
theorem yl{s:Le}{K:Nat}(h:cS s K){r:Nat}(p n:Nat)(a:r<s.r.m.R):cS (yj s r p n) K:=⟨h.r,h.k.note p n (by rw[h.rk];exact a),h.g,h.n,(PS ..).trans h.rk⟩
def rQ(s:Le)(r:Rp):Le:={s with r:=r}
theorem oQ{s:Le}{K:Nat}(h:cS s K){a:Ak}(b:et s.r.m a):cS (rQ s (bc s.r a)) K:=⟨PZ h.r b,h.k,h.g,h.n,h.rk.trans (nR s.r a).R.symm⟩
def nT(s:Le)(a:Ak):Le:=uV a.k (rQ s (bc s.r a)) (bO s.r a)
theorem uY{s:Le}{K:Nat}(h:cS s K){a:Ak}(b:et s.r.m a)(c:K+1≤1000000000):cS (nT s a) (K+1):=by
 have d:=oP s.r a;exact(DV (oQ h b) a.k (bO s.r a) Om).mono Om
theorem uZ(s:Le)(a:Ak):eG s.r.m (nT s a).r.m:=nR s.r a
theorem et.ly{m b:Mp}{a:Ak}(h:et m a)(e:eG m b):et b a:=⟨by rw[e.R,e.B,e.M];exact h.k⟩
theorem iu.ly{m a:Mp}{of:Nat}{v:Ev}(h:iu (m.R*m.B*m.M) m.R of v)(e:eG m a):iu (a.R*a.B*a.M) a.R of v:=by rw[e.R,e.B,e.M];exact h
def mw(s:Le)(b a w:Nat)(x:Re):Le:=yj (uW s x) b a w
def fR(s:Le)(b a w:Nat)(x:Re):Le:=bif cN s.k.lp (da s.k.t a).l w then nT (mw s b a w x) ⟨1,a⟩ else mw s b a w x
def eU(s:Le)(a b w:Nat)(x:Re):Le:=bif cN s.k.lr (s.k.F.getD a bg).l w then nT (fR s a b w x) ⟨2,a⟩ else fR s a b w x
theorem DW{s:Le}{K b a w:Nat}(x:Re)(h:cS s K)(e:b<s.r.m.R)(d:a<s.r.m.R*s.r.m.B*s.r.m.M)(f:K+3≤1000000000):cS (fR s b a w x) (K+2):=by
 have c:=yl (uX h x Om) a w e;unfold fR;cases cN s.k.lp (da s.k.t a).l w
 ·exact c.mono Om
 ·exact(uY c ⟨.inl ⟨rfl,d⟩⟩ Om).mono Om
theorem u0(s:Le)(b a w:Nat)(x:Re):eG s.r.m (fR s b a w x).r.m:=by
 unfold fR;cases cN s.k.lp (da s.k.t a).l w
 ·exact eG.rfl' _
 ·exact uZ (mw s b a w x) _
theorem DX{s:Le}{K a b w:Nat}(x:Re)(h:cS s K)(d:a<s.r.m.R)(f:b<s.r.m.R*s.r.m.B*s.r.m.M)(e:K+3≤1000000000):cS (eU s a b w x) (K+3):=by
 have c:=DW (w:=w) x h d f e;unfold eU;cases cN s.k.lr (s.k.F.getD a bg).l w
 ·exact c.mono Om
 ·exact(uY c ⟨.inr ⟨rfl,by rw[(u0 s a b w x).R];exact d⟩⟩ Om).mono Om
theorem DY(s:Le)(a b w:Nat)(x:Re):eG s.r.m (eU s a b w x).r.m:=by
 unfold eU;cases cN s.k.lr (s.k.F.getD a bg).l w
 ·exact u0 ..
 ·exact(u0 s a b w x).tr (uZ _ _)
structure Nt where
 k:Nat
 v:Nat
 f:Nat
 i:Nat
 h:Nat
 r:Nat
def dq(heavy:Nat)(s:Le)(n:Nt):Le:=if n.v=0 then s else if n.v=1 then eU s n.r n.h 1 ⟨0,s.time,1,n.i,n.f⟩ else if n.v=2 then uW s ⟨0,s.time,2,n.i,1⟩ else eU s n.r n.h heavy ⟨0,s.time,2,n.i,0⟩
theorem P2(heavy:Nat)(s:Le)(n:Nt):eG s.r.m (dq heavy s n).r.m:=by
 unfold dq
 split
 ·exact eG.rfl' _
 split
 ·exact DY ..
 split
 ·exact eG.rfl' _
 ·exact DY ..
theorem P3{heavy K:Nat}{s:Le}{n:Nt}(h:cS s K)(c:n.r<s.r.m.R)(b:n.h<s.r.m.R*s.r.m.B*s.r.m.M)(a:K+3≤1000000000):cS (dq heavy s n) (K+3):=by
 unfold dq
 split
 ·exact h.mono Om
 split
 ·exact DX _ h c b a
 split
 ·exact(uX h _ Om).mono Om
 ·exact DX _ h c b a
def h8(s:Le):Le:=uV s.r.j.A (rQ s (eA s.r).1) (eA s.r).2
theorem P4{s:Le}{K:Nat}(h:cS s K)(c:s.r.j.A≠0)(d:s.r.j.nx<gh s.r.j.A s.r.m.B s.r.m.M s.r.m.C)(g:K+257≤1000000000):cS (h8 s) (K+257):=by
 obtain⟨a,e,f⟩:=DU h.r c d;have b:cS (rQ s (eA s.r).1) K:=⟨a,h.k,h.g,h.n,h.rk.trans (uU s.r).R.symm⟩;exact(DV b _ (eA s.r).2 Om).mono Om
theorem P5(s:Le):eG s.r.m (h8 s).r.m:=uU s.r
def DZ(s:Le):Le:={s with k:=mo s.k,time:=s.time+1}
def D0(s:Le):Le:={s with g:=mn s.g}
theorem P6{s:Le}{K:Nat}(h:cS s K):cS (DZ s) K:=⟨h.r,h.k.tick,h.g,h.n,(PU _).trans h.rk⟩
theorem P7{s:Le}{K:Nat}(h:cS s K):cS (D0 s) K:=⟨h.r,h.k,h.g.clear,h.n,h.rk⟩
end
theorem P8(j h f e l m n:Nat)(c:Cf)(time:Nat)(r:Rp)(o:aT r)(k:Tk)(s:dO k)(g:Lg)(q:fI g)(of:Nat)(v:Ev)(hv:iu (r.m.R*r.m.B*r.m.M) r.m.R of v)(t:k.F.length=r.m.R):aa VA 213 #[pt j 0,iN of,.agg #[iN v.k,iN v.f,iN v.t]] [ob j (lA c h f e time) 122,pk (aq h l m r),pk (aC f n k),pk (aA e g)] [1,2,3] (λ_=>[pk (aq h l m r),pk (aC f n (gj of k v)),pk (aA e (bP g (gx r.m of time v)))]) (λ_=> .tuple #[]):=by
 have u:=o.m.Q.bd.r8;obtain⟨w,a,b⟩:=v;obtain⟨hv⟩:=hv;simp only at hv;rcases hv with⟨rfl,p,d,i⟩ | ⟨rfl,p,d,i⟩ | ⟨rfl,p,d,i⟩ | ⟨rfl,p,d,i⟩
 ·rcases d with rfl | rfl
  ·rw[show gx r.m 1 time ⟨3,a,b⟩=⟨0,time,3,bq r.m a*64,bq r.m b*64⟩ by simp [gx,nQ],show gj 1 k ⟨3,a,b⟩=k by simp [gj]];exact PF j h f e l m n c time r o k s g q a b p i
  ·rw[show gx r.m 1 time ⟨6,a,b⟩=⟨0,time,6,bq r.m a*64,bq r.m b*64⟩ by simp [gx,nQ],show gj 1 k ⟨6,a,b⟩=pM k a by simp [gj]];exact PH j h f e l m n c time r o k s g q a b p i
 ·subst d;subst i;rw[show gx r.m 1 time ⟨5,a,0⟩=⟨0,time,5,bq r.m a*64,0⟩ by simp [gx,nQ],show gj 1 k ⟨5,a,0⟩=k by simp [gj]];exact PG j h f e l m n c time r o k s g q a p
 ·rcases d with rfl | rfl
  ·rw[show gx r.m 2 time ⟨4,a,b⟩=⟨0,time,4,a*1048576,b*1048576⟩ by simp [gx,nQ],show gj 2 k ⟨4,a,b⟩=k by simp [gj]];exact PI j h f e l m n c time r o k s g q a b Om i
  ·rw[show gx r.m 2 time ⟨6,a,b⟩=⟨0,time,6,a*1048576,b*1048576⟩ by simp [gx,nQ],show gj 2 k ⟨6,a,b⟩=oN k a by simp [gj]];exact PK j h f e l m n c time r o k s g q a b Om i Om
 ·subst d;subst i;rw[show gx r.m 2 time ⟨5,a,1⟩=⟨0,time,5,a*1048576,1⟩ by simp [gx,nQ],show gj 2 k ⟨5,a,1⟩=k by simp [gj]];exact PJ j h f e l m n c time r o k s g q a Om
theorem iu.tb{np n of:Nat}{v:Ev}(h:iu np n of v)(a:np≤4096):v.t<4096:=by
 obtain⟨h⟩:=h;omega
theorem oR(m d b a n o j:Nat)(c:Cf)(time:Nat)(r:Rp)(I:aT r)(k:Tk)(R:dO k)(g:Lg)(Q:fI g)(of:Nat)(v:Value)(l:List Ev)(V:l.length≤300)(T:g.next+l.length≤1000000000)(P: ∀e∈l,iu (r.m.R*r.m.B*r.m.M) r.m.R (fj of e) e)(G:k.F.length=r.m.R):aa VA 166 #[pt m 0,iN of,v] [ob m (lA c d b a time) 122,pk (aq d n o r),pk (aC b j k),pk (aA a g),.p (aH xR v l)] [1,2,3] (λ_=>[pk (aq d n o r),pk (aC b j (e4 of k l)),pk (aA a (ew r.m of time g l))]) (λ_=> .tuple #[]):=by
 refine fO Tryz.func166 4 rfl λh x=>fG Tryz.func166 λw cs=>r0 [(1,eD x.1 4)] [(9,v),(10,iN l.length),(11,i6 0)] [] ?_;refine lq (λi=>i≤l.length) (λi=>[(11,iN i)]) (λi L=>(L.set 2 ((pk (aC b j (e4 of k (l.take i)))))).set 3 ((pk (aA a (ew r.m of time g (l.take i)))))) (λi=>l.length-i) 0 Om Kr (by rw[V2];kernel_rfl) (λi S=>?_);have K:=yf of (l.take i) R;have M:(l.take i).length≤l.length:=by rw[VI];omega
 have J:=yh r.m of time (l.take i) Q Om;have B:=(yg of (l.take i) k).trans G;refine r0 [] [(12,.bool (decide ((i:Int)<(l.length:Int))))] [] ?_;refine b0 (i:Int) (l.length:Int) (λO C=>?_) λO C=>?_
 ·have H:=(nP cI).2 P i Om;have N:=H.tb I.m.np;refine rr (λ_=>[(0,fa x.1 4 i 3),(1,mQ iP x.1 4 i 0 3),(3,.s 5)]) (λy=>[(7,pt (B2 y) 0)]) [] (λy L=>L++[ob (B2 y) #[iN ((l.getD i cI).k),iN ((l.getD i cI).f),iN ((l.getD i cI).t)] 349]) λy=>r0 [] [(8,iN of)] [] (r0 [(1,.l 5)] [(17,iN ((l.getD i cI).k))] [] (r0 [] [(18,.bool ((((l.getD i cI).k:Nat):Int)==3))] [] ?_));refine cJ ((((l.getD i cI).k:Nat):Int)==3) (λc=>[(8,iN (bif c then 1 else(bif (((l.getD i cI).k:Nat):Int)==4 then 2 else(bif (((l.getD i cI).k:Nat):Int)==5 then 1+((l.getD i cI).t) else of))))]) (λ_=>[ob m (lA c d b a time) 122,pk (aq d n o r),pk (aC b j (e4 of k (l.take i))),pk (aA a (ew r.m of time g (l.take i))),.c h,ob (B2 y) #[iN ((l.getD i cI).k),iN ((l.getD i cI).f),iN ((l.getD i cI).t)] 349]) (λF=>?_) (λF=>?_) ?_
  ·have D:=eq_of_beq F;refine r0 [] [(8,i6 1)] [8] ?_;exact cm Kr [0,1,2,3,4,5] Kr
  ·have D:=ne_of_beq_false F;refine r0 [] [(20,.bool ((((l.getD i cI).k:Nat):Int)==4))] [] ?_;refine cJ ((((l.getD i cI).k:Nat):Int)==4) (λc=>[(8,iN (bif c then 2 else(bif (((l.getD i cI).k:Nat):Int)==5 then 1+((l.getD i cI).t) else of)))]) (λ_=>[ob m (lA c d b a time) 122,pk (aq d n o r),pk (aC b j (e4 of k (l.take i))),pk (aA a (ew r.m of time g (l.take i))),.c h,ob (B2 y) #[iN ((l.getD i cI).k),iN ((l.getD i cI).f),iN ((l.getD i cI).t)] 349]) (λq=>?_) (λq=>?_) ?_
   ·have z:=eq_of_beq q;refine r0 [] [(8,i6 2)] [8] ?_;exact cm Kr [0,1,2,3,4,5] Kr
   ·have z:=ne_of_beq_false q;refine r0 [] [(22,.bool ((((l.getD i cI).k:Nat):Int)==5))] [] ?_;refine cJ ((((l.getD i cI).k:Nat):Int)==5) (λc=>[(8,iN (bif c then 1+((l.getD i cI).t) else of))]) (λ_=>[ob m (lA c d b a time) 122,pk (aq d n o r),pk (aC b j (e4 of k (l.take i))),pk (aA a (ew r.m of time g (l.take i))),.c h,ob (B2 y) #[iN ((l.getD i cI).k),iN ((l.getD i cI).f),iN ((l.getD i cI).t)] 349]) (λu=>?_) (λu=>?_) ?_
    ·have A:=eq_of_beq u;refine r0 [(1,.l 5),(2,ad 1 ((l.getD i cI).t))] [(8,iN (1+((l.getD i cI).t)))] [8] ?_;exact cm Kr [0,1,2,3,4,5] Kr
    ·have A:=ne_of_beq_false u;exact cm Kr [0,1,2,3,4,5] Kr
    exact cm Kr [0,1,2,3,4,5] Kr
   exact cm Kr [0,1,2,3,4,5] Kr
  exact rr (λ_=>[(1,.t (tk (show iN (bif (((l.getD i cI).k:Nat):Int)==3 then 1 else(bif (((l.getD i cI).k:Nat):Int)==4 then 2 else(bif (((l.getD i cI).k:Nat):Int)==5 then 1+((l.getD i cI).t) else of)))=iN (fj of (l.getD i cI)) from ALca (Value.int .i64) (P1 of (l.getD i cI))))),(2,.l 5),(3,.c [0,1,2,3] [1,2,3] (P8 m d b a n o j c time r I (e4 of k (l.take i)) K (ew r.m of time g (l.take i)) J (fj of (l.getD i cI)) (l.getD i cI) H B))]) N0 [] (λ_ L=>(L.set 2 ((pk (aC b j (gj (fj of (l.getD i cI)) (e4 of k (l.take i)) (l.getD i cI)))))).set 3 ((pk (aA a (bP (ew r.m of time g (l.take i)) (gx r.m (fj of (l.getD i cI)) time (l.getD i cI))))))) λU=>r0 [(0,ad i 1)] [(11,iN (i+1))] [11] (le (i+1) Om Om Kr [0,1,2,3,4] (by rw[PX Om,PY Om];kernel_rfl))
 obtain rfl:i=l.length:=by omega
 refine cl [ob m (lA c d b a time) 122,pk (aq d n o r),pk (aC b j (e4 of k l)),pk (aA a (ew r.m of time g l)),.c h] (by rw[VY];kernel_rfl) (lx ?_);exact eo ab.zero [1,2,3] [(0,0),(4,4)] []
theorem P9(q d b j n o p:Nat)(c:Cf)(s:Le)(K:Nat)(hs:cS s K)(hK:K+3≤1000000000)(Y:c.H≤65536)(i h a f:Nat)(A:a<s.r.m.R)(V:h<s.r.m.R*s.r.m.B*s.r.m.M):aa VA 163 #[pt q 0,.agg #[i6 1,i6 1,iN f,iN i,iN h,iN a]] [ob q (lA c d b j s.time) 122,pk (aq d n o s.r),pk (aC b p s.k),pk (aA j s.g)] [1,2,3] (λ_=>[pk (aq d n o (eU s a h (1) ⟨0,s.time,1,i,f⟩).r),pk (aC b p (eU s a h (1) ⟨0,s.time,1,i,f⟩).k),pk (aA j (eU s a h (1) ⟨0,s.time,1,i,f⟩).g)]) (λ_=> .tuple #[]):=by
 have N:=hs.rk;have X:=hs.n;have U:=uX hs ⟨0,s.time,1,i,f⟩ Om;have z:=yl U h (1) A;have H:et (mw s a h (1) ⟨0,s.time,1,i,f⟩).r.m ⟨1,h⟩:=⟨.inl ⟨rfl,V⟩⟩;have I:et (mw s a h (1) ⟨0,s.time,1,i,f⟩).r.m ⟨2,a⟩:=⟨.inr ⟨rfl,A⟩⟩;have O:=oQ z H;have R:=pO z.r H 1;have Z:=oP s.r ⟨1,h⟩;have F:=uY z H Om;have P:=oQ z I;have S:=pO z.r I 2;have l5:=oP s.r ⟨2,a⟩;have M:et (nT (mw s a h (1) ⟨0,s.time,1,i,f⟩) ⟨1,h⟩).r.m ⟨2,a⟩:=I.ly (uZ _ _);have Q:=oQ F M;have T:=pO F.r M 2;have l6:=oP (bc s.r ⟨1,h⟩) ⟨2,a⟩;have y3:=nR s.r ⟨1,h⟩;have y5:=nR s.r ⟨2,a⟩;have y6:=nR (bc s.r ⟨1,h⟩) ⟨2,a⟩;have n3:(bP s.g ⟨0,s.time,1,i,f⟩).next+(bO s.r ⟨1,h⟩).length≤1000000000:=by rw[mv];omega
 have n5:(bP s.g ⟨0,s.time,1,i,f⟩).next+(bO s.r ⟨2,a⟩).length≤1000000000:=by rw[mv];omega
 have n6:(ew (bc s.r ⟨1,h⟩).m 1 s.time (bP s.g ⟨0,s.time,1,i,f⟩) (bO s.r ⟨1,h⟩)).next+(bO (bc s.r ⟨1,h⟩) ⟨2,a⟩).length≤1000000000:=by rw[uS,mv];omega
 have W:=A;refine fG Tryz.func163 λw cs=>ra (λD=>[(3,pt (B0 D) 0)]) (λD=>[ob (B0 D) #[i6 1,i6 1,iN f,iN i,iN h,iN a] 81]) λD=>r0 [] [(4,i6 0)] [] (r0 [(2,.l 4)] [(9,i6 1)] [] (rF [] 20 (rT [] 22 (r0 [] [(4,i6 1)] [4] (rs [(2,.l 4),(5,.l 4),(6,.c [0,3] [3] (m6 q d b j c s.time s.g hs.g 1 i f))] 3 ((pk (aA j (bP s.g ⟨0,s.time,1,i,f⟩)))) (rr (λ_=>[(0,.v (pt q 0)),(1,.v (pt q 0)),(2,.v (pt q 17)),(3,.m (ld 0 (pt b 0))),(4,.v (pt (B0 D) 5)),(5,.m (ld 4 (iN a))),(6,.v (pt (B0 D) 4)),(7,.m (ld 4 (iN h))),(8,.v (i6 1)),(9,.c [2] [2] (DD b p s.k hs.k a h 1 (by rw[N];exact A) Om)),(10,.v (.tuple #[.agg #[.bool (cN s.k.lr ((s.k.F.getD a bg).l) 1),.bool (cN s.k.lp ((da s.k.t h).l) 1)],i6 0])),(11,.v (.agg #[.bool (cN s.k.lr ((s.k.F.getD a bg).l) 1),.bool (cN s.k.lp ((da s.k.t h).l) 1)])),(12,.v (i6 0)),(13,.m (al 5)),(14,.s 5),(15,.v (i6 0))]) (λJ=>[(5,pt ((J 13).y 0) 0)]) [] (λJ L=>L.set 2 ((pk (aC b p (ft s.k a h 1))))++[ob ((J 13).y 0) #[.bool (cN s.k.lr ((s.k.F.getD a bg).l) 1),.bool (cN s.k.lp ((da s.k.t h).l) 1)] 339]) λJ=>r0 [(1,.l 5)] [(51,.bool (cN s.k.lp ((da s.k.t h).l) 1))] [] ?_))))));refine cB (cN s.k.lp ((da s.k.t h).l) 1) (λt=>?_) λt=>?_
 ·refine rr (λu=>[(4,.l 0),(6,.l 4),(8,.c [1] [1,6] (pL d n o s.r (by exact hs.r) (⟨1,h⟩:Ak) (by exact H))),(9,.c [0,1,2,3,6] [1,2,3] (aa.at (rd':=[ob q (lA c d b j s.time) 122,pk (aq d n o (bc s.r (⟨1,h⟩:Ak))),pk (aC b p (ft s.k a h 1)),pk (aA j (bP s.g ⟨0,s.time,1,i,f⟩)),ba ((u 8).val 0) (bO s.r (⟨1,h⟩:Ak))]) (oR q d b j n o p c s.time (bc s.r (⟨1,h⟩:Ak)) (by exact O.r) (ft s.k a h 1) (by exact z.k) (bP s.g ⟨0,s.time,1,i,f⟩) (by exact z.g) 1 ((u 8).val 0) (bO s.r (⟨1,h⟩:Ak)) (by exact VG Z Dc) (by exact n3) (by exact λe G=>(R e G).ly y3) (by exact O.rk)) (aK (aK (aK (aK (bM (λ_ h=>ar.sq h) (λ_ h=>h))))))))]) N0 [] (λu L=>((L.set 1 ((pk (aq d n o (bc s.r (⟨1,h⟩:Ak)))))).set 2 ((pk (aC b p (e4 1 (ft s.k a h 1) (bO s.r (⟨1,h⟩:Ak))))))).set 3 ((pk (aA j (ew (bc s.r (⟨1,h⟩:Ak)).m 1 s.time (bP s.g ⟨0,s.time,1,i,f⟩) (bO s.r (⟨1,h⟩:Ak))))))++[ba ((u 8).val 0) (bO s.r (⟨1,h⟩:Ak))]) λu=>r0 [(1,.l 5)] [(63,.bool (cN s.k.lr ((s.k.F.getD a bg).l) 1))] [] ?_;refine cB (cN s.k.lr ((s.k.F.getD a bg).l) 1) (λB=>?_) λB=>?_
  ·refine rr (λx=>[(4,.l 0),(6,.l 4),(8,.c [1] [1,7] (pL d n o (bc s.r (⟨1,h⟩:Ak)) (by exact F.r) (⟨2,a⟩:Ak) (by exact M))),(9,.c [0,1,2,3,7] [1,2,3] (aa.at (rd':=[ob q (lA c d b j s.time) 122,pk (aq d n o (bc (bc s.r (⟨1,h⟩:Ak)) (⟨2,a⟩:Ak))),pk (aC b p (e4 1 (ft s.k a h 1) (bO s.r (⟨1,h⟩:Ak)))),pk (aA j (ew (bc s.r (⟨1,h⟩:Ak)).m 1 s.time (bP s.g ⟨0,s.time,1,i,f⟩) (bO s.r (⟨1,h⟩:Ak)))),ba ((x 8).val 0) (bO (bc s.r (⟨1,h⟩:Ak)) (⟨2,a⟩:Ak))]) (oR q d b j n o p c s.time (bc (bc s.r (⟨1,h⟩:Ak)) (⟨2,a⟩:Ak)) (by exact Q.r) (e4 1 (ft s.k a h 1) (bO s.r (⟨1,h⟩:Ak))) (by exact F.k) (ew (bc s.r (⟨1,h⟩:Ak)).m 1 s.time (bP s.g ⟨0,s.time,1,i,f⟩) (bO s.r (⟨1,h⟩:Ak))) (by exact F.g) 2 ((x 8).val 0) (bO (bc s.r (⟨1,h⟩:Ak)) (⟨2,a⟩:Ak)) (by exact VG l6 Dc) (by exact n6) (by exact λe G=>(T e G).ly y6) (by exact Q.rk)) (aK (aK (aK (aK (bM (λ_ h=>ar.sq h) (λ_ h=>h))))))))]) N0 [] (λx L=>((L.set 1 ((pk (aq d n o (bc (bc s.r (⟨1,h⟩:Ak)) (⟨2,a⟩:Ak)))))).set 2 ((pk (aC b p (e4 2 (e4 1 (ft s.k a h 1) (bO s.r (⟨1,h⟩:Ak))) (bO (bc s.r (⟨1,h⟩:Ak)) (⟨2,a⟩:Ak))))))).set 3 ((pk (aA j (ew (bc (bc s.r (⟨1,h⟩:Ak)) (⟨2,a⟩:Ak)).m 2 s.time (ew (bc s.r (⟨1,h⟩:Ak)).m 1 s.time (bP s.g ⟨0,s.time,1,i,f⟩) (bO s.r (⟨1,h⟩:Ak))) (bO (bc s.r (⟨1,h⟩:Ak)) (⟨2,a⟩:Ak))))))++[ba ((x 8).val 0) (bO (bc s.r (⟨1,h⟩:Ak)) (⟨2,a⟩:Ak))]) λx=>?_;exact eo ab.zero [1,2,3] [(0,0)] [] (hf:=by unfold eU fR;(repeat (first | rw[t] | rw[B] | rw[ALct]));kernel_rfl)
  exact eo ab.zero [1,2,3] [(0,0)] [] (hf:=by unfold eU fR;(repeat (first | rw[t] | rw[B] | rw[ALct] | rw[ALcf]));kernel_rfl)
 refine r0 [(1,.l 5)] [(63,.bool (cN s.k.lr ((s.k.F.getD a bg).l) 1))] [] ?_;refine cB (cN s.k.lr ((s.k.F.getD a bg).l) 1) (λC=>?_) λC=>?_
 ·refine rr (λy=>[(4,.l 0),(6,.l 4),(8,.c [1] [1,6] (pL d n o s.r (by exact hs.r) (⟨2,a⟩:Ak) (by exact I))),(9,.c [0,1,2,3,6] [1,2,3] (aa.at (rd':=[ob q (lA c d b j s.time) 122,pk (aq d n o (bc s.r (⟨2,a⟩:Ak))),pk (aC b p (ft s.k a h 1)),pk (aA j (bP s.g ⟨0,s.time,1,i,f⟩)),ba ((y 8).val 0) (bO s.r (⟨2,a⟩:Ak))]) (oR q d b j n o p c s.time (bc s.r (⟨2,a⟩:Ak)) (by exact P.r) (ft s.k a h 1) (by exact z.k) (bP s.g ⟨0,s.time,1,i,f⟩) (by exact z.g) 2 ((y 8).val 0) (bO s.r (⟨2,a⟩:Ak)) (by exact VG l5 Dc) (by exact n5) (by exact λe G=>(S e G).ly y5) (by exact P.rk)) (aK (aK (aK (aK (bM (λ_ h=>ar.sq h) (λ_ h=>h))))))))]) N0 [] (λy L=>((L.set 1 ((pk (aq d n o (bc s.r (⟨2,a⟩:Ak)))))).set 2 ((pk (aC b p (e4 2 (ft s.k a h 1) (bO s.r (⟨2,a⟩:Ak))))))).set 3 ((pk (aA j (ew (bc s.r (⟨2,a⟩:Ak)).m 2 s.time (bP s.g ⟨0,s.time,1,i,f⟩) (bO s.r (⟨2,a⟩:Ak))))))++[ba ((y 8).val 0) (bO s.r (⟨2,a⟩:Ak))]) λy=>?_;exact eo ab.zero [1,2,3] [(0,0)] [] (hf:=by unfold eU fR;(repeat (first | rw[t] | rw[C] | rw[ALct] | rw[ALcf]));kernel_rfl)
 exact eo ab.zero [1,2,3] [(0,0)] [] (hf:=by unfold eU fR;(repeat (first | rw[t] | rw[C] | rw[ALcf]));kernel_rfl)
theorem Qa(q d b j n o p:Nat)(c:Cf)(s:Le)(K:Nat)(hs:cS s K)(hK:K+3≤1000000000)(Y:c.H≤65536)(i h a f:Nat)(A:a<s.r.m.R)(V:h<s.r.m.R*s.r.m.B*s.r.m.M):aa VA 163 #[pt q 0,.agg #[i6 1,i6 3,iN f,iN i,iN h,iN a]] [ob q (lA c d b j s.time) 122,pk (aq d n o s.r),pk (aC b p s.k),pk (aA j s.g)] [1,2,3] (λ_=>[pk (aq d n o (eU s a h (c.H) ⟨0,s.time,2,i,0⟩).r),pk (aC b p (eU s a h (c.H) ⟨0,s.time,2,i,0⟩).k),pk (aA j (eU s a h (c.H) ⟨0,s.time,2,i,0⟩).g)]) (λ_=> .tuple #[]):=by
 have N:=hs.rk;have X:=hs.n;have U:=uX hs ⟨0,s.time,2,i,0⟩ Om;have z:=yl U h (c.H) A;have H:et (mw s a h (c.H) ⟨0,s.time,2,i,0⟩).r.m ⟨1,h⟩:=⟨.inl ⟨rfl,V⟩⟩;have I:et (mw s a h (c.H) ⟨0,s.time,2,i,0⟩).r.m ⟨2,a⟩:=⟨.inr ⟨rfl,A⟩⟩;have O:=oQ z H;have R:=pO z.r H 1;have Z:=oP s.r ⟨1,h⟩;have F:=uY z H Om;have P:=oQ z I;have S:=pO z.r I 2;have l5:=oP s.r ⟨2,a⟩;have M:et (nT (mw s a h (c.H) ⟨0,s.time,2,i,0⟩) ⟨1,h⟩).r.m ⟨2,a⟩:=I.ly (uZ _ _);have Q:=oQ F M;have T:=pO F.r M 2;have l6:=oP (bc s.r ⟨1,h⟩) ⟨2,a⟩;have y3:=nR s.r ⟨1,h⟩;have y5:=nR s.r ⟨2,a⟩;have y6:=nR (bc s.r ⟨1,h⟩) ⟨2,a⟩;have n3:(bP s.g ⟨0,s.time,2,i,0⟩).next+(bO s.r ⟨1,h⟩).length≤1000000000:=by rw[mv];omega
 have n5:(bP s.g ⟨0,s.time,2,i,0⟩).next+(bO s.r ⟨2,a⟩).length≤1000000000:=by rw[mv];omega
 have n6:(ew (bc s.r ⟨1,h⟩).m 1 s.time (bP s.g ⟨0,s.time,2,i,0⟩) (bO s.r ⟨1,h⟩)).next+(bO (bc s.r ⟨1,h⟩) ⟨2,a⟩).length≤1000000000:=by rw[uS,mv];omega
 have W:=A;refine fG Tryz.func163 λw cs=>ra (λD=>[(3,pt (B0 D) 0)]) (λD=>[ob (B0 D) #[i6 1,i6 3,iN f,iN i,iN h,iN a] 81]) λD=>r0 [] [(4,i6 0)] [] (r0 [(2,.l 4)] [(9,i6 3)] [] (rF [] 20 (rF [] 22 (rF [] 31 (r0 [(5,.l 0)] [(4,iN c.H)] [4] (rs [(2,.l 4),(3,.c [0,3] [3] (m6 q d b j c s.time s.g hs.g 2 i 0))] 3 ((pk (aA j (bP s.g ⟨0,s.time,2,i,0⟩)))) (rr (λ_=>[(0,.v (pt q 0)),(1,.v (pt q 0)),(2,.v (pt q 17)),(3,.m (ld 0 (pt b 0))),(4,.v (pt (B0 D) 5)),(5,.m (ld 4 (iN a))),(6,.v (pt (B0 D) 4)),(7,.m (ld 4 (iN h))),(8,.v (iN c.H)),(9,.c [2] [2] (DD b p s.k hs.k a h c.H (by rw[N];exact A) Om)),(10,.v (.tuple #[.agg #[.bool (cN s.k.lr ((s.k.F.getD a bg).l) c.H),.bool (cN s.k.lp ((da s.k.t h).l) c.H)],i6 0])),(11,.v (.agg #[.bool (cN s.k.lr ((s.k.F.getD a bg).l) c.H),.bool (cN s.k.lp ((da s.k.t h).l) c.H)])),(12,.v (i6 0)),(13,.m (al 5)),(14,.s 5),(15,.v (i6 0))]) (λJ=>[(5,pt ((J 13).y 0) 0)]) [] (λJ L=>L.set 2 ((pk (aC b p (ft s.k a h c.H))))++[ob ((J 13).y 0) #[.bool (cN s.k.lr ((s.k.F.getD a bg).l) c.H),.bool (cN s.k.lp ((da s.k.t h).l) c.H)] 339]) λJ=>r0 [(1,.l 5)] [(51,.bool (cN s.k.lp ((da s.k.t h).l) c.H))] [] ?_)))))));refine cB (cN s.k.lp ((da s.k.t h).l) c.H) (λt=>?_) λt=>?_
 ·refine rr (λu=>[(4,.l 0),(6,.l 4),(8,.c [1] [1,6] (pL d n o s.r (by exact hs.r) (⟨1,h⟩:Ak) (by exact H))),(9,.c [0,1,2,3,6] [1,2,3] (aa.at (rd':=[ob q (lA c d b j s.time) 122,pk (aq d n o (bc s.r (⟨1,h⟩:Ak))),pk (aC b p (ft s.k a h c.H)),pk (aA j (bP s.g ⟨0,s.time,2,i,0⟩)),ba ((u 8).val 0) (bO s.r (⟨1,h⟩:Ak))]) (oR q d b j n o p c s.time (bc s.r (⟨1,h⟩:Ak)) (by exact O.r) (ft s.k a h c.H) (by exact z.k) (bP s.g ⟨0,s.time,2,i,0⟩) (by exact z.g) 1 ((u 8).val 0) (bO s.r (⟨1,h⟩:Ak)) (by exact VG Z Dc) (by exact n3) (by exact λe G=>(R e G).ly y3) (by exact O.rk)) (aK (aK (aK (aK (bM (λ_ h=>ar.sq h) (λ_ h=>h))))))))]) N0 [] (λu L=>((L.set 1 ((pk (aq d n o (bc s.r (⟨1,h⟩:Ak)))))).set 2 ((pk (aC b p (e4 1 (ft s.k a h c.H) (bO s.r (⟨1,h⟩:Ak))))))).set 3 ((pk (aA j (ew (bc s.r (⟨1,h⟩:Ak)).m 1 s.time (bP s.g ⟨0,s.time,2,i,0⟩) (bO s.r (⟨1,h⟩:Ak))))))++[ba ((u 8).val 0) (bO s.r (⟨1,h⟩:Ak))]) λu=>r0 [(1,.l 5)] [(63,.bool (cN s.k.lr ((s.k.F.getD a bg).l) c.H))] [] ?_;refine cB (cN s.k.lr ((s.k.F.getD a bg).l) c.H) (λB=>?_) λB=>?_
  ·refine rr (λx=>[(4,.l 0),(6,.l 4),(8,.c [1] [1,7] (pL d n o (bc s.r (⟨1,h⟩:Ak)) (by exact F.r) (⟨2,a⟩:Ak) (by exact M))),(9,.c [0,1,2,3,7] [1,2,3] (aa.at (rd':=[ob q (lA c d b j s.time) 122,pk (aq d n o (bc (bc s.r (⟨1,h⟩:Ak)) (⟨2,a⟩:Ak))),pk (aC b p (e4 1 (ft s.k a h c.H) (bO s.r (⟨1,h⟩:Ak)))),pk (aA j (ew (bc s.r (⟨1,h⟩:Ak)).m 1 s.time (bP s.g ⟨0,s.time,2,i,0⟩) (bO s.r (⟨1,h⟩:Ak)))),ba ((x 8).val 0) (bO (bc s.r (⟨1,h⟩:Ak)) (⟨2,a⟩:Ak))]) (oR q d b j n o p c s.time (bc (bc s.r (⟨1,h⟩:Ak)) (⟨2,a⟩:Ak)) (by exact Q.r) (e4 1 (ft s.k a h c.H) (bO s.r (⟨1,h⟩:Ak))) (by exact F.k) (ew (bc s.r (⟨1,h⟩:Ak)).m 1 s.time (bP s.g ⟨0,s.time,2,i,0⟩) (bO s.r (⟨1,h⟩:Ak))) (by exact F.g) 2 ((x 8).val 0) (bO (bc s.r (⟨1,h⟩:Ak)) (⟨2,a⟩:Ak)) (by exact VG l6 Dc) (by exact n6) (by exact λe G=>(T e G).ly y6) (by exact Q.rk)) (aK (aK (aK (aK (bM (λ_ h=>ar.sq h) (λ_ h=>h))))))))]) N0 [] (λx L=>((L.set 1 ((pk (aq d n o (bc (bc s.r (⟨1,h⟩:Ak)) (⟨2,a⟩:Ak)))))).set 2 ((pk (aC b p (e4 2 (e4 1 (ft s.k a h c.H) (bO s.r (⟨1,h⟩:Ak))) (bO (bc s.r (⟨1,h⟩:Ak)) (⟨2,a⟩:Ak))))))).set 3 ((pk (aA j (ew (bc (bc s.r (⟨1,h⟩:Ak)) (⟨2,a⟩:Ak)).m 2 s.time (ew (bc s.r (⟨1,h⟩:Ak)).m 1 s.time (bP s.g ⟨0,s.time,2,i,0⟩) (bO s.r (⟨1,h⟩:Ak))) (bO (bc s.r (⟨1,h⟩:Ak)) (⟨2,a⟩:Ak))))))++[ba ((x 8).val 0) (bO (bc s.r (⟨1,h⟩:Ak)) (⟨2,a⟩:Ak))]) λx=>?_;exact eo ab.zero [1,2,3] [(0,0)] [] (hf:=by unfold eU fR;(repeat (first | rw[t] | rw[B] | rw[ALct]));kernel_rfl)
  exact eo ab.zero [1,2,3] [(0,0)] [] (hf:=by unfold eU fR;(repeat (first | rw[t] | rw[B] | rw[ALct] | rw[ALcf]));kernel_rfl)
 refine r0 [(1,.l 5)] [(63,.bool (cN s.k.lr ((s.k.F.getD a bg).l) c.H))] [] ?_;refine cB (cN s.k.lr ((s.k.F.getD a bg).l) c.H) (λC=>?_) λC=>?_
 ·refine rr (λy=>[(4,.l 0),(6,.l 4),(8,.c [1] [1,6] (pL d n o s.r (by exact hs.r) (⟨2,a⟩:Ak) (by exact I))),(9,.c [0,1,2,3,6] [1,2,3] (aa.at (rd':=[ob q (lA c d b j s.time) 122,pk (aq d n o (bc s.r (⟨2,a⟩:Ak))),pk (aC b p (ft s.k a h c.H)),pk (aA j (bP s.g ⟨0,s.time,2,i,0⟩)),ba ((y 8).val 0) (bO s.r (⟨2,a⟩:Ak))]) (oR q d b j n o p c s.time (bc s.r (⟨2,a⟩:Ak)) (by exact P.r) (ft s.k a h c.H) (by exact z.k) (bP s.g ⟨0,s.time,2,i,0⟩) (by exact z.g) 2 ((y 8).val 0) (bO s.r (⟨2,a⟩:Ak)) (by exact VG l5 Dc) (by exact n5) (by exact λe G=>(S e G).ly y5) (by exact P.rk)) (aK (aK (aK (aK (bM (λ_ h=>ar.sq h) (λ_ h=>h))))))))]) N0 [] (λy L=>((L.set 1 ((pk (aq d n o (bc s.r (⟨2,a⟩:Ak)))))).set 2 ((pk (aC b p (e4 2 (ft s.k a h c.H) (bO s.r (⟨2,a⟩:Ak))))))).set 3 ((pk (aA j (ew (bc s.r (⟨2,a⟩:Ak)).m 2 s.time (bP s.g ⟨0,s.time,2,i,0⟩) (bO s.r (⟨2,a⟩:Ak))))))++[ba ((y 8).val 0) (bO s.r (⟨2,a⟩:Ak))]) λy=>?_;exact eo ab.zero [1,2,3] [(0,0)] [] (hf:=by unfold eU fR;(repeat (first | rw[t] | rw[C] | rw[ALct] | rw[ALcf]));kernel_rfl)
 exact eo ab.zero [1,2,3] [(0,0)] [] (hf:=by unfold eU fR;(repeat (first | rw[t] | rw[C] | rw[ALcf]));kernel_rfl)
theorem Qb(g e d b j k m:Nat)(c:Cf)(s:Le)(K:Nat)(hs:cS s K)(i h n f:Nat):aa VA 163 #[pt g 0,.agg #[i6 1,i6 0,iN f,iN i,iN h,iN n]] [ob g (lA c e d b s.time) 122,pk (aq e j k s.r),pk (aC d m s.k),pk (aA b s.g)] [1,2,3] (λ_=>[pk (aq e j k s.r),pk (aC d m s.k),pk (aA b s.g)]) (λ_=> .tuple #[]):=by
 exact fG Tryz.func163 λw cs=>ra (λa=>[(3,pt (B0 a) 0)]) (λa=>[ob (B0 a) #[i6 1,i6 0,iN f,iN i,iN h,iN n] 81]) λa=>r0 [] [(4,i6 0)] [] (r0 [(2,.l 4)] [(9,i6 0)] [] (rT [] 20 (lf ab.zero [1,2,3] [(0,0)] [])))
theorem Qc(g d b a j k m:Nat)(c:Cf)(s:Le)(K:Nat)(hs:cS s K)(o:K+3≤1000000000)(i h n f:Nat):aa VA 163 #[pt g 0,.agg #[i6 1,i6 2,iN f,iN i,iN h,iN n]] [ob g (lA c d b a s.time) 122,pk (aq d j k s.r),pk (aC b m s.k),pk (aA a s.g)] [1,2,3] (λ_=>[pk (aq d j k s.r),pk (aC b m s.k),pk (aA a (bP s.g ⟨0,s.time,2,i,1⟩))]) (λ_=> .tuple #[]):=by
 exact fG Tryz.func163 λw cs=>ra (λe=>[(3,pt (B0 e) 0)]) (λe=>[ob (B0 e) #[i6 1,i6 2,iN f,iN i,iN h,iN n] 81]) λe=>r0 [] [(4,i6 0)] [] (r0 [(2,.l 4)] [(9,i6 2)] [] (rF [] 20 (rF [] 22 (rT [] 31 (rs [(2,.l 4),(3,.c [0,3] [3] (m6 g d b a c s.time s.g hs.g 2 i 1))] 3 ((pk (aA a (bP s.g ⟨0,s.time,2,i,1⟩)))) (lf ab.zero [1,2,3] [(0,0)] []))))))
theorem D1(m:Nat)(a:m=1∨m=2):aa VA 75 #[iN m] [] [] N0 (λ_=>iN (aW (m:Int))):=by
 rcases a with rfl | rfl
 ·exact uf
 ·exact ug
theorem D2(m:Nat)(a:m=1∨m=2):aa VA 192 #[iN m] [] [] N0 (λ_=>iN (dL (m:Int))):=by
 rcases a with rfl | rfl
 ·exact xu
 ·exact xv
structure Fa where
 x0:Int
 x1:Int
 x2:Int
 x3:Int
 x4:Int
 x5:Int
 x6:Int
 x7:Int
def b7:Fa:=⟨0,0,0,0,0,0,0,0⟩
def oS(x:Fa):List Value:=[i6 x.x0,i6 x.x1,i6 x.x2,i6 x.x3,i6 x.x4,i6 x.x5,i6 x.x6,i6 x.x7]
def lE:Kd VA Fa:=⟨oS,[i6 0,i6 0,i6 0,i6 0,i6 0,i6 0,i6 0,i6 0],93,48,b7,8,λ_=>rfl,rfl,λ_=>rfl,dU.mk' Kr Kr rfl⟩
abbrev dk(v:Value)(xs:List Fa):aB:= .p (ar oS ([i6 0,i6 0,i6 0,i6 0,i6 0,i6 0,i6 0,i6 0]) 48 v xs)
theorem ym(i n:Int):aa VA 74 #[i6 i,i6 n] [] [] N0 (λ_=> .bool (bR i n)):=by
 exact fG Tryz.func74 λw cs=>r0 [] [(4,.bool false)] [] (r0 [] [(4,.bool ((decide (0≤i))&&(decide (i<n))))] [4] (ak (.bool ((decide (0≤i))&&(decide (i<n)))) ab.zero Vm [] [] []))
def ka(f:Fa):Bool:=(decide (2≤f.x0))&&(decide (f.x0≤5))
theorem D3(f:Fa):aa VA 169 #[.agg #[i6 f.x0,i6 f.x1,i6 f.x2,i6 f.x3,i6 f.x4,i6 f.x5,i6 f.x6,i6 f.x7]] [] [] N0 (λ_=> .bool (ka f)):=by
 exact fG Tryz.func169 λw cs=>ra (λa=>[(1,pt (B0 a) 0),(2,.bool false)]) (λa=>[ob (B0 a) #[i6 f.x0,i6 f.x1,i6 f.x2,i6 f.x3,i6 f.x4,i6 f.x5,i6 f.x6,i6 f.x7] 48]) λa=>r0 [(1,.l 0),(5,.l 0)] [(2,.bool ((decide (2≤f.x0))&&(decide (f.x0≤5))))] [2] (ak (.bool ((decide (2≤f.x0))&&(decide (f.x0≤5)))) ab.zero Vm [] [] [])
def lF(f:Fa)(a b c d:Int):Bool:=(bif (bif f.x0==1 then f.x0==1 else f.x0==2) then(a==f.x1&&(b==f.x2&&(c==f.x3&&(d==f.x4&&true)))) else(bif f.x0==3 then(a==f.x1&&(b==f.x2&&(c==f.x3&&(f.x4==f.x4&&true)))) else(bif f.x0==4 then(a==f.x1&&(b==f.x2&&(f.x3==f.x3&&(d==f.x4&&true)))) else(bif f.x0==5 then a==f.x1 else false))))
theorem Qd(f:Fa)(a b i j:Int):aa VA 69 #[.agg #[i6 f.x0,i6 f.x1,i6 f.x2,i6 f.x3,i6 f.x4,i6 f.x5,i6 f.x6,i6 f.x7],.agg #[i6 a,i6 b,i6 i,i6 j]] [] [] N0 (λ_=> .bool (lF f a b i j)):=by
 refine fG Tryz.func69 λw cs=>ra (λg=>[(2,pt (B0 g) 0),(3,pt (B1 g) 0),(4,.bool false)]) (λg=>[ob (B0 g) #[i6 f.x0,i6 f.x1,i6 f.x2,i6 f.x3,i6 f.x4,i6 f.x5,i6 f.x6,i6 f.x7] 48,ob (B1 g) #[i6 a,i6 b,i6 i,i6 j] 46]) λg=>rr (λ_=>[(1,.l 0),(3,.s 2)]) (λq=>[(5,pt (B2 q) 0)]) [] (λq L=>L++[ob (B2 q) #[i6 f.x1,i6 f.x2,i6 f.x3,i6 f.x4] 46]) λq=>r0 [(1,.l 0)] [(9,i6 f.x0)] [] (r0 [] [(10,.bool (f.x0==1))] [] ?_);refine cJ (f.x0==1) (λc=>[(10,.bool (bif c then f.x0==1 else f.x0==2))]) (λ_=>[ob (B0 g) #[i6 f.x0,i6 f.x1,i6 f.x2,i6 f.x3,i6 f.x4,i6 f.x5,i6 f.x6,i6 f.x7] 48,ob (B1 g) #[i6 a,i6 b,i6 i,i6 j] 46,ob (B2 q) #[i6 f.x1,i6 f.x2,i6 f.x3,i6 f.x4] 46]) (λt=>?_) (λt=>?_) ?_
 ·have r:=eq_of_beq t;exact cm Kr [0,1,2] Kr
 ·have r:=ne_of_beq_false t;refine r0 [] [(10,.bool (f.x0==2))] [10] ?_;exact cm Kr [0,1,2] Kr
 refine cB ((bif f.x0==1 then f.x0==1 else f.x0==2)) (λm=>?_) λm=>?_
 ·exact r0 [(0,.l 1),(1,.l 2),(2,.e)] [(4,.bool (a==f.x1&&(b==f.x2&&(i==f.x3&&(j==f.x4&&true)))))] [4] (ak (.bool (a==f.x1&&(b==f.x2&&(i==f.x3&&(j==f.x4&&true))))) ab.zero (by((try simp only[lF]);(repeat (first | rw[m] | rw[ALct])))<;>rfl) [] [] [])
 refine r0 [] [(16,.bool (f.x0==3))] [] ?_;refine cO f.x0 3 (λd n=>?_) λd n=>?_
 ·exact rr (λ_=>[(1,.l 2),(3,.s 1)]) N0 [] (λ_ L=>L.set 1 (ob (B1 g) #[i6 a,i6 b,i6 i,i6 f.x4] 46)) λu=>r0 [(0,.l 1),(1,.l 2),(2,.e)] [(4,.bool (a==f.x1&&(b==f.x2&&(i==f.x3&&(f.x4==f.x4&&true)))))] [4] (ak (.bool (a==f.x1&&(b==f.x2&&(i==f.x3&&(f.x4==f.x4&&true))))) ab.zero (by((try simp only[lF]);(repeat (first | rw[m] | rw[d] | rw[ALct] | rw[ALcf])))<;>rfl) [] [] [])
 refine r0 [] [(24,.bool (f.x0==4))] [] ?_;refine cO f.x0 4 (λh o=>?_) λh o=>?_
 ·exact rr (λ_=>[(1,.l 2),(3,.s 1)]) N0 [] (λ_ L=>L.set 1 (ob (B1 g) #[i6 a,i6 b,i6 f.x3,i6 j] 46)) λv=>r0 [(0,.l 1),(1,.l 2),(2,.e)] [(4,.bool (a==f.x1&&(b==f.x2&&(f.x3==f.x3&&(j==f.x4&&true)))))] [4] (ak (.bool (a==f.x1&&(b==f.x2&&(f.x3==f.x3&&(j==f.x4&&true))))) ab.zero (by((try simp only[lF]);(repeat (first | rw[m] | rw[d] | rw[h] | rw[ALct] | rw[ALcf])))<;>rfl) [] [] [])
 refine r0 [] [(32,.bool (f.x0==5))] [] ?_;refine cO f.x0 5 (λk p=>?_) λk p=>?_
 ·exact r0 [(1,.l 1),(3,.l 2)] [(4,.bool (a==f.x1))] [4] (ak (.bool (a==f.x1)) ab.zero (by((try simp only[lF]);(repeat (first | rw[m] | rw[d] | rw[h] | rw[k] | rw[ALct] | rw[ALcf])))<;>rfl) [] [] [])
 exact r0 [] [(4,.bool false)] [4] (ak (.bool false) ab.zero (by((try simp only[lF]);(repeat (first | rw[m] | rw[d] | rw[h] | rw[k] | rw[ALcf])))<;>rfl) [] [] [])
def iR(f:Fa):Int:=(bif f.x0==1 then f.x1 else(bif f.x0==2 then f.x1 else(bif f.x0==3 then f.x1 else(bif f.x0==4 then f.x1 else(bif f.x0==5 then f.x1 else(bif f.x0==7 then 0 else f.x1))))))
def iS(f:Fa):Int:=(bif f.x0==1 then(bif f.x0==3 then f.x2 else(bif f.x0==4 then f.x2 else(bif f.x0==5 then 0 else f.x2))) else(bif f.x0==2 then(bif f.x0==3 then f.x2 else(bif f.x0==4 then f.x2 else(bif f.x0==5 then 0 else f.x2))) else(bif f.x0==3 then f.x2 else(bif f.x0==4 then f.x2 else(bif f.x0==5 then 0 else(bif f.x0==7 then 0 else f.x2))))))
def iT(f:Fa):Int:=(bif f.x0==1 then(bif f.x0==3 then f.x3 else(bif f.x0==4 then 0 else(bif f.x0==5 then 0 else f.x3))) else(bif f.x0==2 then(bif f.x0==3 then f.x3 else(bif f.x0==4 then 0 else(bif f.x0==5 then 0 else f.x3))) else(bif f.x0==3 then f.x3 else(bif f.x0==4 then 0 else(bif f.x0==5 then 0 else(bif f.x0==7 then 0 else f.x3))))))
def iU(f:Fa):Int:=(bif f.x0==1 then(bif f.x0==3 then 0 else(bif f.x0==4 then f.x4 else(bif f.x0==5 then 0 else f.x4))) else(bif f.x0==2 then(bif f.x0==3 then 0 else(bif f.x0==4 then f.x4 else(bif f.x0==5 then 0 else f.x4))) else(bif f.x0==3 then 0 else(bif f.x0==4 then f.x4 else(bif f.x0==5 then 0 else(bif f.x0==7 then 0 else f.x4))))))
def iV(f:Fa):Int:=(bif f.x0==1 then 0 else(bif f.x0==2 then 0 else(bif f.x0==3 then f.x5 else(bif f.x0==4 then f.x5 else(bif f.x0==5 then f.x5 else 0)))))
def iW(f:Fa):Int:=(bif f.x0==1 then f.x6 else(bif f.x0==2 then f.x6 else 0))
def iX(f:Fa):Int:=(bif f.x0==1 then 0 else(bif f.x0==2 then f.x7 else(bif f.x0==3 then f.x7 else(bif f.x0==4 then f.x7 else(bif f.x0==5 then f.x7 else 0)))))
theorem Qe(f:Fa):aa VA 72 #[.agg #[i6 f.x0,i6 f.x1,i6 f.x2,i6 f.x3,i6 f.x4,i6 f.x5,i6 f.x6,i6 f.x7]] [] [] N0 (λ_=> .agg #[i6 f.x0,i6 (iR f),i6 (iS f),i6 (iT f),i6 (iU f),i6 (iV f),i6 (iW f),i6 (iX f)]):=by
 refine fG Tryz.func72 λw cs=>ra (λd=>[(1,pt (B0 d) 0),(2,pt (B1 d) 0)]) (λd=>[ob (B0 d) #[i6 f.x0,i6 f.x1,i6 f.x2,i6 f.x3,i6 f.x4,i6 f.x5,i6 f.x6,i6 f.x7] 48,ob (B1 d) #[i6 0,i6 0,i6 0,i6 0,i6 0,i6 0,i6 0,i6 0] 48]) λd=>rr (λ_=>[(1,.l 0),(3,.l 0),(6,.s 2)]) (λe=>[(3,pt (B5 e) 0)]) [] (λe L=>L++[ob (B5 e) #[i6 f.x0,i6 f.x1,i6 f.x2,i6 f.x3,i6 f.x4,i6 0,i6 0,i6 0] 48]) λe=>r0 [(1,.l 0)] [(10,i6 f.x0)] [] (r0 [] [(11,.bool (f.x0==1))] [] ?_);refine cO f.x0 1 (λh D=>?_) λh D=>?_
 ·refine rr (λ_=>[(1,.l 0),(3,.s 2)]) N0 [] (λ_ L=>L.set 2 (ob (B5 e) #[i6 f.x0,i6 f.x1,i6 f.x2,i6 f.x3,i6 f.x4,i6 0,i6 f.x6,i6 0] 48)) λQ=>r0 [(1,.l 0)] [(39,i6 f.x0)] [] (r0 [] [(40,.bool (f.x0==3))] [] ?_);refine cO f.x0 3 (λC F=>?_) λC F=>?_
  ·exact rr (λ_=>[(2,.s 2)]) N0 [] (λ_ L=>L.set 2 (ob (B5 e) #[i6 f.x0,i6 f.x1,i6 f.x2,i6 f.x3,i6 0,i6 0,i6 f.x6,i6 0] 48)) λG=>rs [(0,.l 2),(1,.s 1)] 1 (ob (B1 d) #[i6 f.x0,i6 f.x1,i6 f.x2,i6 f.x3,i6 0,i6 0,i6 f.x6,i6 0] 48) (ak (.agg #[i6 f.x0,i6 f.x1,i6 f.x2,i6 f.x3,i6 0,i6 0,i6 f.x6,i6 0]) ab.zero (by((try simp only[iR,iS,iT,iU,iV,iW,iX]);(repeat (first | rw[h] | rw[C] | rw[ALct])))<;>rfl) [] [] [1])
  refine r0 [] [(44,.bool (f.x0==4))] [] ?_;refine cO f.x0 4 (λj p=>?_) λj p=>?_
  ·exact rr (λ_=>[(2,.s 2)]) N0 [] (λ_ L=>L.set 2 (ob (B5 e) #[i6 f.x0,i6 f.x1,i6 f.x2,i6 0,i6 f.x4,i6 0,i6 f.x6,i6 0] 48)) λH=>rs [(0,.l 2),(1,.s 1)] 1 (ob (B1 d) #[i6 f.x0,i6 f.x1,i6 f.x2,i6 0,i6 f.x4,i6 0,i6 f.x6,i6 0] 48) (ak (.agg #[i6 f.x0,i6 f.x1,i6 f.x2,i6 0,i6 f.x4,i6 0,i6 f.x6,i6 0]) ab.zero (by((try simp only[iR,iS,iT,iU,iV,iW,iX]);(repeat (first | rw[h] | rw[C] | rw[j] | rw[ALct] | rw[ALcf])))<;>rfl) [] [] [1])
  refine r0 [] [(48,.bool (f.x0==5))] [] ?_;refine cO f.x0 5 (λm q=>?_) λm q=>?_
  ·exact rr (λ_=>[(2,.l 0),(5,.s 2)]) N0 [] (λ_ L=>L.set 2 (ob (B5 e) #[i6 f.x0,i6 f.x1,i6 0,i6 0,i6 0,i6 0,i6 f.x6,i6 0] 48)) λI=>rs [(0,.l 2),(1,.s 1)] 1 (ob (B1 d) #[i6 f.x0,i6 f.x1,i6 0,i6 0,i6 0,i6 0,i6 f.x6,i6 0] 48) (ak (.agg #[i6 f.x0,i6 f.x1,i6 0,i6 0,i6 0,i6 0,i6 f.x6,i6 0]) ab.zero (by((try simp only[iR,iS,iT,iU,iV,iW,iX]);(repeat (first | rw[h] | rw[C] | rw[j] | rw[m] | rw[ALct] | rw[ALcf])))<;>rfl) [] [] [1])
  exact rs [(0,.l 2),(1,.s 1)] 1 (ob (B1 d) #[i6 f.x0,i6 f.x1,i6 f.x2,i6 f.x3,i6 f.x4,i6 0,i6 f.x6,i6 0] 48) (ak (.agg #[i6 f.x0,i6 f.x1,i6 f.x2,i6 f.x3,i6 f.x4,i6 0,i6 f.x6,i6 0]) ab.zero (by((try simp only[iR,iS,iT,iU,iV,iW,iX]);(repeat (first | rw[h] | rw[C] | rw[j] | rw[m] | rw[ALct] | rw[ALcf])))<;>rfl) [] [] [1])
 refine r0 [] [(16,.bool (f.x0==2))] [] ?_;refine cO f.x0 2 (λb r=>?_) λb r=>?_
 ·refine rr (λ_=>[(1,.l 0),(3,.l 0),(5,.s 2),(7,.s 2)]) N0 [] (λ_ L=>L.set 2 (ob (B5 e) #[i6 f.x0,i6 f.x1,i6 f.x2,i6 f.x3,i6 f.x4,i6 0,i6 f.x6,i6 f.x7] 48)) λJ=>r0 [(1,.l 0)] [(39,i6 f.x0)] [] (r0 [] [(40,.bool (f.x0==3))] [] ?_);refine cO f.x0 3 (λi u=>?_) λi u=>?_
  ·exact rr (λ_=>[(2,.s 2)]) N0 [] (λ_ L=>L.set 2 (ob (B5 e) #[i6 f.x0,i6 f.x1,i6 f.x2,i6 f.x3,i6 0,i6 0,i6 f.x6,i6 f.x7] 48)) λK=>rs [(0,.l 2),(1,.s 1)] 1 (ob (B1 d) #[i6 f.x0,i6 f.x1,i6 f.x2,i6 f.x3,i6 0,i6 0,i6 f.x6,i6 f.x7] 48) (ak (.agg #[i6 f.x0,i6 f.x1,i6 f.x2,i6 f.x3,i6 0,i6 0,i6 f.x6,i6 f.x7]) ab.zero (by((try simp only[iR,iS,iT,iU,iV,iW,iX]);(repeat (first | rw[h] | rw[b] | rw[i] | rw[ALct] | rw[ALcf])))<;>rfl) [] [] [1])
  refine r0 [] [(44,.bool (f.x0==4))] [] ?_;refine cO f.x0 4 (λk v=>?_) λk v=>?_
  ·exact rr (λ_=>[(2,.s 2)]) N0 [] (λ_ L=>L.set 2 (ob (B5 e) #[i6 f.x0,i6 f.x1,i6 f.x2,i6 0,i6 f.x4,i6 0,i6 f.x6,i6 f.x7] 48)) λM=>rs [(0,.l 2),(1,.s 1)] 1 (ob (B1 d) #[i6 f.x0,i6 f.x1,i6 f.x2,i6 0,i6 f.x4,i6 0,i6 f.x6,i6 f.x7] 48) (ak (.agg #[i6 f.x0,i6 f.x1,i6 f.x2,i6 0,i6 f.x4,i6 0,i6 f.x6,i6 f.x7]) ab.zero (by((try simp only[iR,iS,iT,iU,iV,iW,iX]);(repeat (first | rw[h] | rw[b] | rw[i] | rw[k] | rw[ALct] | rw[ALcf])))<;>rfl) [] [] [1])
  refine r0 [] [(48,.bool (f.x0==5))] [] ?_;refine cO f.x0 5 (λn x=>?_) λn x=>?_
  ·exact rr (λ_=>[(2,.l 0),(5,.s 2)]) N0 [] (λ_ L=>L.set 2 (ob (B5 e) #[i6 f.x0,i6 f.x1,i6 0,i6 0,i6 0,i6 0,i6 f.x6,i6 f.x7] 48)) λN=>rs [(0,.l 2),(1,.s 1)] 1 (ob (B1 d) #[i6 f.x0,i6 f.x1,i6 0,i6 0,i6 0,i6 0,i6 f.x6,i6 f.x7] 48) (ak (.agg #[i6 f.x0,i6 f.x1,i6 0,i6 0,i6 0,i6 0,i6 f.x6,i6 f.x7]) ab.zero (by((try simp only[iR,iS,iT,iU,iV,iW,iX]);(repeat (first | rw[h] | rw[b] | rw[i] | rw[k] | rw[n] | rw[ALct] | rw[ALcf])))<;>rfl) [] [] [1])
  exact rs [(0,.l 2),(1,.s 1)] 1 (ob (B1 d) #[i6 f.x0,i6 f.x1,i6 f.x2,i6 f.x3,i6 f.x4,i6 0,i6 f.x6,i6 f.x7] 48) (ak (.agg #[i6 f.x0,i6 f.x1,i6 f.x2,i6 f.x3,i6 f.x4,i6 0,i6 f.x6,i6 f.x7]) ab.zero (by((try simp only[iR,iS,iT,iU,iV,iW,iX]);(repeat (first | rw[h] | rw[b] | rw[i] | rw[k] | rw[n] | rw[ALct] | rw[ALcf])))<;>rfl) [] [] [1])
 refine r0 [] [(24,.bool (f.x0==3))] [] ?_;refine cO f.x0 3 (λa y=>?_) λa y=>?_
 ·exact cT (f.x0==3) a (rs [(1,.l 0),(3,.l 0),(5,.s 2),(7,.s 2)] 2 (ob (B5 e) #[i6 f.x0,i6 f.x1,i6 f.x2,i6 f.x3,i6 f.x4,i6 f.x5,i6 0,i6 f.x7] 48) (r0 [(1,.l 0)] [(39,i6 f.x0)] [] (rT [(0,.t (tk (show Value.bool (f.x0==3)= .bool true from ALca Value.bool a)))] 40 (rs [(2,.s 2)] 2 (ob (B5 e) #[i6 f.x0,i6 f.x1,i6 f.x2,i6 f.x3,i6 0,i6 f.x5,i6 0,i6 f.x7] 48) (rs [(0,.l 2),(1,.s 1)] 1 (ob (B1 d) #[i6 f.x0,i6 f.x1,i6 f.x2,i6 f.x3,i6 0,i6 f.x5,i6 0,i6 f.x7] 48) (ak (.agg #[i6 f.x0,i6 f.x1,i6 f.x2,i6 f.x3,i6 0,i6 f.x5,i6 0,i6 f.x7]) ab.zero (by((try simp only[iR,iS,iT,iU,iV,iW,iX]);(repeat (first | rw[h] | rw[b] | rw[a] | rw[ALct] | rw[ALcf])))<;>rfl) [] [] [1]))))))
 refine r0 [] [(24,.bool (f.x0==4))] [24] ?_;refine cO f.x0 4 (λc z=>?_) λc z=>?_
 ·exact cT (f.x0==4) c (rs [(1,.l 0),(3,.l 0),(5,.s 2),(7,.s 2)] 2 (ob (B5 e) #[i6 f.x0,i6 f.x1,i6 f.x2,i6 f.x3,i6 f.x4,i6 f.x5,i6 0,i6 f.x7] 48) (r0 [(1,.l 0)] [(39,i6 f.x0)] [] (rF [(0,.t (tk (show Value.bool (f.x0==3)= .bool false from ALca Value.bool a)))] 40 (rT [(0,.t (tk (show Value.bool (f.x0==4)= .bool true from ALca Value.bool c)))] 44 (rs [(2,.s 2)] 2 (ob (B5 e) #[i6 f.x0,i6 f.x1,i6 f.x2,i6 0,i6 f.x4,i6 f.x5,i6 0,i6 f.x7] 48) (rs [(0,.l 2),(1,.s 1)] 1 (ob (B1 d) #[i6 f.x0,i6 f.x1,i6 f.x2,i6 0,i6 f.x4,i6 f.x5,i6 0,i6 f.x7] 48) (ak (.agg #[i6 f.x0,i6 f.x1,i6 f.x2,i6 0,i6 f.x4,i6 f.x5,i6 0,i6 f.x7]) ab.zero (by((try simp only[iR,iS,iT,iU,iV,iW,iX]);(repeat (first | rw[h] | rw[b] | rw[a] | rw[c] | rw[ALct] | rw[ALcf])))<;>rfl) [] [] [1])))))))
 refine r0 [] [(24,.bool (f.x0==5))] [24] ?_;refine cO f.x0 5 (λg A=>?_) λg A=>?_
 ·exact rr (λ_=>[(1,.l 0),(3,.l 0),(5,.s 2),(7,.s 2)]) N0 [] (λ_ L=>L.set 2 (ob (B5 e) #[i6 f.x0,i6 f.x1,i6 f.x2,i6 f.x3,i6 f.x4,i6 f.x5,i6 0,i6 f.x7] 48)) λO=>r0 [(1,.l 0)] [(39,i6 f.x0)] [] (rF [(0,.t (tk (show Value.bool (f.x0==3)= .bool false from ALca Value.bool a)))] 40 (rF [(0,.t (tk (show Value.bool (f.x0==4)= .bool false from ALca Value.bool c)))] 44 (rT [(0,.t (tk (show Value.bool (f.x0==5)= .bool true from ALca Value.bool g)))] 48 (rs [(2,.l 0),(5,.s 2)] 2 (ob (B5 e) #[i6 f.x0,i6 f.x1,i6 0,i6 0,i6 0,i6 f.x5,i6 0,i6 f.x7] 48) (rs [(0,.l 2),(1,.s 1)] 1 (ob (B1 d) #[i6 f.x0,i6 f.x1,i6 0,i6 0,i6 0,i6 f.x5,i6 0,i6 f.x7] 48) (ak (.agg #[i6 f.x0,i6 f.x1,i6 0,i6 0,i6 0,i6 f.x5,i6 0,i6 f.x7]) ab.zero (by((try simp only[iR,iS,iT,iU,iV,iW,iX]);(repeat (first | rw[h] | rw[b] | rw[a] | rw[c] | rw[g] | rw[ALct] | rw[ALcf])))<;>rfl) [] [] [1]))))))
 refine r0 [] [(34,.bool (f.x0==7))] [] ?_;refine cO f.x0 7 (λo B=>?_) λo B=>?_
 ·exact rr (λ_=>[(2,.s 2)]) N0 [] (λ_ L=>L.set 2 (ob (B5 e) #[i6 f.x0,i6 0,i6 0,i6 0,i6 0,i6 0,i6 0,i6 0] 48)) λP=>r0 [(1,.l 0)] [(39,i6 f.x0)] [] (rF [(0,.t (tk (show Value.bool (f.x0==3)= .bool false from ALca Value.bool a)))] 40 (rF [(0,.t (tk (show Value.bool (f.x0==4)= .bool false from ALca Value.bool c)))] 44 (rF [(0,.t (tk (show Value.bool (f.x0==5)= .bool false from ALca Value.bool g)))] 48 (rs [(0,.l 2),(1,.s 1)] 1 (ob (B1 d) #[i6 f.x0,i6 0,i6 0,i6 0,i6 0,i6 0,i6 0,i6 0] 48) (ak (.agg #[i6 f.x0,i6 0,i6 0,i6 0,i6 0,i6 0,i6 0,i6 0]) ab.zero (by((try simp only[iR,iS,iT,iU,iV,iW,iX]);(repeat (first | rw[h] | rw[b] | rw[a] | rw[c] | rw[g] | rw[o] | rw[ALct] | rw[ALcf])))<;>rfl) [] [] [1])))))
 exact r0 [(1,.l 0)] [(39,i6 f.x0)] [] (rF [(0,.t (tk (show Value.bool (f.x0==3)= .bool false from ALca Value.bool a)))] 40 (rF [(0,.t (tk (show Value.bool (f.x0==4)= .bool false from ALca Value.bool c)))] 44 (rF [(0,.t (tk (show Value.bool (f.x0==5)= .bool false from ALca Value.bool g)))] 48 (rs [(0,.l 2),(1,.s 1)] 1 (ob (B1 d) #[i6 f.x0,i6 f.x1,i6 f.x2,i6 f.x3,i6 f.x4,i6 0,i6 0,i6 0] 48) (ak (.agg #[i6 f.x0,i6 f.x1,i6 f.x2,i6 f.x3,i6 f.x4,i6 0,i6 0,i6 0]) ab.zero (by((try simp only[iR,iS,iT,iU,iV,iW,iX]);(repeat (first | rw[h] | rw[b] | rw[a] | rw[c] | rw[g] | rw[o] | rw[ALcf])))<;>rfl) [] [] [1])))))
def oT(f:Fa)(R S B M C m:Nat):Bool:=(((((((decide (1≤f.x0))&&(decide (f.x0≤7)))&&(((m:Int)==1)||((m:Int)==2)))&&(f.x0==f.x0&&(f.x1==(iR f)&&(f.x2==(iS f)&&(f.x3==(iT f)&&(f.x4==(iU f)&&(f.x5==(iV f)&&(f.x6==(iW f)&&(f.x7==(iX f)&&true)))))))))&&(hold R S B M C f.x1 f.x2 f.x3 f.x4))&&(bR f.x6 576))&&(bR f.x5 ((aW (m:Int):Nat):Int)))&&(bR f.x7 (bif f.x0==2 then 2 else 256))
theorem Qf(f:Fa)(R S B M C m:Nat)(g:cE R S B M C)(h:m=1∨m=2):aa VA 38 #[.agg #[i6 f.x0,i6 f.x1,i6 f.x2,i6 f.x3,i6 f.x4,i6 f.x5,i6 f.x6,i6 f.x7],.agg #[iN R,iN S,iN B,iN M,iN C],iN m] [] [] N0 (λ_=> .bool (oT f R S B M C m)):=by
 refine fG Tryz.func38 λw cs=>ra (λa=>[(3,pt (B0 a) 0),(4,pt (B1 a) 0),(6,.bool false)]) (λa=>[ob (B0 a) #[i6 f.x0,i6 f.x1,i6 f.x2,i6 f.x3,i6 f.x4,i6 f.x5,i6 f.x6,i6 f.x7] 48,ob (B1 a) #[iN R,iN S,iN B,iN M,iN C] 23]) λa=>r0 [] [(7,i6 256)] [] (r0 [(1,.l 0)] [(10,.bool (f.x0==2))] [] ?_);refine cJ (f.x0==2) (λc=>[(7,i6 (bif c then 2 else 256))]) (λ_=>[ob (B0 a) #[i6 f.x0,i6 f.x1,i6 f.x2,i6 f.x3,i6 f.x4,i6 f.x5,i6 f.x6,i6 f.x7] 48,ob (B1 a) #[iN R,iN S,iN B,iN M,iN C] 23]) (λd=>?_) (λd=>?_) ?_
 ·have b:=eq_of_beq d;refine r0 [] [(7,i6 2)] [7] ?_;exact cm Kr [0,1] Kr
 ·have b:=ne_of_beq_false d;exact cm Kr [0,1] Kr
 exact r0 [(1,.m (ld 0 (i6 f.x0))),(5,.m (ld 0 (i6 f.x0))),(10,.c [] [] (oA (m:Int))),(13,.m (ls 0 ([i6 f.x0,i6 f.x1,i6 f.x2,i6 f.x3,i6 f.x4,i6 f.x5,i6 f.x6,i6 f.x7]))),(14,.m (ls 0 ([i6 f.x0,i6 f.x1,i6 f.x2,i6 f.x3,i6 f.x4,i6 f.x5,i6 f.x6,i6 f.x7]))),(15,.c [] [] (Qe f)),(16,.e),(19,.m (ls 1 ([iN R,iN S,iN B,iN M,iN C]))),(21,.m (ls 0 ([i6 f.x1,i6 f.x2,i6 f.x3,i6 f.x4]))),(22,.c [] [] (qX R S B M C g f.x1 f.x2 f.x3 f.x4)),(26,.m (ld 0 (i6 f.x6))),(27,.c [] [] (ym f.x6 576)),(31,.m (ld 0 (i6 f.x5))),(33,.c [] [] (D1 m h)),(34,.c [] [] (ym f.x5 ((aW (m:Int):Nat):Int))),(38,.m (ld 0 (i6 f.x7))),(40,.c [] [] (ym f.x7 (bif f.x0==2 then 2 else 256)))] [(6,.bool ((((((((decide (1≤f.x0))&&(decide (f.x0≤7)))&&(((m:Int)==1)||((m:Int)==2)))&&(f.x0==f.x0&&(f.x1==(iR f)&&(f.x2==(iS f)&&(f.x3==(iT f)&&(f.x4==(iU f)&&(f.x5==(iV f)&&(f.x6==(iW f)&&(f.x7==(iX f)&&true)))))))))&&(hold R S B M C f.x1 f.x2 f.x3 f.x4))&&(bR f.x6 576))&&(bR f.x5 ((aW (m:Int):Nat):Int)))&&(bR f.x7 (bif f.x0==2 then 2 else 256))))] [6] (lf ab.zero [] [] [])
theorem Qg{P:Program}{T:TypeId}{x y:Operand}{w:World}{yk:IntKind}{a:Nat}(n:Nat)(b:n≤8):(av .shr T x y (.int .u8 (a:Int)) (.int yk (n:Int))).run P w= .ok (.int .u8 ((a/2^n:Nat):Int)) w:=by
 unfold av;simp only[Wm,eqGuard_shr,Wn,Wb,binOp_shr,shift_shr_u8 _ _ _ (Int.natCast_nonneg n) Om,Int.toNat_natCast];push_cast;rfl
def nU(xs:List UInt8)(b:Nat):Nat:=(xs.getD (b/8) 0).toNat/2^(b%8)%2
theorem Qh(x:UInt8)(n:Nat):x.toNat/2^n<256:=Nat.lt_of_le_of_lt (Nat.div_le_self _ _) x.toNat_lt
theorem Qi(v:Value)(xs:List UInt8)(g:xs.length=72)(b:Int)(h0:0≤b)(h1:b<576):aa VA 284 #[v,i6 b] [.p (aH eB v xs)] [] N0 (λ_=>iN (nU xs b.toNat)):=by
 exact fO Tryz.func284 0 rfl λd c=>fG Tryz.func284 λw cs=>r0 [] [(4,i6 0)] [] (rF [(1,.t (tk (show Value.bool (decide (b<0))= .bool false from ALca Value.bool (by exact bh Om)))),(4,.t (tv (av .shr 3 (.tmp 8) (.const (u6 3)) (i6 b) (u6 3)) (λ_=>dF (b:=((b.toNat/8:Nat):Int)) (ie 3 Dc) Om))),(6,eD c.1 0),(7,.t (tk (show Value.bool (decide ((xs.length:Int)≤((b.toNat/8:Nat):Int)))= .bool false from ALca Value.bool (by exact bh Om))))] 13 (r0 [(2,.t (tv (av .shr 3 (.tmp 15) (.const (u6 3)) (i6 b) (u6 3)) (λ_=>dF (b:=((b.toNat/8:Nat):Int)) (ie 3 Dc) Om))),(3,fa c.1 0 (b.toNat/8) 1),(4,iE kB c.1 0 (b.toNat/8) 0),(6,.t (tv (av .and 3 (.tmp 19) (.const (i6 7)) (i6 b) (i6 7)) (λ_=>dF (b:=((b.toNat%8:Nat):Int)) (lV _ 3 8 Dc Dc Dc Dc) Om))),(7,.t (tc (k:= .i64) (l:= .u64) (a:=iN (b.toNat%8)) λ_ _ _ e f=>mK e f Om)),(8,.t (tv (av .shr 5 (.tmp 18) (.tmp 21) (u1 ((xs.getD (b.toNat/8) 0).toNat:Int)) (u6 ((b.toNat%8:Nat):Int))) (λ_=>Qg (b.toNat%8) Om))),(9,.t (tv (convert 5 3 (u1 (((xs.getD (b.toNat/8) 0).toNat/2^(b.toNat%8):Nat):Int))) (λ_=>Hg Tryz.underlying5 Tryz.underlying3 (Qh _ _)))),(10,.t (tv (av .and 3 (.tmp 23) (.const (i6 1)) (iN ((xs.getD (b.toNat/8) 0).toNat/2^(b.toNat%8))) (i6 1)) (λ_=>AY)))] [(4,iN (nU xs b.toNat))] [4] (lf ab.zero [] [(0,0)] [])))
theorem Vq(xs:List UInt8)(g:xs.length=72)(b:Int)(h0:0≤b)(h1:b<576):aa VA 168 #[.agg (rB 72 xs).toArray,i6 b] [] [] N0 (λ_=> .agg (rB 72 (xs.set (b.toNat/8) ((xs.getD (b.toNat/8) 0)^^^(UInt8.ofNat (1*2^(b.toNat%8)))))).toArray):=by
 refine fG Tryz.func168 λw cs=>ra (λc=>[(2,pt (B0 c) 0),(4,pt (B1 c) 0)]) (λc=>[ob (B0 c) (rB 72 xs).toArray 217,ob (B1 c) (rB 72 (VB 72 0)).toArray 217]) λc=>r0 [] [(10,.bool ((decide (0≤b))&&(decide (b<576))))] [] ?_;have d:((decide (0≤b))&&(decide (b<576)))=true:=by rw[cx Om,cx Om];rfl
 exact cT ((decide (0≤b))&&(decide (b<576))) d (rs [(1,.t (tv (av .shr 3 (.tmp 11) (.const (u6 3)) (i6 b) (u6 3)) (λ_=>dF (b:=((b.toNat/8:Nat):Int)) (ie 3 Dc) Om))),(2,iA 217 .i64 (B0 c) 0 72 1 (b.toNat/8)),(3,rD 0 (B0 c) (b.toNat/8) 217 (rB 72 xs) (nt Om)),(5,.t (tv (av .and 3 (.tmp 15) (.const (i6 7)) (i6 b) (i6 7)) (λ_=>dF (b:=((b.toNat%8:Nat):Int)) (lV _ 3 8 Dc Dc Dc Dc) Om))),(6,.t (tc (k:= .i64) (l:= .u64) (a:=iN (b.toNat%8)) λ_ _ _ e f=>mK e f Om)),(7,.t (tv (av .shl 5 (.const (u1 1)) (.tmp 17) (u1 1) (u6 ((b.toNat%8:Nat):Int))) (λ_=>tJ (a:=1) (b.toNat%8) Om))),(8,.t (tb (a:=u1 ((xs.getD (b.toNat/8) 0).toNat:Int)) (b:=u1 ((UInt8.ofNat (1*2^(b.toNat%8))).toNat:Int)) λ_ _ _ _=>kT (xs.getD (b.toNat/8) 0) ((UInt8.ofNat (1*2^(b.toNat%8)))))),(9,iA 217 .i64 (B0 c) 0 72 1 (b.toNat/8)),(10,wD 0 (B0 c) (b.toNat/8) 217 (u1 (((xs.getD (b.toNat/8) 0)^^^(UInt8.ofNat (1*2^(b.toNat%8)))).toNat:Int)) (rB 72 xs) (rB 72 (xs.set (b.toNat/8) ((xs.getD (b.toNat/8) 0)^^^(UInt8.ofNat (1*2^(b.toNat%8)))))) (jk Om) (lP g))] 0 (ob (B0 c) (rB 72 (xs.set (b.toNat/8) ((xs.getD (b.toNat/8) 0)^^^(UInt8.ofNat (1*2^(b.toNat%8)))))).toArray 217) (rs [(0,.l 0),(1,.s 1)] 1 (ob (B1 c) (rB 72 (xs.set (b.toNat/8) ((xs.getD (b.toNat/8) 0)^^^(UInt8.ofNat (1*2^(b.toNat%8)))))).toArray 217) (lf ab.zero [] [] [1])))
section
theorem Qj{α:Type}{en:α→List Value}{d:α}{a m:Nat}{ys:List α}{t:TypeId}(h1: ∀x,(en x).length=1)(h:ys.length=m):aH en (.slice (some ⟨a,0,none⟩) m m) ys [(a,.cells ((cG en d m ys).toArray) t (0,0))]:=⟨ot h1 h,some ⟨a,0,none⟩,0,by rw[h];rfl⟩
theorem yn(m:Int):aW m≤36:=by unfold aW;split<;>(try split)<;>omega
theorem D5(m:Int):dL m≤8:=by unfold dL;split<;>(try split)<;>omega
theorem yo{m:Int}{k:Nat}(c:k≤dL m):aW m*k≤72:=by
 by_cases b:m=1
 ·subst b;have a:k≤8:=c;show 9*k≤72;omega
 ·by_cases a:m=2
  ·subst a;have d:k≤2:=c;show 36*k≤72;omega
  ·unfold aW;rw[ALifn b,ALifn a];omega
theorem D6{m:Int}{xs ys:List UInt8}(o:Nat): ∀k,dn (λi=>dz m (xs.getD (o+i) 0) (ys.getD (o+i) 0)) k≤8*k
 | 0=>VQ _
 | k+1=>by
  rw[dn];have h:=D6 (m:=m) (xs:=xs) (ys:=ys) o k;have a:=Ma m (xs.getD (o+k) 0) (ys.getD (o+k) 0);have b:dz m (xs.getD (o+k) 0) (ys.getD (o+k) 0)≤8:=by
   split at a<;>omega
  omega
theorem D7{m:Int}{xs ys:List UInt8}(k:Nat):dn (λi=>dz m (xs.getD i 0) (ys.getD i 0)) k≤8*k:=by
 have h:=D6 (m:=m) (xs:=xs) (ys:=ys) 0 k;simpa using h
theorem D8{f g:Nat→Nat}: ∀{n:Nat},(∀i,i<n→f i=g i)→dn f n=dn g n
 | 0,_=>rfl
 | n+1,h=>by rw[dn,dn,D8 λi a=>h i (Wf a),h n (VZ n)]
theorem D9{xs:List UInt8}{o n i:Nat}(h:i<n):((xs.drop o).take n).getD i 0=xs.getD (o+i) 0:=by
 rw[VD,List.getElem?_take,ALifp h,Wc,VD]
theorem Qk(a b:UInt8):dz 1 a b=pc (a^^^b).toNat:=ALifp rfl
theorem Ql{a b:UInt8}(h:((a.toNat:Int) != (b.toNat:Int))=true):dz 2 a b=1:=by
 unfold dz;rw[ALifn Dc,ALifn (λe=>by subst e;simp at h)]
theorem Qm{a b:UInt8}(h:((a.toNat:Int) != (b.toNat:Int))=false):dz 2 a b=0:=by
 unfold dz;have c:=bne_eq_false_iff_eq.1 h;rw[ALifn Dc,ALifp (UInt8.toNat_inj.1 Om)]
theorem Qn(m:Int)(a b:List UInt8)(k:Nat):((ky m a b (k+1):Nat):Int)=max ((ky m a b k:Nat):Int) ((dn (λi=>dz m (((a.drop (aW m*k)).take (aW m)).getD i 0) (((b.drop (aW m*k)).take (aW m)).getD i 0)) (aW m):Nat):Int):=by
 rw[show dn (λi=>dz m (((a.drop (aW m*k)).take (aW m)).getD i 0) (((b.drop (aW m*k)).take (aW m)).getD i 0)) (aW m)=wC m a b k from D8 λi c=>by rw[D9 c,D9 c],ky];omega
theorem Qo(xs ys:List UInt8)(k:Nat):dn (λz=>dz 1 (xs.getD z 0) (ys.getD z 0)) (k+1)=dn (λz=>dz 1 (xs.getD z 0) (ys.getD z 0)) k+pc (xs.getD k 0^^^ys.getD k 0).toNat:=by rw[dn,Qk]
theorem Qp(xs ys:List UInt8)(k:Nat):dn (λz=>dz 2 (xs.getD z 0) (ys.getD z 0)) (k+1)=bif ((xs.getD k 0).toNat:Int) != ((ys.getD k 0).toNat:Int) then dn (λz=>dz 2 (xs.getD z 0) (ys.getD z 0)) k+1 else dn (λz=>dz 2 (xs.getD z 0) (ys.getD z 0)) k:=by
 rw[dn];cases h:((xs.getD k 0).toNat:Int) != ((ys.getD k 0).toNat:Int) with
 | true=>rw[Ql h];rfl
 | false=>rw[Qm h];rfl
theorem Qq(b:UInt8):pc b.toNat≤8:=Cn b.toNat_lt
theorem Ea(f:Nat→Nat):dn f 0=0:=by rw[dn]
theorem Eb(m:Nat)(c:m=1∨m=2)(xs:List UInt8)(b:xs.length=72)(q:Nat)(a:q<dL (m:Int)):aa VA 194 #[.agg (rB 72 xs).toArray,iN m,iN q] [] [] (λE=>[bt (E.val 0) ((xs.drop (aW (m:Int)*q)).take (aW (m:Int)))]) (λE=>E.val 0):=by
 rcases c with rfl | rfl
 ·exact Cb xs b q a
 ·exact Cc xs b q a
attribute [local irreducible] dn ky pc dz aW dL nU
theorem Qr(v u:Value)(xs ys:List UInt8)(l:ys.length=xs.length)(r:xs.length≤100):aa VA 226 #[v,u] [.p (aH eB v xs),.p (aH eB u ys)] [] N0 (λ_=>i6 ((dn (λz=>dz 1 (xs.getD z 0) (ys.getD z 0)) xs.length:Nat):Int)):=by
 refine fO Tryz.func226 0 rfl λg d=>?_;refine fO Tryz.func226 1 rfl λh e=>?_;refine fG Tryz.func226 λw cs=>?_;refine r0 [] [(4,i6 0)] [] (rF [(1,eD d.1 0),(3,eD e.1 1),(4,.t (tk (show Value.bool (decide ((ys.length:Int)<(xs.length:Int)))= .bool false from ALca Value.bool (by exact bh Om))))] 12 (r0 [(1,eD e.1 1),(3,eD d.1 0),(4,.t (tv (av .sub 3 (.tmp 16) (.tmp 18) (iN ys.length) (iN xs.length)) (λ_=>dF (b:=0) (p7 Om Om) Om)))] [(5,i6 0)] [] (r0 [(1,eD d.1 0)] [(21,v),(22,iN xs.length),(23,i6 0)] [] ?_)));refine lq (λi=>i≤xs.length) (λi=>[(23,iN i),(5,i6 ((dn (λz=>dz 1 (xs.getD z 0) (ys.getD z 0)) i:Nat):Int))]) (λ_ L=>L) (λi=>xs.length-i) 0 Om (by rw[Ea];kernel_rfl) Kr (λi k=>?_);have o:=D7 (m:=1) (xs:=xs) (ys:=ys) i;have n:=Qq (xs.getD i 0^^^ys.getD i 0);have q:=(xs.getD i 0^^^ys.getD i 0).toNat_lt;refine r0 [] [(24,.bool (decide ((i:Int)<(xs.length:Int))))] [] ?_;refine b0 (i:Int) (xs.length:Int) (λj f=>?_) λj f=>?_
 ·refine r0 [(1,fa d.1 0 i 1),(2,iE kB d.1 0 i 0)] [(6,iN i),(7,u1 ((xs.getD i 0).toNat:Int))] [] ?_;refine r0 [(4,fa e.1 1 i 1),(5,iE kB e.1 1 i 0),(6,.t (tb (a:=u1 ((xs.getD i 0).toNat:Int)) (b:=u1 ((ys.getD i 0).toNat:Int)) λ_ _ _ _=>kT (xs.getD i 0) (ys.getD i 0))),(7,.c [] [] (A5 (((xs.getD i 0)^^^(ys.getD i 0)).toNat) Om)),(8,ad (dn (λz=>dz 1 (xs.getD z 0) (ys.getD z 0)) i) (pc (((xs.getD i 0)^^^(ys.getD i 0)).toNat)))] [(5,i6 (((dn (λz=>dz 1 (xs.getD z 0) (ys.getD z 0)) i)+(pc (((xs.getD i 0)^^^(ys.getD i 0)).toNat)):Nat):Int))] [5] (r0 [(0,ad i 1)] [(23,i6 ((i+1:Nat):Int))] [23] ?_);exact le (i+1) Om Om (by rw[Qo];kernel_rfl) [0,1] Kr
 obtain rfl:i=xs.length:=by omega
 refine lx ?_;exact r0 [] [(4,i6 ((dn (λz=>dz 1 (xs.getD z 0) (ys.getD z 0)) xs.length:Nat):Int))] [4] (lf ab.zero [] [(0,0),(1,1)] [])
theorem Qs(v u:Value)(xs ys:List UInt8)(f:ys.length=xs.length)(g:xs.length≤100):aa VA 193 #[i6 1,v,u] [.p (aH eB v xs),.p (aH eB u ys)] [] N0 (λ_=>i6 ((dn (λz=>dz 1 (xs.getD z 0) (ys.getD z 0)) xs.length:Nat):Int)):=by
 refine fO Tryz.func193 0 rfl λa d=>?_;refine fO Tryz.func193 1 rfl λb e=>?_;refine fG Tryz.func193 λw cs=>?_;exact r0 [] [(6,i6 0)] [] (rT [] 11 (r0 [(2,.c [0,1] [] (aa.at (rd':=[.c a,.c b]) (Qr v u xs ys Om Om) (ei d (ei e (λ_ h=>h)))))] [(6,i6 ((dn (λz=>dz 1 (xs.getD z 0) (ys.getD z 0)) xs.length:Nat):Int))] [6] (lf ab.zero [] [(0,0),(1,1)] [])))
theorem Qt(v u:Value)(xs ys:List UInt8)(l:ys.length=xs.length)(o:xs.length≤100):aa VA 193 #[i6 2,v,u] [.p (aH eB v xs),.p (aH eB u ys)] [] N0 (λ_=>i6 ((dn (λz=>dz 2 (xs.getD z 0) (ys.getD z 0)) xs.length:Nat):Int)):=by
 refine fO Tryz.func193 0 rfl λf b=>?_;refine fO Tryz.func193 1 rfl λg e=>?_;refine fG Tryz.func193 λw cs=>?_;refine r0 [] [(6,i6 0)] [] (rF [] 11 (r0 [] [(7,i6 0)] [] (r0 [(1,eD b.1 0)] [(15,v),(16,iN xs.length),(17,i6 0)] [] ?_)));refine lq (λi=>i≤xs.length) (λi=>[(17,iN i),(7,i6 ((dn (λz=>dz 2 (xs.getD z 0) (ys.getD z 0)) i:Nat):Int))]) (λ_ L=>L) (λi=>xs.length-i) 0 Om (by rw[Ea];kernel_rfl) Kr (λi k=>?_);have n:=D7 (m:=2) (xs:=xs) (ys:=ys) i;refine r0 [] [(18,.bool (decide ((i:Int)<(xs.length:Int))))] [] ?_;refine b0 (i:Int) (xs.length:Int) (λj h=>?_) λj h=>?_
 ·refine r0 [(1,fa b.1 0 i 1),(2,iE kB b.1 0 i 0)] [(8,iN i),(9,u1 ((xs.getD i 0).toNat:Int))] [] ?_;refine r0 [(3,fa e.1 1 i 1),(4,iE kB e.1 1 i 0)] [(27,.bool (((xs.getD i 0).toNat:Int) != ((ys.getD i 0).toNat:Int)))] [] ?_;refine cJ (((xs.getD i 0).toNat:Int) != ((ys.getD i 0).toNat:Int)) (λc=>[(7,i6 (((bif c then(dn (λz=>dz 2 (xs.getD z 0) (ys.getD z 0)) i)+1 else dn (λz=>dz 2 (xs.getD z 0) (ys.getD z 0)) i):Nat):Int))]) (λ_=>[.c f,.c g]) (λa=>?_) (λa=>?_) ?_
  ·have d:=bne_iff_ne.1 a;refine r0 [(1,ad (dn (λz=>dz 2 (xs.getD z 0) (ys.getD z 0)) i) 1)] [(7,i6 (((dn (λz=>dz 2 (xs.getD z 0) (ys.getD z 0)) i)+1:Nat):Int))] [7] ?_;exact cm Kr [0,1] Kr
  ·have d:=wo a;exact cm Kr [0,1] Kr
  refine r0 [(0,ad i 1)] [(17,i6 ((i+1:Nat):Int))] [17] ?_;exact le (i+1) Om Om (by rw[Qp];kernel_rfl) [0,1] Kr
 obtain rfl:i=xs.length:=by omega
 refine lx ?_;exact r0 [] [(6,i6 ((dn (λz=>dz 2 (xs.getD z 0) (ys.getD z 0)) xs.length:Nat):Int))] [6] (lf ab.zero [] [(0,0),(1,1)] [])
theorem Qu(m:Nat)(c:m=1∨m=2)(v u:Value)(xs ys:List UInt8)(n:Nat)(d:xs.length=n)(b:ys.length=n)(a:n≤100):aa VA 193 #[iN m,v,u] [.p (aH eB v xs),.p (aH eB u ys)] [] N0 (λ_=>i6 ((dn (λi=>dz (m:Int) (xs.getD i 0) (ys.getD i 0)) n:Nat):Int)):=by
 subst d;rcases c with rfl | rfl
 ·exact Qs v u xs ys b a
 ·exact Qt v u xs ys b a
theorem Ec{xs:List UInt8}{m:Int}{k:Nat}(b:xs.length=72)(a:k<dL m):((xs.drop (aW m*k)).take (aW m)).length=aW m:=by
 have h:=yo (m:=m) (k:=k+1) a;rw[Wo] at h;rw[VI,VO];omega
theorem Ed(m:Nat)(hm:m=1∨m=2)(a b:List UInt8)(ha:a.length=72)(hb:b.length=72):aa VA 149 #[iN m,.agg (rB 72 a).toArray,.agg (rB 72 b).toArray] [] [] N0 (λ_=>i6 ((j6 (m:Int) a b:Nat):Int)):=by
 refine fG Tryz.func149 λw cs=>?_
 refine ra (λq1=>[(4,pt (B0 q1) 0),(5,pt (B1 q1) 0),(6,i6 0)]) (λq1=>[ob (B0 q1) (rB 72 a).toArray 217,ob (B1 q1) (rB 72 b).toArray 217]) λq1=>r0 [] [(7,i6 0)] [] (r0 [(1,.c [] [] (D2 m hm))] [(10,i6 ((dL (m:Int):Nat):Int)),(11,i6 0)] [] ?_)
 refine lq (λk=>k≤(dL (m:Int))) (λk=>[(11,iN k),(7,i6 ((ky (m:Int) a b k:Nat):Int))]) (λ_ L=>L) (λk=>(dL (m:Int))-k) 0 Om (by rw[ky];kernel_rfl) Kr (λk hk4=>?_)
 have hw8:=D5 (m:Int)
 refine r0 [] [(12,.bool (decide ((k:Int)<((dL (m:Int):Nat):Int))))] [] ?_
 refine b0 (k:Int) ((dL (m:Int):Nat):Int) (λh6 dh6=>?_) λh6 dh6=>?_
 ·have HLA:=Ec (m:=(m:Int)) (k:=k) ha Om
  have HLB:=Ec (m:=(m:Int)) (k:=k) hb Om
  have HLC:aW (m:Int)≤100:=VG (yn _) Dc
  refine r0 [] [(8,iN k)] [] (rr (λq8=>[(2,.m (ls 0 (rB 72 a))),(5,.c [] [2] (Eb m hm a (by(simp only[LL,ha,hb,ha,hb];done)) k Om)),(6,.m (ls 1 (rB 72 b))),(9,.c [] [3] (Eb m hm b (by(simp only[LL,ha,hb,ha,hb];done)) k Om)),(10,.c [2,3] [] (aa.at (rd':=[bt ((q8 5).val 0) ((a.drop (aW (m:Int)*k)).take (aW (m:Int))),bt ((q8 9).val 0) ((b.drop (aW (m:Int)*k)).take (aW (m:Int)))]) (Qu m hm ((q8 5).val 0) ((q8 9).val 0) ((a.drop (aW (m:Int)*k)).take (aW (m:Int))) ((b.drop (aW (m:Int)*k)).take (aW (m:Int))) (aW (m:Int)) HLA HLB HLC) (bM (λ_ h=>ar.sq h) (bM (λ_ h=>ar.sq h) (λ_ h=>h))))),(11,.t (tv (Builtin.max_ #[3,3] 3 #[i6 ((ky (m:Int) a b k:Nat):Int),i6 ((dn (λz=>dz (m:Int) (((a.drop (aW (m:Int)*k)).take (aW (m:Int))).getD z 0) (((b.drop (aW (m:Int)*k)).take (aW (m:Int))).getD z 0)) (aW (m:Int)):Nat):Int)]) (λ_=>qu _ _ _ _)))]) (λ_=>[(7,i6 (max ((ky (m:Int) a b k:Nat):Int) ((dn (λz=>dz (m:Int) (((a.drop (aW (m:Int)*k)).take (aW (m:Int))).getD z 0) (((b.drop (aW (m:Int)*k)).take (aW (m:Int))).getD z 0)) (aW (m:Int)):Nat):Int)))]) [7] (λq8 L=>L++[bt ((q8 5).val 0) ((a.drop (aW (m:Int)*k)).take (aW (m:Int))),bt ((q8 9).val 0) ((b.drop (aW (m:Int)*k)).take (aW (m:Int)))]) λq8=>r0 [(0,ad k 1)] [(11,i6 ((k+1:Nat):Int))] [11] ?_)
  exact le (k+1) Om Om (by rw[Qn];kernel_rfl) [0,1] Kr
 obtain rfl:k=(dL (m:Int)):=by omega
 refine lx ?_
 refine r0 [] [(6,i6 ((ky (m:Int) a b (dL (m:Int)):Nat):Int))] [6] ?_
 exact ak (i6 ((ky (m:Int) a b (dL (m:Int)):Nat):Int)) ab.zero Vm [] [] []
end
section
attribute [local irreducible] aW dL nU
theorem Qv(e f c m:Nat)(i:m=1∨m=2)(D:c<aW (m:Int)):eX 5 VA 288 #[pt e 0,pt f 0] (λ(x:Nat)=>#[iN x]) ((VS (dL (m:Int))).map λk=>aW (m:Int)*k+c) (Wl [[(e,.cells #[iN m] 3 (0,0))],[(f,.cells #[iN c] 3 (0,0))]]):=by
 have r:=yn (m:Int);have t:=D5 (m:Int);refine gi (KO:=[[(e,.cells #[iN m] 3 (0,0))],[(f,.cells #[iN c] 3 (0,0))]]) Tryz.func288 (λu y w C A h q p=>?_);refine r0 [(0,.l 0),(1,.c [] [] (D1 m i))] [(4,iN (aW (m:Int)))] [] (r0 [(0,.l 1),(3,.l 1)] [(14,.bool ((decide ((c:Int)<0))||(decide (((aW (m:Int):Nat):Int)≤(c:Int)))))] [] ?_);have o:((decide ((c:Int)<0))||(decide (((aW (m:Int):Nat):Int)≤(c:Int))))=false:=by rw[bh Om,bh Om];rfl
 refine cF ((decide ((c:Int)<0))||(decide (((aW (m:Int):Nat):Int)≤(c:Int)))) o (r0 [(0,.l 0),(1,.c [] [] (D2 m i))] [(16,iN (dL (m:Int))),(17,i6 0)] [] ?_);refine jD (λk=>k≤(dL (m:Int))) (λk=>[(17,iN k)]) (λ_ L=>L) (λk=>(dL (m:Int))-k) (λk=>k) 0 Om p Kr Kr (λk z B s d=>?_);have hck:=yo (m:=(m:Int)) (k:=k) Om;refine r0 [] [(18,.bool (decide ((k:Int)<((dL (m:Int):Nat):Int))))] [] ?_;refine b0 (k:Int) ((dL (m:Int):Nat):Int) (λg a=>?_) λg a=>?_
 ·refine r0 [] [(5,iN k)] [] ?_;refine iy h q d 6 (λ_=>[(3,ml (aW (m:Int)) k),(4,.l 1),(5,ad ((aW (m:Int))*k) c)]) (λ_=>[(20,.func (.yield u) #[] #[]),(25,iN (((aW (m:Int))*k)+c))]) [] (λ_ L=>L) N0 [0,1] (oa Om) (λv j n b=>?_);refine cF _ rfl (r0 [(0,ad k 1)] [(17,iN (k+1))] [17] ?_);exact ij (k+1) Om b Om Kr [0,1] Kr
 refine jE ?_;exact ku h d (by(rw[VJ,VT];omega)) [] [0,1]
theorem Qw(m c:Nat):aa VA 285 #[iN m,iN c] [] [] (λE=>[ob (E.y 0) #[iN m] 3,ob (E.y 1) #[iN c] 3]) (λE=> .func (.func 288) #[] #[pt ((E.y 0)) 0,pt ((E.y 1)) 0]):=by
 exact fG Tryz.func285 λw cs=>ra (λa=>[(2,pt (B0 a) 0),(3,pt (B1 a) 0),(4,.nilFunc)]) (λa=>[ob (B0 a) #[iN m] 3,ob (B1 a) #[iN c] 3]) λa=>r0 [] [(4,.func (.func 288) #[] #[pt (B0 a) 0,pt (B1 a) 0])] [4] (lf (.l [(a 0).y 0,(a 1).y 0] [] []) [0,1] [] [])
def gy(n c:Nat)(v:UInt8)(xs:List UInt8):Nat→List UInt8
 | 0=>xs
 | k+1=>(gy n c v xs k).set (n*k+c) v
theorem u2(n c:Nat)(v:UInt8)(xs:List UInt8): ∀k,(gy n c v xs k).length=xs.length
 | 0=>rfl
 | k+1=>by rw[gy,VH,u2]
theorem Qx(n c:Nat)(v:UInt8)(xs:List UInt8):gy n c v xs 0=xs:=rfl
theorem Qy(n c k:Nat)(v:UInt8)(xs:List UInt8):gy n c v xs (k+1)=(gy n c v xs k).set (n*k+c) v:=rfl
def m7(xs:List UInt8)(b v:Int):List UInt8:=bif (!(((nU xs b.toNat:Nat):Int)==v%2)) then xs.set (b.toNat/8) (xs.getD (b.toNat/8) 0^^^UInt8.ofNat (1*2^(b.toNat%8))) else xs
theorem Qz(xs:List UInt8)(b v:Int):(m7 xs b v).length=xs.length:=by
 unfold m7;cases (!(((nU xs b.toNat:Nat):Int)==v%2))
 ·rfl
 ·exact VH
attribute [local irreducible] gy
theorem QA(xs:List UInt8)(g:xs.length=72)(b v:Int)(h0:0≤b)(h1:b<576):aa VA 271 #[.agg (rB 72 xs).toArray,i6 b,i6 v] [] [] N0 (λ_=> .agg (rB 72 (m7 xs b v)).toArray):=by
 refine fG Tryz.func271 λw cs=>ra (λa=>[(3,pt (B0 a) 0),(6,pt (B1 a) 0)]) (λa=>[ob (B0 a) (rB 72 xs).toArray 217,ob (B1 a) (rB 72 (VB 72 0)).toArray 217]) λa=>r0 [(0,aS 217 (B0 a) 72 1),(2,.c [0] [] (aa.at (rd':=[ob (B0 a) (rB 72 xs).toArray 217]) (Qi (.slice (some ⟨(a 0).y 0,0,none⟩) 72 72) xs (by(simp only[LL,g];done)) b Om Om) (ei (Qj (d:=0) (λ_=>rfl) g) (λ_ h=>h)))),(4,.t (tv (av .and 3 (.tmp 10) (.const (i6 1)) (i6 v) (i6 1)) (λ_=>lV _ 1 2 Dc Dc Dc Dc)))] [(12,.bool (((nU xs b.toNat:Nat):Int) != (v%2)))] [] ?_;refine lU ((nU xs b.toNat:Nat):Int) (v%2) (λf e=>?_) λf e=>?_
 ·exact rr (λ_=>[(0,.l 0),(2,.c [] [] (Vq xs (by(simp only[LL,g];done)) b Om Om)),(3,.s 1)]) N0 [] (λ_ L=>L.set 1 (ob (B1 a) (rB 72 (xs.set (b.toNat/8) ((xs.getD (b.toNat/8) 0)^^^(UInt8.ofNat (1*2^(b.toNat%8)))))).toArray 217)) λi=>ak (.agg (rB 72 (xs.set (b.toNat/8) ((xs.getD (b.toNat/8) 0)^^^(UInt8.ofNat (1*2^(b.toNat%8)))))).toArray) ab.zero (by unfold m7;(repeat (first | rw[f] | rw[ALct]))) [] [] [1]
 exact rs [(0,.l 0),(1,.s 1)] 1 (ob (B1 a) (rB 72 xs).toArray 217) (ak (.agg (rB 72 xs).toArray) ab.zero (by unfold m7;(repeat (first | rw[f] | rw[ALcf]))) [] [] [1])
theorem QB(xs:List UInt8)(f:xs.length=72)(c m:Nat)(o:m=1∨m=2)(i:c<aW (m:Int))(v:UInt8):aa VA 272 #[.agg (rB 72 xs).toArray,iN m,iN c,u1 (v.toNat:Int)] [] [] N0 (λ_=> .agg (rB 72 (gy (aW (m:Int)) c v xs (dL (m:Int)))).toArray):=by
 have n:=yn (m:Int);have d:=f;refine fG Tryz.func272 λw cs=>ra (λa=>[(4,pt (B0 a) 0),(7,pt (B1 a) 0),(8,pt (B2 a) 0)]) (λa=>[ob (B0 a) (rB 72 xs).toArray 217,ob (B1 a) #[u1 (v.toNat:Int)] 5,ob (B2 a) (rB 72 (VB 72 0)).toArray 217]) λa=>rr (λ_=>[(2,.c [] [3,4] (Qw m c))]) (λb=>[(12,.func (.func 288) #[] #[pt ((B2 b)) 0,pt (((b 2).y 1)) 0])]) [] (λb L=>L++[ob (B2 b) #[iN m] 3,ob ((b 2).y 1) #[iN c] 3]) λb=>?_;refine ny (encs:=λ(x:Nat)=>#[iN x]) (xs:=(VS (dL (m:Int))).map λk=>aW (m:Int)*k+c) (KO:=[[((B2 b),.cells #[iN m] 3 (0,0))],[(((b 2).y 1),.cells #[iN c] 3 (0,0))]]) (Qv (B2 b) ((b 2).y 1) c m o i) (enters_of Tryz.func288 Kr rfl) (λk=>k≤dL (m:Int)) (λk L=>L.set 0 (ob (B0 a) (rB 72 (gy (aW (m:Int)) c v xs k)).toArray 217)) [3,4] Om (by rw[Qx];kernel_rfl) (λy k z q t g e=>?_) (λp e=>?_)
 ·obtain⟨h,rfl⟩:=nn g;have d:=(u2 (aW (m:Int)) c v xs k).trans f;have hck:=yo (m:=(m:Int)) (k:=k+1) Om;have j:aW (m:Int)*(k+1)=aW (m:Int)*k+aW (m:Int):=Wo _ _;refine r0 [] [(9,iN (aW (m:Int)*k+c))] [] ?_;refine ag [3,4] (λr u=>?_);exact rs [(1,.l 1),(2,iA 217 .i64 (B0 a) 0 72 1 (aW (m:Int)*k+c)),(3,wD 0 (B0 a) (aW (m:Int)*k+c) 217 (u1 (v.toNat:Int)) (rB 72 (gy (aW (m:Int)) c v xs k)) (rB 72 ((gy (aW (m:Int)) c v xs k).set (aW (m:Int)*k+c) v)) (jk Om) (lP (show(gy (aW (m:Int)) c v xs k).length=72 by(simp only[LL,f,d,f];done))))] 0 (ob (B0 a) (rB 72 ((gy (aW (m:Int)) c v xs k).set (aW (m:Int)*k+c) v)).toArray 217) (ne _ ⟨Om,rfl⟩ [0,1,2,3,4] (by rw[Qy];kernel_rfl))
 refine cl [ob (B0 a) (rB 72 (gy (aW (m:Int)) c v xs (dL (m:Int)))).toArray 217,ob (B1 a) #[u1 (v.toNat:Int)] 5,ob (B2 a) (rB 72 (VB 72 0)).toArray 217,ob (B2 b) #[iN m] 3,ob ((b 2).y 1) #[iN c] 3] (by rw[VJ,VT];kernel_rfl) ?_;simp only[VJ,VT] at e;have d:=(u2 (aW (m:Int)) c v xs (dL (m:Int))).trans f;exact rs [(0,.l 0),(1,.s 2)] 2 (ob (B2 a) (rB 72 (gy (aW (m:Int)) c v xs (dL (m:Int)))).toArray 217) (lf ab.zero [] [] [2])
end
section
structure mx (c:Cf) (f:Fa):Prop where
 ok:oT f c.R c.S c.B c.M c.C c.E=true
section
variable {c:Cf} {f:Fa}
theorem mx.all(h:mx c f):hold c.R c.S c.B c.M c.C f.x1 f.x2 f.x3 f.x4=true∧(0≤f.x6∧f.x6<576)∧(0≤f.x5∧f.x5<((aW (c.E:Int):Nat):Int)):=by
 have a:=h.ok;unfold oT at a;simp only[VK] at a;exact⟨a.1.1.1.2,k8.1 a.1.1.2,k8.1 a.1.2⟩
end
theorem QC(xs:List UInt8)(d:xs.length=72)(c:Int)(m:Nat)(b:m=1∨m=2)(a:0≤c∧c<((aW (m:Int):Nat):Int))(v:UInt8):aa VA 272 #[.agg (rB 72 xs).toArray,iN m,i6 c,u1 (v.toNat:Int)] [] [] N0 (λ_=> .agg (rB 72 (gy (aW (m:Int)) c.toNat v xs (dL (m:Int)))).toArray):=by
 obtain⟨n,rfl⟩:=Int.eq_ofNat_of_zero_le a.1;exact QB xs d n m b Om v
def mz(m:Nat)(a b d e:Int)(xs:List UInt8)(f:Fa):List UInt8:=bif ((!(ka f))||(!(lF f a b d e))) then xs else(bif (f.x0==2) then m7 xs f.x6 f.x7 else gy (aW (m:Int)) f.x5.toNat (aN f.x7) xs (dL (m:Int)))
theorem Ee(m:Nat)(a b d e:Int)(xs:List UInt8)(f:Fa):(mz m a b d e xs f).length=xs.length:=by
 unfold mz;cases ((!(ka f))||(!(lF f a b d e)))
 ·cases (f.x0==2)
  ·exact u2 ..
  ·exact Qz ..
 ·rfl
def jO(m:Nat)(a b d e:Int)(xs:List UInt8)(l:List Fa):List UInt8:=l.foldl (mz m a b d e) xs
theorem u3(m:Nat)(a b d e:Int): ∀(l:List Fa) (xs:List UInt8),(jO m a b d e xs l).length=xs.length
 | [],_=>rfl
 | f::l,xs=>(u3 m a b d e l _).trans (Ee ..)
theorem QD{m:Nat}{a b d e:Int}{xs:List UInt8}{l:List Fa}{i:Nat}(h:i<l.length):jO m a b d e xs (l.take (i+1))=mz m a b d e (jO m a b d e xs (l.take i)) (l.getD i b7):=yi h
attribute [local irreducible] lF ka aW dL gy m7 hold dM
theorem QE(c:Cf)(f:Fa)(p:mx c f)(z:c.E=1∨c.E=2)(e g h i:Int)(xs:List UInt8)(m:xs.length=72):aa VA 252 #[.agg #[i6 f.x0,i6 f.x1,i6 f.x2,i6 f.x3,i6 f.x4,i6 f.x5,i6 f.x6,i6 f.x7],iN c.E,.agg #[i6 e,i6 g,i6 h,i6 i],.agg (rB 72 xs).toArray] [] [] N0 (λ_=> .agg (rB 72 (mz c.E e g h i xs f)).toArray):=by
 have d:=p.all;have x:=d.2.1.1;have y:=d.2.1.2;have q:=d.2.2;have r:=z;refine fG Tryz.func252 λw cs=>ra (λb=>[(4,pt (B0 b) 0),(6,pt (B1 b) 0),(7,pt (B2 b) 0),(8,pt (B3 b) 0)]) (λb=>[ob (B0 b) #[i6 f.x0,i6 f.x1,i6 f.x2,i6 f.x3,i6 f.x4,i6 f.x5,i6 f.x6,i6 f.x7] 48,ob (B1 b) #[i6 e,i6 g,i6 h,i6 i] 46,ob (B2 b) (rB 72 xs).toArray 217,ob (B3 b) (rB 72 (VB 72 0)).toArray 217]) λb=>r0 [(0,.l 0),(1,.c [] [] (D3 f)),(4,.l 0),(5,.l 1),(6,.c [] [] (Qd f e g h i))] [(9,.bool ((!(ka f))||(!(lF f e g h i))))] [] ?_;refine cB ((!(ka f))||(!(lF f e g h i))) (λj=>?_) λj=>?_
 ·exact rr (λ_=>[(0,.l 2),(1,.s 3)]) N0 [] (λ_ L=>L.set 3 (ob (B3 b) (rB 72 xs).toArray 217)) λA=>ak (.agg (rB 72 xs).toArray) ab.zero (by unfold mz;(repeat (first | rw[j] | rw[ALct]))) [] [] [3]
 refine r0 [(1,.l 0)] [(20,.bool (f.x0==2))] [] ?_;refine cO f.x0 2 (λo n=>?_) λo n=>?_
 ·exact rr (λ_=>[(0,.l 2),(2,.l 0),(4,.l 0),(5,.c [] [] (QA xs (by(simp only[LL,m,m];done)) f.x6 f.x7 Om Om)),(6,.s 3)]) N0 [] (λ_ L=>L.set 3 (ob (B3 b) (rB 72 (m7 xs f.x6 f.x7)).toArray 217)) λB=>ak (.agg (rB 72 (m7 xs f.x6 f.x7)).toArray) ab.zero (by unfold mz;(repeat (first | rw[j] | rw[o] | rw[ALct] | rw[ALcf]))) [] [] [3]
 exact rs [(0,.l 2),(3,.l 0),(5,.l 0),(6,.t (tc (k:= .i64) (l:= .u8) (a:=i6 f.x7) λ_ _ _ u v=>n2 u v)),(7,.c [] [] (QC xs (by(simp only[LL,m,m];done)) f.x5 c.E r q (aN f.x7))),(8,.s 3)] 3 (ob (B3 b) (rB 72 (gy (aW (c.E:Int)) (f.x5).toNat (aN f.x7) xs (dL (c.E:Int)))).toArray 217) (ak (.agg (rB 72 (gy (aW (c.E:Int)) (f.x5).toNat (aN f.x7) xs (dL (c.E:Int)))).toArray) ab.zero (by unfold mz;(repeat (first | rw[j] | rw[o] | rw[ALcf]))) [] [] [3])
attribute [local irreducible] mz
theorem QF(c:Cf)(z:c.E=1∨c.E=2)(v:Value)(l:List Fa)(y:l.length≤1000)(r: ∀f∈l,mx c f)(a b d e:Int)(xs:List UInt8)(j:xs.length=72):aa VA 225 #[v,iN c.E,.agg #[i6 a,i6 b,i6 d,i6 e],.agg (rB 72 xs).toArray] [.p (aH oS v l)] [] N0 (λ_=> .agg (rB 72 (jO c.E a b d e xs l)).toArray):=by
 refine fO Tryz.func225 0 rfl λo i=>fG Tryz.func225 λw cs=>ra (λg=>[(6,pt (B0 g) 0),(7,pt (B1 g) 0),(8,pt (B2 g) 0)]) (λg=>[ob (B0 g) #[i6 a,i6 b,i6 d,i6 e] 46,ob (B1 g) (rB 72 xs).toArray 217,ob (B2 g) (rB 72 (VB 72 0)).toArray 217]) λg=>r0 [(1,eD i.1 0)] [(11,v),(12,iN l.length),(13,i6 0)] [] ?_;refine lq (λk=>k≤l.length) (λk=>[(13,iN k)]) (λk L=>L.set 2 (ob (B1 g) (rB 72 (jO c.E a b d e xs (l.take k))).toArray 217)) (λk=>l.length-k) 0 Om Kr (by rw[V2];kernel_rfl) (λk x=>?_);have h:=(u3 c.E a b d e (l.take k) xs).trans j;refine r0 [] [(14,.bool (decide ((k:Int)<(l.length:Int))))] [] ?_;refine b0 (k:Int) (l.length:Int) (λu q=>?_) λu q=>?_
 ·refine rr (λ_=>[(0,fa i.1 0 k 8),(1,mQ lE i.1 0 k 0 8),(3,.s 4)]) (λm=>[(10,pt (B2 m) 0)]) [] (λm L=>L++[ob (B2 m) #[i6 ((l.getD k b7).x0),i6 ((l.getD k b7).x1),i6 ((l.getD k b7).x2),i6 ((l.getD k b7).x3),i6 ((l.getD k b7).x4),i6 ((l.getD k b7).x5),i6 ((l.getD k b7).x6),i6 ((l.getD k b7).x7)] 48]) λm=>?_;have n:=(nP b7).2 r k Om;have t:=(Ee c.E a b d e (jO c.E a b d e xs (l.take k)) (l.getD k b7)).trans h;exact rs [(0,.l 4),(2,.l 1),(3,.l 2),(4,.c [] [] (QE c (l.getD k b7) n z a b d e (jO c.E a b d e xs (l.take k)) (by(simp only[LL,j,h,t,j];done)))),(5,.s 2)] 2 (ob (B1 g) (rB 72 (mz c.E a b d e (jO c.E a b d e xs (l.take k)) (l.getD k b7))).toArray 217) (r0 [(0,ad k 1)] [(13,iN (k+1))] [13] (le (k+1) Om Om Kr [0,1,2,3] (by rw[QD Om];kernel_rfl)))
 obtain rfl:k=l.length:=by omega
 refine cl [.c o,ob (B0 g) #[i6 a,i6 b,i6 d,i6 e] 46,ob (B1 g) (rB 72 (jO c.E a b d e xs l)).toArray 217,ob (B2 g) (rB 72 (VB 72 0)).toArray 217] (by rw[VY];kernel_rfl) (lx ?_);have h:=(u3 c.E a b d e l xs).trans j;exact rs [(0,.l 2),(1,.s 3)] 3 (ob (B2 g) (rB 72 (jO c.E a b d e xs l)).toArray 217) (lf ab.zero [] [(0,0)] [3])
end
theorem Ef(c:Cf)(b:cE c.R c.S c.B c.M c.C)(a p1 p2 p3:Int)(d:hold c.R c.S c.B c.M c.C a p1 p2 p3=true):aa VA 147 #[.agg #[iN c.R,iN c.S,iN c.B,iN c.M,iN c.C],.agg #[i6 a,i6 p1,i6 p2,i6 p3]] [] [] N0 (λ_=> .tuple #[i6 (dM a p1 p2 p3),i6 0]):=by
 have h:=Cz c.R c.S c.B c.M c.C b a p1 p2 p3;unfold qY qZ at h;rw[d] at h;exact h
theorem yp(c:Cf)(b:cE c.R c.S c.B c.M c.C)(i:Int)(a:fP c.R c.S c.B c.M c.C i=true):aa VA 68 #[.agg #[iN c.R,iN c.S,iN c.B,iN c.M,iN c.C],i6 i] [] [] N0 (λ_=> .tuple #[.agg #[i6 (i/1048576),i6 (i/65536%16),i6 (i/64%1024),i6 (i%64)],i6 0]):=by
 have h:=CA c.R c.S c.B c.M c.C b i;unfold Vp rh ri rj rl at h;unfold fP at a;rw[Bool.not_eq_true'] at a;rw[a] at h;exact h
theorem QG{i:Nat}{w:World}{α:Type}{en:α→List Value}{v:Value}{xs:List α}{bs:aw}(h:aH en v xs bs):(av .eql 93 (.tmp i) (.const (.slice none 0 0)) v (.slice none 0 0)).run VA w= .ok (.bool (oz v)) w:=by
 obtain⟨a,r,rfl⟩:=h.2;cases a<;>kernel_rfl
theorem QH(v:Value)(xs:List Fa)(f:xs.length≤1000):aa VA 70 #[v] [.p (aH oS v xs)] [] (λE=>[dk (E.val 0) xs]) (λE=>(E.val 0)):=by
 refine fO Tryz.func70 0 rfl λd a=>fG Tryz.func70 λw cs=>r0 [] [(2,.slice none 0 0)] [] (r0 [(1,.t (tv (av .eql 93 (.tmp 3) (.const (.slice none 0 0)) (v) (.slice none 0 0)) (λ_=>QG a)))] [(4,.bool (oz v))] [] ?_);refine cB (oz v) (λe=>?_) λe=>?_
 ·exact r0 [] [(2,.slice none 0 0)] [2] (cz lE (lf (.l [] [] [.slice none 0 0]) [1] [(0,0)] [] (hf:=by(try rewrite [tY a As]);kernel_rfl)))
 exact rr (λb=>[(0,.m (qw 1 oS ([i6 0,i6 0,i6 0,i6 0,i6 0,i6 0,i6 0,i6 0]) 48)),(2,.m (lQ 1 0 lE.hT (.slice (some ⟨(b 0).y 0,0,none⟩) 0 0) (v) (xs:=[]) (ys:=xs) (.c d) (cP a.1) lE.one lE.lz (by simp only[LL];omega)))]) (λb=>[(2,(b 2).val 0)]) [2] (λb L=>L++[dk ((b 2).val 0) (([])++xs)]) λb=>lf (.l [] [] [(b 2).val 0]) [1] [(0,0)] [] (hf:=by(try rewrite [tY a As]);kernel_rfl)
theorem QI(v:Value)(xs:List Fa)(l:Nat)(a:l≤xs.length)(b:xs.length≤1000):aa VA 70 #[gD v l xs.length 8] [.p (aH oS v xs)] [] (λE=>[dk (E.val 0) (xs.drop l)]) (λE=>E.val 0):=
 aa.at (QH (gD v l xs.length 8) (xs.drop l) (by rw[VO];omega)) (bM (λ_ h=>aH.drop (en:=oS) (k:=8) (λ_=>rfl) h a) λ_ h=>h)
def jP(xs:List Fa):Int:=(bif decide (256≤(xs.length:Int)) then 14 else 0)
def iY(xs:List Fa)(f:Fa):List Fa:=(bif decide (256≤(xs.length:Int)) then xs else xs++([f]))
theorem Eg(v:Value)(xs:List Fa)(f:Fa):aa VA 170 #[v,.agg #[i6 f.x0,i6 f.x1,i6 f.x2,i6 f.x3,i6 f.x4,i6 f.x5,i6 f.x6,i6 f.x7]] [dk v xs] [0] (λE=>[dk (E.val 0) (iY xs f)]) (λE=> .tuple #[(E.val 0),i6 (jP xs)]):=by
 refine fG Tryz.func170 λw cs=>ra (λc=>[(3,pt (B0 c) 0),(4,.slice none 0 0),(5,i6 0)]) (λc=>[ob (B0 c) #[i6 f.x0,i6 f.x1,i6 f.x2,i6 f.x3,i6 f.x4,i6 f.x5,i6 f.x6,i6 f.x7] 48]) λc=>r0 [(1,e8 lE v xs 0)] [(8,.bool (decide (256≤(xs.length:Int))))] [] ?_;refine om 256 (xs.length:Int) (λb d=>?_) λb d=>?_
 ·exact r0 [] [(4,v),(5,i6 14)] [4,5] (ak (.tuple #[v,i6 14]) (.l [] [] [v]) (by((try simp only[jP,iY]);(repeat (first | rw[b] | rw[ALct])))<;>rfl) [0] [] [] (hf:=by(try simp only[jP,iY]);(repeat (first | rw[b] | rw[ALct]));kernel_rfl))
 exact rr (λ_=>[(1,.l 1),(2,.m (bs 2 1)),(3,fp lE (v) xs 0 2 ([f]))]) (λa=>[(4,(a 3).val 0),(5,i6 0)]) [4,5] (λa L=>L.set 0 (dk ((a 3).val 0) (xs++([f])))++[ob (B2 a) #[i6 f.x0,i6 f.x1,i6 f.x2,i6 f.x3,i6 f.x4,i6 f.x5,i6 f.x6,i6 f.x7] 48]) λa=>ak (.tuple #[(a 3).val 0,i6 0]) (.l [] [] [(a 3).val 0]) (by((try simp only[jP,iY]);(repeat (first | rw[b] | rw[ALcf])))<;>rfl) [0] [] [] (hf:=by(try simp only[jP,iY]);(repeat (first | rw[b] | rw[ALcf]));kernel_rfl)
structure Dr where
 cells:Int→List UInt8
 X:List Fa
 J:List Fa
def kE:List UInt8:=VB 72 0
def pP(r:List UInt8):Value:= .agg (rB 72 r).toArray
abbrev eH(f:Int→List UInt8)(g:Nat):aB:= .p (kW pP kE f g)
abbrev fS(g:Nat)(c:Cf)(D:Dr)(L:ah):Prop:=∃(gm:Nat) (a b:Value),L=[ob g #[iN c.R,iN c.S,iN c.B,iN c.M,iN c.C,iN c.E,.map (some gm),a,b] 162,eH D.cells gm,dk a D.X,dk b D.J]
structure ia (c:Cf) (D:Dr):Prop where
 cl: ∀k,(D.cells k).length=72
 l1:D.X.length≤256
 l2:D.J.length≤256
 f1: ∀f∈D.X,mx c f
 f2: ∀f∈D.J,mx c f
def rS:Dr:=⟨λ_=>kE,[],[]⟩
theorem QJ(c:Cf):ia c rS:=⟨λ_=>VE,VN _,VN _,λf h=>absurd h VV,λf h=>absurd h VV⟩
def a4(D:Dr)(i:Int):Int:=bif (D.J.length:Int)==0 then i else bif (D.J.getD 0 b7).x0==7 then i else dM (D.J.getD 0 b7).x1 (D.J.getD 0 b7).x2 (D.J.getD 0 b7).x3 (D.J.getD 0 b7).x4
def c7(D:Dr):Bool:=bif (D.J.length:Int)==0 then false else(D.J.getD 0 b7).x0==7
def ec(D:Dr):Dr:={D with J:=D.J.drop 1}
theorem yq{α:Type}{l:List α}(h:(l.length:Int)=0):l.drop 1=l:=by
 have e:l=[]:=List.length_eq_zero_iff.1 Om;subst e;rfl
theorem rU{c:Cf}{D:Dr}(h:ia c D):ia c (ec D):=⟨h.cl,h.l1,by show(D.J.drop 1).length≤256;rw[VO];have:=h.l2;omega,h.f1,λf a=>h.f2 f (List.mem_of_mem_drop a)⟩
theorem Eh{c:Cf}{l:List Fa}(h: ∀f∈l,mx c f)(a:(l.length:Int)≠0):mx c (l.getD 0 b7):=(nP b7).2 h 0 Om
theorem QK(c:Cf)(b:cY c):aa VA 112 #[.agg #[iN c.R,iN c.S,iN c.B,iN c.M,iN c.C],iN c.E] [] [] (λE=>[ob (E.y 0) #[iN c.R,iN c.S,iN c.B,iN c.M,iN c.C,iN c.E,.map (some (E.y 1)),.slice none 0 0,.slice none 0 0] 162,eH (λ_=>kE) (E.y 1)]) (λE=> .tuple #[pt ((E.y 0)) 0,i6 0]):=by
 have g:=b.ly.Q;have h:=b.E;refine fG Tryz.func112 λw cs=>ra (λd=>[(2,pt (B0 d) 0),(4,.pointer none),(5,i6 0)]) (λd=>[ob (B0 d) #[iN c.R,iN c.S,iN c.B,iN c.M,iN c.C] 23]) λd=>rF [(0,.l 0),(1,.c [] [] (ur c.R c.S c.B c.M c.C g))] 6 (r0 [(1,.c [] [] (oA (c.E:Int)))] [(10,.bool (!(((c.E:Int)==1)||((c.E:Int)==2))))] [] ?_);have f:(!(((c.E:Int)==1)||((c.E:Int)==2)))=false:=by rw[show((((c.E:Nat):Int)==1)||(((c.E:Nat):Int)==2))=true by rcases h with e | e<;>rw[e]<;>rfl];rfl
 exact cF (!(((c.E:Int)==1)||((c.E:Int)==2))) f (rr (λ_=>[(0,.l 0),(2,.m (mm 1 pP kE))]) (λa=>[(4,pt (B4 a) 0),(5,i6 0)]) [4,5] (λa L=>L++[eH (λ_=>kE) (B2 a),ob (B4 a) #[iN c.R,iN c.S,iN c.B,iN c.M,iN c.C,iN c.E,.map (some (B2 a)),.slice none 0 0,.slice none 0 0] 162]) λa=>lf (.l [(a 4).y 0,(a 2).y 0] [] []) [2,1] [] [])
theorem QL(g:Nat)(c:Cf)(D:Dr):aa VA 113 #[pt g 0] [pk (fS g c D)] [0] (λ_=>[pk (fS g c D)]) (λ_=> .agg #[iN c.R,iN c.S,iN c.B,iN c.M,iN c.C]):=aa.pkZ Tryz.func113 λL b=>by
 obtain⟨gm,d,e,rfl⟩:=b;refine⟨[1,2,3],λ_=>[eH D.cells gm,dk d D.X,dk e D.J],?_,rfl,λE=>⟨rfl,rfl,⟨_,_,_,rfl⟩⟩⟩;exact fG Tryz.func113 λw cs=>ra (λa=>[(2,pt (B0 a) 0)]) (λa=>[ob (B0 a) #[i6 0,i6 0,i6 0,i6 0,i6 0] 23]) λa=>rs [(3,.l 0),(4,.s 4)] 4 (ob (B0 a) #[iN c.R,iN c.S,iN c.B,iN c.M,iN c.C] 23) (lf ab.zero [1,2,3] [(0,0)] [4])
theorem yr(g:Nat)(c:Cf)(D:Dr):aa VA 107 #[pt g 0] [pk (fS g c D)] [0] (λ_=>[pk (fS g c D)]) (λ_=>iN c.E):=aa.pkZ Tryz.func107 λL a=>by
 obtain⟨gm,b,d,rfl⟩:=a;refine⟨[1,2,3],λ_=>[eH D.cells gm,dk b D.X,dk d D.J],?_,rfl,λE=>⟨rfl,rfl,⟨_,_,_,rfl⟩⟩⟩;exact fG Tryz.func107 λw cs=>r0 [] [(2,i6 0)] [] (r0 [(3,.l 0)] [(2,iN c.E)] [2] (lf ab.zero [1,2,3] [(0,0)] []))
theorem Ei(g:Nat)(c:Cf)(r:cY c)(D:Dr)(t:ia c D)(i:Int)(gm:Nat)(f a:Value):aa VA 190 #[pt g 0,i6 i] [ob g #[iN c.R,iN c.S,iN c.B,iN c.M,iN c.C,iN c.E,.map (some gm),f,a] 162,eH D.cells gm,dk f D.X,dk a D.J] [0,1,2,3] (λE=>[ob g #[iN c.R,iN c.S,iN c.B,iN c.M,iN c.C,iN c.E,.map (some gm),f,(E.val 0)] 162,eH ((ec D).cells) gm,dk f ((ec D).X),dk (E.val 0) ((ec D).J)]) (λ_=> .agg #[i6 (a4 D i),.bool (c7 D)]):=by
 have u:=t.l2;have n:=r.ly.Q;refine fG Tryz.func190 λw cs=>ra (λe=>[(4,pt (B0 e) 0)]) (λe=>[ob (B0 e) #[i6 0,.bool false] 88]) λe=>r0 [(3,.l 0),(4,e8 lE a D.J 3)] [(13,.bool ((D.J.length:Int)==0))] [] ?_;refine cO (D.J.length:Int) 0 (λj d=>?_) λj d=>?_
 ·exact rr (λ_=>[(2,.s 4)]) N0 [] (λ_ L=>L.set 4 (ob (B0 e) #[i6 i,.bool false] 88)) λy=>ak (.agg #[i6 i,.bool false]) (.l [] [] [a]) (by unfold a4 c7;(repeat (first | rw[j] | rw[ALct]))) [0,1,2,3] [] [4] (hf:=by unfold ec;(try rewrite [yq As]);kernel_rfl)
 have o:=(Eh t.f2 d).all.1;have v:0<D.J.length:=by have x:=d;omega
 refine rr (λ_=>[(3,.l 0),(4,cH lE a D.J 3 0),(5,pr lE a D.J 3 0 0 8),(7,.s 5)]) (λk=>[(5,pt (B6 k) 0)]) [] (λk L=>L++[ob (B6 k) #[i6 ((D.J.getD 0 b7).x0),i6 ((D.J.getD 0 b7).x1),i6 ((D.J.getD 0 b7).x2),i6 ((D.J.getD 0 b7).x3),i6 ((D.J.getD 0 b7).x4),i6 ((D.J.getD 0 b7).x5),i6 ((D.J.getD 0 b7).x6),i6 ((D.J.getD 0 b7).x7)] 48]) λk=>rr (λb=>[(4,.l 0),(5,H6 lE a D.J 3 1),(6,.c [3] [6] (aa.at (rd':=[dk a D.J]) (QI a D.J 1 Om Om) (bM (λ_ h=>ar.sq h) (λ_ h=>h)))),(9,.m (fz 0 6 (dk ((b 6).val 0) ((D.J).drop (1))) ((b 6).val 0) λbs h=>ar.one ((λ_ h=>h) bs h)))]) N0 [] (λb L=>L.set 0 (ob g #[iN c.R,iN c.S,iN c.B,iN c.M,iN c.C,iN c.E,.map (some gm),f,(b 6).val 0] 162)++[dk ((b 6).val 0) ((D.J).drop (1))]) λb=>r0 [(1,.l 5)] [(33,.bool (((D.J.getD 0 b7).x0)==7))] [] ?_;refine cO ((D.J.getD 0 b7).x0) 7 (λq p=>?_) λq p=>?_
 ·exact rr (λ_=>[(2,.s 4)]) N0 [] (λ_ L=>L.set 4 (ob (B0 e) #[i6 i,.bool true] 88)) λz=>ak (.agg #[i6 i,.bool true]) (.l [] [] [((b 6).val 0)]) (by unfold a4 c7;(repeat (first | rw[j] | rw[q] | rw[ALct] | rw[ALcf]))) [0,1,2,6] [] [4] (hf:=by unfold ec;(try rewrite [yq As]);kernel_rfl)
 exact r0 [(3,.m (ls 0 ([iN c.R,iN c.S,iN c.B,iN c.M,iN c.C]))),(5,.m (ls 5 ([i6 ((D.J.getD 0 b7).x1),i6 ((D.J.getD 0 b7).x2),i6 ((D.J.getD 0 b7).x3),i6 ((D.J.getD 0 b7).x4)]))),(6,.c [] [] (Ef c n ((D.J.getD 0 b7).x1) ((D.J.getD 0 b7).x2) ((D.J.getD 0 b7).x3) ((D.J.getD 0 b7).x4) o)),] [(6,i6 (dM ((D.J.getD 0 b7).x1) ((D.J.getD 0 b7).x2) ((D.J.getD 0 b7).x3) ((D.J.getD 0 b7).x4))),(7,i6 0)] [] (rF [] 47 (rs [(2,.s 4)] 4 (ob (B0 e) #[i6 (dM ((D.J.getD 0 b7).x1) ((D.J.getD 0 b7).x2) ((D.J.getD 0 b7).x3) ((D.J.getD 0 b7).x4)),.bool false] 88) (ak (.agg #[i6 (dM ((D.J.getD 0 b7).x1) ((D.J.getD 0 b7).x2) ((D.J.getD 0 b7).x3) ((D.J.getD 0 b7).x4)),.bool false]) (.l [] [] [((b 6).val 0)]) (by unfold a4 c7;(repeat (first | rw[j] | rw[q] | rw[ALcf]))) [0,1,2,6] [] [4] (hf:=by unfold ec;(try rewrite [yq As]);kernel_rfl))))
section
theorem yt{R S B M C:Nat}(f:cE R S B M C){a p1 p2 p3:Int}(h:hold R S B M C a p1 p2 p3=true):fP R S B M C (dM a p1 p2 p3)=true:=by
 obtain⟨b,c,d,e,g,i⟩:=Mr f.bd h;unfold fP;rw[b,c,d,e,h,bh Om];rfl
theorem QM{c:Cf}(a:cY c){D:Dr}(d:ia c D){i:Int}(b:fP c.R c.S c.B c.M c.C i=true):fP c.R c.S c.B c.M c.C (a4 D i)=true:=by
 unfold a4;cases h:((D.J.length:Int)==0)
 ·rw[ALcf];cases (D.J.getD 0 b7).x0==7
  ·exact yt a.ly.Q (Eh d.f2 (ne_of_beq_false h)).all.1
  ·exact b
 ·exact b
def pQ(c:Cf)(D:Dr)(i:Int):List UInt8:=jO c.E (i/1048576) (i/65536%16) (i/64%1024) (i%64) (D.cells i) D.X
theorem yu{c:Cf}{D:Dr}(a:ia c D)(i:Int):(pQ c D i).length=72:=(u3 ..).trans (a.cl i)
def cd(c:Cf)(D:Dr)(i:Int):List UInt8:=bif c7 D then VB 72 0 else pQ c (ec D) (a4 D i)
theorem nV{c:Cf}{D:Dr}(a:ia c D)(i:Int):(cd c D i).length=72:=by
 unfold cd;cases c7 D
 ·exact yu (rU a) _
 ·exact VE
def nW(D:Dr)(i:Int)(r:List UInt8):Dr:=⟨bif !(c7 D) then dQ D.cells (a4 D i) r else D.cells,D.X,D.J.drop 1⟩
theorem rV{f:Int→List UInt8}{n:Nat}(h: ∀k,(f k).length=n)(i:Int){r:List UInt8}(a:r.length=n)(k:Int):(dQ f i r k).length=n:=by
 unfold dQ
 split<;>simp [*]
theorem Ej{c:Cf}{D:Dr}(h:ia c D)(i:Int){r:List UInt8}(b:r.length=72):ia c (nW D i r):=by
 have a:=rU h;refine⟨?_,a.l1,a.l2,a.f1,a.f2⟩;show ∀k,((bif !(c7 D) then dQ D.cells (a4 D i) r else D.cells) k).length=72;cases c7 D
 ·exact rV h.cl _ b
 ·exact h.cl
def Ek(xs:List UInt8)(b:Int):List UInt8:=xs.set (b.toNat/8) (xs.getD (b.toNat/8) 0^^^UInt8.ofNat (1*2^(b.toNat%8)))
def kb(c:Cf)(f:Fa):Bool:=oT f c.R c.S c.B c.M c.C c.E
def kc(c:Cf)(D:Dr)(f:Fa):Dr:=
 ⟨bif !(kb c f) then D.cells else bif f.x0==1 then dQ D.cells (dM f.x1 f.x2 f.x3 f.x4) (Ek (D.cells (dM f.x1 f.x2 f.x3 f.x4)) f.x6) else D.cells,
  bif !(kb c f) then D.X else bif f.x0==1 then D.X else bif ka f then iY D.X f else D.X,
  bif !(kb c f) then D.J else bif f.x0==1 then D.J else bif ka f then D.J else iY D.J f⟩
def gO(c:Cf)(D:Dr)(f:Fa):Int:=bif !(kb c f) then 10 else bif f.x0==1 then 0 else bif ka f then jP D.X else jP D.J
theorem El{xs:List Fa}(f:Fa)(h:xs.length≤256):(iY xs f).length≤256:=by
 unfold iY;cases a:decide (256≤(xs.length:Int))
 ·have:=of_decide_eq_false a;simp only[ALcf,VC,List.length_singleton];omega
 ·exact h
theorem Em{xs:List Fa}{f:Fa}{p:Fa→Prop}(h: ∀x∈xs,p x)(hf:p f): ∀x∈iY xs f,p x:=by
 unfold iY;cases decide (256≤(xs.length:Int))
 ·simp only[ALcf,List.mem_append,List.mem_singleton];rintro x (a | rfl)
  ·exact h x a
  ·exact hf
 ·exact h
theorem QN{c:Cf}{D:Dr}(h:ia c D)(f:Fa):ia c (kc c D f):=by
 unfold kc;cases b:kb c f
 ·exact⟨h.cl,h.l1,h.l2,h.f1,h.f2⟩
 ·have a:mx c f:=⟨b⟩;cases f.x0==1
  ·cases ka f
   ·exact⟨h.cl,h.l1,El f h.l2,h.f1,Em h.f2 a⟩
   ·exact⟨h.cl,El f h.l1,h.l2,Em h.f1 a,h.f2⟩
  ·exact⟨rV h.cl _ (by unfold Ek;rw[VH];exact h.cl _),h.l1,h.l2,h.f1,h.f2⟩
attribute [local irreducible] jO a4 c7 fP dM ka jP iY oT
theorem QO(g:Nat)(c:Cf)(d:cY c)(D:Dr)(b:ia c D)(i:Int)(n:fP c.R c.S c.B c.M c.C i=true)(gm:Nat)(a p:Value):aa VA 191 #[pt g 0,i6 i] [ob g #[iN c.R,iN c.S,iN c.B,iN c.M,iN c.C,iN c.E,.map (some gm),a,p] 162,eH D.cells gm,dk a D.X,dk p D.J] [1,2,3] (λ_=>[eH D.cells gm,dk a D.X,dk p D.J]) (λ_=> .tuple #[.agg (rB 72 (pQ c D i)).toArray,i6 0]):=by
 have j:=d.ly.Q;have k:=n;have q:=b.l1;have l:=b.cl i;have o:=yu b i;have r:=d.E;exact fG Tryz.func191 λw cs=>ra (λe=>[(4,pt (B0 e) 0),(5,i6 0)]) (λe=>[ob (B0 e) (rB 72 (VB 72 0)).toArray 217]) λe=>rr (λ_=>[(3,.m (ls 0 ([iN c.R,iN c.S,iN c.B,iN c.M,iN c.C]))),(5,.c [] [] (yp c j i k)),(9,.m (al 5)),(10,.s 5)]) (λf=>[(6,pt ((f 9).y 0) 0),(7,i6 0)]) [] (λf L=>L++[ob ((f 9).y 0) #[i6 (i/1048576),i6 (i/65536%16),i6 (i/64%1024),i6 (i%64)] 46]) λf=>rF [] 18 (rr (λ_=>[(3,.m (ld 0 (a))),(7,.m (ld 0 (iN c.E))),(8,.m (ls 5 ([i6 (i/1048576),i6 (i/65536%16),i6 (i/64%1024),i6 (i%64)]))),(12,.m (ld 0 (.map (some gm)))),(14,.m (mg 1 (eH D.cells gm) gm i (λ_ h=>h))),(15,.c [2] [] (aa.at (rd':=[dk a D.X]) (QF c r a D.X (VG b.l1 Dc) b.f1 (i/1048576) (i/65536%16) (i/64%1024) (i%64) (D.cells i) (by(simp only[LL,l,o];done))) (bM (λ_ h=>ar.sq h) (λ_ h=>h)))),(16,.s 4)]) (λ_=>[(5,i6 0)]) [5] (λ_ L=>L.set 4 (ob (B0 e) (rB 72 (jO c.E (i/1048576) (i/65536%16) (i/64%1024) (i%64) (D.cells i) D.X)).toArray 217)) λt=>ak (.tuple #[.agg (rB 72 (jO c.E (i/1048576) (i/65536%16) (i/64%1024) (i%64) (D.cells i) D.X)).toArray,i6 0]) ab.zero Vm [1,2,3] [(0,0)] [4])
theorem QP(g:Nat)(c:Cf)(d:cY c)(D:Dr)(o:ia c D)(i:Int)(k:fP c.R c.S c.B c.M c.C i=true)(r:List UInt8)(t:r.length=72):aa VA 204 #[pt g 0,i6 i,.agg (rB 72 r).toArray] [pk (fS g c D)] [0] (λ_=>[pk (fS g c (nW D i r))]) (λ_=> .tuple #[.agg #[i6 (a4 D i),.bool (c7 D)],i6 0]):=aa.pkZ Tryz.func204 λL p=>by
 obtain⟨gm,e,q,rfl⟩:=p;refine⟨[0,1,2,3],λE=>[ob g #[iN c.R,iN c.S,iN c.B,iN c.M,iN c.C,iN c.E,.map (some gm),e,(E.val 0)] 162,eH ((nW D i r).cells) gm,dk e ((ec D).X),dk (E.val 0) ((ec D).J)],?_,rfl,λE=>⟨rfl,rfl,⟨_,_,_,rfl⟩⟩⟩;have f:=d.ly.Q;have h:=k;refine fG Tryz.func204 λw cs=>ra (λa=>[(5,pt (B0 a) 0),(6,pt (B1 a) 0),(7,i6 0)]) (λa=>[ob (B0 a) (rB 72 r).toArray 217,ob (B1 a) #[i6 0,.bool false] 88]) λa=>rr (λ_=>[(3,.m (ls 0 ([iN c.R,iN c.S,iN c.B,iN c.M,iN c.C]))),(5,.c [] [] (yp c f i h)),(9,.m (al 6)),(10,.s 6)]) (λ_=>[(9,i6 0)]) [] (λn L=>L++[ob ((n 9).y 0) #[i6 (i/1048576),i6 (i/65536%16),i6 (i/64%1024),i6 (i%64)] 46]) λn=>rF [] 21 (rr (λ_=>[(2,.c [0,1,2,3] [0,1,2,3] (Ei g c d D o i gm e q)),(4,.s 7)]) (λb=>[(10,pt (B3 b) 0)]) [] (λb L=>(((L.set 0 (ob g #[iN c.R,iN c.S,iN c.B,iN c.M,iN c.C,iN c.E,.map (some gm),e,((b 2).val 0)] 162)).set 1 (eH ((ec D).cells) gm)).set 2 (dk e ((ec D).X))).set 3 (dk ((b 2).val 0) ((ec D).J))++[ob (B3 b) #[i6 (a4 D i),.bool (c7 D)] 88]) λb=>r0 [(1,.l 7)] [(29,.bool (!(c7 D)))] [] ?_);refine cB (!(c7 D)) (λj=>?_) λj=>?_
 ·exact rr (λ_=>[(3,.l 0),(5,.l 7),(6,.l 4),(7,.m (mu 1 gm (a4 D i) pP kE ((ec D).cells) r))]) N0 [] (λ_ L=>L.set 1 (eH (dQ ((ec D).cells) (a4 D i) r) gm)) λu=>rr (λ_=>[(0,.l 7),(1,.s 5)]) (λ_=>[(7,i6 0)]) [7] (λ_ L=>L.set 5 (ob (B1 a) #[i6 (a4 D i),.bool (c7 D)] 88)) λv=>lf (.l [] [] [((b 2).val 0)]) [0,1,2,3] [] [5] (hf:=by unfold nW;(repeat (first | rw[j] | rw[ALct]));kernel_rfl)
 exact rr (λ_=>[(0,.l 7),(1,.s 5)]) (λ_=>[(7,i6 0)]) [7] (λ_ L=>L.set 5 (ob (B1 a) #[i6 (a4 D i),.bool (c7 D)] 88)) λx=>lf (.l [] [] [((b 2).val 0)]) [0,1,2,3] [] [5] (hf:=by unfold nW;(repeat (first | rw[j] | rw[ALcf]));kernel_rfl)
theorem QQ(g:Nat)(c:Cf)(b:cY c)(D:Dr)(h:ia c D)(i:Int)(f:fP c.R c.S c.B c.M c.C i=true):aa VA 148 #[pt g 0,i6 i] [pk (fS g c D)] [0] (λ_=>[pk (fS g c (ec D))]) (λ_=> .tuple #[.agg (rB 72 (cd c D i)).toArray,.agg #[i6 (a4 D i),.bool (c7 D)],i6 0]):=aa.pkZ Tryz.func148 λL r=>by
 obtain⟨gm,e,u,rfl⟩:=r;refine⟨[0,1,2,3],λE=>[ob g #[iN c.R,iN c.S,iN c.B,iN c.M,iN c.C,iN c.E,.map (some gm),e,(E.val 0)] 162,eH ((ec D).cells) gm,dk e ((ec D).X),dk (E.val 0) ((ec D).J)],?_,rfl,λE=>⟨rfl,rfl,⟨_,_,_,rfl⟩⟩⟩;have k:=b.ly.Q;have n:=f;have p:=QM b h f;have t:=yu (rU h) (a4 D i);refine fG Tryz.func148 λw cs=>ra (λd=>[(4,pt (B0 d) 0),(5,pt (B1 d) 0),(6,i6 0)]) (λd=>[ob (B0 d) (rB 72 (VB 72 0)).toArray 217,ob (B1 d) #[i6 0,.bool false] 88]) λd=>rr (λ_=>[(3,.m (ls 0 ([iN c.R,iN c.S,iN c.B,iN c.M,iN c.C]))),(5,.c [] [] (yp c k i n)),(9,.m (al 6)),(10,.s 6)]) (λ_=>[(8,i6 0)]) [] (λq L=>L++[ob ((q 9).y 0) #[i6 (i/1048576),i6 (i/65536%16),i6 (i/64%1024),i6 (i%64)] 46]) λq=>rF [] 22 (rr (λ_=>[(2,.c [0,1,2,3] [0,1,2,3] (Ei g c b D h i gm e u)),(4,.s 7)]) (λa=>[(9,pt (B3 a) 0)]) [] (λa L=>(((L.set 0 (ob g #[iN c.R,iN c.S,iN c.B,iN c.M,iN c.C,iN c.E,.map (some gm),e,((a 2).val 0)] 162)).set 1 (eH ((ec D).cells) gm)).set 2 (dk e ((ec D).X))).set 3 (dk ((a 2).val 0) ((ec D).J))++[ob (B3 a) #[i6 (a4 D i),.bool (c7 D)] 88]) λa=>r0 [(1,.l 7)] [(30,.bool (c7 D))] [] ?_);refine cB (c7 D) (λo=>?_) λo=>?_
 ·exact rr (λ_=>[(1,.l 7),(2,.s 4),(3,.s 5)]) (λ_=>[(6,i6 0)]) [6] (λ_ L=>L.set 5 (ob (B1 d) #[i6 (a4 D i),.bool (c7 D)] 88)) λv=>ak (.tuple #[.agg (rB 72 (VB 72 0)).toArray,.agg #[i6 (a4 D i),.bool (c7 D)],i6 0]) (.l [] [] [((a 2).val 0)]) (by unfold cd;(repeat (first | rw[o] | rw[ALct]))) [0,1,2,3] [] [4,5]
 exact rr (λ_=>[(2,.l 7),(3,.c [0,1,2,3] [1,2,3] (QO g c b (ec D) (rU h) (a4 D i) p gm e ((a 2).val 0))),(8,.s 8)]) (λj=>[(10,pt (B7 j) 0),(11,i6 0)]) [] (λj L=>L.set 3 (dk ((a 2).val 0) ((ec D).J))++[ob (B7 j) (rB 72 (pQ c (ec D) (a4 D i))).toArray 217]) λj=>rr (λ_=>[(0,.l 8),(1,.l 7),(3,.s 4),(4,.s 5)]) (λ_=>[(6,i6 0)]) [6] (λ_ L=>(L.set 4 (ob (B0 d) (rB 72 (pQ c (ec D) (a4 D i))).toArray 217)).set 5 (ob (B1 d) #[i6 (a4 D i),.bool (c7 D)] 88)) λx=>ak (.tuple #[.agg (rB 72 (pQ c (ec D) (a4 D i))).toArray,.agg #[i6 (a4 D i),.bool (c7 D)],i6 0]) (.l [] [] [((a 2).val 0)]) (by unfold cd;(repeat (first | rw[o] | rw[ALcf]))) [0,1,2,3] [] [4,5]
theorem QR(g:Nat)(c:Cf)(k:cY c)(D:Dr)(u:ia c D)(f:Fa):aa VA 129 #[pt g 0,.agg #[i6 f.x0,i6 f.x1,i6 f.x2,i6 f.x3,i6 f.x4,i6 f.x5,i6 f.x6,i6 f.x7]] [pk (fS g c D)] [0] (λ_=>[pk (fS g c (kc c D f))]) (λ_=>i6 (gO c D f)):=aa.pkZ Tryz.func129 λL x=>by
 obtain⟨gm,n,o,rfl⟩:=x;refine⟨[0,1,2,3],λE=>[ob g #[iN c.R,iN c.S,iN c.B,iN c.M,iN c.C,iN c.E,.map (some gm),(E.val 0),(E.val 1)] 162,eH ((kc c D f).cells) gm,dk (E.val 0) ((kc c D f).X),dk (E.val 1) ((kc c D f).J)],?_,rfl,λE=>⟨rfl,rfl,⟨_,_,_,rfl⟩⟩⟩;have q:=k.ly.Q;have t:=u.cl (dM f.x1 f.x2 f.x3 f.x4);have v:=k.ly.Q;refine fG Tryz.func129 λw cs=>ra (λp=>[(3,pt (B0 p) 0),(4,i6 0)]) (λp=>[ob (B0 p) #[i6 f.x0,i6 f.x1,i6 f.x2,i6 f.x3,i6 f.x4,i6 f.x5,i6 f.x6,i6 f.x7] 48]) λp=>r0 [(0,.m (ls 4 ([i6 f.x0,i6 f.x1,i6 f.x2,i6 f.x3,i6 f.x4,i6 f.x5,i6 f.x6,i6 f.x7]))),(4,.m (ls 0 ([iN c.R,iN c.S,iN c.B,iN c.M,iN c.C]))),(8,.m (ld 0 (iN c.E))),(9,.c [] [] (Qf f c.R c.S c.B c.M c.C c.E v k.E)),] [(19,.bool (!(oT f c.R c.S c.B c.M c.C c.E)))] [] ?_;refine cB (!(oT f c.R c.S c.B c.M c.C c.E)) (λe=>?_) λe=>?_
 ·exact r0 [] [(4,i6 10)] [4] (ak (i6 10) (.l [] [] [n,o]) (by unfold gO kb;(repeat (first | rw[e] | rw[ALct]))) [0,1,2,3] [] [] (hf:=by unfold kc kb;(repeat (first | rw[e] | rw[ALct]));kernel_rfl))
 have i:mx c f:=⟨by simpa using e⟩;have r:=i.all.1;refine r0 [(1,.l 4)] [(31,.bool (f.x0==1))] [] ?_;refine cO f.x0 1 (λj s=>?_) λj s=>?_
 ·exact r0 [(3,.m (ls 0 ([iN c.R,iN c.S,iN c.B,iN c.M,iN c.C]))),(5,.m (ls 4 ([i6 f.x1,i6 f.x2,i6 f.x3,i6 f.x4]))),(6,.c [] [] (Ef c q f.x1 f.x2 f.x3 f.x4 r)),] [(5,i6 (dM f.x1 f.x2 f.x3 f.x4)),(6,i6 0)] [] (rs [(3,.m (ld 0 (.map (some gm)))),(8,.m (ld 0 (.map (some gm)))),(10,.m (mg 1 (eH D.cells gm) gm (dM f.x1 f.x2 f.x3 f.x4) (λ_ h=>h))),(12,.m (ld 4 (i6 f.x6))),(13,.c [] [] (Vq (D.cells (dM f.x1 f.x2 f.x3 f.x4)) (by(simp only[LL,t];done)) f.x6 i.all.2.1.1 i.all.2.1.2)),(14,.m (mu 1 gm (dM f.x1 f.x2 f.x3 f.x4) pP kE D.cells ((D.cells (dM f.x1 f.x2 f.x3 f.x4)).set (f.x6.toNat/8) (((D.cells (dM f.x1 f.x2 f.x3 f.x4)).getD (f.x6.toNat/8) 0)^^^(UInt8.ofNat (1*2^(f.x6.toNat%8)))))))] 1 (eH (dQ D.cells (dM f.x1 f.x2 f.x3 f.x4) ((D.cells (dM f.x1 f.x2 f.x3 f.x4)).set (f.x6.toNat/8) (((D.cells (dM f.x1 f.x2 f.x3 f.x4)).getD (f.x6.toNat/8) 0)^^^(UInt8.ofNat (1*2^(f.x6.toNat%8)))))) gm) (r0 [] [(4,i6 0)] [4] (ak (i6 0) (.l [] [] [n,o]) (by unfold gO kb;(repeat (first | rw[e] | rw[j] | rw[ALct] | rw[ALcf]))) [0,1,2,3] [] [] (hf:=by unfold kc kb;(repeat (first | rw[e] | rw[j] | rw[ALct] | rw[ALcf]));kernel_rfl))))
 refine r0 [(0,.l 4),(1,.c [] [] (D3 f))] [(60,.bool (ka f))] [] ?_;refine cB (ka f) (λd=>?_) λd=>?_
 ·exact rr (λa=>[(4,.m (ld 0 (n))),(5,.m (ls 4 ([i6 f.x0,i6 f.x1,i6 f.x2,i6 f.x3,i6 f.x4,i6 f.x5,i6 f.x6,i6 f.x7]))),(6,.c [2] [2] (Eg n D.X f)),(12,.m (fz 0 2 (dk ((a 6).val 0) (iY D.X f)) ((a 6).val 0) λbs h=>ar.one ((λ_ h=>h) bs h)))]) (λ_=>[(4,i6 (jP D.X))]) [4] (λa L=>(L.set 0 (ob g #[iN c.R,iN c.S,iN c.B,iN c.M,iN c.C,iN c.E,.map (some gm),((a 6).val 0),o] 162)).set 2 (dk ((a 6).val 0) (iY D.X f))) λa=>r0 [] [(4,i6 (jP D.X))] [4] (ak (i6 (jP D.X)) (.l [] [] [((a 6).val 0),o]) (by unfold gO kb;(repeat (first | rw[e] | rw[j] | rw[d] | rw[ALct] | rw[ALcf]))) [0,1,2,3] [] [] (hf:=by unfold kc kb;(repeat (first | rw[e] | rw[j] | rw[d] | rw[ALct] | rw[ALcf]));kernel_rfl))
 exact rr (λb=>[(4,.m (ld 0 (o))),(5,.m (ls 4 ([i6 f.x0,i6 f.x1,i6 f.x2,i6 f.x3,i6 f.x4,i6 f.x5,i6 f.x6,i6 f.x7]))),(6,.c [3] [3] (Eg o D.J f)),(12,.m (fz 0 3 (dk ((b 6).val 0) (iY D.J f)) ((b 6).val 0) λbs h=>ar.one ((λ_ h=>h) bs h)))]) (λ_=>[(4,i6 (jP D.J))]) [4] (λb L=>(L.set 0 (ob g #[iN c.R,iN c.S,iN c.B,iN c.M,iN c.C,iN c.E,.map (some gm),n,((b 6).val 0)] 162)).set 3 (dk ((b 6).val 0) (iY D.J f))) λb=>r0 [] [(4,i6 (jP D.J))] [4] (ak (i6 (jP D.J)) (.l [] [] [n,((b 6).val 0)]) (by unfold gO kb;(repeat (first | rw[e] | rw[j] | rw[d] | rw[ALcf]))) [0,1,2,3] [] [] (hf:=by unfold kc kb;(repeat (first | rw[e] | rw[j] | rw[d] | rw[ALcf]));kernel_rfl))
end
section
theorem En{α β:Type}{en:α→List Value}{z:List Value}{T:TypeId}{b:β→List Value}{e:List Value}{c:TypeId}{S:ah→Prop}{L:ah}{ds:List aw}(d:S (L++[.p (ar en z T (.slice none 0 0) ([]:List α)),.p (ar b e c (.slice none 0 0) ([]:List β))]))(h:bl L ds): ∃a,bl [pk S] a∧a.flatten=ds.flatten:=
 ⟨[ds.flatten],⟨⟨_,ds++[[],[]],d,jU h ⟨ar.nil none,ar.nil none,trivial⟩,by simp⟩,trivial⟩,by simp⟩
theorem QS(c:Cf)(a:cY c):aa VA 112 #[.agg #[iN c.R,iN c.S,iN c.B,iN c.M,iN c.C],iN c.E] [] [] (λE=>[pk (fS (E.y 0) c rS)]) (λE=> .tuple #[pt (E.y 0) 0,i6 0]):=(QK c a).outs λE d b=>En ⟨_,_,_,rfl⟩ b
structure Ac where
 wr:Bool
 ix:Int
 wt:Int
 dr:Bool
 ex:Int
 mr:Bool
def eV:Ac:=⟨false,0,0,false,0,false⟩
def yv(x:Ac):List Value:=[.bool x.wr,i6 x.ix,i6 x.wt,.bool x.dr,i6 x.ex,.bool x.mr]
def rX:Kd VA Ac:=⟨yv,[.bool false,i6 0,i6 0,.bool false,i6 0,.bool false],142,90,eV,6,λ_=>rfl,rfl,λ_=>rfl,dU.mk' Kr Kr rfl⟩
abbrev kF(v:Value)(xs:List Ac):aB:= .p (ar yv ([.bool false,i6 0,i6 0,.bool false,i6 0,.bool false]) 90 v xs)
def yw(x:Int):Value:= .int .i64 x
abbrev kG(f:Int→Int)(g:Nat):aB:= .p (kW yw 0 f g)
structure Dv where
 D:Dr
 Y:Int→List UInt8
 Z:Int→Int
 l:List Ac
abbrev bj(g a:Nat)(c:Cf)(V:Dv)(L:ah):Prop:=∃(gm gk:Nat) (v:Value),L=[ob g #[pt a 0,.map (some gm),.map (some gk),v] 144,pk (fS a c V.D),eH V.Y gm,kG V.Z gk,kF v V.l]
structure m8 (c:Cf) (V:Dv):Prop where
 D:ia c V.D
 gl: ∀k,(V.Y k).length=72
 ll:V.l.length≤900000
def rY:Dv:=⟨rS,λ_=>kE,λ_=>0,[]⟩
def ib(V:Dv)(i:Int)(r:List UInt8)(mk:Int):Dv:=⟨nW V.D i r,dQ V.Y i r,dQ V.Z i mk,V.l++[⟨true,i,a4 V.D i,c7 V.D,0,false⟩]⟩
def yx(c:Cf)(V:Dv)(i:Int):Ac:=⟨false,i,a4 V.D i,c7 V.D,((j6 (c.E:Int) (cd c V.D i) (V.Y (a4 V.D i)):Nat):Int),bif !(c7 V.D) then V.Z (a4 V.D i)==1 else false⟩
def pR(c:Cf)(V:Dv)(i:Int):Dv:=⟨ec V.D,V.Y,V.Z,V.l++[yx c V i]⟩
def m9(c:Cf)(V:Dv)(f:Fa):Dv:={V with D:=kc c V.D f}
attribute [local irreducible] j6 cd a4 c7 fP
theorem QT(g b c a:Nat)(v:Value)(f:Int→Int)(i:Int):aa VA 150 #[pt g 0,i6 i] [ob g #[pt b 0,.map (some c),.map (some a),v] 144,kG f a] [1] (λ_=>[kG f a]) (λ_=> .bool ((f i)==1)):=by
 exact fG Tryz.func150 λw cs=>r0 [] [(4,.bool false)] [] (r0 [(3,.l 0),(5,.m (mg 1 (kG f a) a i (λ_ h=>h)))] [(4,.bool ((f i)==1))] [4] (lf ab.zero [1] [(0,0)] []))
theorem yy(g a:Nat)(c:Cf)(V:Dv):aa VA 36 #[pt g 0] [pk (bj g a c V)] [0] (λ_=>[pk (bj g a c V)]) (λ_=>pt a 0):=aa.pkZ Tryz.func36 λL d=>by
 obtain⟨gm,b,v,rfl⟩:=d;refine⟨[1,2,3,4],λ_=>[pk (fS a c V.D),eH V.Y gm,kG V.Z b,kF v V.l],?_,rfl,λE=>⟨rfl,rfl,⟨_,_,_,rfl⟩⟩⟩;exact fG Tryz.func36 λw cs=>r0 [] [(2,.pointer none)] [] (r0 [(3,.l 0)] [(2,pt a 0)] [2] (lf ab.zero [1,2,3,4] [(0,0)] []))
theorem QU(g a:Nat)(c:Cf)(V:Dv):aa VA 42 #[pt g 0] [pk (bj g a c V)] [0] (λ_=>[pk (bj g a c V)]) (λ_=>iN V.l.length):=aa.pkZ Tryz.func42 λL d=>by
 obtain⟨gm,b,v,rfl⟩:=d;refine⟨[1,2,3,4],λ_=>[pk (fS a c V.D),eH V.Y gm,kG V.Z b,kF v V.l],?_,rfl,λE=>⟨rfl,rfl,⟨_,_,_,rfl⟩⟩⟩;exact fG Tryz.func42 λw cs=>r0 [] [(2,i6 0)] [] (r0 [(3,.l 0),(4,e8 rX v V.l 4)] [(2,iN V.l.length)] [2] (lf ab.zero [1,2,3,4] [(0,0)] []))
theorem QV(g a:Nat)(c:Cf)(d:cY c)(V:Dv)(i:m8 c V)(f:Fa):aa VA 90 #[pt g 0,.agg #[i6 f.x0,i6 f.x1,i6 f.x2,i6 f.x3,i6 f.x4,i6 f.x5,i6 f.x6,i6 f.x7]] [pk (bj g a c V)] [0] (λ_=>[pk (bj g a c (m9 c V f))]) (λ_=>i6 (gO c V.D f)):=aa.pkZ Tryz.func90 λL h=>by
 obtain⟨gm,e,v,rfl⟩:=h;refine⟨[1,2,3,4],λ_=>[pk (fS a c (kc c V.D f)),eH V.Y gm,kG V.Z e,kF v V.l],?_,rfl,λE=>⟨rfl,rfl,⟨_,_,_,rfl⟩⟩⟩;exact fG Tryz.func90 λw cs=>ra (λb=>[(3,pt (B0 b) 0),(4,i6 0)]) (λb=>[ob (B0 b) #[i6 f.x0,i6 f.x1,i6 f.x2,i6 f.x3,i6 f.x4,i6 f.x5,i6 f.x6,i6 f.x7] 48]) λb=>rr (λ_=>[(3,.l 0),(4,.l 5),(5,.c [1] [1] (QR a c d V.D i.D f))]) (λ_=>[(4,i6 (gO c V.D f))]) [4] (λ_ L=>L.set 1 ((pk (fS a c (kc c V.D f))))) λj=>lf ab.zero [1,2,3,4] [(0,0)] []
theorem Eo(g a:Nat)(c:Cf)(j:cY c)(V:Dv)(n:m8 c V)(i:Int)(k:fP c.R c.S c.B c.M c.C i=true)(r:List UInt8)(o:r.length=72)(mk:Int):aa VA 162 #[pt g 0,i6 i,.agg (rB 72 r).toArray,i6 mk] [pk (bj g a c V)] [0] (λ_=>[pk (bj g a c (ib V i r mk))]) (λ_=>i6 0):=aa.pkZ Tryz.func162 λL p=>by
 obtain⟨gm,d,v,rfl⟩:=p;refine⟨[0,1,2,3,4],λE=>[ob g #[pt a 0,.map (some gm),.map (some d),(E.val 0)] 144,pk (fS a c (nW V.D i r)),eH (dQ V.Y i r) gm,kG (dQ V.Z i mk) d,kF (E.val 0) (V.l++([(⟨true,i,(a4 V.D i),c7 V.D,0,false⟩:Ac)]))],?_,rfl,λE=>⟨rfl,rfl,⟨_,_,_,rfl⟩⟩⟩;have q:=n.ll;exact fG Tryz.func162 λw cs=>ra (λe=>[(6,pt (B0 e) 0),(8,i6 0)]) (λe=>[ob (B0 e) (rB 72 r).toArray 217]) λe=>rr (λ_=>[(0,.v (pt g 0)),(1,.v (pt g 0)),(2,.v (pt g 0)),(3,.m (ld 0 (pt a 0))),(4,.v (i6 i)),(5,.m (ls 5 (rB 72 r))),(6,.c [1] [1] (QP a c j V.D n.D i k r (by(simp only[LL,o,o];done)))),(7,.v (.tuple #[.agg #[i6 (a4 V.D i),.bool (c7 V.D)],i6 0])),(8,.v (.agg #[i6 (a4 V.D i),.bool (c7 V.D)])),(9,.v (i6 0)),(10,.m (al 6)),(11,.s 6),(12,.v (i6 0))]) (λf=>[(9,pt ((f 10).y 0) 0),(10,i6 0)]) [] (λf L=>L.set 1 ((pk (fS a c (nW V.D i r))))++[ob ((f 10).y 0) #[i6 (a4 V.D i),.bool (c7 V.D)] 88]) λf=>rF [] 22 (rs [(3,.l 0),(5,.l 5),(6,.m (mu 2 gm i pP kE V.Y r))] 2 (eH (dQ V.Y i r) gm) (rs [(3,.l 0),(6,.m (mu 3 d i yw 0 V.Z mk))] 3 (kG (dQ V.Z i mk) d) (rr (λb=>[(0,.v (pt g 0)),(1,.v (pt g 0)),(2,.v (pt g 0)),(3,.v (pt g 3)),(4,.m (ld 0 (v))),(5,.v (i6 i)),(6,.m (ls 6 ([i6 (a4 V.D i),.bool (c7 V.D)]))),(7,.v (.agg #[.bool true,i6 i,i6 (a4 V.D i),.bool (c7 V.D),i6 0,.bool false])),(8,.m (bs 7 1)),(9,fp rX (v) V.l 4 7 ([(⟨true,i,(a4 V.D i),c7 V.D,0,false⟩:Ac)])),(10,.v (pt g 0)),(11,.v (pt g 3)),(12,.m (fz 0 4 (kF ((b 9).val 0) (V.l++([(⟨true,i,(a4 V.D i),c7 V.D,0,false⟩:Ac)]))) ((b 9).val 0) λbs h=>ar.one ((λ_ h=>h) bs h)))]) N0 [] (λb L=>(L.set 0 (ob g #[pt a 0,.map (some gm),.map (some d),(b 9).val 0] 144)).set 4 (kF ((b 9).val 0) (V.l++([(⟨true,i,(a4 V.D i),c7 V.D,0,false⟩:Ac)])))++[ob ((b 8).y 0) #[.bool true,i6 i,i6 (a4 V.D i),.bool (c7 V.D),i6 0,.bool false] 90]) λb=>r0 [] [(8,i6 0)] [8] (lf (.l [] [] [(b 9).val 0]) [0,1,2,3,4] [] []))))
theorem QW(g a:Nat)(c:Cf)(d:cY c)(V:Dv)(h:m8 c V)(i:Int)(e:fP c.R c.S c.B c.M c.C i=true)(r:List UInt8)(f:r.length=72):aa VA 127 #[pt g 0,i6 i,.agg (rB 72 r).toArray] [pk (bj g a c V)] [0] (λ_=>[pk (bj g a c (ib V i r 0))]) (λ_=>i6 0):=by
 exact fG Tryz.func127 λw cs=>ra (λb=>[(5,pt (B0 b) 0),(6,i6 0)]) (λb=>[ob (B0 b) (rB 72 r).toArray 217]) λb=>rr (λ_=>[(2,.l 1),(3,.c [0] [0] (Eo g a c d V h i e r (by(simp only[LL,f,f];done)) 0))]) (λ_=>[(6,i6 0)]) [6] (λ_ L=>L.set 0 ((pk (bj g a c (ib V i r 0))))) λj=>lf ab.zero [0] [] []
theorem QX(g a:Nat)(c:Cf)(d:cY c)(V:Dv)(h:m8 c V)(i:Int)(e:fP c.R c.S c.B c.M c.C i=true)(r:List UInt8)(f:r.length=72):aa VA 126 #[pt g 0,i6 i,.agg (rB 72 r).toArray] [pk (bj g a c V)] [0] (λ_=>[pk (bj g a c (ib V i r 1))]) (λ_=>i6 0):=by
 exact fG Tryz.func126 λw cs=>ra (λb=>[(5,pt (B0 b) 0),(6,i6 0)]) (λb=>[ob (B0 b) (rB 72 r).toArray 217]) λb=>rr (λ_=>[(2,.l 1),(3,.c [0] [0] (Eo g a c d V h i e r (by(simp only[LL,f,f];done)) 1))]) (λ_=>[(6,i6 0)]) [6] (λ_ L=>L.set 0 ((pk (bj g a c (ib V i r 1))))) λj=>lf ab.zero [0] [] []
theorem QY(g a:Nat)(c:Cf)(p:cY c)(V:Dv)(q:m8 c V)(i:Int)(r:fP c.R c.S c.B c.M c.C i=true):aa VA 123 #[pt g 0,i6 i] [pk (bj g a c V)] [0] (λ_=>[pk (bj g a c (pR c V i))]) (λ_=> .tuple #[.agg (rB 72 (cd c V.D i)).toArray,i6 0]):=aa.pkZ Tryz.func123 λL u=>by
 obtain⟨gm,o,v,rfl⟩:=u;refine⟨[0,1,2,3,4],λE=>[ob g #[pt a 0,.map (some gm),.map (some o),(E.val 0)] 144,pk (fS a c (ec V.D)),eH V.Y gm,kG V.Z o,kF (E.val 0) ((pR c V i).l)],?_,rfl,λE=>⟨rfl,rfl,⟨_,_,_,rfl⟩⟩⟩;have x:=q.ll;have f:=nV q.D i;have e:=q.gl (a4 V.D i);have y:=p.E;refine fG Tryz.func123 λw cs=>ra (λn=>[(4,pt (B0 n) 0),(5,i6 0)]) (λn=>[ob (B0 n) (rB 72 (VB 72 0)).toArray 217]) λn=>rr (λ_=>[(0,.v (pt g 0)),(1,.v (pt g 0)),(2,.v (pt g 0)),(3,.m (ld 0 (pt a 0))),(4,.v (i6 i)),(5,.c [1] [1] (QQ a c p V.D q.D i r)),(6,.v (.tuple #[.agg (rB 72 (cd c V.D i)).toArray,.agg #[i6 (a4 V.D i),.bool (c7 V.D)],i6 0])),(7,.v (.agg (rB 72 (cd c V.D i)).toArray)),(8,.v (.agg #[i6 (a4 V.D i),.bool (c7 V.D)])),(9,.v (i6 0)),(10,.m (al 6)),(11,.m (al 7)),(12,.s 6),(13,.s 7),(14,.v (i6 0))]) (λb=>[(6,pt ((b 10).y 0) 0),(7,pt ((b 11).y 0) 0),(8,i6 0)]) [] (λb L=>L.set 1 ((pk (fS a c (ec V.D))))++[ob ((b 10).y 0) (rB 72 (cd c V.D i)).toArray 217,ob ((b 11).y 0) #[i6 (a4 V.D i),.bool (c7 V.D)] 88]) λb=>rF [] 20 ?_;cases t:(c7 V.D)
 case true=>
  exact rr (λj=>[(0,.v (pt g 0)),(1,.v (pt g 0)),(2,.v (pt g 0)),(3,.v (pt g 3)),(4,.m (ld 0 (v))),(5,.v (i6 i)),(6,.m (ls 7 ([i6 (a4 V.D i),.bool true]))),(7,.v (pt g 0)),(8,.v (pt g 0)),(9,.v (pt g 0)),(10,.m (ld 0 (pt a 0))),(11,.c [1] [1] (yr a c (ec V.D))),(12,.m (ls 6 (rB 72 (cd c V.D i)))),(13,.v (pt g 0)),(14,.v (pt g 0)),(15,.v (pt g 1)),(16,.m (ld 0 (.map (some gm)))),(17,.v (pt ((b 11).y 0) 0)),(18,.m (ld 7 (i6 (a4 V.D i)))),(19,.m (mg 2 (eH V.Y gm) gm (a4 V.D i) (λ_ h=>h))),(20,.c [] [] (Ed c.E Om (cd c V.D i) (V.Y (a4 V.D i)) (by(simp only[LL,f,e];done)) (by(simp only[LL,f,e];done)))),(21,.v (pt ((b 11).y 0) 1)),(22,.m (ld 7 (.bool true))),(23,.v (.bool false)),(24,.v (.bool false)),(25,.d),(26,.d),(27,.d),(28,.d),(30,.v (.agg #[.bool false,i6 i,i6 (a4 V.D i),.bool true,iN (j6 (c.E:Int) (cd c V.D i) (V.Y (a4 V.D i))),.bool false])),(31,.m (bs 8 1)),(32,fp rX (v) V.l 4 8 ([(⟨false,i,(a4 V.D i),true,((j6 (c.E:Int) (cd c V.D i) (V.Y (a4 V.D i)):Nat):Int),false⟩:Ac)])),(33,.v (pt g 0)),(34,.v (pt g 3)),(35,.m (fz 0 4 (kF ((j 32).val 0) (V.l++([(⟨false,i,(a4 V.D i),true,((j6 (c.E:Int) (cd c V.D i) (V.Y (a4 V.D i)):Nat):Int),false⟩:Ac)]))) ((j 32).val 0) λbs h=>ar.one ((λ_ h=>h) bs h)))]) N0 [] (λj L=>(L.set 0 (ob g #[pt a 0,.map (some gm),.map (some o),(j 32).val 0] 144)).set 4 (kF ((j 32).val 0) (V.l++([(⟨false,i,(a4 V.D i),true,((j6 (c.E:Int) (cd c V.D i) (V.Y (a4 V.D i)):Nat):Int),false⟩:Ac)])))++[ob ((j 31).y 0) #[.bool false,i6 i,i6 (a4 V.D i),.bool true,iN (j6 (c.E:Int) (cd c V.D i) (V.Y (a4 V.D i))),.bool false] 90]) λj=>rr (λ_=>[(0,.l 6),(1,.s 5)]) (λ_=>[(5,i6 0)]) [5] (λ_ L=>L.set 5 (ob (B0 n) (rB 72 (cd c V.D i)).toArray 217)) λz=>lf (.l [] [] [(j 32).val 0]) [0,1,2,3,4] [] [5] (hf:=by unfold pR yx;(repeat (rw[t]));kernel_rfl)
 exact rr (λk=>[(0,.v (pt g 0)),(1,.v (pt g 0)),(2,.v (pt g 0)),(3,.v (pt g 3)),(4,.m (ld 0 (v))),(5,.v (i6 i)),(6,.m (ls 7 ([i6 (a4 V.D i),.bool false]))),(7,.v (pt g 0)),(8,.v (pt g 0)),(9,.v (pt g 0)),(10,.m (ld 0 (pt a 0))),(11,.c [1] [1] (yr a c (ec V.D))),(12,.m (ls 6 (rB 72 (cd c V.D i)))),(13,.v (pt g 0)),(14,.v (pt g 0)),(15,.v (pt g 1)),(16,.m (ld 0 (.map (some gm)))),(17,.v (pt ((b 11).y 0) 0)),(18,.m (ld 7 (i6 (a4 V.D i)))),(19,.m (mg 2 (eH V.Y gm) gm (a4 V.D i) (λ_ h=>h))),(20,.c [] [] (Ed c.E Om (cd c V.D i) (V.Y (a4 V.D i)) (by(simp only[LL,f,e];done)) (by(simp only[LL,f,e];done)))),(21,.v (pt ((b 11).y 0) 1)),(22,.m (ld 7 (.bool false))),(23,.v (.bool true)),(24,.v (.bool true)),(25,.v (pt g 0)),(26,.v (pt ((b 11).y 0) 0)),(27,.m (ld 7 (i6 (a4 V.D i)))),(28,.c [0,3] [3] (QT g a gm o v V.Z (a4 V.D i))),(30,.v (.agg #[.bool false,i6 i,i6 (a4 V.D i),.bool false,iN (j6 (c.E:Int) (cd c V.D i) (V.Y (a4 V.D i))),.bool ((V.Z (a4 V.D i))==1)])),(31,.m (bs 8 1)),(32,fp rX (v) V.l 4 8 ([(⟨false,i,(a4 V.D i),false,((j6 (c.E:Int) (cd c V.D i) (V.Y (a4 V.D i)):Nat):Int),(V.Z (a4 V.D i))==1⟩:Ac)])),(33,.v (pt g 0)),(34,.v (pt g 3)),(35,.m (fz 0 4 (kF ((k 32).val 0) (V.l++([(⟨false,i,(a4 V.D i),false,((j6 (c.E:Int) (cd c V.D i) (V.Y (a4 V.D i)):Nat):Int),(V.Z (a4 V.D i))==1⟩:Ac)]))) ((k 32).val 0) λbs h=>ar.one ((λ_ h=>h) bs h)))]) N0 [] (λk L=>(L.set 0 (ob g #[pt a 0,.map (some gm),.map (some o),(k 32).val 0] 144)).set 4 (kF ((k 32).val 0) (V.l++([(⟨false,i,(a4 V.D i),false,((j6 (c.E:Int) (cd c V.D i) (V.Y (a4 V.D i)):Nat):Int),(V.Z (a4 V.D i))==1⟩:Ac)])))++[ob ((k 31).y 0) #[.bool false,i6 i,i6 (a4 V.D i),.bool false,iN (j6 (c.E:Int) (cd c V.D i) (V.Y (a4 V.D i))),.bool ((V.Z (a4 V.D i))==1)] 90]) λk=>rr (λ_=>[(0,.l 6),(1,.s 5)]) (λ_=>[(5,i6 0)]) [5] (λ_ L=>L.set 5 (ob (B0 n) (rB 72 (cd c V.D i)).toArray 217)) λA=>lf (.l [] [] [(k 32).val 0]) [0,1,2,3,4] [] [5] (hf:=by unfold pR yx;(repeat (rw[t]));kernel_rfl)
end
theorem QZ(c:Cf)(e:cY c):aa VA 81 #[.agg #[iN c.R,iN c.S,iN c.B,iN c.M,iN c.C],iN c.E] [] [] (λE=>[ob (E.y 0) #[pt ((E.y 1)) 0,.map (some (E.y 2)),.map (some (E.y 3)),.slice none 0 0] 144,pk (fS (E.y 1) c rS),eH (λ_=>kE) (E.y 2),kG (λ_=>0) (E.y 3)]) (λE=> .tuple #[pt ((E.y 0)) 0,i6 0]):=by
 exact fG Tryz.func81 λw cs=>ra (λd=>[(2,pt (B0 d) 0),(4,.pointer none),(5,i6 0)]) (λd=>[ob (B0 d) #[iN c.R,iN c.S,iN c.B,iN c.M,iN c.C] 23]) λd=>rr (λ_=>[(0,.l 0),(2,.c [] [1] (QS c e))]) (λb=>[(6,pt ((B2 b)) 0),(7,i6 0)]) [] (λb L=>L++[pk (fS (B2 b) c rS)]) λb=>rF [] 15 (rr (λ_=>[(1,.m (mm 2 pP kE)),(2,.m (mm 3 yw 0))]) (λa=>[(4,pt (B4 a) 0),(5,i6 0)]) [4,5] (λa L=>L++[eH (λ_=>kE) (B1 a),kG (λ_=>0) (B2 a),ob (B4 a) #[pt ((B2 b)) 0,.map (some (B1 a)),.map (some (B2 a)),.slice none 0 0] 144]) λa=>lf (.l [(a 4).y 0,(B2 b),(a 1).y 0,(a 2).y 0] [] []) [4,1,2,3] [] [])
theorem Q2(n:Nat):max (n:Int) 0=((n+0:Nat):Int):=by omega
theorem Q3(c d g h j i n:Nat)(v:Value)(l:List Ac)(bs:aw)(f:aH yv v l bs)(G:l.length≤1000000)(u:n≤1000000):eX 5 VA 60 #[pt c 0,pt d 0] (λ(x:Nat×Ac)=>#[i6 (x.1:Int),.agg #[.bool (x.2.wr),i6 (x.2.ix),i6 (x.2.wt),.bool (x.2.dr),i6 (x.2.ex),.bool (x.2.mr)]]) ((VS (l.length-n)).map λk=>(n+k,l.getD (n+k) eV)) (Wl [[(c,.cells #[iN n] 3 (0,0))],[(d,.cells #[pt g 0] 84 (0,0))],[(g,.cells #[pt h 0,.map (some j),.map (some i),v] 144 (0,0))],bs]):=by
 refine gi (KO:=[[(c,.cells #[iN n] 3 (0,0))],[(d,.cells #[pt g 0] 84 (0,0))],[(g,.cells #[pt h 0,.map (some j),.map (some i),v] 144 (0,0))],bs]) Tryz.func60 (λw z y F C m r q=>?_);refine r0 [(0,.l 0),(1,.t (tv (Builtin.max_ #[3,3] 3 #[iN n,i6 0]) (λ_=>qu _ _ _ _)))] [(4,i6 (max (n:Int) 0))] [] ?_;refine jD (λk=>k≤(l.length-n)) (λk=>[(4,iN (n+k))]) (λ_ L=>L) (λk=>(l.length-n)-k) (λk=>k) 0 Om q (by rw[Q2];kernel_rfl) Kr (λk A D s b=>?_);refine r0 [(1,.l 1),(4,.l 2),(5,eD f.1 3)] [(13,.bool (decide (((n+k:Nat):Int)<(l.length:Int))))] [] ?_;refine b0 ((n+k:Nat):Int) (l.length:Int) (λp e=>?_) λp e=>?_
 ·refine iy m r b 9 (λ_=>[(2,.l 1),(5,.l 2),(7,fa f.1 3 (n+k) 6),(8,mQ rX f.1 3 (n+k) 0 6)]) (λ_=>[(16,.func (.yield w) #[] #[]),(17,iN (n+k)),(24,.agg #[.bool ((l.getD (n+k) eV).wr),i6 ((l.getD (n+k) eV).ix),i6 ((l.getD (n+k) eV).wt),.bool ((l.getD (n+k) eV).dr),i6 ((l.getD (n+k) eV).ex),.bool ((l.getD (n+k) eV).mr)])]) [] (λ_ L=>L) N0 [0,1,2,3] (oa Om) (λH B o a=>?_);refine cF _ rfl (r0 [(1,ad (n+k) 1)] [(4,iN ((n+k)+1))] [4] ?_);exact ij (k+1) Om a Om Kr [0,1,2,3] Kr
 refine jE ?_;exact ku m b (by(rw[VJ,VT];omega)) [] [0,1,2,3]
theorem Q4(g n:Nat):aa VA 31 #[pt g 0,iN n] [] [] (λE=>[ob (E.y 0) #[iN n] 3,ob (E.y 1) #[pt g 0] 84]) (λE=> .func (.func 60) #[] #[pt ((E.y 0)) 0,pt ((E.y 1)) 0]):=by
 exact fG Tryz.func31 λw cs=>ra (λa=>[(2,pt (B0 a) 0),(3,pt (B1 a) 0),(4,.nilFunc)]) (λa=>[ob (B0 a) #[pt g 0] 84,ob (B1 a) #[iN n] 3]) λa=>r0 [] [(4,.func (.func 60) #[] #[pt (B1 a) 0,pt (B0 a) 0])] [4] (lf (.l [(a 1).y 0,(a 0).y 0] [] []) [1,0] [] [])
def oV(a:Ac):Bool:=a.dr||(a.wt != a.ix)
theorem Q5(x:Ac):aa VA 32 #[.agg #[.bool x.wr,i6 x.ix,i6 x.wt,.bool x.dr,i6 x.ex,.bool x.mr]] [] [] N0 (λ_=> .bool (oV x)):=by
 exact fG Tryz.func32 λw cs=>ra (λa=>[(1,pt (B0 a) 0),(2,.bool false)]) (λa=>[ob (B0 a) #[.bool x.wr,i6 x.ix,i6 x.wt,.bool x.dr,i6 x.ex,.bool x.mr] 90]) λa=>r0 [(0,.v (pt (B0 a) 2)),(1,.v (pt (B0 a) 3)),(2,.m (ld 0 (.bool x.dr))),(3,.v (.bool x.dr)),(4,.v (pt (B0 a) 2)),(5,.v (pt (B0 a) 2)),(6,.m (ld 0 (i6 x.wt))),(7,.v (pt (B0 a) 1)),(8,.m (ld 0 (i6 x.ix))),(9,.v (.bool (x.wt != x.ix))),(11,.v (.bool (x.dr||(x.wt != x.ix))))] [(2,.bool (x.dr||(x.wt != x.ix)))] [2] (ak (.bool (x.dr||(x.wt != x.ix))) ab.zero Vm [] [] [])
theorem Q6(c:Cf)(a:cY c):aa VA 81 #[.agg #[iN c.R,iN c.S,iN c.B,iN c.M,iN c.C],iN c.E] [] [] (λE=>[pk (bj (E.y 0) (E.y 1) c rY)]) (λE=> .tuple #[pt (E.y 0) 0,i6 0]):=(QZ c a).outs λE d b=>ya (S:=bj (E.y 0) (E.y 1) c rY) ⟨_,_,_,rfl⟩ b
theorem eX.mono{α:Type}{n:Nat}{P:Program}{j:Nat}{k:Array Value}{encs:α→Array Value}{xs:List α}{KO a:aw}(h:eX n P j k encs xs KO)(hs:KO.Sublist a):eX n P j k encs xs a:=by
 intro l J m W O c t g u v r;refine h l J m W O ⟨λx d=>c.obj x (hs.subset d),c.nd.sublist hs⟩ t g u (λi x p q d z B=>(v i x p q d z B).mono λe C y=>?_) r;obtain⟨o,f,s⟩:=y;exact⟨o,⟨f.size,f.old,f.new,λb w A=>f.keep b w (A.imp id λ⟨x,d,e⟩=>⟨x,hs.subset d,e⟩)⟩,s⟩
section
section
variable {P:Program} {f:FuncId} {args:Array Value} {rd:ah} {wt:ab→ah} {v:ab→Value}
theorem aa.sub(h:aa P f args rd [] wt v){L:ah}(js:List Nat)(d:(de js,js.map λj=>L[j]?)=(true,rd.map some)):aa P f args L [] wt v:=by
 have r:=nh (ALca (·.1) d);have d:=ALca (·.2) d;simp only at d;refine⟨h.ent,λw cs p o=>?_⟩;have n:=qg o.nd;have q: ∀(js:List Nat) (rd:ah),js.map (λj=>L[j]?)=rd.map some→bl rd (js.map λj=>cs.getD j []):=by
  intro js
  induction js with
  | nil=>intro rd e;cases rd with
   | nil=>trivial
   | cons x rd=>cases e
  | cons j js ih=>intro rd e;cases rd with
   | nil=>cases e
   | cons x rd=>
    rw[Wk,Wk,List.cons.injEq] at e;exact⟨mI p e.1,ih rd e.2⟩
 have k: ∀j∈js,j<cs.length:=by
  intro j c;have:L[j]?∈js.map λj=>L[j]? :=List.mem_map_of_mem c;rw[d] at this;obtain⟨x,_,e⟩:=List.mem_map.1 this;rw[←jd p];exact(List.getElem?_eq_some_iff.1 e.symm).1
 have:=h.out w (js.map λj=>cs.getD j []) (q js rd d) ⟨λy m=>?_,?_⟩
 ·simpa using this
 ·obtain⟨l,i,m⟩:=List.mem_flatten.1 m;obtain⟨j,c,rfl⟩:=List.mem_map.1 i;exact o.obj y (List.mem_flatten.2 ⟨_,ni (k j c),m⟩)
 ·refine List.pairwise_flatten.2 ⟨λl i=>?_,?_⟩
  ·obtain⟨j,_,rfl⟩:=List.mem_map.1 i;exact n.1 j
  ·exact List.Pairwise.map _ (λa b g=>n.2 a b g) r
end
abbrev dA(g:Nat)(L:ah):Prop:=∃(b a f:Nat) (u:Value),L=[ob g #[pt b 0,pt a 0] 242,ob b (rB 74 (bD 10)++rI 256 (bQ 10)).toArray 298,ob a #[pt f 0,u] 309,ob f (rB 255 aO++rN 256 aV).toArray 312,bt u Vn]
theorem Q7:aa VA 115 #[] [] [] (λE=>[pk (dA (E.y 0))]) (λE=>pt (E.y 0) 0):=Lv.outs λE b a=>rn (S:=dA (E.y 0)) ⟨_,_,_,_,rfl⟩ a
def gz(m:Nat)(l:List UInt8)(x:Int)(p:Bool):List UInt8:=if m=1 then fM 9 (k7 l x p) 8 else fM 36 (l9 l x p) 2
theorem rZ(m:Nat){l:List UInt8}(a:l.length=64)(x:Int)(p:Bool):(gz m l x p).length=72:=by
 unfold gz
 split
 ·exact pC (qV l x p) Dc
 ·exact pC (qW a x p) Dc
def nX(m:Nat)(xs:List UInt8)(x:Int):List UInt8:=if m=1 then qT xs x else qU xs x
def nY(m:Nat)(xs:List UInt8)(x:Int):List Int:=if m=1 then(VS 8).map (dK xs x) else(VS 2).map (cK xs x)
def kd(m:Nat)(xs:List UInt8)(x:Int):Nat:=(jK (nY m xs x)).toNat
def gP(m:Nat)(xs:List UInt8)(x:Int):Nat:=(iI (nY m xs x)).toNat
theorem Q8(xs:List UInt8)(x:Int)(k:Nat):dK xs x k≤3:=by
 unfold dK j5;generalize du _ _=z;cases z==0<;>cases z==1<;>cases z==2<;>cases z==3<;>decide
theorem Q9(m:Nat)(xs:List UInt8)(x:Int):kd m xs x≤3:=by
 have h:jK (nY m xs x)≤3:=Md Dc λy a=>by
  unfold nY at a
  split at a
  ·obtain⟨k,_,rfl⟩:=List.mem_map.1 a;exact Q8 xs x k
  ·obtain⟨k,_,rfl⟩:=List.mem_map.1 a;exact Mf xs x k
 unfold kd;omega
theorem Ra(m:Nat)(xs:List UInt8)(x:Int):((kd m xs x:Nat):Int)=jK (nY m xs x):=Wd (Mb _)
theorem Rb(m:Nat)(xs:List UInt8)(x:Int):((gP m xs x:Nat):Int)=iI (nY m xs x):=by
 refine Wd ?_;unfold iI;cases jK (nY m xs x) != 1
 ·exact(Cg _).1
 ·exact Int.le_refl _
theorem Rc(m:Nat)(e:m=1∨m=2)(g:Nat)(l:List UInt8)(c:l.length=64)(x:Int)(h0: -9223372036854775808≤x)(h1:x≤9223372036854775807)(p:Bool):aa VA 125 #[pt g 0,iN m,.agg (rB 64 l).toArray,i6 x,.bool p] [pk (dA g)] [] N0 (λ_=> .agg (rB 72 (gz m l x p)).toArray):=by
 refine aa.pkR (rest:=[]) (enters_of Tryz.func125 Kr rfl) λL d=>?_;obtain⟨b,a,f,u,rfl⟩:=d;unfold gz;rcases e with rfl | rfl
 ·exact(L8 g b a l c x p).sub [0,1] rfl
 ·exact(aa.at (rd':=[ob g #[pt b 0,pt a 0] 242,ob a #[pt f 0,u] 309,ob f (rB 255 aO++rN 256 aV).toArray 312,bt u Vn]) (L9 g b a f u l c x h0 h1 p) (aK (aK (aK (bM (λ_ h=>ar.sq h) λ_ h=>h))))).sub [0,2,3,4] rfl
theorem Rd(m:Nat)(e:m=1∨m=2)(g:Nat)(xs:List UInt8)(c:xs.length=72)(x:Int)(h0: -9223372036854775808≤x)(h1:x≤9223372036854775807):aa VA 124 #[pt g 0,iN m,.agg (rB 72 xs).toArray,i6 x] [pk (dA g)] [] N0 (λ_=> .tuple #[.agg (rB 64 (nX m xs x)).toArray,.agg #[i6 ((kd m xs x:Nat):Int),i6 ((gP m xs x:Nat):Int)]]):=by
 refine aa.pkR (rest:=[]) (enters_of Tryz.func124 Kr rfl) λL d=>?_;obtain⟨b,a,f,u,rfl⟩:=d;rw[Ra,Rb];unfold nX nY;rcases e with rfl | rfl
 ·exact(L5 g b a xs c x).sub [0,1] rfl
 ·exact(aa.at (rd':=[ob g #[pt b 0,pt a 0] 242,ob a #[pt f 0,u] 309,ob f (rB 255 aO++rN 256 aV).toArray 312,bt u Vn]) (L6 g b a f u xs c x h0 h1) (aK (aK (aK (bM (λ_ h=>ar.sq h) λ_ h=>h))))).sub [0,2,3,4] rfl
theorem Rf(j d b a l m o:Nat)(c:Cf)(s:Le)(K:Nat)(hs:cS s K)(t:K+3≤1000000000)(q:c.H≤65536)(n:Nt)(p:n.v≤3)(e:n.r<s.r.m.R)(u:n.h<s.r.m.R*s.r.m.B*s.r.m.M):aa VA 163 #[pt j 0,.agg #[i6 1,iN n.v,iN n.f,iN n.i,iN n.h,iN n.r]] [ob j (lA c d b a s.time) 122,pk (aq d l m s.r),pk (aC b o s.k),pk (aA a s.g)] [1,2,3] (λ_=>[pk (aq d l m (dq c.H s n).r),pk (aC b o (dq c.H s n).k),pk (aA a (dq c.H s n).g)]) (λ_=> .tuple #[]):=by
 obtain⟨k,v,f,i,h,r⟩:=n;simp only at p e u
 match v,p with
 | 0,_=>exact Qb j d b a l m o c s K hs i h r f
 | 1,_=>exact P9 j d b a l m o c s K hs t q i h r f e u
 | 2,_=>exact Qc j d b a l m o c s K hs t i h r f
 | 3,_=>exact Qa j d b a l m o c s K hs t q i h r f e u
theorem Rg(t m j i n o p:Nat)(c:Cf)(s:Le)(K:Nat)(hs:cS s K)(z:K+3≤1000000000)(y:c.H≤65536)(d e h a b:Nat)(u:d≤3)(x:b<s.r.m.R)(A:a<s.r.m.R*s.r.m.B*s.r.m.M):aa VA 128 #[pt t 0,.agg #[i6 1,iN d,iN e,iN h,iN a,iN b]] [ob t (lA c m j i s.time) 122,pk (aq m n o s.r),pk (aC j p s.k),pk (aA i s.g)] [1,2,3] (λ_=>[pk (aq m n o (dq c.H s (⟨1,d,e,h,a,b⟩:Nt)).r),pk (aC j p (dq c.H s (⟨1,d,e,h,a,b⟩:Nt)).k),pk (aA i (dq c.H s (⟨1,d,e,h,a,b⟩:Nt)).g)]) (λ_=> .tuple #[]):=by
 refine fG Tryz.func128 λw cs=>ra (λq=>[(3,pt (B0 q) 0)]) (λq=>[ob (B0 q) #[i6 1,iN d,iN e,iN h,iN a,iN b] 81]) λq=>r0 [(1,.l 4)] [(8,i6 1)] [] (rT [] 9 (rr (λ_=>[(1,.l 4),(2,.c [0,1,2,3] [1,2,3] (Rf t m j i n o p c s K hs z y (⟨1,d,e,h,a,b⟩:Nt) u x A))]) N0 [] (λ_ L=>((L.set 1 ((pk (aq m n o (dq c.H s (⟨1,d,e,h,a,b⟩:Nt)).r)))).set 2 ((pk (aC j p (dq c.H s (⟨1,d,e,h,a,b⟩:Nt)).k)))).set 3 ((pk (aA i (dq c.H s (⟨1,d,e,h,a,b⟩:Nt)).g)))) λB=>?_));exact eo ab.zero [1,2,3] [(0,0)] []
theorem Rh(e d a b i j g:Nat)(c:Cf)(s:Le)(K:Nat)(hs:cS s K)(k:s.time≤1000000000000000):aa VA 128 #[pt e 0,.agg #[i6 2,i6 0,i6 0,i6 0,i6 0,i6 0]] [ob e (lA c d a b s.time) 122,pk (aq d i j s.r),pk (aC a g s.k),pk (aA b s.g)] [0,1,2,3] (λ_=>[ob e (lA c d a b ((s.time+1:Nat))) 122,pk (aq d i j s.r),pk (aC a g (mo s.k)),pk (aA b s.g)]) (λ_=> .tuple #[]):=by
 refine fG Tryz.func128 λw cs=>ra (λh=>[(3,pt (B0 h) 0)]) (λh=>[ob (B0 h) #[i6 2,i6 0,i6 0,i6 0,i6 0,i6 0] 81]) λh=>r0 [(1,.l 4)] [(8,i6 2)] [] (rF [] 9 (rT [] 14 (rs [(3,.l 0),(4,ad s.time 1),(7,.s 0)] 0 (ob e (lA c d a b ((s.time+1:Nat))) 122) (rs [(3,.l 0),(4,.c [2] [2] (Pp a g s.k hs.k))] 2 ((pk (aC a g (mo s.k)))) ?_))));exact eo ab.zero [0,1,2,3] [] []
theorem Ri(q a n j d i p:Nat)(c:Cf)(s:Le)(K:Nat)(hs:cS s K)(C:K+257≤1000000000)(u:s.r.j.A≠0)(x:s.r.j.nx<gh s.r.j.A s.r.m.B s.r.m.M s.r.m.C):aa VA 128 #[pt q 0,.agg #[i6 3,i6 0,i6 0,i6 0,i6 0,i6 0]] [ob q (lA c a n j s.time) 122,pk (aq a d i s.r),pk (aC n p s.k),pk (aA j s.g)] [1,2,3] (λ_=>[pk (aq a d i (h8 s).r),pk (aC n p (h8 s).k),pk (aA j (h8 s).g)]) (λ_=> .tuple #[]):=by
 have B:=hs.n;have b:=DU hs.r u x;have A:=hs.r;refine fG Tryz.func128 λw cs=>ra (λt=>[(3,pt (B0 t) 0)]) (λt=>[ob (B0 t) #[i6 3,i6 0,i6 0,i6 0,i6 0,i6 0] 81]) λt=>r0 [(1,.l 4)] [(8,i6 3)] [] (rF [] 9 (rF [] 14 (rT [] 28 (r0 [(3,.l 0),(4,.c [1] [1] (uL a d i s.r A))] [(4,iN s.r.j.A)] [] (rr (λ_=>[(3,.l 0),(4,.c [1] [1,5] (Ov a d i s.r hs.r u x))]) (λo=>[(5,(o 4).val 0)]) [] (λo L=>L.set 1 ((pk (aq a d i (eA s.r).1)))++[ba ((o 4).val 0) ((eA s.r).2)]) λo=>rr (λ_=>[(3,.c [0,1,2,3,5] [1,2,3] (aa.at (rd':=[ob q (lA c a n j s.time) 122,pk (aq a d i (eA s.r).1),pk (aC n p s.k),pk (aA j s.g),ba ((o 4).val 0) ((eA s.r).2)]) (oR q a n j d i p c s.time ((eA s.r).1) b.1 s.k hs.k s.g hs.g s.r.j.A ((o 4).val 0) ((eA s.r).2) (by have y:=b.2.1;omega) (by have y:=b.2.1;omega) (λe z=>(b.2.2 e z).ly (uU s.r)) (hs.rk.trans (uU s.r).R.symm)) (aK (aK (aK (aK (bM (λ_ h=>ar.sq h) (λ_ h=>h))))))))]) N0 [] (λ_ L=>((L.set 1 ((pk (aq a d i ((eA s.r).1))))).set 2 ((pk (aC n p (e4 s.r.j.A s.k ((eA s.r).2)))))).set 3 ((pk (aA j (ew ((eA s.r).1).m s.r.j.A s.time s.g ((eA s.r).2)))))) λD=>?_)))));exact eo ab.zero [1,2,3] [(0,0)] [] (hf:=by kernel_rfl)
theorem Rj(g e d a h i j:Nat)(c:Cf)(s:Le)(K:Nat)(hs:cS s K):aa VA 128 #[pt g 0,.agg #[i6 4,i6 0,i6 0,i6 0,i6 0,i6 0]] [ob g (lA c e d a s.time) 122,pk (aq e h i s.r),pk (aC d j s.k),pk (aA a s.g)] [1,2,3] (λ_=>[pk (aq e h i s.r),pk (aC d j s.k),pk (aA a (mn s.g))]) (λ_=> .tuple #[]):=by
 refine fG Tryz.func128 λw cs=>ra (λb=>[(3,pt (B0 b) 0)]) (λb=>[ob (B0 b) #[i6 4,i6 0,i6 0,i6 0,i6 0,i6 0] 81]) λb=>r0 [(1,.l 4)] [(8,i6 4)] [] (rF [] 9 (rF [] 14 (rF [] 28 (rT [] 48 (rs [(3,.l 0),(4,.c [3] [3] (OI a s.g))] 3 ((pk (aA a (mn s.g)))) ?_)))));exact eo ab.zero [1,2,3] [(0,0)] []
end
section
structure oW (c:Cf) (m:Mp):Prop where
 R:m.R=c.R
 S:m.S=c.S
 B:m.B=c.B
 M:m.M=c.M
 C:m.C=c.C
 G:m.G=c.G
 res:m.res=c.res
theorem oW.tr{c:Cf}{m a:Mp}(h:oW c m)(e:eG m a):oW c a:=⟨e.R.trans h.R,e.S.trans h.S,e.B.trans h.B,e.M.trans h.M,e.C.trans h.C,e.G.trans h.G,e.res.trans h.res⟩
def gQ(r:Rp):Prop:=r.j.A≠0→r.j.nx<gh r.j.A r.m.B r.m.M r.m.C
theorem Ep{m:Mp}(h:bo m){k:Nat}(b:k=1∨k=2):0<gh k m.B m.M m.C:=by
 have a:=h.Q.bd;rcases b with rfl | rfl
 ·exact a.c1
 ·exact Nat.mul_pos (Nat.mul_pos a.b1 a.m1) a.c1
theorem Er{r:Rp}(d:bo r.m){a:Ak}(g:et r.m a)(h:gQ r):gQ (cM r a):=by
 have e:=Ep d (.inl rfl);have f:=Ep d (.inr rfl);unfold cM;rcases g.k with⟨b,_⟩ | ⟨b,_⟩
 ·rw[b];show gQ (bif dp r.m then _ else _);cases dp r.m
  ·exact h
  ·exact λ_=>e
 ·rw[b];show gQ (bif dR r.m then _ else _);cases dR r.m
  ·exact h
  ·exact λ_=>f
theorem Es{r:Rp}(d:aT r){a:Ak}(b:et r.m a)(h:gQ r):gQ (bc r a):=by
 unfold bc;cases cX r a
 ·cases r.j.A==0
  ·exact h
  ·exact Er d.m b h
 ·exact h
theorem Et{r:Rp}(a:Ak)(h:r.j.A≠0):(bc r a).j=r.j∧(bc r a).m=r.m:=by
 unfold bc;cases cX r a
 ·rw[show(r.j.A==0)=false from dP.2 h];exact⟨rfl,rfl⟩
 ·exact⟨rfl,rfl⟩
theorem Rk{s:Rp×List Ev}(a:aT s.1)(d:0<s.1.q.length)(h:gQ s.1):gQ (fq s).1:=by
 have b:=rK a d;unfold fq;cases cX (aX s.1) (s.1.q.headD aG)
 ·exact Er (r:=aX s.1) a.m ⟨b.k⟩ h
 ·exact h
theorem Eu: ∀(n:Nat) (s:Rp×List Ev),n=s.1.q.length→aT s.1→gQ s.1→gQ (eu n s).1
 | 0,s,_,_,h=>h
 | n+1,s,d,b,h=>by
  unfold eu
  split
  ·have a:0<s.1.q.length:=by omega
   exact Eu n (fq s) (by rw[xU,Wh];omega) (xT b a) (Rk b a h)
  ·exact h
theorem Rl{r:Rp}(f:aT r)(b:r.j.A≠0)(h:gQ r):gQ (eA r).1:=by
 have d:=h b;unfold eA;cases a:kA r.m (bk r).j
 ·intro _;unfold kA at a;have g: ¬(r.j.nx+1=gh r.j.A r.m.B r.m.M r.m.C):=by
   intro e;rw[Bool.and_eq_false_iff] at a;rcases a with a | a
   ·exact absurd (of_decide_eq_false a) (λq=>q b)
   ·exact of_decide_eq_false a e
  show r.j.nx+1<gh r.j.A r.m.B r.m.M r.m.C;omega
 ·exact Eu _ (ae (bk r)) (by unfold ae dj;rfl) (uF (rJ f b d) b) (λq=>absurd rfl q)
theorem Rm{s:Le}{K b a w:Nat}(x:Re)(h:cS s K)(f:b<s.r.m.R)(e:a<s.r.m.R*s.r.m.B*s.r.m.M)(d:gQ s.r):gQ (fR s b a w x).r:=by
 unfold fR;cases cN s.k.lp (da s.k.t a).l w
 ·exact d
 ·exact Es h.r ⟨.inl ⟨rfl,e⟩⟩ d
theorem Ew{s:Le}{K a b w:Nat}(x:Re)(h:cS s K)(d:a<s.r.m.R)(f:b<s.r.m.R*s.r.m.B*s.r.m.M)(i:K+3≤1000000000)(j:gQ s.r):gQ (eU s a b w x).r:=by
 have g:=DW (w:=w) x h d f i;have e:=Rm (w:=w) x h d f j;unfold eU;cases cN s.k.lr (s.k.F.getD a bg).l w
 ·exact e
 ·exact Es g.r ⟨.inr ⟨rfl,by rw[(u0 s a b w x).R];exact d⟩⟩ e
theorem Rn{heavy K:Nat}{s:Le}{n:Nt}(h:cS s K)(e:n.r<s.r.m.R)(d:n.h<s.r.m.R*s.r.m.B*s.r.m.M)(b:K+3≤1000000000)(a:gQ s.r):gQ (dq heavy s n).r:=by
 unfold dq
 split
 ·exact a
 split
 ·exact Ew _ h e d b a
 split
 ·exact a
 ·exact Ew _ h e d b a
theorem Ro(s:Le)(b a w:Nat)(x:Re)(h:s.r.j.A≠0):(fR s b a w x).r.j=s.r.j∧(fR s b a w x).r.m=s.r.m:=by
 unfold fR;cases cN s.k.lp (da s.k.t a).l w
 ·exact⟨rfl,rfl⟩
 ·exact Et (r:=s.r) _ h
theorem Ex(s:Le)(a b w:Nat)(x:Re)(h:s.r.j.A≠0):(eU s a b w x).r.j=s.r.j∧(eU s a b w x).r.m=s.r.m:=by
 have d:=Ro s a b w x h;unfold eU;cases cN s.k.lr (s.k.F.getD a bg).l w
 ·exact d
 ·have e:=Et (r:=(fR s a b w x).r) ⟨2,a⟩ (by rw[d.1];exact h);exact⟨e.1.trans d.1,e.2.trans d.2⟩
theorem Ey(heavy:Nat)(s:Le)(n:Nt)(h:s.r.j.A≠0):(dq heavy s n).r.j=s.r.j∧(dq heavy s n).r.m=s.r.m:=by
 unfold dq
 split
 ·exact⟨rfl,rfl⟩
 split
 ·exact Ex _ _ _ _ _ h
 split
 ·exact⟨rfl,rfl⟩
 ·exact Ex _ _ _ _ _ h
theorem Rq{R S B M C a p1 p2 p3:Nat}(b:cE R S B M C)(h:gZ R S B M C a p1 p2 p3):fP R S B M C ((bU a p1 p2 p3:Nat):Int)=true:=by
 rw[←uu];refine yt b (uk.2 ?_);have:=h.h0;have:=h.h1;have:=h.h2;have:=h.h3;omega
structure jy (R S B M C i:Nat):Prop where
 ex: ∃p0 p1 p2 p3,i=bU p0 p1 p2 p3∧gZ R S B M C p0 p1 p2 p3
theorem jy.has{R S B M C i:Nat}(h:jy R S B M C i)(a:cE R S B M C):fP R S B M C (i:Int)=true:=by
 obtain⟨d,e,f,g,rfl,b⟩:=h.ex;exact Rq a b
theorem jy.bd{R S B M C i:Nat}(h:jy R S B M C i)(a:cE R S B M C):i<8388608:=by
 obtain⟨d,e,f,g,rfl,b⟩:=h.ex;exact xD a.bd b
theorem Rr(m:Mp)(p i:Nat):bq m p*64+i=bU (lh m p) (fF m.G m.R m.B m.M p) (fD m.G m.R m.B m.M p) i:=by unfold bq bU;omega
theorem yz{m:Mp}(h:bo m){p i:Nat}(hp:p<m.R*m.B*m.M)(b:i<m.C):jy m.R m.S m.B m.M m.C (a8 m 1 p i):=by
 have a:=uy h hp;exact⟨_,_,_,_,Rr m p i,a.h0,a.h1,a.h2,b⟩
theorem yA{m:Mp}(h:bo m){r i:Nat}(b:r<m.R+m.S)(a:i<m.B*m.M*m.C):jy m.R m.S m.B m.M m.C (a8 m 2 r i):=⟨_,_,_,_,rfl,uD h b a⟩
theorem Rs{m:Mp}{j:Jb}(h:bo m)(b:rE m j){n:Nat}(d:n<(m.R*m.B*m.M-m.res)*m.C):jy m.R m.S m.B m.M m.C (aR m j n):=by
 have a:jy m.R m.S m.B m.M m.C (eR m n):=⟨_,_,_,_,CT m n,CU h d⟩;rcases b.k with e | ⟨e,b⟩ | ⟨e,b⟩
 ·rw[e];exact a
 ·unfold aR;rw[e];show jy _ _ _ _ _ (if az m n=j.fr then _ else _)
  split
  ·split
   ·exact yz h b.ht (Nat.mod_lt _ h.Q.bd.c1)
   ·exact a
  ·exact a
 ·unfold aR;rw[e];show jy _ _ _ _ _ (if aJ m.G m.R m.B m.M (az m n)=j.fr then _ else _)
  split
  ·split
   ·have:=b.t1;have:=h.rk;exact yA h Om (xM h d)
   ·exact a
  ·exact a
structure Ct where
 s:Le
 U:Nat
 ns:List Nt
 V:Dv
structure bF (c:Cf) (x:Ct) (K A:Nat):Prop where
 cf:cY c
 s:cS x.s K
 D:ia c x.V.D
 gl: ∀k,(x.V.Y k).length=72
 vl:x.V.l.length≤A
 nl:x.ns.length≤A
 ly:oW c x.s.r.m
 run:gQ x.s.r
 U:x.U<(c.R*c.B*c.M-c.res)*c.C
 time:x.s.time≤1099511627776
theorem bF.mono{c:Cf}{x:Ct}{K A b a:Nat}(h:bF c x K A)(d:K≤b)(hA:A≤a):bF c x b a:=⟨h.cf,h.s.mono d,h.D,h.gl,VG h.vl hA,VG h.nl hA,h.ly,h.run,h.U,h.time⟩
theorem bF.dv{c:Cf}{x:Ct}{K A:Nat}(h:bF c x K A)(hA:A≤900000):m8 c x.V:=⟨h.D,h.gl,VG h.vl hA⟩
theorem cY.Q{c:Cf}(h:cY c):cE c.R c.S c.B c.M c.C:=h.ly.Q
theorem jy.lay{c:Cf}{m:Mp}(e:oW c m){i:Nat}(h:jy m.R m.S m.B m.M m.C i):jy c.R c.S c.B c.M c.C i:=by rw[e.R,e.S,e.B,e.M,e.C] at h;exact h
def oX(c:Cf)(x:Ct)(i:Nat)(l:List UInt8)(p:Bool):Ct:={x with V:=ib x.V (i:Int) (gz c.E l (i:Int) p) (bif p then 1 else 0)}
def lG(c:Cf)(x:Ct)(i:Nat):List UInt8:=cd c x.V.D (i:Int)
def bL(c:Cf)(x:Ct)(i:Nat):Nat:=kd c.E (lG c x i) (i:Int)
def cZ(c:Cf)(x:Ct)(i:Nat):List UInt8:=nX c.E (lG c x i) (i:Int)
def na(c:Cf)(x:Ct)(i h r:Nat):Nt:=⟨1,bL c x i,gP c.E (lG c x i) (i:Int),i,h,r⟩
def b8(c:Cf)(x:Ct)(i h r:Nat):Ct:=⟨⟨(dq c.H x.s (na c x i h r)).r,(dq c.H x.s (na c x i h r)).k,(dq c.H x.s (na c x i h r)).g,x.s.time⟩,x.U,x.ns++[na c x i h r],pR c x.V (i:Int)⟩
def a9(x:Ct)(n:Nat):Nat:=aR x.s.r.m x.s.r.j n
def mA(x:Ct)(n:Nat):Nat:=az x.s.r.m n
def mB(x:Ct)(n:Nat):Nat:=aJ x.s.r.m.G x.s.r.m.R x.s.r.m.B x.s.r.m.M (az x.s.r.m n)
def lH(c:Cf)(x:Ct)(n:Nat):Ct:=b8 c x (a9 x n) (mA x n) (mB x n)
def kH(x y:Ct):Ct:=⟨⟨y.s.r,y.s.k,y.s.g,x.s.time⟩,x.U,y.ns,y.V⟩
def c0(c:Cf)(x:Ct)(n:Nat)(a:Bool):Ct:=kH x<| bif (((bL c x (a9 x n):Nat):Int)==1)&&a then oX c (lH c x n) (a9 x n) (cZ c x (a9 x n)) false else lH c x n
def cr(k:Nat):Int:=bif (k:Int)==3 then 40 else bif (k:Int)==2 then 41 else 0
section
variable {c:Cf} {x:Ct} {K A:Nat}
theorem oY(m:Nat){xs:List UInt8}(a:xs.length=72)(x:Int):(nX m xs x).length=64:=by
 unfold nX qT qU
 split
 ·cases decide (2≤jK ((VS 8).map (dK xs x)))
  ·exact l7 _ _ _
  ·exact VE
 ·cases decide (2≤jK ((VS 2).map (cK xs x)))
  ·exact xz (uh a x) (VQ 2)
  ·exact VE
theorem pS(h:bF c x K A){i:Nat}{l:List UInt8}(a:l.length=64)(p:Bool):bF c (oX c x i l p) K (A+1):=by
 refine⟨h.cf,h.s,Ej h.D _ (rZ _ a _ _),rV h.gl _ (rZ _ a _ _),?_,VU h.nl,h.ly,h.run,h.U,h.time⟩;show(x.V.l++[_]).length≤A+1;rw[VC];exact VL h.vl
theorem yB(h:bF c x K A){i b r:Nat}(f:r<x.s.r.m.R)(e:b<x.s.r.m.R*x.s.r.m.B*x.s.r.m.M)(d:K+3≤1000000000):bF c (b8 c x i b r) (K+3) (A+1):=by
 have a:=P3 (heavy:=c.H) (n:=na c x i b r) h.s f e d;refine⟨h.cf,⟨a.r,a.k,a.g,a.n,a.rk⟩,rU h.D,h.gl,?_,?_,h.ly.tr (P2 c.H x.s (na c x i b r)),Rn (heavy:=c.H) (n:=na c x i b r) h.s f e d h.run,h.U,h.time⟩
 ·show(x.V.l++[_]).length≤A+1;rw[VC];exact VL h.vl
 ·show(x.ns++[_]).length≤A+1;rw[VC];exact VL h.nl
theorem u4(h:bF c x K A){n:Nat}(d:n<(c.R*c.B*c.M-c.res)*c.C):a9 x n<8388608∧fP c.R c.S c.B c.M c.C ((a9 x n:Nat):Int)=true∧mA x n<x.s.r.m.R*x.s.r.m.B*x.s.r.m.M∧mB x n<x.s.r.m.R∧n<(x.s.r.m.R*x.s.r.m.B*x.s.r.m.M-x.s.r.m.res)*x.s.r.m.C:=by
 have a:n<(x.s.r.m.R*x.s.r.m.B*x.s.r.m.M-x.s.r.m.res)*x.s.r.m.C:=by rw[h.ly.R,h.ly.B,h.ly.M,h.ly.C,h.ly.res];exact d
 have b:=(Rs h.s.r.m h.s.r.j a).lay h.ly;exact⟨b.bd h.cf.Q,b.has h.cf.Q,uA h.s.r.m a,rz h.s.r.m.Q,a⟩
theorem u5(h:bF c x K A){n:Nat}(a:n<(c.R*c.B*c.M-c.res)*c.C)(b:K+3≤1000000000):bF c (lH c x n) (K+3) (A+1):=yB h (u4 h a).2.2.2.1 (u4 h a).2.2.1 b
theorem bF.fix{y:Ct}{b a:Nat}(h:bF c x K A)(g:bF c y b a):bF c (kH x y) b a:=⟨g.cf,⟨g.s.r,g.s.k,g.s.g,g.s.n,g.s.rk⟩,g.D,g.gl,g.vl,g.nl,g.ly,g.run,h.U,h.time⟩
theorem Ez(h:bF c x K A){n:Nat}(e:n<(c.R*c.B*c.M-c.res)*c.C)(a:Bool)(d:K+3≤1000000000):bF c (c0 c x n a) (K+3) (A+2):=by
 have b:=u5 h e d;unfold c0;refine h.fix ?_;cases (((bL c x (a9 x n):Nat):Int)==1)&&a
 ·exact b.mono (VQ _) (Nat.le_succ _)
 ·exact pS b (oY _ (nV h.D _) _) false
end
end
def Ru:Nt:=⟨0,0,0,0,0,0⟩
def EA(x:Nt):List Value:=[iN x.k,iN x.v,iN x.f,iN x.i,iN x.h,iN x.r]
def u7:Kd VA Nt:=⟨EA,[i6 0,i6 0,i6 0,i6 0,i6 0,i6 0],117,81,Ru,6,λ_=>rfl,rfl,λ_=>rfl,dU.mk' Kr Kr rfl⟩
abbrev bY(v:Value)(xs:List Nt):aB:= .p (ar EA ([i6 0,i6 0,i6 0,i6 0,i6 0,i6 0]) 81 v xs)
abbrev aQ(h e g j k d l b a i f:Nat)(c:Cf)(x:Ct)(L:ah):Prop:=∃v:Value,L=[ob h #[pt e 0,pt a 0,pt f 0,iN x.U,v] 119,ob e (lA c g d b x.s.time) 122,pk (aq g j k x.s.r),pk (aC d l x.s.k),pk (aA b x.s.g),pk (dA f),pk (bj a i c x.V),bY v x.ns]
theorem oZ(t q z y x a f g:Nat)(c:Cf)(b:cY c)(o time:Nat)(v:Value)(V:Dv)(h:m8 c V)(i:Nat)(A:i<8388608)(j:fP c.R c.S c.B c.M c.C ((i:Nat):Int)=true)(l:List UInt8)(e:l.length=64)(p:Bool):aa VA 88 #[pt t 0,iN i,.agg (rB 64 l).toArray,.bool p] [ob t #[pt q 0,pt a 0,pt g 0,iN o,v] 119,ob q (lA c z y x time) 122,pk (dA g),pk (bj a f c V)] [2,3] (λ_=>[pk (dA g),pk (bj a f c (ib V (i:Int) (gz c.E l (i:Int) p) (bif p then 1 else 0)))]) (λ_=> .tuple #[]):=by
 have u:=b.E;have d:=rZ c.E e (i:Int) p;refine fG Tryz.func88 λw cs=>ra (λk=>[(6,pt (B0 k) 0)]) (λk=>[ob (B0 k) (rB 64 l).toArray 43]) λk=>rr (λ_=>[(3,.m (ld 0 (pt g 0))),(7,.m (ld 0 (pt q 0))),(11,.m (ld 1 (iN c.E))),(12,.m (ls 4 (rB 64 l))),(15,.c [2] [] (Rc c.E u g l (by(simp only[LL,e,d,e];done)) (i:Int) Om Om p)),(16,.m (al 5)),(17,.s 5)]) (λn=>[(8,pt ((n 16).y 0) 0)]) [] (λn L=>L++[ob ((n 16).y 0) (rB 72 (gz c.E l (i:Int) p)).toArray 217]) λn=>r0 [] [(25,.bool p)] [] ?_;refine cB (p) (λr=>?_) λr=>?_
 ·refine rr (λ_=>[(3,.l 0),(5,.l 5),(6,.c [3] [3] (QX a f c b V h (i:Int) j (gz c.E l (i:Int) p) (by(simp only[LL,e,d,e];done))))]) N0 [] (λ_ L=>L.set 3 ((pk (bj a f c (ib V (i:Int) (gz c.E l (i:Int) p) 1))))) λB=>?_;exact eo ab.zero [2,3] [(0,0),(1,1)] [] (hf:=by(repeat (first | rw[r] | rw[ALct]));kernel_rfl)
 refine rs [(3,.l 0),(5,.l 5),(6,.c [3] [3] (QW a f c b V h (i:Int) j (gz c.E l (i:Int) p) (by(simp only[LL,e,d,e];done))))] 3 ((pk (bj a f c (ib V (i:Int) (gz c.E l (i:Int) p) 0)))) ?_;exact eo ab.zero [2,3] [(0,0),(1,1)] [] (hf:=by(repeat (first | rw[r] | rw[ALcf]));kernel_rfl)
theorem Rv(t p q u x o y n A B:Nat)(c:Cf)(s:Le)(K:Nat)(hs:cS s K)(j:Nat)(v:Value)(ns:List Nt)(I:ns.length≤800000)(G:K+3≤1000000000)(F:c.H≤65536)(d e f a b:Nat)(C:d≤3)(D:b<s.r.m.R)(H:a<s.r.m.R*s.r.m.B*s.r.m.M):aa VA 89 #[pt t 0,.agg #[i6 1,iN d,iN e,iN f,iN a,iN b]] [ob t #[pt p 0,pt A 0,pt B 0,iN j,v] 119,ob p (lA c q o n s.time) 122,pk (aq q u x s.r),pk (aC o y s.k),pk (aA n s.g),bY v ns] [0,2,3,4,5] (λE=>[ob t #[pt p 0,pt A 0,pt B 0,iN j,(E.val 0)] 119,pk (aq q u x (dq c.H s (⟨1,d,e,f,a,b⟩:Nt)).r),pk (aC o y (dq c.H s (⟨1,d,e,f,a,b⟩:Nt)).k),pk (aA n (dq c.H s (⟨1,d,e,f,a,b⟩:Nt)).g),bY (E.val 0) (ns++([(⟨1,d,e,f,a,b⟩:Nt)]))]) (λ_=> .tuple #[]):=by
 refine fG Tryz.func89 λw cs=>ra (λz=>[(3,pt (B0 z) 0)]) (λz=>[ob (B0 z) #[i6 1,iN d,iN e,iN f,iN a,iN b] 81]) λz=>rr (λi=>[(4,.l 0),(5,.l 6),(6,.m (bs 7 1)),(7,fp u7 (v) ns 5 7 ([(⟨1,d,e,f,a,b⟩:Nt)])),(10,.m (fz 0 5 (bY ((i 7).val 0) (ns++([(⟨1,d,e,f,a,b⟩:Nt)]))) ((i 7).val 0) λbs h=>ar.one ((λ_ h=>h) bs h)))]) N0 [] (λi L=>(L.set 0 (ob t #[pt p 0,pt A 0,pt B 0,iN j,(i 7).val 0] 119)).set 5 (bY ((i 7).val 0) (ns++([(⟨1,d,e,f,a,b⟩:Nt)])))++[ob (B6 i) #[i6 1,iN d,iN e,iN f,iN a,iN b] 81]) λi=>rr (λ_=>[(3,.l 0),(4,.l 6),(5,.c [1,2,3,4] [2,3,4] (Rg p q o n u x y c s _ hs G F d e f a b C D H))]) N0 [] (λ_ L=>((L.set 2 ((pk (aq q u x (dq c.H s (⟨1,d,e,f,a,b⟩:Nt)).r)))).set 3 ((pk (aC o y (dq c.H s (⟨1,d,e,f,a,b⟩:Nt)).k)))).set 4 ((pk (aA n (dq c.H s (⟨1,d,e,f,a,b⟩:Nt)).g)))) λJ=>?_;exact eo (.l [] [] [(i 7).val 0]) [0,2,3,4,5] [(1,1)] []
theorem Rw(i e g o q d j f n p:Nat)(c:Cf)(s:Le)(K:Nat)(hs:cS s K)(b:Nat)(v:Value)(ns:List Nt)(t:ns.length≤800000)(r:s.time≤1000000000000000):aa VA 89 #[pt i 0,.agg #[i6 2,i6 0,i6 0,i6 0,i6 0,i6 0]] [ob i #[pt e 0,pt n 0,pt p 0,iN b,v] 119,ob e (lA c g d f s.time) 122,pk (aq g o q s.r),pk (aC d j s.k),pk (aA f s.g),bY v ns] [0,1,2,3,4,5] (λE=>[ob i #[pt e 0,pt n 0,pt p 0,iN b,(E.val 0)] 119,ob e (lA c g d f ((s.time+1:Nat))) 122,pk (aq g o q s.r),pk (aC d j (mo s.k)),pk (aA f s.g),bY (E.val 0) (ns++([(⟨2,0,0,0,0,0⟩:Nt)]))]) (λ_=> .tuple #[]):=by
 refine fG Tryz.func89 λw cs=>ra (λk=>[(3,pt (B0 k) 0)]) (λk=>[ob (B0 k) #[i6 2,i6 0,i6 0,i6 0,i6 0,i6 0] 81]) λk=>rr (λa=>[(4,.l 0),(5,.l 6),(6,.m (bs 7 1)),(7,fp u7 (v) ns 5 7 ([(⟨2,0,0,0,0,0⟩:Nt)])),(10,.m (fz 0 5 (bY ((a 7).val 0) (ns++([(⟨2,0,0,0,0,0⟩:Nt)]))) ((a 7).val 0) λbs h=>ar.one ((λ_ h=>h) bs h)))]) N0 [] (λa L=>(L.set 0 (ob i #[pt e 0,pt n 0,pt p 0,iN b,(a 7).val 0] 119)).set 5 (bY ((a 7).val 0) (ns++([(⟨2,0,0,0,0,0⟩:Nt)])))++[ob (B6 a) #[i6 2,i6 0,i6 0,i6 0,i6 0,i6 0] 81]) λa=>rr (λ_=>[(3,.l 0),(4,.l 6),(5,.c [1,2,3,4] [1,2,3,4] (Rh e g d f o q j c s _ hs r))]) N0 [] (λ_ L=>(L.set 1 (ob e (lA c g d f ((s.time+1:Nat))) 122)).set 3 ((pk (aC d j (mo s.k))))) λu=>?_;exact eo (.l [] [] [(a 7).val 0]) [0,1,2,3,4,5] [] []
theorem EB(j f i n o e p d t u:Nat)(c:Cf)(s:Le)(K:Nat)(hs:cS s K)(b:Nat)(v:Value)(ns:List Nt)(A:ns.length≤800000)(x:K+257≤1000000000)(y:s.r.j.A≠0)(z:s.r.j.nx<gh s.r.j.A s.r.m.B s.r.m.M s.r.m.C):aa VA 89 #[pt j 0,.agg #[i6 3,i6 0,i6 0,i6 0,i6 0,i6 0]] [ob j #[pt f 0,pt t 0,pt u 0,iN b,v] 119,ob f (lA c i e d s.time) 122,pk (aq i n o s.r),pk (aC e p s.k),pk (aA d s.g),bY v ns] [0,2,3,4,5] (λE=>[ob j #[pt f 0,pt t 0,pt u 0,iN b,(E.val 0)] 119,pk (aq i n o (h8 s).r),pk (aC e p (h8 s).k),pk (aA d (h8 s).g),bY (E.val 0) (ns++([(⟨3,0,0,0,0,0⟩:Nt)]))]) (λ_=> .tuple #[]):=by
 refine fG Tryz.func89 λw cs=>ra (λq=>[(3,pt (B0 q) 0)]) (λq=>[ob (B0 q) #[i6 3,i6 0,i6 0,i6 0,i6 0,i6 0] 81]) λq=>rr (λa=>[(4,.l 0),(5,.l 6),(6,.m (bs 7 1)),(7,fp u7 (v) ns 5 7 ([(⟨3,0,0,0,0,0⟩:Nt)])),(10,.m (fz 0 5 (bY ((a 7).val 0) (ns++([(⟨3,0,0,0,0,0⟩:Nt)]))) ((a 7).val 0) λbs h=>ar.one ((λ_ h=>h) bs h)))]) N0 [] (λa L=>(L.set 0 (ob j #[pt f 0,pt t 0,pt u 0,iN b,(a 7).val 0] 119)).set 5 (bY ((a 7).val 0) (ns++([(⟨3,0,0,0,0,0⟩:Nt)])))++[ob (B6 a) #[i6 3,i6 0,i6 0,i6 0,i6 0,i6 0] 81]) λa=>rr (λ_=>[(3,.l 0),(4,.l 6),(5,.c [1,2,3,4] [2,3,4] (Ri f i e d n o p c s _ hs x y z))]) N0 [] (λ_ L=>((L.set 2 ((pk (aq i n o (h8 s).r)))).set 3 ((pk (aC e p (h8 s).k)))).set 4 ((pk (aA d (h8 s).g)))) λB=>?_;exact eo (.l [] [] [(a 7).val 0]) [0,2,3,4,5] [(1,1)] []
theorem Rx(f e i n p g q d k o:Nat)(c:Cf)(s:Le)(K:Nat)(hs:cS s K)(b:Nat)(v:Value)(ns:List Nt)(r:ns.length≤800000):aa VA 89 #[pt f 0,.agg #[i6 4,i6 0,i6 0,i6 0,i6 0,i6 0]] [ob f #[pt e 0,pt k 0,pt o 0,iN b,v] 119,ob e (lA c i g d s.time) 122,pk (aq i n p s.r),pk (aC g q s.k),pk (aA d s.g),bY v ns] [0,2,3,4,5] (λE=>[ob f #[pt e 0,pt k 0,pt o 0,iN b,(E.val 0)] 119,pk (aq i n p s.r),pk (aC g q s.k),pk (aA d (mn s.g)),bY (E.val 0) (ns++([(⟨4,0,0,0,0,0⟩:Nt)]))]) (λ_=> .tuple #[]):=by
 refine fG Tryz.func89 λw cs=>ra (λj=>[(3,pt (B0 j) 0)]) (λj=>[ob (B0 j) #[i6 4,i6 0,i6 0,i6 0,i6 0,i6 0] 81]) λj=>rr (λa=>[(4,.l 0),(5,.l 6),(6,.m (bs 7 1)),(7,fp u7 (v) ns 5 7 ([(⟨4,0,0,0,0,0⟩:Nt)])),(10,.m (fz 0 5 (bY ((a 7).val 0) (ns++([(⟨4,0,0,0,0,0⟩:Nt)]))) ((a 7).val 0) λbs h=>ar.one ((λ_ h=>h) bs h)))]) N0 [] (λa L=>(L.set 0 (ob f #[pt e 0,pt k 0,pt o 0,iN b,(a 7).val 0] 119)).set 5 (bY ((a 7).val 0) (ns++([(⟨4,0,0,0,0,0⟩:Nt)])))++[ob (B6 a) #[i6 4,i6 0,i6 0,i6 0,i6 0,i6 0] 81]) λa=>rs [(3,.l 0),(4,.l 6),(5,.c [1,2,3,4] [2,3,4] (Rj e i g d n p q c s _ hs))] 4 ((pk (aA d (mn s.g)))) ?_;exact eo (.l [] [] [(a 7).val 0]) [0,2,3,4,5] [(1,1)] []
theorem yC(q o x C D u F t f B n:Nat)(c:Cf)(s:Le)(a:Nat)(ns:List Nt)(V:Dv)(K A:Nat)(h:bF c ⟨s,a,ns,V⟩ K A)(v:Value)(hA:A≤700000)(Q:K+3≤1000000000)(i b d:Nat)(R:i<8388608)(M:fP c.R c.S c.B c.M c.C ((i:Nat):Int)=true)(J:b<s.r.m.R*s.r.m.B*s.r.m.M)(O:d<s.r.m.R):aa VA 87 #[pt q 0,.agg #[iN i,iN b,iN d]] [ob q #[pt o 0,pt f 0,pt n 0,iN a,v] 119,ob o (lA c x u t s.time) 122,pk (aq x C D s.r),pk (aC u F s.k),pk (aA t s.g),pk (dA n),pk (bj f B c V),bY v ns] [0,2,3,4,5,6,7] (λE=>[ob q #[pt o 0,pt f 0,pt n 0,iN a,(E.val 0)] 119,pk (aq x C D (b8 c (⟨s,a,ns,V⟩:Ct) i b d).s.r),pk (aC u F (b8 c (⟨s,a,ns,V⟩:Ct) i b d).s.k),pk (aA t (b8 c (⟨s,a,ns,V⟩:Ct) i b d).s.g),pk (dA n),pk (bj f B c (b8 c (⟨s,a,ns,V⟩:Ct) i b d).V),bY (E.val 0) ((b8 c (⟨s,a,ns,V⟩:Ct) i b d).ns)]) (λ_=> .tuple #[.agg (rB 64 (cZ c (⟨s,a,ns,V⟩:Ct) i)).toArray,.agg #[i6 ((bL c (⟨s,a,ns,V⟩:Ct) i:Nat):Int),i6 ((gP c.E (lG c (⟨s,a,ns,V⟩:Ct) i) (i:Int):Nat):Int)]]):=by
 have j:=h.cf;have T:=j.E;have P:=j.E;have I:=h.dv Om;have S:=h.nl;have z:=nV h.D (i:Int);have N:=oY c.E z (i:Int);have y:ns.length≤800000:=VG h.nl Om;exact fG Tryz.func87 λw cs=>ra (λe=>[(3,pt (B0 e) 0),(4,pt (B1 e) 0),(5,pt (B2 e) 0)]) (λe=>[ob (B0 e) #[iN i,iN b,iN d] 180,ob (B1 e) (rB 64 z6).toArray 43,ob (B2 e) #[i6 0,i6 0] 79]) λe=>rr (λ_=>[(3,.m (ld 0 (pt f 0))),(5,.m (ld 8 (iN i))),(6,.c [6] [6] (QY f B c j V I (i:Int) M)),(10,.m (al 11)),(11,.s 11)]) (λG=>[(6,pt ((G 10).y 0) 0)]) [] (λG L=>L.set 6 ((pk (bj f B c (pR c V (i:Int)))))++[ob ((G 10).y 0) (rB 72 (cd c V.D (i:Int))).toArray 217]) λG=>rr (λ_=>[(3,.m (ld 0 (pt n 0))),(7,.m (ld 0 (pt o 0))),(11,.m (ld 1 (iN c.E))),(12,.m (ls 11 (rB 72 (cd c V.D (i:Int))))),(14,.m (ld 8 (iN i))),(15,.c [5] [] (Rd c.E P n (cd c V.D (i:Int)) (by(simp only[LL,z,N];done)) (i:Int) Om Om)),(19,.m (al 12)),(20,.m (al 13)),(21,.s 12),(22,.s 13)]) (λp=>[(8,pt ((p 19).y 0) 0),(9,pt ((p 20).y 0) 0)]) [] (λp L=>L++[ob ((p 19).y 0) (rB 64 (nX c.E (cd c V.D (i:Int)) (i:Int))).toArray 43,ob ((p 20).y 0) #[i6 ((kd c.E (cd c V.D (i:Int)) (i:Int):Nat):Int),i6 ((gP c.E (cd c V.D (i:Int)) (i:Int):Nat):Int)] 79]) λp=>rr (λ_=>[(1,.l 13),(3,.l 8),(5,.l 8),(7,.l 8),(9,.c [0,1,2,3,4,7] [0,2,3,4,7] (Rv q o x C D u F t f n c s _ h.s a v ns y Q j.h2 (kd c.E (cd c V.D (i:Int)) (i:Int)) (gP c.E (cd c V.D (i:Int)) (i:Int)) i b d (Q9 _ _ _) O J))]) N0 [] (λH L=>((((L.set 0 (ob q #[pt o 0,pt f 0,pt n 0,iN a,((H 9).val 0)] 119)).set 2 ((pk (aq x C D (dq c.H s (⟨1,(kd c.E (cd c V.D (i:Int)) (i:Int)),(gP c.E (cd c V.D (i:Int)) (i:Int)),i,b,d⟩:Nt)).r)))).set 3 ((pk (aC u F (dq c.H s (⟨1,(kd c.E (cd c V.D (i:Int)) (i:Int)),(gP c.E (cd c V.D (i:Int)) (i:Int)),i,b,d⟩:Nt)).k)))).set 4 ((pk (aA t (dq c.H s (⟨1,(kd c.E (cd c V.D (i:Int)) (i:Int)),(gP c.E (cd c V.D (i:Int)) (i:Int)),i,b,d⟩:Nt)).g)))).set 7 (bY ((H 9).val 0) (ns++([(⟨1,(kd c.E (cd c V.D (i:Int)) (i:Int)),(gP c.E (cd c V.D (i:Int)) (i:Int)),i,b,d⟩:Nt)])))) λH=>rr (λ_=>[(0,.l 12),(1,.l 13),(2,.s 9),(3,.s 10)]) N0 [] (λ_ L=>(L.set 9 (ob (B1 e) (rB 64 (nX c.E (cd c V.D (i:Int)) (i:Int))).toArray 43)).set 10 (ob (B2 e) #[i6 ((kd c.E (cd c V.D (i:Int)) (i:Int):Nat):Int),i6 ((gP c.E (cd c V.D (i:Int)) (i:Int):Nat):Int)] 79)) λU=>ak (.tuple #[.agg (rB 64 (nX c.E (cd c V.D (i:Int)) (i:Int))).toArray,.agg #[i6 ((kd c.E (cd c V.D (i:Int)) (i:Int):Nat):Int),i6 ((gP c.E (cd c V.D (i:Int)) (i:Int):Nat):Int)]]) (.l [] [] [((H 9).val 0)]) Vm [0,2,3,4,5,6,7] [(1,1)] [9,10] (hf:=by kernel_rfl)
theorem yD(v f:Nat):aa VA 117 #[.agg #[iN v,iN f]] [] [] N0 (λ_=>i6 (cr v)):=by
 refine fG Tryz.func117 λw cs=>ra (λb=>[(1,pt (B0 b) 0),(2,i6 0)]) (λb=>[ob (B0 b) #[iN v,iN f] 79]) λb=>r0 [(1,.l 0)] [(4,iN v)] [] (r0 [] [(5,.bool ((v:Int)==3))] [] ?_);refine cO (v:Int) 3 (λa c=>?_) λa c=>?_
 ·exact r0 [] [(2,i6 40)] [2] (ak (i6 40) ab.zero (by unfold cr;(repeat (first | rw[a] | rw[ALct]))) [] [] [])
 refine r0 [] [(7,.bool ((v:Int)==2))] [] ?_;refine cO (v:Int) 2 (λe d=>?_) λe d=>?_
 ·exact r0 [] [(2,i6 41)] [2] (ak (i6 41) ab.zero (by unfold cr;(repeat (first | rw[a] | rw[e] | rw[ALct] | rw[ALcf]))) [] [] [])
 exact r0 [] [(2,i6 0)] [2] (ak (i6 0) ab.zero (by unfold cr;(repeat (first | rw[a] | rw[e] | rw[ALcf]))) [] [] [])
theorem EC(h e a f g k j i l:Nat)(c:Cf)(r:Rp)(p:aT r)(d time:Nat)(v:Value)(n:Nat)(o:n<(r.m.R*r.m.B*r.m.M-r.m.res)*r.m.C):aa VA 116 #[pt h 0,iN n] [ob h #[pt e 0,pt i 0,pt l 0,iN d,v] 119,ob e (lA c a k j time) 122,pk (aq a f g r)] [2] (λ_=>[pk (aq a f g r)]) (λ_=> .tuple #[.agg #[i6 ((aR r.m r.j n:Nat):Int),i6 ((az r.m n:Nat):Int),i6 ((aJ r.m.G r.m.R r.m.B r.m.M (az r.m n):Nat):Int)],i6 0]):=by
 exact fG Tryz.func116 λw cs=>ra (λb=>[(4,pt (B0 b) 0),(5,i6 0)]) (λb=>[ob (B0 b) #[i6 0,i6 0,i6 0] 180]) λb=>r0 [(3,.m (ld 0 (pt e 0))),(6,.m (ld 1 (pt a 0))),(8,.c [2] [2] (N2 a f g r p n o)),] [(6,i6 ((aR r.m r.j n:Nat):Int)),(7,i6 ((az r.m n:Nat):Int)),(8,i6 ((aJ r.m.G r.m.R r.m.B r.m.M (az r.m n):Nat):Int)),(9,i6 0)] [] (rF [] 25 (rr (λ_=>[(4,.s 3)]) (λ_=>[(5,i6 0)]) [5] (λ_ L=>L.set 3 (ob (B0 b) #[i6 ((aR r.m r.j n:Nat):Int),i6 ((az r.m n:Nat):Int),i6 ((aJ r.m.G r.m.R r.m.B r.m.M (az r.m n):Nat):Int)] 180)) λq=>ak (.tuple #[.agg #[i6 ((aR r.m r.j n:Nat):Int),i6 ((az r.m n:Nat):Int),i6 ((aJ r.m.G r.m.R r.m.B r.m.M (az r.m n):Nat):Int)],i6 0]) ab.zero Vm [2] [(0,0),(1,1)] [3]))
theorem ED(h e a f g k j i l:Nat)(c:Cf)(r:Rp)(p:aT r)(d time:Nat)(v:Value)(n:Int)(o:bR n (((r.m.R*r.m.B*r.m.M-r.m.res)*r.m.C:Nat):Int)=false):aa VA 116 #[pt h 0,i6 n] [ob h #[pt e 0,pt i 0,pt l 0,iN d,v] 119,ob e (lA c a k j time) 122,pk (aq a f g r)] [2] (λ_=>[pk (aq a f g r)]) (λ_=> .tuple #[.agg #[i6 0,i6 0,i6 0],i6 30]):=by
 exact fG Tryz.func116 λw cs=>ra (λb=>[(4,pt (B0 b) 0),(5,i6 0)]) (λb=>[ob (B0 b) #[i6 0,i6 0,i6 0] 180]) λb=>r0 [(3,.m (ld 0 (pt e 0))),(6,.m (ld 1 (pt a 0))),(8,.c [2] [2] (N3 a f g r p n o)),] [(6,i6 0),(7,i6 0),(8,i6 0),(9,i6 12)] [] (rT [] 25 (r0 [(1,.s 3)] [(5,i6 30)] [5] (lf ab.zero [2] [(0,0),(1,1)] [3])))
theorem EE(i m o t u k z j f q g:Nat)(c:Cf)(s:Le)(a:Nat)(ns:List Nt)(V:Dv)(K A:Nat)(h:bF c ⟨s,a,ns,V⟩ K A)(v:Value)(hA:A≤700000)(J:K+3≤1000000000)(n:Nat)(M:n<(c.R*c.B*c.M-c.res)*c.C)(b:Bool):aa VA 83 #[pt i 0,iN n,.bool b] [ob i #[pt m 0,pt f 0,pt g 0,iN a,v] 119,ob m (lA c o k j s.time) 122,pk (aq o t u s.r),pk (aC k z s.k),pk (aA j s.g),pk (dA g),pk (bj f q c V),bY v ns] [0,2,3,4,5,6,7] (λE=>[ob i #[pt m 0,pt f 0,pt g 0,iN a,(E.val 0)] 119,pk (aq o t u (c0 c (⟨s,a,ns,V⟩:Ct) n b).s.r),pk (aC k z (c0 c (⟨s,a,ns,V⟩:Ct) n b).s.k),pk (aA j (c0 c (⟨s,a,ns,V⟩:Ct) n b).s.g),pk (dA g),pk (bj f q c (c0 c (⟨s,a,ns,V⟩:Ct) n b).V),bY (E.val 0) ((c0 c (⟨s,a,ns,V⟩:Ct) n b).ns)]) (λ_=> .tuple #[.agg (rB 64 (cZ c (⟨s,a,ns,V⟩:Ct) (a9 (⟨s,a,ns,V⟩:Ct) n))).toArray,i6 (cr (bL c (⟨s,a,ns,V⟩:Ct) (a9 (⟨s,a,ns,V⟩:Ct) n)))]):=by
 have p:=h.cf;have S:=p.E;have R:=p.E;have N:=h.dv Om;have O:=h.nl;have d:=u4 h M;have P:=h.s.r;have Q:=u5 h M J;have D:=Q.dv Om;have y:=d.1;have x:=d.2.1;have F:=d.2.2.1;have I:=d.2.2.2.1;have H:=d.2.2.2.2;have G:(cZ c (⟨s,a,ns,V⟩:Ct) (aR s.r.m s.r.j n)).length=64:=oY c.E (nV h.D _) _;refine fG Tryz.func83 λw cs=>ra (λr=>[(6,pt (B0 r) 0),(7,i6 0)]) (λr=>[ob (B0 r) (rB 64 z6).toArray 43]) λr=>rr (λ_=>[(2,.c [0,1,2] [2] (EC i m o t u k j f g c s.r P a s.time v n H)),(7,.s 9)]) (λB=>[(8,pt (B6 B) 0),(9,i6 0)]) [] (λB L=>L++[ob (B6 B) #[i6 ((aR s.r.m s.r.j n:Nat):Int),i6 ((az s.r.m n:Nat):Int),i6 ((aJ s.r.m.G s.r.m.R s.r.m.B s.r.m.M (az s.r.m n):Nat):Int)] 180]) λB=>rF [] 19 (rr (λ_=>[(1,.l 9),(2,.c [0,1,2,3,4,5,6,7] [0,2,3,4,5,6,7] (yC i m o t u k z j f q g c s a ns V _ _ h v hA J (aR s.r.m s.r.j n) (az s.r.m n) (aJ s.r.m.G s.r.m.R s.r.m.B s.r.m.M (az s.r.m n)) y x F I)),(8,.s 10),(9,.s 11)]) (λe=>[(10,pt (B6 e) 0),(11,pt (B7 e) 0)]) [] (λe L=>(((((L.set 0 (ob i #[pt m 0,pt f 0,pt g 0,iN a,((e 2).val 0)] 119)).set 2 ((pk (aq o t u (b8 c (⟨s,a,ns,V⟩:Ct) (aR s.r.m s.r.j n) (az s.r.m n) (aJ s.r.m.G s.r.m.R s.r.m.B s.r.m.M (az s.r.m n))).s.r)))).set 3 ((pk (aC k z (b8 c (⟨s,a,ns,V⟩:Ct) (aR s.r.m s.r.j n) (az s.r.m n) (aJ s.r.m.G s.r.m.R s.r.m.B s.r.m.M (az s.r.m n))).s.k)))).set 4 ((pk (aA j (b8 c (⟨s,a,ns,V⟩:Ct) (aR s.r.m s.r.j n) (az s.r.m n) (aJ s.r.m.G s.r.m.R s.r.m.B s.r.m.M (az s.r.m n))).s.g)))).set 6 ((pk (bj f q c (b8 c (⟨s,a,ns,V⟩:Ct) (aR s.r.m s.r.j n) (az s.r.m n) (aJ s.r.m.G s.r.m.R s.r.m.B s.r.m.M (az s.r.m n))).V)))).set 7 (bY ((e 2).val 0) ((b8 c (⟨s,a,ns,V⟩:Ct) (aR s.r.m s.r.j n) (az s.r.m n) (aJ s.r.m.G s.r.m.R s.r.m.B s.r.m.M (az s.r.m n))).ns))++[ob (B6 e) (rB 64 (cZ c (⟨s,a,ns,V⟩:Ct) (aR s.r.m s.r.j n))).toArray 43,ob (B7 e) #[i6 ((bL c (⟨s,a,ns,V⟩:Ct) (aR s.r.m s.r.j n):Nat):Int),i6 ((gP c.E (lG c (⟨s,a,ns,V⟩:Ct) (aR s.r.m s.r.j n)) ((aR s.r.m s.r.j n):Int):Nat):Int)] 79]) λe=>r0 [(1,.l 11)] [(33,.bool ((((bL c (⟨s,a,ns,V⟩:Ct) (aR s.r.m s.r.j n):Nat):Int)==1)&&b))] [] ?_);refine cB ((((bL c (⟨s,a,ns,V⟩:Ct) (aR s.r.m s.r.j n):Nat):Int)==1)&&b) (λC=>?_) λC=>?_
 ·exact rr (λ_=>[(2,.l 9),(3,.l 10),(4,.c [0,1,5,6] [5,6] (oZ i m o k j f q g c p a s.time ((e 2).val 0) ((b8 c (⟨s,a,ns,V⟩:Ct) (aR s.r.m s.r.j n) (az s.r.m n) (aJ s.r.m.G s.r.m.R s.r.m.B s.r.m.M (az s.r.m n))).V) D (aR s.r.m s.r.j n) y x (cZ c (⟨s,a,ns,V⟩:Ct) (aR s.r.m s.r.j n)) (by(simp only[LL,G];done)) false))]) N0 [] (λ_ L=>L.set 6 ((pk (bj f q c (ib ((b8 c (⟨s,a,ns,V⟩:Ct) (aR s.r.m s.r.j n) (az s.r.m n) (aJ s.r.m.G s.r.m.R s.r.m.B s.r.m.M (az s.r.m n))).V) ((aR s.r.m s.r.j n):Int) (gz c.E (cZ c (⟨s,a,ns,V⟩:Ct) (aR s.r.m s.r.j n)) ((aR s.r.m s.r.j n):Int) false) (bif false then 1 else 0)))))) λT=>rr (λ_=>[(0,.l 10),(1,.l 11),(2,.c [] [] (yD (bL c (⟨s,a,ns,V⟩:Ct) (aR s.r.m s.r.j n)) (gP c.E (lG c (⟨s,a,ns,V⟩:Ct) (aR s.r.m s.r.j n)) ((aR s.r.m s.r.j n):Int)))),(3,.s 8)]) (λ_=>[(7,i6 (cr (bL c (⟨s,a,ns,V⟩:Ct) (aR s.r.m s.r.j n))))]) [7] (λ_ L=>L.set 8 (ob (B0 r) (rB 64 (cZ c (⟨s,a,ns,V⟩:Ct) (aR s.r.m s.r.j n))).toArray 43)) λU=>ak (.tuple #[.agg (rB 64 (cZ c (⟨s,a,ns,V⟩:Ct) (aR s.r.m s.r.j n))).toArray,i6 (cr (bL c (⟨s,a,ns,V⟩:Ct) (aR s.r.m s.r.j n)))]) (.l [] [] [((e 2).val 0)]) Vm [0,2,3,4,5,6,7] [(1,1)] [8] (hf:=by unfold c0 kH lH a9 mA mB;dsimp only;(repeat (first | rw[C] | rw[ALct] | rw[ALcf]));kernel_rfl)
 exact rr (λ_=>[(0,.l 10),(1,.l 11),(2,.c [] [] (yD (bL c (⟨s,a,ns,V⟩:Ct) (aR s.r.m s.r.j n)) (gP c.E (lG c (⟨s,a,ns,V⟩:Ct) (aR s.r.m s.r.j n)) ((aR s.r.m s.r.j n):Int)))),(3,.s 8)]) (λ_=>[(7,i6 (cr (bL c (⟨s,a,ns,V⟩:Ct) (aR s.r.m s.r.j n))))]) [7] (λ_ L=>L.set 8 (ob (B0 r) (rB 64 (cZ c (⟨s,a,ns,V⟩:Ct) (aR s.r.m s.r.j n))).toArray 43)) λW=>ak (.tuple #[.agg (rB 64 (cZ c (⟨s,a,ns,V⟩:Ct) (aR s.r.m s.r.j n))).toArray,i6 (cr (bL c (⟨s,a,ns,V⟩:Ct) (aR s.r.m s.r.j n)))]) (.l [] [] [((e 2).val 0)]) Vm [0,2,3,4,5,6,7] [(1,1)] [8] (hf:=by unfold c0 kH lH a9 mA mB;dsimp only;(repeat (first | rw[C] | rw[ALcf]));kernel_rfl)
def bG(c:Cf)(x:Ct)(n:Nat)(l:List UInt8)(m:Nat):Ct:=kH x<| bif (m:Int)==0 then x else bif decide (pc m=64) then oX c x (a9 x n) l false else bif !(cr (bL c x (a9 x n))==0) then oX c (lH c x n) (a9 x n) z6 true else oX c (lH c x n) (a9 x n) (ir (cZ c x (a9 x n)) l m) false
def cy(c:Cf)(x:Ct)(n m:Nat):Int:=bif (m:Int)==0 then 30 else bif decide (pc m=64) then 0 else bif !(cr (bL c x (a9 x n))==0) then cr (bL c x (a9 x n)) else 0
theorem yE(l o:List UInt8)(m:Nat):(ir l o m).length=l.length:=uR o _ l
theorem yF{c:Cf}{x:Ct}{K A:Nat}(h:bF c x K A){n:Nat}(e:n<(c.R*c.B*c.M-c.res)*c.C){l:List UInt8}(d:l.length=64)(m:Nat)(b:K+3≤1000000000):bF c (bG c x n l m) (K+3) (A+2):=by
 have a:=u5 h e b;unfold bG;refine h.fix ?_;cases (m:Int)==0
 ·cases decide (pc m=64)
  ·cases !(cr (bL c x (a9 x n))==0)
   ·exact pS a ((yE ..).trans (oY _ (nV h.D _) _)) false
   ·exact pS a VE true
  ·exact(pS h d false).mono Om Om
 ·exact h.mono Om Om
def ke(c:Cf)(x:Ct):Ct:={x with U:=(x.U+1)%((c.R*c.B*c.M-c.res)*c.C)}
def kJ(c:Cf)(x:Ct):Ct:=c0 c (ke c x) x.U true
theorem EF{c:Cf}{x:Ct}{K A:Nat}(h:bF c x K A):bF c (ke c x) K A:=⟨h.cf,h.s,h.D,h.gl,h.vl,h.nl,h.ly,h.run,Nat.mod_lt _ (by have:=h.U;omega),h.time⟩
theorem Ry{c:Cf}{x:Ct}{K A:Nat}(h:bF c x K A)(a:K+3≤1000000000):bF c (kJ c x) (K+3) (A+2):=Ez (EF h) h.U true a
theorem yG(l y:List UInt8)(m:Nat)(b:l.length=64)(d:y.length=64)(c:m<18446744073709551616):aa VA 94 #[.agg (rB 64 l).toArray,.agg (rB 64 y).toArray,u6 (m:Int)] [] [] N0 (λ_=> .agg (rB 64 (ir l y m)).toArray):=by
 have a:=PR l y m b d c;rwa [VY] at a
theorem Rz(b d o j k i p g a f e:Nat)(c:Cf)(x:Ct)(K A:Nat)(h:bF c x K A)(hA:A≤700000)(u:K+3≤1000000000)(n:Nat)(B:n<((c.R*c.B*c.M-c.res)*c.C)):aa VA 91 #[pt b 0,iN n] [pk (aQ b d o j k i p g a f e c x)] [0] (λ_=>[pk (aQ b d o j k i p g a f e c (c0 c x n c.W))]) (λ_=> .tuple #[.agg (rB 64 (cZ c x (a9 x n))).toArray,i6 (cr (bL c x (a9 x n)))]):=aa.pkZ Tryz.func91 λL y=>by
 obtain⟨v,rfl⟩:=y;refine⟨[0,2,3,4,5,6,7],λE=>[ob b #[pt d 0,pt a 0,pt e 0,iN x.U,(E.val 0)] 119,pk (aq o j k (c0 c x n c.W).s.r),pk (aC i p (c0 c x n c.W).s.k),pk (aA g (c0 c x n c.W).s.g),pk (dA e),pk (bj a f c (c0 c x n c.W).V),bY (E.val 0) ((c0 c x n c.W).ns)],?_,rfl,λE=>⟨rfl,rfl,⟨_,rfl⟩⟩⟩;have q:=h.cf;have F:=q.E;have D:=q.E;have z:=h.dv Om;have C:=h.nl;exact fG Tryz.func91 λw cs=>ra (λr=>[(4,pt (B0 r) 0),(5,i6 0)]) (λr=>[ob (B0 r) (rB 64 z6).toArray 43]) λr=>rr (λ_=>[(5,.m (ld 0 (pt d 0))),(9,.m (ld 1 (.bool c.W))),(10,.c [0,1,2,3,4,5,6,7] [0,2,3,4,5,6,7] (EE b d o j k i p g a f e c x.s x.U x.ns x.V _ _ h v hA u n B c.W)),(13,.s 8)]) (λ_=>[(5,i6 (cr (bL c x (a9 x n))))]) [5] (λt L=>((((((L.set 0 (ob b #[pt d 0,pt a 0,pt e 0,iN x.U,((t 10).val 0)] 119)).set 2 ((pk (aq o j k (c0 c x n c.W).s.r)))).set 3 ((pk (aC i p (c0 c x n c.W).s.k)))).set 4 ((pk (aA g (c0 c x n c.W).s.g)))).set 6 ((pk (bj a f c (c0 c x n c.W).V)))).set 7 (bY ((t 10).val 0) ((c0 c x n c.W).ns))).set 8 (ob (B0 r) (rB 64 (cZ c x (a9 x n))).toArray 43)) λt=>ak (.tuple #[.agg (rB 64 (cZ c x (a9 x n))).toArray,i6 (cr (bL c x (a9 x n)))]) (.l [] [] [((t 10).val 0)]) Vm [0,2,3,4,5,6,7] [(1,1)] [8] (hf:=by kernel_rfl)
theorem RA(l m i o p f t e d r g:Nat)(c:Cf)(s:Le)(a:Nat)(ns:List Nt)(V:Dv)(K A:Nat)(h:bF c ⟨s,a,ns,V⟩ K A)(v:Value)(n:Int)(u:bR n ((((c.R*c.B*c.M-c.res)*c.C):Nat):Int)=false)(b:Bool):aa VA 83 #[pt l 0,i6 n,.bool b] [ob l #[pt m 0,pt d 0,pt g 0,iN a,v] 119,ob m (lA c i f e s.time) 122,pk (aq i o p s.r),pk (aC f t s.k),pk (aA e s.g),pk (dA g),pk (bj d r c V),bY v ns] [2,3,4,5,6,7] (λ_=>[pk (aq i o p s.r),pk (aC f t s.k),pk (aA e s.g),pk (dA g),pk (bj d r c V),bY v ns]) (λ_=> .tuple #[.agg (rB 64 z6).toArray,i6 30]):=by
 have x:=h.s.r;have q:bR n (((s.r.m.R*s.r.m.B*s.r.m.M-s.r.m.res)*s.r.m.C:Nat):Int)=false:=by rw[h.ly.R,h.ly.B,h.ly.M,h.ly.C,h.ly.res];exact u
 exact fG Tryz.func83 λw cs=>ra (λj=>[(6,pt (B0 j) 0),(7,i6 0)]) (λj=>[ob (B0 j) (rB 64 z6).toArray 43]) λj=>rr (λ_=>[(2,.c [0,1,2] [2] (ED l m i o p f e d g c s.r x a s.time v n q)),(7,.s 9)]) (λk=>[(8,pt (B6 k) 0),(9,i6 30)]) [] (λk L=>L++[ob (B6 k) #[i6 0,i6 0,i6 0] 180]) λk=>rT [] 19 (r0 [(2,.s 8)] [(7,i6 30)] [7] (lf ab.zero [2,3,4,5,6,7] [(0,0),(1,1)] [8]))
theorem RB(b i o j l g p f d e k:Nat)(c:Cf)(x:Ct)(K A:Nat)(h:bF c x K A)(n:Int)(r:bR n ((((c.R*c.B*c.M-c.res)*c.C):Nat):Int)=false):aa VA 91 #[pt b 0,i6 n] [pk (aQ b i o j l g p f d e k c x)] [0] (λ_=>[pk (aQ b i o j l g p f d e k c x)]) (λ_=> .tuple #[.agg (rB 64 z6).toArray,i6 30]):=aa.pkZ Tryz.func91 λL q=>by
 obtain⟨v,rfl⟩:=q;refine⟨[2,3,4,5,6,7],λ_=>[pk (aq o j l x.s.r),pk (aC g p x.s.k),pk (aA f x.s.g),pk (dA k),pk (bj d e c x.V),bY v x.ns],?_,rfl,λE=>⟨rfl,rfl,⟨_,rfl⟩⟩⟩;exact fG Tryz.func91 λw cs=>ra (λa=>[(4,pt (B0 a) 0),(5,i6 0)]) (λa=>[ob (B0 a) (rB 64 z6).toArray 43]) λa=>rr (λ_=>[(5,.m (ld 0 (pt i 0))),(9,.m (ld 1 (.bool c.W))),(10,.c [0,1,2,3,4,5,6,7] [2,3,4,5,6,7] (RA b i o j l g p f d e k c x.s x.U x.ns x.V _ _ h v n r c.W)),(13,.s 8)]) (λ_=>[(5,i6 30)]) [5] (λ_ L=>L.set 8 (ob (B0 a) (rB 64 z6).toArray 43)) λt=>lf ab.zero [2,3,4,5,6,7] [(0,0),(1,1)] [8]
theorem EG(j q r D F o I k b g i:Nat)(c:Cf)(x:Ct)(K A:Nat)(h:bF c x K A)(hA:A≤700000)(W:K+3≤1000000000)(n:Nat)(X:n<((c.R*c.B*c.M-c.res)*c.C))(u:Value)(l:List UInt8)(hl:l.length=64)(m:Nat)(H:m<18446744073709551616)(v:Value):aa VA 93 #[pt j 0,iN n,u,u6 (m:Int)] [ob j #[pt q 0,pt b 0,pt i 0,iN x.U,v] 119,ob q (lA c r o k x.s.time) 122,pk (aq r D F x.s.r),pk (aC o I x.s.k),pk (aA k x.s.g),pk (dA i),pk (bj b g c x.V),bY v x.ns,.p (aH eB u l)] [0,2,3,4,5,6,7] (λE=>[ob j #[pt q 0,pt b 0,pt i 0,iN x.U,(E.val 0)] 119,pk (aq r D F (bG c x n l m).s.r),pk (aC o I (bG c x n l m).s.k),pk (aA k (bG c x n l m).s.g),pk (dA i),pk (bj b g c (bG c x n l m).V),bY (E.val 0) ((bG c x n l m).ns)]) (λ_=>i6 (cy c x n m)):=by
 have e:=h.cf;have hm:=e.E;have HM:=e.E;have P:=h.dv Om;have Z:=h.nl;have f:=u4 h X;have hr:=h.s.r;have ht:=u5 h X W;have G:=ht.dv Om;have z:=f.1;have y:=f.2.1;have Q:=f.2.2.1;have U:=f.2.2.2.1;have S:=f.2.2.2.2;have R:(cZ c x (aR x.s.r.m x.s.r.j n)).length=64:=oY c.E (nV h.D _) _;have Y:=(yE (cZ c x (aR x.s.r.m x.s.r.j n)) l m).trans R;have hz6:z6.length=64:=VE;refine fO Tryz.func93 8 rfl λN T=>fG Tryz.func93 λw cs=>r0 [] [(8,i6 0)] [] (rr (λ_=>[(2,.c [0,1,2] [2] (EC j q r D F o k b i c x.s.r hr x.U x.s.time v n S)),(7,.s 9)]) (λJ=>[(9,pt (B6 J) 0),(10,i6 0)]) [] (λJ L=>L++[ob (B6 J) #[i6 ((aR x.s.r.m x.s.r.j n:Nat):Int),i6 ((az x.s.r.m n:Nat):Int),i6 ((aJ x.s.r.m.G x.s.r.m.R x.s.r.m.B x.s.r.m.M (az x.s.r.m n):Nat):Int)] 180]) λJ=>rr (λ_=>[(1,.c [8] [] (aa.at (rd':=[.c N]) (DK u l (by with_reducible assumption)) (ei T (λ_ h=>h)))),(6,.s 10)]) (λM=>[(11,pt (B5 M) 0),(12,i6 0)]) [] (λM L=>L++[ob (B5 M) (rB 64 l).toArray 43]) λM=>r0 [] [(27,.bool ((m:Int)==0))] [] ?_);refine cO (m:Int) 0 (λt O=>?_) λt O=>?_
 ·exact r0 [] [(8,i6 30)] [8] (ak (i6 30) (.l [] [] [v]) (by unfold cy a9;(repeat (first | rw[t] | rw[ALct]))) [0,2,3,4,5,6,7] [(1,1),(8,8)] [] (hf:=by unfold bG kH lH a9 mA mB;dsimp only;(repeat (first | rw[t] | rw[ALct]));kernel_rfl))
 refine r0 [(1,.c [] [] (PL m H))] [(38,.bool (decide (pc m=64)))] [] ?_;refine cB (decide (pc m=64)) (λB=>?_) λB=>?_
 ·exact rr (λ_=>[(2,.l 9),(3,.l 10),(4,.c [0,1,5,6] [5,6] (oZ j q r o k b g i c e x.U x.s.time v x.V (by with_reducible exact P) (aR x.s.r.m x.s.r.j n) z y l (by with_reducible assumption) false))]) N0 [] (λ_ L=>L.set 6 ((pk (bj b g c (ib x.V ((aR x.s.r.m x.s.r.j n):Int) (gz c.E l ((aR x.s.r.m x.s.r.j n):Int) false) (bif false then 1 else 0)))))) λq9=>r0 [] [(8,i6 0)] [8] (ak (i6 0) (.l [] [] [v]) (by unfold cy a9;(repeat (first | rw[t] | rw[B] | rw[ALct] | rw[ALcf]))) [0,2,3,4,5,6,7] [(1,1),(8,8)] [] (hf:=by unfold bG kH lH a9 mA mB;dsimp only;(repeat (first | rw[t] | rw[B] | rw[ALct] | rw[ALcf]));kernel_rfl))
 refine rr (λ_=>[(1,.l 9),(2,.c [0,1,2,3,4,5,6,7] [0,2,3,4,5,6,7] (yC j q r D F o I k b g i c x.s x.U x.ns x.V _ _ h v hA W (aR x.s.r.m x.s.r.j n) (az x.s.r.m n) (aJ x.s.r.m.G x.s.r.m.R x.s.r.m.B x.s.r.m.M (az x.s.r.m n)) z y Q U)),(8,.s 11),(9,.s 12)]) (λa=>[(13,pt (B6 a) 0),(14,pt (B7 a) 0)]) [] (λa L=>(((((L.set 0 (ob j #[pt q 0,pt b 0,pt i 0,iN x.U,((a 2).val 0)] 119)).set 2 ((pk (aq r D F (b8 c x (aR x.s.r.m x.s.r.j n) (az x.s.r.m n) (aJ x.s.r.m.G x.s.r.m.R x.s.r.m.B x.s.r.m.M (az x.s.r.m n))).s.r)))).set 3 ((pk (aC o I (b8 c x (aR x.s.r.m x.s.r.j n) (az x.s.r.m n) (aJ x.s.r.m.G x.s.r.m.R x.s.r.m.B x.s.r.m.M (az x.s.r.m n))).s.k)))).set 4 ((pk (aA k (b8 c x (aR x.s.r.m x.s.r.j n) (az x.s.r.m n) (aJ x.s.r.m.G x.s.r.m.R x.s.r.m.B x.s.r.m.M (az x.s.r.m n))).s.g)))).set 6 ((pk (bj b g c (b8 c x (aR x.s.r.m x.s.r.j n) (az x.s.r.m n) (aJ x.s.r.m.G x.s.r.m.R x.s.r.m.B x.s.r.m.M (az x.s.r.m n))).V)))).set 7 (bY ((a 2).val 0) ((b8 c x (aR x.s.r.m x.s.r.j n) (az x.s.r.m n) (aJ x.s.r.m.G x.s.r.m.R x.s.r.m.B x.s.r.m.M (az x.s.r.m n))).ns))++[ob (B6 a) (rB 64 (cZ c x (aR x.s.r.m x.s.r.j n))).toArray 43,ob (B7 a) #[i6 ((bL c x (aR x.s.r.m x.s.r.j n):Nat):Int),i6 ((gP c.E (lG c x (aR x.s.r.m x.s.r.j n)) ((aR x.s.r.m x.s.r.j n):Int):Nat):Int)] 79]) λa=>r0 [(0,.l 12),(1,.c [] [] (yD (bL c x (aR x.s.r.m x.s.r.j n)) (gP c.E (lG c x (aR x.s.r.m x.s.r.j n)) ((aR x.s.r.m x.s.r.j n):Int))))] [(15,i6 (cr (bL c x (aR x.s.r.m x.s.r.j n))))] [] (r0 [] [(55,.bool ((cr (bL c x (aR x.s.r.m x.s.r.j n))) != 0))] [] ?_);refine lU (cr (bL c x (aR x.s.r.m x.s.r.j n))) 0 (λd C=>?_) λd C=>?_
 ·exact rr (λ_=>[(2,.l 9),(4,.c [0,1,5,6] [5,6] (oZ j q r o k b g i c e x.U x.s.time ((a 2).val 0) ((b8 c x (aR x.s.r.m x.s.r.j n) (az x.s.r.m n) (aJ x.s.r.m.G x.s.r.m.R x.s.r.m.B x.s.r.m.M (az x.s.r.m n))).V) (by exact G) (aR x.s.r.m x.s.r.j n) z y z6 (by with_reducible assumption) true))]) N0 [] (λ_ L=>L.set 6 ((pk (bj b g c (ib ((b8 c x (aR x.s.r.m x.s.r.j n) (az x.s.r.m n) (aJ x.s.r.m.G x.s.r.m.R x.s.r.m.B x.s.r.m.M (az x.s.r.m n))).V) ((aR x.s.r.m x.s.r.j n):Int) (gz c.E z6 ((aR x.s.r.m x.s.r.j n):Int) true) (bif true then 1 else 0)))))) λq15=>r0 [] [(8,i6 (cr (bL c x (aR x.s.r.m x.s.r.j n))))] [8] (ak (i6 (cr (bL c x (aR x.s.r.m x.s.r.j n)))) (.l [] [] [((a 2).val 0)]) (by unfold cy a9;(repeat (first | rw[t] | rw[B] | rw[d] | rw[ALct] | rw[ALcf]))) [0,2,3,4,5,6,7] [(1,1),(8,8)] [] (hf:=by unfold bG kH lH a9 mA mB;dsimp only;(repeat (first | rw[t] | rw[B] | rw[d] | rw[ALct] | rw[ALcf]));kernel_rfl))
 exact rs [(2,.l 9),(3,.l 11),(4,.l 10),(6,.c [] [] (yG (cZ c x (aR x.s.r.m x.s.r.j n)) l m (by with_reducible assumption) (by with_reducible assumption) H)),(7,.c [0,1,5,6] [5,6] (oZ j q r o k b g i c e x.U x.s.time ((a 2).val 0) ((b8 c x (aR x.s.r.m x.s.r.j n) (az x.s.r.m n) (aJ x.s.r.m.G x.s.r.m.R x.s.r.m.B x.s.r.m.M (az x.s.r.m n))).V) (by exact G) (aR x.s.r.m x.s.r.j n) z y (ir (cZ c x (aR x.s.r.m x.s.r.j n)) l m) (by with_reducible assumption) false))] 6 ((pk (bj b g c (ib ((b8 c x (aR x.s.r.m x.s.r.j n) (az x.s.r.m n) (aJ x.s.r.m.G x.s.r.m.R x.s.r.m.B x.s.r.m.M (az x.s.r.m n))).V) ((aR x.s.r.m x.s.r.j n):Int) (gz c.E (ir (cZ c x (aR x.s.r.m x.s.r.j n)) l m) ((aR x.s.r.m x.s.r.j n):Int) false) (bif false then 1 else 0))))) (r0 [] [(8,i6 0)] [8] (ak (i6 0) (.l [] [] [((a 2).val 0)]) (by unfold cy a9;(repeat (first | rw[t] | rw[B] | rw[d] | rw[ALcf]))) [0,2,3,4,5,6,7] [(1,1),(8,8)] [] (hf:=by unfold bG kH lH a9 mA mB;dsimp only;(repeat (first | rw[t] | rw[B] | rw[d] | rw[ALcf]));kernel_rfl)))
theorem EH(a i o j k g q f b e d:Nat)(c:Cf)(x:Ct)(K A:Nat)(h:bF c x K A)(hA:A≤700000)(t:K+3≤1000000000)(n:Nat)(z:n<((c.R*c.B*c.M-c.res)*c.C))(u:Value)(l:List UInt8)(y:l.length=64)(m:Nat)(r:m<18446744073709551616):aa VA 93 #[pt a 0,iN n,u,u6 (m:Int)] [pk (aQ a i o j k g q f b e d c x),.p (aH eB u l)] [0] (λ_=>[pk (aQ a i o j k g q f b e d c (bG c x n l m))]) (λ_=>i6 (cy c x n m)):=aa.pkZ Tryz.func93 λL w=>by
 obtain⟨v,rfl⟩:=w;exact⟨[0,2,3,4,5,6,7],λE=>[ob a #[pt i 0,pt b 0,pt d 0,iN x.U,(E.val 0)] 119,pk (aq o j k (bG c x n l m).s.r),pk (aC g q (bG c x n l m).s.k),pk (aA f (bG c x n l m).s.g),pk (dA d),pk (bj b e c (bG c x n l m).V),bY (E.val 0) ((bG c x n l m).ns)],EG a i o j k g q f b e d c x K A h hA t n z u l y m r v,rfl,λE=>⟨rfl,rfl,⟨_,rfl⟩⟩⟩
section
section
variable {R S B M C way r b w:Nat}
theorem RC(g:cE R S B M C)(c:r<R)(a:b<B)(d:w<M):mc way R B M r b w<R*B*M:=by
 have e:R*B*M=M*B*R:=by rw[V7 (R*B),V7 R,←V4]
 have f:R*B*M=R*M*B:=by rw[V4,V7 B,V4]
 match way with
 | 0=>exact ry d a c
 | 1=>rw[f];exact ry a d c
 | 2=>rw[e];exact ry c a d
 | k+3=>rw[e];exact ry c (pD g.pow a) d
end
def cU(r:Rp):Nat:=if r.j.A=1 then r.j.fr else mc r.m.G r.m.R r.m.B r.m.M r.j.fr (r.j.nx/r.m.C/r.m.M) (r.j.nx/r.m.C%r.m.M)
def dw(r:Rp):Nat:=if r.j.A=1 then aJ r.m.G r.m.R r.m.B r.m.M r.j.fr else r.j.fr
theorem EI{r:Rp}(h:aT r)(d:r.j.A≠0)(c:r.j.nx<gh r.j.A r.m.B r.m.M r.m.C):cU r<r.m.R*r.m.B*r.m.M∧dw r<r.m.R∧jy r.m.R r.m.S r.m.B r.m.M r.m.C (a8 r.m r.j.A r.j.fr r.j.nx)∧jy r.m.R r.m.S r.m.B r.m.M r.m.C (a8 r.m r.j.A r.j.tg r.j.nx):=by
 unfold cU dw;rcases h.j.k with e | ⟨e,a⟩ | ⟨e,a⟩
 ·rw[e] at d;exact absurd rfl d
 ·rw[e] at c⊢;exact⟨a.hf,rz h.m.Q,yz h.m a.hf c,yz h.m a.ht c⟩
 ·rw[e] at c⊢;have f:=uD h.m (r:=r.j.fr) (i:=r.j.nx) (by have:=a.hf;omega) c;have:=a.t1;have:=h.m.rk;exact⟨RC h.m.Q a.hf f.h1 f.h2,a.hf,yA h.m (by have:=a.hf;omega) c,yA h.m Om c⟩
theorem RD(e i j m o g q f a k d:Nat)(c:Cf)(x:Ct)(K A:Nat)(h:bF c x K A)(hA:A≤700000)(F:K+3≤1000000000)(n:Nat)(I:n<((c.R*c.B*c.M-c.res)*c.C))(u:Value)(l:List UInt8)(O:l.length=64):aa VA 92 #[pt e 0,iN n,u] [pk (aQ e i j m o g q f a k d c x),.p (aH eB u l)] [0] (λ_=>[pk (aQ e i j m o g q f a k d c (bG c x n l 18446744073709551615))]) (λ_=>i6 (cy c x n 18446744073709551615)):=aa.pkZ Tryz.func92 λL G=>by
 obtain⟨v,rfl⟩:=G;refine⟨[0,2,3,4,5,6,7],λE=>[ob e #[pt i 0,pt a 0,pt d 0,iN x.U,(E.val 0)] 119,pk (aq j m o (bG c x n l 18446744073709551615).s.r),pk (aC g q (bG c x n l 18446744073709551615).s.k),pk (aA f (bG c x n l 18446744073709551615).s.g),pk (dA d),pk (bj a k c (bG c x n l 18446744073709551615).V),bY (E.val 0) ((bG c x n l 18446744073709551615).ns)],?_,rfl,λE=>⟨rfl,rfl,⟨_,rfl⟩⟩⟩;have t:=h.cf;have P:=t.E;have N:=t.E;have H:=h.dv Om;have J:=h.nl;exact fO Tryz.func92 8 rfl λz D=>fG Tryz.func92 λw cs=>r0 [] [(6,i6 0)] [] (rr (λ_=>[(3,.c [0,1,2,3,4,5,6,7,8] [0,2,3,4,5,6,7] (aa.at (rd':=[ob e #[pt i 0,pt a 0,pt d 0,iN x.U,v] 119,ob i (lA c j g f x.s.time) 122,pk (aq j m o x.s.r),pk (aC g q x.s.k),pk (aA f x.s.g),pk (dA d),pk (bj a k c x.V),bY v x.ns,.c z]) (EG e i j m o g q f a k d c x _ _ h hA F n I u l (by with_reducible assumption) 18446744073709551615 Om v) (aK (aK (aK (aK (aK (aK (aK (aK (ei D (λ_ h=>h))))))))))))]) (λ_=>[(6,i6 (cy c x n 18446744073709551615))]) [6] (λy L=>(((((L.set 0 (ob e #[pt i 0,pt a 0,pt d 0,iN x.U,((y 3).val 0)] 119)).set 2 ((pk (aq j m o (bG c x n l 18446744073709551615).s.r)))).set 3 ((pk (aC g q (bG c x n l 18446744073709551615).s.k)))).set 4 ((pk (aA f (bG c x n l 18446744073709551615).s.g)))).set 6 ((pk (bj a k c (bG c x n l 18446744073709551615).V)))).set 7 (bY ((y 3).val 0) ((bG c x n l 18446744073709551615).ns))) λy=>lf (.l [] [] [((y 3).val 0)]) [0,2,3,4,5,6,7] [(1,1),(8,8)] [])
theorem EJ(q t i y z f H e a G g:Nat)(c:Cf)(x:Ct)(K A:Nat)(h:bF c x K A)(n:Int)(I:bR n ((((c.R*c.B*c.M-c.res)*c.C):Nat):Int)=false)(u:Value)(l:List UInt8)(N:l.length=64)(m:Nat)(v:Value):aa VA 93 #[pt q 0,i6 n,u,u6 (m:Int)] [ob q #[pt t 0,pt a 0,pt g 0,iN x.U,v] 119,ob t (lA c i f e x.s.time) 122,pk (aq i y z x.s.r),pk (aC f H x.s.k),pk (aA e x.s.g),pk (dA g),pk (bj a G c x.V),bY v x.ns,.p (aH eB u l)] [2,3,4,5,6,7] (λ_=>[pk (aq i y z x.s.r),pk (aC f H x.s.k),pk (aA e x.s.g),pk (dA g),pk (bj a G c x.V),bY v x.ns]) (λ_=>i6 30):=by
 have J:=h.s.r;have D:bR n (((x.s.r.m.R*x.s.r.m.B*x.s.r.m.M-x.s.r.m.res)*x.s.r.m.C:Nat):Int)=false:=by rw[h.ly.R,h.ly.B,h.ly.M,h.ly.C,h.ly.res];exact I
 exact fO Tryz.func93 8 rfl λo F=>fG Tryz.func93 λw cs=>r0 [] [(8,i6 0)] [] (rr (λ_=>[(2,.c [0,1,2] [2] (ED q t i y z f e a g c x.s.r J x.U x.s.time v n D)),(7,.s 9)]) (λj=>[(9,pt (B6 j) 0),(10,i6 30)]) [] (λj L=>L++[ob (B6 j) #[i6 0,i6 0,i6 0] 180]) λj=>rr (λ_=>[(1,.c [8] [] (aa.at (rd':=[.c o]) (DK u l (by with_reducible assumption)) (ei F (λ_ h=>h)))),(6,.s 10)]) (λk=>[(11,pt (B5 k) 0),(12,i6 0)]) [] (λk L=>L++[ob (B5 k) (rB 64 l).toArray 43]) λk=>rT [(3,.d),(4,.d),(7,.d),(8,.d)] 27 (r0 [] [(8,i6 30)] [8] (lf ab.zero [2,3,4,5,6,7] [(0,0),(1,1),(8,8)] [])))
theorem RE(a s o i k g q f d e j:Nat)(c:Cf)(x:Ct)(K A:Nat)(h:bF c x K A)(n:Int)(z:bR n ((((c.R*c.B*c.M-c.res)*c.C):Nat):Int)=false)(u:Value)(l:List UInt8)(y:l.length=64)(m:Nat):aa VA 93 #[pt a 0,i6 n,u,u6 (m:Int)] [pk (aQ a s o i k g q f d e j c x),.p (aH eB u l)] [0] (λ_=>[pk (aQ a s o i k g q f d e j c x)]) (λ_=>i6 30):=aa.pkZ Tryz.func93 λL t=>by
 obtain⟨v,rfl⟩:=t;exact⟨[2,3,4,5,6,7],λ_=>[pk (aq o i k x.s.r),pk (aC g q x.s.k),pk (aA f x.s.g),pk (dA j),pk (bj d e c x.V),bY v x.ns],EJ a s o i k g q f d e j c x K A h n z u l y m v,rfl,λE=>⟨rfl,rfl,⟨_,rfl⟩⟩⟩
theorem RF(i k g m o e q d a j f:Nat)(c:Cf)(x:Ct)(K A:Nat)(h:bF c x K A)(n:Int)(z:bR n ((((c.R*c.B*c.M-c.res)*c.C):Nat):Int)=false)(u:Value)(l:List UInt8)(D:l.length=64):aa VA 92 #[pt i 0,i6 n,u] [pk (aQ i k g m o e q d a j f c x),.p (aH eB u l)] [0] (λ_=>[pk (aQ i k g m o e q d a j f c x)]) (λ_=>i6 30):=aa.pkZ Tryz.func92 λL y=>by
 obtain⟨v,rfl⟩:=y;refine⟨[2,3,4,5,6,7],λ_=>[pk (aq g m o x.s.r),pk (aC e q x.s.k),pk (aA d x.s.g),pk (dA f),pk (bj a j c x.V),bY v x.ns],?_,rfl,λE=>⟨rfl,rfl,⟨_,rfl⟩⟩⟩;exact fO Tryz.func92 8 rfl λs t=>fG Tryz.func92 λw cs=>r0 [] [(6,i6 0)] [] (r0 [(3,.c [0,1,2,3,4,5,6,7,8] [2,3,4,5,6,7] (aa.at (rd':=[ob i #[pt k 0,pt a 0,pt f 0,iN x.U,v] 119,ob k (lA c g e d x.s.time) 122,pk (aq g m o x.s.r),pk (aC e q x.s.k),pk (aA d x.s.g),pk (dA f),pk (bj a j c x.V),bY v x.ns,.c s]) (EJ i k g m o e q d a j f c x _ _ h n z u l (by with_reducible assumption) 18446744073709551615 v) (aK (aK (aK (aK (aK (aK (aK (aK (ei t (λ_ h=>h))))))))))))] [(6,i6 30)] [6] (lf ab.zero [2,3,4,5,6,7] [(0,0),(1,1),(8,8)] []))
theorem RG(g i u p q o y n f k j:Nat)(c:Cf)(x:Ct)(K A:Nat)(h:bF c x K A)(hA:A≤700000)(H:K+3≤1000000000):aa VA 49 #[pt g 0] [pk (aQ g i u p q o y n f k j c x)] [0] (λ_=>[pk (aQ g i u p q o y n f k j c (kJ c x))]) (λ_=> .tuple #[iN x.U,i6 (cr (bL c (ke c x) (a9 (ke c x) x.U)))]):=aa.pkZ Tryz.func49 λL I=>by
 obtain⟨v,rfl⟩:=I;refine⟨[0,2,3,4,5,6,7],λE=>[ob g #[pt i 0,pt f 0,pt j 0,i6 (((kJ c x).U:Nat):Int),E.val 0] 119,pk (aq u p q (kJ c x).s.r),pk (aC o y (kJ c x).s.k),pk (aA n (kJ c x).s.g),pk (dA j),pk (bj f k c (kJ c x).V),bY (E.val 0) ((kJ c x).ns)],?_,rfl,λE=>⟨rfl,rfl,⟨_,rfl⟩⟩⟩;have e:=h.cf;have Q:=e.E;have P:=e.E;have J:=h.dv Om;have O:=h.nl;have G:=e.ly;have F:=h.U;have N:=VG (V9 c.C (Nat.sub_le (c.R*c.B*c.M) c.res)) e.Q.bd.rbmc;have D:=EF h;refine fG Tryz.func49 λw cs=>r0 [] [(2,i6 0),(3,i6 0)] [] (r0 [(3,.l 0)] [(4,iN x.U)] [] (rs [(2,ad x.U 1),(6,.m (ld 0 (pt i 0))),(10,.m (ls 1 ([iN c.R,iN c.S,iN c.B,iN c.M,iN c.C,iN c.G,iN c.res]))),(11,.c [] [] (xH c.R c.S c.B c.M c.C c.G c.res G)),(12,.t (tb (a:=i6 ((x.U+1:Nat):Int)) (b:=i6 (((((c.R*c.B)*c.M)-c.res)*c.C:Nat):Int)) λ_ _ _ _=>nu (a:=x.U+1) (d:=(((c.R*c.B)*c.M)-c.res)*c.C) Om)),(15,.s 0)] 0 (ob g #[pt i 0,pt f 0,pt j 0,i6 (((x.U+1)%((((c.R*c.B)*c.M)-c.res)*c.C):Nat):Int),v] 119) ?_));have h:=D;exact rr (λ_=>[(2,.c [0,1,2,3,4,5,6,7] [0,2,3,4,5,6,7] (EE g i u p q o y n f k j c x.s ((x.U+1)%((((c.R*c.B)*c.M)-c.res)*c.C)) x.ns x.V _ _ h v hA H x.U F true)),(7,.s 8)]) (λ_=>[(6,i6 (cr (bL c (⟨x.s,((x.U+1)%((((c.R*c.B)*c.M)-c.res)*c.C)),x.ns,x.V⟩:Ct) (a9 (⟨x.s,((x.U+1)%((((c.R*c.B)*c.M)-c.res)*c.C)),x.ns,x.V⟩:Ct) x.U))))]) [] (λz L=>(((((L.set 0 (ob g #[pt i 0,pt f 0,pt j 0,i6 (((x.U+1)%((((c.R*c.B)*c.M)-c.res)*c.C):Nat):Int),((z 2).val 0)] 119)).set 2 ((pk (aq u p q (c0 c (⟨x.s,((x.U+1)%((((c.R*c.B)*c.M)-c.res)*c.C)),x.ns,x.V⟩:Ct) x.U true).s.r)))).set 3 ((pk (aC o y (c0 c (⟨x.s,((x.U+1)%((((c.R*c.B)*c.M)-c.res)*c.C)),x.ns,x.V⟩:Ct) x.U true).s.k)))).set 4 ((pk (aA n (c0 c (⟨x.s,((x.U+1)%((((c.R*c.B)*c.M)-c.res)*c.C)),x.ns,x.V⟩:Ct) x.U true).s.g)))).set 6 ((pk (bj f k c (c0 c (⟨x.s,((x.U+1)%((((c.R*c.B)*c.M)-c.res)*c.C)),x.ns,x.V⟩:Ct) x.U true).V)))).set 7 (bY ((z 2).val 0) ((c0 c (⟨x.s,((x.U+1)%((((c.R*c.B)*c.M)-c.res)*c.C)),x.ns,x.V⟩:Ct) x.U true).ns))++[ob (B6 z) (rB 64 (cZ c (⟨x.s,((x.U+1)%((((c.R*c.B)*c.M)-c.res)*c.C)),x.ns,x.V⟩:Ct) (a9 (⟨x.s,((x.U+1)%((((c.R*c.B)*c.M)-c.res)*c.C)),x.ns,x.V⟩:Ct) x.U))).toArray 43]) λz=>r0 [] [(2,iN x.U),(3,i6 (cr (bL c (⟨x.s,((x.U+1)%((((c.R*c.B)*c.M)-c.res)*c.C)),x.ns,x.V⟩:Ct) (a9 (⟨x.s,((x.U+1)%((((c.R*c.B)*c.M)-c.res)*c.C)),x.ns,x.V⟩:Ct) x.U))))] [2,3] (ak (.tuple #[iN x.U,i6 (cr (bL c (⟨x.s,((x.U+1)%((((c.R*c.B)*c.M)-c.res)*c.C)),x.ns,x.V⟩:Ct) (a9 (⟨x.s,((x.U+1)%((((c.R*c.B)*c.M)-c.res)*c.C)),x.ns,x.V⟩:Ct) x.U)))]) (.l [] [] [((z 2).val 0)]) Vm [0,2,3,4,5,6,7] [(1,1)] [] (hf:=by kernel_rfl))
end
theorem RH(o j a f g u q p x:Nat)(c:Cf)(r:Rp)(d:aT r)(k time:Nat)(v:Value)(i:Nat)(z:r.j.A=1)(n:r.j.fr<r.m.R*r.m.B*r.m.M):aa VA 85 #[pt o 0,iN i] [ob o #[pt j 0,pt p 0,pt x 0,iN k,v] 119,ob j (lA c a u q time) 122,pk (aq a f g r)] [2] (λ_=>[pk (aq a f g r)]) (λ_=> .agg #[iN i,iN r.j.fr,i6 ((aJ r.m.G r.m.R r.m.B r.m.M r.j.fr:Nat):Int)]):=by
 have y:=d.m.Q;have B:=d.m.ly.G;have A:=CJ d.m n;exact fG Tryz.func85 λw cs=>ra (λh=>[(4,pt (B0 h) 0)]) (λh=>[ob (B0 h) #[i6 0,i6 0,i6 0] 180]) λh=>rr (λ_=>[(3,.m (ld 0 (pt j 0))),(6,.m (ld 1 (pt a 0))),(7,.c [2] [2] (uL a f g r d)),(11,.m (ld 0 (pt j 0))),(14,.m (ld 1 (pt a 0))),(15,.c [2] [2] (rL a f g r d)),(16,.c [2] [2] (DJ a f g r d)),(17,.m (al 4)),(18,.m (al 5)),(19,.s 4),(20,.s 5)]) (λe=>[(5,pt ((e 17).y 0) 0),(6,pt ((e 18).y 0) 0)]) [] (λe L=>L++[ob ((e 17).y 0) #[iN r.j.A,iN r.j.fr,iN r.j.tg,iN r.j.nx] 70,ob ((e 18).y 0) #[iN r.m.R,iN r.m.S,iN r.m.B,iN r.m.M,iN r.m.C,iN r.m.G,iN r.m.res] 25]) λe=>rF [(1,.l 4),(2,.t (tk (show Value.bool ((r.j.A:Int)==2)= .bool false from ALca Value.bool (by rw[z];rfl))))] 30 (r0 [(1,.m (ls 5 ([iN r.m.R,iN r.m.S,iN r.m.B,iN r.m.M,iN r.m.C]))),(3,.m (ld 5 (iN r.m.G))),(5,.m (ld 4 (iN r.j.fr))),(6,.c [] [] (CI r.m.R r.m.S r.m.B r.m.M r.m.C y r.m.G Om r.j.fr Om)),] [(9,i6 ((gK r.m.G r.m.R r.m.B r.m.M r.j.fr:Nat):Int))] [] (rs [(2,.l 4),(4,.t (tv (av .shr 3 (.tmp 59) (.const (u6 14)) (i6 ((gK r.m.G r.m.R r.m.B r.m.M r.j.fr:Nat):Int)) (u6 14)) (λ_=>dF (b:=((aJ r.m.G r.m.R r.m.B r.m.M r.j.fr:Nat):Int)) (ie 14 Dc) Om))),(6,.s 3)] 3 (ob (B0 h) #[iN i,iN r.j.fr,i6 ((aJ r.m.G r.m.R r.m.B r.m.M r.j.fr:Nat):Int)] 180) (lf ab.zero [2] [(0,0),(1,1)] [3])))
theorem RI(y k a g h D C B F:Nat)(c:Cf)(r:Rp)(e:aT r)(n time:Nat)(v:Value)(i:Nat)(I:r.j.A=2)(H:i=j8 r.m r.j.fr r.j.nx)(q:r.j.fr<r.m.R)(u:r.j.nx<r.m.B*r.m.M*r.m.C):aa VA 85 #[pt y 0,iN i] [ob y #[pt k 0,pt B 0,pt F 0,iN n,v] 119,ob k (lA c a D C time) 122,pk (aq a g h r)] [2] (λ_=>[pk (aq a g h r)]) (λ_=> .agg #[iN i,i6 ((mc r.m.G r.m.R r.m.B r.m.M r.j.fr (r.j.nx/r.m.C/r.m.M) (r.j.nx/r.m.C%r.m.M):Nat):Int),iN r.j.fr]):=by
 have z:=e.m.Q;have x:=e.m.ly.G;have d:=uD e.m (r:=r.j.fr) Om u;have o:=d.h1;have p:=d.h2;have G:=d.h3;have A:=z.bd.c64;exact fG Tryz.func85 λw cs=>ra (λj=>[(4,pt (B0 j) 0)]) (λj=>[ob (B0 j) #[i6 0,i6 0,i6 0] 180]) λj=>rr (λ_=>[(3,.m (ld 0 (pt k 0))),(6,.m (ld 1 (pt a 0))),(7,.c [2] [2] (uL a g h r e)),(11,.m (ld 0 (pt k 0))),(14,.m (ld 1 (pt a 0))),(15,.c [2] [2] (rL a g h r e)),(16,.c [2] [2] (DJ a g h r e)),(17,.m (al 4)),(18,.m (al 5)),(19,.s 4),(20,.s 5)]) (λf=>[(5,pt ((f 17).y 0) 0),(6,pt ((f 18).y 0) 0)]) [] (λf L=>L++[ob ((f 17).y 0) #[iN r.j.A,iN r.j.fr,iN r.j.tg,iN r.j.nx] 70,ob ((f 18).y 0) #[iN r.m.R,iN r.m.S,iN r.m.B,iN r.m.M,iN r.m.C,iN r.m.G,iN r.m.res] 25]) λf=>rT [(1,.l 4),(2,.t (tk (show Value.bool ((r.j.A:Int)==2)= .bool true from ALca Value.bool (by rw[I];rfl))))] 30 (r0 [(1,.m (ls 5 ([iN r.m.R,iN r.m.S,iN r.m.B,iN r.m.M,iN r.m.C]))),(3,.m (ld 5 (iN r.m.G))),(5,.t (tv (av .shr 3 (.tmp 36) (.const (u6 6)) (iN i) (u6 6)) (λ_=>dF (b:=((r.j.fr*16384+r.j.nx/r.m.C/r.m.M*1024+r.j.nx/r.m.C%r.m.M:Nat):Int)) (ie 6 Dc) (by rw[H];unfold j8 bU;omega)))),(6,.c [] [] (MS r.m.R r.m.S r.m.B r.m.M r.m.C z r.m.G x r.j.fr (r.j.nx/r.m.C/r.m.M) (r.j.nx/r.m.C%r.m.M) q o p)),] [(7,i6 ((mc r.m.G r.m.R r.m.B r.m.M r.j.fr (r.j.nx/r.m.C/r.m.M) (r.j.nx/r.m.C%r.m.M):Nat):Int))] [] (rs [(3,.l 4),(5,.s 3)] 3 (ob (B0 j) #[iN i,i6 ((mc r.m.G r.m.R r.m.B r.m.M r.j.fr (r.j.nx/r.m.C/r.m.M) (r.j.nx/r.m.C%r.m.M):Nat):Int),iN r.j.fr] 180) (lf ab.zero [2] [(0,0),(1,1)] [3])))
theorem RJ(d f b g h l k j m:Nat)(c:Cf)(r:Rp)(o:aT r)(a time:Nat)(v:Value)(i:Nat)(p:r.j.A≠0)(s:r.j.nx<gh r.j.A r.m.B r.m.M r.m.C)(q:i=a8 r.m r.j.A r.j.fr r.j.nx):aa VA 85 #[pt d 0,iN i] [ob d #[pt f 0,pt j 0,pt m 0,iN a,v] 119,ob f (lA c b l k time) 122,pk (aq b g h r)] [2] (λ_=>[pk (aq b g h r)]) (λ_=> .agg #[iN i,i6 ((cU r:Nat):Int),i6 ((dw r:Nat):Int)]):=by
 unfold cU dw;rcases o.j.k with e | ⟨e,n⟩ | ⟨e,n⟩
 ·rw[e] at p;exact absurd rfl p
 ·rw[ALifp e,ALifp e];exact RH d f b g h l k j m c r o a time v i e n.hf
 ·rw[e] at s q;rw[ALifn Om,ALifn Om];exact RI d f b g h l k j m c r o a time v i e q n.hf s
def u9(y:Ct):Ct:={y with s:=h8 y.s,ns:=y.ns++[(⟨3,0,0,0,0,0⟩:Nt)]}
def pT(x:Ct):Nat:=a8 x.s.r.m x.s.r.j.A x.s.r.j.fr x.s.r.j.nx
def va(x:Ct):Nat:=a8 x.s.r.m x.s.r.j.A x.s.r.j.tg x.s.r.j.nx
def r5(x:Ct):Bool:=decide (cU x.s.r<x.s.r.m.R*x.s.r.m.B*x.s.r.m.M-x.s.r.m.res+x.s.r.m.O)&& !x.s.r.m.N.getD (cU x.s.r) false
def yH(c:Cf)(x:Ct):Ct:=b8 c x (pT x) (cU x.s.r) (dw x.s.r)
def lI(c:Cf)(x:Ct):Ct:=bif r5 x then oX c (yH c x) (va x) (cZ c x (pT x)) (decide (2≤((bL c x (pT x):Nat):Int))) else oX c x (va x) z6 false
def iZ(c:Cf)(x:Ct):Ct:=kH x (u9 (lI c x))
theorem EK{c:Cf}{x:Ct}{K A:Nat}(h:bF c x K A)(a:x.s.r.j.A≠0)(e:K+3≤1000000000):bF c (lI c x) (K+3) (A+2)∧(lI c x).s.r.j=x.s.r.j∧(lI c x).s.r.m=x.s.r.m:=by
 have b:=EI h.s.r a (h.run a);unfold lI;cases r5 x
 ·exact⟨(pS h VE false).mono Om Om,rfl,rfl⟩
 ·have d:=yB (i:=pT x) h b.2.1 b.1 e;exact⟨pS d (oY _ (nV h.D _) _) _,Ey c.H x.s _ a⟩
theorem RK{c:Cf}{x:Ct}{K A:Nat}(h:bF c x K A)(a:x.s.r.j.A≠0)(b:K+257≤1000000000):bF c (u9 x) (K+257) (A+1):=by
 refine⟨h.cf,P4 h.s a (h.run a) b,h.D,h.gl,VU h.vl,?_,h.ly.tr (P5 x.s),Rl h.s.r a h.run,h.U,h.time⟩;show(x.ns++[_]).length≤A+1;rw[VC];exact VL h.nl
theorem RL{c:Cf}{x:Ct}{K A:Nat}(h:bF c x K A)(a:x.s.r.j.A≠0)(f:K+260≤1000000000):bF c (iZ c x) (K+260) (A+3):=by
 obtain⟨b,d,e⟩:=EK h a Om;exact h.fix (RK b (by rw[d];exact a) Om)
def pU(x:Ct):Ct:={x with s:=DZ x.s,ns:=x.ns++[(⟨2,0,0,0,0,0⟩:Nt)]}
def pV(x:Ct):Ct:={x with s:=D0 x.s,ns:=x.ns++[(⟨4,0,0,0,0,0⟩:Nt)]}
theorem RM{c:Cf}{x:Ct}{K A:Nat}(h:bF c x K A)(ht:x.s.time<1099511627776):bF c (pU x) K (A+1):=by
 refine⟨h.cf,P6 h.s,h.D,h.gl,VU h.vl,?_,h.ly,h.run,h.U,ht⟩;show(x.ns++[_]).length≤A+1;rw[VC];exact VL h.nl
theorem RN{c:Cf}{x:Ct}{K A:Nat}(h:bF c x K A):bF c (pV x) K (A+1):=by
 refine⟨h.cf,P7 h.s,h.D,h.gl,VU h.vl,?_,h.ly,h.run,h.U,h.time⟩;show(x.ns++[_]).length≤A+1;rw[VC];exact VL h.nl
theorem RO(d b i m n a j f e p g:Nat)(c:Cf)(x:Ct)(K A:Nat)(h:bF c x K A)(hA:A≤700000)(ht:x.s.time<1099511627776):aa VA 51 #[pt d 0] [pk (aQ d b i m n a j f e p g c x)] [0] (λ_=>[pk (aQ d b i m n a j f e p g c (pU x))]) (λ_=>i6 0):=aa.pkZ Tryz.func51 λL r=>by
 obtain⟨v,rfl⟩:=r;refine⟨[0,1,2,3,4,5,6,7],λE=>[ob d #[pt b 0,pt e 0,pt g 0,iN x.U,(E.val 0)] 119,ob b (lA c i a f ((x.s.time+1:Nat))) 122,pk (aq i m n x.s.r),pk (aC a j (mo x.s.k)),pk (aA f x.s.g),pk (dA g),pk (bj e p c x.V),bY (E.val 0) (x.ns++([(⟨2,0,0,0,0,0⟩:Nt)]))],?_,rfl,λE=>⟨rfl,rfl,⟨_,rfl⟩⟩⟩;have s:=h.s;have k:x.ns.length≤800000:=VG h.nl Om;have q:x.s.time≤1000000000000000:=by omega
 exact fG Tryz.func51 λw cs=>r0 [] [(2,i6 0)] [] (rF [(3,.l 0),(6,.l 1),(7,.t (tk (show Value.bool (decide (1099511627776≤(x.s.time:Int)))= .bool false from ALca Value.bool (by exact bh Om))))] 10 (rr (λ_=>[(2,.c [0,1,2,3,4,7] [0,1,2,3,4,7] (Rw d b i m n a j f e g c x.s _ s x.U v x.ns k q))]) N0 [] (λo L=>(((L.set 0 (ob d #[pt b 0,pt e 0,pt g 0,iN x.U,((o 2).val 0)] 119)).set 1 (ob b (lA c i a f ((x.s.time+1:Nat))) 122)).set 3 ((pk (aC a j (mo x.s.k))))).set 7 (bY ((o 2).val 0) (x.ns++([(⟨2,0,0,0,0,0⟩:Nt)])))) λo=>r0 [] [(2,i6 0)] [2] (lf (.l [] [] [((o 2).val 0)]) [0,1,2,3,4,5,6,7] [] [])))
theorem RP(a f m j k i n d b p e:Nat)(c:Cf)(x:Ct)(K A:Nat)(h:bF c x K A)(hA:A≤700000):aa VA 52 #[pt a 0] [pk (aQ a f m j k i n d b p e c x)] [0] (λ_=>[pk (aQ a f m j k i n d b p e c (pV x))]) (λ_=>iN x.s.g.l.length):=aa.pkZ Tryz.func52 λL q=>by
 obtain⟨v,rfl⟩:=q;refine⟨[0,2,3,4,5,6,7],λE=>[ob a #[pt f 0,pt b 0,pt e 0,iN x.U,(E.val 0)] 119,pk (aq m j k x.s.r),pk (aC i n x.s.k),pk (aA d (mn x.s.g)),pk (dA e),pk (bj b p c x.V),bY (E.val 0) (x.ns++([(⟨4,0,0,0,0,0⟩:Nt)]))],?_,rfl,λE=>⟨rfl,rfl,⟨_,rfl⟩⟩⟩;have r:=h.s;have g:x.ns.length≤800000:=VG h.nl Om;exact fG Tryz.func52 λw cs=>r0 [] [(2,i6 0)] [] (r0 [(3,.l 0),(6,.l 1),(7,.c [4] [4] (Dq d x.s.g))] [(3,iN x.s.g.l.length)] [] (rr (λ_=>[(2,.c [0,1,2,3,4,7] [0,2,3,4,7] (Rx a f m j k i n d b e c x.s _ r x.U v x.ns g))]) N0 [] (λo L=>((L.set 0 (ob a #[pt f 0,pt b 0,pt e 0,iN x.U,((o 2).val 0)] 119)).set 4 ((pk (aA d (mn x.s.g))))).set 7 (bY ((o 2).val 0) (x.ns++([(⟨4,0,0,0,0,0⟩:Nt)])))) λo=>r0 [] [(2,iN x.s.g.l.length)] [2] (lf (.l [] [] [((o 2).val 0)]) [0,2,3,4,5,6,7] [(1,1)] [])))
theorem RQ(e k a b d j n i f g l:Nat)(c:Cf)(x:Ct)(K A:Nat)(h:bF c x K A)(p:x.s.r.j.A=0):aa VA 50 #[pt e 0] [pk (aQ e k a b d j n i f g l c x)] [0] (λ_=>[pk (aQ e k a b d j n i f g l c x)]) (λ_=>i6 51):=aa.pkZ Tryz.func50 λL o=>by
 obtain⟨v,rfl⟩:=o;refine⟨[2,3,4,5,6,7],λ_=>[pk (aq a b d x.s.r),pk (aC j n x.s.k),pk (aA i x.s.g),pk (dA l),pk (bj f g c x.V),bY v x.ns],?_,rfl,λE=>⟨rfl,rfl,⟨_,rfl⟩⟩⟩;have q:=h.s.r;exact fG Tryz.func50 λw cs=>r0 [] [(2,i6 0)] [] (r0 [(3,.m (ld 0 (pt k 0))),(6,.m (ld 1 (pt a 0))),(7,.c [2] [2] (Ok a b d x.s.r q p)),] [(3,i6 0),(4,i6 0),(5,i6 51)] [] (rT [] 22 (r0 [] [(2,i6 51)] [2] (lf ab.zero [2,3,4,5,6,7] [(0,0),(1,1)] []))))
theorem RR(n e a o p i u f b t j:Nat)(c:Cf)(x:Ct)(K A:Nat)(h:bF c x K A)(hA:A≤700000)(hK:K+260≤1000000000)(B:x.s.r.j.A≠0):aa VA 50 #[pt n 0] [pk (aQ n e a o p i u f b t j c x)] [0] (λ_=>[pk (aQ n e a o p i u f b t j c (iZ c x))]) (λ_=>i6 0):=aa.pkZ Tryz.func50 λL hL=>by
 obtain⟨v,rfl⟩:=hL;refine⟨[0,1,2,3,4,5,6,7],λE=>[ob n #[pt e 0,pt b 0,pt j 0,iN x.U,(E.val 0)] 119,ob e #[iN c.R,iN c.S,iN c.B,iN c.M,iN c.C,iN c.G,iN c.res,iN c.E,iN c.lr,iN c.er,iN c.lp,iN c.ep,iN c.I,iN c.H,iN c.log,.bool c.W,pt a 0,pt i 0,pt f 0,i6 (((iZ c x).s.time:Nat):Int)] 122,pk (aq a o p (iZ c x).s.r),pk (aC i u (iZ c x).s.k),pk (aA f (iZ c x).s.g),pk (dA j),pk (bj b t c (iZ c x).V),bY (E.val 0) ((iZ c x).ns)],?_,rfl,λE=>⟨rfl,rfl,⟨_,rfl⟩⟩⟩;have d:=h.cf;have hm:=d.E;have HM:=d.E;have S:=h.dv Om;have hnl:=h.nl;have F:=h.s.r;have D:=h.run B;have z:=EI F B D;have G:=z.1;have hsr:=z.2.1;have T:=(z.2.2.1.lay h.ly).bd d.Q;have U:=(z.2.2.1.lay h.ly).has d.Q;have H:=(z.2.2.2.lay h.ly).bd d.Q;have I:=(z.2.2.2.lay h.ly).has d.Q;have C:K+3≤1000000000:=by omega
 have ht:bF c (b8 c x (a8 x.s.r.m x.s.r.j.A x.s.r.j.fr x.s.r.j.nx) (cU x.s.r) (dw x.s.r)) (K+3) (A+1):=yB h z.2.1 z.1 C;have hts:=ht.s;have hs0:=h.s;have X:=Ey c.H x.s (na c x (a8 x.s.r.m x.s.r.j.A x.s.r.j.fr x.s.r.j.nx) (cU x.s.r) (dw x.s.r)) B;have R:=ht.dv Om;have Z:(b8 c x (a8 x.s.r.m x.s.r.j.A x.s.r.j.fr x.s.r.j.nx) (cU x.s.r) (dw x.s.r)).ns.length≤800000:=VG ht.nl Om;have Y:x.ns.length≤800000:=VG h.nl Om;have Q:(b8 c x (a8 x.s.r.m x.s.r.j.A x.s.r.j.fr x.s.r.j.nx) (cU x.s.r) (dw x.s.r)).s.r.j.A≠0:=by show(dq _ _ _).r.j.A≠0;rw[X.1];exact B
 have W:(b8 c x (a8 x.s.r.m x.s.r.j.A x.s.r.j.fr x.s.r.j.nx) (cU x.s.r) (dw x.s.r)).s.r.j.nx<gh (b8 c x (a8 x.s.r.m x.s.r.j.A x.s.r.j.fr x.s.r.j.nx) (cU x.s.r) (dw x.s.r)).s.r.j.A (b8 c x (a8 x.s.r.m x.s.r.j.A x.s.r.j.fr x.s.r.j.nx) (cU x.s.r) (dw x.s.r)).s.r.m.B (b8 c x (a8 x.s.r.m x.s.r.j.A x.s.r.j.fr x.s.r.j.nx) (cU x.s.r) (dw x.s.r)).s.r.m.M (b8 c x (a8 x.s.r.m x.s.r.j.A x.s.r.j.fr x.s.r.j.nx) (cU x.s.r) (dw x.s.r)).s.r.m.C:=by show(dq _ _ _).r.j.nx<gh (dq _ _ _).r.j.A (dq _ _ _).r.m.B (dq _ _ _).r.m.M (dq _ _ _).r.m.C;rw[X.1,X.2];exact D
 have O:K+257≤1000000000:=by omega
 have P:K+3+257≤1000000000:=by omega
 have hln:(cZ c x (a8 x.s.r.m x.s.r.j.A x.s.r.j.fr x.s.r.j.nx)).length=64:=oY c.E (nV h.D _) _;refine fG Tryz.func50 λw cs=>r0 [] [(2,i6 0)] [] (r0 [(3,.m (ld 0 (pt e 0))),(6,.m (ld 1 (pt a 0))),(7,.c [2] [2] (Oj a o p x.s.r F B D)),] [(3,i6 ((a8 x.s.r.m x.s.r.j.A x.s.r.j.fr x.s.r.j.nx:Nat):Int)),(4,i6 ((a8 x.s.r.m x.s.r.j.A x.s.r.j.tg x.s.r.j.nx:Nat):Int)),(5,i6 0)] [] (rF [] 22 (rr (λ_=>[(2,.c [0,1,2] [2] (RJ n e a o p i f b j c x.s.r F x.U x.s.time v (a8 x.s.r.m x.s.r.j.A x.s.r.j.fr x.s.r.j.nx) B D rfl)),(4,.s 8)]) (λJ=>[(6,pt (B3 J) 0)]) [] (λJ L=>L++[ob (B3 J) #[i6 ((a8 x.s.r.m x.s.r.j.A x.s.r.j.fr x.s.r.j.nx:Nat):Int),i6 ((cU x.s.r:Nat):Int),i6 ((dw x.s.r:Nat):Int)] 180]) λJ=>r0 [(3,.l 0),(6,.l 1),(7,.c [2] [2] (rL a o p x.s.r F)),(9,.l 8),(10,.c [2] [2] (PC a o p x.s.r F (cU x.s.r) G))] [(37,.bool (decide ((cU x.s.r)<x.s.r.m.R*x.s.r.m.B*x.s.r.m.M-x.s.r.m.res+x.s.r.m.O)&& !x.s.r.m.N.getD (cU x.s.r) false))] [] ?_)));refine cB (decide ((cU x.s.r)<x.s.r.m.R*x.s.r.m.B*x.s.r.m.M-x.s.r.m.res+x.s.r.m.O)&& !x.s.r.m.N.getD (cU x.s.r) false) (λN=>?_) λN=>?_
 ·exact rr (λ_=>[(1,.l 8),(2,.c [0,1,2,3,4,5,6,7] [0,2,3,4,5,6,7] (yC n e a o p i u f b t j c x.s x.U x.ns x.V _ _ h v hA C (a8 x.s.r.m x.s.r.j.A x.s.r.j.fr x.s.r.j.nx) (cU x.s.r) (dw x.s.r) T U G hsr)),(8,.s 9),(9,.s 10)]) (λq=>[(7,pt (B6 q) 0),(8,pt (B7 q) 0)]) [] (λq L=>(((((L.set 0 (ob n #[pt e 0,pt b 0,pt j 0,iN x.U,((q 2).val 0)] 119)).set 2 ((pk (aq a o p (b8 c x (a8 x.s.r.m x.s.r.j.A x.s.r.j.fr x.s.r.j.nx) (cU x.s.r) (dw x.s.r)).s.r)))).set 3 ((pk (aC i u (b8 c x (a8 x.s.r.m x.s.r.j.A x.s.r.j.fr x.s.r.j.nx) (cU x.s.r) (dw x.s.r)).s.k)))).set 4 ((pk (aA f (b8 c x (a8 x.s.r.m x.s.r.j.A x.s.r.j.fr x.s.r.j.nx) (cU x.s.r) (dw x.s.r)).s.g)))).set 6 ((pk (bj b t c (b8 c x (a8 x.s.r.m x.s.r.j.A x.s.r.j.fr x.s.r.j.nx) (cU x.s.r) (dw x.s.r)).V)))).set 7 (bY ((q 2).val 0) ((b8 c x (a8 x.s.r.m x.s.r.j.A x.s.r.j.fr x.s.r.j.nx) (cU x.s.r) (dw x.s.r)).ns))++[ob (B6 q) (rB 64 (cZ c x (a8 x.s.r.m x.s.r.j.A x.s.r.j.fr x.s.r.j.nx))).toArray 43,ob (B7 q) #[i6 ((bL c x (a8 x.s.r.m x.s.r.j.A x.s.r.j.fr x.s.r.j.nx):Nat):Int),i6 ((gP c.E (lG c x (a8 x.s.r.m x.s.r.j.A x.s.r.j.fr x.s.r.j.nx)) ((a8 x.s.r.m x.s.r.j.A x.s.r.j.fr x.s.r.j.nx):Int):Nat):Int)] 79]) λq=>cl [ob n #[pt e 0,pt b 0,pt j 0,iN x.U,((q 2).val 0)] 119,ob e #[iN c.R,iN c.S,iN c.B,iN c.M,iN c.C,iN c.G,iN c.res,iN c.E,iN c.lr,iN c.er,iN c.lp,iN c.ep,iN c.I,iN c.H,iN c.log,.bool c.W,pt a 0,pt i 0,pt f 0,i6 (((b8 c x (a8 x.s.r.m x.s.r.j.A x.s.r.j.fr x.s.r.j.nx) (cU x.s.r) (dw x.s.r)).s.time:Nat):Int)] 122,pk (aq a o p (b8 c x (a8 x.s.r.m x.s.r.j.A x.s.r.j.fr x.s.r.j.nx) (cU x.s.r) (dw x.s.r)).s.r),pk (aC i u (b8 c x (a8 x.s.r.m x.s.r.j.A x.s.r.j.fr x.s.r.j.nx) (cU x.s.r) (dw x.s.r)).s.k),pk (aA f (b8 c x (a8 x.s.r.m x.s.r.j.A x.s.r.j.fr x.s.r.j.nx) (cU x.s.r) (dw x.s.r)).s.g),pk (dA j),pk (bj b t c (b8 c x (a8 x.s.r.m x.s.r.j.A x.s.r.j.fr x.s.r.j.nx) (cU x.s.r) (dw x.s.r)).V),bY ((q 2).val 0) ((b8 c x (a8 x.s.r.m x.s.r.j.A x.s.r.j.fr x.s.r.j.nx) (cU x.s.r) (dw x.s.r)).ns),ob (B3 J) #[i6 ((a8 x.s.r.m x.s.r.j.A x.s.r.j.fr x.s.r.j.nx:Nat):Int),i6 ((cU x.s.r:Nat):Int),i6 ((dw x.s.r:Nat):Int)] 180,ob (B6 q) (rB 64 (cZ c x (a8 x.s.r.m x.s.r.j.A x.s.r.j.fr x.s.r.j.nx))).toArray 43,ob (B7 q) #[i6 ((bL c x (a8 x.s.r.m x.s.r.j.A x.s.r.j.fr x.s.r.j.nx):Nat):Int),i6 ((gP c.E (lG c x (a8 x.s.r.m x.s.r.j.A x.s.r.j.fr x.s.r.j.nx)) ((a8 x.s.r.m x.s.r.j.A x.s.r.j.fr x.s.r.j.nx):Int):Nat):Int)] 79] (by skip;kernel_rfl) (rs [(2,.l 9),(4,.l 10),(6,.c [0,1,5,6] [5,6] (oZ n e a i f b t j c d x.U ((b8 c x (a8 x.s.r.m x.s.r.j.A x.s.r.j.fr x.s.r.j.nx) (cU x.s.r) (dw x.s.r)).s.time) ((q 2).val 0) ((b8 c x (a8 x.s.r.m x.s.r.j.A x.s.r.j.fr x.s.r.j.nx) (cU x.s.r) (dw x.s.r)).V) (by with_reducible exact R) (a8 x.s.r.m x.s.r.j.A x.s.r.j.tg x.s.r.j.nx) H I (cZ c x (a8 x.s.r.m x.s.r.j.A x.s.r.j.fr x.s.r.j.nx)) (by with_reducible assumption) (decide (2≤((bL c x (a8 x.s.r.m x.s.r.j.A x.s.r.j.fr x.s.r.j.nx):Nat):Int)))))] 6 ((pk (bj b t c (ib ((b8 c x (a8 x.s.r.m x.s.r.j.A x.s.r.j.fr x.s.r.j.nx) (cU x.s.r) (dw x.s.r)).V) ((a8 x.s.r.m x.s.r.j.A x.s.r.j.tg x.s.r.j.nx):Int) (gz c.E (cZ c x (a8 x.s.r.m x.s.r.j.A x.s.r.j.fr x.s.r.j.nx)) ((a8 x.s.r.m x.s.r.j.A x.s.r.j.tg x.s.r.j.nx):Int) (decide (2≤((bL c x (a8 x.s.r.m x.s.r.j.A x.s.r.j.fr x.s.r.j.nx):Nat):Int)))) (bif (decide (2≤((bL c x (a8 x.s.r.m x.s.r.j.A x.s.r.j.fr x.s.r.j.nx):Nat):Int))) then 1 else 0))))) (rr (λ_=>[(2,.c [0,1,2,3,4,7] [0,2,3,4,7] (EB n e a o p i u f b j c ((b8 c x (a8 x.s.r.m x.s.r.j.A x.s.r.j.fr x.s.r.j.nx) (cU x.s.r) (dw x.s.r)).s) _ (by with_reducible exact hts) x.U ((q 2).val 0) ((b8 c x (a8 x.s.r.m x.s.r.j.A x.s.r.j.fr x.s.r.j.nx) (cU x.s.r) (dw x.s.r)).ns) (by with_reducible exact Z) (by with_reducible exact P) (by with_reducible exact Q) (by with_reducible exact W)))]) N0 [] (λM L=>((((L.set 0 (ob n #[pt e 0,pt b 0,pt j 0,iN x.U,((M 2).val 0)] 119)).set 2 ((pk (aq a o p (h8 ((b8 c x (a8 x.s.r.m x.s.r.j.A x.s.r.j.fr x.s.r.j.nx) (cU x.s.r) (dw x.s.r)).s)).r)))).set 3 ((pk (aC i u (h8 ((b8 c x (a8 x.s.r.m x.s.r.j.A x.s.r.j.fr x.s.r.j.nx) (cU x.s.r) (dw x.s.r)).s)).k)))).set 4 ((pk (aA f (h8 ((b8 c x (a8 x.s.r.m x.s.r.j.A x.s.r.j.fr x.s.r.j.nx) (cU x.s.r) (dw x.s.r)).s)).g)))).set 7 (bY ((M 2).val 0) (((b8 c x (a8 x.s.r.m x.s.r.j.A x.s.r.j.fr x.s.r.j.nx) (cU x.s.r) (dw x.s.r)).ns)++([(⟨3,0,0,0,0,0⟩:Nt)])))) λM=>r0 [] [(2,i6 0)] [2] (lf (.l [] [] [((M 2).val 0)]) [0,1,2,3,4,5,6,7] [] [] (hf:=by unfold iZ kH u9 lI r5 yH pT va;dsimp only;(repeat (first | rw[N] | rw[ALct]));kernel_rfl))))
 exact rs [(3,.c [0,1,5,6] [5,6] (oZ n e a i f b t j c d x.U x.s.time v x.V (by with_reducible exact S) (a8 x.s.r.m x.s.r.j.A x.s.r.j.tg x.s.r.j.nx) H I z6 Vm false))] 6 ((pk (bj b t c (ib x.V ((a8 x.s.r.m x.s.r.j.A x.s.r.j.tg x.s.r.j.nx):Int) (gz c.E z6 ((a8 x.s.r.m x.s.r.j.A x.s.r.j.tg x.s.r.j.nx):Int) false) (bif false then 1 else 0))))) (rr (λ_=>[(2,.c [0,1,2,3,4,7] [0,2,3,4,7] (EB n e a o p i u f b j c x.s _ (by with_reducible exact hs0) x.U v x.ns (by with_reducible exact Y) (by with_reducible exact O) (by with_reducible exact B) (by with_reducible exact D)))]) N0 [] (λy L=>((((L.set 0 (ob n #[pt e 0,pt b 0,pt j 0,iN x.U,((y 2).val 0)] 119)).set 2 ((pk (aq a o p (h8 x.s).r)))).set 3 ((pk (aC i u (h8 x.s).k)))).set 4 ((pk (aA f (h8 x.s).g)))).set 7 (bY ((y 2).val 0) (x.ns++([(⟨3,0,0,0,0,0⟩:Nt)])))) λy=>r0 [] [(2,i6 0)] [2] (lf (.l [] [] [((y 2).val 0)]) [0,1,2,3,4,5,6,7] [] [] (hf:=by unfold iZ kH u9 lI r5 yH pT va;dsimp only;(repeat (first | rw[N] | rw[ALcf]));kernel_rfl)))
section
section
variable {F:Fence} {n:Nat} {P:Program} {R:List Nat} {base:World} {Q:Exit→Act→World→Prop} {S:List It} {a:Sl} {sz:Nat} {es:Fe} {L:ah} {Ds:List Nat}
def yI(F:Fence)(n:Nat)(P:Program)(c:Code)(T:Exit→Act→World→Prop):Nat→Act→World→Prop
 | 0,_,_=>False
 | k+1,b,W=>c.wpIn F n P (Exit.then (yI F n P c T k) T) b W
def r6(F:Fence)(n:Nat)(P:Program)(Q:Exit→Act→World→Prop)(S:List It)(k:Nat):Exit→Act→World→Prop:=Exit.then (yI F n P (fX S) (c8 F n P Q (bT S)) k) (c8 F n P Q (bT S))
theorem lu(N:Nat)(t:Go F n P R base (r6 F n P Q S N) [.c (fX S)] ⟨sz,es⟩ L Ds)(r:nv S=true:=by kernel_rfl):Go F n P R base Q S ⟨sz,es⟩ L Ds:=by
 classical
 refine⟨λb W s q=>dD 1000 S ?_⟩;rw[show dh 1000 S=_ from tq r];show(Code.loop (fX S)).wpIn F n P (c8 F n P Q (bT S)) b W
 let J:Nat→Act→World→Prop:=yI F n P (fX S) (c8 F n P Q (bT S))
 let μ:Act→World→Nat:=λb W=>if h: ∃j,J j b W then V6 (kr h) else 0
 have o: ∀b W,(∃j,J j b W)→J (μ b W) b W∧∀i,i<μ b W→¬J i b W:=by
  intro b W h;have e:μ b W=V6 (kr h):=dif_pos h;rw[e];exact Classical.choose_spec (kr h)
 refine wpIn_loop (λb W=>∃j,J j b W) μ ⟨N+1,t.out b W s q⟩ λb W p=>?_;have g:=(o b W p).1;obtain⟨m,v⟩: ∃m,m=μ b W:=⟨_,rfl⟩;rw[←v] at g;cases m with
 | zero=>exact g.elim
 | succ m=>
  refine wpIn_mono (show(fX S).wpIn F n P _ b W from g) λe f d l=>?_;cases e with
  | normal=>
   have k:J m f d:=l;have w:μ f d≤m:=Nat.le_of_not_lt λu=>(o f d ⟨_,k⟩).2 _ u k;exact⟨⟨_,k⟩,by omega⟩
  | _=>exact l
theorem eK{k:Nat}{d:List It}(h:Go F n P R base (r6 F n P Q d k) [.c (fX d)] a L Ds)(f:(nf S).isEmpty=true:=by kernel_rfl):Go F n P R base (r6 F n P Q d (k+1)) S a L Ds:=by
 refine⟨λb W g e=>dD 1000 S ?_⟩;rw[show dh 1000 S=[] from List.isEmpty_iff.1 f];exact h.out b W g e
theorem nZ{k:Nat}{c:List It}(e:Go F n P R base Q ((jC S (bT c)).getD []) a L Ds)(g:(jC S (bT c)).isSome=true:=by kernel_rfl):Go F n P R base (r6 F n P Q c k) S a L Ds:=by
 obtain⟨i,d⟩:=Option.isSome_iff_exists.1 g;rw[d] at e;exact⟨λb W h f=>ts d (e.out b W h f) λ_=>rfl⟩
instance {F:Fence} {n:Nat} {P:Program} {Q Q0:Exit→Act→World→Prop} {S0:List It} {k:Nat} [h:Rt Q Q0]:Rt (r6 F n P Q S0 k) Q0:=⟨λb W hq=>gF (S:=bT S0) (h.out b W hq)⟩
end
end
structure St where
 k:Int
 ln:Int
 d:List UInt8
 m:Nat
 f0:Int
 f1:Int
 f2:Int
 f3:Int
 f4:Int
 f5:Int
 f6:Int
 f7:Int
abbrev sL(k j:Int)(d:List UInt8)(m a b c e f g h i:Int):List Value:=([i6 k,i6 j]:List Value)++rB 64 d++([u6 m,i6 a,i6 b,i6 c,i6 e,i6 f,i6 g,i6 h,i6 i]:List Value)
abbrev sV(k j:Int)(d:List UInt8)(m a b c e f g h i:Int):Array Value:=(sL k j d m a b c e f g h i).toArray
def bf:St:=⟨0,0,VB 64 0,0,0,0,0,0,0,0,0,0⟩
def eSt(x:St):List Value:=[i6 x.k,i6 x.ln]++rB 64 x.d++[u6 (x.m:Int),i6 x.f0,i6 x.f1,i6 x.f2,i6 x.f3,i6 x.f4,i6 x.f5,i6 x.f6,i6 x.f7]
def RS:Kd VA St:=⟨eSt,[i6 0,i6 0]++VB 64 (u1 0)++[u6 0,i6 0,i6 0,i6 0,i6 0,i6 0,i6 0,i6 0,i6 0],32,50,bf,75,λ_=>rfl,rfl,λ_=>rfl,dU.mk' Kr Kr rfl⟩
theorem EL(b:Nat)(k n:Int)(d:List UInt8)(m:Nat)(c e f g h i j:Int):aa VA 95 #[pt b 67] [ob b (sV k n d m 1 c e f g h i j) 50] [] (λE=>[ob (E.y 0) #[pt b 68,pt b 69,pt b 70,pt b 71,pt b 73] 197]) (λE=> .slice (some ⟨(E.y 0),0,none⟩) 5 5):=by
 exact fG Tryz.func95 λw cs=>r0 [] [(2,.slice none 0 0)] [] (r0 [] [(3,pt b 68)] [] (r0 [(3,.l 0)] [(10,i6 1)] [] (rT [] 11 (rr (λa=>[(0,.v (pt b 68)),(1,.v (pt b 68)),(2,.v (pt b 68)),(3,.v (pt b 68)),(4,.v (pt b 68)),(5,.v (pt b 69)),(6,.v (pt b 68)),(7,.v (pt b 68)),(8,.v (pt b 70)),(9,.v (pt b 68)),(10,.v (pt b 68)),(11,.v (pt b 71)),(12,.v (pt b 67)),(13,.v (pt b 67)),(14,.v (pt b 73)),(15,.m (bs 1 5)),(16,.v (.slice (some ⟨(a 15).y 0,0,none⟩) 5 5))]) (λa=>[(2,.slice (some ⟨(a 15).y 0,0,none⟩) 5 5)]) [2] (λa L=>L++[ob ((a 15).y 0) #[pt b 68,pt b 69,pt b 70,pt b 71,pt b 73] 197]) λa=>lf (.l [(a 15).y 0] [] []) [1] [(0,0)] []))))
theorem EM(b:Nat)(k n:Int)(d:List UInt8)(m:Nat)(c e f g h i j:Int):aa VA 95 #[pt b 67] [ob b (sV k n d m 2 c e f g h i j) 50] [] (λE=>[ob (E.y 0) #[pt b 68,pt b 69,pt b 70,pt b 71,pt b 73,pt b 74] 197]) (λE=> .slice (some ⟨(E.y 0),0,none⟩) 6 6):=by
 exact fG Tryz.func95 λw cs=>r0 [] [(2,.slice none 0 0)] [] (r0 [] [(3,pt b 68)] [] (r0 [(3,.l 0)] [(10,i6 2)] [] (rF [] 11 (rT [] 29 (rr (λa=>[(0,.v (pt b 68)),(1,.v (pt b 68)),(2,.v (pt b 68)),(3,.v (pt b 68)),(4,.v (pt b 68)),(5,.v (pt b 69)),(6,.v (pt b 68)),(7,.v (pt b 68)),(8,.v (pt b 70)),(9,.v (pt b 68)),(10,.v (pt b 68)),(11,.v (pt b 71)),(12,.v (pt b 67)),(13,.v (pt b 67)),(14,.v (pt b 73)),(15,.v (pt b 67)),(16,.v (pt b 67)),(17,.v (pt b 74)),(18,.m (bs 1 6)),(19,.v (.slice (some ⟨(a 18).y 0,0,none⟩) 6 6))]) (λa=>[(2,.slice (some ⟨(a 18).y 0,0,none⟩) 6 6)]) [2] (λa L=>L++[ob ((a 18).y 0) #[pt b 68,pt b 69,pt b 70,pt b 71,pt b 73,pt b 74] 197]) λa=>lf (.l [(a 18).y 0] [] []) [1] [(0,0)] [])))))
theorem EN(b:Nat)(k n:Int)(d:List UInt8)(m:Nat)(c e f g h i j:Int):aa VA 95 #[pt b 67] [ob b (sV k n d m 3 c e f g h i j) 50] [] (λE=>[ob (E.y 0) #[pt b 68,pt b 69,pt b 70,pt b 72,pt b 74] 197]) (λE=> .slice (some ⟨(E.y 0),0,none⟩) 5 5):=by
 exact fG Tryz.func95 λw cs=>r0 [] [(2,.slice none 0 0)] [] (r0 [] [(3,pt b 68)] [] (r0 [(3,.l 0)] [(10,i6 3)] [] (rF [] 11 (rF [] 29 (rT [] 50 (rr (λa=>[(0,.v (pt b 68)),(1,.v (pt b 68)),(2,.v (pt b 68)),(3,.v (pt b 68)),(4,.v (pt b 68)),(5,.v (pt b 69)),(6,.v (pt b 68)),(7,.v (pt b 68)),(8,.v (pt b 70)),(9,.v (pt b 67)),(10,.v (pt b 67)),(11,.v (pt b 72)),(12,.v (pt b 67)),(13,.v (pt b 67)),(14,.v (pt b 74)),(15,.m (bs 1 5)),(16,.v (.slice (some ⟨(a 15).y 0,0,none⟩) 5 5))]) (λa=>[(2,.slice (some ⟨(a 15).y 0,0,none⟩) 5 5)]) [2] (λa L=>L++[ob ((a 15).y 0) #[pt b 68,pt b 69,pt b 70,pt b 72,pt b 74] 197]) λa=>lf (.l [(a 15).y 0] [] []) [1] [(0,0)] []))))))
theorem EO(b:Nat)(k n:Int)(d:List UInt8)(m:Nat)(c e f g h i j:Int):aa VA 95 #[pt b 67] [ob b (sV k n d m 4 c e f g h i j) 50] [] (λE=>[ob (E.y 0) #[pt b 68,pt b 69,pt b 71,pt b 72,pt b 74] 197]) (λE=> .slice (some ⟨(E.y 0),0,none⟩) 5 5):=by
 exact fG Tryz.func95 λw cs=>r0 [] [(2,.slice none 0 0)] [] (r0 [] [(3,pt b 68)] [] (r0 [(3,.l 0)] [(10,i6 4)] [] (rF [] 11 (rF [] 29 (rF [] 50 (rT [] 68 (rr (λa=>[(0,.v (pt b 68)),(1,.v (pt b 68)),(2,.v (pt b 68)),(3,.v (pt b 68)),(4,.v (pt b 68)),(5,.v (pt b 69)),(6,.v (pt b 68)),(7,.v (pt b 68)),(8,.v (pt b 71)),(9,.v (pt b 67)),(10,.v (pt b 67)),(11,.v (pt b 72)),(12,.v (pt b 67)),(13,.v (pt b 67)),(14,.v (pt b 74)),(15,.m (bs 1 5)),(16,.v (.slice (some ⟨(a 15).y 0,0,none⟩) 5 5))]) (λa=>[(2,.slice (some ⟨(a 15).y 0,0,none⟩) 5 5)]) [2] (λa L=>L++[ob ((a 15).y 0) #[pt b 68,pt b 69,pt b 71,pt b 72,pt b 74] 197]) λa=>lf (.l [(a 15).y 0] [] []) [1] [(0,0)] [])))))))
theorem EP(b:Nat)(k n:Int)(d:List UInt8)(m:Nat)(c e f g h i j:Int):aa VA 95 #[pt b 67] [ob b (sV k n d m 5 c e f g h i j) 50] [] (λE=>[ob (E.y 0) #[pt b 68,pt b 72,pt b 74] 197]) (λE=> .slice (some ⟨(E.y 0),0,none⟩) 3 3):=by
 exact fG Tryz.func95 λw cs=>r0 [] [(2,.slice none 0 0)] [] (r0 [] [(3,pt b 68)] [] (r0 [(3,.l 0)] [(10,i6 5)] [] (rF [] 11 (rF [] 29 (rF [] 50 (rF [] 68 (rT [] 86 (rr (λ_=>[(9,.m (bs 1 3))]) (λa=>[(2,.slice (some ⟨(a 9).y 0,0,none⟩) 3 3)]) [2] (λa L=>L++[ob ((a 9).y 0) #[pt b 68,pt b 72,pt b 74] 197]) λa=>lf (.l [(a 9).y 0] [] []) [1] [(0,0)] []))))))))
theorem ER(b:Nat)(k n:Int)(d:List UInt8)(m:Nat)(c e f g h i j:Int):aa VA 95 #[pt b 67] [ob b (sV k n d m 6 c e f g h i j) 50] [] (λE=>[ob (E.y 0) #[pt b 68,pt b 69,pt b 70,pt b 71] 197]) (λE=> .slice (some ⟨(E.y 0),0,none⟩) 4 4):=by
 exact fG Tryz.func95 λw cs=>r0 [] [(2,.slice none 0 0)] [] (r0 [] [(3,pt b 68)] [] (r0 [(3,.l 0)] [(10,i6 6)] [] (rF [] 11 (rF [] 29 (rF [] 50 (rF [] 68 (rF [] 86 (rT [] 98 (rr (λa=>[(0,.v (pt b 68)),(1,.v (pt b 68)),(2,.v (pt b 68)),(3,.v (pt b 68)),(4,.v (pt b 68)),(5,.v (pt b 69)),(6,.v (pt b 68)),(7,.v (pt b 68)),(8,.v (pt b 70)),(9,.v (pt b 68)),(10,.v (pt b 68)),(11,.v (pt b 71)),(12,.m (bs 1 4)),(13,.v (.slice (some ⟨(a 12).y 0,0,none⟩) 4 4))]) (λa=>[(2,.slice (some ⟨(a 12).y 0,0,none⟩) 4 4)]) [2] (λa L=>L++[ob ((a 12).y 0) #[pt b 68,pt b 69,pt b 70,pt b 71] 197]) λa=>lf (.l [(a 12).y 0] [] []) [1] [(0,0)] [])))))))))
theorem ES(b:Nat)(k j:Int)(d:List UInt8)(m:Nat)(a c e f g h i:Int):aa VA 95 #[pt b 67] [ob b (sV k j d m 7 a c e f g h i) 50] [] N0 (λ_=> .slice none 0 0):=by
 exact fG Tryz.func95 λw cs=>r0 [] [(2,.slice none 0 0)] [] (r0 [] [(3,pt b 68)] [] (r0 [(3,.l 0)] [(10,i6 7)] [] (rF [] 11 (rF [] 29 (rF [] 50 (rF [] 68 (rF [] 86 (rF [] 98 (r0 [] [(2,.slice none 0 0)] [2] (lf ab.zero [] [(0,0)] []))))))))))
end E
end Go.Proofs.YtbcodenfkijdnaaGreat
