/- WholeLater, in 7 texts: part 4. For every input; no condition. -/
import Derived.Test.YtbcodenfkijdnaaGreatPl3
set_option linter.unusedVariables false
set_option linter.unusedSimpArgs false
set_option maxRecDepth 100000
namespace Go.Proofs.YtbcodenfkijdnaaGreat
open Go Go.RowKit Go.Shelf
open Go.Proofs.Tryz renaming prog→WJ
open List renaming replicate→WK,length_append→WL,getD_eq_getElem?_getD→WM,length_replicate→WN,getElem?_eq_getElem→WO,length_set→WR,length_take→WS,length_map→WT,length_drop→WY,length_eraseIdx→WZ,append_assoc→W5,range→W6,length_range→W7,not_mem_nil→W9,take_add_one→Xb,take_length→Xc,drop_eq_getElem_cons→Xf,take_zero→Xg,mem_or_eq_of_mem_set→Xh,set_append_right→Xj,toList_toArray→Xm,getElem?_drop→Xp,foldl_append→Xr,length_cons→Xu,length_tail→Xv,mem_cons→Xw,map_cons→Xy,flatten→Xz
open Nat renaming le_trans→WQ,succ_le_succ→WV,zero_le→WX,le_refl→W4,le_succ_of_le→W8,lt_succ_self→Xd,mul_assoc→Xi,mul_comm→Xl,mul_le_mul_right→Xn,lt_succ_of_lt→Xs,mul_succ→XC
open Bool renaming and_eq_true→WU,or_eq_false_iff→Xa,or_eq_true→Xe,true_and→Xx
open Int renaming natCast_mul→WW,toNat_of_nonneg→Xq
open Classical renaming choose→Xk
open Go.Result renaming andThen_ok→Xo
open Go.Sem renaming run_bind→XA,run_pure→XB
namespace E
theorem PV(g:Nat)(c:Lg)(x:Re)(d:fP c)(j:c.l.length≠c.K):aa WJ 235 #[pt g 0,.agg #[iN x.s,iN x.t,iN x.k,iN x.i,iN x.o]] [pk (az g c)] [0] (λ_=>[pk (az g {c with l:=c.l++[qb x c.next],next:=c.next+1})]) (λ_=> .tuple #[.agg #[iN c.next,iN x.t,iN x.k,iN x.i,iN x.o],.bool true]):=aa.pkZ Tryz.func235 λL e=>by
 obtain⟨v,rfl⟩:=e;refine⟨[0,1],λE=>[ob g #[(E.val 0),iN c.K,iN (c.next+1),.bool c.lost] 124,ir (E.val 0) (c.l++([(⟨c.next,x.t,x.k,x.i,x.o⟩:Re)]))],?_,rfl,λE=>⟨rfl,rfl,⟨_,rfl⟩⟩⟩;have f:=d.l;have k:=d.r;have i:=d.n;exact fG Tryz.func235 λw cs=>ra (λa=>[(3,pt (B0 a) 0),(4,pt (B1 a) 0),(5,.bool false)]) (λa=>[ob (B0 a) #[iN x.s,iN x.t,iN x.k,iN x.i,iN x.o] 59,ob (B1 a) #[i6 0,i6 0,i6 0,i6 0,i6 0] 59]) λa=>rs [(3,.l 0),(5,.s 2)] 2 (ob (B0 a) #[iN c.next,iN x.t,iN x.k,iN x.i,iN x.o] 59) (rs [(3,.l 0),(4,ad c.next 1),(7,.s 0)] 0 (ob g #[v,iN c.K,iN (c.next+1),.bool c.lost] 124) (rF [(3,.l 0),(4,e8 iq v c.l 1),(8,.l 0),(9,.t (tk (show Value.bool ((c.l.length:Int)==(c.K:Int))= .bool false from ALca Value.bool (by rw[dN];omega))))] 28 (rr (λb=>[(4,.l 0),(5,.l 2),(6,.m (bs 4 1)),(7,eT iq (v) c.l 1 4 ([(⟨c.next,x.t,x.k,x.i,x.o⟩:Re)])),(10,.m (fj 0 1 (ir ((b 7).val 0) (c.l++([(⟨c.next,x.t,x.k,x.i,x.o⟩:Re)]))) ((b 7).val 0) λbs h=>aq.one ((λ_ h=>h) bs h)))]) N0 [] (λb L=>(L.set 0 (ob g #[(b 7).val 0,iN c.K,iN (c.next+1),.bool c.lost] 124)).set 1 (ir ((b 7).val 0) (c.l++([(⟨c.next,x.t,x.k,x.i,x.o⟩:Re)])))++[ob (B6 b) #[iN c.next,iN x.t,iN x.k,iN x.i,iN x.o] 59]) λb=>rr (λ_=>[(0,.l 2),(1,.s 3)]) (λ_=>[(5,.bool true)]) [5] (λ_ L=>L.set 3 (ob (B1 a) #[iN c.next,iN x.t,iN x.k,iN x.i,iN x.o] 59)) λn=>lf (.l [] [] [(b 7).val 0]) [0,1] [] [3])))
theorem PW(g:Nat)(c:Lg)(x:Re)(b:fP c)(f:c.l.length=c.K)(i:cY x=true):aa WJ 235 #[pt g 0,.agg #[iN x.s,iN x.t,iN x.k,iN x.i,iN x.o]] [pk (az g c)] [0] (λ_=>[pk (az g {c with next:=c.next+1,lost:=true})]) (λ_=> .tuple #[.agg #[iN c.next,iN x.t,iN x.k,iN x.i,iN x.o],.bool false]):=aa.pkZ Tryz.func235 λL e=>by
 obtain⟨v,rfl⟩:=e;refine⟨[0,1],λ_=>[ob g #[v,iN c.K,iN (c.next+1),.bool true] 124,ir v c.l],?_,rfl,λE=>⟨rfl,rfl,⟨_,rfl⟩⟩⟩;have j:=b.l;have n:=b.r;have m:=b.n;refine fG Tryz.func235 λw cs=>ra (λa=>[(3,pt (B0 a) 0),(4,pt (B1 a) 0),(5,.bool false)]) (λa=>[ob (B0 a) #[iN x.s,iN x.t,iN x.k,iN x.i,iN x.o] 59,ob (B1 a) #[i6 0,i6 0,i6 0,i6 0,i6 0] 59]) λa=>rs [(3,.l 0),(5,.s 2)] 2 (ob (B0 a) #[iN c.next,iN x.t,iN x.k,iN x.i,iN x.o] 59) (rs [(3,.l 0),(4,ad c.next 1),(7,.s 0)] 0 (ob g #[v,iN c.K,iN (c.next+1),.bool c.lost] 124) (rT [(3,.l 0),(4,e8 iq v c.l 1),(8,.l 0),(9,.t (tk (show Value.bool ((c.l.length:Int)==(c.K:Int))= .bool true from ALca Value.bool (by rw[f];exact beq_self_eq_true _))))] 28 (rs [(3,.s 0)] 0 (ob g #[v,iN c.K,iN (c.next+1),.bool true] 124) (r0 [(1,.c [0,1] [] (aa.at (rd':=[ob g #[v,iN c.K,iN (c.next+1),.bool true] 124,ir v c.l]) (yM g v c.l c.K (c.next+1) true Om) (aP (bL (λ_ h=>aq.sq h) (λ_ h=>h)))))] [(6,i6 (iu cY c.l))] [] (r0 [(0,.l 2),(1,.c [] [] (vk (⟨c.next,x.t,x.k,x.i,x.o⟩:Re)))] [(40,.bool ((!(((⟨c.next,x.t,x.k,x.i,x.o⟩:Re).k:Int)==2))||(decide ((iu cY c.l)<0))))] [] ?_)))));have d:((!(((⟨c.next,x.t,x.k,x.i,x.o⟩:Re).k:Int)==2))||(decide ((iu cY c.l)<0)))=true:=by rw[show(!((x.k:Int)==2))=true from i];rfl
 exact cT ((!(((⟨c.next,x.t,x.k,x.i,x.o⟩:Re).k:Int)==2))||(decide ((iu cY c.l)<0))) d (rr (λ_=>[(0,.l 2),(1,.s 3)]) (λ_=>[(5,.bool false)]) [5] (λ_ L=>L.set 3 (ob (B1 a) #[iN c.next,iN x.t,iN x.k,iN x.i,iN x.o] 59)) λo=>lf ab.zero [0,1] [] [3])
theorem PX(g:Nat)(c:Lg)(x:Re)(b:fP c)(f:c.l.length=c.K)(o:cY x=false)(i:a1 cY c.l=c.l.length):aa WJ 235 #[pt g 0,.agg #[iN x.s,iN x.t,iN x.k,iN x.i,iN x.o]] [pk (az g c)] [0] (λ_=>[pk (az g {c with next:=c.next+1,lost:=true})]) (λ_=> .tuple #[.agg #[iN c.next,iN x.t,iN x.k,iN x.i,iN x.o],.bool false]):=aa.pkZ Tryz.func235 λL e=>by
 obtain⟨v,rfl⟩:=e;refine⟨[0,1],λ_=>[ob g #[v,iN c.K,iN (c.next+1),.bool true] 124,ir v c.l],?_,rfl,λE=>⟨rfl,rfl,⟨_,rfl⟩⟩⟩;have j:=b.l;have n:=b.r;have m:=b.n;refine fG Tryz.func235 λw cs=>ra (λa=>[(3,pt (B0 a) 0),(4,pt (B1 a) 0),(5,.bool false)]) (λa=>[ob (B0 a) #[iN x.s,iN x.t,iN x.k,iN x.i,iN x.o] 59,ob (B1 a) #[i6 0,i6 0,i6 0,i6 0,i6 0] 59]) λa=>rs [(3,.l 0),(5,.s 2)] 2 (ob (B0 a) #[iN c.next,iN x.t,iN x.k,iN x.i,iN x.o] 59) (rs [(3,.l 0),(4,ad c.next 1),(7,.s 0)] 0 (ob g #[v,iN c.K,iN (c.next+1),.bool c.lost] 124) (rT [(3,.l 0),(4,e8 iq v c.l 1),(8,.l 0),(9,.t (tk (show Value.bool ((c.l.length:Int)==(c.K:Int))= .bool true from ALca Value.bool (by rw[f];exact beq_self_eq_true _))))] 28 (rs [(3,.s 0)] 0 (ob g #[v,iN c.K,iN (c.next+1),.bool true] 124) (r0 [(1,.c [0,1] [] (aa.at (rd':=[ob g #[v,iN c.K,iN (c.next+1),.bool true] 124,ir v c.l]) (PN g v c.l c.K (c.next+1) true Om Om) (aP (bL (λ_ h=>aq.sq h) (λ_ h=>h)))))] [(6,i6 (-1))] [] (r0 [(0,.l 2),(1,.c [] [] (vk (⟨c.next,x.t,x.k,x.i,x.o⟩:Re)))] [(40,.bool ((!(((⟨c.next,x.t,x.k,x.i,x.o⟩:Re).k:Int)==2))||true))] [] ?_)))));have d:((!(((⟨c.next,x.t,x.k,x.i,x.o⟩:Re).k:Int)==2))||true)=true:=by rw[Bool.or_true]
 exact cT ((!(((⟨c.next,x.t,x.k,x.i,x.o⟩:Re).k:Int)==2))||true) d (rr (λ_=>[(0,.l 2),(1,.s 3)]) (λ_=>[(5,.bool false)]) [5] (λ_ L=>L.set 3 (ob (B1 a) #[iN c.next,iN x.t,iN x.k,iN x.i,iN x.o] 59)) λp=>lf ab.zero [0,1] [] [3])
theorem PY(g:Nat)(c:Lg)(x:Re)(e:fP c)(o:c.l.length=c.K)(p:cY x=false)(n:a1 cY c.l<c.l.length):aa WJ 235 #[pt g 0,.agg #[iN x.s,iN x.t,iN x.k,iN x.i,iN x.o]] [pk (az g c)] [0] (λ_=>[pk (az g {c with l:=c.l.eraseIdx (a1 cY c.l)++[qb x c.next],next:=c.next+1,lost:=true})]) (λ_=> .tuple #[.agg #[iN c.next,iN x.t,iN x.k,iN x.i,iN x.o],.bool true]):=aa.pkZ Tryz.func235 λL i=>by
 obtain⟨v,rfl⟩:=i;refine⟨[0,1],λE=>[ob g #[(E.val 0),iN c.K,iN (c.next+1),.bool true] 124,ir (E.val 0) ((c.l.eraseIdx (a1 cY c.l))++([(⟨c.next,x.t,x.k,x.i,x.o⟩:Re)]))],?_,rfl,λE=>⟨rfl,rfl,⟨_,rfl⟩⟩⟩;have r:=e.l;have y:=e.r;have u:=e.n;have j:(c.l.eraseIdx (a1 cY c.l)).length=c.l.length-1:=by rw[WZ,ALifp n]
 refine fG Tryz.func235 λw cs=>ra (λb=>[(3,pt (B0 b) 0),(4,pt (B1 b) 0),(5,.bool false)]) (λb=>[ob (B0 b) #[iN x.s,iN x.t,iN x.k,iN x.i,iN x.o] 59,ob (B1 b) #[i6 0,i6 0,i6 0,i6 0,i6 0] 59]) λb=>rs [(3,.l 0),(5,.s 2)] 2 (ob (B0 b) #[iN c.next,iN x.t,iN x.k,iN x.i,iN x.o] 59) (rs [(3,.l 0),(4,ad c.next 1),(7,.s 0)] 0 (ob g #[v,iN c.K,iN (c.next+1),.bool c.lost] 124) (rT [(3,.l 0),(4,e8 iq v c.l 1),(8,.l 0),(9,.t (tk (show Value.bool ((c.l.length:Int)==(c.K:Int))= .bool true from ALca Value.bool (by rw[o];exact beq_self_eq_true _))))] 28 (rs [(3,.s 0)] 0 (ob g #[v,iN c.K,iN (c.next+1),.bool true] 124) (r0 [(1,.c [0,1] [] (aa.at (rd':=[ob g #[v,iN c.K,iN (c.next+1),.bool true] 124,ir v c.l]) (PM g v c.l c.K (c.next+1) true Om Om) (aP (bL (λ_ h=>aq.sq h) (λ_ h=>h)))))] [(6,iN (a1 cY c.l))] [] (r0 [(0,.l 2),(1,.c [] [] (vk (⟨c.next,x.t,x.k,x.i,x.o⟩:Re)))] [(40,.bool ((!(((⟨c.next,x.t,x.k,x.i,x.o⟩:Re).k:Int)==2))||(decide (((a1 cY c.l:Nat):Int)<0))))] [] ?_)))));have f:((!(((⟨c.next,x.t,x.k,x.i,x.o⟩:Re).k:Int)==2))||(decide (((a1 cY c.l:Nat):Int)<0)))=false:=by rw[show(!((x.k:Int)==2))=false from p,Bool.false_or];exact bf Om
 exact cF ((!(((⟨c.next,x.t,x.k,x.i,x.o⟩:Re).k:Int)==2))||(decide (((a1 cY c.l:Nat):Int)<0))) f (rr (λd=>[(4,.m (ld 0 (v))),(7,ad (a1 cY c.l) 1),(8,.c [1] [1] (PU v c.l (a1 cY c.l) Om)),(11,.m (fj 0 1 (ir ((d 8).val 0) (c.l.eraseIdx (a1 cY c.l))) ((d 8).val 0) λbs h=>aq.one ((λ_ h=>h) bs h)))]) N0 [] (λd L=>(L.set 0 (ob g #[(d 8).val 0,iN c.K,iN (c.next+1),.bool true] 124)).set 1 (ir ((d 8).val 0) (c.l.eraseIdx (a1 cY c.l)))) λd=>rr (λa=>[(4,.l 0),(5,.l 2),(6,.m (bs 4 1)),(7,eT iq ((d 8).val 0) (c.l.eraseIdx (a1 cY c.l)) 1 4 ([(⟨c.next,x.t,x.k,x.i,x.o⟩:Re)])),(10,.m (fj 0 1 (ir ((a 7).val 0) ((c.l.eraseIdx (a1 cY c.l))++([(⟨c.next,x.t,x.k,x.i,x.o⟩:Re)]))) ((a 7).val 0) λbs h=>aq.one ((λ_ h=>h) bs h)))]) N0 [] (λa L=>(L.set 0 (ob g #[(a 7).val 0,iN c.K,iN (c.next+1),.bool true] 124)).set 1 (ir ((a 7).val 0) ((c.l.eraseIdx (a1 cY c.l))++([(⟨c.next,x.t,x.k,x.i,x.o⟩:Re)])))++[ob (B6 a) #[iN c.next,iN x.t,iN x.k,iN x.i,iN x.o] 59]) λa=>rr (λ_=>[(0,.l 2),(1,.s 3)]) (λ_=>[(5,.bool true)]) [5] (λ_ L=>L.set 3 (ob (B1 b) #[iN c.next,iN x.t,iN x.k,iN x.i,iN x.o] 59)) λq=>lf (.l [] [] [(a 7).val 0]) [0,1] [] [3])
theorem PZ(g:Nat)(c:Lg)(x:Re)(d:fP c):aa WJ 235 #[pt g 0,.agg #[iN x.s,iN x.t,iN x.k,iN x.i,iN x.o]] [pk (az g c)] [0] (λ_=>[pk (az g (bX c x))]) (λ_=> .tuple #[.agg #[iN c.next,iN x.t,iN x.k,iN x.i,iN x.o],.bool (D7 c x)]):=by
 unfold bX D7;by_cases a:c.l.length=c.K
 ·rw[ALifp a,cD a];cases e:cY x with
  | true=>rw[ALifp (.inl rfl)];exact PW g c x d a e
  | false=>
   by_cases b:a1 cY c.l=c.l.length
   ·rw[ALifp (.inr b),cD b];exact PX g c x d a e b
   ·rw[ALifn (λh=>h.elim (λh=>by cases h) b),bf b];exact PY g c x d a e (by have:=o6 cY c.l;omega)
 ·rw[ALifn a,bf a];exact PV g c x d a
section
section
variable {α:Type} {P:Program} {en:α→List Value} {z:List Value} {e T:TypeId} {v:Value} {xs ys:List α} {bs:ay} {w:World}
theorem P0{i:Nat}(a:i<xs.length):ak en xs=ak en (xs.take i)++(en xs[i]++ak en (xs.drop (i+1))):=by
 have e:xs=xs.take i++(xs[i]::xs.drop (i+1)):=by rw[←Xf a,List.take_append_drop]
 conv=>lhs;rw[e]
 rw[kp];rfl
theorem P1{i:Nat}{a:α}(b:i<xs.length):ak en (xs.set i a)=ak en (xs.take i)++(en a++ak en (xs.drop (i+1))):=by
 rw[List.set_eq_take_append_cons_drop,ALifp b,kp];rfl
theorem P2(A X C l:List Value)(f:Nat)(c:f+l.length≤X.length):(A++(X++C)).take (A.length+f)++l++(A++(X++C)).drop (A.length+f+l.length)=A++((X.take f++l++X.drop (f+l.length))++C):=by
 have a:(A++(X++C)).take (A.length+f)=A++X.take f:=by
  rw[List.take_append,List.take_of_length_le Om,Nat.add_sub_cancel_left,List.take_append_of_le_length Om]
 have b:(A++(X++C)).drop (A.length+f+l.length)=X.drop (f+l.length)++C:=by
  rw[List.drop_append,List.drop_eq_nil_of_le Om,List.nil_append,show A.length+f+l.length-A.length=f+l.length by omega,List.drop_append_of_le_length c]
 rw[a,b];simp only[W5]
theorem P3(p i k f:Nat){a d:α}{l:List Value}(u: ∀y,(en y).length=k)(m:i<xs.length)(N:f+l.length≤k)(Q:en a=(en (xs.getD i d)).take f++l++(en (xs.getD i d)).drop (f+l.length)):MD.ok P (λ_=>undef) (pH P p (.p (aq en z T v xs)) (.p (aq en z T v (xs.set i a))) v (i*k+f) l) [p]:=by
 intro o ρ C j w c s;unfold pH at j s⊢
 split at j
 ·rename_i I x y n;simp only[n] at s⊢;simp only[Xw,W9,or_false,forall_eq_or_imp,forall_eq,sE,sB] at j;obtain⟨F,M,K,L⟩:=j;obtain⟨J,D⟩:=s.ent;obtain⟨g,r,rfl,G⟩:=aq.some (show aq en z T v xs (c p) from J) m;rw[G] at D;have b:=D.one;have t:xs.getD i d=xs[i]:=by rw[WM,WO m];rfl
  have hA:(ak en (xs.take i)).length=i*k:=fJ u (by rw[WS];omega);have O:(bF (ak en xs) z r).toList.take (0+(i*k+f))++l++(bF (ak en xs) z r).toList.drop (0+(i*k+f)+l.length)=(bF (ak en (xs.set i a)) z r).toList:=by
   unfold bF;rw[Xm,Xm,P0 (en:=en) m,P1 m,Q,t,Nat.zero_add,←hA];have:=P2 (ak en (xs.take i)) (en xs[i]) (ak en (xs.drop (i+1))++(WK r z).flatten) l f (by rw[u];exact N);simp only[W5] at this⊢;exact this
  have A:0+(i*k+f)+l.length≤(bF (ak en xs) z r).size:=by
   rw[tD,fJ u rfl];have:=Xn k (show i+1≤xs.length from m);rw[Nat.add_mul] at this;omega
  simp only[e7,add_lit] at F;have B:=a8.setRow (bF (ak en (xs.set i a)) z r) b;refine⟨ab.zero,λ_=>[(g,.cells (bF (ak en (xs.set i a)) z r) T (0,0))],w.setRow g (bF (ak en (xs.set i a)) z r),.inr ⟨?_,by simp⟩,λq h=>?_,?_⟩
  ·unfold execOp;have H:=tt (P:=P) (T:=I) b A (List.all_eq_true.1 K) L;rw[O,Array.toArray_toList] at H;simp only[n,F,tu M,Instr.storeAt,Instr.sureAddr,XA,XB,Xo,H]
  ·rw[List.mem_singleton.1 h];exact .inr ⟨g,r,by rw[WR],rfl⟩
  ·rw[show([p].flatMap λp=>bN (c p))=_ by simp only[List.flatMap_cons,List.flatMap_nil,G,bN];rfl];exact B
 ·exact(bE j).elim
def Ec(K:Kd P α)(v:Value)(xs:List α)(p i f:Nat)(a:α)(l:List Value)(g:K.en a=(K.en (xs.getD i K.d)).take f++l++(K.en (xs.getD i K.d)).drop (f+l.length))(b:i<xs.length:=by omega)(c:f+l.length≤K.k:=by exact Nat.le_of_ble_eq_true rfl):b8 P:=
 .m ⟨[p],pH P p (.p (aq K.en K.z K.T v xs)) (.p (aq K.en K.z K.T v (xs.set i a))) v (i*K.k+f) l,P3 (d:=K.d) p i K.k f K.hk b c g⟩
end
end
structure Pa where
 k:Nat
 l:Nat
 a:Nat
deriving DecidableEq
def bA:Pa:=⟨0,0,0⟩
def o8(x:Pa):List Value:=[iN x.k,iN x.l,iN x.a]
def eK:Kd WJ Pa:=⟨o8,[i6 0,i6 0,i6 0],354,386,bA,3,λ_=>rfl,rfl,λ_=>rfl,dX.mk' Kr Kr rfl⟩
abbrev eh(v:Value)(xs:List Pa):aA:= .p (aq o8 ([i6 0,i6 0,i6 0]) 386 v xs)
def bM(k:Nat)(x:Pa):Bool:=(x.k:Int)==(k:Int)
structure Tb where
 l:List Pa
 K:Nat
structure iv (ev:Nat) (t:Tb):Prop where
 l:t.l.length≤t.K
 r1:1≤t.K
 r:t.K≤256
 b: ∀i,i<t.l.length→eY ev (t.l.getD i bA).l (t.l.getD i bA).a
abbrev dZ(g:Nat)(t:Tb)(L:aj):Prop:=∃v:Value,L=[ob g #[v,iN t.K,.func (.func 178) #[] #[]] 356,eh v t.l]
def ei(xs:List Pa):Nat→Nat×Nat
 | 0=>(0,0)
 | k+1=>if k=0∨(xs.getD k bA).l<(ei xs k).2 then(k,(xs.getD k bA).l) else ei xs k
theorem yO(xs:List Pa): ∀k,1≤k→(ei xs k).1<k
 | 0,h=>by omega
 | 1,_=>by unfold ei;rw[ALifp (.inl rfl)];exact Nat.zero_lt_one
 | k+2,_=>by
  unfold ei
  split
  ·exact Xd _
  ·exact Xs (yO xs (k+1) Om)
theorem P4{xs:List Pa}{k:Nat}(h:(((k:Int)==0)||decide ((((xs.getD k bA).l:Nat):Int)<(((ei xs k).2:Nat):Int)))=true):ei xs (k+1)=(k,(xs.getD k bA).l):=by
 rw[ei,ALifp];simp only[Xe,decide_eq_true_eq,beq_iff_eq] at h;omega
theorem P5{xs:List Pa}{k:Nat}(h:(((k:Int)==0)||decide ((((xs.getD k bA).l:Nat):Int)<(((ei xs k).2:Nat):Int)))=false):ei xs (k+1)=ei xs k:=by
 rw[ei,ALifn];simp only[Xa,decide_eq_false_iff_not,dN] at h;omega
def da(t:Tb)(k:Nat):Bk:=if a1 (bM k) t.l=t.l.length then bj else⟨(t.l.getD (a1 (bM k) t.l) bA).l,(t.l.getD (a1 (bM k) t.l) bA).a⟩
def vm(t:Tb)(k:Nat):Bool:= !decide (a1 (bM k) t.l=t.l.length)
def o9(t:Tb)(k l a:Nat):Tb:=
 if a1 (bM k) t.l=t.l.length then
  (if t.l.length=t.K then{t with l:=t.l.eraseIdx (ei t.l t.l.length).1++[⟨k,l,a⟩]} else{t with l:=t.l++[⟨k,l,a⟩]})
 else{t with l:=t.l.set (a1 (bM k) t.l) ⟨(t.l.getD (a1 (bM k) t.l) bA).k,l,a⟩}
def pa(t:Tb)(k:Nat):Tb:=if a1 (bM k) t.l=t.l.length then t else{t with l:=t.l.eraseIdx (a1 (bM k) t.l)}
def Ed(t:Tb)(k:Nat):Nat:=if a1 (bM k) t.l=t.l.length∧t.l.length=t.K then(t.l.getD (ei t.l t.l.length).1 bA).k else 0
def Ee(t:Tb)(k:Nat):Bool:=decide (a1 (bM k) t.l=t.l.length)&&decide (t.l.length=t.K)
structure Tk where
 lr:Nat
 er:Nat
 lp:Nat
 ep:Nat
 K:Nat
 J:Nat
 F:List Bk
 t:Tb
structure dV (c:Tk):Prop where
 r:iL c.lr c.er
 p:iL c.lp c.ep
 h1:1≤c.J
 h2:c.J≤65536
 n:c.F.length≤8
 b: ∀i,i<c.F.length→eY c.er (c.F.getD i bj).l (c.F.getD i bj).a
 t:iv c.ep c.t
abbrev aD(g a:Nat)(c:Tk)(L:aj):Prop:=∃v:Value,L=[ob g #[iN c.lr,iN c.er,iN c.lp,iN c.ep,iN c.K,iN c.J,v,pt a 0] 294,kC v c.F,pk (dZ a c.t)]
def fA(c:Tk)(r p n:Nat):Tk:={c with F:=c.F.set r ⟨cq (c.F.getD r bj).l n,(c.F.getD r bj).a⟩,t:=o9 c.t p (cq (da c.t p).l n) (da c.t p).a}
def pb(c:Tk)(r:Nat):Tk:={c with F:=c.F.set r ⟨0,0⟩}
def qc(c:Tk)(p:Nat):Tk:={c with t:=pa c.t p}
theorem iv.get{ev:Nat}{t:Tb}(h:iv ev t)(b:1≤ev)(k:Nat):eY ev (da t k).l (da t k).a:=by
 unfold da
 split
 ·exact⟨WX _,b⟩
 ·have:=o6 (bM k) t.l;exact h.b _ Om
theorem P6(l a:Nat):aa WJ 178 #[.agg #[iN l,iN a]] [] [] N0 (λ_=>iN l):=by
 exact fG Tryz.func178 λw cs=>ra (λb=>[(1,pt (B0 b) 0),(2,i6 0)]) (λb=>[ob (B0 b) #[iN l,iN a] 290]) λb=>r0 [(1,.l 0)] [(2,iN l)] [2] (lf ab.zero [] [] [])
theorem P7(b k:Nat)(x:Pa):aa WJ 279 #[.agg #[iN x.k,iN x.l,iN x.a],pt b 0] [ob b #[iN k] 3] [] N0 (λ_=> .bool (bM k x)):=by
 exact fG Tryz.func279 λw cs=>ra (λa=>[(2,pt (B0 a) 0),(3,.bool false)]) (λa=>[ob (B0 a) #[iN x.k,iN x.l,iN x.a] 386]) λa=>r0 [(1,.l 1),(2,.l 0)] [(3,.bool ((x.k:Int)==(k:Int)))] [3] (ao (.bool ((x.k:Int)==(k:Int))) ab.zero bg [] [(0,0)] [])
theorem P8(v:Value)(b k:Nat)(xs:List Pa)(m:xs.length≤1000000):aa WJ 278 #[v,.func (.func 279) #[] #[pt b 0]] [ob b #[iN k] 3,.p (aG o8 v xs)] [] N0 (λ_=>i6 (iu (bM k) xs)):=by
 refine fO Tryz.func278 1 rfl λf a=>fG Tryz.func278 λw cs=>r0 [] [(4,i6 0)] [] (r0 [(1,du a.1 1)] [(7,iN xs.length),(8,i6 0)] [] ?_);refine lq (λn=>n≤xs.length∧(∀j,j<n→bM k (xs.getD j bA)=false)) (λn=>[(8,iN n)]) (λ_ L=>L) (λn=>xs.length-n) 0 ⟨by omega,(λ_ h=>absurd h (Nat.not_lt_zero _))⟩ Kr Kr (λn ⟨l,e⟩=>?_);refine r0 [] [(9,.bool (decide ((n:Int)<(xs.length:Int))))] [] ?_;refine bW (n:Int) (xs.length:Int) (λg d=>?_) λg d=>?_
 ·refine r0 [] [(5,iN n)] [] (r0 [(3,eU a.1 1 n 3),(4,mx eK a.1 1 n 0 3),(5,.c [0] [] (P7 b k (xs.getD n bA)))] [(16,.bool (bM k (xs.getD n bA)))] [] ?_);refine cB (bM k (xs.getD n bA)) (λi=>?_) λi=>?_
  ·exact r0 [] [(4,iN n)] [] (ao (iN n) ab.zero (by(rw[D6 Om e As];done)) [] [(0,0),(1,1)] [])
  exact r0 [(0,ad n 1)] [(8,iN (n+1))] [8] (le (n+1) ⟨by omega,yz e As⟩ Om Kr [0,1] Kr)
 obtain rfl:xs.length=n:=by omega
 exact lx (r0 [] [(4,i6 (-1))] [] (ao (i6 (-1)) ab.zero (by(rw[D5 e];done)) [] [(0,0),(1,1)] []))
theorem Ef(g:Nat)(v:Value)(l:List Pa)(room k:Nat)(e:l.length≤1000000):aa WJ 261 #[pt g 0,iN k] [ob g #[v,iN room,.func (.func 178) #[] #[]] 356,.p (aG o8 v l)] [] N0 (λ_=>i6 (iu (bM k) l)):=by
 exact fO Tryz.func261 1 rfl λb d=>fG Tryz.func261 λw cs=>ra (λa=>[(3,pt (B0 a) 0),(4,i6 0)]) (λa=>[ob (B0 a) #[iN k] 3]) λa=>r0 [(3,.l 0),(5,.c [2,1] [] (aa.at (rd':=[ob (B0 a) #[iN k] 3,.c b]) (P8 v (B0 a) k l Om) (aP (ec d (λ_ h=>h)))))] [(4,i6 (iu (bM k) l))] [4] (lf ab.zero [] [(0,0),(1,1)] [])
theorem yP(g:Nat)(v:Value)(l:List Pa)(room k:Nat)(b:l.length≤1000000)(h:a1 (bM k) l<l.length):aa WJ 261 #[pt g 0,iN k] [ob g #[v,iN room,.func (.func 178) #[] #[]] 356,.p (aG o8 v l)] [] N0 (λ_=>iN (a1 (bM k) l)):=by
 have a:=Ef g v l room k b;unfold iu at a;rwa [ALifn Om] at a
theorem vn(g:Nat)(v:Value)(l:List Pa)(room k:Nat)(b:l.length≤1000000)(h:a1 (bM k) l=l.length):aa WJ 261 #[pt g 0,iN k] [ob g #[v,iN room,.func (.func 178) #[] #[]] 356,.p (aG o8 v l)] [] N0 (λ_=>i6 (-1)):=by
 have a:=Ef g v l room k b;unfold iu at a;rwa [ALifp h] at a
theorem P9(g:Nat)(v:Value)(l:List Pa)(room:Nat)(m:l.length≤1000000):aa WJ 263 #[pt g 0] [ob g #[v,iN room,.func (.func 178) #[] #[]] 356,.p (aG o8 v l)] [] N0 (λ_=>iN ((ei l l.length).1)):=by
 refine fO Tryz.func263 1 rfl λh b=>fG Tryz.func263 λw cs=>r0 [] [(2,i6 0)] [] (r0 [] [(3,i6 0),(4,i6 0)] [] (r0 [(3,.l 0),(4,du b.1 1)] [(11,v),(12,iN l.length),(13,i6 0)] [] ?_));refine lq (λk=>k≤l.length) (λk=>[(3,iN ((ei l k).1)),(4,iN ((ei l k).2)),(13,iN k)]) (λ_ L=>L) (λk=>l.length-k) 0 Om Kr Kr (λk j=>?_);refine r0 [] [(14,.bool (decide ((k:Int)<(l.length:Int))))] [] ?_;refine bW (k:Int) (l.length:Int) (λi e=>?_) λi e=>?_
 ·refine rr (λ_=>[(1,eU b.1 1 k 3),(2,mx eK b.1 1 k 0 3),(5,.s 2)]) (λd=>[(6,pt (B3 d) 0),(5,iN k)]) [] (λd L=>L++[ob (B3 d) #[iN ((l.getD k bA).k),iN ((l.getD k bA).l),iN ((l.getD k bA).a)] 386]) λd=>r0 [(3,.l 0),(5,.l 2),(6,.c [] [] (P6 ((l.getD k bA).l) ((l.getD k bA).a)))] [(7,iN ((l.getD k bA).l))] [] (r0 [] [(31,.bool (((k:Int)==0)||(decide ((((l.getD k bA).l:Nat):Int)<(((ei l k).2:Nat):Int)))))] [] ?_);refine cB (((k:Int)==0)||(decide ((((l.getD k bA).l:Nat):Int)<(((ei l k).2:Nat):Int)))) (λf=>?_) λf=>?_
  ·exact r0 [] [(3,iN k),(4,iN ((l.getD k bA).l))] [3,4] (r0 [(0,ad k 1)] [(13,iN (k+1))] [13] (le (k+1) Om Om (by(rw[P4 As]);kernel_rfl) [0,1] Kr))
  exact r0 [(0,ad k 1)] [(13,iN (k+1))] [13] (le (k+1) Om Om (by(rw[P5 As]);kernel_rfl) [0,1] Kr)
 obtain rfl:l.length=k:=by omega
 exact lx (r0 [] [(2,iN ((ei l l.length).1))] [2] (lf ab.zero [] [(0,0),(1,1)] []))
section
open Go.Lib
set_option maxRecDepth 1000000 in
set_option maxHeartbeats 1000000 in
theorem Qa(g n b i j:Nat)(w:World)(S:i<j)(R:j≤n)(H:n≤b)(a:Array Value)(x:w.heap[g]? =some (.cells a 386 (0,0)))(news:List Value)(d:news.length=(n-(j))*3)(m: ∀u∈news,u.oneCell'=true)(o: ∀t u,news[t]? =some u→w.cell? ⟨g,(j)*3+t,none⟩=some u)(k:i*3+news.length≤a.size)(C:n*3≤a.size):Calls WJ 280 #[.slice (some ⟨g,0,none⟩) n b,.int .i64 (i:Int),.int .i64 (j:Int)] w λe w'=>e= .returned (.slice (some ⟨g,0,none⟩) (n-(j-i)) b)∧w'=(w.drew.setRow g (a.toList.take (i*3)++news++a.toList.drop (i*3+news.length)).toArray).setRow g ((a.toList.take (i*3)++news++a.toList.drop (i*3+news.length)).toArray.toList.take ((i+(n-j))*3)++(WK (n-(i+(n-j))) eK.z).flatten++(a.toList.take (i*3)++news++a.toList.drop (i*3+news.length)).toArray.toList.drop ((i+(n-j))*3+(n-(i+(n-j)))*3)).toArray:=by
 have F:Tryz.prog.follows .mixedOrders=true:=by kernel_rfl
 have P:i≤b:=by omega
 have Q:j≤b:=by omega
 obtain⟨V,Z,B,T,D,U,N⟩:=eK.hT.hi;obtain⟨A,hA,s⟩: ∃A:Addr,(if b=j then some (⟨g,0,none⟩:Addr) else some ⟨g,(j)*3,none⟩)=some A∧Hid (∀t u,news[t]? =some u→w.drew.cell? (A.add t)=some u):=by
  by_cases h:b=j
  ·refine⟨⟨g,0,none⟩,by simp [h],λt u v=>?_⟩;have K:news.length=0:=by rw[d];omega
   rw[List.length_eq_zero_iff.1 K] at v;simp at v
  ·exact⟨⟨g,(j)*3,none⟩,by simp [h],λt u v=>by rw[Addr.add_lit];exact o t u v⟩
 have W:Hid (news.length=(n-(j))*3):=d;have X:Hid (∀u∈news,u.oneCell'=true):=m;have Y:Hid (i*3+news.length≤a.size):=k;have I:Hid (w.drew.heap[g]? =some (.cells a 386 (0,0))):=x;obtain⟨p,q⟩: ∃p,p=w.drew.setRow g (a.toList.take (i*3)++news++a.toList.drop (i*3+news.length)).toArray:=⟨_,rfl⟩;have G:Hid (p=w.drew.setRow g (a.toList.take (i*3)++news++a.toList.drop (i*3+news.length)).toArray):=q;obtain⟨c,f⟩: ∃c,c=(a.toList.take (i*3)++news++a.toList.drop (i*3+news.length)).toArray:=⟨_,rfl⟩;have y:c.size=a.size:=by
  rw[f];simp only[List.size_toArray,WL,WS,WY,Array.length_toList];omega
 have l:p.heap[g]? =some (.cells c 386 (0,0)):=by rw[q,←f];exact setRow_heap _ g a _ _ _ I.out
 obtain⟨z,r⟩: ∃z,z=p.setRow g (c.toList.take ((i+(n-j))*3)++(WK (n-(i+(n-j))) eK.z).flatten++c.toList.drop ((i+(n-j))*3+(n-(i+(n-j)))*3)).toArray:=⟨_,rfl⟩;have O: ∀J,(Builtin.clear_ #[354] J #[.slice (some ⟨g,(i+(n-j))*3,none⟩) (n-(i+(n-j))) (b-(i+(n-j)))]).run WJ p= .ok (.tuple #[]) z:=λJ=>by
  rw[r];exact Ea eK.hT l Om (by show _+_*3≤_;rw[y];omega) (λu v=>by
   simp only[eK,Xw,W9,or_false] at v;rcases v with rfl | rfl | rfl<;>rfl)
 have L:Hid (z=p.setRow g (c.toList.take ((i+(n-j))*3)++(WK (n-(i+(n-j))) eK.z).flatten++c.toList.drop ((i+(n-j))*3+(n-(i+(n-j)))*3)).toArray):=r;have M:Hid (c=(a.toList.take (i*3)++news++a.toList.drop (i*3+news.length)).toArray):=f;clear q o d m k x r l y f
 go_enter Tryz.func280,Tryz.ntmps280
 go_wp2_with fail
 go_region_law_o (refine D9 rfl (.tmp 22) (.tmp 25) 354 rfl 386 V 3 eK.hT.ht B D g i b a I.out (by simp [Act.eval,Act.put]) A (n-(j)) (b-(j)) news (by simp [Act.eval,Act.put]) W.out s.out X.out Om Y.out ?_;rw[←G.out])
 go_wp2
 go_ret
 refine⟨by rw[show n-(j-i)=i+(n-j) by omega];rfl,?_⟩;rw[L.out,G.out,M.out]
theorem Qb(v:Value)(xs:List Pa)(i:Nat)(k:i<xs.length):aa WJ 280 #[v,iN i,iN (i+1)] [eh v xs] [0] (λE=>[eh (E.val 0) (xs.eraseIdx i)]) (λE=>E.val 0):=
 Eb eK (enters_of Tryz.func280 Kr rfl) k λg f w h e b j m l d c a=>Qa g xs.length f i (i+1) w (Xd i) k b h j e m l d c a
end
theorem Eg(g:Nat)(v:Value)(l:List Pa)(room i:Nat)(b:i<l.length)(d:l.length≤1000000):aa WJ 262 #[pt g 0,iN i] [ob g #[v,iN room,.func (.func 178) #[] #[]] 356,eh v l] [0,1] (λE=>[ob g #[(E.val 0),iN room,.func (.func 178) #[] #[]] 356,eh (E.val 0) (l.eraseIdx i)]) (λ_=>iN ((l.getD i bA).k)):=by
 exact fG Tryz.func262 λw cs=>r0 [] [(4,i6 0)] [] (r0 [(3,.l 0),(5,cO eK v l 1 i),(6,uh eK v l 1 (i*3) 0),(7,eS eK v l 1 i 0)] [(5,iN ((l.getD i bA).k))] [] (rr (λa=>[(4,.m (ld 0 (v))),(7,ad i 1),(8,.c [1] [1] (Qb v l i Om)),(11,.m (fj 0 1 (eh ((a 8).val 0) (l.eraseIdx i)) ((a 8).val 0) λbs h=>aq.one ((λ_ h=>h) bs h)))]) N0 [] (λa L=>(L.set 0 (ob g #[(a 8).val 0,iN room,.func (.func 178) #[] #[]] 356)).set 1 (eh ((a 8).val 0) (l.eraseIdx i))) λa=>r0 [] [(4,iN ((l.getD i bA).k))] [4] (lf (.l [] [] [((a 8).val 0)]) [0,1] [] [])))
theorem Qc(g:Nat)(t:Tb)(k:Nat)(e:t.l.length≤1000000)(h:a1 (bM k) t.l<t.l.length):aa WJ 238 #[pt g 0,iN k] [pk (dZ g t)] [0] (λ_=>[pk (dZ g t)]) (λ_=> .tuple #[.agg #[iN ((t.l.getD (a1 (bM k) t.l) bA).l),iN ((t.l.getD (a1 (bM k) t.l) bA).a)],.bool true]):=aa.pkZ Tryz.func238 λL d=>by
 obtain⟨v,rfl⟩:=d;refine⟨[1],λ_=>[eh v t.l],?_,rfl,λE=>⟨rfl,rfl,⟨_,rfl⟩⟩⟩;exact fG Tryz.func238 λw cs=>ra (λb=>[(4,pt (B0 b) 0),(5,.bool false)]) (λb=>[ob (B0 b) #[i6 0,i6 0] 290]) λb=>r0 [(2,.c [0,1] [] (aa.at (rd':=[ob g #[v,iN t.K,.func (.func 178) #[] #[]] 356,eh v t.l]) (yP g v t.l t.K k Om Om) (aP (bL (λ_ h=>aq.sq h) (λ_ h=>h)))))] [(6,iN (a1 (bM k) t.l))] [] (rF [(1,.t (tk (show Value.bool (decide (((a1 (bM k) t.l:Nat):Int)<0))= .bool false from ALca Value.bool (by exact bf Om))))] 12 (rr (λ_=>[(3,.l 0),(5,cO eK v t.l 1 (a1 (bM k) t.l)),(6,uh eK v t.l 1 ((a1 (bM k) t.l)*3) 1),(7,pL eK v t.l 1 (a1 (bM k) t.l) 1 2),(8,.s 2)]) (λ_=>[(5,.bool true)]) [5] (λ_ L=>L.set 2 (ob (B0 b) #[iN ((t.l.getD (a1 (bM k) t.l) bA).l),iN ((t.l.getD (a1 (bM k) t.l) bA).a)] 290)) λf=>lf ab.zero [1] [(0,0)] [2]))
theorem Qd(g:Nat)(t:Tb)(k:Nat)(e:t.l.length≤1000000)(h:a1 (bM k) t.l=t.l.length):aa WJ 238 #[pt g 0,iN k] [pk (dZ g t)] [0] (λ_=>[pk (dZ g t)]) (λ_=> .tuple #[.agg #[i6 0,i6 0],.bool false]):=aa.pkZ Tryz.func238 λL d=>by
 obtain⟨v,rfl⟩:=d;refine⟨[1],λ_=>[eh v t.l],?_,rfl,λE=>⟨rfl,rfl,⟨_,rfl⟩⟩⟩;exact fG Tryz.func238 λw cs=>ra (λa=>[(4,pt (B0 a) 0),(5,.bool false)]) (λa=>[ob (B0 a) #[i6 0,i6 0] 290]) λa=>r0 [(2,.c [0,1] [] (aa.at (rd':=[ob g #[v,iN t.K,.func (.func 178) #[] #[]] 356,eh v t.l]) (vn g v t.l t.K k Om Om) (aP (bL (λ_ h=>aq.sq h) (λ_ h=>h)))))] [(6,i6 (-1))] [] (rT [] 12 (ra (λb=>[(7,pt (B0 b) 0)]) (λb=>[ob (B0 b) #[i6 0,i6 0] 290]) λb=>r0 [(0,.l 3),(1,.s 2)] [(5,.bool false)] [5] (lf ab.zero [1] [(0,0)] [2])))
theorem Qe(g:Nat)(t:Tb)(k l a:Nat)(e:t.l.length≤1000000)(h:a1 (bM k) t.l<t.l.length):aa WJ 239 #[pt g 0,iN k,.agg #[iN l,iN a]] [pk (dZ g t)] [0] (λ_=>[pk (dZ g {t with l:=t.l.set (a1 (bM k) t.l) ⟨(t.l.getD (a1 (bM k) t.l) bA).k,l,a⟩})]) (λ_=> .tuple #[i6 0,.bool false]):=aa.pkZ Tryz.func239 λL d=>by
 obtain⟨v,rfl⟩:=d;refine⟨[1],λ_=>[eh v (t.l.set (a1 (bM k) t.l) (⟨(t.l.getD (a1 (bM k) t.l) bA).k,l,a⟩:Pa))],?_,rfl,λE=>⟨rfl,rfl,⟨_,rfl⟩⟩⟩;exact fG Tryz.func239 λw cs=>ra (λb=>[(5,pt (B0 b) 0),(6,i6 0),(7,.bool false)]) (λb=>[ob (B0 b) #[iN l,iN a] 290]) λb=>r0 [(2,.c [0,1] [] (aa.at (rd':=[ob g #[v,iN t.K,.func (.func 178) #[] #[]] 356,eh v t.l]) (yP g v t.l t.K k Om Om) (aP (bL (λ_ h=>aq.sq h) (λ_ h=>h)))))] [(8,iN (a1 (bM k) t.l))] [] (rT [(1,.t (tk (show Value.bool (decide (0≤((a1 (bM k) t.l:Nat):Int)))= .bool true from ALca Value.bool (by exact cD Om))))] 13 (rs [(3,.l 0),(5,.l 2),(6,cO eK v t.l 1 (a1 (bM k) t.l)),(7,uh eK v t.l 1 ((a1 (bM k) t.l)*3) 1),(8,Ec eK v t.l 1 (a1 (bM k) t.l) 1 (⟨(t.l.getD (a1 (bM k) t.l) bA).k,l,a⟩:Pa) [iN l,iN a] Kr Om)] 1 (eh v (t.l.set (a1 (bM k) t.l) (⟨(t.l.getD (a1 (bM k) t.l) bA).k,l,a⟩:Pa))) (r0 [] [(6,i6 0),(7,.bool false)] [6,7] (lf ab.zero [1] [(0,0)] []))))
theorem Qf(g:Nat)(t:Tb)(k l a:Nat)(f:t.l.length≤1000)(h:a1 (bM k) t.l=t.l.length)(i:t.l.length≠t.K):aa WJ 239 #[pt g 0,iN k,.agg #[iN l,iN a]] [pk (dZ g t)] [0] (λ_=>[pk (dZ g {t with l:=t.l++[⟨k,l,a⟩]})]) (λ_=> .tuple #[i6 0,.bool false]):=aa.pkZ Tryz.func239 λL e=>by
 obtain⟨v,rfl⟩:=e;refine⟨[0,1],λE=>[ob g #[(E.val 0),iN t.K,.func (.func 178) #[] #[]] 356,eh (E.val 0) (t.l++([(⟨k,l,a⟩:Pa)]))],?_,rfl,λE=>⟨rfl,rfl,⟨_,rfl⟩⟩⟩;exact fG Tryz.func239 λw cs=>ra (λd=>[(5,pt (B0 d) 0),(6,i6 0),(7,.bool false)]) (λd=>[ob (B0 d) #[iN l,iN a] 290]) λd=>r0 [(2,.c [0,1] [] (aa.at (rd':=[ob g #[v,iN t.K,.func (.func 178) #[] #[]] 356,eh v t.l]) (vn g v t.l t.K k Om Om) (aP (bL (λ_ h=>aq.sq h) (λ_ h=>h)))))] [(8,i6 (-1))] [] (rF [] 13 (rF [(3,.l 0),(4,e8 eK v t.l 1),(8,.l 0),(9,.t (tk (show Value.bool ((t.l.length:Int)==(t.K:Int))= .bool false from ALca Value.bool (by rw[dN];omega))))] 32 (rr (λb=>[(4,.m (ld 0 (v))),(6,.m (ls 2 ([iN l,iN a]))),(8,.m (bs 3 1)),(9,eT eK (v) t.l 1 3 ([(⟨k,l,a⟩:Pa)])),(12,.m (fj 0 1 (eh ((b 9).val 0) (t.l++([(⟨k,l,a⟩:Pa)]))) ((b 9).val 0) λbs h=>aq.one ((λ_ h=>h) bs h)))]) N0 [] (λb L=>(L.set 0 (ob g #[(b 9).val 0,iN t.K,.func (.func 178) #[] #[]] 356)).set 1 (eh ((b 9).val 0) (t.l++([(⟨k,l,a⟩:Pa)])))++[ob ((b 8).y 0) #[iN k,iN l,iN a] 386]) λb=>r0 [] [(6,i6 0),(7,.bool false)] [6,7] (lf (.l [] [] [(b 9).val 0]) [0,1] [] []))))
theorem Qg(g:Nat)(t:Tb)(k l a:Nat)(o:t.l.length≤1000)(h1:1≤t.l.length)(h:a1 (bM k) t.l=t.l.length)(n:t.l.length=t.K):aa WJ 239 #[pt g 0,iN k,.agg #[iN l,iN a]] [pk (dZ g t)] [0] (λ_=>[pk (dZ g {t with l:=t.l.eraseIdx (ei t.l t.l.length).1++[⟨k,l,a⟩]})]) (λ_=> .tuple #[iN ((t.l.getD ((ei t.l t.l.length).1) bA).k),.bool true]):=aa.pkZ Tryz.func239 λL i=>by
 obtain⟨v,rfl⟩:=i;refine⟨[0,1],λE=>[ob g #[(E.val 0),iN t.K,.func (.func 178) #[] #[]] 356,eh (E.val 0) ((t.l.eraseIdx ((ei t.l t.l.length).1))++([(⟨k,l,a⟩:Pa)]))],?_,rfl,λE=>⟨rfl,rfl,⟨_,rfl⟩⟩⟩;have f:=yO t.l t.l.length h1;have j:(t.l.eraseIdx (ei t.l t.l.length).1).length=t.l.length-1:=by rw[WZ,ALifp f]
 exact fG Tryz.func239 λw cs=>ra (λe=>[(5,pt (B0 e) 0),(6,i6 0),(7,.bool false)]) (λe=>[ob (B0 e) #[iN l,iN a] 290]) λe=>r0 [(2,.c [0,1] [] (aa.at (rd':=[ob g #[v,iN t.K,.func (.func 178) #[] #[]] 356,eh v t.l]) (vn g v t.l t.K k Om Om) (aP (bL (λ_ h=>aq.sq h) (λ_ h=>h)))))] [(8,i6 (-1))] [] (rF [] 13 (rT [(3,.l 0),(4,e8 eK v t.l 1),(8,.l 0),(9,.t (tk (show Value.bool ((t.l.length:Int)==(t.K:Int))= .bool true from ALca Value.bool (by rw[n];exact beq_self_eq_true _))))] 32 (rr (λ_=>[(2,.c [0,1] [] (aa.at (rd':=[ob g #[v,iN t.K,.func (.func 178) #[] #[]] 356,eh v t.l]) (P9 g v t.l t.K Om) (aP (bL (λ_ h=>aq.sq h) (λ_ h=>h))))),(3,.c [0,1] [0,1] (Eg g v t.l t.K ((ei t.l t.l.length).1) Om Om))]) (λ_=>[(6,iN ((t.l.getD ((ei t.l t.l.length).1) bA).k)),(7,.bool true)]) [6,7] (λd L=>(L.set 0 (ob g #[((d 3).val 0),iN t.K,.func (.func 178) #[] #[]] 356)).set 1 (eh ((d 3).val 0) (t.l.eraseIdx ((ei t.l t.l.length).1)))) λd=>rr (λb=>[(4,.m (ld 0 (((d 3).val 0)))),(6,.m (ls 2 ([iN l,iN a]))),(8,.m (bs 3 1)),(9,eT eK (((d 3).val 0)) (t.l.eraseIdx ((ei t.l t.l.length).1)) 1 3 ([(⟨k,l,a⟩:Pa)])),(12,.m (fj 0 1 (eh ((b 9).val 0) ((t.l.eraseIdx ((ei t.l t.l.length).1))++([(⟨k,l,a⟩:Pa)]))) ((b 9).val 0) λbs h=>aq.one ((λ_ h=>h) bs h)))]) N0 [] (λb L=>(L.set 0 (ob g #[(b 9).val 0,iN t.K,.func (.func 178) #[] #[]] 356)).set 1 (eh ((b 9).val 0) ((t.l.eraseIdx ((ei t.l t.l.length).1))++([(⟨k,l,a⟩:Pa)])))++[ob ((b 8).y 0) #[iN k,iN l,iN a] 386]) λb=>r0 [] [(6,iN ((t.l.getD ((ei t.l t.l.length).1) bA).k)),(7,.bool true)] [6,7] (lf (.l [] [] [(b 9).val 0]) [0,1] [] []))))
theorem Qh(g:Nat)(t:Tb)(k:Nat)(d:t.l.length≤1000000)(h:a1 (bM k) t.l<t.l.length):aa WJ 270 #[pt g 0,iN k] [pk (dZ g t)] [0] (λ_=>[pk (dZ g {t with l:=t.l.eraseIdx (a1 (bM k) t.l)})]) (λ_=> .bool true):=aa.pkZ Tryz.func270 λL b=>by
 obtain⟨v,rfl⟩:=b;refine⟨[0,1],λE=>[ob g #[(E.val 0),iN t.K,.func (.func 178) #[] #[]] 356,eh (E.val 0) (t.l.eraseIdx (a1 (bM k) t.l))],?_,rfl,λE=>⟨rfl,rfl,⟨_,rfl⟩⟩⟩;exact fG Tryz.func270 λw cs=>r0 [] [(4,.bool false)] [] (r0 [(2,.c [0,1] [] (aa.at (rd':=[ob g #[v,iN t.K,.func (.func 178) #[] #[]] 356,eh v t.l]) (yP g v t.l t.K k Om Om) (aP (bL (λ_ h=>aq.sq h) (λ_ h=>h)))))] [(5,iN (a1 (bM k) t.l))] [] (rF [(1,.t (tk (show Value.bool (decide (((a1 (bM k) t.l:Nat):Int)<0))= .bool false from ALca Value.bool (by exact bf Om))))] 10 (rr (λ_=>[(2,.c [0,1] [0,1] (Eg g v t.l t.K (a1 (bM k) t.l) Om Om))]) N0 [] (λa L=>(L.set 0 (ob g #[((a 2).val 0),iN t.K,.func (.func 178) #[] #[]] 356)).set 1 (eh ((a 2).val 0) (t.l.eraseIdx (a1 (bM k) t.l)))) λa=>r0 [] [(4,.bool true)] [4] (lf (.l [] [] [((a 2).val 0)]) [0,1] [] []))))
theorem Qi(g:Nat)(t:Tb)(k:Nat)(b:t.l.length≤1000000)(h:a1 (bM k) t.l=t.l.length):aa WJ 270 #[pt g 0,iN k] [pk (dZ g t)] [0] (λ_=>[pk (dZ g t)]) (λ_=> .bool false):=aa.pkZ Tryz.func270 λL a=>by
 obtain⟨v,rfl⟩:=a;refine⟨[1],λ_=>[eh v t.l],?_,rfl,λE=>⟨rfl,rfl,⟨_,rfl⟩⟩⟩;exact fG Tryz.func270 λw cs=>r0 [] [(4,.bool false)] [] (r0 [(2,.c [0,1] [] (aa.at (rd':=[ob g #[v,iN t.K,.func (.func 178) #[] #[]] 356,eh v t.l]) (vn g v t.l t.K k Om Om) (aP (bL (λ_ h=>aq.sq h) (λ_ h=>h)))))] [(5,i6 (-1))] [] (rT [] 10 (r0 [] [(4,.bool false)] [4] (lf ab.zero [1] [(0,0)] []))))
theorem Qj(g:Nat)(t:Tb)(k:Nat)(b:t.l.length≤1000000):aa WJ 238 #[pt g 0,iN k] [pk (dZ g t)] [0] (λ_=>[pk (dZ g t)]) (λ_=> .tuple #[.agg #[iN ((da t k).l),iN ((da t k).a)],.bool (vm t k)]):=by
 unfold da vm;by_cases h:a1 (bM k) t.l=t.l.length
 ·rw[ALifp h,cD h];exact Qd g t k b h
 ·rw[ALifn h,bf h];exact Qc g t k b (by have:=o6 (bM k) t.l;omega)
theorem Qk(g:Nat)(t:Tb)(k l a:Nat)(c:t.l.length≤1000)(h1:1≤t.K):aa WJ 239 #[pt g 0,iN k,.agg #[iN l,iN a]] [pk (dZ g t)] [0] (λ_=>[pk (dZ g (o9 t k l a))]) (λ_=> .tuple #[iN (Ed t k),.bool (Ee t k)]):=by
 unfold o9 Ed Ee;by_cases h:a1 (bM k) t.l=t.l.length
 ·by_cases b:t.l.length=t.K
  ·rw[ALifp h,ALifp b,ALifp ⟨h,b⟩,cD h,cD b];exact Qg g t k l a c Om h b
  ·rw[ALifp h,ALifn b,ALifn (λq=>b q.2),cD h,bf b];exact Qf g t k l a c h b
 ·rw[ALifn h,ALifn (λq=>h q.1),bf h];exact Qe g t k l a Om (by have:=o6 (bM k) t.l;omega)
theorem Ql(g:Nat)(t:Tb)(k:Nat)(a:t.l.length≤1000000):aa WJ 270 #[pt g 0,iN k] [pk (dZ g t)] [0] (λ_=>[pk (dZ g (pa t k))]) (λ_=> .bool (vm t k)):=by
 unfold pa vm;by_cases h:a1 (bM k) t.l=t.l.length
 ·rw[ALifp h,cD h];exact Qi g t k a h
 ·rw[ALifn h,bf h];exact Qh g t k a (by have:=o6 (bM k) t.l;omega)
theorem Eh(g:Nat)(v:Value)(rs:List Bk)(j c d e f h i r:Nat)(k:r<rs.length):aa WJ 236 #[pt g 0,iN r] [ob g #[iN c,iN d,iN e,iN f,iN h,iN i,v,pt j 0] 294,.p (aG yK v rs)] [] N0 (λ_=> .bool true):=by
 exact fO Tryz.func236 1 rfl λb a=>fG Tryz.func236 λw cs=>r0 [] [(4,.bool false)] [] (r0 [(7,.m (ld 0 (v))),(8,du a.1 1),] [(4,.bool ((decide (0≤(r:Int)))&&(decide ((r:Int)<(rs.length:Int)))))] [4] (ao (.bool ((decide (0≤(r:Int)))&&(decide ((r:Int)<(rs.length:Int))))) ab.zero (by exact ALca Value.bool (by simp only[WU,decide_eq_true_eq];omega)) [] [(0,0),(1,1)] []))
theorem Ei(g b:Nat)(c:Tk)(d:dV c)(r p n:Nat)(x:r<c.F.length)(u:n≤65536):aa WJ 206 #[pt g 0,iN r,iN p,iN n] [pk (aD g b c)] [0] (λ_=>[pk (aD g b (fA c r p n))]) (λ_=> .tuple #[.agg #[.bool (cE c.lr ((c.F.getD r bj).l) n),.bool (cE c.lp ((da c.t p).l) n)],i6 0]):=aa.pkZ Tryz.func206 λL t=>by
 obtain⟨v,rfl⟩:=t;refine⟨[1,2],λ_=>[kC v (c.F.set r (⟨cq ((c.F.getD r bj).l) n,(c.F.getD r bj).a⟩:Bk)),pk (dZ b (o9 c.t p (cq ((da c.t p).l) n) ((da c.t p).a)))],?_,rfl,λE=>⟨rfl,rfl,⟨_,rfl⟩⟩⟩;have y:=d.t.l;have z:=d.t.r;have o:=d.t.r1;have A:=d.n;have j:=d.b r x;have k:=d.t.get d.p.e1 p;refine fG Tryz.func206 λw cs=>ra (λf=>[(8,pt (B0 f) 0),(9,i6 0)]) (λf=>[ob (B0 f) #[.bool false,.bool false] 339]) λf=>r0 [(2,.c [0,1] [] (aa.at (rd':=[ob g #[iN c.lr,iN c.er,iN c.lp,iN c.ep,iN c.K,iN c.J,v,pt b 0] 294,kC v c.F]) (Eh g v c.F b c.lr c.er c.lp c.ep c.K c.J r Om) (aP (bL (λ_ h=>aq.sq h) (λ_ h=>h)))))] [(20,.bool (decide ((n:Int)<0)))] [] ?_;have q:(decide ((n:Int)<0))=false:=by exact bf Om
 exact cF (decide ((n:Int)<0)) q (ra (λe=>[(10,pt (B0 e) 0)]) (λe=>[ob (B0 e) #[.bool false,.bool false] 339]) λe=>rr (λ_=>[(3,.m (ld 0 (v))),(8,.m (ld 0 (v))),(10,cO kY v c.F 1 r),(11,pL kY v c.F 1 r 0 2),(16,.m (ls 0 ([iN c.lr,iN c.er]))),(18,.c [] [] (D1 c.lr c.er ((c.F.getD r bj).l) ((c.F.getD r bj).a) n (by exact d.r) (by exact j) Om)),(22,cO kY v c.F 1 r),(23,Wy kY v c.F 1 r (⟨cq ((c.F.getD r bj).l) n,(c.F.getD r bj).a⟩:Bk)),(25,.s 4)]) N0 [] (λ_ L=>(L.set 1 (kC v (c.F.set r (⟨cq ((c.F.getD r bj).l) n,(c.F.getD r bj).a⟩:Bk)))).set 4 (ob (B0 e) #[.bool (cE c.lr ((c.F.getD r bj).l) n),.bool false] 339)) λB=>rr (λ_=>[(3,.m (ld 0 (pt b 0))),(5,.c [2] [2] (Qj b c.t p Om)),(9,.m (al 5)),(10,.s 5)]) (λi=>[(11,pt ((i 9).y 0) 0)]) [] (λi L=>L++[ob ((i 9).y 0) #[iN ((da c.t p).l),iN ((da c.t p).a)] 290]) λi=>rr (λ_=>[(0,.m (ls 5 ([iN ((da c.t p).l),iN ((da c.t p).a)]))),(5,.m (ls 0 ([iN c.lp,iN c.ep]))),(7,.c [] [] (D1 c.lp c.ep ((da c.t p).l) ((da c.t p).a) n (by exact d.p) (by exact k) Om)),(11,.s 5),(13,.s 4)]) N0 [] (λ_ L=>(L.set 4 (ob (B0 e) #[.bool (cE c.lr ((c.F.getD r bj).l) n),.bool (cE c.lp ((da c.t p).l) n)] 339)).set 5 (ob ((i 9).y 0) #[iN (cq ((da c.t p).l) n),iN ((da c.t p).a)] 290)) λC=>rs [(3,.l 0),(5,.l 5),(6,.c [2] [2] (Qk b c.t p (cq ((da c.t p).l) n) ((da c.t p).a) Om Om))] 2 ((pk (dZ b (o9 c.t p (cq ((da c.t p).l) n) ((da c.t p).a))))) (rr (λ_=>[(0,.l 4),(1,.s 3)]) (λ_=>[(9,i6 0)]) [9] (λ_ L=>L.set 3 (ob (B0 f) #[.bool (cE c.lr ((c.F.getD r bj).l) n),.bool (cE c.lp ((da c.t p).l) n)] 339)) λD=>lf ab.zero [1,2] [(0,0)] [3]))
theorem Qm(g a:Nat)(c:Tk)(b:dV c)(p:Nat):aa WJ 249 #[pt g 0,iN p] [pk (aD g a c)] [0] (λ_=>[pk (aD g a (qc c p))]) (λ_=> .tuple #[]):=aa.pkZ Tryz.func249 λL e=>by
 obtain⟨v,rfl⟩:=e;refine⟨[1,2],λ_=>[kC v c.F,pk (dZ a (pa c.t p))],?_,rfl,λE=>⟨rfl,rfl,⟨_,rfl⟩⟩⟩;have f:=b.t.l;have h:=b.t.r;have d:=b.t.r1;have i:=b.n;refine fG Tryz.func249 λw cs=>rs [(3,.l 0),(5,.c [2] [2] (Ql a c.t p Om))] 2 ((pk (dZ a (pa c.t p)))) ?_;exact ew ab.zero [1,2] [(0,0)] []
theorem Qn(g a:Nat)(c:Tk)(b:dV c)(r:Nat)(k:r<c.F.length):aa WJ 250 #[pt g 0,iN r] [pk (aD g a c)] [0] (λ_=>[pk (aD g a (pb c r))]) (λ_=> .tuple #[]):=aa.pkZ Tryz.func250 λL e=>by
 obtain⟨v,rfl⟩:=e;refine⟨[1,2],λ_=>[kC v (c.F.set r (⟨0,0⟩:Bk)),pk (dZ a c.t)],?_,rfl,λE=>⟨rfl,rfl,⟨_,rfl⟩⟩⟩;have f:=b.t.l;have i:=b.t.r;have d:=b.t.r1;have j:=b.n;refine fG Tryz.func250 λw cs=>rT [(2,.c [0,1] [] (aa.at (rd':=[ob g #[iN c.lr,iN c.er,iN c.lp,iN c.ep,iN c.K,iN c.J,v,pt a 0] 294,kC v c.F]) (Eh g v c.F a c.lr c.er c.lp c.ep c.K c.J r Om) (aP (bL (λ_ h=>aq.sq h) (λ_ h=>h)))))] 6 (rs [(3,.l 0),(6,cO kY v c.F 1 r),(7,Wy kY v c.F 1 r (⟨0,0⟩:Bk))] 1 (kC v (c.F.set r (⟨0,0⟩:Bk))) ?_);exact ew ab.zero [1,2] [(0,0)] []
section
def a2{α:Type}(f:α→α)(l:List α)(k:Nat):List α:=(l.take k).map f++l.drop k
section
variable {α:Type} {f:α→α} {l:List α} {k:Nat} {d:α}
theorem sn(f:α→α)(l:List α)(k:Nat):(a2 f l k).length=l.length:=by unfold a2;rw[WL,WT,WS,WY];omega
theorem vp(a:k<l.length):(a2 f l k).getD k d=l.getD k d:=by
 unfold a2;rw[WM,List.getElem?_append_right (by rw[WT,WS];omega),WT,WS,Xp,WM]
 congr 2;omega
theorem Ej(f:α→α)(l:List α):a2 f l 0=l:=by unfold a2;simp
theorem Ek(f:α→α)(l:List α):a2 f l l.length=l.map f:=by unfold a2;simp
theorem El(a:k<l.length):(a2 f l k).set k (f (l.getD k d))=a2 f l (k+1):=by
 unfold a2;rw[Xj _ _ (by rw[WT,WS];omega),WT,WS,show k-min k l.length=0 by omega,Xf a,Xb,WO a,List.map_append,W5,WM,WO a];rfl
end
def eb(ev:Nat)(b:Bk):Bk:=⟨ik ev b.l b.a,im ev b.l b.a⟩
def cZ(ev:Nat)(p:Pa):Pa:=⟨p.k,ik ev p.l p.a,im ev p.l p.a⟩
theorem Qo{ev:Nat}{l:List Bk}{k:Nat}(b:k<l.length):(a2 (eb ev) l k).set k ⟨ik ev ((a2 (eb ev) l k).getD k bj).l ((a2 (eb ev) l k).getD k bj).a,im ev ((a2 (eb ev) l k).getD k bj).l ((a2 (eb ev) l k).getD k bj).a⟩=a2 (eb ev) l (k+1):=by
 rw[←El (d:=bj) b,vp b];rfl
theorem Qp{ev:Nat}{l:List Pa}{k:Nat}(b:k<l.length):(a2 (cZ ev) l k).set k ⟨((a2 (cZ ev) l k).getD k bA).k,ik ev ((a2 (cZ ev) l k).getD k bA).l ((a2 (cZ ev) l k).getD k bA).a,im ev ((a2 (cZ ev) l k).getD k bA).l ((a2 (cZ ev) l k).getD k bA).a⟩=a2 (cZ ev) l (k+1):=by
 rw[←El (d:=bA) b,vp b];rfl
def sr(t:Tb)(ev:Nat):Tb:={t with l:=a2 (cZ ev) t.l t.l.length}
def mP(c:Tk):Tk:={c with F:=a2 (eb c.er) c.F c.F.length,t:=sr c.t c.ep}
end
theorem Qq(b g e:Nat)(c:Tk)(hp:iL c.lp c.ep)(v:Value)(k l a:Nat)(f:eY c.ep l a):aa WJ 210 #[iN k,.agg #[iN l,iN a],pt b 0] [ob b #[pt g 0] 120,ob g #[iN c.lr,iN c.er,iN c.lp,iN c.ep,iN c.K,iN c.J,v,pt e 0] 294] [] N0 (λ_=> .agg #[iN (ik c.ep l a),iN (im c.ep l a)]):=by
 exact fG Tryz.func210 λw cs=>ra (λd=>[(4,pt (B0 d) 0),(5,pt (B1 d) 0)]) (λd=>[ob (B0 d) #[iN l,iN a] 290,ob (B1 d) #[i6 0,i6 0] 290]) λd=>rs [(0,.l 2),(1,.l 0),(5,.l 1),(6,.c [] [] (D2 c.lp c.ep l a hp f)),(7,.s 3)] 3 (ob (B1 d) #[iN (ik c.ep l a),iN (im c.ep l a)] 290) (lf ab.zero [] [(0,0),(1,1)] [3])
theorem Qr(e:Nat)(t:Tb)(b g:Nat)(c:Tk)(o:dV c)(ht:iv c.ep t)(v:Value):aa WJ 209 #[pt e 0,.func (.func 210) #[] #[pt b 0]] [pk (dZ e t),ob b #[pt g 0] 120,ob g #[iN c.lr,iN c.er,iN c.lp,iN c.ep,iN c.K,iN c.J,v,pt e 0] 294] [0] (λ_=>[pk (dZ e (sr t c.ep))]) (λ_=> .tuple #[]):=aa.pkZ Tryz.func209 λL n=>by
 obtain⟨d,rfl⟩:=n;refine⟨[1],λ_=>[eh d (a2 (cZ c.ep) t.l t.l.length)],?_,rfl,λE=>⟨rfl,rfl,⟨_,rfl⟩⟩⟩;have r:=ht.l;have u:=ht.r;refine fG Tryz.func209 λw cs=>r0 [(3,.l 0),(4,e8 eK d t.l 1)] [(9,d),(10,iN t.l.length),(11,i6 0)] [] ?_;refine lq (λk=>k≤t.l.length) (λk=>[(11,iN k)]) (λk L=>L.set 1 (eh d (a2 (cZ c.ep) t.l k))) (λk=>t.l.length-k) 0 Om Kr (by rw[Ej];kernel_rfl) (λk p=>?_);have q:=sn (cZ c.ep) t.l k;refine r0 [] [(12,.bool (decide ((k:Int)<(t.l.length:Int))))] [] ?_;refine bW (k:Int) (t.l.length:Int) (λj h=>?_) λj h=>?_
 ·refine rr (λ_=>[(1,cO eK d (a2 (cZ c.ep) t.l k) 1 k),(2,pL eK d (a2 (cZ c.ep) t.l k) 1 k 0 3),(5,.s 4)]) (λf=>[(5,pt (B3 f) 0),(4,iN k)]) [] (λf L=>L++[ob (B3 f) #[iN (((a2 (cZ c.ep) t.l k).getD k bA).k),iN (((a2 (cZ c.ep) t.l k).getD k bA).l),iN (((a2 (cZ c.ep) t.l k).getD k bA).a)] 386]) λf=>?_;have i:eY c.ep ((a2 (cZ c.ep) t.l k).getD k bA).l ((a2 (cZ c.ep) t.l k).getD k bA).a:=by rw[vp Om];exact ht.b k Om
  exact rs [(3,.m (ld 0 (d))),(7,.m (ld 4 (iN (((a2 (cZ c.ep) t.l k).getD k bA).k)))),(9,.m (ls 4 ([iN (((a2 (cZ c.ep) t.l k).getD k bA).l),iN (((a2 (cZ c.ep) t.l k).getD k bA).a)]))),(10,.c [2,3] [] (Qq b g e c o.p v (((a2 (cZ c.ep) t.l k).getD k bA).k) (((a2 (cZ c.ep) t.l k).getD k bA).l) (((a2 (cZ c.ep) t.l k).getD k bA).a) i)),(11,cO eK d (a2 (cZ c.ep) t.l k) 1 k),(12,uh eK d (a2 (cZ c.ep) t.l k) 1 (k*3) 1),(13,Ec eK d (a2 (cZ c.ep) t.l k) 1 k 1 (⟨((a2 (cZ c.ep) t.l k).getD k bA).k,ik c.ep (((a2 (cZ c.ep) t.l k).getD k bA).l) (((a2 (cZ c.ep) t.l k).getD k bA).a),im c.ep (((a2 (cZ c.ep) t.l k).getD k bA).l) (((a2 (cZ c.ep) t.l k).getD k bA).a)⟩:Pa) [iN (ik c.ep (((a2 (cZ c.ep) t.l k).getD k bA).l) (((a2 (cZ c.ep) t.l k).getD k bA).a)),iN (im c.ep (((a2 (cZ c.ep) t.l k).getD k bA).l) (((a2 (cZ c.ep) t.l k).getD k bA).a))] Kr Om)] 1 (eh d ((a2 (cZ c.ep) t.l k).set k (⟨((a2 (cZ c.ep) t.l k).getD k bA).k,ik c.ep (((a2 (cZ c.ep) t.l k).getD k bA).l) (((a2 (cZ c.ep) t.l k).getD k bA).a),im c.ep (((a2 (cZ c.ep) t.l k).getD k bA).l) (((a2 (cZ c.ep) t.l k).getD k bA).a)⟩:Pa))) (r0 [(0,ad k 1)] [(11,iN (k+1))] [11] (le (k+1) Om Om Kr [0,1,2,3] (by rw[←Qp Om];kernel_rfl)))
 obtain rfl:t.l.length=k:=by omega
 refine lx ?_;exact ew ab.zero [1] [(0,0),(2,2),(3,3)] []
theorem Qs(g d:Nat)(c:Tk)(b:dV c):aa WJ 164 #[pt g 0] [pk (aD g d c)] [0] (λ_=>[pk (aD g d (mP c))]) (λ_=> .tuple #[]):=aa.pkZ Tryz.func164 λL o=>by
 obtain⟨v,rfl⟩:=o;refine⟨[1,2],λ_=>[kC v (a2 (eb c.er) c.F c.F.length),pk (dZ d (sr c.t c.ep))],?_,rfl,λE=>⟨rfl,rfl,⟨_,rfl⟩⟩⟩;have r:=b.t.l;have t:=b.t.r;have j:=b.t.r1;have u:=b.n;refine fG Tryz.func164 λw cs=>ra (λe=>[(1,pt (B0 e) 0)]) (λe=>[ob (B0 e) #[pt g 0] 120]) λe=>r0 [(0,.l 3),(3,.l 0),(4,e8 kY v c.F 1)] [(7,v),(8,iN c.F.length),(9,i6 0)] [] ?_;refine lq (λk=>k≤c.F.length) (λk=>[(9,iN k)]) (λk L=>L.set 1 (kC v (a2 (eb c.er) c.F k))) (λk=>c.F.length-k) 0 Om Kr (by rw[Ej];kernel_rfl) (λk p=>?_);have q:=sn (eb c.er) c.F k;refine r0 [] [(10,.bool (decide ((k:Int)<(c.F.length:Int))))] [] ?_;refine bW (k:Int) (c.F.length:Int) (λn h=>?_) λn h=>?_
 ·refine rr (λ_=>[(1,cO kY v (a2 (eb c.er) c.F k) 1 k),(2,pL kY v (a2 (eb c.er) c.F k) 1 k 0 2),(5,.s 4)]) (λf=>[(3,pt (B3 f) 0),(2,iN k)]) [] (λf L=>L++[ob (B3 f) #[iN (((a2 (eb c.er) c.F k).getD k bj).l),iN (((a2 (eb c.er) c.F k).getD k bj).a)] 290]) λf=>?_;have i:eY c.er ((a2 (eb c.er) c.F k).getD k bj).l ((a2 (eb c.er) c.F k).getD k bj).a:=by rw[vp Om];exact b.b k Om
  exact rs [(0,.m (ld 3 (pt g 0))),(3,.m (ld 0 (v))),(5,.m (ls 4 ([iN (((a2 (eb c.er) c.F k).getD k bj).l),iN (((a2 (eb c.er) c.F k).getD k bj).a)]))),(6,.m (ld 3 (pt g 0))),(10,.m (ls 0 ([iN c.lr,iN c.er]))),(11,.c [] [] (D2 c.lr c.er (((a2 (eb c.er) c.F k).getD k bj).l) (((a2 (eb c.er) c.F k).getD k bj).a) b.r i)),(12,cO kY v (a2 (eb c.er) c.F k) 1 k),(13,Wy kY v (a2 (eb c.er) c.F k) 1 k (⟨ik c.er (((a2 (eb c.er) c.F k).getD k bj).l) (((a2 (eb c.er) c.F k).getD k bj).a),im c.er (((a2 (eb c.er) c.F k).getD k bj).l) (((a2 (eb c.er) c.F k).getD k bj).a)⟩:Bk))] 1 (kC v ((a2 (eb c.er) c.F k).set k (⟨ik c.er (((a2 (eb c.er) c.F k).getD k bj).l) (((a2 (eb c.er) c.F k).getD k bj).a),im c.er (((a2 (eb c.er) c.F k).getD k bj).l) (((a2 (eb c.er) c.F k).getD k bj).a)⟩:Bk))) (r0 [(0,ad k 1)] [(9,iN (k+1))] [9] (le (k+1) Om Om Kr [0,1,2,3] (by rw[←Qo Om];kernel_rfl)))
 obtain rfl:c.F.length=k:=by omega
 refine lx (rs [(0,.l 3),(3,.l 0),(5,.c [2,3,0] [2] (Qr d c.t (B0 e) g c b b.t v))] 2 ((pk (dZ d (sr c.t c.ep)))) ?_);exact ew ab.zero [1,2] [(0,0)] []
theorem Qt(room:Nat)(h1:1≤room)(h2:room≤256):aa WJ 177 #[iN room,.func (.func 178) #[] #[]] [] [] (λE=>[ob (E.y 0) #[.slice none 0 0,iN room,.func (.func 178) #[] #[]] 356]) (λE=> .tuple #[pt ((E.y 0)) 0,i6 0]):=by
 refine fG Tryz.func177 λw cs=>r0 [] [(4,.pointer none),(5,i6 0)] [] (r0 [] [(11,.bool ((decide ((room:Int)<1))||(decide (256<(room:Int)))))] [] ?_);have b:((decide ((room:Int)<1))||(decide (256<(room:Int))))=false:=by rw[Xa];exact⟨bf Om,bf Om⟩
 exact cF ((decide ((room:Int)<1))||(decide (256<(room:Int)))) b (rr N0 (λa=>[(4,pt (B3 a) 0),(5,i6 0)]) [4,5] (λa L=>L++[ob (B3 a) #[.slice none 0 0,iN room,.func (.func 178) #[] #[]] 356]) λa=>lf (.l [(a 3).y 0] [] []) [0] [] [])
theorem Qu(room:Nat)(h1:1≤room)(h2:room≤256):aa WJ 177 #[iN room,.func (.func 178) #[] #[]] [] [] (λE=>[pk (dZ (E.y 0) ⟨[],room⟩)]) (λE=> .tuple #[pt (E.y 0) 0,i6 0]):=(Qt room h1 h2).outs λE b a=>yN ⟨_,rfl⟩ a
theorem Em(f d e b a heavy:Int):aa WJ 110 #[.agg #[i6 f,i6 d,i6 e,i6 b,i6 a,i6 heavy]] [] [] N0 (λ_=> .bool (((((g8 f d&&g8 e b)&&decide (1≤a))&&decide (a≤256))&&decide (1≤heavy))&&decide (heavy≤65536))):=by
 exact fG Tryz.func110 λw cs=>ra (λg=>[(1,pt (B0 g) 0),(2,.bool false)]) (λg=>[ob (B0 g) #[i6 f,i6 d,i6 e,i6 b,i6 a,i6 heavy] 29]) λg=>r0 [(1,.m (ls 0 ([i6 f,i6 d]))),(2,.c [] [] (yL f d)),(5,.m (ls 0 ([i6 e,i6 b]))),(6,.c [] [] (yL e b)),(10,.m (ld 0 (i6 a))),(15,.m (ld 0 (i6 a))),(20,.m (ld 0 (i6 heavy))),(25,.m (ld 0 (i6 heavy))),] [(2,.bool ((((((g8 f d)&&(g8 e b))&&(decide (1≤a)))&&(decide (a≤256)))&&(decide (1≤heavy)))&&(decide (heavy≤65536))))] [2] (ao (.bool ((((((g8 f d)&&(g8 e b))&&(decide (1≤a)))&&(decide (a≤256)))&&(decide (1≤heavy)))&&(decide (heavy≤65536)))) ab.zero bg [] [] [])
def pd(e c d b a heavy f:Nat):Tk:=⟨e,c,d,b,a,heavy,WK f bj,⟨[],a⟩⟩
theorem Qv(h f g e a heavy b:Nat)(m:iL h f)(k:iL g e)(h1:1≤a)(h2:a≤256)(o:1≤heavy)(n:heavy≤65536)(p:1≤b)(q:b≤8):aa WJ 138 #[.agg #[iN h,iN f,iN g,iN e,iN a,iN heavy],iN b] [] [] (λE=>[ob (E.y 0) #[iN h,iN f,iN g,iN e,iN a,iN heavy,(E.val 0),pt ((E.y 1)) 0] 294,kC (E.val 0) (WK b bj),pk (dZ (E.y 1) ⟨[],a⟩)]) (λE=> .tuple #[pt ((E.y 0)) 0,i6 0]):=by
 refine fG Tryz.func138 λw cs=>ra (λj=>[(2,pt (B0 j) 0),(4,.pointer none),(5,i6 0)]) (λj=>[ob (B0 j) #[iN h,iN f,iN g,iN e,iN a,iN heavy] 29]) λj=>rF [(0,.l 0),(1,.c [] [] (aa.v ((Em (h:Int) (f:Int) (g:Int) (e:Int) (a:Int) (heavy:Int))) λ_=>ALca Value.bool (show(((((g8 (h:Int) (f:Int)&&g8 (g:Int) (e:Int))&&decide (1≤(a:Int)))&&decide ((a:Int)≤256))&&decide (1≤(heavy:Int)))&&decide ((heavy:Int)≤65536))=true from(by rw[m.r,k.r];simp only[WU,decide_eq_true_eq,true_and];omega))))] 8 (r0 [] [(12,.bool ((decide ((b:Int)<1))||(decide (8<(b:Int)))))] [] ?_);have n:((decide ((b:Int)<1))||(decide (8<(b:Int))))=false:=by rw[Xa];exact⟨bf Om,bf Om⟩
 exact cF ((decide ((b:Int)<1))||(decide (8<(b:Int)))) n (rr (λ_=>[(1,.l 0),(2,.c [] [1] (Qu a Om Om))]) (λi=>[(6,pt ((B2 i)) 0),(7,i6 0)]) [] (λi L=>L++[pk (dZ (B2 i) ⟨[],a⟩)]) λi=>rF [] 26 (rr (λ_=>[(0,.l 0),(2,rn kY 2 b)]) (λd=>[(4,pt (B5 d) 0),(5,i6 0)]) [4,5] (λd L=>L++[kC (.slice (some ⟨(d 2).y 0,0,none⟩) b b) (WK b bj),ob (B5 d) #[iN h,iN f,iN g,iN e,iN a,iN heavy,.slice (some ⟨(d 2).y 0,0,none⟩) b b,pt ((B2 i)) 0] 294]) λd=>lf (.l [(d 5).y 0,(B2 i)] [] [.slice (some ⟨(d 2).y 0,0,none⟩) b b]) [3,2,1] [] []))
theorem Qw(f d e c a heavy b:Nat)(h:iL f d)(g:iL e c)(h1:1≤a)(h2:a≤256)(i:1≤heavy)(j:heavy≤65536)(k:1≤b)(l:b≤8):aa WJ 138 #[.agg #[iN f,iN d,iN e,iN c,iN a,iN heavy],iN b] [] [] (λE=>[pk (aD (E.y 0) (E.y 1) (pd f d e c a heavy b))]) (λE=> .tuple #[pt ((E.y 0)) 0,i6 0]):=(Qv f d e c a heavy b h g h1 h2 i j k l).outs λE n m=>r9 ⟨_,rfl⟩ m
def kZ(r s b m c way a:Int):Bool:=(((((ji r s b m c&&decide (0≤way))&&decide (way<4))&&decide (0≤a))&&decide (a≤64))&&decide (a<r*b*m))
theorem Qx(R S B M C:Nat)(d:b6 R S B M C)(way a:Int):aa WJ 106 #[.agg #[iN R,iN S,iN B,iN M,iN C,i6 way,i6 a]] [] [] N0 (λ_=> .bool (kZ R S B M C way a)):=by
 exact fG Tryz.func106 λw cs=>ra (λb=>[(1,pt (B0 b) 0),(2,.bool false)]) (λb=>[ob (B0 b) #[iN R,iN S,iN B,iN M,iN C,i6 way,i6 a] 25]) λb=>r0 [(1,.m (ls 0 ([iN R,iN S,iN B,iN M,iN C]))),(3,.m (ld 0 (i6 way))),(4,.c [] [] (yo (R:Int) (S:Int) (B:Int) (M:Int) (C:Int) way)),(7,.m (ld 0 (i6 a))),(12,.m (ld 0 (i6 a))),(17,.m (ld 0 (i6 a))),(19,.m (ls 0 ([iN R,iN S,iN B,iN M,iN C]))),(20,.c [] [] (lW R S B M C d)),] [(2,.bool ((((((ji (R:Int) (S:Int) (B:Int) (M:Int) (C:Int))&&(decide (0≤way)))&&(decide (way<4)))&&(decide (0≤a)))&&(decide (a≤64)))&&(decide (a<(((R*B)*M:Nat):Int)))))] [2] (ao (.bool ((((((ji (R:Int) (S:Int) (B:Int) (M:Int) (C:Int))&&(decide (0≤way)))&&(decide (way<4)))&&(decide (0≤a)))&&(decide (a≤64)))&&(decide (a<(((R*B)*M:Nat):Int))))) ab.zero (by unfold kZ;rw[WW,WW]) [] [] [])
theorem Qy(r s b m c way a:Int)(f:ji r s b m c=false):aa WJ 106 #[.agg #[i6 r,i6 s,i6 b,i6 m,i6 c,i6 way,i6 a]] [] [] N0 (λ_=> .bool (kZ r s b m c way a)):=by
 exact fG Tryz.func106 λw cs=>ra (λe=>[(1,pt (B0 e) 0),(2,.bool false)]) (λe=>[ob (B0 e) #[i6 r,i6 s,i6 b,i6 m,i6 c,i6 way,i6 a] 25]) λe=>r0 [(1,.m (ls 0 ([i6 r,i6 s,i6 b,i6 m,i6 c]))),(3,.m (ld 0 (i6 way))),(4,.c [] [] (aa.v ((yo r s b m c way)) λ_=>ALca Value.bool (show(((ji r s b m c)&&(decide (0≤way)))&&(decide (way<4)))=false from(by rw[f];rfl)))),(6,.d),(7,.d),(8,.d),(11,.d),(12,.d),(13,.d),(16,.d),(17,.d),(18,.d),(19,.d),(20,.d),(21,.d)] [(2,.bool false)] [2] (ao (.bool false) ab.zero (by unfold kZ;rw[f];rfl) [] [] [])
theorem Qz(r s b m c way a:Int):aa WJ 106 #[.agg #[i6 r,i6 s,i6 b,i6 m,i6 c,i6 way,i6 a]] [] [] N0 (λ_=> .bool (kZ r s b m c way a)):=by
 cases d:ji r s b m c with
 | false=>exact Qy r s b m c way a d
 | true=>
  obtain⟨R,S,B,M,C,rfl,rfl,rfl,rfl,rfl,e⟩:=De d;exact Qx R S B M C e way a
def mQ(r s b m c way e mode i g h f a heavy d:Int):Bool:=((((kZ r s b m c way e&&((mode==1)||(mode==2)))&&(((((g8 i g&&g8 h f)&&decide (1≤a))&&decide (a≤256))&&decide (1≤heavy))&&decide (heavy≤65536)))&&decide (1≤d))&&decide (d≤256))
theorem En(r s b m c way e mode j h i g a heavy d:Int)(f:Bool):aa WJ 79 #[.agg #[i6 r,i6 s,i6 b,i6 m,i6 c,i6 way,i6 e,i6 mode,i6 j,i6 h,i6 i,i6 g,i6 a,i6 heavy,i6 d,.bool f]] [] [] N0 (λ_=> .bool (mQ r s b m c way e mode j h i g a heavy d)):=by
 exact fG Tryz.func79 λw cs=>ra (λk=>[(1,pt (B0 k) 0),(2,.bool false)]) (λk=>[ob (B0 k) #[i6 r,i6 s,i6 b,i6 m,i6 c,i6 way,i6 e,i6 mode,i6 j,i6 h,i6 i,i6 g,i6 a,i6 heavy,i6 d,.bool f] 31]) λk=>r0 [(1,.m (ls 0 ([i6 r,i6 s,i6 b,i6 m,i6 c,i6 way,i6 e]))),(2,.c [] [] (Qz r s b m c way e)),(5,.m (ld 0 (i6 mode))),(6,.c [] [] (oY mode)),(10,.m (ls 0 ([i6 j,i6 h,i6 i,i6 g,i6 a,i6 heavy]))),(11,.c [] [] (Em j h i g a heavy)),(15,.m (ld 0 (i6 d))),(20,.m (ld 0 (i6 d))),] [(2,.bool (((((kZ r s b m c way e)&&((mode==1)||(mode==2)))&&(((((g8 j h&&g8 i g)&&decide (1≤a))&&decide (a≤256))&&decide (1≤heavy))&&decide (heavy≤65536)))&&(decide (1≤d)))&&(decide (d≤256))))] [2] (ao (.bool (((((kZ r s b m c way e)&&((mode==1)||(mode==2)))&&(((((g8 j h&&g8 i g)&&decide (1≤a))&&decide (a≤256))&&decide (1≤heavy))&&decide (heavy≤65536)))&&(decide (1≤d)))&&(decide (d≤256)))) ab.zero bg [] [] [])
structure Cf where
 R:Nat
 S:Nat
 B:Nat
 M:Nat
 C:Nat
 G:Nat
 res:Nat
 E:Nat
 lr:Nat
 er:Nat
 lp:Nat
 ep:Nat
 K:Nat
 J:Nat
 log:Nat
 X:Bool
abbrev cA(c:Cf):Array Value:=#[i6 (c.R:Int),i6 (c.S:Int),i6 (c.B:Int),i6 (c.M:Int),i6 (c.C:Int),i6 (c.G:Int),i6 (c.res:Int),i6 (c.E:Int),i6 (c.lr:Int),i6 (c.er:Int),i6 (c.lp:Int),i6 (c.ep:Int),i6 (c.K:Int),i6 (c.J:Int),i6 (c.log:Int),.bool c.X]
abbrev lA(c:Cf)(a b d t:Nat):Array Value:=#[i6 (c.R:Int),i6 (c.S:Int),i6 (c.B:Int),i6 (c.M:Int),i6 (c.C:Int),i6 (c.G:Int),i6 (c.res:Int),i6 (c.E:Int),i6 (c.lr:Int),i6 (c.er:Int),i6 (c.lp:Int),i6 (c.ep:Int),i6 (c.K:Int),i6 (c.J:Int),i6 (c.log:Int),.bool c.X,pt a 0,pt b 0,pt d 0,i6 (t:Int)]
structure cr (c:Cf):Prop where
 ly:ij c.R c.S c.B c.M c.C c.G c.res
 E:c.E=1∨c.E=2
 r:iL c.lr c.er
 p:iL c.lp c.ep
 m1:1≤c.K
 m2:c.K≤256
 h1:1≤c.J
 h2:c.J≤65536
 l1:1≤c.log
 l2:c.log≤256
theorem QA{k:Nat}{w:World}(h:k<3):(Instr.index 228 (.agg #[i6 0,i6 0,i6 0]) (.int .i64 (k:Int))).run WJ w= .ok (i6 0) w:=by
 rcases k with _ | _ | _ | k
 ·kernel_rfl
 ·kernel_rfl
 ·kernel_rfl
 ·omega
theorem ij.v{R S B M C way a:Nat}(h:ij R S B M C way a):kZ R S B M C way a=true:=by
 have b:=h.G;have c:=h.r64;have d:=h.rp;unfold kZ;rw[h.O.ok];simp only[Xx,WU,decide_eq_true_eq];rw[←WW,←WW];omega
theorem cr.v{c:Cf}(h:cr c):mQ c.R c.S c.B c.M c.C c.G c.res c.E c.lr c.er c.lp c.ep c.K c.J c.log=true:=by
 have a:=h.m1;have b:=h.m2;have d:=h.h1;have f:=h.h2;have g:=h.l1;have i:=h.l2;unfold mQ;rw[h.ly.v,h.r.r,h.p.r];simp only[Xx,WU,Xe,decide_eq_true_eq,beq_iff_eq];rcases h.E with e | e<;>omega
theorem QB{r s b m c way a:Int}(h:kZ r s b m c way a=true): ∃R S B M C w q:Nat,r=R∧s=S∧b=B∧m=M∧c=C∧way=w∧a=q∧ij R S B M C w q:=by
 unfold kZ at h;simp only[WU,decide_eq_true_eq] at h;obtain⟨⟨⟨⟨⟨f,g⟩,i⟩,j⟩,k⟩,d⟩:=h;obtain⟨R,S,B,M,C,rfl,rfl,rfl,rfl,rfl,e⟩:=De f;rw[←WW,←WW] at d;exact⟨R,S,B,M,C,way.toNat,a.toNat,rfl,rfl,rfl,rfl,rfl,by omega,by omega,e,by omega,by omega,by omega⟩
theorem QC{r s b m c way f mode k i j g a heavy d:Int}(e:Bool)(h:mQ r s b m c way f mode k i j g a heavy d=true): ∃q:Cf,r=q.R∧s=q.S∧b=q.B∧m=q.M∧c=q.C∧way=q.G∧f=q.res∧mode=q.E∧k=q.lr∧i=q.er∧j=q.lp∧g=q.ep∧a=q.K∧heavy=q.J∧d=q.log∧e=q.X∧cr q:=by
 unfold mQ at h;simp only[WU,Xe,decide_eq_true_eq,beq_iff_eq] at h;obtain⟨⟨⟨⟨p,D⟩,⟨⟨⟨⟨⟨t,hp⟩,u⟩,v⟩,x⟩,y⟩⟩,z⟩,A⟩:=h;obtain⟨R,S,B,M,C,w,q,rfl,rfl,rfl,rfl,rfl,rfl,rfl,l⟩:=QB p;obtain⟨k,i,rfl,rfl,o⟩:=DX t;obtain⟨j,g,rfl,rfl,n⟩:=DX hp;exact⟨⟨R,S,B,M,C,w,q,mode.toNat,k,i,j,g,a.toNat,heavy.toNat,d.toNat,e⟩,rfl,rfl,rfl,rfl,rfl,rfl,rfl,by show mode=(mode.toNat:Int);omega,rfl,rfl,rfl,rfl,by show a=(a.toNat:Int);omega,by show heavy=(heavy.toNat:Int);omega,by show d=(d.toNat:Int);omega,rfl,l,by show mode.toNat=1∨mode.toNat=2;omega,o,n,by show 1≤a.toNat;omega,by show a.toNat≤256;omega,by show 1≤heavy.toNat;omega,by show heavy.toNat≤65536;omega,by show 1≤d.toNat;omega,by show d.toNat≤256;omega⟩
theorem yQ(c:Cf)(h:cr c):aa WJ 79 #[.agg (cA c)] [] [] N0 (λ_=> .bool true):=by
 have a:=En c.R c.S c.B c.M c.C c.G c.res c.E c.lr c.er c.lp c.ep c.K c.J c.log c.X;rwa [h.v] at a
theorem QD(c:Cf)(a:cr c):aa WJ 114 #[.agg (cA c)] [] [] (λE=>[ob (E.y 0) #[iN c.R,iN c.S,iN c.B,iN c.M,iN c.C,iN c.G,iN c.res,iN c.E,iN c.lr,iN c.er,iN c.lp,iN c.ep,iN c.K,iN c.J,iN c.log,.bool c.X,pt ((E.y 1)) 0,pt ((E.y 2)) 0,pt ((E.y 3)) 0,i6 0] 122,pk (ar (E.y 1) ((E.y 4)) ((E.y 5)) ⟨kX c.R c.S c.B c.M c.C c.G c.res,kb,[]⟩),pk (aD (E.y 2) ((E.y 6)) (pd c.lr c.er c.lp c.ep c.K c.J c.R)),pk (az (E.y 3) (o7 c.log))]) (λE=> .tuple #[pt ((E.y 0)) 0,i6 0]):=by
 have f:=a.ly;have p:=a.r;have o:=a.p;have y:=a.m1;have z:=a.m2;have q:=a.h1;have r:=a.h2;have v:=a.l1;have x:=a.l2;have A:=f.O.bd.r1;have B:=f.O.bd.r8;refine fG Tryz.func114 λw cs=>ra (λi=>[(1,pt (B0 i) 0),(2,.pointer none),(3,i6 0)]) (λi=>[ob (B0 i) (cA c) 31]) λi=>rF [(0,.l 0),(1,.c [] [] (yQ c a))] 10 (rr (λ_=>[(0,.l 0)]) (λd=>[(4,pt (B2 d) 0)]) [] (λd L=>L++[ob (B2 d) #[iN c.R,iN c.S,iN c.B,iN c.M,iN c.C,iN c.G,iN c.res,iN c.E,iN c.lr,iN c.er,iN c.lp,iN c.ep,iN c.K,iN c.J,iN c.log,.bool c.X,.pointer none,.pointer none,.pointer none,i6 0] 122]) λd=>ra (λj=>[(5,pt (B0 j) 0)]) (λj=>[ob (B0 j) #[i6 0,i6 0,i6 0] 228]) λj=>rr (λb=>[(2,.m (ls 0 ([iN c.R,iN c.S,iN c.B,iN c.M,iN c.C,iN c.G,iN c.res]))),(3,.c [] [3] (Pg c.R c.S c.B c.M c.C c.G c.res f)),(9,.s 1),(11,.s 2)]) N0 [] (λb L=>L.set 1 (ob (B2 d) #[iN c.R,iN c.S,iN c.B,iN c.M,iN c.C,iN c.G,iN c.res,iN c.E,iN c.lr,iN c.er,iN c.lp,iN c.ep,iN c.K,iN c.J,iN c.log,.bool c.X,pt ((B3 b)) 0,.pointer none,.pointer none,i6 0] 122)++[pk (ar (B3 b) ((b 3).y 1) ((b 3).y 2) ⟨kX c.R c.S c.B c.M c.C c.G c.res,kb,[]⟩)]) λb=>rr (λe=>[(2,.m (ls 0 ([iN c.lr,iN c.er,iN c.lp,iN c.ep,iN c.K,iN c.J]))),(6,.m (ld 0 (iN c.R))),(7,.c [] [4] (Qw c.lr c.er c.lp c.ep c.K c.J c.R p o Om Om Om Om Om Om)),(13,.s 1),(15,.s 2)]) N0 [] (λe L=>L.set 1 (ob (B2 d) #[iN c.R,iN c.S,iN c.B,iN c.M,iN c.C,iN c.G,iN c.res,iN c.E,iN c.lr,iN c.er,iN c.lp,iN c.ep,iN c.K,iN c.J,iN c.log,.bool c.X,pt ((B3 b)) 0,pt ((B7 e)) 0,.pointer none,i6 0] 122)++[pk (aD (B7 e) ((e 7).y 1) (pd c.lr c.er c.lp c.ep c.K c.J c.R))]) λe=>rr (λh=>[(2,.m (ld 0 (iN c.log))),(3,.c [] [5] (PQ c.log Om Om)),(9,.s 1),(11,.s 2)]) N0 [] (λh L=>L.set 1 (ob (B2 d) #[iN c.R,iN c.S,iN c.B,iN c.M,iN c.C,iN c.G,iN c.res,iN c.E,iN c.lr,iN c.er,iN c.lp,iN c.ep,iN c.K,iN c.J,iN c.log,.bool c.X,pt ((B3 b)) 0,pt ((B7 e)) 0,pt ((B3 h)) 0,i6 0] 122)++[pk (az (B3 h) (o7 c.log))]) λh=>r0 [(0,.l 2)] [(48,.agg #[i6 0,i6 0,i6 0]),(49,i6 0)] [] ?_);refine lq (λk=>k≤3) (λk=>[(49,iN k)]) (λ_ L=>L) (λk=>3-k) 0 Om Kr Kr (λk u=>?_);refine r0 [] [(50,.bool (decide ((k:Int)<3)))] [] ?_;refine bW (k:Int) 3 (λn g=>?_) λn g=>?_
 ·exact r0 [(0,.t (tv (Instr.index 228 (.agg #[i6 0,i6 0,i6 0]) (iN k)) (λ_=>QA Om)))] [(7,i6 0)] [] (rF [] 53 (r0 [(0,ad k 1)] [(49,iN (k+1))] [49] (le (k+1) Om Om Kr [0,1,2,3,4,5] Kr)))
 obtain rfl:k=3:=by omega
 exact lx (r0 [] [(2,pt (B2 d) 0),(3,i6 0)] [] (lf (.l [(d 2).y 0,(B3 b),(B7 e),(B3 h),(b 3).y 1,(b 3).y 2,(e 7).y 1] [] []) [1,3,4,5] [] []))
theorem nA(b e d a:Nat)(c:Cf)(time:Nat)(g:Lg)(f:fP g)(k i o:Nat):aa WJ 205 #[pt b 0,iN k,iN i,iN o] [ob b (lA c e d a time) 122,pk (az a g)] [1] (λ_=>[pk (az a (bX g ⟨0,time,k,i,o⟩))]) (λ_=> .tuple #[]):=by
 refine fG Tryz.func205 λw cs=>rs [(3,.m (ld 0 (pt a 0))),(7,.m (ld 0 (iN time))),(12,.c [1] [1] (PZ a g ⟨0,time,k,i,o⟩ f))] 1 ((pk (az a (bX g ⟨0,time,k,i,o⟩)))) ?_;exact ew ab.zero [1] [(0,0)] [] (hf:=by kernel_rfl)
theorem Eo(g a b:Nat)(r:Rp)(d:aK r)(p:Nat)(hp:p<r.m.R*r.m.B*r.m.M):aa WJ 64 #[pt a 0,iN p] [pk (ar g a b r)] [0] (λ_=>[pk (ar g a b r)]) (λ_=> .tuple #[iN (aO r.m p),i6 0]):=(DD a r.m d.m p hp).inW λL c=>⟨1,by rw[c];rfl,by rw[c];rfl⟩
theorem QE(g a b:Nat)(r:Rp)(d:aK r)(p:Nat)(hp:p<r.m.R*r.m.B*r.m.M):aa WJ 86 #[pt a 0,iN p] [pk (ar g a b r)] [0] (λ_=>[pk (ar g a b r)]) (λ_=> .bool (decide (p<r.m.R*r.m.B*r.m.M-r.m.res+r.m.Q)&& !r.m.P.getD p false)):=(Og a r.m d.m p hp).inW λL c=>⟨1,by rw[c];rfl,by rw[c];rfl⟩
theorem QF(g a b:Nat)(r:Rp)(d:aK r)(p:Nat)(hp:p<r.m.R*r.m.B*r.m.M):aa WJ 25 #[pt a 0,iN p] [pk (ar g a b r)] [0] (λ_=>[pk (ar g a b r)]) (λ_=> .bool (r.m.P.getD p false)):=(u4 a r.m d.m p hp).inW λL c=>⟨1,by rw[c];rfl,by rw[c];rfl⟩
theorem QG(g a b:Nat)(r:Rp)(d:aK r)(p:Nat)(hp:p<r.m.R):aa WJ 26 #[pt a 0,iN p] [pk (ar g a b r)] [0] (λ_=>[pk (ar g a b r)]) (λ_=> .tuple #[i6 (jN r.m p),.bool (cy r.m p)]):=(yr a r.m d.m p hp).inW λL c=>⟨1,by rw[c];rfl,by rw[c];rfl⟩
theorem yR(g a b:Nat)(r:Rp)(d:aK r):aa WJ 63 #[pt a 0] [pk (ar g a b r)] [0] (λ_=>[pk (ar g a b r)]) (λ_=> .agg #[iN r.m.R,iN r.m.S,iN r.m.B,iN r.m.M,iN r.m.C,iN r.m.G,iN r.m.res]):=(jk a r.m d.m).inW λL c=>⟨1,by rw[c];rfl,by rw[c];rfl⟩
theorem qd(g a i h d e:Nat)(c:Cf)(time:Nat)(r:Rp)(f:aK r)(p:Nat)(hp:p<r.m.R*r.m.B*r.m.M):aa WJ 248 #[pt g 0,iN p] [ob g (lA c a i h time) 122,pk (ar a d e r)] [1] (λ_=>[pk (ar a d e r)]) (λ_=>iN (aO r.m p*64)):=by
 have j:=u2 f.m hp;exact fG Tryz.func248 λw cs=>r0 [] [(4,i6 0)] [] (r0 [(3,.m (ld 0 (pt a 0))),(4,.c [1] [1] (sk a d e r f)),(6,.c [1] [1] (Eo a d e r f p hp)),] [(5,iN (aO r.m p))] [] (r0 [(1,.t (tv (av .shl 3 (.tmp 17) (.const (u6 6)) (iN (aO r.m p)) (u6 6)) (λ_=>dQ (b:=((aO r.m p*64:Nat):Int)) (fk 6 Dc Om Om) Om)))] [(4,iN (aO r.m p*64))] [4] (lf ab.zero [1] [(0,0)] [])))
theorem QH(i h e a j m p:Nat)(c:Cf)(time:Nat)(r:Rp)(n:aK r)(k:Tk)(y:dV k)(g:Lg)(s:fP g)(f t:Nat)(q:f<r.m.R*r.m.B*r.m.M)(x:t<r.m.R*r.m.B*r.m.M):aa WJ 213 #[pt i 0,i6 1,.agg #[i6 3,iN f,iN t]] [ob i (lA c h e a time) 122,pk (ar h j m r),pk (aD e p k),pk (az a g)] [1,2,3] (λ_=>[pk (ar h j m r),pk (aD e p k),pk (az a (bX g ⟨0,time,3,(aO r.m f*64),(aO r.m t*64)⟩))]) (λ_=> .tuple #[]):=by
 have u:=n.m.np;have v:=n.m.ly.rp;refine fG Tryz.func213 λw cs=>ra (λo=>[(5,pt (B0 o) 0)]) (λo=>[ob (B0 o) #[i6 3,iN f,iN t] 349]) λo=>r0 [(1,.l 4),(2,.t (tv (av .shl 3 (.tmp 9) (.const (u6 20)) (iN f) (u6 20)) (λ_=>dQ (b:=((f*1048576:Nat):Int)) (fk 20 Dc Om Om) Om))),(4,.l 4),(5,.t (tv (av .shl 3 (.tmp 12) (.const (u6 20)) (iN t) (u6 20)) (λ_=>dQ (b:=((t*1048576:Nat):Int)) (fk 20 Dc Om Om) Om)))] [(6,iN (f*1048576)),(7,iN (t*1048576))] [] (rT [] 15 (r0 [(2,.l 4),(3,.c [0,1] [1] (qd i h e a j m c time r n f Om)),(6,.l 4),(7,.c [0,1] [1] (qd i h e a j m c time r n t Om))] [(6,iN (aO r.m f*64)),(7,iN (aO r.m t*64))] [6,7] (rF [(1,.l 4)] 26 (rs [(2,.l 4),(5,.c [0,3] [3] (nA i h e a c time g s 3 (aO r.m f*64) (aO r.m t*64)))] 3 ((pk (az a (bX g ⟨0,time,3,(aO r.m f*64),(aO r.m t*64)⟩)))) (rF [(1,.l 4),(4,.d),(5,.d)] 35 (rF [(1,.l 4)] 50 ?_))))));exact ew ab.zero [1,2,3] [(0,0)] []
theorem QI(i h e a j m p:Nat)(c:Cf)(time:Nat)(r:Rp)(n:aK r)(k:Tk)(x:dV k)(g:Lg)(s:fP g)(f:Nat)(q:f<r.m.R*r.m.B*r.m.M):aa WJ 213 #[pt i 0,i6 1,.agg #[i6 5,iN f,i6 0]] [ob i (lA c h e a time) 122,pk (ar h j m r),pk (aD e p k),pk (az a g)] [1,2,3] (λ_=>[pk (ar h j m r),pk (aD e p k),pk (az a (bX g ⟨0,time,5,(aO r.m f*64),0⟩))]) (λ_=> .tuple #[]):=by
 have u:=n.m.np;have v:=n.m.ly.rp;refine fG Tryz.func213 λw cs=>ra (λo=>[(5,pt (B0 o) 0)]) (λo=>[ob (B0 o) #[i6 5,iN f,i6 0] 349]) λo=>r0 [(1,.l 4),(2,.t (tv (av .shl 3 (.tmp 9) (.const (u6 20)) (iN f) (u6 20)) (λ_=>dQ (b:=((f*1048576:Nat):Int)) (fk 20 Dc Om Om) Om))),(4,.l 4),(5,.t (tv (av .shl 3 (.tmp 12) (.const (u6 20)) (i6 0) (u6 20)) (λ_=>dQ (b:=((0:Nat):Int)) (fk 20 Dc Om Om) Om)))] [(6,iN (f*1048576)),(7,i6 0)] [] (rT [] 15 (r0 [(2,.l 4),(3,.c [0,1] [1] (qd i h e a j m c time r n f Om)),(6,.l 4),(7,.c [0,1] [1] (qd i h e a j m c time r n 0 Om))] [(6,iN (aO r.m f*64)),(7,iN (aO r.m 0*64))] [6,7] (rT [(1,.l 4)] 26 (r0 [(1,.l 4)] [(7,i6 0)] [7] (rs [(2,.l 4),(5,.c [0,3] [3] (nA i h e a c time g s 5 (aO r.m f*64) 0))] 3 ((pk (az a (bX g ⟨0,time,5,(aO r.m f*64),0⟩)))) (rF [(1,.l 4),(4,.d),(5,.d)] 35 (rF [(1,.l 4)] 50 ?_)))))));exact ew ab.zero [1,2,3] [(0,0)] []
theorem QJ(h e a d i j m:Nat)(c:Cf)(time:Nat)(r:Rp)(n:aK r)(k:Tk)(s:dV k)(g:Lg)(q:fP g)(f t:Nat)(p:f<r.m.R*r.m.B*r.m.M)(x:t<r.m.R*r.m.B*r.m.M):aa WJ 213 #[pt h 0,i6 1,.agg #[i6 6,iN f,iN t]] [ob h (lA c e a d time) 122,pk (ar e i j r),pk (aD a m k),pk (az d g)] [1,2,3] (λ_=>[pk (ar e i j r),pk (aD a m (qc k f)),pk (az d (bX g ⟨0,time,6,(aO r.m f*64),(aO r.m t*64)⟩))]) (λ_=> .tuple #[]):=by
 have u:=n.m.np;have v:=n.m.ly.rp;refine fG Tryz.func213 λw cs=>ra (λo=>[(5,pt (B0 o) 0)]) (λo=>[ob (B0 o) #[i6 6,iN f,iN t] 349]) λo=>r0 [(1,.l 4),(2,.t (tv (av .shl 3 (.tmp 9) (.const (u6 20)) (iN f) (u6 20)) (λ_=>dQ (b:=((f*1048576:Nat):Int)) (fk 20 Dc Om Om) Om))),(4,.l 4),(5,.t (tv (av .shl 3 (.tmp 12) (.const (u6 20)) (iN t) (u6 20)) (λ_=>dQ (b:=((t*1048576:Nat):Int)) (fk 20 Dc Om Om) Om)))] [(6,iN (f*1048576)),(7,iN (t*1048576))] [] (rT [] 15 (r0 [(2,.l 4),(3,.c [0,1] [1] (qd h e a d i j c time r n f Om)),(6,.l 4),(7,.c [0,1] [1] (qd h e a d i j c time r n t Om))] [(6,iN (aO r.m f*64)),(7,iN (aO r.m t*64))] [6,7] (rF [(1,.l 4)] 26 (rs [(2,.l 4),(5,.c [0,3] [3] (nA h e a d c time g q 6 (aO r.m f*64) (aO r.m t*64)))] 3 ((pk (az d (bX g ⟨0,time,6,(aO r.m f*64),(aO r.m t*64)⟩)))) (rT [(1,.l 4)] 35 (rs [(3,.l 0),(5,.l 4),(6,.c [2] [2] (Qm a m k s f))] 2 ((pk (aD a m (qc k f)))) ?_))))));exact ew ab.zero [1,2,3] [(0,0)] []
theorem QK(j h e a m n o:Nat)(c:Cf)(time:Nat)(r:Rp)(p:aK r)(k:Tk)(y:dV k)(g:Lg)(s:fP g)(f t:Nat)(q:f<8)(x:t<8):aa WJ 213 #[pt j 0,i6 2,.agg #[i6 4,iN f,iN t]] [ob j (lA c h e a time) 122,pk (ar h m n r),pk (aD e o k),pk (az a g)] [1,2,3] (λ_=>[pk (ar h m n r),pk (aD e o k),pk (az a (bX g ⟨0,time,4,(f*1048576),(t*1048576)⟩))]) (λ_=> .tuple #[]):=by
 have u:=p.m.np;have v:=p.m.ly.rp;refine fG Tryz.func213 λw cs=>ra (λi=>[(5,pt (B0 i) 0)]) (λi=>[ob (B0 i) #[i6 4,iN f,iN t] 349]) λi=>r0 [(1,.l 4),(2,.t (tv (av .shl 3 (.tmp 9) (.const (u6 20)) (iN f) (u6 20)) (λ_=>dQ (b:=((f*1048576:Nat):Int)) (fk 20 Dc Om Om) Om))),(4,.l 4),(5,.t (tv (av .shl 3 (.tmp 12) (.const (u6 20)) (iN t) (u6 20)) (λ_=>dQ (b:=((t*1048576:Nat):Int)) (fk 20 Dc Om Om) Om)))] [(6,iN (f*1048576)),(7,iN (t*1048576))] [] (rF [] 15 (rF [(1,.l 4)] 26 (rs [(2,.l 4),(5,.c [0,3] [3] (nA j h e a c time g s 4 (f*1048576) (t*1048576)))] 3 ((pk (az a (bX g ⟨0,time,4,(f*1048576),(t*1048576)⟩)))) (rF [(1,.l 4),(4,.d),(5,.d)] 35 (rF [(1,.l 4)] 50 ?_)))));exact ew ab.zero [1,2,3] [(0,0)] []
theorem QL(j h e a m n o:Nat)(c:Cf)(time:Nat)(r:Rp)(p:aK r)(k:Tk)(x:dV k)(g:Lg)(s:fP g)(f:Nat)(q:f<8):aa WJ 213 #[pt j 0,i6 2,.agg #[i6 5,iN f,i6 1]] [ob j (lA c h e a time) 122,pk (ar h m n r),pk (aD e o k),pk (az a g)] [1,2,3] (λ_=>[pk (ar h m n r),pk (aD e o k),pk (az a (bX g ⟨0,time,5,(f*1048576),1⟩))]) (λ_=> .tuple #[]):=by
 have u:=p.m.np;have v:=p.m.ly.rp;refine fG Tryz.func213 λw cs=>ra (λi=>[(5,pt (B0 i) 0)]) (λi=>[ob (B0 i) #[i6 5,iN f,i6 1] 349]) λi=>r0 [(1,.l 4),(2,.t (tv (av .shl 3 (.tmp 9) (.const (u6 20)) (iN f) (u6 20)) (λ_=>dQ (b:=((f*1048576:Nat):Int)) (fk 20 Dc Om Om) Om))),(4,.l 4),(5,.t (tv (av .shl 3 (.tmp 12) (.const (u6 20)) (i6 1) (u6 20)) (λ_=>dQ (b:=((1048576:Nat):Int)) (fk 20 Dc Om Om) Om)))] [(6,iN (f*1048576)),(7,i6 1048576)] [] (rF [] 15 (rT [(1,.l 4)] 26 (r0 [(1,.l 4)] [(7,i6 1)] [7] (rs [(2,.l 4),(5,.c [0,3] [3] (nA j h e a c time g s 5 (f*1048576) 1))] 3 ((pk (az a (bX g ⟨0,time,5,(f*1048576),1⟩)))) (rF [(1,.l 4),(4,.d),(5,.d)] 35 (rF [(1,.l 4)] 50 ?_))))));exact ew ab.zero [1,2,3] [(0,0)] []
theorem QM(j e a d m n h:Nat)(c:Cf)(time:Nat)(r:Rp)(o:aK r)(k:Tk)(u:dV k)(g:Lg)(s:fP g)(f t:Nat)(p:f<8)(y:t<8)(q:f<k.F.length):aa WJ 213 #[pt j 0,i6 2,.agg #[i6 6,iN f,iN t]] [ob j (lA c e a d time) 122,pk (ar e m n r),pk (aD a h k),pk (az d g)] [1,2,3] (λ_=>[pk (ar e m n r),pk (aD a h (pb k f)),pk (az d (bX g ⟨0,time,6,(f*1048576),(t*1048576)⟩))]) (λ_=> .tuple #[]):=by
 have v:=o.m.np;have x:=o.m.ly.rp;refine fG Tryz.func213 λw cs=>ra (λi=>[(5,pt (B0 i) 0)]) (λi=>[ob (B0 i) #[i6 6,iN f,iN t] 349]) λi=>r0 [(1,.l 4),(2,.t (tv (av .shl 3 (.tmp 9) (.const (u6 20)) (iN f) (u6 20)) (λ_=>dQ (b:=((f*1048576:Nat):Int)) (fk 20 Dc Om Om) Om))),(4,.l 4),(5,.t (tv (av .shl 3 (.tmp 12) (.const (u6 20)) (iN t) (u6 20)) (λ_=>dQ (b:=((t*1048576:Nat):Int)) (fk 20 Dc Om Om) Om)))] [(6,iN (f*1048576)),(7,iN (t*1048576))] [] (rF [] 15 (rF [(1,.l 4)] 26 (rs [(2,.l 4),(5,.c [0,3] [3] (nA j e a d c time g s 6 (f*1048576) (t*1048576)))] 3 ((pk (az d (bX g ⟨0,time,6,(f*1048576),(t*1048576)⟩)))) (rF [(1,.l 4)] 35 (rT [(1,.l 4)] 50 (rs [(3,.l 0),(5,.l 4),(6,.c [2] [2] (Qn a h k u f Om))] 2 ((pk (aD a h (pb k f)))) ?_))))));exact ew ab.zero [1,2,3] [(0,0)] []
theorem QN(m:Nat)(a:m<18446744073709551616):aa WJ 131 #[u6 (m:Int)] [] [] N0 (λ_=> .bool (decide (pc m=64))):=by
 exact fG Tryz.func131 λw cs=>r0 [] [(2,.bool false)] [] (r0 [(1,.c [] [] (ru m Om))] [(2,.bool ((((pc m):Nat):Int)==64))] [2] (ao (.bool ((((pc m):Nat):Int)==64)) ab.zero (by exact ALca Value.bool (lX (pc m) 64)) [] [] []))
def eZ(x:UInt8)(k:Nat):List UInt8:=WK k x++WK (64-k) 0
theorem QO{x:UInt8}{k:Nat}(h:k≤64):(eZ x k).length=64:=by unfold eZ;rw[WL,WN,WN];omega
theorem QP{x:UInt8}{k:Nat}(h:k<64):(eZ x k).set k x=eZ x (k+1):=by
 unfold eZ;rw[Xj _ _ (by rw[WN];exact W4 _),WN,Nat.sub_self,show 64-k=(64-(k+1))+1 by omega,List.replicate_succ,List.replicate_succ',W5];rfl
theorem QQ(x:UInt8):aa WJ 46 #[u1 (x.toNat:Int)] [] [] N0 (λ_=> .agg (rB 64 (eZ x 64)).toArray):=by
 refine fG Tryz.func46 λw cs=>ra (λb=>[(2,pt (B0 b) 0)]) (λb=>[ob (B0 b) (rB 64 z6).toArray 43]) λb=>ra (λa=>[(3,pt (B0 a) 0)]) (λa=>[ob (B0 a) (rB 64 z6).toArray 43]) λa=>r0 [] [(5,i6 0)] [] ?_;refine lq (λk=>k≤64) (λk=>[(5,iN k)]) (λk L=>L.set 1 (ob (B0 a) (rB 64 (eZ x k)).toArray 43)) (λk=>64-k) 0 Om Kr (by rw[show eZ x 0=WK 64 0 from rfl];kernel_rfl) (λk f=>?_);have d:=QO (x:=x) (k:=k) Om;refine r0 [] [(6,.bool (decide ((k:Int)<64)))] [] ?_;refine bW (k:Int) 64 (λe c=>?_) λe c=>?_
 ·exact r0 [] [(4,iN k)] [] (rs [(2,iA 43 .i64 (B0 a) 0 64 1 k),(3,wD 1 (B0 a) k 43 (u1 (x.toNat:Int)) (rB 64 (eZ x k)) (rB 64 ((eZ x k).set k x)) (jV Om) (mn (show(eZ x k).length=64 by(simp only[LL,d];done))))] 1 (ob (B0 a) (rB 64 ((eZ x k).set k x)).toArray 43) (r0 [(0,ad k 1)] [(5,iN (k+1))] [5] (le (k+1) Om Om Kr [0,1] (by rw[←QP Om];kernel_rfl))))
 obtain rfl:k=64:=by omega
 exact lx (rs [(0,.l 1),(1,.s 0)] 0 (ob (B0 b) (rB 64 (eZ x 64)).toArray 43) (lf ab.zero [] [] [0]))
theorem Ep(v:Value)(xs:List UInt8)(e:xs.length=64):aa WJ 130 #[v] [.p (aG eB v xs)] [] N0 (λ_=> .tuple #[.agg (rB 64 xs).toArray,i6 0]):=by
 exact fO Tryz.func130 0 rfl λb a=>fG Tryz.func130 λw cs=>ra (λd=>[(2,pt (B0 d) 0),(3,i6 0)]) (λd=>[ob (B0 d) (rB 64 z6).toArray 43]) λd=>rF [(1,du a.1 0),(2,.t (tk (show Value.bool ((xs.length:Int) != 64)= .bool false from ALca Value.bool (by rw[e];rfl))))] 6 (rr (λ_=>[(1,.m (BI 0 (.c b) 64 (cP a.1) Dc Om)),(2,.m (BJ 0 (.c b) 64 (rB 64 xs) (cP a.1) (kL e).symm Om (BK (λ_=>rfl) e))),(3,.s 1)]) (λ_=>[(3,i6 0)]) [3] (λ_ L=>L.set 1 (ob (B0 d) (rB 64 xs).toArray 43)) λf=>lf ab.zero [] [(0,0)] [1])
def ke(l o:List UInt8)(is:List Nat):List UInt8:=is.foldl (λl i=>l.set i (o.getD i 0)) l
def iM(l o:List UInt8)(m:Nat):List UInt8:=ke l o (bH m)
theorem vq(o:List UInt8): ∀(is:List Nat) (l:List UInt8),(ke l o is).length=l.length
 | [],_=>rfl
 | i::is,l=>by
  show(ke (l.set i (o.getD i 0)) o is).length=_;rw[vq o is,WR]
theorem QR{l o:List UInt8}{is:List Nat}{k:Nat}(h:k<is.length):(ke l o (is.take k)).set (is.getD k 0) (o.getD (is.getD k 0) 0)=ke l o (is.take (k+1)):=by
 unfold ke;rw[Xb,WO h,Xr,WM,WO h];rfl
theorem QS(l y:List UInt8)(m:Nat)(f:l.length=64)(h:y.length=64)(u:m<18446744073709551616):aa WJ 94 #[.agg (rB 64 l).toArray,.agg (rB 64 y).toArray,u6 (m:Int)] [] [] N0 (λ_=> .agg (rB 64 (ke l y ((bH m).take ((bH m).length)))).toArray):=by
 refine fG Tryz.func94 λw cs=>ra (λa=>[(3,pt (B0 a) 0),(4,pt (B1 a) 0),(6,pt (B2 a) 0)]) (λa=>[ob (B0 a) (rB 64 l).toArray 43,ob (B1 a) (rB 64 y).toArray 43,ob (B2 a) (rB 64 z6).toArray 43]) λa=>rr (λ_=>[(1,.c [] [3] (BQ m))]) (λb=>[(9,.func (.func 172) #[] #[pt ((B1 b)) 0])]) [] (λb L=>L++[ob (B1 b) #[u6 (m:Int)] 44]) λb=>?_;refine Bu (encs:=λ(i:Nat)=>#[iN i]) (xs:=bH m) (XO:=[((B1 b),.cells #[u6 (m:Int)] 44 (0,0))]) (KO:=[]) (BP (B1 b) m Om) (enters_of Tryz.func172 Kr rfl) (λk=>k≤(bH m).length) (λk L=>L.set 0 (ob (B0 a) (rB 64 (ke l y ((bH m).take k))).toArray 43)) [ob (B0 a) (rB 64 l).toArray 43,ob (B1 a) (rB 64 y).toArray 43,ob (B2 a) (rB 64 z6).toArray 43] [0,1,2,3] [3] [] Om (by rw[show ke l y ((bH m).take 0)=l by rw[Xg];rfl];kernel_rfl) (λv k x p r g e=>?_) (λo e=>?_)
 ·obtain⟨d,rfl⟩:=tz 0 g;have j:=(vq y ((bH m).take k) l).trans f;have n:=CN d;refine r0 [] [(7,iN ((bH m).getD k 0))] [] ?_;refine ag [] (λq t=>?_);exact rs [(2,iA 43 .i64 (B1 a) 0 64 1 ((bH m).getD k 0)),(3,rD 1 (B1 a) ((bH m).getD k 0) 43 (rB 64 y) (nU Om)),(4,iA 43 .i64 (B0 a) 0 64 1 ((bH m).getD k 0)),(5,wD 0 (B0 a) ((bH m).getD k 0) 43 (u1 ((y.getD ((bH m).getD k 0) 0).toNat:Int)) (rB 64 (ke l y ((bH m).take k))) (rB 64 ((ke l y ((bH m).take k)).set ((bH m).getD k 0) (y.getD ((bH m).getD k 0) 0))) (jV Om) (mn (show(ke l y ((bH m).take k)).length=64 by(simp only[LL,f,h,vq,f,h];done))))] 0 (ob (B0 a) (rB 64 ((ke l y ((bH m).take k)).set ((bH m).getD k 0) (y.getD ((bH m).getD k 0) 0))).toArray 43) (ne _ ⟨Om,rfl⟩ [0,1,2] (by rw[←QR Om];kernel_rfl))
 exact rs [(0,.l 0),(1,.s 2)] 2 (ob (B2 a) (rB 64 (ke l y ((bH m).take ((bH m).length)))).toArray 43) (lf ab.zero [] [] [2])
section
theorem og{α:Type}{p:α→Prop}{l:List α}(d:α):(∀i,i<l.length→p (l.getD i d))↔∀x∈l,p x:=by
 constructor
 ·intro h x b;obtain⟨i,a,rfl⟩:=List.getElem_of_mem b;have:=h i a;rwa [WM,WO a] at this
 ·intro h i a;rw[WM,WO a];exact h _ (List.getElem_mem a)
theorem Er{α:Type}{l:List α}{i:Nat}(h:i<l.length):(l.eraseIdx i).length=l.length-1:=by rw[WZ,ALifp h]
theorem mS(g:Lg)(x:Re):(bX g x).next=g.next+1:=by
 unfold bX
 split
 ·split<;>rfl
 ·rfl
theorem yS(g:Lg)(x:Re):(bX g x).K=g.K:=by
 unfold bX
 split
 ·split<;>rfl
 ·rfl
theorem fP.add{g:Lg}(h:fP g)(x:Re)(b:g.next+1≤1000000000):fP (bX g x):=by
 refine⟨?_,by rw[yS];exact h.r1,by rw[yS];exact h.r,by rw[mS];exact b⟩;rw[yS];have d:=h.l;have f:=o6 cY g.l;unfold bX
 split
 ·rename_i e
  split
  ·exact h.l
  ·rename_i c;have a:a1 cY g.l<g.l.length:=by omega
   show(g.l.eraseIdx (a1 cY g.l)++[qb x g.next]).length≤g.K;rw[WL,Er a];show g.l.length-1+1≤g.K;omega
 ·show(g.l++[qb x g.next]).length≤g.K;rw[WL];show g.l.length+1≤g.K;omega
theorem fP.clear{g:Lg}(h:fP g):fP (nz g):=⟨WX _,h.r1,h.r,h.n⟩
theorem Es{α:Type}{l:List α}{i:Nat}{x:α}(h:x∈l.eraseIdx i):x∈l:=List.mem_of_mem_eraseIdx h
section
variable {ev:Nat} {t:Tb}
theorem iv.mk'{a:Tb}(h:iv ev t)(b:a.K=t.K)(d:a.l.length≤t.K)(c: ∀x∈a.l,eY ev x.l x.a):iv ev a:=⟨by rw[b];exact d,by rw[b];exact h.r1,by rw[b];exact h.r,(og (p:=λx:Pa=>eY ev x.l x.a) bA).2 c⟩
theorem iv.mem(h:iv ev t): ∀x∈t.l,eY ev x.l x.a:=(og (p:=λx:Pa=>eY ev x.l x.a) bA).1 h.b
theorem iv.put(h:iv ev t){k l a:Nat}(c:eY ev l a):iv ev (o9 t k l a):=by
 have d:=h.l;have f:=h.r1;unfold o9
 split
 ·split
  ·rename_i e;refine h.mk' rfl ?_ λx b=>?_
   ·show(t.l.eraseIdx (ei t.l t.l.length).1++[(⟨k,l,a⟩:Pa)]).length≤t.K;rw[WL,Er (yO t.l t.l.length Om)];show t.l.length-1+1≤t.K;omega
   ·rcases List.mem_append.1 b with b | b
    ·exact h.mem x (Es b)
    ·rw[List.mem_singleton.1 b];exact c
  ·rename_i e;refine h.mk' rfl ?_ λx b=>?_
   ·show(t.l++[(⟨k,l,a⟩:Pa)]).length≤t.K;rw[WL];show t.l.length+1≤t.K;omega
   ·rcases List.mem_append.1 b with b | b
    ·exact h.mem x b
    ·rw[List.mem_singleton.1 b];exact c
 ·refine h.mk' rfl ?_ λx b=>?_
  ·show(t.l.set _ _).length≤t.K;rw[WR];exact h.l
  ·rcases Xh b with b | rfl
   ·exact h.mem x b
   ·exact c
theorem iv.drop(h:iv ev t)(k:Nat):iv ev (pa t k):=by
 unfold pa
 split
 ·exact h
 ·refine h.mk' rfl ?_ λx a=>h.mem x (Es a);show(t.l.eraseIdx _).length≤t.K;rw[WZ];have:=h.l
  split<;>omega
theorem iv.tick(h:iv ev t):iv ev (sr t ev):=by
 refine h.mk' rfl ?_ λx a=>?_
 ·show(a2 (cZ ev) t.l t.l.length).length≤t.K;rw[sn];exact h.l
 ·have a:x∈a2 (cZ ev) t.l t.l.length:=a;rw[Ek] at a;obtain⟨y,b,rfl⟩:=List.mem_map.1 a;exact DZ (h.mem y b)
end
section
variable {k:Tk}
theorem dV.rk(h:dV k): ∀x∈k.F,eY k.er x.l x.a:=(og (p:=λx:Bk=>eY k.er x.l x.a) bj).1 h.b
theorem dV.set(h:dV k)(r:Nat){b:Bk}(d:eY k.er b.l b.a): ∀i,i<(k.F.set r b).length→eY k.er ((k.F.set r b).getD i bj).l ((k.F.set r b).getD i bj).a:=
 (og (p:=λx:Bk=>eY k.er x.l x.a) bj).2 λx c=>by
  rcases Xh c with c | rfl
  ·exact h.rk x c
  ·exact d
theorem dV.note(h:dV k){r:Nat}(p n:Nat)(c:r<k.F.length):dV (fA k r p n):=
 ⟨h.r,h.p,h.h1,h.h2,by show(k.F.set r _).length≤8;rw[WR];exact h.n,h.set r (b:=⟨cq (k.F.getD r bj).l n,(k.F.getD r bj).a⟩) (DY (h.b r c)),h.t.put (DY (h.t.get h.p.e1 p))⟩
theorem dV.reset(h:dV k)(r:Nat):dV (pb k r):=
 ⟨h.r,h.p,h.h1,h.h2,by show(k.F.set r _).length≤8;rw[WR];exact h.n,h.set r (b:=⟨0,0⟩) ⟨WX _,h.r.e1⟩,h.t⟩
theorem dV.drop(h:dV k)(p:Nat):dV (qc k p):=⟨h.r,h.p,h.h1,h.h2,h.n,h.b,h.t.drop p⟩
theorem dV.tick(h:dV k):dV (mP k):=by
 refine⟨h.r,h.p,h.h1,h.h2,?_,(og (p:=λx:Bk=>eY k.er x.l x.a) bj).2 λx a=>?_,h.t.tick⟩
 ·show(a2 (eb k.er) k.F k.F.length).length≤8;rw[sn];exact h.n
 ·have a:x∈a2 (eb k.er) k.F k.F.length:=a;rw[Ek] at a;obtain⟨y,b,rfl⟩:=List.mem_map.1 a;exact DZ (h.rk y b)
theorem QT(k:Tk)(r p n:Nat):(fA k r p n).F.length=k.F.length:=WR
theorem QU(k:Tk)(r:Nat):(pb k r).F.length=k.F.length:=WR
theorem QV(k:Tk):(mP k).F.length=k.F.length:=sn ..
end
def fR(of:Nat)(v:Ev):Nat:=if v.k=3 then 1 else if v.k=4 then 2 else if v.k=5 then 1+v.t else of
def gB(of:Nat)(k:Tk)(v:Ev):Tk:=if v.k=6 then(if of=1 then qc k v.f else pb k v.f) else k
def oh(m:Mp)(of x:Nat):Nat:=if of=1 then aO m x*64 else x*1048576
def iO(m:Mp)(of time:Nat)(v:Ev):Re:=⟨0,time,v.k,oh m of v.f,if v.k=5 then v.t else oh m of v.t⟩
structure iP (np n of:Nat) (v:Ev):Prop where
 k:(of=1∧v.f<np∧(v.k=3∨v.k=6)∧v.t<np)∨(of=1∧v.f<np∧v.k=5∧v.t=0)∨(of=2∧v.f<n∧(v.k=4∨v.k=6)∧v.t<8)∨(of=2∧v.f<n∧v.k=5∧v.t=1)
theorem QW(of:Nat)(k:Tk)(v:Ev):(gB of k v).F.length=k.F.length:=by
 unfold gB
 split
 ·split
  ·rfl
  ·exact QU _ _
 ·rfl
theorem QX{k:Tk}(h:dV k)(of:Nat)(v:Ev):dV (gB of k v):=by
 unfold gB
 split
 ·split
  ·exact h.drop _
  ·exact h.reset _
 ·exact h
def fc(of:Nat)(k:Tk)(l:List Ev):Tk:=l.foldl (λk v=>gB (fR of v) k v) k
def eL(m:Mp)(of time:Nat)(g:Lg)(l:List Ev):Lg:=l.foldl (λg v=>bX g (iO m (fR of v) time v)) g
theorem yT(of:Nat): ∀(l:List Ev) {k:Tk},dV k→dV (fc of k l)
 | [],_,h=>h
 | v::l,_,h=>yT of l (QX h (fR of v) v)
theorem yU(of:Nat): ∀(l:List Ev) (k:Tk),(fc of k l).F.length=k.F.length
 | [],_=>rfl
 | v::l,k=>(yU of l (gB (fR of v) k v)).trans (QW _ k v)
theorem vr(m:Mp)(of time:Nat): ∀(l:List Ev) (g:Lg),(eL m of time g l).next=g.next+l.length
 | [],_=>rfl
 | v::l,g=>(vr m of time l (bX g (iO m (fR of v) time v))).trans (by rw[mS,Xu];omega)
theorem yV(m:Mp)(of time:Nat): ∀(l:List Ev) {g:Lg},fP g→g.next+l.length≤1000000000→fP (eL m of time g l)
 | [],_,h,_=>h
 | v::l,g,h,a=>by
  rw[Xu] at a;exact yV m of time l (h.add _ Om) (by rw[mS];omega)
theorem yW{α β:Type}{f:β→α→β}{b:β}{l:List α}{i:Nat}{d:α}(h:i<l.length):(l.take (i+1)).foldl f b=f ((l.take i).foldl f b) (l.getD i d):=by
 rw[Xb,WO h,Xr,WM,WO h];rfl
theorem QY{of:Nat}{k:Tk}{l:List Ev}{i:Nat}(h:i<l.length):fc of k (l.take (i+1))=gB (fR of (l.getD i cR)) (fc of k (l.take i)) (l.getD i cR):=yW h
theorem QZ{m:Mp}{of time:Nat}{g:Lg}{l:List Ev}{i:Nat}(h:i<l.length):eL m of time g (l.take (i+1))=bX (eL m of time g (l.take i)) (iO m (fR of (l.getD i cR)) time (l.getD i cR)):=yW h
structure eD (m m':Mp):Prop where
 R:m'.R=m.R
 S:m'.S=m.S
 B:m'.B=m.B
 M:m'.M=m.M
 C:m'.C=m.C
 G:m'.G=m.G
 res:m'.res=m.res
theorem eD.rfl'(m:Mp):eD m m:=⟨rfl,rfl,rfl,rfl,rfl,rfl,rfl⟩
theorem eD.tr{a b c:Mp}(h:eD a b)(g:eD b c):eD a c:=⟨g.R.trans h.R,g.S.trans h.S,g.B.trans h.B,g.M.trans h.M,g.C.trans h.C,g.G.trans h.G,g.res.trans h.res⟩
theorem Et(r:Rp)(a:Ak):eD r.m (c6 r a).m:=by
 unfold c6;cases a.k==1<;>cases dp r.m<;>cases dU r.m<;>exact⟨rfl,rfl,rfl,rfl,rfl,rfl,rfl⟩
theorem oi(r:Rp)(a:Ak):eD r.m (bn r a).m:=by
 unfold bn;cases cX r a
 ·cases r.j.A==0
  ·exact eD.rfl' _
  ·exact Et r a
 ·exact eD.rfl' _
theorem yX(r:Rp):eD r.m (fv r).m:=by
 unfold fv;cases r.j.A==1<;>exact⟨rfl,rfl,rfl,rfl,rfl,rfl,rfl⟩
theorem yY(s:Rp×List Ev):eD s.1.m (fz s).1.m:=by
 unfold fz;cases cX (aY s.1) (s.1.q.headD aJ)
 ·exact Et (aY s.1) _
 ·exact eD.rfl' _
theorem Eu: ∀(n:Nat) (s:Rp×List Ev),eD s.1.m (eC n s).1.m
 | 0,s=>eD.rfl' _
 | n+1,s=>by
  unfold eC
  split
  ·exact(yY s).tr (Eu n _)
  ·exact eD.rfl' _
theorem vt(r:Rp):eD r.m (eJ r).1.m:=by
 unfold eJ;cases kc r.m (bu r).j
 ·exact eD.rfl' _
 ·exact(yX (bu r)).tr (Eu _ (af (bu r)))
theorem Q2{r:Rp}{a:Ak}(h:aK r)(c:ey r.m a):aK (bn r a):=by
 unfold bn;cases hv:cX r a
 ·rw[ALcf];cases r.j.A==0
  ·refine⟨h.m,h.j,λx b=>?_,?_,h.fr⟩
   ·have b:x∈pZ r.q a:=b;unfold pZ at b
    split at b
    ·exact h.q x b
    ·split at b
     ·exact h.q x b
     ·rcases List.mem_append.1 b with b | b
      ·exact h.q x b
      ·rw[List.mem_singleton.1 b];exact c
   ·show(pZ r.q a).length≤256;have:=h.n;unfold pZ
    split
    ·exact h.n
    ·split
     ·exact h.n
     ·rw[WL];show r.q.length+1≤256;omega
  ·exact DR h c hv
 ·exact h
theorem Ew{r:Rp}{a:Ak}(h:aK r)(d:ey r.m a)(of:Nat): ∀v∈fM r a,iP (r.m.R*r.m.B*r.m.M) r.m.R (fR of v) v:=by
 have i:=h.m.O.bd.r8;have e:=h.m.pg;have f:=h.m.rk;have g:=h.m.ly.rp;unfold fM;rcases d.k with⟨b,c⟩ | ⟨b,c⟩
 ·rw[b];show ∀v∈(bif dp r.m then _ else _),_;cases hp:dp r.m
  ·intro v hv;obtain rfl:=List.mem_singleton.1 hv;exact⟨.inr (.inl ⟨by rw[b];rfl,c,rfl,by rw[b]⟩)⟩
  ·intro v hv;obtain rfl:=List.mem_singleton.1 hv;refine⟨.inl ⟨rfl,c,.inl rfl,?_⟩⟩;show dI r.m<_;have:r.m.Q≠r.m.res:=by unfold dp at hp;simpa using hp
   unfold dI;rw[ALifn this];show r.m.R*r.m.B*r.m.M-r.m.res+r.m.Q<_;omega
 ·rw[b];show ∀v∈(bif dU r.m then _ else _),_;cases hp:dU r.m
  ·intro v hv;obtain rfl:=List.mem_singleton.1 hv;exact⟨.inr (.inr (.inr ⟨by rw[b];rfl,c,rfl,by rw[b]⟩))⟩
  ·intro v hv;obtain rfl:=List.mem_singleton.1 hv;refine⟨.inr (.inr (.inl ⟨rfl,c,.inl rfl,?_⟩))⟩;show fa r.m<_;have:r.m.F≠r.m.S:=by unfold dU at hp;simpa using hp
   unfold fa;rw[ALifn this];omega
theorem qe{r:Rp}{a:Ak}(h:aK r)(d:ey r.m a)(of:Nat): ∀v∈bU r a,iP (r.m.R*r.m.B*r.m.M) r.m.R (fR of v) v:=by
 unfold bU;cases cX r a
 ·rw[ALcf];cases r.j.A==0
  ·rw[ALcf];cases u7 r.q a==14
   ·intro v hv;cases hv
   ·intro v hv;obtain rfl:=List.mem_singleton.1 hv;rcases d.k with⟨b,c⟩ | ⟨b,c⟩
    ·exact⟨.inr (.inl ⟨by rw[b];rfl,c,rfl,by rw[b]⟩)⟩
    ·exact⟨.inr (.inr (.inr ⟨by rw[b];rfl,c,rfl,by rw[b]⟩))⟩
  ·exact Ew h d of
 ·intro v hv;cases hv
theorem pf(r:Rp)(a:Ak):(bU r a).length≤1:=by
 unfold bU;cases cX r a
 ·rw[ALcf];cases r.j.A==0
  ·rw[ALcf];cases u7 r.q a==14
   ·exact WX _
   ·exact W4 _
  ·rw[ALct,ve];exact W4 _
 ·exact WX _
theorem Q3{s:Rp×List Ev}(h:aK s.1)(b:0<s.1.q.length)(of:Nat)(a: ∀v∈s.2,iP (s.1.m.R*s.1.m.B*s.1.m.M) s.1.m.R (fR of v) v): ∀v∈(fz s).2,iP (s.1.m.R*s.1.m.B*s.1.m.M) s.1.m.R (fR of v) v:=by
 unfold fz;cases cX (aY s.1) (s.1.q.headD aJ)
 ·intro v hv;rcases List.mem_append.1 hv with hv | hv
  ·exact a v hv
  ·exact Ew (r:=aY s.1) (vc h) ⟨(sj h b).k⟩ of v hv
 ·exact a
theorem Ex: ∀(n:Nat) (s:Rp×List Ev),n=s.1.q.length→aK s.1→∀b,(∀v∈s.2,iP (s.1.m.R*s.1.m.B*s.1.m.M) s.1.m.R (fR b v) v)→aK (eC n s).1∧(eC n s).2.length≤s.2.length+n∧∀v∈(eC n s).2,iP (s.1.m.R*s.1.m.B*s.1.m.M) s.1.m.R (fR b v) v
 | 0,s,_,h,b,c=>⟨h,W4 _,c⟩
 | n+1,s,i,h,b,c=>by
  unfold eC
  split
  ·have e:0<s.1.q.length:=by omega
   have a:=yY s;obtain⟨f,g,d⟩:=Ex n (fz s) (by rw[yE,Xv];omega) (yD h e) b (by rw[a.R,a.B,a.M];exact Q3 h e b c);rw[a.R,a.B,a.M] at d;exact⟨f,by have:=DT s;omega,d⟩
  ·exact⟨h,by omega,c⟩
theorem Ey{r:Rp}(h:aK r)(b:r.j.A≠0)(f:r.j.nx<ft r.j.A r.m.B r.m.M r.m.C):aK (eJ r).1∧(eJ r).2.length≤257∧∀v∈(eJ r).2,iP (r.m.R*r.m.B*r.m.M) r.m.R (fR r.j.A v) v:=by
 unfold eJ;cases kc r.m (bu r).j
 ·exact⟨p7 h b f,WX _,λv hv=>by cases hv⟩
 ·rw[ALct];have l:=p7 h b f;have a:=yX (bu r);have i: ∀v∈(af (bu r)).2,iP (r.m.R*r.m.B*r.m.M) r.m.R (fR r.j.A v) v:=by
   intro v hv;obtain rfl:=List.mem_singleton.1 hv;have w:=h.m.O.bd.r8;have n:=h.m.rk;rcases h.j.k with e | ⟨e,c⟩ | ⟨e,c⟩
   ·rw[e] at b;exact absurd rfl b
   ·rw[e];exact⟨.inl ⟨rfl,c.hf,.inr rfl,c.ht⟩⟩
   ·rw[e];refine⟨.inr (.inr (.inl ⟨rfl,c.hf,.inr rfl,?_⟩))⟩;have:=c.t1;show r.j.tg<8;omega
  obtain⟨g,o,d⟩:=Ex (bu r).q.length (af (bu r)) (by unfold af fv;rfl) (va l b) r.j.A (by
   show ∀v∈(af (bu r)).2,iP ((fv (bu r)).m.R*(fv (bu r)).m.B*(fv (bu r)).m.M) (fv (bu r)).m.R _ v;rw[a.R,a.B,a.M];exact i)
  have d: ∀v∈(cS (bu r)).2,iP ((fv (bu r)).m.R*(fv (bu r)).m.B*(fv (bu r)).m.M) (fv (bu r)).m.R (fR r.j.A v) v:=d;rw[a.R,a.B,a.M] at d;refine⟨g,?_,d⟩;have p:=h.n;have s:(bu r).q.length=r.q.length:=rfl;have u:(af (bu r)).2.length=1:=rfl;show(eC (bu r).q.length (af (bu r))).2.length≤257;omega
theorem Q4(of:Nat)(v:Ev):(((bif ((v.k:Nat):Int)==3 then 1 else(bif ((v.k:Nat):Int)==4 then 2 else(bif ((v.k:Nat):Int)==5 then 1+v.t else of))):Nat):Int)=((fR of v:Nat):Int):=by
 unfold fR;by_cases a:v.k=3
 ·rw[a];rfl
 by_cases b:v.k=4
 ·rw[b];rfl
 by_cases c:v.k=5
 ·rw[c];rfl
 have d:(((v.k:Nat):Int)==3)=false:=by rw[dN];omega
 have e:(((v.k:Nat):Int)==4)=false:=by rw[dN];omega
 have f:(((v.k:Nat):Int)==5)=false:=by rw[dN];omega
 rw[d,e,f,ALifn a,ALifn b,ALifn c];rfl
structure Le where
 r:Rp
 k:Tk
 g:Lg
 time:Nat
structure c0 (s:Le) (K:Nat):Prop where
 r:aK s.r
 k:dV s.k
 g:fP s.g
 n:s.g.next≤K
 rk:s.k.F.length=s.r.m.R
theorem c0.mono{s:Le}{K a:Nat}(h:c0 s K)(b:K≤a):c0 s a:=⟨h.r,h.k,h.g,WQ h.n b,h.rk⟩
def yZ(of:Nat)(s:Le)(l:List Ev):Le:={s with k:=fc of s.k l,g:=eL s.r.m of s.time s.g l}
theorem Ez{s:Le}{K:Nat}(h:c0 s K)(of:Nat)(l:List Ev)(a:K+l.length≤1000000000):c0 (yZ of s l) (K+l.length):=by
 have b:=h.n;exact⟨h.r,yT of l h.k,yV _ of _ l h.g Om,by show(eL _ of _ s.g l).next≤_;rw[vr];omega,(yU of l s.k).trans h.rk⟩
def y0(s:Le)(x:Re):Le:={s with g:=bX s.g x}
theorem vu{s:Le}{K:Nat}(h:c0 s K)(x:Re)(a:K+1≤1000000000):c0 (y0 s x) (K+1):=by
 have b:=h.n;exact⟨h.r,h.k,h.g.add x Om,by show(bX s.g x).next≤_;rw[mS];omega,h.rk⟩
def EA(s:Le)(r p n:Nat):Le:={s with k:=fA s.k r p n}
theorem y1{s:Le}{K:Nat}(h:c0 s K){r:Nat}(p n:Nat)(a:r<s.r.m.R):c0 (EA s r p n) K:=⟨h.r,h.k.note p n (by rw[h.rk];exact a),h.g,h.n,(QT ..).trans h.rk⟩
def vv(s:Le)(r:Rp):Le:={s with r:=r}
theorem ph{s:Le}{K:Nat}(h:c0 s K){a:Ak}(b:ey s.r.m a):c0 (vv s (bn s.r a)) K:=⟨Q2 h.r b,h.k,h.g,h.n,h.rk.trans (oi s.r a).R.symm⟩
def qf(s:Le)(a:Ak):Le:=yZ a.k (vv s (bn s.r a)) (bU s.r a)
theorem vw{s:Le}{K:Nat}(h:c0 s K){a:Ak}(b:ey s.r.m a)(c:K+1≤1000000000):c0 (qf s a) (K+1):=by
 have d:=pf s.r a;exact(Ez (ph h b) a.k (bU s.r a) Om).mono Om
theorem vx(s:Le)(a:Ak):eD s.r.m (qf s a).r.m:=oi s.r a
theorem ey.ly{m b:Mp}{a:Ak}(h:ey m a)(e:eD m b):ey b a:=⟨by rw[e.R,e.B,e.M];exact h.k⟩
theorem iP.ly{m a:Mp}{of:Nat}{v:Ev}(h:iP (m.R*m.B*m.M) m.R of v)(e:eD m a):iP (a.R*a.B*a.M) a.R of v:=by rw[e.R,e.B,e.M];exact h
def nB(s:Le)(b a w:Nat)(x:Re):Le:=EA (y0 s x) b a w
def fe(s:Le)(b a w:Nat)(x:Re):Le:=bif cE s.k.lp (da s.k.t a).l w then qf (nB s b a w x) ⟨1,a⟩ else nB s b a w x
def eM(s:Le)(a b w:Nat)(x:Re):Le:=bif cE s.k.lr (s.k.F.getD a bj).l w then qf (fe s a b w x) ⟨2,a⟩ else fe s a b w x
theorem EB{s:Le}{K b a w:Nat}(x:Re)(h:c0 s K)(e:b<s.r.m.R)(d:a<s.r.m.R*s.r.m.B*s.r.m.M)(f:K+3≤1000000000):c0 (fe s b a w x) (K+2):=by
 have c:=y1 (vu h x Om) a w e;unfold fe;cases cE s.k.lp (da s.k.t a).l w
 ·exact c.mono Om
 ·exact(vw c ⟨.inl ⟨rfl,d⟩⟩ Om).mono Om
theorem su(s:Le)(b a w:Nat)(x:Re):eD s.r.m (fe s b a w x).r.m:=by
 unfold fe;cases cE s.k.lp (da s.k.t a).l w
 ·exact eD.rfl' _
 ·exact vx (nB s b a w x) _
theorem EC{s:Le}{K a b w:Nat}(x:Re)(h:c0 s K)(d:a<s.r.m.R)(f:b<s.r.m.R*s.r.m.B*s.r.m.M)(e:K+3≤1000000000):c0 (eM s a b w x) (K+3):=by
 have c:=EB (w:=w) x h d f e;unfold eM;cases cE s.k.lr (s.k.F.getD a bj).l w
 ·exact c.mono Om
 ·exact(vw c ⟨.inr ⟨rfl,by rw[(su s a b w x).R];exact d⟩⟩ Om).mono Om
theorem ED(s:Le)(a b w:Nat)(x:Re):eD s.r.m (eM s a b w x).r.m:=by
 unfold eM;cases cE s.k.lr (s.k.F.getD a bj).l w
 ·exact su ..
 ·exact(su s a b w x).tr (vx _ _)
structure Nt where
 k:Nat
 v:Nat
 f:Nat
 i:Nat
 h:Nat
 r:Nat
def cH(heavy:Nat)(s:Le)(n:Nt):Le:=if n.v=0 then s else if n.v=1 then eM s n.r n.h 1 ⟨0,s.time,1,n.i,n.f⟩ else if n.v=2 then y0 s ⟨0,s.time,2,n.i,1⟩ else eM s n.r n.h heavy ⟨0,s.time,2,n.i,0⟩
theorem Q5(heavy:Nat)(s:Le)(n:Nt):eD s.r.m (cH heavy s n).r.m:=by
 unfold cH
 split
 ·exact eD.rfl' _
 split
 ·exact ED ..
 split
 ·exact eD.rfl' _
 ·exact ED ..
theorem Q6{heavy K:Nat}{s:Le}{n:Nt}(h:c0 s K)(c:n.r<s.r.m.R)(b:n.h<s.r.m.R*s.r.m.B*s.r.m.M)(a:K+3≤1000000000):c0 (cH heavy s n) (K+3):=by
 unfold cH
 split
 ·exact h.mono Om
 split
 ·exact EC _ h c b a
 split
 ·exact(vu h _ Om).mono Om
 ·exact EC _ h c b a
def gK(s:Le):Le:=yZ s.r.j.A (vv s (eJ s.r).1) (eJ s.r).2
theorem Q7{s:Le}{K:Nat}(h:c0 s K)(c:s.r.j.A≠0)(d:s.r.j.nx<ft s.r.j.A s.r.m.B s.r.m.M s.r.m.C)(g:K+257≤1000000000):c0 (gK s) (K+257):=by
 obtain⟨a,e,f⟩:=Ey h.r c d;have b:c0 (vv s (eJ s.r).1) K:=⟨a,h.k,h.g,h.n,h.rk.trans (vt s.r).R.symm⟩;exact(Ez b _ (eJ s.r).2 Om).mono Om
theorem Q8(s:Le):eD s.r.m (gK s).r.m:=vt s.r
def vy(s:Le):Le:={s with k:=mP s.k,time:=s.time+1}
def vz(s:Le):Le:={s with g:=nz s.g}
theorem Q9{s:Le}{K:Nat}(h:c0 s K):c0 (vy s) K:=⟨h.r,h.k.tick,h.g,h.n,(QV _).trans h.rk⟩
theorem Ra{s:Le}{K:Nat}(h:c0 s K):c0 (vz s) K:=⟨h.r,h.k,h.g.clear,h.n,h.rk⟩
end
theorem Rb(j h f e l m n:Nat)(c:Cf)(time:Nat)(r:Rp)(o:aK r)(k:Tk)(s:dV k)(g:Lg)(q:fP g)(of:Nat)(v:Ev)(hv:iP (r.m.R*r.m.B*r.m.M) r.m.R of v)(t:k.F.length=r.m.R):aa WJ 213 #[pt j 0,iN of,.agg #[iN v.k,iN v.f,iN v.t]] [ob j (lA c h f e time) 122,pk (ar h l m r),pk (aD f n k),pk (az e g)] [1,2,3] (λ_=>[pk (ar h l m r),pk (aD f n (gB of k v)),pk (az e (bX g (iO r.m of time v)))]) (λ_=> .tuple #[]):=by
 have u:=o.m.O.bd.r8;obtain⟨w,a,b⟩:=v;obtain⟨hv⟩:=hv;simp only at hv;rcases hv with⟨rfl,p,d,i⟩ | ⟨rfl,p,d,i⟩ | ⟨rfl,p,d,i⟩ | ⟨rfl,p,d,i⟩
 ·rcases d with rfl | rfl
  ·rw[show iO r.m 1 time ⟨3,a,b⟩=⟨0,time,3,aO r.m a*64,aO r.m b*64⟩ by simp [iO,oh],show gB 1 k ⟨3,a,b⟩=k by simp [gB]];exact QH j h f e l m n c time r o k s g q a b p i
  ·rw[show iO r.m 1 time ⟨6,a,b⟩=⟨0,time,6,aO r.m a*64,aO r.m b*64⟩ by simp [iO,oh],show gB 1 k ⟨6,a,b⟩=qc k a by simp [gB]];exact QJ j h f e l m n c time r o k s g q a b p i
 ·subst d;subst i;rw[show iO r.m 1 time ⟨5,a,0⟩=⟨0,time,5,aO r.m a*64,0⟩ by simp [iO,oh],show gB 1 k ⟨5,a,0⟩=k by simp [gB]];exact QI j h f e l m n c time r o k s g q a p
 ·rcases d with rfl | rfl
  ·rw[show iO r.m 2 time ⟨4,a,b⟩=⟨0,time,4,a*1048576,b*1048576⟩ by simp [iO,oh],show gB 2 k ⟨4,a,b⟩=k by simp [gB]];exact QK j h f e l m n c time r o k s g q a b Om i
  ·rw[show iO r.m 2 time ⟨6,a,b⟩=⟨0,time,6,a*1048576,b*1048576⟩ by simp [iO,oh],show gB 2 k ⟨6,a,b⟩=pb k a by simp [gB]];exact QM j h f e l m n c time r o k s g q a b Om i Om
 ·subst d;subst i;rw[show iO r.m 2 time ⟨5,a,1⟩=⟨0,time,5,a*1048576,1⟩ by simp [iO,oh],show gB 2 k ⟨5,a,1⟩=k by simp [gB]];exact QL j h f e l m n c time r o k s g q a Om
theorem iP.tb{np n of:Nat}{v:Ev}(h:iP np n of v)(a:np≤4096):v.t<4096:=by
 obtain⟨h⟩:=h;omega
theorem pj(m d b a n o j:Nat)(c:Cf)(time:Nat)(r:Rp)(I:aK r)(k:Tk)(R:dV k)(g:Lg)(Q:fP g)(of:Nat)(v:Value)(l:List Ev)(V:l.length≤300)(T:g.next+l.length≤1000000000)(P: ∀e∈l,iP (r.m.R*r.m.B*r.m.M) r.m.R (fR of e) e)(G:k.F.length=r.m.R):aa WJ 166 #[pt m 0,iN of,v] [ob m (lA c d b a time) 122,pk (ar d n o r),pk (aD b j k),pk (az a g),.p (aG yB v l)] [1,2,3] (λ_=>[pk (ar d n o r),pk (aD b j (fc of k l)),pk (az a (eL r.m of time g l))]) (λ_=> .tuple #[]):=by
 refine fO Tryz.func166 4 rfl λh x=>fG Tryz.func166 λw cs=>r0 [(1,du x.1 4)] [(9,v),(10,iN l.length),(11,i6 0)] [] ?_;refine lq (λi=>i≤l.length) (λi=>[(11,iN i)]) (λi L=>(L.set 2 ((pk (aD b j (fc of k (l.take i)))))).set 3 ((pk (az a (eL r.m of time g (l.take i)))))) (λi=>l.length-i) 0 Om Kr (by rw[Xg];kernel_rfl) (λi S=>?_);have K:=yT of (l.take i) R;have M:(l.take i).length≤l.length:=by rw[WS];omega
 have J:=yV r.m of time (l.take i) Q Om;have B:=(yU of (l.take i) k).trans G;refine r0 [] [(12,.bool (decide ((i:Int)<(l.length:Int))))] [] ?_;refine bW (i:Int) (l.length:Int) (λO C=>?_) λO C=>?_
 ·have H:=(og cR).2 P i Om;have N:=H.tb I.m.np;refine rr (λ_=>[(0,eU x.1 4 i 3),(1,mx jn x.1 4 i 0 3),(3,.s 5)]) (λy=>[(7,pt (B2 y) 0)]) [] (λy L=>L++[ob (B2 y) #[iN ((l.getD i cR).k),iN ((l.getD i cR).f),iN ((l.getD i cR).t)] 349]) λy=>r0 [] [(8,iN of)] [] (r0 [(1,.l 5)] [(17,iN ((l.getD i cR).k))] [] (r0 [] [(18,.bool ((((l.getD i cR).k:Nat):Int)==3))] [] ?_));refine cJ ((((l.getD i cR).k:Nat):Int)==3) (λc=>[(8,iN (bif c then 1 else(bif (((l.getD i cR).k:Nat):Int)==4 then 2 else(bif (((l.getD i cR).k:Nat):Int)==5 then 1+((l.getD i cR).t) else of))))]) (λ_=>[ob m (lA c d b a time) 122,pk (ar d n o r),pk (aD b j (fc of k (l.take i))),pk (az a (eL r.m of time g (l.take i))),.c h,ob (B2 y) #[iN ((l.getD i cR).k),iN ((l.getD i cR).f),iN ((l.getD i cR).t)] 349]) (λF=>?_) (λF=>?_) ?_
  ·have D:=eq_of_beq F;refine r0 [] [(8,i6 1)] [8] ?_;exact cm Kr [0,1,2,3,4,5] Kr
  ·have D:=ne_of_beq_false F;refine r0 [] [(20,.bool ((((l.getD i cR).k:Nat):Int)==4))] [] ?_;refine cJ ((((l.getD i cR).k:Nat):Int)==4) (λc=>[(8,iN (bif c then 2 else(bif (((l.getD i cR).k:Nat):Int)==5 then 1+((l.getD i cR).t) else of)))]) (λ_=>[ob m (lA c d b a time) 122,pk (ar d n o r),pk (aD b j (fc of k (l.take i))),pk (az a (eL r.m of time g (l.take i))),.c h,ob (B2 y) #[iN ((l.getD i cR).k),iN ((l.getD i cR).f),iN ((l.getD i cR).t)] 349]) (λq=>?_) (λq=>?_) ?_
   ·have z:=eq_of_beq q;refine r0 [] [(8,i6 2)] [8] ?_;exact cm Kr [0,1,2,3,4,5] Kr
   ·have z:=ne_of_beq_false q;refine r0 [] [(22,.bool ((((l.getD i cR).k:Nat):Int)==5))] [] ?_;refine cJ ((((l.getD i cR).k:Nat):Int)==5) (λc=>[(8,iN (bif c then 1+((l.getD i cR).t) else of))]) (λ_=>[ob m (lA c d b a time) 122,pk (ar d n o r),pk (aD b j (fc of k (l.take i))),pk (az a (eL r.m of time g (l.take i))),.c h,ob (B2 y) #[iN ((l.getD i cR).k),iN ((l.getD i cR).f),iN ((l.getD i cR).t)] 349]) (λu=>?_) (λu=>?_) ?_
    ·have A:=eq_of_beq u;refine r0 [(1,.l 5),(2,ad 1 ((l.getD i cR).t))] [(8,iN (1+((l.getD i cR).t)))] [8] ?_;exact cm Kr [0,1,2,3,4,5] Kr
    ·have A:=ne_of_beq_false u;exact cm Kr [0,1,2,3,4,5] Kr
    exact cm Kr [0,1,2,3,4,5] Kr
   exact cm Kr [0,1,2,3,4,5] Kr
  exact rr (λ_=>[(1,.t (tk (show iN (bif (((l.getD i cR).k:Nat):Int)==3 then 1 else(bif (((l.getD i cR).k:Nat):Int)==4 then 2 else(bif (((l.getD i cR).k:Nat):Int)==5 then 1+((l.getD i cR).t) else of)))=iN (fR of (l.getD i cR)) from ALca (Value.int .i64) (Q4 of (l.getD i cR))))),(2,.l 5),(3,.c [0,1,2,3] [1,2,3] (Rb m d b a n o j c time r I (fc of k (l.take i)) K (eL r.m of time g (l.take i)) J (fR of (l.getD i cR)) (l.getD i cR) H B))]) N0 [] (λ_ L=>(L.set 2 ((pk (aD b j (gB (fR of (l.getD i cR)) (fc of k (l.take i)) (l.getD i cR)))))).set 3 ((pk (az a (bX (eL r.m of time g (l.take i)) (iO r.m (fR of (l.getD i cR)) time (l.getD i cR))))))) λU=>r0 [(0,ad i 1)] [(11,iN (i+1))] [11] (le (i+1) Om Om Kr [0,1,2,3,4] (by rw[QY Om,QZ Om];kernel_rfl))
 obtain rfl:i=l.length:=by omega
 refine cl [ob m (lA c d b a time) 122,pk (ar d n o r),pk (aD b j (fc of k l)),pk (az a (eL r.m of time g l)),.c h] (by rw[Xc];kernel_rfl) (lx ?_);exact ew ab.zero [1,2,3] [(0,0),(4,4)] []
theorem Rc(q d b j n o p:Nat)(c:Cf)(s:Le)(K:Nat)(hs:c0 s K)(hK:K+3≤1000000000)(Y:c.J≤65536)(i h a f:Nat)(A:a<s.r.m.R)(V:h<s.r.m.R*s.r.m.B*s.r.m.M):aa WJ 163 #[pt q 0,.agg #[i6 1,i6 1,iN f,iN i,iN h,iN a]] [ob q (lA c d b j s.time) 122,pk (ar d n o s.r),pk (aD b p s.k),pk (az j s.g)] [1,2,3] (λ_=>[pk (ar d n o (eM s a h (1) ⟨0,s.time,1,i,f⟩).r),pk (aD b p (eM s a h (1) ⟨0,s.time,1,i,f⟩).k),pk (az j (eM s a h (1) ⟨0,s.time,1,i,f⟩).g)]) (λ_=> .tuple #[]):=by
 have N:=hs.rk;have X:=hs.n;have U:=vu hs ⟨0,s.time,1,i,f⟩ Om;have z:=y1 U h (1) A;have H:ey (nB s a h (1) ⟨0,s.time,1,i,f⟩).r.m ⟨1,h⟩:=⟨.inl ⟨rfl,V⟩⟩;have I:ey (nB s a h (1) ⟨0,s.time,1,i,f⟩).r.m ⟨2,a⟩:=⟨.inr ⟨rfl,A⟩⟩;have O:=ph z H;have R:=qe z.r H 1;have Z:=pf s.r ⟨1,h⟩;have F:=vw z H Om;have P:=ph z I;have S:=qe z.r I 2;have l5:=pf s.r ⟨2,a⟩;have M:ey (qf (nB s a h (1) ⟨0,s.time,1,i,f⟩) ⟨1,h⟩).r.m ⟨2,a⟩:=I.ly (vx _ _);have Q:=ph F M;have T:=qe F.r M 2;have l6:=pf (bn s.r ⟨1,h⟩) ⟨2,a⟩;have y3:=oi s.r ⟨1,h⟩;have y5:=oi s.r ⟨2,a⟩;have y6:=oi (bn s.r ⟨1,h⟩) ⟨2,a⟩;have n3:(bX s.g ⟨0,s.time,1,i,f⟩).next+(bU s.r ⟨1,h⟩).length≤1000000000:=by rw[mS];omega
 have n5:(bX s.g ⟨0,s.time,1,i,f⟩).next+(bU s.r ⟨2,a⟩).length≤1000000000:=by rw[mS];omega
 have n6:(eL (bn s.r ⟨1,h⟩).m 1 s.time (bX s.g ⟨0,s.time,1,i,f⟩) (bU s.r ⟨1,h⟩)).next+(bU (bn s.r ⟨1,h⟩) ⟨2,a⟩).length≤1000000000:=by rw[vr,mS];omega
 have W:=A;refine fG Tryz.func163 λw cs=>ra (λD=>[(3,pt (B0 D) 0)]) (λD=>[ob (B0 D) #[i6 1,i6 1,iN f,iN i,iN h,iN a] 81]) λD=>r0 [] [(4,i6 0)] [] (r0 [(2,.l 4)] [(9,i6 1)] [] (rF [] 20 (rT [] 22 (r0 [] [(4,i6 1)] [4] (rs [(2,.l 4),(5,.l 4),(6,.c [0,3] [3] (nA q d b j c s.time s.g hs.g 1 i f))] 3 ((pk (az j (bX s.g ⟨0,s.time,1,i,f⟩)))) (rr (λ_=>[(0,.v (pt q 0)),(1,.v (pt q 0)),(2,.v (pt q 17)),(3,.m (ld 0 (pt b 0))),(4,.v (pt (B0 D) 5)),(5,.m (ld 4 (iN a))),(6,.v (pt (B0 D) 4)),(7,.m (ld 4 (iN h))),(8,.v (i6 1)),(9,.c [2] [2] (Ei b p s.k hs.k a h 1 (by rw[N];exact A) Om)),(10,.v (.tuple #[.agg #[.bool (cE s.k.lr ((s.k.F.getD a bj).l) 1),.bool (cE s.k.lp ((da s.k.t h).l) 1)],i6 0])),(11,.v (.agg #[.bool (cE s.k.lr ((s.k.F.getD a bj).l) 1),.bool (cE s.k.lp ((da s.k.t h).l) 1)])),(12,.v (i6 0)),(13,.m (al 5)),(14,.s 5),(15,.v (i6 0))]) (λJ=>[(5,pt ((J 13).y 0) 0)]) [] (λJ L=>L.set 2 ((pk (aD b p (fA s.k a h 1))))++[ob ((J 13).y 0) #[.bool (cE s.k.lr ((s.k.F.getD a bj).l) 1),.bool (cE s.k.lp ((da s.k.t h).l) 1)] 339]) λJ=>r0 [(1,.l 5)] [(51,.bool (cE s.k.lp ((da s.k.t h).l) 1))] [] ?_))))));refine cB (cE s.k.lp ((da s.k.t h).l) 1) (λt=>?_) λt=>?_
 ·refine rr (λu=>[(4,.l 0),(6,.l 4),(8,.c [1] [1,6] (p9 d n o s.r (by exact hs.r) (⟨1,h⟩:Ak) (by exact H))),(9,.c [0,1,2,3,6] [1,2,3] (aa.at (rd':=[ob q (lA c d b j s.time) 122,pk (ar d n o (bn s.r (⟨1,h⟩:Ak))),pk (aD b p (fA s.k a h 1)),pk (az j (bX s.g ⟨0,s.time,1,i,f⟩)),bh ((u 8).val 0) (bU s.r (⟨1,h⟩:Ak))]) (pj q d b j n o p c s.time (bn s.r (⟨1,h⟩:Ak)) (by exact O.r) (fA s.k a h 1) (by exact z.k) (bX s.g ⟨0,s.time,1,i,f⟩) (by exact z.g) 1 ((u 8).val 0) (bU s.r (⟨1,h⟩:Ak)) (by exact WQ Z Dc) (by exact n3) (by exact λe G=>(R e G).ly y3) (by exact O.rk)) (aP (aP (aP (aP (bL (λ_ h=>aq.sq h) (λ_ h=>h))))))))]) N0 [] (λu L=>((L.set 1 ((pk (ar d n o (bn s.r (⟨1,h⟩:Ak)))))).set 2 ((pk (aD b p (fc 1 (fA s.k a h 1) (bU s.r (⟨1,h⟩:Ak))))))).set 3 ((pk (az j (eL (bn s.r (⟨1,h⟩:Ak)).m 1 s.time (bX s.g ⟨0,s.time,1,i,f⟩) (bU s.r (⟨1,h⟩:Ak))))))++[bh ((u 8).val 0) (bU s.r (⟨1,h⟩:Ak))]) λu=>r0 [(1,.l 5)] [(63,.bool (cE s.k.lr ((s.k.F.getD a bj).l) 1))] [] ?_;refine cB (cE s.k.lr ((s.k.F.getD a bj).l) 1) (λB=>?_) λB=>?_
  ·refine rr (λx=>[(4,.l 0),(6,.l 4),(8,.c [1] [1,7] (p9 d n o (bn s.r (⟨1,h⟩:Ak)) (by exact F.r) (⟨2,a⟩:Ak) (by exact M))),(9,.c [0,1,2,3,7] [1,2,3] (aa.at (rd':=[ob q (lA c d b j s.time) 122,pk (ar d n o (bn (bn s.r (⟨1,h⟩:Ak)) (⟨2,a⟩:Ak))),pk (aD b p (fc 1 (fA s.k a h 1) (bU s.r (⟨1,h⟩:Ak)))),pk (az j (eL (bn s.r (⟨1,h⟩:Ak)).m 1 s.time (bX s.g ⟨0,s.time,1,i,f⟩) (bU s.r (⟨1,h⟩:Ak)))),bh ((x 8).val 0) (bU (bn s.r (⟨1,h⟩:Ak)) (⟨2,a⟩:Ak))]) (pj q d b j n o p c s.time (bn (bn s.r (⟨1,h⟩:Ak)) (⟨2,a⟩:Ak)) (by exact Q.r) (fc 1 (fA s.k a h 1) (bU s.r (⟨1,h⟩:Ak))) (by exact F.k) (eL (bn s.r (⟨1,h⟩:Ak)).m 1 s.time (bX s.g ⟨0,s.time,1,i,f⟩) (bU s.r (⟨1,h⟩:Ak))) (by exact F.g) 2 ((x 8).val 0) (bU (bn s.r (⟨1,h⟩:Ak)) (⟨2,a⟩:Ak)) (by exact WQ l6 Dc) (by exact n6) (by exact λe G=>(T e G).ly y6) (by exact Q.rk)) (aP (aP (aP (aP (bL (λ_ h=>aq.sq h) (λ_ h=>h))))))))]) N0 [] (λx L=>((L.set 1 ((pk (ar d n o (bn (bn s.r (⟨1,h⟩:Ak)) (⟨2,a⟩:Ak)))))).set 2 ((pk (aD b p (fc 2 (fc 1 (fA s.k a h 1) (bU s.r (⟨1,h⟩:Ak))) (bU (bn s.r (⟨1,h⟩:Ak)) (⟨2,a⟩:Ak))))))).set 3 ((pk (az j (eL (bn (bn s.r (⟨1,h⟩:Ak)) (⟨2,a⟩:Ak)).m 2 s.time (eL (bn s.r (⟨1,h⟩:Ak)).m 1 s.time (bX s.g ⟨0,s.time,1,i,f⟩) (bU s.r (⟨1,h⟩:Ak))) (bU (bn s.r (⟨1,h⟩:Ak)) (⟨2,a⟩:Ak))))))++[bh ((x 8).val 0) (bU (bn s.r (⟨1,h⟩:Ak)) (⟨2,a⟩:Ak))]) λx=>?_;exact ew ab.zero [1,2,3] [(0,0)] [] (hf:=by unfold eM fe;(repeat (first | rw[t] | rw[B] | rw[ALct]));kernel_rfl)
  exact ew ab.zero [1,2,3] [(0,0)] [] (hf:=by unfold eM fe;(repeat (first | rw[t] | rw[B] | rw[ALct] | rw[ALcf]));kernel_rfl)
 refine r0 [(1,.l 5)] [(63,.bool (cE s.k.lr ((s.k.F.getD a bj).l) 1))] [] ?_;refine cB (cE s.k.lr ((s.k.F.getD a bj).l) 1) (λC=>?_) λC=>?_
 ·refine rr (λy=>[(4,.l 0),(6,.l 4),(8,.c [1] [1,6] (p9 d n o s.r (by exact hs.r) (⟨2,a⟩:Ak) (by exact I))),(9,.c [0,1,2,3,6] [1,2,3] (aa.at (rd':=[ob q (lA c d b j s.time) 122,pk (ar d n o (bn s.r (⟨2,a⟩:Ak))),pk (aD b p (fA s.k a h 1)),pk (az j (bX s.g ⟨0,s.time,1,i,f⟩)),bh ((y 8).val 0) (bU s.r (⟨2,a⟩:Ak))]) (pj q d b j n o p c s.time (bn s.r (⟨2,a⟩:Ak)) (by exact P.r) (fA s.k a h 1) (by exact z.k) (bX s.g ⟨0,s.time,1,i,f⟩) (by exact z.g) 2 ((y 8).val 0) (bU s.r (⟨2,a⟩:Ak)) (by exact WQ l5 Dc) (by exact n5) (by exact λe G=>(S e G).ly y5) (by exact P.rk)) (aP (aP (aP (aP (bL (λ_ h=>aq.sq h) (λ_ h=>h))))))))]) N0 [] (λy L=>((L.set 1 ((pk (ar d n o (bn s.r (⟨2,a⟩:Ak)))))).set 2 ((pk (aD b p (fc 2 (fA s.k a h 1) (bU s.r (⟨2,a⟩:Ak))))))).set 3 ((pk (az j (eL (bn s.r (⟨2,a⟩:Ak)).m 2 s.time (bX s.g ⟨0,s.time,1,i,f⟩) (bU s.r (⟨2,a⟩:Ak))))))++[bh ((y 8).val 0) (bU s.r (⟨2,a⟩:Ak))]) λy=>?_;exact ew ab.zero [1,2,3] [(0,0)] [] (hf:=by unfold eM fe;(repeat (first | rw[t] | rw[C] | rw[ALct] | rw[ALcf]));kernel_rfl)
 exact ew ab.zero [1,2,3] [(0,0)] [] (hf:=by unfold eM fe;(repeat (first | rw[t] | rw[C] | rw[ALcf]));kernel_rfl)
theorem Rd(q d b j n o p:Nat)(c:Cf)(s:Le)(K:Nat)(hs:c0 s K)(hK:K+3≤1000000000)(Y:c.J≤65536)(i h a f:Nat)(A:a<s.r.m.R)(V:h<s.r.m.R*s.r.m.B*s.r.m.M):aa WJ 163 #[pt q 0,.agg #[i6 1,i6 3,iN f,iN i,iN h,iN a]] [ob q (lA c d b j s.time) 122,pk (ar d n o s.r),pk (aD b p s.k),pk (az j s.g)] [1,2,3] (λ_=>[pk (ar d n o (eM s a h (c.J) ⟨0,s.time,2,i,0⟩).r),pk (aD b p (eM s a h (c.J) ⟨0,s.time,2,i,0⟩).k),pk (az j (eM s a h (c.J) ⟨0,s.time,2,i,0⟩).g)]) (λ_=> .tuple #[]):=by
 have N:=hs.rk;have X:=hs.n;have U:=vu hs ⟨0,s.time,2,i,0⟩ Om;have z:=y1 U h (c.J) A;have H:ey (nB s a h (c.J) ⟨0,s.time,2,i,0⟩).r.m ⟨1,h⟩:=⟨.inl ⟨rfl,V⟩⟩;have I:ey (nB s a h (c.J) ⟨0,s.time,2,i,0⟩).r.m ⟨2,a⟩:=⟨.inr ⟨rfl,A⟩⟩;have O:=ph z H;have R:=qe z.r H 1;have Z:=pf s.r ⟨1,h⟩;have F:=vw z H Om;have P:=ph z I;have S:=qe z.r I 2;have l5:=pf s.r ⟨2,a⟩;have M:ey (qf (nB s a h (c.J) ⟨0,s.time,2,i,0⟩) ⟨1,h⟩).r.m ⟨2,a⟩:=I.ly (vx _ _);have Q:=ph F M;have T:=qe F.r M 2;have l6:=pf (bn s.r ⟨1,h⟩) ⟨2,a⟩;have y3:=oi s.r ⟨1,h⟩;have y5:=oi s.r ⟨2,a⟩;have y6:=oi (bn s.r ⟨1,h⟩) ⟨2,a⟩;have n3:(bX s.g ⟨0,s.time,2,i,0⟩).next+(bU s.r ⟨1,h⟩).length≤1000000000:=by rw[mS];omega
 have n5:(bX s.g ⟨0,s.time,2,i,0⟩).next+(bU s.r ⟨2,a⟩).length≤1000000000:=by rw[mS];omega
 have n6:(eL (bn s.r ⟨1,h⟩).m 1 s.time (bX s.g ⟨0,s.time,2,i,0⟩) (bU s.r ⟨1,h⟩)).next+(bU (bn s.r ⟨1,h⟩) ⟨2,a⟩).length≤1000000000:=by rw[vr,mS];omega
 have W:=A;refine fG Tryz.func163 λw cs=>ra (λD=>[(3,pt (B0 D) 0)]) (λD=>[ob (B0 D) #[i6 1,i6 3,iN f,iN i,iN h,iN a] 81]) λD=>r0 [] [(4,i6 0)] [] (r0 [(2,.l 4)] [(9,i6 3)] [] (rF [] 20 (rF [] 22 (rF [] 31 (r0 [(5,.l 0)] [(4,iN c.J)] [4] (rs [(2,.l 4),(3,.c [0,3] [3] (nA q d b j c s.time s.g hs.g 2 i 0))] 3 ((pk (az j (bX s.g ⟨0,s.time,2,i,0⟩)))) (rr (λ_=>[(0,.v (pt q 0)),(1,.v (pt q 0)),(2,.v (pt q 17)),(3,.m (ld 0 (pt b 0))),(4,.v (pt (B0 D) 5)),(5,.m (ld 4 (iN a))),(6,.v (pt (B0 D) 4)),(7,.m (ld 4 (iN h))),(8,.v (iN c.J)),(9,.c [2] [2] (Ei b p s.k hs.k a h c.J (by rw[N];exact A) Om)),(10,.v (.tuple #[.agg #[.bool (cE s.k.lr ((s.k.F.getD a bj).l) c.J),.bool (cE s.k.lp ((da s.k.t h).l) c.J)],i6 0])),(11,.v (.agg #[.bool (cE s.k.lr ((s.k.F.getD a bj).l) c.J),.bool (cE s.k.lp ((da s.k.t h).l) c.J)])),(12,.v (i6 0)),(13,.m (al 5)),(14,.s 5),(15,.v (i6 0))]) (λJ=>[(5,pt ((J 13).y 0) 0)]) [] (λJ L=>L.set 2 ((pk (aD b p (fA s.k a h c.J))))++[ob ((J 13).y 0) #[.bool (cE s.k.lr ((s.k.F.getD a bj).l) c.J),.bool (cE s.k.lp ((da s.k.t h).l) c.J)] 339]) λJ=>r0 [(1,.l 5)] [(51,.bool (cE s.k.lp ((da s.k.t h).l) c.J))] [] ?_)))))));refine cB (cE s.k.lp ((da s.k.t h).l) c.J) (λt=>?_) λt=>?_
 ·refine rr (λu=>[(4,.l 0),(6,.l 4),(8,.c [1] [1,6] (p9 d n o s.r (by exact hs.r) (⟨1,h⟩:Ak) (by exact H))),(9,.c [0,1,2,3,6] [1,2,3] (aa.at (rd':=[ob q (lA c d b j s.time) 122,pk (ar d n o (bn s.r (⟨1,h⟩:Ak))),pk (aD b p (fA s.k a h c.J)),pk (az j (bX s.g ⟨0,s.time,2,i,0⟩)),bh ((u 8).val 0) (bU s.r (⟨1,h⟩:Ak))]) (pj q d b j n o p c s.time (bn s.r (⟨1,h⟩:Ak)) (by exact O.r) (fA s.k a h c.J) (by exact z.k) (bX s.g ⟨0,s.time,2,i,0⟩) (by exact z.g) 1 ((u 8).val 0) (bU s.r (⟨1,h⟩:Ak)) (by exact WQ Z Dc) (by exact n3) (by exact λe G=>(R e G).ly y3) (by exact O.rk)) (aP (aP (aP (aP (bL (λ_ h=>aq.sq h) (λ_ h=>h))))))))]) N0 [] (λu L=>((L.set 1 ((pk (ar d n o (bn s.r (⟨1,h⟩:Ak)))))).set 2 ((pk (aD b p (fc 1 (fA s.k a h c.J) (bU s.r (⟨1,h⟩:Ak))))))).set 3 ((pk (az j (eL (bn s.r (⟨1,h⟩:Ak)).m 1 s.time (bX s.g ⟨0,s.time,2,i,0⟩) (bU s.r (⟨1,h⟩:Ak))))))++[bh ((u 8).val 0) (bU s.r (⟨1,h⟩:Ak))]) λu=>r0 [(1,.l 5)] [(63,.bool (cE s.k.lr ((s.k.F.getD a bj).l) c.J))] [] ?_;refine cB (cE s.k.lr ((s.k.F.getD a bj).l) c.J) (λB=>?_) λB=>?_
  ·refine rr (λx=>[(4,.l 0),(6,.l 4),(8,.c [1] [1,7] (p9 d n o (bn s.r (⟨1,h⟩:Ak)) (by exact F.r) (⟨2,a⟩:Ak) (by exact M))),(9,.c [0,1,2,3,7] [1,2,3] (aa.at (rd':=[ob q (lA c d b j s.time) 122,pk (ar d n o (bn (bn s.r (⟨1,h⟩:Ak)) (⟨2,a⟩:Ak))),pk (aD b p (fc 1 (fA s.k a h c.J) (bU s.r (⟨1,h⟩:Ak)))),pk (az j (eL (bn s.r (⟨1,h⟩:Ak)).m 1 s.time (bX s.g ⟨0,s.time,2,i,0⟩) (bU s.r (⟨1,h⟩:Ak)))),bh ((x 8).val 0) (bU (bn s.r (⟨1,h⟩:Ak)) (⟨2,a⟩:Ak))]) (pj q d b j n o p c s.time (bn (bn s.r (⟨1,h⟩:Ak)) (⟨2,a⟩:Ak)) (by exact Q.r) (fc 1 (fA s.k a h c.J) (bU s.r (⟨1,h⟩:Ak))) (by exact F.k) (eL (bn s.r (⟨1,h⟩:Ak)).m 1 s.time (bX s.g ⟨0,s.time,2,i,0⟩) (bU s.r (⟨1,h⟩:Ak))) (by exact F.g) 2 ((x 8).val 0) (bU (bn s.r (⟨1,h⟩:Ak)) (⟨2,a⟩:Ak)) (by exact WQ l6 Dc) (by exact n6) (by exact λe G=>(T e G).ly y6) (by exact Q.rk)) (aP (aP (aP (aP (bL (λ_ h=>aq.sq h) (λ_ h=>h))))))))]) N0 [] (λx L=>((L.set 1 ((pk (ar d n o (bn (bn s.r (⟨1,h⟩:Ak)) (⟨2,a⟩:Ak)))))).set 2 ((pk (aD b p (fc 2 (fc 1 (fA s.k a h c.J) (bU s.r (⟨1,h⟩:Ak))) (bU (bn s.r (⟨1,h⟩:Ak)) (⟨2,a⟩:Ak))))))).set 3 ((pk (az j (eL (bn (bn s.r (⟨1,h⟩:Ak)) (⟨2,a⟩:Ak)).m 2 s.time (eL (bn s.r (⟨1,h⟩:Ak)).m 1 s.time (bX s.g ⟨0,s.time,2,i,0⟩) (bU s.r (⟨1,h⟩:Ak))) (bU (bn s.r (⟨1,h⟩:Ak)) (⟨2,a⟩:Ak))))))++[bh ((x 8).val 0) (bU (bn s.r (⟨1,h⟩:Ak)) (⟨2,a⟩:Ak))]) λx=>?_;exact ew ab.zero [1,2,3] [(0,0)] [] (hf:=by unfold eM fe;(repeat (first | rw[t] | rw[B] | rw[ALct]));kernel_rfl)
  exact ew ab.zero [1,2,3] [(0,0)] [] (hf:=by unfold eM fe;(repeat (first | rw[t] | rw[B] | rw[ALct] | rw[ALcf]));kernel_rfl)
 refine r0 [(1,.l 5)] [(63,.bool (cE s.k.lr ((s.k.F.getD a bj).l) c.J))] [] ?_;refine cB (cE s.k.lr ((s.k.F.getD a bj).l) c.J) (λC=>?_) λC=>?_
 ·refine rr (λy=>[(4,.l 0),(6,.l 4),(8,.c [1] [1,6] (p9 d n o s.r (by exact hs.r) (⟨2,a⟩:Ak) (by exact I))),(9,.c [0,1,2,3,6] [1,2,3] (aa.at (rd':=[ob q (lA c d b j s.time) 122,pk (ar d n o (bn s.r (⟨2,a⟩:Ak))),pk (aD b p (fA s.k a h c.J)),pk (az j (bX s.g ⟨0,s.time,2,i,0⟩)),bh ((y 8).val 0) (bU s.r (⟨2,a⟩:Ak))]) (pj q d b j n o p c s.time (bn s.r (⟨2,a⟩:Ak)) (by exact P.r) (fA s.k a h c.J) (by exact z.k) (bX s.g ⟨0,s.time,2,i,0⟩) (by exact z.g) 2 ((y 8).val 0) (bU s.r (⟨2,a⟩:Ak)) (by exact WQ l5 Dc) (by exact n5) (by exact λe G=>(S e G).ly y5) (by exact P.rk)) (aP (aP (aP (aP (bL (λ_ h=>aq.sq h) (λ_ h=>h))))))))]) N0 [] (λy L=>((L.set 1 ((pk (ar d n o (bn s.r (⟨2,a⟩:Ak)))))).set 2 ((pk (aD b p (fc 2 (fA s.k a h c.J) (bU s.r (⟨2,a⟩:Ak))))))).set 3 ((pk (az j (eL (bn s.r (⟨2,a⟩:Ak)).m 2 s.time (bX s.g ⟨0,s.time,2,i,0⟩) (bU s.r (⟨2,a⟩:Ak))))))++[bh ((y 8).val 0) (bU s.r (⟨2,a⟩:Ak))]) λy=>?_;exact ew ab.zero [1,2,3] [(0,0)] [] (hf:=by unfold eM fe;(repeat (first | rw[t] | rw[C] | rw[ALct] | rw[ALcf]));kernel_rfl)
 exact ew ab.zero [1,2,3] [(0,0)] [] (hf:=by unfold eM fe;(repeat (first | rw[t] | rw[C] | rw[ALcf]));kernel_rfl)
theorem Rf(g e d b j k m:Nat)(c:Cf)(s:Le)(K:Nat)(hs:c0 s K)(i h n f:Nat):aa WJ 163 #[pt g 0,.agg #[i6 1,i6 0,iN f,iN i,iN h,iN n]] [ob g (lA c e d b s.time) 122,pk (ar e j k s.r),pk (aD d m s.k),pk (az b s.g)] [1,2,3] (λ_=>[pk (ar e j k s.r),pk (aD d m s.k),pk (az b s.g)]) (λ_=> .tuple #[]):=by
 exact fG Tryz.func163 λw cs=>ra (λa=>[(3,pt (B0 a) 0)]) (λa=>[ob (B0 a) #[i6 1,i6 0,iN f,iN i,iN h,iN n] 81]) λa=>r0 [] [(4,i6 0)] [] (r0 [(2,.l 4)] [(9,i6 0)] [] (rT [] 20 (lf ab.zero [1,2,3] [(0,0)] [])))
theorem Rg(g d b a j k m:Nat)(c:Cf)(s:Le)(K:Nat)(hs:c0 s K)(o:K+3≤1000000000)(i h n f:Nat):aa WJ 163 #[pt g 0,.agg #[i6 1,i6 2,iN f,iN i,iN h,iN n]] [ob g (lA c d b a s.time) 122,pk (ar d j k s.r),pk (aD b m s.k),pk (az a s.g)] [1,2,3] (λ_=>[pk (ar d j k s.r),pk (aD b m s.k),pk (az a (bX s.g ⟨0,s.time,2,i,1⟩))]) (λ_=> .tuple #[]):=by
 exact fG Tryz.func163 λw cs=>ra (λe=>[(3,pt (B0 e) 0)]) (λe=>[ob (B0 e) #[i6 1,i6 2,iN f,iN i,iN h,iN n] 81]) λe=>r0 [] [(4,i6 0)] [] (r0 [(2,.l 4)] [(9,i6 2)] [] (rF [] 20 (rF [] 22 (rT [] 31 (rs [(2,.l 4),(3,.c [0,3] [3] (nA g d b a c s.time s.g hs.g 2 i 1))] 3 ((pk (az a (bX s.g ⟨0,s.time,2,i,1⟩)))) (lf ab.zero [1,2,3] [(0,0)] []))))))
theorem EE(m:Nat)(a:m=1∨m=2):aa WJ 75 #[iN m] [] [] N0 (λ_=>iN (aX (m:Int))):=by
 rcases a with rfl | rfl
 ·exact uL
 ·exact uM
theorem EF(m:Nat)(a:m=1∨m=2):aa WJ 192 #[iN m] [] [] N0 (λ_=>iN (dT (m:Int))):=by
 rcases a with rfl | rfl
 ·exact yb
 ·exact yc
structure Fa where
 x0:Int
 x1:Int
 x2:Int
 x3:Int
 x4:Int
 x5:Int
 x6:Int
 x7:Int
def aZ:Fa:=⟨0,0,0,0,0,0,0,0⟩
def eFa(x:Fa):List Value:=[i6 x.x0,i6 x.x1,i6 x.x2,i6 x.x3,i6 x.x4,i6 x.x5,i6 x.x6,i6 x.x7]
def kD:Kd WJ Fa:=⟨eFa,[i6 0,i6 0,i6 0,i6 0,i6 0,i6 0,i6 0,i6 0],93,48,aZ,8,λ_=>rfl,rfl,λ_=>rfl,dX.mk' Kr Kr rfl⟩
abbrev cG(v:Value)(xs:List Fa):aA:= .p (aq eFa ([i6 0,i6 0,i6 0,i6 0,i6 0,i6 0,i6 0,i6 0]) 48 v xs)
theorem y2(i n:Int):aa WJ 74 #[i6 i,i6 n] [] [] N0 (λ_=> .bool (bK i n)):=by
 exact fG Tryz.func74 λw cs=>r0 [] [(4,.bool false)] [] (r0 [] [(4,.bool ((decide (0≤i))&&(decide (i<n))))] [4] (ao (.bool ((decide (0≤i))&&(decide (i<n)))) ab.zero bg [] [] []))
def iQ(f:Fa):Bool:=(decide (2≤f.x0))&&(decide (f.x0≤5))
theorem EG(f:Fa):aa WJ 169 #[.agg #[i6 f.x0,i6 f.x1,i6 f.x2,i6 f.x3,i6 f.x4,i6 f.x5,i6 f.x6,i6 f.x7]] [] [] N0 (λ_=> .bool (iQ f)):=by
 exact fG Tryz.func169 λw cs=>ra (λa=>[(1,pt (B0 a) 0),(2,.bool false)]) (λa=>[ob (B0 a) #[i6 f.x0,i6 f.x1,i6 f.x2,i6 f.x3,i6 f.x4,i6 f.x5,i6 f.x6,i6 f.x7] 48]) λa=>r0 [(1,.l 0),(5,.l 0)] [(2,.bool ((decide (2≤f.x0))&&(decide (f.x0≤5))))] [2] (ao (.bool ((decide (2≤f.x0))&&(decide (f.x0≤5)))) ab.zero bg [] [] [])
def iw(f:Fa)(a b c d:Int):Bool:=(bif (bif f.x0==1 then f.x0==1 else f.x0==2) then(a==f.x1&&(b==f.x2&&(c==f.x3&&(d==f.x4&&true)))) else(bif f.x0==3 then(a==f.x1&&(b==f.x2&&(c==f.x3&&(f.x4==f.x4&&true)))) else(bif f.x0==4 then(a==f.x1&&(b==f.x2&&(f.x3==f.x3&&(d==f.x4&&true)))) else(bif f.x0==5 then a==f.x1 else false))))
theorem EH(f:Fa)(a b i j:Int):aa WJ 69 #[.agg #[i6 f.x0,i6 f.x1,i6 f.x2,i6 f.x3,i6 f.x4,i6 f.x5,i6 f.x6,i6 f.x7],.agg #[i6 a,i6 b,i6 i,i6 j]] [] [] N0 (λ_=> .bool (iw f a b i j)):=by
 refine fG Tryz.func69 λw cs=>ra (λg=>[(2,pt (B0 g) 0),(3,pt (B1 g) 0),(4,.bool false)]) (λg=>[ob (B0 g) #[i6 f.x0,i6 f.x1,i6 f.x2,i6 f.x3,i6 f.x4,i6 f.x5,i6 f.x6,i6 f.x7] 48,ob (B1 g) #[i6 a,i6 b,i6 i,i6 j] 46]) λg=>rr (λ_=>[(1,.l 0),(3,.s 2)]) (λq=>[(5,pt (B2 q) 0)]) [] (λq L=>L++[ob (B2 q) #[i6 f.x1,i6 f.x2,i6 f.x3,i6 f.x4] 46]) λq=>r0 [(1,.l 0)] [(9,i6 f.x0)] [] (r0 [] [(10,.bool (f.x0==1))] [] ?_);refine cJ (f.x0==1) (λc=>[(10,.bool (bif c then f.x0==1 else f.x0==2))]) (λ_=>[ob (B0 g) #[i6 f.x0,i6 f.x1,i6 f.x2,i6 f.x3,i6 f.x4,i6 f.x5,i6 f.x6,i6 f.x7] 48,ob (B1 g) #[i6 a,i6 b,i6 i,i6 j] 46,ob (B2 q) #[i6 f.x1,i6 f.x2,i6 f.x3,i6 f.x4] 46]) (λt=>?_) (λt=>?_) ?_
 ·have r:=eq_of_beq t;exact cm Kr [0,1,2] Kr
 ·have r:=ne_of_beq_false t;refine r0 [] [(10,.bool (f.x0==2))] [10] ?_;exact cm Kr [0,1,2] Kr
 refine cB ((bif f.x0==1 then f.x0==1 else f.x0==2)) (λm=>?_) λm=>?_
 ·exact r0 [(0,.l 1),(1,.l 2),(2,.e)] [(4,.bool (a==f.x1&&(b==f.x2&&(i==f.x3&&(j==f.x4&&true)))))] [4] (ao (.bool (a==f.x1&&(b==f.x2&&(i==f.x3&&(j==f.x4&&true))))) ab.zero (by((try simp only[iw]);(repeat (first | rw[m] | rw[ALct])))<;>rfl) [] [] [])
 refine r0 [] [(16,.bool (f.x0==3))] [] ?_;refine cN f.x0 3 (λd n=>?_) λd n=>?_
 ·exact rr (λ_=>[(1,.l 2),(3,.s 1)]) N0 [] (λ_ L=>L.set 1 (ob (B1 g) #[i6 a,i6 b,i6 i,i6 f.x4] 46)) λu=>r0 [(0,.l 1),(1,.l 2),(2,.e)] [(4,.bool (a==f.x1&&(b==f.x2&&(i==f.x3&&(f.x4==f.x4&&true)))))] [4] (ao (.bool (a==f.x1&&(b==f.x2&&(i==f.x3&&(f.x4==f.x4&&true))))) ab.zero (by((try simp only[iw]);(repeat (first | rw[m] | rw[d] | rw[ALct] | rw[ALcf])))<;>rfl) [] [] [])
 refine r0 [] [(24,.bool (f.x0==4))] [] ?_;refine cN f.x0 4 (λh o=>?_) λh o=>?_
 ·exact rr (λ_=>[(1,.l 2),(3,.s 1)]) N0 [] (λ_ L=>L.set 1 (ob (B1 g) #[i6 a,i6 b,i6 f.x3,i6 j] 46)) λv=>r0 [(0,.l 1),(1,.l 2),(2,.e)] [(4,.bool (a==f.x1&&(b==f.x2&&(f.x3==f.x3&&(j==f.x4&&true)))))] [4] (ao (.bool (a==f.x1&&(b==f.x2&&(f.x3==f.x3&&(j==f.x4&&true))))) ab.zero (by((try simp only[iw]);(repeat (first | rw[m] | rw[d] | rw[h] | rw[ALct] | rw[ALcf])))<;>rfl) [] [] [])
 refine r0 [] [(32,.bool (f.x0==5))] [] ?_;refine cN f.x0 5 (λk p=>?_) λk p=>?_
 ·exact r0 [(1,.l 1),(3,.l 2)] [(4,.bool (a==f.x1))] [4] (ao (.bool (a==f.x1)) ab.zero (by((try simp only[iw]);(repeat (first | rw[m] | rw[d] | rw[h] | rw[k] | rw[ALct] | rw[ALcf])))<;>rfl) [] [] [])
 exact r0 [] [(4,.bool false)] [4] (ao (.bool false) ab.zero (by((try simp only[iw]);(repeat (first | rw[m] | rw[d] | rw[h] | rw[k] | rw[ALcf])))<;>rfl) [] [] [])
def jo(f:Fa):Int:=(bif f.x0==1 then f.x1 else(bif f.x0==2 then f.x1 else(bif f.x0==3 then f.x1 else(bif f.x0==4 then f.x1 else(bif f.x0==5 then f.x1 else(bif f.x0==7 then 0 else f.x1))))))
def jq(f:Fa):Int:=(bif f.x0==1 then(bif f.x0==3 then f.x2 else(bif f.x0==4 then f.x2 else(bif f.x0==5 then 0 else f.x2))) else(bif f.x0==2 then(bif f.x0==3 then f.x2 else(bif f.x0==4 then f.x2 else(bif f.x0==5 then 0 else f.x2))) else(bif f.x0==3 then f.x2 else(bif f.x0==4 then f.x2 else(bif f.x0==5 then 0 else(bif f.x0==7 then 0 else f.x2))))))
def jr(f:Fa):Int:=(bif f.x0==1 then(bif f.x0==3 then f.x3 else(bif f.x0==4 then 0 else(bif f.x0==5 then 0 else f.x3))) else(bif f.x0==2 then(bif f.x0==3 then f.x3 else(bif f.x0==4 then 0 else(bif f.x0==5 then 0 else f.x3))) else(bif f.x0==3 then f.x3 else(bif f.x0==4 then 0 else(bif f.x0==5 then 0 else(bif f.x0==7 then 0 else f.x3))))))
def jt(f:Fa):Int:=(bif f.x0==1 then(bif f.x0==3 then 0 else(bif f.x0==4 then f.x4 else(bif f.x0==5 then 0 else f.x4))) else(bif f.x0==2 then(bif f.x0==3 then 0 else(bif f.x0==4 then f.x4 else(bif f.x0==5 then 0 else f.x4))) else(bif f.x0==3 then 0 else(bif f.x0==4 then f.x4 else(bif f.x0==5 then 0 else(bif f.x0==7 then 0 else f.x4))))))
def ju(f:Fa):Int:=(bif f.x0==1 then 0 else(bif f.x0==2 then 0 else(bif f.x0==3 then f.x5 else(bif f.x0==4 then f.x5 else(bif f.x0==5 then f.x5 else 0)))))
def jv(f:Fa):Int:=(bif f.x0==1 then f.x6 else(bif f.x0==2 then f.x6 else 0))
def jw(f:Fa):Int:=(bif f.x0==1 then 0 else(bif f.x0==2 then f.x7 else(bif f.x0==3 then f.x7 else(bif f.x0==4 then f.x7 else(bif f.x0==5 then f.x7 else 0)))))
theorem Rh(f:Fa):aa WJ 72 #[.agg #[i6 f.x0,i6 f.x1,i6 f.x2,i6 f.x3,i6 f.x4,i6 f.x5,i6 f.x6,i6 f.x7]] [] [] N0 (λ_=> .agg #[i6 f.x0,i6 (jo f),i6 (jq f),i6 (jr f),i6 (jt f),i6 (ju f),i6 (jv f),i6 (jw f)]):=by
 refine fG Tryz.func72 λw cs=>ra (λd=>[(1,pt (B0 d) 0),(2,pt (B1 d) 0)]) (λd=>[ob (B0 d) #[i6 f.x0,i6 f.x1,i6 f.x2,i6 f.x3,i6 f.x4,i6 f.x5,i6 f.x6,i6 f.x7] 48,ob (B1 d) #[i6 0,i6 0,i6 0,i6 0,i6 0,i6 0,i6 0,i6 0] 48]) λd=>rr (λ_=>[(1,.l 0),(3,.l 0),(6,.s 2)]) (λe=>[(3,pt (B5 e) 0)]) [] (λe L=>L++[ob (B5 e) #[i6 f.x0,i6 f.x1,i6 f.x2,i6 f.x3,i6 f.x4,i6 0,i6 0,i6 0] 48]) λe=>r0 [(1,.l 0)] [(10,i6 f.x0)] [] (r0 [] [(11,.bool (f.x0==1))] [] ?_);refine cN f.x0 1 (λh D=>?_) λh D=>?_
 ·refine rr (λ_=>[(1,.l 0),(3,.s 2)]) N0 [] (λ_ L=>L.set 2 (ob (B5 e) #[i6 f.x0,i6 f.x1,i6 f.x2,i6 f.x3,i6 f.x4,i6 0,i6 f.x6,i6 0] 48)) λQ=>r0 [(1,.l 0)] [(39,i6 f.x0)] [] (r0 [] [(40,.bool (f.x0==3))] [] ?_);refine cN f.x0 3 (λC F=>?_) λC F=>?_
  ·exact rr (λ_=>[(2,.s 2)]) N0 [] (λ_ L=>L.set 2 (ob (B5 e) #[i6 f.x0,i6 f.x1,i6 f.x2,i6 f.x3,i6 0,i6 0,i6 f.x6,i6 0] 48)) λG=>rs [(0,.l 2),(1,.s 1)] 1 (ob (B1 d) #[i6 f.x0,i6 f.x1,i6 f.x2,i6 f.x3,i6 0,i6 0,i6 f.x6,i6 0] 48) (ao (.agg #[i6 f.x0,i6 f.x1,i6 f.x2,i6 f.x3,i6 0,i6 0,i6 f.x6,i6 0]) ab.zero (by((try simp only[jo,jq,jr,jt,ju,jv,jw]);(repeat (first | rw[h] | rw[C] | rw[ALct])))<;>rfl) [] [] [1])
  refine r0 [] [(44,.bool (f.x0==4))] [] ?_;refine cN f.x0 4 (λj p=>?_) λj p=>?_
  ·exact rr (λ_=>[(2,.s 2)]) N0 [] (λ_ L=>L.set 2 (ob (B5 e) #[i6 f.x0,i6 f.x1,i6 f.x2,i6 0,i6 f.x4,i6 0,i6 f.x6,i6 0] 48)) λH=>rs [(0,.l 2),(1,.s 1)] 1 (ob (B1 d) #[i6 f.x0,i6 f.x1,i6 f.x2,i6 0,i6 f.x4,i6 0,i6 f.x6,i6 0] 48) (ao (.agg #[i6 f.x0,i6 f.x1,i6 f.x2,i6 0,i6 f.x4,i6 0,i6 f.x6,i6 0]) ab.zero (by((try simp only[jo,jq,jr,jt,ju,jv,jw]);(repeat (first | rw[h] | rw[C] | rw[j] | rw[ALct] | rw[ALcf])))<;>rfl) [] [] [1])
  refine r0 [] [(48,.bool (f.x0==5))] [] ?_;refine cN f.x0 5 (λm q=>?_) λm q=>?_
  ·exact rr (λ_=>[(2,.l 0),(5,.s 2)]) N0 [] (λ_ L=>L.set 2 (ob (B5 e) #[i6 f.x0,i6 f.x1,i6 0,i6 0,i6 0,i6 0,i6 f.x6,i6 0] 48)) λI=>rs [(0,.l 2),(1,.s 1)] 1 (ob (B1 d) #[i6 f.x0,i6 f.x1,i6 0,i6 0,i6 0,i6 0,i6 f.x6,i6 0] 48) (ao (.agg #[i6 f.x0,i6 f.x1,i6 0,i6 0,i6 0,i6 0,i6 f.x6,i6 0]) ab.zero (by((try simp only[jo,jq,jr,jt,ju,jv,jw]);(repeat (first | rw[h] | rw[C] | rw[j] | rw[m] | rw[ALct] | rw[ALcf])))<;>rfl) [] [] [1])
  exact rs [(0,.l 2),(1,.s 1)] 1 (ob (B1 d) #[i6 f.x0,i6 f.x1,i6 f.x2,i6 f.x3,i6 f.x4,i6 0,i6 f.x6,i6 0] 48) (ao (.agg #[i6 f.x0,i6 f.x1,i6 f.x2,i6 f.x3,i6 f.x4,i6 0,i6 f.x6,i6 0]) ab.zero (by((try simp only[jo,jq,jr,jt,ju,jv,jw]);(repeat (first | rw[h] | rw[C] | rw[j] | rw[m] | rw[ALct] | rw[ALcf])))<;>rfl) [] [] [1])
 refine r0 [] [(16,.bool (f.x0==2))] [] ?_;refine cN f.x0 2 (λb r=>?_) λb r=>?_
 ·refine rr (λ_=>[(1,.l 0),(3,.l 0),(5,.s 2),(7,.s 2)]) N0 [] (λ_ L=>L.set 2 (ob (B5 e) #[i6 f.x0,i6 f.x1,i6 f.x2,i6 f.x3,i6 f.x4,i6 0,i6 f.x6,i6 f.x7] 48)) λJ=>r0 [(1,.l 0)] [(39,i6 f.x0)] [] (r0 [] [(40,.bool (f.x0==3))] [] ?_);refine cN f.x0 3 (λi u=>?_) λi u=>?_
  ·exact rr (λ_=>[(2,.s 2)]) N0 [] (λ_ L=>L.set 2 (ob (B5 e) #[i6 f.x0,i6 f.x1,i6 f.x2,i6 f.x3,i6 0,i6 0,i6 f.x6,i6 f.x7] 48)) λK=>rs [(0,.l 2),(1,.s 1)] 1 (ob (B1 d) #[i6 f.x0,i6 f.x1,i6 f.x2,i6 f.x3,i6 0,i6 0,i6 f.x6,i6 f.x7] 48) (ao (.agg #[i6 f.x0,i6 f.x1,i6 f.x2,i6 f.x3,i6 0,i6 0,i6 f.x6,i6 f.x7]) ab.zero (by((try simp only[jo,jq,jr,jt,ju,jv,jw]);(repeat (first | rw[h] | rw[b] | rw[i] | rw[ALct] | rw[ALcf])))<;>rfl) [] [] [1])
  refine r0 [] [(44,.bool (f.x0==4))] [] ?_;refine cN f.x0 4 (λk v=>?_) λk v=>?_
  ·exact rr (λ_=>[(2,.s 2)]) N0 [] (λ_ L=>L.set 2 (ob (B5 e) #[i6 f.x0,i6 f.x1,i6 f.x2,i6 0,i6 f.x4,i6 0,i6 f.x6,i6 f.x7] 48)) λM=>rs [(0,.l 2),(1,.s 1)] 1 (ob (B1 d) #[i6 f.x0,i6 f.x1,i6 f.x2,i6 0,i6 f.x4,i6 0,i6 f.x6,i6 f.x7] 48) (ao (.agg #[i6 f.x0,i6 f.x1,i6 f.x2,i6 0,i6 f.x4,i6 0,i6 f.x6,i6 f.x7]) ab.zero (by((try simp only[jo,jq,jr,jt,ju,jv,jw]);(repeat (first | rw[h] | rw[b] | rw[i] | rw[k] | rw[ALct] | rw[ALcf])))<;>rfl) [] [] [1])
  refine r0 [] [(48,.bool (f.x0==5))] [] ?_;refine cN f.x0 5 (λn x=>?_) λn x=>?_
  ·exact rr (λ_=>[(2,.l 0),(5,.s 2)]) N0 [] (λ_ L=>L.set 2 (ob (B5 e) #[i6 f.x0,i6 f.x1,i6 0,i6 0,i6 0,i6 0,i6 f.x6,i6 f.x7] 48)) λN=>rs [(0,.l 2),(1,.s 1)] 1 (ob (B1 d) #[i6 f.x0,i6 f.x1,i6 0,i6 0,i6 0,i6 0,i6 f.x6,i6 f.x7] 48) (ao (.agg #[i6 f.x0,i6 f.x1,i6 0,i6 0,i6 0,i6 0,i6 f.x6,i6 f.x7]) ab.zero (by((try simp only[jo,jq,jr,jt,ju,jv,jw]);(repeat (first | rw[h] | rw[b] | rw[i] | rw[k] | rw[n] | rw[ALct] | rw[ALcf])))<;>rfl) [] [] [1])
  exact rs [(0,.l 2),(1,.s 1)] 1 (ob (B1 d) #[i6 f.x0,i6 f.x1,i6 f.x2,i6 f.x3,i6 f.x4,i6 0,i6 f.x6,i6 f.x7] 48) (ao (.agg #[i6 f.x0,i6 f.x1,i6 f.x2,i6 f.x3,i6 f.x4,i6 0,i6 f.x6,i6 f.x7]) ab.zero (by((try simp only[jo,jq,jr,jt,ju,jv,jw]);(repeat (first | rw[h] | rw[b] | rw[i] | rw[k] | rw[n] | rw[ALct] | rw[ALcf])))<;>rfl) [] [] [1])
 refine r0 [] [(24,.bool (f.x0==3))] [] ?_;refine cN f.x0 3 (λa y=>?_) λa y=>?_
 ·exact cT (f.x0==3) a (rs [(1,.l 0),(3,.l 0),(5,.s 2),(7,.s 2)] 2 (ob (B5 e) #[i6 f.x0,i6 f.x1,i6 f.x2,i6 f.x3,i6 f.x4,i6 f.x5,i6 0,i6 f.x7] 48) (r0 [(1,.l 0)] [(39,i6 f.x0)] [] (rT [(0,.t (tk (show Value.bool (f.x0==3)= .bool true from ALca Value.bool a)))] 40 (rs [(2,.s 2)] 2 (ob (B5 e) #[i6 f.x0,i6 f.x1,i6 f.x2,i6 f.x3,i6 0,i6 f.x5,i6 0,i6 f.x7] 48) (rs [(0,.l 2),(1,.s 1)] 1 (ob (B1 d) #[i6 f.x0,i6 f.x1,i6 f.x2,i6 f.x3,i6 0,i6 f.x5,i6 0,i6 f.x7] 48) (ao (.agg #[i6 f.x0,i6 f.x1,i6 f.x2,i6 f.x3,i6 0,i6 f.x5,i6 0,i6 f.x7]) ab.zero (by((try simp only[jo,jq,jr,jt,ju,jv,jw]);(repeat (first | rw[h] | rw[b] | rw[a] | rw[ALct] | rw[ALcf])))<;>rfl) [] [] [1]))))))
 refine r0 [] [(24,.bool (f.x0==4))] [24] ?_;refine cN f.x0 4 (λc z=>?_) λc z=>?_
 ·exact cT (f.x0==4) c (rs [(1,.l 0),(3,.l 0),(5,.s 2),(7,.s 2)] 2 (ob (B5 e) #[i6 f.x0,i6 f.x1,i6 f.x2,i6 f.x3,i6 f.x4,i6 f.x5,i6 0,i6 f.x7] 48) (r0 [(1,.l 0)] [(39,i6 f.x0)] [] (rF [(0,.t (tk (show Value.bool (f.x0==3)= .bool false from ALca Value.bool a)))] 40 (rT [(0,.t (tk (show Value.bool (f.x0==4)= .bool true from ALca Value.bool c)))] 44 (rs [(2,.s 2)] 2 (ob (B5 e) #[i6 f.x0,i6 f.x1,i6 f.x2,i6 0,i6 f.x4,i6 f.x5,i6 0,i6 f.x7] 48) (rs [(0,.l 2),(1,.s 1)] 1 (ob (B1 d) #[i6 f.x0,i6 f.x1,i6 f.x2,i6 0,i6 f.x4,i6 f.x5,i6 0,i6 f.x7] 48) (ao (.agg #[i6 f.x0,i6 f.x1,i6 f.x2,i6 0,i6 f.x4,i6 f.x5,i6 0,i6 f.x7]) ab.zero (by((try simp only[jo,jq,jr,jt,ju,jv,jw]);(repeat (first | rw[h] | rw[b] | rw[a] | rw[c] | rw[ALct] | rw[ALcf])))<;>rfl) [] [] [1])))))))
 refine r0 [] [(24,.bool (f.x0==5))] [24] ?_;refine cN f.x0 5 (λg A=>?_) λg A=>?_
 ·exact rr (λ_=>[(1,.l 0),(3,.l 0),(5,.s 2),(7,.s 2)]) N0 [] (λ_ L=>L.set 2 (ob (B5 e) #[i6 f.x0,i6 f.x1,i6 f.x2,i6 f.x3,i6 f.x4,i6 f.x5,i6 0,i6 f.x7] 48)) λO=>r0 [(1,.l 0)] [(39,i6 f.x0)] [] (rF [(0,.t (tk (show Value.bool (f.x0==3)= .bool false from ALca Value.bool a)))] 40 (rF [(0,.t (tk (show Value.bool (f.x0==4)= .bool false from ALca Value.bool c)))] 44 (rT [(0,.t (tk (show Value.bool (f.x0==5)= .bool true from ALca Value.bool g)))] 48 (rs [(2,.l 0),(5,.s 2)] 2 (ob (B5 e) #[i6 f.x0,i6 f.x1,i6 0,i6 0,i6 0,i6 f.x5,i6 0,i6 f.x7] 48) (rs [(0,.l 2),(1,.s 1)] 1 (ob (B1 d) #[i6 f.x0,i6 f.x1,i6 0,i6 0,i6 0,i6 f.x5,i6 0,i6 f.x7] 48) (ao (.agg #[i6 f.x0,i6 f.x1,i6 0,i6 0,i6 0,i6 f.x5,i6 0,i6 f.x7]) ab.zero (by((try simp only[jo,jq,jr,jt,ju,jv,jw]);(repeat (first | rw[h] | rw[b] | rw[a] | rw[c] | rw[g] | rw[ALct] | rw[ALcf])))<;>rfl) [] [] [1]))))))
 refine r0 [] [(34,.bool (f.x0==7))] [] ?_;refine cN f.x0 7 (λo B=>?_) λo B=>?_
 ·exact rr (λ_=>[(2,.s 2)]) N0 [] (λ_ L=>L.set 2 (ob (B5 e) #[i6 f.x0,i6 0,i6 0,i6 0,i6 0,i6 0,i6 0,i6 0] 48)) λP=>r0 [(1,.l 0)] [(39,i6 f.x0)] [] (rF [(0,.t (tk (show Value.bool (f.x0==3)= .bool false from ALca Value.bool a)))] 40 (rF [(0,.t (tk (show Value.bool (f.x0==4)= .bool false from ALca Value.bool c)))] 44 (rF [(0,.t (tk (show Value.bool (f.x0==5)= .bool false from ALca Value.bool g)))] 48 (rs [(0,.l 2),(1,.s 1)] 1 (ob (B1 d) #[i6 f.x0,i6 0,i6 0,i6 0,i6 0,i6 0,i6 0,i6 0] 48) (ao (.agg #[i6 f.x0,i6 0,i6 0,i6 0,i6 0,i6 0,i6 0,i6 0]) ab.zero (by((try simp only[jo,jq,jr,jt,ju,jv,jw]);(repeat (first | rw[h] | rw[b] | rw[a] | rw[c] | rw[g] | rw[o] | rw[ALct] | rw[ALcf])))<;>rfl) [] [] [1])))))
 exact r0 [(1,.l 0)] [(39,i6 f.x0)] [] (rF [(0,.t (tk (show Value.bool (f.x0==3)= .bool false from ALca Value.bool a)))] 40 (rF [(0,.t (tk (show Value.bool (f.x0==4)= .bool false from ALca Value.bool c)))] 44 (rF [(0,.t (tk (show Value.bool (f.x0==5)= .bool false from ALca Value.bool g)))] 48 (rs [(0,.l 2),(1,.s 1)] 1 (ob (B1 d) #[i6 f.x0,i6 f.x1,i6 f.x2,i6 f.x3,i6 f.x4,i6 0,i6 0,i6 0] 48) (ao (.agg #[i6 f.x0,i6 f.x1,i6 f.x2,i6 f.x3,i6 f.x4,i6 0,i6 0,i6 0]) ab.zero (by((try simp only[jo,jq,jr,jt,ju,jv,jw]);(repeat (first | rw[h] | rw[b] | rw[a] | rw[c] | rw[g] | rw[o] | rw[ALcf])))<;>rfl) [] [] [1])))))
def mT(f:Fa)(R S B M C m:Nat):Bool:=(((((((decide (1≤f.x0))&&(decide (f.x0≤7)))&&(((m:Int)==1)||((m:Int)==2)))&&(f.x0==f.x0&&(f.x1==(jo f)&&(f.x2==(jq f)&&(f.x3==(jr f)&&(f.x4==(jt f)&&(f.x5==(ju f)&&(f.x6==(jv f)&&(f.x7==(jw f)&&true)))))))))&&(hold R S B M C f.x1 f.x2 f.x3 f.x4))&&(bK f.x6 576))&&(bK f.x5 ((aX (m:Int):Nat):Int)))&&(bK f.x7 (bif f.x0==2 then 2 else 256))
theorem EI(f:Fa)(R S B M C m:Nat)(g:b6 R S B M C)(h:m=1∨m=2):aa WJ 38 #[.agg #[i6 f.x0,i6 f.x1,i6 f.x2,i6 f.x3,i6 f.x4,i6 f.x5,i6 f.x6,i6 f.x7],.agg #[iN R,iN S,iN B,iN M,iN C],iN m] [] [] N0 (λ_=> .bool (mT f R S B M C m)):=by
 refine fG Tryz.func38 λw cs=>ra (λa=>[(3,pt (B0 a) 0),(4,pt (B1 a) 0),(6,.bool false)]) (λa=>[ob (B0 a) #[i6 f.x0,i6 f.x1,i6 f.x2,i6 f.x3,i6 f.x4,i6 f.x5,i6 f.x6,i6 f.x7] 48,ob (B1 a) #[iN R,iN S,iN B,iN M,iN C] 23]) λa=>r0 [] [(7,i6 256)] [] (r0 [(1,.l 0)] [(10,.bool (f.x0==2))] [] ?_);refine cJ (f.x0==2) (λc=>[(7,i6 (bif c then 2 else 256))]) (λ_=>[ob (B0 a) #[i6 f.x0,i6 f.x1,i6 f.x2,i6 f.x3,i6 f.x4,i6 f.x5,i6 f.x6,i6 f.x7] 48,ob (B1 a) #[iN R,iN S,iN B,iN M,iN C] 23]) (λd=>?_) (λd=>?_) ?_
 ·have b:=eq_of_beq d;refine r0 [] [(7,i6 2)] [7] ?_;exact cm Kr [0,1] Kr
 ·have b:=ne_of_beq_false d;exact cm Kr [0,1] Kr
 exact r0 [(1,.m (ld 0 (i6 f.x0))),(5,.m (ld 0 (i6 f.x0))),(10,.c [] [] (oY (m:Int))),(13,.m (ls 0 ([i6 f.x0,i6 f.x1,i6 f.x2,i6 f.x3,i6 f.x4,i6 f.x5,i6 f.x6,i6 f.x7]))),(14,.m (ls 0 ([i6 f.x0,i6 f.x1,i6 f.x2,i6 f.x3,i6 f.x4,i6 f.x5,i6 f.x6,i6 f.x7]))),(15,.c [] [] (Rh f)),(16,.e),(19,.m (ls 1 ([iN R,iN S,iN B,iN M,iN C]))),(21,.m (ls 0 ([i6 f.x1,i6 f.x2,i6 f.x3,i6 f.x4]))),(22,.c [] [] (rS R S B M C g f.x1 f.x2 f.x3 f.x4)),(26,.m (ld 0 (i6 f.x6))),(27,.c [] [] (y2 f.x6 576)),(31,.m (ld 0 (i6 f.x5))),(33,.c [] [] (EE m h)),(34,.c [] [] (y2 f.x5 ((aX (m:Int):Nat):Int))),(38,.m (ld 0 (i6 f.x7))),(40,.c [] [] (y2 f.x7 (bif f.x0==2 then 2 else 256)))] [(6,.bool ((((((((decide (1≤f.x0))&&(decide (f.x0≤7)))&&(((m:Int)==1)||((m:Int)==2)))&&(f.x0==f.x0&&(f.x1==(jo f)&&(f.x2==(jq f)&&(f.x3==(jr f)&&(f.x4==(jt f)&&(f.x5==(ju f)&&(f.x6==(jv f)&&(f.x7==(jw f)&&true)))))))))&&(hold R S B M C f.x1 f.x2 f.x3 f.x4))&&(bK f.x6 576))&&(bK f.x5 ((aX (m:Int):Nat):Int)))&&(bK f.x7 (bif f.x0==2 then 2 else 256))))] [6] (lf ab.zero [] [] [])
theorem Ri{P:Program}{T:TypeId}{x y:Operand}{w:World}{yk:IntKind}{a:Nat}(n:Nat)(b:n≤8):(av .shr T x y (.int .u8 (a:Int)) (.int yk (n:Int))).run P w= .ok (.int .u8 ((a/2^n:Nat):Int)) w:=by
 unfold av;simp only[XA,eqGuard_shr,XB,Xo,binOp_shr,shift_shr_u8 _ _ _ (Int.natCast_nonneg n) Om,Int.toNat_natCast];push_cast;rfl
def om(xs:List UInt8)(b:Nat):Nat:=(xs.getD (b/8) 0).toNat/2^(b%8)%2
theorem Rj(x:UInt8)(n:Nat):x.toNat/2^n<256:=Nat.lt_of_le_of_lt (Nat.div_le_self _ _) x.toNat_lt
theorem Rk(v:Value)(xs:List UInt8)(g:xs.length=72)(b:Int)(h0:0≤b)(h1:b<576):aa WJ 284 #[v,i6 b] [.p (aG eB v xs)] [] N0 (λ_=>iN (om xs b.toNat)):=by
 exact fO Tryz.func284 0 rfl λd c=>fG Tryz.func284 λw cs=>r0 [] [(4,i6 0)] [] (rF [(1,.t (tk (show Value.bool (decide (b<0))= .bool false from ALca Value.bool (by exact bf Om)))),(4,.t (tv (av .shr 3 (.tmp 8) (.const (u6 3)) (i6 b) (u6 3)) (λ_=>dQ (b:=((b.toNat/8:Nat):Int)) (iD 3 Dc) Om))),(6,du c.1 0),(7,.t (tk (show Value.bool (decide ((xs.length:Int)≤((b.toNat/8:Nat):Int)))= .bool false from ALca Value.bool (by exact bf Om))))] 13 (r0 [(2,.t (tv (av .shr 3 (.tmp 15) (.const (u6 3)) (i6 b) (u6 3)) (λ_=>dQ (b:=((b.toNat/8:Nat):Int)) (iD 3 Dc) Om))),(3,eU c.1 0 (b.toNat/8) 1),(4,iG kB c.1 0 (b.toNat/8) 0),(6,.t (tv (av .and 3 (.tmp 19) (.const (i6 7)) (i6 b) (i6 7)) (λ_=>dQ (b:=((b.toNat%8:Nat):Int)) (mA _ 3 8 Dc Dc Dc Dc) Om))),(7,.t (tc (k:= .i64) (l:= .u64) (a:=iN (b.toNat%8)) λ_ _ _ e f=>m4 e f Om)),(8,.t (tv (av .shr 5 (.tmp 18) (.tmp 21) (u1 ((xs.getD (b.toNat/8) 0).toNat:Int)) (u6 ((b.toNat%8:Nat):Int))) (λ_=>Ri (b.toNat%8) Om))),(9,.t (tv (convert 5 3 (u1 (((xs.getD (b.toNat/8) 0).toNat/2^(b.toNat%8):Nat):Int))) (λ_=>Iy Tryz.underlying5 Tryz.underlying3 (Rj _ _)))),(10,.t (tv (av .and 3 (.tmp 23) (.const (i6 1)) (iN ((xs.getD (b.toNat/8) 0).toNat/2^(b.toNat%8))) (i6 1)) (λ_=>BE)))] [(4,iN (om xs b.toNat))] [4] (lf ab.zero [] [(0,0)] [])))
theorem EJ(xs:List UInt8)(g:xs.length=72)(b:Int)(h0:0≤b)(h1:b<576):aa WJ 168 #[.agg (rB 72 xs).toArray,i6 b] [] [] N0 (λ_=> .agg (rB 72 (xs.set (b.toNat/8) ((xs.getD (b.toNat/8) 0)^^^(UInt8.ofNat (1*2^(b.toNat%8)))))).toArray):=by
 refine fG Tryz.func168 λw cs=>ra (λc=>[(2,pt (B0 c) 0),(4,pt (B1 c) 0)]) (λc=>[ob (B0 c) (rB 72 xs).toArray 217,ob (B1 c) (rB 72 (WK 72 0)).toArray 217]) λc=>r0 [] [(10,.bool ((decide (0≤b))&&(decide (b<576))))] [] ?_;have d:((decide (0≤b))&&(decide (b<576)))=true:=by rw[cD Om,cD Om];rfl
 exact cT ((decide (0≤b))&&(decide (b<576))) d (rs [(1,.t (tv (av .shr 3 (.tmp 11) (.const (u6 3)) (i6 b) (u6 3)) (λ_=>dQ (b:=((b.toNat/8:Nat):Int)) (iD 3 Dc) Om))),(2,iA 217 .i64 (B0 c) 0 72 1 (b.toNat/8)),(3,rD 0 (B0 c) (b.toNat/8) 217 (rB 72 xs) (nU Om)),(5,.t (tv (av .and 3 (.tmp 15) (.const (i6 7)) (i6 b) (i6 7)) (λ_=>dQ (b:=((b.toNat%8:Nat):Int)) (mA _ 3 8 Dc Dc Dc Dc) Om))),(6,.t (tc (k:= .i64) (l:= .u64) (a:=iN (b.toNat%8)) λ_ _ _ e f=>m4 e f Om)),(7,.t (tv (av .shl 5 (.const (u1 1)) (.tmp 17) (u1 1) (u6 ((b.toNat%8:Nat):Int))) (λ_=>uu (a:=1) (b.toNat%8) Om))),(8,.t (tb (a:=u1 ((xs.getD (b.toNat/8) 0).toNat:Int)) (b:=u1 ((UInt8.ofNat (1*2^(b.toNat%8))).toNat:Int)) λ_ _ _ _=>lL (xs.getD (b.toNat/8) 0) ((UInt8.ofNat (1*2^(b.toNat%8)))))),(9,iA 217 .i64 (B0 c) 0 72 1 (b.toNat/8)),(10,wD 0 (B0 c) (b.toNat/8) 217 (u1 (((xs.getD (b.toNat/8) 0)^^^(UInt8.ofNat (1*2^(b.toNat%8)))).toNat:Int)) (rB 72 xs) (rB 72 (xs.set (b.toNat/8) ((xs.getD (b.toNat/8) 0)^^^(UInt8.ofNat (1*2^(b.toNat%8)))))) (jV Om) (mn g))] 0 (ob (B0 c) (rB 72 (xs.set (b.toNat/8) ((xs.getD (b.toNat/8) 0)^^^(UInt8.ofNat (1*2^(b.toNat%8)))))).toArray 217) (rs [(0,.l 0),(1,.s 1)] 1 (ob (B1 c) (rB 72 (xs.set (b.toNat/8) ((xs.getD (b.toNat/8) 0)^^^(UInt8.ofNat (1*2^(b.toNat%8)))))).toArray 217) (lf ab.zero [] [] [1])))
section
theorem Rl{α:Type}{en:α→List Value}{d:α}{a m:Nat}{ys:List α}{t:TypeId}(h1: ∀x,(en x).length=1)(h:ys.length=m):aG en (.slice (some ⟨a,0,none⟩) m m) ys [(a,.cells ((cI en d m ys).toArray) t (0,0))]:=⟨oR h1 h,some ⟨a,0,none⟩,0,by rw[h];rfl⟩
theorem y4(m:Int):aX m≤36:=by unfold aX;split<;>(try split)<;>omega
theorem EK(m:Int):dT m≤8:=by unfold dT;split<;>(try split)<;>omega
theorem y7{m:Int}{k:Nat}(c:k≤dT m):aX m*k≤72:=by
 by_cases b:m=1
 ·subst b;have a:k≤8:=c;show 9*k≤72;omega
 ·by_cases a:m=2
  ·subst a;have d:k≤2:=c;show 36*k≤72;omega
  ·unfold aX;rw[ALifn b,ALifn a];omega
theorem EL{m:Int}{xs ys:List UInt8}(o:Nat): ∀k,dw (λi=>dG m (xs.getD (o+i) 0) (ys.getD (o+i) 0)) k≤8*k
 | 0=>W4 _
 | k+1=>by
  rw[dw];have h:=EL (m:=m) (xs:=xs) (ys:=ys) o k;have a:=No m (xs.getD (o+k) 0) (ys.getD (o+k) 0);have b:dG m (xs.getD (o+k) 0) (ys.getD (o+k) 0)≤8:=by
   split at a<;>omega
  omega
theorem EM{m:Int}{xs ys:List UInt8}(k:Nat):dw (λi=>dG m (xs.getD i 0) (ys.getD i 0)) k≤8*k:=by
 have h:=EL (m:=m) (xs:=xs) (ys:=ys) 0 k;simpa using h
theorem EN{f g:Nat→Nat}: ∀{n:Nat},(∀i,i<n→f i=g i)→dw f n=dw g n
 | 0,_=>rfl
 | n+1,h=>by rw[dw,dw,EN λi a=>h i (Xs a),h n (Xd n)]
theorem EO{xs:List UInt8}{o n i:Nat}(h:i<n):((xs.drop o).take n).getD i 0=xs.getD (o+i) 0:=by
 rw[WM,List.getElem?_take,ALifp h,Xp,WM]
theorem Rm(a b:UInt8):dG 1 a b=pc (a^^^b).toNat:=ALifp rfl
theorem Rn{a b:UInt8}(h:((a.toNat:Int) != (b.toNat:Int))=true):dG 2 a b=1:=by
 unfold dG;rw[ALifn Dc,ALifn (λe=>by subst e;simp at h)]
theorem Ro{a b:UInt8}(h:((a.toNat:Int) != (b.toNat:Int))=false):dG 2 a b=0:=by
 unfold dG;have c:=bne_eq_false_iff_eq.1 h;rw[ALifn Dc,ALifp (UInt8.toNat_inj.1 Om)]
theorem Rq(m:Int)(a b:List UInt8)(k:Nat):((kW m a b (k+1):Nat):Int)=max ((kW m a b k:Nat):Int) ((dw (λi=>dG m (((a.drop (aX m*k)).take (aX m)).getD i 0) (((b.drop (aX m*k)).take (aX m)).getD i 0)) (aX m):Nat):Int):=by
 rw[show dw (λi=>dG m (((a.drop (aX m*k)).take (aX m)).getD i 0) (((b.drop (aX m*k)).take (aX m)).getD i 0)) (aX m)=wC m a b k from EN λi c=>by rw[EO c,EO c],kW];omega
theorem Rr(xs ys:List UInt8)(k:Nat):dw (λz=>dG 1 (xs.getD z 0) (ys.getD z 0)) (k+1)=dw (λz=>dG 1 (xs.getD z 0) (ys.getD z 0)) k+pc (xs.getD k 0^^^ys.getD k 0).toNat:=by rw[dw,Rm]
theorem Rs(xs ys:List UInt8)(k:Nat):dw (λz=>dG 2 (xs.getD z 0) (ys.getD z 0)) (k+1)=bif ((xs.getD k 0).toNat:Int) != ((ys.getD k 0).toNat:Int) then dw (λz=>dG 2 (xs.getD z 0) (ys.getD z 0)) k+1 else dw (λz=>dG 2 (xs.getD z 0) (ys.getD z 0)) k:=by
 rw[dw];cases h:((xs.getD k 0).toNat:Int) != ((ys.getD k 0).toNat:Int) with
 | true=>rw[Rn h];rfl
 | false=>rw[Ro h];rfl
theorem Ru(b:UInt8):pc b.toNat≤8:=C4 b.toNat_lt
theorem EP(f:Nat→Nat):dw f 0=0:=by rw[dw]
theorem ER(m:Nat)(c:m=1∨m=2)(xs:List UInt8)(b:xs.length=72)(q:Nat)(a:q<dT (m:Int)):aa WJ 194 #[.agg (rB 72 xs).toArray,iN m,iN q] [] [] (λE=>[bC (E.val 0) ((xs.drop (aX (m:Int)*q)).take (aX (m:Int)))]) (λE=>E.val 0):=by
 rcases c with rfl | rfl
 ·exact CT xs b q a
 ·exact CU xs b q a
attribute [local irreducible] dw kW pc dG aX dT om
theorem Rv(v u:Value)(xs ys:List UInt8)(l:ys.length=xs.length)(r:xs.length≤100):aa WJ 226 #[v,u] [.p (aG eB v xs),.p (aG eB u ys)] [] N0 (λ_=>i6 ((dw (λz=>dG 1 (xs.getD z 0) (ys.getD z 0)) xs.length:Nat):Int)):=by
 refine fO Tryz.func226 0 rfl λg d=>?_;refine fO Tryz.func226 1 rfl λh e=>?_;refine fG Tryz.func226 λw cs=>?_;refine r0 [] [(4,i6 0)] [] (rF [(1,du d.1 0),(3,du e.1 1),(4,.t (tk (show Value.bool (decide ((ys.length:Int)<(xs.length:Int)))= .bool false from ALca Value.bool (by exact bf Om))))] 12 (r0 [(1,du e.1 1),(3,du d.1 0),(4,.t (tv (av .sub 3 (.tmp 16) (.tmp 18) (iN ys.length) (iN xs.length)) (λ_=>dQ (b:=0) (qy Om Om) Om)))] [(5,i6 0)] [] (r0 [(1,du d.1 0)] [(21,v),(22,iN xs.length),(23,i6 0)] [] ?_)));refine lq (λi=>i≤xs.length) (λi=>[(23,iN i),(5,i6 ((dw (λz=>dG 1 (xs.getD z 0) (ys.getD z 0)) i:Nat):Int))]) (λ_ L=>L) (λi=>xs.length-i) 0 Om (by rw[EP];kernel_rfl) Kr (λi k=>?_);have o:=EM (m:=1) (xs:=xs) (ys:=ys) i;have n:=Ru (xs.getD i 0^^^ys.getD i 0);have q:=(xs.getD i 0^^^ys.getD i 0).toNat_lt;refine r0 [] [(24,.bool (decide ((i:Int)<(xs.length:Int))))] [] ?_;refine bW (i:Int) (xs.length:Int) (λj f=>?_) λj f=>?_
 ·refine r0 [(1,eU d.1 0 i 1),(2,iG kB d.1 0 i 0)] [(6,iN i),(7,u1 ((xs.getD i 0).toNat:Int))] [] ?_;refine r0 [(4,eU e.1 1 i 1),(5,iG kB e.1 1 i 0),(6,.t (tb (a:=u1 ((xs.getD i 0).toNat:Int)) (b:=u1 ((ys.getD i 0).toNat:Int)) λ_ _ _ _=>lL (xs.getD i 0) (ys.getD i 0))),(7,.c [] [] (BL (((xs.getD i 0)^^^(ys.getD i 0)).toNat) Om)),(8,ad (dw (λz=>dG 1 (xs.getD z 0) (ys.getD z 0)) i) (pc (((xs.getD i 0)^^^(ys.getD i 0)).toNat)))] [(5,i6 (((dw (λz=>dG 1 (xs.getD z 0) (ys.getD z 0)) i)+(pc (((xs.getD i 0)^^^(ys.getD i 0)).toNat)):Nat):Int))] [5] (r0 [(0,ad i 1)] [(23,i6 ((i+1:Nat):Int))] [23] ?_);exact le (i+1) Om Om (by rw[Rr];kernel_rfl) [0,1] Kr
 obtain rfl:i=xs.length:=by omega
 refine lx ?_;exact r0 [] [(4,i6 ((dw (λz=>dG 1 (xs.getD z 0) (ys.getD z 0)) xs.length:Nat):Int))] [4] (lf ab.zero [] [(0,0),(1,1)] [])
theorem Rw(v u:Value)(xs ys:List UInt8)(f:ys.length=xs.length)(g:xs.length≤100):aa WJ 193 #[i6 1,v,u] [.p (aG eB v xs),.p (aG eB u ys)] [] N0 (λ_=>i6 ((dw (λz=>dG 1 (xs.getD z 0) (ys.getD z 0)) xs.length:Nat):Int)):=by
 refine fO Tryz.func193 0 rfl λa d=>?_;refine fO Tryz.func193 1 rfl λb e=>?_;refine fG Tryz.func193 λw cs=>?_;exact r0 [] [(6,i6 0)] [] (rT [] 11 (r0 [(2,.c [0,1] [] (aa.at (rd':=[.c a,.c b]) (Rv v u xs ys Om Om) (ec d (ec e (λ_ h=>h)))))] [(6,i6 ((dw (λz=>dG 1 (xs.getD z 0) (ys.getD z 0)) xs.length:Nat):Int))] [6] (lf ab.zero [] [(0,0),(1,1)] [])))
theorem Rx(v u:Value)(xs ys:List UInt8)(l:ys.length=xs.length)(o:xs.length≤100):aa WJ 193 #[i6 2,v,u] [.p (aG eB v xs),.p (aG eB u ys)] [] N0 (λ_=>i6 ((dw (λz=>dG 2 (xs.getD z 0) (ys.getD z 0)) xs.length:Nat):Int)):=by
 refine fO Tryz.func193 0 rfl λf b=>?_;refine fO Tryz.func193 1 rfl λg e=>?_;refine fG Tryz.func193 λw cs=>?_;refine r0 [] [(6,i6 0)] [] (rF [] 11 (r0 [] [(7,i6 0)] [] (r0 [(1,du b.1 0)] [(15,v),(16,iN xs.length),(17,i6 0)] [] ?_)));refine lq (λi=>i≤xs.length) (λi=>[(17,iN i),(7,i6 ((dw (λz=>dG 2 (xs.getD z 0) (ys.getD z 0)) i:Nat):Int))]) (λ_ L=>L) (λi=>xs.length-i) 0 Om (by rw[EP];kernel_rfl) Kr (λi k=>?_);have n:=EM (m:=2) (xs:=xs) (ys:=ys) i;refine r0 [] [(18,.bool (decide ((i:Int)<(xs.length:Int))))] [] ?_;refine bW (i:Int) (xs.length:Int) (λj h=>?_) λj h=>?_
 ·refine r0 [(1,eU b.1 0 i 1),(2,iG kB b.1 0 i 0)] [(8,iN i),(9,u1 ((xs.getD i 0).toNat:Int))] [] ?_;refine r0 [(3,eU e.1 1 i 1),(4,iG kB e.1 1 i 0)] [(27,.bool (((xs.getD i 0).toNat:Int) != ((ys.getD i 0).toNat:Int)))] [] ?_;refine cJ (((xs.getD i 0).toNat:Int) != ((ys.getD i 0).toNat:Int)) (λc=>[(7,i6 (((bif c then(dw (λz=>dG 2 (xs.getD z 0) (ys.getD z 0)) i)+1 else dw (λz=>dG 2 (xs.getD z 0) (ys.getD z 0)) i):Nat):Int))]) (λ_=>[.c f,.c g]) (λa=>?_) (λa=>?_) ?_
  ·have d:=bne_iff_ne.1 a;refine r0 [(1,ad (dw (λz=>dG 2 (xs.getD z 0) (ys.getD z 0)) i) 1)] [(7,i6 (((dw (λz=>dG 2 (xs.getD z 0) (ys.getD z 0)) i)+1:Nat):Int))] [7] ?_;exact cm Kr [0,1] Kr
  ·have d:=A2 a;exact cm Kr [0,1] Kr
  refine r0 [(0,ad i 1)] [(17,i6 ((i+1:Nat):Int))] [17] ?_;exact le (i+1) Om Om (by rw[Rs];kernel_rfl) [0,1] Kr
 obtain rfl:i=xs.length:=by omega
 refine lx ?_;exact r0 [] [(6,i6 ((dw (λz=>dG 2 (xs.getD z 0) (ys.getD z 0)) xs.length:Nat):Int))] [6] (lf ab.zero [] [(0,0),(1,1)] [])
theorem Ry(m:Nat)(c:m=1∨m=2)(v u:Value)(xs ys:List UInt8)(n:Nat)(d:xs.length=n)(b:ys.length=n)(a:n≤100):aa WJ 193 #[iN m,v,u] [.p (aG eB v xs),.p (aG eB u ys)] [] N0 (λ_=>i6 ((dw (λi=>dG (m:Int) (xs.getD i 0) (ys.getD i 0)) n:Nat):Int)):=by
 subst d;rcases c with rfl | rfl
 ·exact Rw v u xs ys b a
 ·exact Rx v u xs ys b a
theorem ES{xs:List UInt8}{m:Int}{k:Nat}(b:xs.length=72)(a:k<dT m):((xs.drop (aX m*k)).take (aX m)).length=aX m:=by
 have h:=y7 (m:=m) (k:=k+1) a;rw[XC] at h;rw[WS,WY];omega
theorem ET(m:Nat)(hm:m=1∨m=2)(a b:List UInt8)(ha:a.length=72)(hb:b.length=72):aa WJ 149 #[iN m,.agg (rB 72 a).toArray,.agg (rB 72 b).toArray] [] [] N0 (λ_=>i6 ((kz (m:Int) a b:Nat):Int)):=by
 refine fG Tryz.func149 λw cs=>?_
 refine ra (λq1=>[(4,pt (B0 q1) 0),(5,pt (B1 q1) 0),(6,i6 0)]) (λq1=>[ob (B0 q1) (rB 72 a).toArray 217,ob (B1 q1) (rB 72 b).toArray 217]) λq1=>r0 [] [(7,i6 0)] [] (r0 [(1,.c [] [] (EF m hm))] [(10,i6 ((dT (m:Int):Nat):Int)),(11,i6 0)] [] ?_)
 refine lq (λk=>k≤(dT (m:Int))) (λk=>[(11,iN k),(7,i6 ((kW (m:Int) a b k:Nat):Int))]) (λ_ L=>L) (λk=>(dT (m:Int))-k) 0 Om (by rw[kW];kernel_rfl) Kr (λk hk4=>?_)
 have hw8:=EK (m:Int)
 refine r0 [] [(12,.bool (decide ((k:Int)<((dT (m:Int):Nat):Int))))] [] ?_
 refine bW (k:Int) ((dT (m:Int):Nat):Int) (λh6 dh6=>?_) λh6 dh6=>?_
 ·have HLA:=ES (m:=(m:Int)) (k:=k) ha Om
  have HLB:=ES (m:=(m:Int)) (k:=k) hb Om
  have HLC:aX (m:Int)≤100:=WQ (y4 _) Dc
  refine r0 [] [(8,iN k)] [] (rr (λq8=>[(2,.m (ls 0 (rB 72 a))),(5,.c [] [2] (ER m hm a (by(simp only[LL,ha,hb,ha,hb];done)) k Om)),(6,.m (ls 1 (rB 72 b))),(9,.c [] [3] (ER m hm b (by(simp only[LL,ha,hb,ha,hb];done)) k Om)),(10,.c [2,3] [] (aa.at (rd':=[bC ((q8 5).val 0) ((a.drop (aX (m:Int)*k)).take (aX (m:Int))),bC ((q8 9).val 0) ((b.drop (aX (m:Int)*k)).take (aX (m:Int)))]) (Ry m hm ((q8 5).val 0) ((q8 9).val 0) ((a.drop (aX (m:Int)*k)).take (aX (m:Int))) ((b.drop (aX (m:Int)*k)).take (aX (m:Int))) (aX (m:Int)) HLA HLB HLC) (bL (λ_ h=>aq.sq h) (bL (λ_ h=>aq.sq h) (λ_ h=>h))))),(11,.t (tv (Builtin.max_ #[3,3] 3 #[i6 ((kW (m:Int) a b k:Nat):Int),i6 ((dw (λz=>dG (m:Int) (((a.drop (aX (m:Int)*k)).take (aX (m:Int))).getD z 0) (((b.drop (aX (m:Int)*k)).take (aX (m:Int))).getD z 0)) (aX (m:Int)):Nat):Int)]) (λ_=>qR _ _ _ _)))]) (λ_=>[(7,i6 (max ((kW (m:Int) a b k:Nat):Int) ((dw (λz=>dG (m:Int) (((a.drop (aX (m:Int)*k)).take (aX (m:Int))).getD z 0) (((b.drop (aX (m:Int)*k)).take (aX (m:Int))).getD z 0)) (aX (m:Int)):Nat):Int)))]) [7] (λq8 L=>L++[bC ((q8 5).val 0) ((a.drop (aX (m:Int)*k)).take (aX (m:Int))),bC ((q8 9).val 0) ((b.drop (aX (m:Int)*k)).take (aX (m:Int)))]) λq8=>r0 [(0,ad k 1)] [(11,i6 ((k+1:Nat):Int))] [11] ?_)
  exact le (k+1) Om Om (by rw[Rq];kernel_rfl) [0,1] Kr
 obtain rfl:k=(dT (m:Int)):=by omega
 refine lx ?_
 refine r0 [] [(6,i6 ((kW (m:Int) a b (dT (m:Int)):Nat):Int))] [6] ?_
 exact ao (i6 ((kW (m:Int) a b (dT (m:Int)):Nat):Int)) ab.zero bg [] [] []
end
section
attribute [local irreducible] aX dT om
theorem Rz(e f c m:Nat)(i:m=1∨m=2)(D:c<aX (m:Int)):e4 5 WJ 288 #[pt e 0,pt f 0] (λ(x:Nat)=>#[iN x]) ((W6 (dT (m:Int))).map λk=>aX (m:Int)*k+c) (Xz [[(e,.cells #[iN m] 3 (0,0))],[(f,.cells #[iN c] 3 (0,0))]]):=by
 have r:=y4 (m:Int);have t:=EK (m:Int);refine gi (KO:=[[(e,.cells #[iN m] 3 (0,0))],[(f,.cells #[iN c] 3 (0,0))]]) Tryz.func288 (λu y w C A h q p=>?_);refine r0 [(0,.l 0),(1,.c [] [] (EE m i))] [(4,iN (aX (m:Int)))] [] (r0 [(0,.l 1),(3,.l 1)] [(14,.bool ((decide ((c:Int)<0))||(decide (((aX (m:Int):Nat):Int)≤(c:Int)))))] [] ?_);have o:((decide ((c:Int)<0))||(decide (((aX (m:Int):Nat):Int)≤(c:Int))))=false:=by rw[bf Om,bf Om];rfl
 refine cF ((decide ((c:Int)<0))||(decide (((aX (m:Int):Nat):Int)≤(c:Int)))) o (r0 [(0,.l 0),(1,.c [] [] (EF m i))] [(16,iN (dT (m:Int))),(17,i6 0)] [] ?_);refine jX (λk=>k≤(dT (m:Int))) (λk=>[(17,iN k)]) (λ_ L=>L) (λk=>(dT (m:Int))-k) (λk=>k) 0 Om p Kr Kr (λk z B s d=>?_);have hck:=y7 (m:=(m:Int)) (k:=k) Om;refine r0 [] [(18,.bool (decide ((k:Int)<((dT (m:Int):Nat):Int))))] [] ?_;refine bW (k:Int) ((dT (m:Int):Nat):Int) (λg a=>?_) λg a=>?_
 ·refine r0 [] [(5,iN k)] [] ?_;refine iy h q d 6 (λ_=>[(3,ml (aX (m:Int)) k),(4,.l 1),(5,ad ((aX (m:Int))*k) c)]) (λ_=>[(20,.func (.yield u) #[] #[]),(25,iN (((aX (m:Int))*k)+c))]) [] (λ_ L=>L) N0 [0,1] (nS Om) (λv j n b=>?_);refine cF _ rfl (r0 [(0,ad k 1)] [(17,iN (k+1))] [17] ?_);exact iI (k+1) Om b Om Kr [0,1] Kr
 refine jY ?_;exact kT h d (by(rw[WT,W7];omega)) [] [0,1]
theorem RA(m c:Nat):aa WJ 285 #[iN m,iN c] [] [] (λE=>[ob (E.y 0) #[iN m] 3,ob (E.y 1) #[iN c] 3]) (λE=> .func (.func 288) #[] #[pt ((E.y 0)) 0,pt ((E.y 1)) 0]):=by
 exact fG Tryz.func285 λw cs=>ra (λa=>[(2,pt (B0 a) 0),(3,pt (B1 a) 0),(4,.nilFunc)]) (λa=>[ob (B0 a) #[iN m] 3,ob (B1 a) #[iN c] 3]) λa=>r0 [] [(4,.func (.func 288) #[] #[pt (B0 a) 0,pt (B1 a) 0])] [4] (lf (.l [(a 0).y 0,(a 1).y 0] [] []) [0,1] [] [])
def gM(n c:Nat)(v:UInt8)(xs:List UInt8):Nat→List UInt8
 | 0=>xs
 | k+1=>(gM n c v xs k).set (n*k+c) v
theorem vA(n c:Nat)(v:UInt8)(xs:List UInt8): ∀k,(gM n c v xs k).length=xs.length
 | 0=>rfl
 | k+1=>by rw[gM,WR,vA]
theorem RB(n c:Nat)(v:UInt8)(xs:List UInt8):gM n c v xs 0=xs:=rfl
theorem RC(n c k:Nat)(v:UInt8)(xs:List UInt8):gM n c v xs (k+1)=(gM n c v xs k).set (n*k+c) v:=rfl
def nC(xs:List UInt8)(b v:Int):List UInt8:=bif (!(((om xs b.toNat:Nat):Int)==v%2)) then xs.set (b.toNat/8) (xs.getD (b.toNat/8) 0^^^UInt8.ofNat (1*2^(b.toNat%8))) else xs
theorem RD(xs:List UInt8)(b v:Int):(nC xs b v).length=xs.length:=by
 unfold nC;cases (!(((om xs b.toNat:Nat):Int)==v%2))
 ·rfl
 ·exact WR
attribute [local irreducible] gM
theorem RE(xs:List UInt8)(g:xs.length=72)(b v:Int)(h0:0≤b)(h1:b<576):aa WJ 271 #[.agg (rB 72 xs).toArray,i6 b,i6 v] [] [] N0 (λ_=> .agg (rB 72 (nC xs b v)).toArray):=by
 refine fG Tryz.func271 λw cs=>ra (λa=>[(3,pt (B0 a) 0),(6,pt (B1 a) 0)]) (λa=>[ob (B0 a) (rB 72 xs).toArray 217,ob (B1 a) (rB 72 (WK 72 0)).toArray 217]) λa=>r0 [(0,aS 217 (B0 a) 72 1),(2,.c [0] [] (aa.at (rd':=[ob (B0 a) (rB 72 xs).toArray 217]) (Rk (.slice (some ⟨(a 0).y 0,0,none⟩) 72 72) xs (by(simp only[LL,g];done)) b Om Om) (ec (Rl (d:=0) (λ_=>rfl) g) (λ_ h=>h)))),(4,.t (tv (av .and 3 (.tmp 10) (.const (i6 1)) (i6 v) (i6 1)) (λ_=>mA _ 1 2 Dc Dc Dc Dc)))] [(12,.bool (((om xs b.toNat:Nat):Int) != (v%2)))] [] ?_;refine m9 ((om xs b.toNat:Nat):Int) (v%2) (λf e=>?_) λf e=>?_
 ·exact rr (λ_=>[(0,.l 0),(2,.c [] [] (EJ xs (by(simp only[LL,g];done)) b Om Om)),(3,.s 1)]) N0 [] (λ_ L=>L.set 1 (ob (B1 a) (rB 72 (xs.set (b.toNat/8) ((xs.getD (b.toNat/8) 0)^^^(UInt8.ofNat (1*2^(b.toNat%8)))))).toArray 217)) λi=>ao (.agg (rB 72 (xs.set (b.toNat/8) ((xs.getD (b.toNat/8) 0)^^^(UInt8.ofNat (1*2^(b.toNat%8)))))).toArray) ab.zero (by unfold nC;(repeat (first | rw[f] | rw[ALct]))) [] [] [1]
 exact rs [(0,.l 0),(1,.s 1)] 1 (ob (B1 a) (rB 72 xs).toArray 217) (ao (.agg (rB 72 xs).toArray) ab.zero (by unfold nC;(repeat (first | rw[f] | rw[ALcf]))) [] [] [1])
theorem RF(xs:List UInt8)(f:xs.length=72)(c m:Nat)(o:m=1∨m=2)(i:c<aX (m:Int))(v:UInt8):aa WJ 272 #[.agg (rB 72 xs).toArray,iN m,iN c,u1 (v.toNat:Int)] [] [] N0 (λ_=> .agg (rB 72 (gM (aX (m:Int)) c v xs (dT (m:Int)))).toArray):=by
 have n:=y4 (m:Int);have d:=f;refine fG Tryz.func272 λw cs=>ra (λa=>[(4,pt (B0 a) 0),(7,pt (B1 a) 0),(8,pt (B2 a) 0)]) (λa=>[ob (B0 a) (rB 72 xs).toArray 217,ob (B1 a) #[u1 (v.toNat:Int)] 5,ob (B2 a) (rB 72 (WK 72 0)).toArray 217]) λa=>rr (λ_=>[(2,.c [] [3,4] (RA m c))]) (λb=>[(12,.func (.func 288) #[] #[pt ((B2 b)) 0,pt (((b 2).y 1)) 0])]) [] (λb L=>L++[ob (B2 b) #[iN m] 3,ob ((b 2).y 1) #[iN c] 3]) λb=>?_;refine oP (encs:=λ(x:Nat)=>#[iN x]) (xs:=(W6 (dT (m:Int))).map λk=>aX (m:Int)*k+c) (KO:=[[((B2 b),.cells #[iN m] 3 (0,0))],[(((b 2).y 1),.cells #[iN c] 3 (0,0))]]) (Rz (B2 b) ((b 2).y 1) c m o i) (enters_of Tryz.func288 Kr rfl) (λk=>k≤dT (m:Int)) (λk L=>L.set 0 (ob (B0 a) (rB 72 (gM (aX (m:Int)) c v xs k)).toArray 217)) [3,4] Om (by rw[RB];kernel_rfl) (λy k z q t g e=>?_) (λp e=>?_)
 ·obtain⟨h,rfl⟩:=lK g;have d:=(vA (aX (m:Int)) c v xs k).trans f;have hck:=y7 (m:=(m:Int)) (k:=k+1) Om;have j:aX (m:Int)*(k+1)=aX (m:Int)*k+aX (m:Int):=XC _ _;refine r0 [] [(9,iN (aX (m:Int)*k+c))] [] ?_;refine ag [3,4] (λr u=>?_);exact rs [(1,.l 1),(2,iA 217 .i64 (B0 a) 0 72 1 (aX (m:Int)*k+c)),(3,wD 0 (B0 a) (aX (m:Int)*k+c) 217 (u1 (v.toNat:Int)) (rB 72 (gM (aX (m:Int)) c v xs k)) (rB 72 ((gM (aX (m:Int)) c v xs k).set (aX (m:Int)*k+c) v)) (jV Om) (mn (show(gM (aX (m:Int)) c v xs k).length=72 by(simp only[LL,f,d,f];done))))] 0 (ob (B0 a) (rB 72 ((gM (aX (m:Int)) c v xs k).set (aX (m:Int)*k+c) v)).toArray 217) (ne _ ⟨Om,rfl⟩ [0,1,2,3,4] (by rw[RC];kernel_rfl))
 refine cl [ob (B0 a) (rB 72 (gM (aX (m:Int)) c v xs (dT (m:Int)))).toArray 217,ob (B1 a) #[u1 (v.toNat:Int)] 5,ob (B2 a) (rB 72 (WK 72 0)).toArray 217,ob (B2 b) #[iN m] 3,ob ((b 2).y 1) #[iN c] 3] (by rw[WT,W7];kernel_rfl) ?_;simp only[WT,W7] at e;have d:=(vA (aX (m:Int)) c v xs (dT (m:Int))).trans f;exact rs [(0,.l 0),(1,.s 2)] 2 (ob (B2 a) (rB 72 (gM (aX (m:Int)) c v xs (dT (m:Int)))).toArray 217) (lf ab.zero [] [] [2])
end
section
structure lZ (c:Cf) (f:Fa):Prop where
 ok:mT f c.R c.S c.B c.M c.C c.E=true
section
variable {c:Cf} {f:Fa}
theorem lZ.all(h:lZ c f):hold c.R c.S c.B c.M c.C f.x1 f.x2 f.x3 f.x4=true∧(0≤f.x6∧f.x6<576)∧(0≤f.x5∧f.x5<((aX (c.E:Int):Nat):Int)):=by
 have a:=h.ok;unfold mT at a;simp only[WU] at a;exact⟨a.1.1.1.2,lV.1 a.1.1.2,lV.1 a.1.2⟩
end
theorem RG(xs:List UInt8)(d:xs.length=72)(c:Int)(m:Nat)(b:m=1∨m=2)(a:0≤c∧c<((aX (m:Int):Nat):Int))(v:UInt8):aa WJ 272 #[.agg (rB 72 xs).toArray,iN m,i6 c,u1 (v.toNat:Int)] [] [] N0 (λ_=> .agg (rB 72 (gM (aX (m:Int)) c.toNat v xs (dT (m:Int)))).toArray):=by
 obtain⟨n,rfl⟩:=Int.eq_ofNat_of_zero_le a.1;exact RF xs d n m b Om v
def k4(m:Nat)(a b d e:Int)(xs:List UInt8)(f:Fa):List UInt8:=bif ((!(iQ f))||(!(iw f a b d e))) then xs else(bif (f.x0==2) then nC xs f.x6 f.x7 else gM (aX (m:Int)) f.x5.toNat (aR f.x7) xs (dT (m:Int)))
theorem EU(m:Nat)(a b d e:Int)(xs:List UInt8)(f:Fa):(k4 m a b d e xs f).length=xs.length:=by
 unfold k4;cases ((!(iQ f))||(!(iw f a b d e)))
 ·cases (f.x0==2)
  ·exact vA ..
  ·exact RD ..
 ·rfl
def iR(m:Nat)(a b d e:Int)(xs:List UInt8)(l:List Fa):List UInt8:=l.foldl (k4 m a b d e) xs
theorem vB(m:Nat)(a b d e:Int): ∀(l:List Fa) (xs:List UInt8),(iR m a b d e xs l).length=xs.length
 | [],_=>rfl
 | f::l,xs=>(vB m a b d e l _).trans (EU ..)
theorem RH{m:Nat}{a b d e:Int}{xs:List UInt8}{l:List Fa}{i:Nat}(h:i<l.length):iR m a b d e xs (l.take (i+1))=k4 m a b d e (iR m a b d e xs (l.take i)) (l.getD i aZ):=yW h
attribute [local irreducible] iw iQ aX dT gM nC hold dn
theorem RI(c:Cf)(f:Fa)(p:lZ c f)(z:c.E=1∨c.E=2)(e g h i:Int)(xs:List UInt8)(m:xs.length=72):aa WJ 252 #[.agg #[i6 f.x0,i6 f.x1,i6 f.x2,i6 f.x3,i6 f.x4,i6 f.x5,i6 f.x6,i6 f.x7],iN c.E,.agg #[i6 e,i6 g,i6 h,i6 i],.agg (rB 72 xs).toArray] [] [] N0 (λ_=> .agg (rB 72 (k4 c.E e g h i xs f)).toArray):=by
 have d:=p.all;have x:=d.2.1.1;have y:=d.2.1.2;have q:=d.2.2;have r:=z;refine fG Tryz.func252 λw cs=>ra (λb=>[(4,pt (B0 b) 0),(6,pt (B1 b) 0),(7,pt (B2 b) 0),(8,pt (B3 b) 0)]) (λb=>[ob (B0 b) #[i6 f.x0,i6 f.x1,i6 f.x2,i6 f.x3,i6 f.x4,i6 f.x5,i6 f.x6,i6 f.x7] 48,ob (B1 b) #[i6 e,i6 g,i6 h,i6 i] 46,ob (B2 b) (rB 72 xs).toArray 217,ob (B3 b) (rB 72 (WK 72 0)).toArray 217]) λb=>r0 [(0,.l 0),(1,.c [] [] (EG f)),(4,.l 0),(5,.l 1),(6,.c [] [] (EH f e g h i))] [(9,.bool ((!(iQ f))||(!(iw f e g h i))))] [] ?_;refine cB ((!(iQ f))||(!(iw f e g h i))) (λj=>?_) λj=>?_
 ·exact rr (λ_=>[(0,.l 2),(1,.s 3)]) N0 [] (λ_ L=>L.set 3 (ob (B3 b) (rB 72 xs).toArray 217)) λA=>ao (.agg (rB 72 xs).toArray) ab.zero (by unfold k4;(repeat (first | rw[j] | rw[ALct]))) [] [] [3]
 refine r0 [(1,.l 0)] [(20,.bool (f.x0==2))] [] ?_;refine cN f.x0 2 (λo n=>?_) λo n=>?_
 ·exact rr (λ_=>[(0,.l 2),(2,.l 0),(4,.l 0),(5,.c [] [] (RE xs (by(simp only[LL,m,m];done)) f.x6 f.x7 Om Om)),(6,.s 3)]) N0 [] (λ_ L=>L.set 3 (ob (B3 b) (rB 72 (nC xs f.x6 f.x7)).toArray 217)) λB=>ao (.agg (rB 72 (nC xs f.x6 f.x7)).toArray) ab.zero (by unfold k4;(repeat (first | rw[j] | rw[o] | rw[ALct] | rw[ALcf]))) [] [] [3]
 exact rs [(0,.l 2),(3,.l 0),(5,.l 0),(6,.t (tc (k:= .i64) (l:= .u8) (a:=i6 f.x7) λ_ _ _ u v=>oB u v)),(7,.c [] [] (RG xs (by(simp only[LL,m,m];done)) f.x5 c.E r q (aR f.x7))),(8,.s 3)] 3 (ob (B3 b) (rB 72 (gM (aX (c.E:Int)) (f.x5).toNat (aR f.x7) xs (dT (c.E:Int)))).toArray 217) (ao (.agg (rB 72 (gM (aX (c.E:Int)) (f.x5).toNat (aR f.x7) xs (dT (c.E:Int)))).toArray) ab.zero (by unfold k4;(repeat (first | rw[j] | rw[o] | rw[ALcf]))) [] [] [3])
attribute [local irreducible] k4
theorem RJ(c:Cf)(z:c.E=1∨c.E=2)(v:Value)(l:List Fa)(y:l.length≤1000)(r: ∀f∈l,lZ c f)(a b d e:Int)(xs:List UInt8)(j:xs.length=72):aa WJ 225 #[v,iN c.E,.agg #[i6 a,i6 b,i6 d,i6 e],.agg (rB 72 xs).toArray] [.p (aG eFa v l)] [] N0 (λ_=> .agg (rB 72 (iR c.E a b d e xs l)).toArray):=by
 refine fO Tryz.func225 0 rfl λo i=>fG Tryz.func225 λw cs=>ra (λg=>[(6,pt (B0 g) 0),(7,pt (B1 g) 0),(8,pt (B2 g) 0)]) (λg=>[ob (B0 g) #[i6 a,i6 b,i6 d,i6 e] 46,ob (B1 g) (rB 72 xs).toArray 217,ob (B2 g) (rB 72 (WK 72 0)).toArray 217]) λg=>r0 [(1,du i.1 0)] [(11,v),(12,iN l.length),(13,i6 0)] [] ?_;refine lq (λk=>k≤l.length) (λk=>[(13,iN k)]) (λk L=>L.set 2 (ob (B1 g) (rB 72 (iR c.E a b d e xs (l.take k))).toArray 217)) (λk=>l.length-k) 0 Om Kr (by rw[Xg];kernel_rfl) (λk x=>?_);have h:=(vB c.E a b d e (l.take k) xs).trans j;refine r0 [] [(14,.bool (decide ((k:Int)<(l.length:Int))))] [] ?_;refine bW (k:Int) (l.length:Int) (λu q=>?_) λu q=>?_
 ·refine rr (λ_=>[(0,eU i.1 0 k 8),(1,mx kD i.1 0 k 0 8),(3,.s 4)]) (λm=>[(10,pt (B2 m) 0)]) [] (λm L=>L++[ob (B2 m) #[i6 ((l.getD k aZ).x0),i6 ((l.getD k aZ).x1),i6 ((l.getD k aZ).x2),i6 ((l.getD k aZ).x3),i6 ((l.getD k aZ).x4),i6 ((l.getD k aZ).x5),i6 ((l.getD k aZ).x6),i6 ((l.getD k aZ).x7)] 48]) λm=>?_;have n:=(og aZ).2 r k Om;have t:=(EU c.E a b d e (iR c.E a b d e xs (l.take k)) (l.getD k aZ)).trans h;exact rs [(0,.l 4),(2,.l 1),(3,.l 2),(4,.c [] [] (RI c (l.getD k aZ) n z a b d e (iR c.E a b d e xs (l.take k)) (by(simp only[LL,j,h,t,j];done)))),(5,.s 2)] 2 (ob (B1 g) (rB 72 (k4 c.E a b d e (iR c.E a b d e xs (l.take k)) (l.getD k aZ))).toArray 217) (r0 [(0,ad k 1)] [(13,iN (k+1))] [13] (le (k+1) Om Om Kr [0,1,2,3] (by rw[RH Om];kernel_rfl)))
 obtain rfl:k=l.length:=by omega
 refine cl [.c o,ob (B0 g) #[i6 a,i6 b,i6 d,i6 e] 46,ob (B1 g) (rB 72 (iR c.E a b d e xs l)).toArray 217,ob (B2 g) (rB 72 (WK 72 0)).toArray 217] (by rw[Xc];kernel_rfl) (lx ?_);have h:=(vB c.E a b d e l xs).trans j;exact rs [(0,.l 2),(1,.s 3)] 3 (ob (B2 g) (rB 72 (iR c.E a b d e xs l)).toArray 217) (lf ab.zero [] [(0,0)] [3])
end
theorem EV(c:Cf)(b:b6 c.R c.S c.B c.M c.C)(a p1 p2 p3:Int)(d:hold c.R c.S c.B c.M c.C a p1 p2 p3=true):aa WJ 147 #[.agg #[iN c.R,iN c.S,iN c.B,iN c.M,iN c.C],.agg #[i6 a,i6 p1,i6 p2,i6 p3]] [] [] N0 (λ_=> .tuple #[i6 (dn a p1 p2 p3),i6 0]):=by
 have h:=Dh c.R c.S c.B c.M c.C b a p1 p2 p3;unfold rU rV at h;rw[d] at h;exact h
theorem vC(c:Cf)(b:b6 c.R c.S c.B c.M c.C)(i:Int)(a:fZ c.R c.S c.B c.M c.C i=true):aa WJ 68 #[.agg #[iN c.R,iN c.S,iN c.B,iN c.M,iN c.C],i6 i] [] [] N0 (λ_=> .tuple #[.agg #[i6 (i/1048576),i6 (i/65536%16),i6 (i/64%1024),i6 (i%64)],i6 0]):=by
 have h:=Di c.R c.S c.B c.M c.C b i;unfold rX rY rZ r5 r6 at h;unfold fZ at a;rw[Bool.not_eq_true'] at a;rw[a] at h;exact h
theorem RK{i:Nat}{w:World}{α:Type}{en:α→List Value}{v:Value}{xs:List α}{bs:ay}(h:aG en v xs bs):(av .eql 93 (.tmp i) (.const (.slice none 0 0)) v (.slice none 0 0)).run WJ w= .ok (.bool (oX v)) w:=by
 obtain⟨a,r,rfl⟩:=h.2;cases a<;>kernel_rfl
theorem EW(v:Value)(xs:List Fa)(f:xs.length≤1000):aa WJ 70 #[v] [.p (aG eFa v xs)] [] (λE=>[cG (E.val 0) xs]) (λE=>(E.val 0)):=by
 refine fO Tryz.func70 0 rfl λd a=>fG Tryz.func70 λw cs=>r0 [] [(2,.slice none 0 0)] [] (r0 [(1,.t (tv (av .eql 93 (.tmp 3) (.const (.slice none 0 0)) (v) (.slice none 0 0)) (λ_=>RK a)))] [(4,.bool (oX v))] [] ?_);refine cB (oX v) (λe=>?_) λe=>?_
 ·exact r0 [] [(2,.slice none 0 0)] [2] (cz kD (lf (.l [] [] [.slice none 0 0]) [1] [(0,0)] [] (hf:=by(try rewrite [uF a As]);kernel_rfl)))
 exact rr (λb=>[(0,.m (qU 1 eFa ([i6 0,i6 0,i6 0,i6 0,i6 0,i6 0,i6 0,i6 0]) 48)),(2,.m (mo 1 0 kD.hT (.slice (some ⟨(b 0).y 0,0,none⟩) 0 0) (v) (xs:=[]) (ys:=xs) (.c d) (cP a.1) kD.one kD.lz (by simp only[LL];omega)))]) (λb=>[(2,(b 2).val 0)]) [2] (λb L=>L++[cG ((b 2).val 0) (([])++xs)]) λb=>lf (.l [] [] [(b 2).val 0]) [1] [(0,0)] [] (hf:=by(try rewrite [uF a As]);kernel_rfl)
theorem RL(v:Value)(xs:List Fa)(l:Nat)(a:l≤xs.length)(b:xs.length≤1000):aa WJ 70 #[gT v l xs.length 8] [.p (aG eFa v xs)] [] (λE=>[cG (E.val 0) (xs.drop l)]) (λE=>E.val 0):=
 aa.at (EW (gT v l xs.length 8) (xs.drop l) (by rw[WY];omega)) (bL (λ_ h=>aG.drop (en:=eFa) (k:=8) (λ_=>rfl) h a) λ_ h=>h)
def kf(xs:List Fa):Int:=(bif decide (256≤(xs.length:Int)) then 14 else 0)
def g9(xs:List Fa)(f:Fa):List Fa:=(bif decide (256≤(xs.length:Int)) then xs else xs++([f]))
theorem EX(v:Value)(xs:List Fa)(f:Fa):aa WJ 170 #[v,.agg #[i6 f.x0,i6 f.x1,i6 f.x2,i6 f.x3,i6 f.x4,i6 f.x5,i6 f.x6,i6 f.x7]] [cG v xs] [0] (λE=>[cG (E.val 0) (g9 xs f)]) (λE=> .tuple #[(E.val 0),i6 (kf xs)]):=by
 refine fG Tryz.func170 λw cs=>ra (λc=>[(3,pt (B0 c) 0),(4,.slice none 0 0),(5,i6 0)]) (λc=>[ob (B0 c) #[i6 f.x0,i6 f.x1,i6 f.x2,i6 f.x3,i6 f.x4,i6 f.x5,i6 f.x6,i6 f.x7] 48]) λc=>r0 [(1,e8 kD v xs 0)] [(8,.bool (decide (256≤(xs.length:Int))))] [] ?_;refine oN 256 (xs.length:Int) (λb d=>?_) λb d=>?_
 ·exact r0 [] [(4,v),(5,i6 14)] [4,5] (ao (.tuple #[v,i6 14]) (.l [] [] [v]) (by((try simp only[kf,g9]);(repeat (first | rw[b] | rw[ALct])))<;>rfl) [0] [] [] (hf:=by(try simp only[kf,g9]);(repeat (first | rw[b] | rw[ALct]));kernel_rfl))
 exact rr (λ_=>[(1,.l 1),(2,.m (bs 2 1)),(3,eT kD (v) xs 0 2 ([f]))]) (λa=>[(4,(a 3).val 0),(5,i6 0)]) [4,5] (λa L=>L.set 0 (cG ((a 3).val 0) (xs++([f])))++[ob (B2 a) #[i6 f.x0,i6 f.x1,i6 f.x2,i6 f.x3,i6 f.x4,i6 f.x5,i6 f.x6,i6 f.x7] 48]) λa=>ao (.tuple #[(a 3).val 0,i6 0]) (.l [] [] [(a 3).val 0]) (by((try simp only[kf,g9]);(repeat (first | rw[b] | rw[ALcf])))<;>rfl) [0] [] [] (hf:=by(try simp only[kf,g9]);(repeat (first | rw[b] | rw[ALcf]));kernel_rfl)
structure Dr where
 cells:Int→List UInt8
 W:List Fa
 H:List Fa
def k5:List UInt8:=WK 72 0
def qg(r:List UInt8):Value:= .agg (rB 72 r).toArray
abbrev eE(f:Int→List UInt8)(g:Nat):aA:= .p (lO qg k5 f g)
abbrev fB(g:Nat)(c:Cf)(D:Dr)(L:aj):Prop:=∃(gm:Nat) (a b:Value),L=[ob g #[iN c.R,iN c.S,iN c.B,iN c.M,iN c.C,iN c.E,.map (some gm),a,b] 162,eE D.cells gm,cG a D.W,cG b D.H]
structure gN (c:Cf) (D:Dr):Prop where
 cl: ∀k,(D.cells k).length=72
 l1:D.W.length≤256
 l2:D.H.length≤256
 f1: ∀f∈D.W,lZ c f
 f2: ∀f∈D.H,lZ c f
def sx:Dr:=⟨λ_=>k5,[],[]⟩
theorem RM(c:Cf):gN c sx:=⟨λ_=>WN,WX _,WX _,λf h=>absurd h W9,λf h=>absurd h W9⟩
def aV(D:Dr)(i:Int):Int:=bif (D.H.length:Int)==0 then i else bif (D.H.getD 0 aZ).x0==7 then i else dn (D.H.getD 0 aZ).x1 (D.H.getD 0 aZ).x2 (D.H.getD 0 aZ).x3 (D.H.getD 0 aZ).x4
def b7(D:Dr):Bool:=bif (D.H.length:Int)==0 then false else(D.H.getD 0 aZ).x0==7
def ek(D:Dr):Dr:={D with H:=D.H.drop 1}
theorem y8{α:Type}{l:List α}(h:(l.length:Int)=0):l.drop 1=l:=by
 have e:l=[]:=List.length_eq_zero_iff.1 Om;subst e;rfl
theorem sy{c:Cf}{D:Dr}(h:gN c D):gN c (ek D):=⟨h.cl,h.l1,by show(D.H.drop 1).length≤256;rw[WY];have:=h.l2;omega,h.f1,λf a=>h.f2 f (List.mem_of_mem_drop a)⟩
theorem EY{c:Cf}{l:List Fa}(h: ∀f∈l,lZ c f)(a:(l.length:Int)≠0):lZ c (l.getD 0 aZ):=(og aZ).2 h 0 Om
theorem RN(c:Cf)(b:cr c):aa WJ 112 #[.agg #[iN c.R,iN c.S,iN c.B,iN c.M,iN c.C],iN c.E] [] [] (λE=>[ob (E.y 0) #[iN c.R,iN c.S,iN c.B,iN c.M,iN c.C,iN c.E,.map (some (E.y 1)),.slice none 0 0,.slice none 0 0] 162,eE (λ_=>k5) (E.y 1)]) (λE=> .tuple #[pt ((E.y 0)) 0,i6 0]):=by
 have g:=b.ly.O;have h:=b.E;refine fG Tryz.func112 λw cs=>ra (λd=>[(2,pt (B0 d) 0),(4,.pointer none),(5,i6 0)]) (λd=>[ob (B0 d) #[iN c.R,iN c.S,iN c.B,iN c.M,iN c.C] 23]) λd=>rF [(0,.l 0),(1,.c [] [] (uR c.R c.S c.B c.M c.C g))] 6 (r0 [(1,.c [] [] (oY (c.E:Int)))] [(10,.bool (!(((c.E:Int)==1)||((c.E:Int)==2))))] [] ?_);have f:(!(((c.E:Int)==1)||((c.E:Int)==2)))=false:=by rw[show((((c.E:Nat):Int)==1)||(((c.E:Nat):Int)==2))=true by rcases h with e | e<;>rw[e]<;>rfl];rfl
 exact cF (!(((c.E:Int)==1)||((c.E:Int)==2))) f (rr (λ_=>[(0,.l 0),(2,.m (mm 1 qg k5))]) (λa=>[(4,pt (B4 a) 0),(5,i6 0)]) [4,5] (λa L=>L++[eE (λ_=>k5) (B2 a),ob (B4 a) #[iN c.R,iN c.S,iN c.B,iN c.M,iN c.C,iN c.E,.map (some (B2 a)),.slice none 0 0,.slice none 0 0] 162]) λa=>lf (.l [(a 4).y 0,(a 2).y 0] [] []) [2,1] [] [])
theorem RO(g:Nat)(c:Cf)(D:Dr):aa WJ 113 #[pt g 0] [pk (fB g c D)] [0] (λ_=>[pk (fB g c D)]) (λ_=> .agg #[iN c.R,iN c.S,iN c.B,iN c.M,iN c.C]):=aa.pkZ Tryz.func113 λL b=>by
 obtain⟨gm,d,e,rfl⟩:=b;refine⟨[1,2,3],λ_=>[eE D.cells gm,cG d D.W,cG e D.H],?_,rfl,λE=>⟨rfl,rfl,⟨_,_,_,rfl⟩⟩⟩;exact fG Tryz.func113 λw cs=>ra (λa=>[(2,pt (B0 a) 0)]) (λa=>[ob (B0 a) #[i6 0,i6 0,i6 0,i6 0,i6 0] 23]) λa=>rs [(3,.l 0),(4,.s 4)] 4 (ob (B0 a) #[iN c.R,iN c.S,iN c.B,iN c.M,iN c.C] 23) (lf ab.zero [1,2,3] [(0,0)] [4])
theorem y9(g:Nat)(c:Cf)(D:Dr):aa WJ 107 #[pt g 0] [pk (fB g c D)] [0] (λ_=>[pk (fB g c D)]) (λ_=>iN c.E):=aa.pkZ Tryz.func107 λL a=>by
 obtain⟨gm,b,d,rfl⟩:=a;refine⟨[1,2,3],λ_=>[eE D.cells gm,cG b D.W,cG d D.H],?_,rfl,λE=>⟨rfl,rfl,⟨_,_,_,rfl⟩⟩⟩;exact fG Tryz.func107 λw cs=>r0 [] [(2,i6 0)] [] (r0 [(3,.l 0)] [(2,iN c.E)] [2] (lf ab.zero [1,2,3] [(0,0)] []))
theorem RP(g:Nat)(c:Cf)(D:Dr)(d:gN c D):aa WJ 37 #[pt g 0] [pk (fB g c D)] [0] (λE=>[pk (fB g c D),cG (E.val 0) D.H]) (λE=>(E.val 0)):=aa.pkW (n:=1) (N:=λE=>[cG (E.val 0) D.H]) (enters_of Tryz.func37 Kr rfl) λL e=>by
 obtain⟨gm,i,b,rfl⟩:=e;refine⟨[1,2,3],λ_=>[eE D.cells gm,cG i D.W,cG b D.H],?_,rfl,λE=>⟨rfl,rfl,⟨_,_,_,rfl⟩⟩⟩;have f:=d.l2;exact fG Tryz.func37 λw cs=>r0 [] [(2,.slice none 0 0)] [] (rr (λ_=>[(3,.l 0),(4,.c [3] [4] (aa.at (rd':=[cG b D.H]) (EW b D.H Om) (bL (λ_ h=>aq.sq h) (λ_ h=>h))))]) (λa=>[(2,((a 4).val 0))]) [2] (λa L=>L++[cG ((a 4).val 0) D.H]) λa=>lf (.l [] [] [((a 4).val 0),(a 4).val 0]) [1,2,3,4] [(0,0)] [])
theorem EZ(g:Nat)(c:Cf)(r:cr c)(D:Dr)(t:gN c D)(i:Int)(gm:Nat)(f a:Value):aa WJ 190 #[pt g 0,i6 i] [ob g #[iN c.R,iN c.S,iN c.B,iN c.M,iN c.C,iN c.E,.map (some gm),f,a] 162,eE D.cells gm,cG f D.W,cG a D.H] [0,1,2,3] (λE=>[ob g #[iN c.R,iN c.S,iN c.B,iN c.M,iN c.C,iN c.E,.map (some gm),f,(E.val 0)] 162,eE ((ek D).cells) gm,cG f ((ek D).W),cG (E.val 0) ((ek D).H)]) (λ_=> .agg #[i6 (aV D i),.bool (b7 D)]):=by
 have u:=t.l2;have n:=r.ly.O;refine fG Tryz.func190 λw cs=>ra (λe=>[(4,pt (B0 e) 0)]) (λe=>[ob (B0 e) #[i6 0,.bool false] 88]) λe=>r0 [(3,.l 0),(4,e8 kD a D.H 3)] [(13,.bool ((D.H.length:Int)==0))] [] ?_;refine cN (D.H.length:Int) 0 (λj d=>?_) λj d=>?_
 ·exact rr (λ_=>[(2,.s 4)]) N0 [] (λ_ L=>L.set 4 (ob (B0 e) #[i6 i,.bool false] 88)) λy=>ao (.agg #[i6 i,.bool false]) (.l [] [] [a]) (by unfold aV b7;(repeat (first | rw[j] | rw[ALct]))) [0,1,2,3] [] [4] (hf:=by unfold ek;(try rewrite [y8 As]);kernel_rfl)
 have o:=(EY t.f2 d).all.1;have v:0<D.H.length:=by have x:=d;omega
 refine rr (λ_=>[(3,.l 0),(4,cO kD a D.H 3 0),(5,pL kD a D.H 3 0 0 8),(7,.s 5)]) (λk=>[(5,pt (B6 k) 0)]) [] (λk L=>L++[ob (B6 k) #[i6 ((D.H.getD 0 aZ).x0),i6 ((D.H.getD 0 aZ).x1),i6 ((D.H.getD 0 aZ).x2),i6 ((D.H.getD 0 aZ).x3),i6 ((D.H.getD 0 aZ).x4),i6 ((D.H.getD 0 aZ).x5),i6 ((D.H.getD 0 aZ).x6),i6 ((D.H.getD 0 aZ).x7)] 48]) λk=>rr (λb=>[(4,.l 0),(5,Jo kD a D.H 3 1),(6,.c [3] [6] (aa.at (rd':=[cG a D.H]) (RL a D.H 1 Om Om) (bL (λ_ h=>aq.sq h) (λ_ h=>h)))),(9,.m (fj 0 6 (cG ((b 6).val 0) ((D.H).drop (1))) ((b 6).val 0) λbs h=>aq.one ((λ_ h=>h) bs h)))]) N0 [] (λb L=>L.set 0 (ob g #[iN c.R,iN c.S,iN c.B,iN c.M,iN c.C,iN c.E,.map (some gm),f,(b 6).val 0] 162)++[cG ((b 6).val 0) ((D.H).drop (1))]) λb=>r0 [(1,.l 5)] [(33,.bool (((D.H.getD 0 aZ).x0)==7))] [] ?_;refine cN ((D.H.getD 0 aZ).x0) 7 (λq p=>?_) λq p=>?_
 ·exact rr (λ_=>[(2,.s 4)]) N0 [] (λ_ L=>L.set 4 (ob (B0 e) #[i6 i,.bool true] 88)) λz=>ao (.agg #[i6 i,.bool true]) (.l [] [] [((b 6).val 0)]) (by unfold aV b7;(repeat (first | rw[j] | rw[q] | rw[ALct] | rw[ALcf]))) [0,1,2,6] [] [4] (hf:=by unfold ek;(try rewrite [y8 As]);kernel_rfl)
 exact r0 [(3,.m (ls 0 ([iN c.R,iN c.S,iN c.B,iN c.M,iN c.C]))),(5,.m (ls 5 ([i6 ((D.H.getD 0 aZ).x1),i6 ((D.H.getD 0 aZ).x2),i6 ((D.H.getD 0 aZ).x3),i6 ((D.H.getD 0 aZ).x4)]))),(6,.c [] [] (EV c n ((D.H.getD 0 aZ).x1) ((D.H.getD 0 aZ).x2) ((D.H.getD 0 aZ).x3) ((D.H.getD 0 aZ).x4) o)),] [(6,i6 (dn ((D.H.getD 0 aZ).x1) ((D.H.getD 0 aZ).x2) ((D.H.getD 0 aZ).x3) ((D.H.getD 0 aZ).x4))),(7,i6 0)] [] (rF [] 47 (rs [(2,.s 4)] 4 (ob (B0 e) #[i6 (dn ((D.H.getD 0 aZ).x1) ((D.H.getD 0 aZ).x2) ((D.H.getD 0 aZ).x3) ((D.H.getD 0 aZ).x4)),.bool false] 88) (ao (.agg #[i6 (dn ((D.H.getD 0 aZ).x1) ((D.H.getD 0 aZ).x2) ((D.H.getD 0 aZ).x3) ((D.H.getD 0 aZ).x4)),.bool false]) (.l [] [] [((b 6).val 0)]) (by unfold aV b7;(repeat (first | rw[j] | rw[q] | rw[ALcf]))) [0,1,2,6] [] [4] (hf:=by unfold ek;(try rewrite [y8 As]);kernel_rfl))))
section
theorem zp{R S B M C:Nat}(f:b6 R S B M C){a p1 p2 p3:Int}(h:hold R S B M C a p1 p2 p3=true):fZ R S B M C (dn a p1 p2 p3)=true:=by
 obtain⟨b,c,d,e,g,i⟩:=ND f.bd h;unfold fZ;rw[b,c,d,e,h,bf Om];rfl
theorem RQ{c:Cf}(a:cr c){D:Dr}(d:gN c D){i:Int}(b:fZ c.R c.S c.B c.M c.C i=true):fZ c.R c.S c.B c.M c.C (aV D i)=true:=by
 unfold aV;cases h:((D.H.length:Int)==0)
 ·rw[ALcf];cases (D.H.getD 0 aZ).x0==7
  ·exact zp a.ly.O (EY d.f2 (ne_of_beq_false h)).all.1
  ·exact b
 ·exact b
def qh(c:Cf)(D:Dr)(i:Int):List UInt8:=iR c.E (i/1048576) (i/65536%16) (i/64%1024) (i%64) (D.cells i) D.W
theorem zr{c:Cf}{D:Dr}(a:gN c D)(i:Int):(qh c D i).length=72:=(vB ..).trans (a.cl i)
def b9(c:Cf)(D:Dr)(i:Int):List UInt8:=bif b7 D then WK 72 0 else qh c (ek D) (aV D i)
theorem nD{c:Cf}{D:Dr}(a:gN c D)(i:Int):(b9 c D i).length=72:=by
 unfold b9;cases b7 D
 ·exact zr (sy a) _
 ·exact WN
def oo(D:Dr)(i:Int)(r:List UInt8):Dr:=⟨bif !(b7 D) then dC D.cells (aV D i) r else D.cells,D.W,D.H.drop 1⟩
theorem sA{f:Int→List UInt8}{n:Nat}(h: ∀k,(f k).length=n)(i:Int){r:List UInt8}(a:r.length=n)(k:Int):(dC f i r k).length=n:=by
 unfold dC
 split<;>simp [*]
theorem E0{c:Cf}{D:Dr}(h:gN c D)(i:Int){r:List UInt8}(b:r.length=72):gN c (oo D i r):=by
 have a:=sy h;refine⟨?_,a.l1,a.l2,a.f1,a.f2⟩;show ∀k,((bif !(b7 D) then dC D.cells (aV D i) r else D.cells) k).length=72;cases b7 D
 ·exact sA h.cl _ b
 ·exact h.cl
def E1(xs:List UInt8)(b:Int):List UInt8:=xs.set (b.toNat/8) (xs.getD (b.toNat/8) 0^^^UInt8.ofNat (1*2^(b.toNat%8)))
def ff(c:Cf)(f:Fa):Bool:=mT f c.R c.S c.B c.M c.C c.E
def kE(c:Cf)(D:Dr)(f:Fa):Dr:=
 ⟨bif !(ff c f) then D.cells else bif f.x0==1 then dC D.cells (dn f.x1 f.x2 f.x3 f.x4) (E1 (D.cells (dn f.x1 f.x2 f.x3 f.x4)) f.x6) else D.cells,
  bif !(ff c f) then D.W else bif f.x0==1 then D.W else bif iQ f then g9 D.W f else D.W,
  bif !(ff c f) then D.H else bif f.x0==1 then D.H else bif iQ f then D.H else g9 D.H f⟩
def hP(c:Cf)(D:Dr)(f:Fa):Int:=bif !(ff c f) then 10 else bif f.x0==1 then 0 else bif iQ f then kf D.W else kf D.H
theorem E2{xs:List Fa}(f:Fa)(h:xs.length≤256):(g9 xs f).length≤256:=by
 unfold g9;cases a:decide (256≤(xs.length:Int))
 ·have:=of_decide_eq_false a;simp only[ALcf,WL,List.length_singleton];omega
 ·exact h
theorem E3{xs:List Fa}{f:Fa}{p:Fa→Prop}(h: ∀x∈xs,p x)(hf:p f): ∀x∈g9 xs f,p x:=by
 unfold g9;cases decide (256≤(xs.length:Int))
 ·simp only[ALcf,List.mem_append,List.mem_singleton];rintro x (a | rfl)
  ·exact h x a
  ·exact hf
 ·exact h
theorem RR{c:Cf}{D:Dr}(h:gN c D)(f:Fa):gN c (kE c D f):=by
 unfold kE;cases b:ff c f
 ·exact⟨h.cl,h.l1,h.l2,h.f1,h.f2⟩
 ·have a:lZ c f:=⟨b⟩;cases f.x0==1
  ·cases iQ f
   ·exact⟨h.cl,h.l1,E2 f h.l2,h.f1,E3 h.f2 a⟩
   ·exact⟨h.cl,E2 f h.l1,h.l2,E3 h.f1 a,h.f2⟩
  ·exact⟨sA h.cl _ (by unfold E1;rw[WR];exact h.cl _),h.l1,h.l2,h.f1,h.f2⟩
attribute [local irreducible] iR aV b7 fZ dn iQ kf g9 mT
theorem RS(g:Nat)(c:Cf)(d:cr c)(D:Dr)(b:gN c D)(i:Int)(n:fZ c.R c.S c.B c.M c.C i=true)(gm:Nat)(a p:Value):aa WJ 191 #[pt g 0,i6 i] [ob g #[iN c.R,iN c.S,iN c.B,iN c.M,iN c.C,iN c.E,.map (some gm),a,p] 162,eE D.cells gm,cG a D.W,cG p D.H] [1,2,3] (λ_=>[eE D.cells gm,cG a D.W,cG p D.H]) (λ_=> .tuple #[.agg (rB 72 (qh c D i)).toArray,i6 0]):=by
 have j:=d.ly.O;have k:=n;have q:=b.l1;have l:=b.cl i;have o:=zr b i;have r:=d.E;exact fG Tryz.func191 λw cs=>ra (λe=>[(4,pt (B0 e) 0),(5,i6 0)]) (λe=>[ob (B0 e) (rB 72 (WK 72 0)).toArray 217]) λe=>rr (λ_=>[(3,.m (ls 0 ([iN c.R,iN c.S,iN c.B,iN c.M,iN c.C]))),(5,.c [] [] (vC c j i k)),(9,.m (al 5)),(10,.s 5)]) (λf=>[(6,pt ((f 9).y 0) 0),(7,i6 0)]) [] (λf L=>L++[ob ((f 9).y 0) #[i6 (i/1048576),i6 (i/65536%16),i6 (i/64%1024),i6 (i%64)] 46]) λf=>rF [] 18 (rr (λ_=>[(3,.m (ld 0 (a))),(7,.m (ld 0 (iN c.E))),(8,.m (ls 5 ([i6 (i/1048576),i6 (i/65536%16),i6 (i/64%1024),i6 (i%64)]))),(12,.m (ld 0 (.map (some gm)))),(14,.m (mg 1 (eE D.cells gm) gm i (λ_ h=>h))),(15,.c [2] [] (aa.at (rd':=[cG a D.W]) (RJ c r a D.W (WQ b.l1 Dc) b.f1 (i/1048576) (i/65536%16) (i/64%1024) (i%64) (D.cells i) (by(simp only[LL,l,o];done))) (bL (λ_ h=>aq.sq h) (λ_ h=>h)))),(16,.s 4)]) (λ_=>[(5,i6 0)]) [5] (λ_ L=>L.set 4 (ob (B0 e) (rB 72 (iR c.E (i/1048576) (i/65536%16) (i/64%1024) (i%64) (D.cells i) D.W)).toArray 217)) λt=>ao (.tuple #[.agg (rB 72 (iR c.E (i/1048576) (i/65536%16) (i/64%1024) (i%64) (D.cells i) D.W)).toArray,i6 0]) ab.zero bg [1,2,3] [(0,0)] [4])
theorem RT(g:Nat)(c:Cf)(d:cr c)(D:Dr)(o:gN c D)(i:Int)(k:fZ c.R c.S c.B c.M c.C i=true)(r:List UInt8)(t:r.length=72):aa WJ 204 #[pt g 0,i6 i,.agg (rB 72 r).toArray] [pk (fB g c D)] [0] (λ_=>[pk (fB g c (oo D i r))]) (λ_=> .tuple #[.agg #[i6 (aV D i),.bool (b7 D)],i6 0]):=aa.pkZ Tryz.func204 λL p=>by
 obtain⟨gm,e,q,rfl⟩:=p;refine⟨[0,1,2,3],λE=>[ob g #[iN c.R,iN c.S,iN c.B,iN c.M,iN c.C,iN c.E,.map (some gm),e,(E.val 0)] 162,eE ((oo D i r).cells) gm,cG e ((ek D).W),cG (E.val 0) ((ek D).H)],?_,rfl,λE=>⟨rfl,rfl,⟨_,_,_,rfl⟩⟩⟩;have f:=d.ly.O;have h:=k;refine fG Tryz.func204 λw cs=>ra (λa=>[(5,pt (B0 a) 0),(6,pt (B1 a) 0),(7,i6 0)]) (λa=>[ob (B0 a) (rB 72 r).toArray 217,ob (B1 a) #[i6 0,.bool false] 88]) λa=>rr (λ_=>[(3,.m (ls 0 ([iN c.R,iN c.S,iN c.B,iN c.M,iN c.C]))),(5,.c [] [] (vC c f i h)),(9,.m (al 6)),(10,.s 6)]) (λ_=>[(9,i6 0)]) [] (λn L=>L++[ob ((n 9).y 0) #[i6 (i/1048576),i6 (i/65536%16),i6 (i/64%1024),i6 (i%64)] 46]) λn=>rF [] 21 (rr (λ_=>[(2,.c [0,1,2,3] [0,1,2,3] (EZ g c d D o i gm e q)),(4,.s 7)]) (λb=>[(10,pt (B3 b) 0)]) [] (λb L=>(((L.set 0 (ob g #[iN c.R,iN c.S,iN c.B,iN c.M,iN c.C,iN c.E,.map (some gm),e,((b 2).val 0)] 162)).set 1 (eE ((ek D).cells) gm)).set 2 (cG e ((ek D).W))).set 3 (cG ((b 2).val 0) ((ek D).H))++[ob (B3 b) #[i6 (aV D i),.bool (b7 D)] 88]) λb=>r0 [(1,.l 7)] [(29,.bool (!(b7 D)))] [] ?_);refine cB (!(b7 D)) (λj=>?_) λj=>?_
 ·exact rr (λ_=>[(3,.l 0),(5,.l 7),(6,.l 4),(7,.m (mu 1 gm (aV D i) qg k5 ((ek D).cells) r))]) N0 [] (λ_ L=>L.set 1 (eE (dC ((ek D).cells) (aV D i) r) gm)) λu=>rr (λ_=>[(0,.l 7),(1,.s 5)]) (λ_=>[(7,i6 0)]) [7] (λ_ L=>L.set 5 (ob (B1 a) #[i6 (aV D i),.bool (b7 D)] 88)) λv=>lf (.l [] [] [((b 2).val 0)]) [0,1,2,3] [] [5] (hf:=by unfold oo;(repeat (first | rw[j] | rw[ALct]));kernel_rfl)
 exact rr (λ_=>[(0,.l 7),(1,.s 5)]) (λ_=>[(7,i6 0)]) [7] (λ_ L=>L.set 5 (ob (B1 a) #[i6 (aV D i),.bool (b7 D)] 88)) λx=>lf (.l [] [] [((b 2).val 0)]) [0,1,2,3] [] [5] (hf:=by unfold oo;(repeat (first | rw[j] | rw[ALcf]));kernel_rfl)
theorem RU(g:Nat)(c:Cf)(b:cr c)(D:Dr)(h:gN c D)(i:Int)(f:fZ c.R c.S c.B c.M c.C i=true):aa WJ 148 #[pt g 0,i6 i] [pk (fB g c D)] [0] (λ_=>[pk (fB g c (ek D))]) (λ_=> .tuple #[.agg (rB 72 (b9 c D i)).toArray,.agg #[i6 (aV D i),.bool (b7 D)],i6 0]):=aa.pkZ Tryz.func148 λL r=>by
 obtain⟨gm,e,u,rfl⟩:=r;refine⟨[0,1,2,3],λE=>[ob g #[iN c.R,iN c.S,iN c.B,iN c.M,iN c.C,iN c.E,.map (some gm),e,(E.val 0)] 162,eE ((ek D).cells) gm,cG e ((ek D).W),cG (E.val 0) ((ek D).H)],?_,rfl,λE=>⟨rfl,rfl,⟨_,_,_,rfl⟩⟩⟩;have k:=b.ly.O;have n:=f;have p:=RQ b h f;have t:=zr (sy h) (aV D i);refine fG Tryz.func148 λw cs=>ra (λd=>[(4,pt (B0 d) 0),(5,pt (B1 d) 0),(6,i6 0)]) (λd=>[ob (B0 d) (rB 72 (WK 72 0)).toArray 217,ob (B1 d) #[i6 0,.bool false] 88]) λd=>rr (λ_=>[(3,.m (ls 0 ([iN c.R,iN c.S,iN c.B,iN c.M,iN c.C]))),(5,.c [] [] (vC c k i n)),(9,.m (al 6)),(10,.s 6)]) (λ_=>[(8,i6 0)]) [] (λq L=>L++[ob ((q 9).y 0) #[i6 (i/1048576),i6 (i/65536%16),i6 (i/64%1024),i6 (i%64)] 46]) λq=>rF [] 22 (rr (λ_=>[(2,.c [0,1,2,3] [0,1,2,3] (EZ g c b D h i gm e u)),(4,.s 7)]) (λa=>[(9,pt (B3 a) 0)]) [] (λa L=>(((L.set 0 (ob g #[iN c.R,iN c.S,iN c.B,iN c.M,iN c.C,iN c.E,.map (some gm),e,((a 2).val 0)] 162)).set 1 (eE ((ek D).cells) gm)).set 2 (cG e ((ek D).W))).set 3 (cG ((a 2).val 0) ((ek D).H))++[ob (B3 a) #[i6 (aV D i),.bool (b7 D)] 88]) λa=>r0 [(1,.l 7)] [(30,.bool (b7 D))] [] ?_);refine cB (b7 D) (λo=>?_) λo=>?_
 ·exact rr (λ_=>[(1,.l 7),(2,.s 4),(3,.s 5)]) (λ_=>[(6,i6 0)]) [6] (λ_ L=>L.set 5 (ob (B1 d) #[i6 (aV D i),.bool (b7 D)] 88)) λv=>ao (.tuple #[.agg (rB 72 (WK 72 0)).toArray,.agg #[i6 (aV D i),.bool (b7 D)],i6 0]) (.l [] [] [((a 2).val 0)]) (by unfold b9;(repeat (first | rw[o] | rw[ALct]))) [0,1,2,3] [] [4,5]
 exact rr (λ_=>[(2,.l 7),(3,.c [0,1,2,3] [1,2,3] (RS g c b (ek D) (sy h) (aV D i) p gm e ((a 2).val 0))),(8,.s 8)]) (λj=>[(10,pt (B7 j) 0),(11,i6 0)]) [] (λj L=>L.set 3 (cG ((a 2).val 0) ((ek D).H))++[ob (B7 j) (rB 72 (qh c (ek D) (aV D i))).toArray 217]) λj=>rr (λ_=>[(0,.l 8),(1,.l 7),(3,.s 4),(4,.s 5)]) (λ_=>[(6,i6 0)]) [6] (λ_ L=>(L.set 4 (ob (B0 d) (rB 72 (qh c (ek D) (aV D i))).toArray 217)).set 5 (ob (B1 d) #[i6 (aV D i),.bool (b7 D)] 88)) λx=>ao (.tuple #[.agg (rB 72 (qh c (ek D) (aV D i))).toArray,.agg #[i6 (aV D i),.bool (b7 D)],i6 0]) (.l [] [] [((a 2).val 0)]) (by unfold b9;(repeat (first | rw[o] | rw[ALcf]))) [0,1,2,3] [] [4,5]
theorem RW(g:Nat)(c:Cf)(k:cr c)(D:Dr)(u:gN c D)(f:Fa):aa WJ 129 #[pt g 0,.agg #[i6 f.x0,i6 f.x1,i6 f.x2,i6 f.x3,i6 f.x4,i6 f.x5,i6 f.x6,i6 f.x7]] [pk (fB g c D)] [0] (λ_=>[pk (fB g c (kE c D f))]) (λ_=>i6 (hP c D f)):=aa.pkZ Tryz.func129 λL x=>by
 obtain⟨gm,n,o,rfl⟩:=x;refine⟨[0,1,2,3],λE=>[ob g #[iN c.R,iN c.S,iN c.B,iN c.M,iN c.C,iN c.E,.map (some gm),(E.val 0),(E.val 1)] 162,eE ((kE c D f).cells) gm,cG (E.val 0) ((kE c D f).W),cG (E.val 1) ((kE c D f).H)],?_,rfl,λE=>⟨rfl,rfl,⟨_,_,_,rfl⟩⟩⟩;have q:=k.ly.O;have t:=u.cl (dn f.x1 f.x2 f.x3 f.x4);have v:=k.ly.O;refine fG Tryz.func129 λw cs=>ra (λp=>[(3,pt (B0 p) 0),(4,i6 0)]) (λp=>[ob (B0 p) #[i6 f.x0,i6 f.x1,i6 f.x2,i6 f.x3,i6 f.x4,i6 f.x5,i6 f.x6,i6 f.x7] 48]) λp=>r0 [(0,.m (ls 4 ([i6 f.x0,i6 f.x1,i6 f.x2,i6 f.x3,i6 f.x4,i6 f.x5,i6 f.x6,i6 f.x7]))),(4,.m (ls 0 ([iN c.R,iN c.S,iN c.B,iN c.M,iN c.C]))),(8,.m (ld 0 (iN c.E))),(9,.c [] [] (EI f c.R c.S c.B c.M c.C c.E v k.E)),] [(19,.bool (!(mT f c.R c.S c.B c.M c.C c.E)))] [] ?_;refine cB (!(mT f c.R c.S c.B c.M c.C c.E)) (λe=>?_) λe=>?_
 ·exact r0 [] [(4,i6 10)] [4] (ao (i6 10) (.l [] [] [n,o]) (by unfold hP ff;(repeat (first | rw[e] | rw[ALct]))) [0,1,2,3] [] [] (hf:=by unfold kE ff;(repeat (first | rw[e] | rw[ALct]));kernel_rfl))
 have i:lZ c f:=⟨by simpa using e⟩;have r:=i.all.1;refine r0 [(1,.l 4)] [(31,.bool (f.x0==1))] [] ?_;refine cN f.x0 1 (λj s=>?_) λj s=>?_
 ·exact r0 [(3,.m (ls 0 ([iN c.R,iN c.S,iN c.B,iN c.M,iN c.C]))),(5,.m (ls 4 ([i6 f.x1,i6 f.x2,i6 f.x3,i6 f.x4]))),(6,.c [] [] (EV c q f.x1 f.x2 f.x3 f.x4 r)),] [(5,i6 (dn f.x1 f.x2 f.x3 f.x4)),(6,i6 0)] [] (rs [(3,.m (ld 0 (.map (some gm)))),(8,.m (ld 0 (.map (some gm)))),(10,.m (mg 1 (eE D.cells gm) gm (dn f.x1 f.x2 f.x3 f.x4) (λ_ h=>h))),(12,.m (ld 4 (i6 f.x6))),(13,.c [] [] (EJ (D.cells (dn f.x1 f.x2 f.x3 f.x4)) (by(simp only[LL,t];done)) f.x6 i.all.2.1.1 i.all.2.1.2)),(14,.m (mu 1 gm (dn f.x1 f.x2 f.x3 f.x4) qg k5 D.cells ((D.cells (dn f.x1 f.x2 f.x3 f.x4)).set (f.x6.toNat/8) (((D.cells (dn f.x1 f.x2 f.x3 f.x4)).getD (f.x6.toNat/8) 0)^^^(UInt8.ofNat (1*2^(f.x6.toNat%8)))))))] 1 (eE (dC D.cells (dn f.x1 f.x2 f.x3 f.x4) ((D.cells (dn f.x1 f.x2 f.x3 f.x4)).set (f.x6.toNat/8) (((D.cells (dn f.x1 f.x2 f.x3 f.x4)).getD (f.x6.toNat/8) 0)^^^(UInt8.ofNat (1*2^(f.x6.toNat%8)))))) gm) (r0 [] [(4,i6 0)] [4] (ao (i6 0) (.l [] [] [n,o]) (by unfold hP ff;(repeat (first | rw[e] | rw[j] | rw[ALct] | rw[ALcf]))) [0,1,2,3] [] [] (hf:=by unfold kE ff;(repeat (first | rw[e] | rw[j] | rw[ALct] | rw[ALcf]));kernel_rfl))))
 refine r0 [(0,.l 4),(1,.c [] [] (EG f))] [(60,.bool (iQ f))] [] ?_;refine cB (iQ f) (λd=>?_) λd=>?_
 ·exact rr (λa=>[(4,.m (ld 0 (n))),(5,.m (ls 4 ([i6 f.x0,i6 f.x1,i6 f.x2,i6 f.x3,i6 f.x4,i6 f.x5,i6 f.x6,i6 f.x7]))),(6,.c [2] [2] (EX n D.W f)),(12,.m (fj 0 2 (cG ((a 6).val 0) (g9 D.W f)) ((a 6).val 0) λbs h=>aq.one ((λ_ h=>h) bs h)))]) (λ_=>[(4,i6 (kf D.W))]) [4] (λa L=>(L.set 0 (ob g #[iN c.R,iN c.S,iN c.B,iN c.M,iN c.C,iN c.E,.map (some gm),((a 6).val 0),o] 162)).set 2 (cG ((a 6).val 0) (g9 D.W f))) λa=>r0 [] [(4,i6 (kf D.W))] [4] (ao (i6 (kf D.W)) (.l [] [] [((a 6).val 0),o]) (by unfold hP ff;(repeat (first | rw[e] | rw[j] | rw[d] | rw[ALct] | rw[ALcf]))) [0,1,2,3] [] [] (hf:=by unfold kE ff;(repeat (first | rw[e] | rw[j] | rw[d] | rw[ALct] | rw[ALcf]));kernel_rfl))
 exact rr (λb=>[(4,.m (ld 0 (o))),(5,.m (ls 4 ([i6 f.x0,i6 f.x1,i6 f.x2,i6 f.x3,i6 f.x4,i6 f.x5,i6 f.x6,i6 f.x7]))),(6,.c [3] [3] (EX o D.H f)),(12,.m (fj 0 3 (cG ((b 6).val 0) (g9 D.H f)) ((b 6).val 0) λbs h=>aq.one ((λ_ h=>h) bs h)))]) (λ_=>[(4,i6 (kf D.H))]) [4] (λb L=>(L.set 0 (ob g #[iN c.R,iN c.S,iN c.B,iN c.M,iN c.C,iN c.E,.map (some gm),n,((b 6).val 0)] 162)).set 3 (cG ((b 6).val 0) (g9 D.H f))) λb=>r0 [] [(4,i6 (kf D.H))] [4] (ao (i6 (kf D.H)) (.l [] [] [n,((b 6).val 0)]) (by unfold hP ff;(repeat (first | rw[e] | rw[j] | rw[d] | rw[ALcf]))) [0,1,2,3] [] [] (hf:=by unfold kE ff;(repeat (first | rw[e] | rw[j] | rw[d] | rw[ALcf]));kernel_rfl))
end
section
theorem E4{α β:Type}{en:α→List Value}{z:List Value}{T:TypeId}{b:β→List Value}{e:List Value}{c:TypeId}{S:aj→Prop}{L:aj}{ds:List ay}(d:S (L++[.p (aq en z T (.slice none 0 0) ([]:List α)),.p (aq b e c (.slice none 0 0) ([]:List β))]))(h:bt L ds): ∃a,bt [pk S] a∧a.flatten=ds.flatten:=
 ⟨[ds.flatten],⟨⟨_,ds++[[],[]],d,ko h ⟨aq.nil none,aq.nil none,trivial⟩,by simp⟩,trivial⟩,by simp⟩
theorem RX(c:Cf)(a:cr c):aa WJ 112 #[.agg #[iN c.R,iN c.S,iN c.B,iN c.M,iN c.C],iN c.E] [] [] (λE=>[pk (fB (E.y 0) c sx)]) (λE=> .tuple #[pt (E.y 0) 0,i6 0]):=(RN c a).outs λE d b=>E4 ⟨_,_,_,rfl⟩ b
structure Ac where
 wr:Bool
 ix:Int
 wt:Int
 dr:Bool
 ex:Int
 mr:Bool
def e3:Ac:=⟨false,0,0,false,0,false⟩
def zs(x:Ac):List Value:=[.bool x.wr,i6 x.ix,i6 x.wt,.bool x.dr,i6 x.ex,.bool x.mr]
def sC:Kd WJ Ac:=⟨zs,[.bool false,i6 0,i6 0,.bool false,i6 0,.bool false],142,90,e3,6,λ_=>rfl,rfl,λ_=>rfl,dX.mk' Kr Kr rfl⟩
abbrev k6(v:Value)(xs:List Ac):aA:= .p (aq zs ([.bool false,i6 0,i6 0,.bool false,i6 0,.bool false]) 90 v xs)
def zt(x:Int):Value:= .int .i64 x
abbrev k7(f:Int→Int)(g:Nat):aA:= .p (lO zt 0 f g)
structure Dv where
 D:Dr
 Y:Int→List UInt8
 Z:Int→Int
 l:List Ac
abbrev bk(g a:Nat)(c:Cf)(V:Dv)(L:aj):Prop:=∃(gm gk:Nat) (v:Value),L=[ob g #[pt a 0,.map (some gm),.map (some gk),v] 144,pk (fB a c V.D),eE V.Y gm,k7 V.Z gk,k6 v V.l]
structure nE (c:Cf) (V:Dv):Prop where
 D:gN c V.D
 gl: ∀k,(V.Y k).length=72
 ll:V.l.length≤900000
def sD:Dv:=⟨sx,λ_=>k5,λ_=>0,[]⟩
def iz(V:Dv)(i:Int)(r:List UInt8)(mk:Int):Dv:=⟨oo V.D i r,dC V.Y i r,dC V.Z i mk,V.l++[⟨true,i,aV V.D i,b7 V.D,0,false⟩]⟩
def zu(c:Cf)(V:Dv)(i:Int):Ac:=⟨false,i,aV V.D i,b7 V.D,((kz (c.E:Int) (b9 c V.D i) (V.Y (aV V.D i)):Nat):Int),bif !(b7 V.D) then V.Z (aV V.D i)==1 else false⟩
def qi(c:Cf)(V:Dv)(i:Int):Dv:=⟨ek V.D,V.Y,V.Z,V.l++[zu c V i]⟩
def mU(c:Cf)(V:Dv)(f:Fa):Dv:={V with D:=kE c V.D f}
attribute [local irreducible] kz b9 aV b7 fZ
theorem RY(g b c a:Nat)(v:Value)(f:Int→Int)(i:Int):aa WJ 150 #[pt g 0,i6 i] [ob g #[pt b 0,.map (some c),.map (some a),v] 144,k7 f a] [1] (λ_=>[k7 f a]) (λ_=> .bool ((f i)==1)):=by
 exact fG Tryz.func150 λw cs=>r0 [] [(4,.bool false)] [] (r0 [(3,.l 0),(5,.m (mg 1 (k7 f a) a i (λ_ h=>h)))] [(4,.bool ((f i)==1))] [4] (lf ab.zero [1] [(0,0)] []))
theorem zw(g a:Nat)(c:Cf)(V:Dv):aa WJ 36 #[pt g 0] [pk (bk g a c V)] [0] (λ_=>[pk (bk g a c V)]) (λ_=>pt a 0):=aa.pkZ Tryz.func36 λL d=>by
 obtain⟨gm,b,v,rfl⟩:=d;refine⟨[1,2,3,4],λ_=>[pk (fB a c V.D),eE V.Y gm,k7 V.Z b,k6 v V.l],?_,rfl,λE=>⟨rfl,rfl,⟨_,_,_,rfl⟩⟩⟩;exact fG Tryz.func36 λw cs=>r0 [] [(2,.pointer none)] [] (r0 [(3,.l 0)] [(2,pt a 0)] [2] (lf ab.zero [1,2,3,4] [(0,0)] []))
theorem RZ(g a:Nat)(c:Cf)(V:Dv):aa WJ 42 #[pt g 0] [pk (bk g a c V)] [0] (λ_=>[pk (bk g a c V)]) (λ_=>iN V.l.length):=aa.pkZ Tryz.func42 λL d=>by
 obtain⟨gm,b,v,rfl⟩:=d;refine⟨[1,2,3,4],λ_=>[pk (fB a c V.D),eE V.Y gm,k7 V.Z b,k6 v V.l],?_,rfl,λE=>⟨rfl,rfl,⟨_,_,_,rfl⟩⟩⟩;exact fG Tryz.func42 λw cs=>r0 [] [(2,i6 0)] [] (r0 [(3,.l 0),(4,e8 sC v V.l 4)] [(2,iN V.l.length)] [2] (lf ab.zero [1,2,3,4] [(0,0)] []))
theorem R3(g a:Nat)(c:Cf)(d:cr c)(V:Dv)(i:nE c V)(f:Fa):aa WJ 90 #[pt g 0,.agg #[i6 f.x0,i6 f.x1,i6 f.x2,i6 f.x3,i6 f.x4,i6 f.x5,i6 f.x6,i6 f.x7]] [pk (bk g a c V)] [0] (λ_=>[pk (bk g a c (mU c V f))]) (λ_=>i6 (hP c V.D f)):=aa.pkZ Tryz.func90 λL h=>by
 obtain⟨gm,e,v,rfl⟩:=h;refine⟨[1,2,3,4],λ_=>[pk (fB a c (kE c V.D f)),eE V.Y gm,k7 V.Z e,k6 v V.l],?_,rfl,λE=>⟨rfl,rfl,⟨_,_,_,rfl⟩⟩⟩;exact fG Tryz.func90 λw cs=>ra (λb=>[(3,pt (B0 b) 0),(4,i6 0)]) (λb=>[ob (B0 b) #[i6 f.x0,i6 f.x1,i6 f.x2,i6 f.x3,i6 f.x4,i6 f.x5,i6 f.x6,i6 f.x7] 48]) λb=>rr (λ_=>[(3,.l 0),(4,.l 5),(5,.c [1] [1] (RW a c d V.D i.D f))]) (λ_=>[(4,i6 (hP c V.D f))]) [4] (λ_ L=>L.set 1 ((pk (fB a c (kE c V.D f))))) λj=>lf ab.zero [1,2,3,4] [(0,0)] []
theorem E5(g a:Nat)(c:Cf)(j:cr c)(V:Dv)(n:nE c V)(i:Int)(k:fZ c.R c.S c.B c.M c.C i=true)(r:List UInt8)(o:r.length=72)(mk:Int):aa WJ 162 #[pt g 0,i6 i,.agg (rB 72 r).toArray,i6 mk] [pk (bk g a c V)] [0] (λ_=>[pk (bk g a c (iz V i r mk))]) (λ_=>i6 0):=aa.pkZ Tryz.func162 λL p=>by
 obtain⟨gm,d,v,rfl⟩:=p;refine⟨[0,1,2,3,4],λE=>[ob g #[pt a 0,.map (some gm),.map (some d),(E.val 0)] 144,pk (fB a c (oo V.D i r)),eE (dC V.Y i r) gm,k7 (dC V.Z i mk) d,k6 (E.val 0) (V.l++([(⟨true,i,(aV V.D i),b7 V.D,0,false⟩:Ac)]))],?_,rfl,λE=>⟨rfl,rfl,⟨_,_,_,rfl⟩⟩⟩;have q:=n.ll;exact fG Tryz.func162 λw cs=>ra (λe=>[(6,pt (B0 e) 0),(8,i6 0)]) (λe=>[ob (B0 e) (rB 72 r).toArray 217]) λe=>rr (λ_=>[(0,.v (pt g 0)),(1,.v (pt g 0)),(2,.v (pt g 0)),(3,.m (ld 0 (pt a 0))),(4,.v (i6 i)),(5,.m (ls 5 (rB 72 r))),(6,.c [1] [1] (RT a c j V.D n.D i k r (by(simp only[LL,o,o];done)))),(7,.v (.tuple #[.agg #[i6 (aV V.D i),.bool (b7 V.D)],i6 0])),(8,.v (.agg #[i6 (aV V.D i),.bool (b7 V.D)])),(9,.v (i6 0)),(10,.m (al 6)),(11,.s 6),(12,.v (i6 0))]) (λf=>[(9,pt ((f 10).y 0) 0),(10,i6 0)]) [] (λf L=>L.set 1 ((pk (fB a c (oo V.D i r))))++[ob ((f 10).y 0) #[i6 (aV V.D i),.bool (b7 V.D)] 88]) λf=>rF [] 22 (rs [(3,.l 0),(5,.l 5),(6,.m (mu 2 gm i qg k5 V.Y r))] 2 (eE (dC V.Y i r) gm) (rs [(3,.l 0),(6,.m (mu 3 d i zt 0 V.Z mk))] 3 (k7 (dC V.Z i mk) d) (rr (λb=>[(0,.v (pt g 0)),(1,.v (pt g 0)),(2,.v (pt g 0)),(3,.v (pt g 3)),(4,.m (ld 0 (v))),(5,.v (i6 i)),(6,.m (ls 6 ([i6 (aV V.D i),.bool (b7 V.D)]))),(7,.v (.agg #[.bool true,i6 i,i6 (aV V.D i),.bool (b7 V.D),i6 0,.bool false])),(8,.m (bs 7 1)),(9,eT sC (v) V.l 4 7 ([(⟨true,i,(aV V.D i),b7 V.D,0,false⟩:Ac)])),(10,.v (pt g 0)),(11,.v (pt g 3)),(12,.m (fj 0 4 (k6 ((b 9).val 0) (V.l++([(⟨true,i,(aV V.D i),b7 V.D,0,false⟩:Ac)]))) ((b 9).val 0) λbs h=>aq.one ((λ_ h=>h) bs h)))]) N0 [] (λb L=>(L.set 0 (ob g #[pt a 0,.map (some gm),.map (some d),(b 9).val 0] 144)).set 4 (k6 ((b 9).val 0) (V.l++([(⟨true,i,(aV V.D i),b7 V.D,0,false⟩:Ac)])))++[ob ((b 8).y 0) #[.bool true,i6 i,i6 (aV V.D i),.bool (b7 V.D),i6 0,.bool false] 90]) λb=>r0 [] [(8,i6 0)] [8] (lf (.l [] [] [(b 9).val 0]) [0,1,2,3,4] [] []))))
theorem R4(g a:Nat)(c:Cf)(d:cr c)(V:Dv)(h:nE c V)(i:Int)(e:fZ c.R c.S c.B c.M c.C i=true)(r:List UInt8)(f:r.length=72):aa WJ 127 #[pt g 0,i6 i,.agg (rB 72 r).toArray] [pk (bk g a c V)] [0] (λ_=>[pk (bk g a c (iz V i r 0))]) (λ_=>i6 0):=by
 exact fG Tryz.func127 λw cs=>ra (λb=>[(5,pt (B0 b) 0),(6,i6 0)]) (λb=>[ob (B0 b) (rB 72 r).toArray 217]) λb=>rr (λ_=>[(2,.l 1),(3,.c [0] [0] (E5 g a c d V h i e r (by(simp only[LL,f,f];done)) 0))]) (λ_=>[(6,i6 0)]) [6] (λ_ L=>L.set 0 ((pk (bk g a c (iz V i r 0))))) λj=>lf ab.zero [0] [] []
theorem R5(g a:Nat)(c:Cf)(d:cr c)(V:Dv)(h:nE c V)(i:Int)(e:fZ c.R c.S c.B c.M c.C i=true)(r:List UInt8)(f:r.length=72):aa WJ 126 #[pt g 0,i6 i,.agg (rB 72 r).toArray] [pk (bk g a c V)] [0] (λ_=>[pk (bk g a c (iz V i r 1))]) (λ_=>i6 0):=by
 exact fG Tryz.func126 λw cs=>ra (λb=>[(5,pt (B0 b) 0),(6,i6 0)]) (λb=>[ob (B0 b) (rB 72 r).toArray 217]) λb=>rr (λ_=>[(2,.l 1),(3,.c [0] [0] (E5 g a c d V h i e r (by(simp only[LL,f,f];done)) 1))]) (λ_=>[(6,i6 0)]) [6] (λ_ L=>L.set 0 ((pk (bk g a c (iz V i r 1))))) λj=>lf ab.zero [0] [] []
theorem R6(g a:Nat)(c:Cf)(p:cr c)(V:Dv)(q:nE c V)(i:Int)(r:fZ c.R c.S c.B c.M c.C i=true):aa WJ 123 #[pt g 0,i6 i] [pk (bk g a c V)] [0] (λ_=>[pk (bk g a c (qi c V i))]) (λ_=> .tuple #[.agg (rB 72 (b9 c V.D i)).toArray,i6 0]):=aa.pkZ Tryz.func123 λL u=>by
 obtain⟨gm,o,v,rfl⟩:=u;refine⟨[0,1,2,3,4],λE=>[ob g #[pt a 0,.map (some gm),.map (some o),(E.val 0)] 144,pk (fB a c (ek V.D)),eE V.Y gm,k7 V.Z o,k6 (E.val 0) ((qi c V i).l)],?_,rfl,λE=>⟨rfl,rfl,⟨_,_,_,rfl⟩⟩⟩;have x:=q.ll;have f:=nD q.D i;have e:=q.gl (aV V.D i);have y:=p.E;refine fG Tryz.func123 λw cs=>ra (λn=>[(4,pt (B0 n) 0),(5,i6 0)]) (λn=>[ob (B0 n) (rB 72 (WK 72 0)).toArray 217]) λn=>rr (λ_=>[(0,.v (pt g 0)),(1,.v (pt g 0)),(2,.v (pt g 0)),(3,.m (ld 0 (pt a 0))),(4,.v (i6 i)),(5,.c [1] [1] (RU a c p V.D q.D i r)),(6,.v (.tuple #[.agg (rB 72 (b9 c V.D i)).toArray,.agg #[i6 (aV V.D i),.bool (b7 V.D)],i6 0])),(7,.v (.agg (rB 72 (b9 c V.D i)).toArray)),(8,.v (.agg #[i6 (aV V.D i),.bool (b7 V.D)])),(9,.v (i6 0)),(10,.m (al 6)),(11,.m (al 7)),(12,.s 6),(13,.s 7),(14,.v (i6 0))]) (λb=>[(6,pt ((b 10).y 0) 0),(7,pt ((b 11).y 0) 0),(8,i6 0)]) [] (λb L=>L.set 1 ((pk (fB a c (ek V.D))))++[ob ((b 10).y 0) (rB 72 (b9 c V.D i)).toArray 217,ob ((b 11).y 0) #[i6 (aV V.D i),.bool (b7 V.D)] 88]) λb=>rF [] 20 ?_;cases t:(b7 V.D)
 case true=>
  exact rr (λj=>[(0,.v (pt g 0)),(1,.v (pt g 0)),(2,.v (pt g 0)),(3,.v (pt g 3)),(4,.m (ld 0 (v))),(5,.v (i6 i)),(6,.m (ls 7 ([i6 (aV V.D i),.bool true]))),(7,.v (pt g 0)),(8,.v (pt g 0)),(9,.v (pt g 0)),(10,.m (ld 0 (pt a 0))),(11,.c [1] [1] (y9 a c (ek V.D))),(12,.m (ls 6 (rB 72 (b9 c V.D i)))),(13,.v (pt g 0)),(14,.v (pt g 0)),(15,.v (pt g 1)),(16,.m (ld 0 (.map (some gm)))),(17,.v (pt ((b 11).y 0) 0)),(18,.m (ld 7 (i6 (aV V.D i)))),(19,.m (mg 2 (eE V.Y gm) gm (aV V.D i) (λ_ h=>h))),(20,.c [] [] (ET c.E Om (b9 c V.D i) (V.Y (aV V.D i)) (by(simp only[LL,f,e];done)) (by(simp only[LL,f,e];done)))),(21,.v (pt ((b 11).y 0) 1)),(22,.m (ld 7 (.bool true))),(23,.v (.bool false)),(24,.v (.bool false)),(25,.d),(26,.d),(27,.d),(28,.d),(30,.v (.agg #[.bool false,i6 i,i6 (aV V.D i),.bool true,iN (kz (c.E:Int) (b9 c V.D i) (V.Y (aV V.D i))),.bool false])),(31,.m (bs 8 1)),(32,eT sC (v) V.l 4 8 ([(⟨false,i,(aV V.D i),true,((kz (c.E:Int) (b9 c V.D i) (V.Y (aV V.D i)):Nat):Int),false⟩:Ac)])),(33,.v (pt g 0)),(34,.v (pt g 3)),(35,.m (fj 0 4 (k6 ((j 32).val 0) (V.l++([(⟨false,i,(aV V.D i),true,((kz (c.E:Int) (b9 c V.D i) (V.Y (aV V.D i)):Nat):Int),false⟩:Ac)]))) ((j 32).val 0) λbs h=>aq.one ((λ_ h=>h) bs h)))]) N0 [] (λj L=>(L.set 0 (ob g #[pt a 0,.map (some gm),.map (some o),(j 32).val 0] 144)).set 4 (k6 ((j 32).val 0) (V.l++([(⟨false,i,(aV V.D i),true,((kz (c.E:Int) (b9 c V.D i) (V.Y (aV V.D i)):Nat):Int),false⟩:Ac)])))++[ob ((j 31).y 0) #[.bool false,i6 i,i6 (aV V.D i),.bool true,iN (kz (c.E:Int) (b9 c V.D i) (V.Y (aV V.D i))),.bool false] 90]) λj=>rr (λ_=>[(0,.l 6),(1,.s 5)]) (λ_=>[(5,i6 0)]) [5] (λ_ L=>L.set 5 (ob (B0 n) (rB 72 (b9 c V.D i)).toArray 217)) λz=>lf (.l [] [] [(j 32).val 0]) [0,1,2,3,4] [] [5] (hf:=by unfold qi zu;(repeat (rw[t]));kernel_rfl)
 exact rr (λk=>[(0,.v (pt g 0)),(1,.v (pt g 0)),(2,.v (pt g 0)),(3,.v (pt g 3)),(4,.m (ld 0 (v))),(5,.v (i6 i)),(6,.m (ls 7 ([i6 (aV V.D i),.bool false]))),(7,.v (pt g 0)),(8,.v (pt g 0)),(9,.v (pt g 0)),(10,.m (ld 0 (pt a 0))),(11,.c [1] [1] (y9 a c (ek V.D))),(12,.m (ls 6 (rB 72 (b9 c V.D i)))),(13,.v (pt g 0)),(14,.v (pt g 0)),(15,.v (pt g 1)),(16,.m (ld 0 (.map (some gm)))),(17,.v (pt ((b 11).y 0) 0)),(18,.m (ld 7 (i6 (aV V.D i)))),(19,.m (mg 2 (eE V.Y gm) gm (aV V.D i) (λ_ h=>h))),(20,.c [] [] (ET c.E Om (b9 c V.D i) (V.Y (aV V.D i)) (by(simp only[LL,f,e];done)) (by(simp only[LL,f,e];done)))),(21,.v (pt ((b 11).y 0) 1)),(22,.m (ld 7 (.bool false))),(23,.v (.bool true)),(24,.v (.bool true)),(25,.v (pt g 0)),(26,.v (pt ((b 11).y 0) 0)),(27,.m (ld 7 (i6 (aV V.D i)))),(28,.c [0,3] [3] (RY g a gm o v V.Z (aV V.D i))),(30,.v (.agg #[.bool false,i6 i,i6 (aV V.D i),.bool false,iN (kz (c.E:Int) (b9 c V.D i) (V.Y (aV V.D i))),.bool ((V.Z (aV V.D i))==1)])),(31,.m (bs 8 1)),(32,eT sC (v) V.l 4 8 ([(⟨false,i,(aV V.D i),false,((kz (c.E:Int) (b9 c V.D i) (V.Y (aV V.D i)):Nat):Int),(V.Z (aV V.D i))==1⟩:Ac)])),(33,.v (pt g 0)),(34,.v (pt g 3)),(35,.m (fj 0 4 (k6 ((k 32).val 0) (V.l++([(⟨false,i,(aV V.D i),false,((kz (c.E:Int) (b9 c V.D i) (V.Y (aV V.D i)):Nat):Int),(V.Z (aV V.D i))==1⟩:Ac)]))) ((k 32).val 0) λbs h=>aq.one ((λ_ h=>h) bs h)))]) N0 [] (λk L=>(L.set 0 (ob g #[pt a 0,.map (some gm),.map (some o),(k 32).val 0] 144)).set 4 (k6 ((k 32).val 0) (V.l++([(⟨false,i,(aV V.D i),false,((kz (c.E:Int) (b9 c V.D i) (V.Y (aV V.D i)):Nat):Int),(V.Z (aV V.D i))==1⟩:Ac)])))++[ob ((k 31).y 0) #[.bool false,i6 i,i6 (aV V.D i),.bool false,iN (kz (c.E:Int) (b9 c V.D i) (V.Y (aV V.D i))),.bool ((V.Z (aV V.D i))==1)] 90]) λk=>rr (λ_=>[(0,.l 6),(1,.s 5)]) (λ_=>[(5,i6 0)]) [5] (λ_ L=>L.set 5 (ob (B0 n) (rB 72 (b9 c V.D i)).toArray 217)) λA=>lf (.l [] [] [(k 32).val 0]) [0,1,2,3,4] [] [5] (hf:=by unfold qi zu;(repeat (rw[t]));kernel_rfl)
end
theorem R7(c:Cf)(e:cr c):aa WJ 81 #[.agg #[iN c.R,iN c.S,iN c.B,iN c.M,iN c.C],iN c.E] [] [] (λE=>[ob (E.y 0) #[pt ((E.y 1)) 0,.map (some (E.y 2)),.map (some (E.y 3)),.slice none 0 0] 144,pk (fB (E.y 1) c sx),eE (λ_=>k5) (E.y 2),k7 (λ_=>0) (E.y 3)]) (λE=> .tuple #[pt ((E.y 0)) 0,i6 0]):=by
 exact fG Tryz.func81 λw cs=>ra (λd=>[(2,pt (B0 d) 0),(4,.pointer none),(5,i6 0)]) (λd=>[ob (B0 d) #[iN c.R,iN c.S,iN c.B,iN c.M,iN c.C] 23]) λd=>rr (λ_=>[(0,.l 0),(2,.c [] [1] (RX c e))]) (λb=>[(6,pt ((B2 b)) 0),(7,i6 0)]) [] (λb L=>L++[pk (fB (B2 b) c sx)]) λb=>rF [] 15 (rr (λ_=>[(1,.m (mm 2 qg k5)),(2,.m (mm 3 zt 0))]) (λa=>[(4,pt (B4 a) 0),(5,i6 0)]) [4,5] (λa L=>L++[eE (λ_=>k5) (B1 a),k7 (λ_=>0) (B2 a),ob (B4 a) #[pt ((B2 b)) 0,.map (some (B1 a)),.map (some (B2 a)),.slice none 0 0] 144]) λa=>lf (.l [(a 4).y 0,(B2 b),(a 1).y 0,(a 2).y 0] [] []) [4,1,2,3] [] [])
theorem R8(n:Nat):max (n:Int) 0=((n+0:Nat):Int):=by omega
theorem R9(c d g h j i n:Nat)(v:Value)(l:List Ac)(bs:ay)(f:aG zs v l bs)(G:l.length≤1000000)(u:n≤1000000):e4 5 WJ 60 #[pt c 0,pt d 0] (λ(x:Nat×Ac)=>#[i6 (x.1:Int),.agg #[.bool (x.2.wr),i6 (x.2.ix),i6 (x.2.wt),.bool (x.2.dr),i6 (x.2.ex),.bool (x.2.mr)]]) ((W6 (l.length-n)).map λk=>(n+k,l.getD (n+k) e3)) (Xz [[(c,.cells #[iN n] 3 (0,0))],[(d,.cells #[pt g 0] 84 (0,0))],[(g,.cells #[pt h 0,.map (some j),.map (some i),v] 144 (0,0))],bs]):=by
 refine gi (KO:=[[(c,.cells #[iN n] 3 (0,0))],[(d,.cells #[pt g 0] 84 (0,0))],[(g,.cells #[pt h 0,.map (some j),.map (some i),v] 144 (0,0))],bs]) Tryz.func60 (λw z y F C m r q=>?_);refine r0 [(0,.l 0),(1,.t (tv (Builtin.max_ #[3,3] 3 #[iN n,i6 0]) (λ_=>qR _ _ _ _)))] [(4,i6 (max (n:Int) 0))] [] ?_;refine jX (λk=>k≤(l.length-n)) (λk=>[(4,iN (n+k))]) (λ_ L=>L) (λk=>(l.length-n)-k) (λk=>k) 0 Om q (by rw[R8];kernel_rfl) Kr (λk A D s b=>?_);refine r0 [(1,.l 1),(4,.l 2),(5,du f.1 3)] [(13,.bool (decide (((n+k:Nat):Int)<(l.length:Int))))] [] ?_;refine bW ((n+k:Nat):Int) (l.length:Int) (λp e=>?_) λp e=>?_
 ·refine iy m r b 9 (λ_=>[(2,.l 1),(5,.l 2),(7,eU f.1 3 (n+k) 6),(8,mx sC f.1 3 (n+k) 0 6)]) (λ_=>[(16,.func (.yield w) #[] #[]),(17,iN (n+k)),(24,.agg #[.bool ((l.getD (n+k) e3).wr),i6 ((l.getD (n+k) e3).ix),i6 ((l.getD (n+k) e3).wt),.bool ((l.getD (n+k) e3).dr),i6 ((l.getD (n+k) e3).ex),.bool ((l.getD (n+k) e3).mr)])]) [] (λ_ L=>L) N0 [0,1,2,3] (nS Om) (λH B o a=>?_);refine cF _ rfl (r0 [(1,ad (n+k) 1)] [(4,iN ((n+k)+1))] [4] ?_);exact iI (k+1) Om a Om Kr [0,1,2,3] Kr
 refine jY ?_;exact kT m b (by(rw[WT,W7];omega)) [] [0,1,2,3]
theorem Sa(g n:Nat):aa WJ 31 #[pt g 0,iN n] [] [] (λE=>[ob (E.y 0) #[iN n] 3,ob (E.y 1) #[pt g 0] 84]) (λE=> .func (.func 60) #[] #[pt ((E.y 0)) 0,pt ((E.y 1)) 0]):=by
 exact fG Tryz.func31 λw cs=>ra (λa=>[(2,pt (B0 a) 0),(3,pt (B1 a) 0),(4,.nilFunc)]) (λa=>[ob (B0 a) #[pt g 0] 84,ob (B1 a) #[iN n] 3]) λa=>r0 [] [(4,.func (.func 60) #[] #[pt (B1 a) 0,pt (B0 a) 0])] [4] (lf (.l [(a 1).y 0,(a 0).y 0] [] []) [1,0] [] [])
def nG(a:Ac):Bool:=a.dr||(a.wt != a.ix)
theorem Sb(x:Ac):aa WJ 32 #[.agg #[.bool x.wr,i6 x.ix,i6 x.wt,.bool x.dr,i6 x.ex,.bool x.mr]] [] [] N0 (λ_=> .bool (nG x)):=by
 exact fG Tryz.func32 λw cs=>ra (λa=>[(1,pt (B0 a) 0),(2,.bool false)]) (λa=>[ob (B0 a) #[.bool x.wr,i6 x.ix,i6 x.wt,.bool x.dr,i6 x.ex,.bool x.mr] 90]) λa=>r0 [(0,.v (pt (B0 a) 2)),(1,.v (pt (B0 a) 3)),(2,.m (ld 0 (.bool x.dr))),(3,.v (.bool x.dr)),(4,.v (pt (B0 a) 2)),(5,.v (pt (B0 a) 2)),(6,.m (ld 0 (i6 x.wt))),(7,.v (pt (B0 a) 1)),(8,.m (ld 0 (i6 x.ix))),(9,.v (.bool (x.wt != x.ix))),(11,.v (.bool (x.dr||(x.wt != x.ix))))] [(2,.bool (x.dr||(x.wt != x.ix)))] [2] (ao (.bool (x.dr||(x.wt != x.ix))) ab.zero bg [] [] [])
theorem Sc(c:Cf)(a:cr c):aa WJ 81 #[.agg #[iN c.R,iN c.S,iN c.B,iN c.M,iN c.C],iN c.E] [] [] (λE=>[pk (bk (E.y 0) (E.y 1) c sD)]) (λE=> .tuple #[pt (E.y 0) 0,i6 0]):=(R7 c a).outs λE d b=>yN (S:=bk (E.y 0) (E.y 1) c sD) ⟨_,_,_,rfl⟩ b
theorem e4.mono{α:Type}{n:Nat}{P:Program}{j:Nat}{k:Array Value}{encs:α→Array Value}{xs:List α}{KO a:ay}(h:e4 n P j k encs xs KO)(hs:KO.Sublist a):e4 n P j k encs xs a:=by
 intro l J m W O c t g u v r;refine h l J m W O ⟨λx d=>c.obj x (hs.subset d),c.nd.sublist hs⟩ t g u (λi x p q d z B=>(v i x p q d z B).mono λe C y=>?_) r;obtain⟨o,f,s⟩:=y;exact⟨o,⟨f.size,f.old,f.new,λb w A=>f.keep b w (A.imp id λ⟨x,d,e⟩=>⟨x,hs.subset d,e⟩)⟩,s⟩
section
section
variable {P:Program} {f:FuncId} {args:Array Value} {rd:aj} {wt:ab→aj} {v:ab→Value}
theorem aa.sub(h:aa P f args rd [] wt v){L:aj}(js:List Nat)(d:(dc js,js.map λj=>L[j]?)=(true,rd.map some)):aa P f args L [] wt v:=by
 have r:=nO (ALca (·.1) d);have d:=ALca (·.2) d;simp only at d;refine⟨h.ent,λw cs p o=>?_⟩;have n:=pz o.nd;have q: ∀(js:List Nat) (rd:aj),js.map (λj=>L[j]?)=rd.map some→bt rd (js.map λj=>cs.getD j []):=by
  intro js
  induction js with
  | nil=>intro rd e;cases rd with
   | nil=>trivial
   | cons x rd=>cases e
  | cons j js ih=>intro rd e;cases rd with
   | nil=>cases e
   | cons x rd=>
    rw[Xy,Xy,List.cons.injEq] at e;exact⟨mj p e.1,ih rd e.2⟩
 have k: ∀j∈js,j<cs.length:=by
  intro j c;have:L[j]?∈js.map λj=>L[j]? :=List.mem_map_of_mem c;rw[d] at this;obtain⟨x,_,e⟩:=List.mem_map.1 this;rw[←iW p];exact(List.getElem?_eq_some_iff.1 e.symm).1
 have:=h.out w (js.map λj=>cs.getD j []) (q js rd d) ⟨λy m=>?_,?_⟩
 ·simpa using this
 ·obtain⟨l,i,m⟩:=List.mem_flatten.1 m;obtain⟨j,c,rfl⟩:=List.mem_map.1 i;exact o.obj y (List.mem_flatten.2 ⟨_,m3 (k j c),m⟩)
 ·refine List.pairwise_flatten.2 ⟨λl i=>?_,?_⟩
  ·obtain⟨j,_,rfl⟩:=List.mem_map.1 i;exact n.1 j
  ·exact List.Pairwise.map _ (λa b g=>n.2 a b g) r
end
abbrev dJ(g:Nat)(L:aj):Prop:=∃(b a f:Nat) (u:Value),L=[ob g #[pt b 0,pt a 0] 242,ob b (rB 74 (bI 10)++rI 256 (bR 10)).toArray 298,ob a #[pt f 0,u] 309,ob f (rB 255 aT++rN 256 aW).toArray 312,bC u c8]
theorem Sd:aa WJ 115 #[] [] [] (λE=>[pk (dJ (E.y 0))]) (λE=>pt (E.y 0) 0):=MN.outs λE b a=>r9 (S:=dJ (E.y 0)) ⟨_,_,_,_,rfl⟩ a
def fS(m:Nat)(l:List UInt8)(x:Int)(p:Bool):List UInt8:=if m=1 then fY 9 (lU l x p) 8 else fY 36 (mI l x p) 2
theorem sG(m:Nat){l:List UInt8}(a:l.length=64)(x:Int)(p:Bool):(fS m l x p).length=72:=by
 unfold fS
 split
 ·exact pT (rL l x p) Dc
 ·exact pT (rO a x p) Dc
def oq(m:Nat)(xs:List UInt8)(x:Int):List UInt8:=if m=1 then rJ xs x else rK xs x
def ot(m:Nat)(xs:List UInt8)(x:Int):List Int:=if m=1 then(W6 8).map (dK xs x) else(W6 2).map (cK xs x)
def kF(m:Nat)(xs:List UInt8)(x:Int):Nat:=(jK (ot m xs x)).toNat
def hZ(m:Nat)(xs:List UInt8)(x:Int):Nat:=(jh (ot m xs x)).toNat
theorem Se(xs:List UInt8)(x:Int)(k:Nat):dK xs x k≤3:=by
 unfold dK ky;generalize dy _ _=z;cases z==0<;>cases z==1<;>cases z==2<;>cases z==3<;>decide
theorem Sf(m:Nat)(xs:List UInt8)(x:Int):kF m xs x≤3:=by
 have h:jK (ot m xs x)≤3:=Nq Dc λy a=>by
  unfold ot at a
  split at a
  ·obtain⟨k,_,rfl⟩:=List.mem_map.1 a;exact Se xs x k
  ·obtain⟨k,_,rfl⟩:=List.mem_map.1 a;exact Nu xs x k
 unfold kF;omega
theorem Sg(m:Nat)(xs:List UInt8)(x:Int):((kF m xs x:Nat):Int)=jK (ot m xs x):=Xq (Np _)
theorem Sh(m:Nat)(xs:List UInt8)(x:Int):((hZ m xs x:Nat):Int)=jh (ot m xs x):=by
 refine Xq ?_;unfold jh;cases jK (ot m xs x) != 1
 ·exact(CX _).1
 ·exact Int.le_refl _
theorem Si(m:Nat)(e:m=1∨m=2)(g:Nat)(l:List UInt8)(c:l.length=64)(x:Int)(h0: -9223372036854775808≤x)(h1:x≤9223372036854775807)(p:Bool):aa WJ 125 #[pt g 0,iN m,.agg (rB 64 l).toArray,i6 x,.bool p] [pk (dJ g)] [] N0 (λ_=> .agg (rB 72 (fS m l x p)).toArray):=by
 refine aa.pkR (rest:=[]) (enters_of Tryz.func125 Kr rfl) λL d=>?_;obtain⟨b,a,f,u,rfl⟩:=d;unfold fS;rcases e with rfl | rfl
 ·exact(Nm g b a l c x p).sub [0,1] rfl
 ·exact(aa.at (rd':=[ob g #[pt b 0,pt a 0] 242,ob a #[pt f 0,u] 309,ob f (rB 255 aT++rN 256 aW).toArray 312,bC u c8]) (Nn g b a f u l c x h0 h1 p) (aP (aP (aP (bL (λ_ h=>aq.sq h) λ_ h=>h))))).sub [0,2,3,4] rfl
theorem Sj(m:Nat)(e:m=1∨m=2)(g:Nat)(xs:List UInt8)(c:xs.length=72)(x:Int)(h0: -9223372036854775808≤x)(h1:x≤9223372036854775807):aa WJ 124 #[pt g 0,iN m,.agg (rB 72 xs).toArray,i6 x] [pk (dJ g)] [] N0 (λ_=> .tuple #[.agg (rB 64 (oq m xs x)).toArray,.agg #[i6 ((kF m xs x:Nat):Int),i6 ((hZ m xs x:Nat):Int)]]):=by
 refine aa.pkR (rest:=[]) (enters_of Tryz.func124 Kr rfl) λL d=>?_;obtain⟨b,a,f,u,rfl⟩:=d;rw[Sg,Sh];unfold oq ot;rcases e with rfl | rfl
 ·exact(Nj g b a xs c x).sub [0,1] rfl
 ·exact(aa.at (rd':=[ob g #[pt b 0,pt a 0] 242,ob a #[pt f 0,u] 309,ob f (rB 255 aT++rN 256 aW).toArray 312,bC u c8]) (Nk g b a f u xs c x h0 h1) (aP (aP (aP (bL (λ_ h=>aq.sq h) λ_ h=>h))))).sub [0,2,3,4] rfl
theorem Sk(j d b a l m o:Nat)(c:Cf)(s:Le)(K:Nat)(hs:c0 s K)(t:K+3≤1000000000)(q:c.J≤65536)(n:Nt)(p:n.v≤3)(e:n.r<s.r.m.R)(u:n.h<s.r.m.R*s.r.m.B*s.r.m.M):aa WJ 163 #[pt j 0,.agg #[i6 1,iN n.v,iN n.f,iN n.i,iN n.h,iN n.r]] [ob j (lA c d b a s.time) 122,pk (ar d l m s.r),pk (aD b o s.k),pk (az a s.g)] [1,2,3] (λ_=>[pk (ar d l m (cH c.J s n).r),pk (aD b o (cH c.J s n).k),pk (az a (cH c.J s n).g)]) (λ_=> .tuple #[]):=by
 obtain⟨k,v,f,i,h,r⟩:=n;simp only at p e u
 match v,p with
 | 0,_=>exact Rf j d b a l m o c s K hs i h r f
 | 1,_=>exact Rc j d b a l m o c s K hs t q i h r f e u
 | 2,_=>exact Rg j d b a l m o c s K hs t i h r f
 | 3,_=>exact Rd j d b a l m o c s K hs t q i h r f e u
theorem Sm(t m j i n o p:Nat)(c:Cf)(s:Le)(K:Nat)(hs:c0 s K)(z:K+3≤1000000000)(y:c.J≤65536)(d e h a b:Nat)(u:d≤3)(x:b<s.r.m.R)(A:a<s.r.m.R*s.r.m.B*s.r.m.M):aa WJ 128 #[pt t 0,.agg #[i6 1,iN d,iN e,iN h,iN a,iN b]] [ob t (lA c m j i s.time) 122,pk (ar m n o s.r),pk (aD j p s.k),pk (az i s.g)] [1,2,3] (λ_=>[pk (ar m n o (cH c.J s (⟨1,d,e,h,a,b⟩:Nt)).r),pk (aD j p (cH c.J s (⟨1,d,e,h,a,b⟩:Nt)).k),pk (az i (cH c.J s (⟨1,d,e,h,a,b⟩:Nt)).g)]) (λ_=> .tuple #[]):=by
 refine fG Tryz.func128 λw cs=>ra (λq=>[(3,pt (B0 q) 0)]) (λq=>[ob (B0 q) #[i6 1,iN d,iN e,iN h,iN a,iN b] 81]) λq=>r0 [(1,.l 4)] [(8,i6 1)] [] (rT [] 9 (rr (λ_=>[(1,.l 4),(2,.c [0,1,2,3] [1,2,3] (Sk t m j i n o p c s K hs z y (⟨1,d,e,h,a,b⟩:Nt) u x A))]) N0 [] (λ_ L=>((L.set 1 ((pk (ar m n o (cH c.J s (⟨1,d,e,h,a,b⟩:Nt)).r)))).set 2 ((pk (aD j p (cH c.J s (⟨1,d,e,h,a,b⟩:Nt)).k)))).set 3 ((pk (az i (cH c.J s (⟨1,d,e,h,a,b⟩:Nt)).g)))) λB=>?_));exact ew ab.zero [1,2,3] [(0,0)] []
theorem Sn(e d a b i j g:Nat)(c:Cf)(s:Le)(K:Nat)(hs:c0 s K)(k:s.time≤1000000000000000):aa WJ 128 #[pt e 0,.agg #[i6 2,i6 0,i6 0,i6 0,i6 0,i6 0]] [ob e (lA c d a b s.time) 122,pk (ar d i j s.r),pk (aD a g s.k),pk (az b s.g)] [0,1,2,3] (λ_=>[ob e (lA c d a b ((s.time+1:Nat))) 122,pk (ar d i j s.r),pk (aD a g (mP s.k)),pk (az b s.g)]) (λ_=> .tuple #[]):=by
 refine fG Tryz.func128 λw cs=>ra (λh=>[(3,pt (B0 h) 0)]) (λh=>[ob (B0 h) #[i6 2,i6 0,i6 0,i6 0,i6 0,i6 0] 81]) λh=>r0 [(1,.l 4)] [(8,i6 2)] [] (rF [] 9 (rT [] 14 (rs [(3,.l 0),(4,ad s.time 1),(7,.s 0)] 0 (ob e (lA c d a b ((s.time+1:Nat))) 122) (rs [(3,.l 0),(4,.c [2] [2] (Qs a g s.k hs.k))] 2 ((pk (aD a g (mP s.k)))) ?_))));exact ew ab.zero [0,1,2,3] [] []
theorem So(q a n j d i p:Nat)(c:Cf)(s:Le)(K:Nat)(hs:c0 s K)(C:K+257≤1000000000)(u:s.r.j.A≠0)(x:s.r.j.nx<ft s.r.j.A s.r.m.B s.r.m.M s.r.m.C):aa WJ 128 #[pt q 0,.agg #[i6 3,i6 0,i6 0,i6 0,i6 0,i6 0]] [ob q (lA c a n j s.time) 122,pk (ar a d i s.r),pk (aD n p s.k),pk (az j s.g)] [1,2,3] (λ_=>[pk (ar a d i (gK s).r),pk (aD n p (gK s).k),pk (az j (gK s).g)]) (λ_=> .tuple #[]):=by
 have B:=hs.n;have b:=Ey hs.r u x;have A:=hs.r;refine fG Tryz.func128 λw cs=>ra (λt=>[(3,pt (B0 t) 0)]) (λt=>[ob (B0 t) #[i6 3,i6 0,i6 0,i6 0,i6 0,i6 0] 81]) λt=>r0 [(1,.l 4)] [(8,i6 3)] [] (rF [] 9 (rF [] 14 (rT [] 28 (r0 [(3,.l 0),(4,.c [1] [1] (yH a d i s.r A))] [(4,iN s.r.j.A)] [] (rr (λ_=>[(3,.l 0),(4,.c [1] [1,5] (PG a d i s.r hs.r u x))]) (λo=>[(5,(o 4).val 0)]) [] (λo L=>L.set 1 ((pk (ar a d i (eJ s.r).1)))++[bh ((o 4).val 0) ((eJ s.r).2)]) λo=>rr (λ_=>[(3,.c [0,1,2,3,5] [1,2,3] (aa.at (rd':=[ob q (lA c a n j s.time) 122,pk (ar a d i (eJ s.r).1),pk (aD n p s.k),pk (az j s.g),bh ((o 4).val 0) ((eJ s.r).2)]) (pj q a n j d i p c s.time ((eJ s.r).1) b.1 s.k hs.k s.g hs.g s.r.j.A ((o 4).val 0) ((eJ s.r).2) (by have y:=b.2.1;omega) (by have y:=b.2.1;omega) (λe z=>(b.2.2 e z).ly (vt s.r)) (hs.rk.trans (vt s.r).R.symm)) (aP (aP (aP (aP (bL (λ_ h=>aq.sq h) (λ_ h=>h))))))))]) N0 [] (λ_ L=>((L.set 1 ((pk (ar a d i ((eJ s.r).1))))).set 2 ((pk (aD n p (fc s.r.j.A s.k ((eJ s.r).2)))))).set 3 ((pk (az j (eL ((eJ s.r).1).m s.r.j.A s.time s.g ((eJ s.r).2)))))) λD=>?_)))));exact ew ab.zero [1,2,3] [(0,0)] [] (hf:=by kernel_rfl)
theorem Sp(g e d a h i j:Nat)(c:Cf)(s:Le)(K:Nat)(hs:c0 s K):aa WJ 128 #[pt g 0,.agg #[i6 4,i6 0,i6 0,i6 0,i6 0,i6 0]] [ob g (lA c e d a s.time) 122,pk (ar e h i s.r),pk (aD d j s.k),pk (az a s.g)] [1,2,3] (λ_=>[pk (ar e h i s.r),pk (aD d j s.k),pk (az a (nz s.g))]) (λ_=> .tuple #[]):=by
 refine fG Tryz.func128 λw cs=>ra (λb=>[(3,pt (B0 b) 0)]) (λb=>[ob (B0 b) #[i6 4,i6 0,i6 0,i6 0,i6 0,i6 0] 81]) λb=>r0 [(1,.l 4)] [(8,i6 4)] [] (rF [] 9 (rF [] 14 (rF [] 28 (rT [] 48 (rs [(3,.l 0),(4,.c [3] [3] (PR a s.g))] 3 ((pk (az a (nz s.g)))) ?_)))));exact ew ab.zero [1,2,3] [(0,0)] []
end
section
structure sH (c:Cf) (m:Mp):Prop where
 R:m.R=c.R
 S:m.S=c.S
 B:m.B=c.B
 M:m.M=c.M
 C:m.C=c.C
 G:m.G=c.G
 res:m.res=c.res
theorem sH.tr{c:Cf}{m a:Mp}(h:sH c m)(e:eD m a):sH c a:=⟨e.R.trans h.R,e.S.trans h.S,e.B.trans h.B,e.M.trans h.M,e.C.trans h.C,e.G.trans h.G,e.res.trans h.res⟩
def h8(r:Rp):Prop:=r.j.A≠0→r.j.nx<ft r.j.A r.m.B r.m.M r.m.C
theorem E6{m:Mp}(h:ba m){k:Nat}(b:k=1∨k=2):0<ft k m.B m.M m.C:=by
 have a:=h.O.bd;rcases b with rfl | rfl
 ·exact a.c1
 ·exact Nat.mul_pos (Nat.mul_pos a.b1 a.m1) a.c1
theorem E7{r:Rp}(d:ba r.m){a:Ak}(g:ey r.m a)(h:h8 r):h8 (c6 r a):=by
 have e:=E6 d (.inl rfl);have f:=E6 d (.inr rfl);unfold c6;rcases g.k with⟨b,_⟩ | ⟨b,_⟩
 ·rw[b];show h8 (bif dp r.m then _ else _);cases dp r.m
  ·exact h
  ·exact λ_=>e
 ·rw[b];show h8 (bif dU r.m then _ else _);cases dU r.m
  ·exact h
  ·exact λ_=>f
theorem E8{r:Rp}(d:aK r){a:Ak}(b:ey r.m a)(h:h8 r):h8 (bn r a):=by
 unfold bn;cases cX r a
 ·cases r.j.A==0
  ·exact h
  ·exact E7 d.m b h
 ·exact h
theorem E9{r:Rp}(a:Ak)(h:r.j.A≠0):(bn r a).j=r.j∧(bn r a).m=r.m:=by
 unfold bn;cases cX r a
 ·rw[show(r.j.A==0)=false from dN.2 h];exact⟨rfl,rfl⟩
 ·exact⟨rfl,rfl⟩
theorem Sq{s:Rp×List Ev}(a:aK s.1)(d:0<s.1.q.length)(h:h8 s.1):h8 (fz s).1:=by
 have b:=sj a d;unfold fz;cases cX (aY s.1) (s.1.q.headD aJ)
 ·exact E7 (r:=aY s.1) a.m ⟨b.k⟩ h
 ·exact h
theorem Fb: ∀(n:Nat) (s:Rp×List Ev),n=s.1.q.length→aK s.1→h8 s.1→h8 (eC n s).1
 | 0,s,_,_,h=>h
 | n+1,s,d,b,h=>by
  unfold eC
  split
  ·have a:0<s.1.q.length:=by omega
   exact Fb n (fz s) (by rw[yE,Xv];omega) (yD b a) (Sq b a h)
  ·exact h
theorem Sr{r:Rp}(f:aK r)(b:r.j.A≠0)(h:h8 r):h8 (eJ r).1:=by
 have d:=h b;unfold eJ;cases a:kc r.m (bu r).j
 ·intro _;unfold kc at a;have g: ¬(r.j.nx+1=ft r.j.A r.m.B r.m.M r.m.C):=by
   intro e;rw[Bool.and_eq_false_iff] at a;rcases a with a | a
   ·exact absurd (of_decide_eq_false a) (λq=>q b)
   ·exact of_decide_eq_false a e
  show r.j.nx+1<ft r.j.A r.m.B r.m.M r.m.C;omega
 ·exact Fb _ (af (bu r)) (by unfold af fv;rfl) (va (p7 f b d) b) (λq=>absurd rfl q)
theorem Ss{s:Le}{K b a w:Nat}(x:Re)(h:c0 s K)(f:b<s.r.m.R)(e:a<s.r.m.R*s.r.m.B*s.r.m.M)(d:h8 s.r):h8 (fe s b a w x).r:=by
 unfold fe;cases cE s.k.lp (da s.k.t a).l w
 ·exact d
 ·exact E8 h.r ⟨.inl ⟨rfl,e⟩⟩ d
theorem Fc{s:Le}{K a b w:Nat}(x:Re)(h:c0 s K)(d:a<s.r.m.R)(f:b<s.r.m.R*s.r.m.B*s.r.m.M)(i:K+3≤1000000000)(j:h8 s.r):h8 (eM s a b w x).r:=by
 have g:=EB (w:=w) x h d f i;have e:=Ss (w:=w) x h d f j;unfold eM;cases cE s.k.lr (s.k.F.getD a bj).l w
 ·exact e
 ·exact E8 g.r ⟨.inr ⟨rfl,by rw[(su s a b w x).R];exact d⟩⟩ e
theorem Su{heavy K:Nat}{s:Le}{n:Nt}(h:c0 s K)(e:n.r<s.r.m.R)(d:n.h<s.r.m.R*s.r.m.B*s.r.m.M)(b:K+3≤1000000000)(a:h8 s.r):h8 (cH heavy s n).r:=by
 unfold cH
 split
 ·exact a
 split
 ·exact Fc _ h e d b a
 split
 ·exact a
 ·exact Fc _ h e d b a
theorem Sw(s:Le)(b a w:Nat)(x:Re)(h:s.r.j.A≠0):(fe s b a w x).r.j=s.r.j∧(fe s b a w x).r.m=s.r.m:=by
 unfold fe;cases cE s.k.lp (da s.k.t a).l w
 ·exact⟨rfl,rfl⟩
 ·exact E9 (r:=s.r) _ h
theorem Ff(s:Le)(a b w:Nat)(x:Re)(h:s.r.j.A≠0):(eM s a b w x).r.j=s.r.j∧(eM s a b w x).r.m=s.r.m:=by
 have d:=Sw s a b w x h;unfold eM;cases cE s.k.lr (s.k.F.getD a bj).l w
 ·exact d
 ·have e:=E9 (r:=(fe s a b w x).r) ⟨2,a⟩ (by rw[d.1];exact h);exact⟨e.1.trans d.1,e.2.trans d.2⟩
theorem Fg(heavy:Nat)(s:Le)(n:Nt)(h:s.r.j.A≠0):(cH heavy s n).r.j=s.r.j∧(cH heavy s n).r.m=s.r.m:=by
 unfold cH
 split
 ·exact⟨rfl,rfl⟩
 split
 ·exact Ff _ _ _ _ _ h
 split
 ·exact⟨rfl,rfl⟩
 ·exact Ff _ _ _ _ _ h
theorem Sx{R S B M C a p1 p2 p3:Nat}(b:b6 R S B M C)(h:gb R S B M C a p1 p2 p3):fZ R S B M C ((bl a p1 p2 p3:Nat):Int)=true:=by
 rw[←uV];refine zp b (rQ.2 ?_);have:=h.h0;have:=h.h1;have:=h.h2;have:=h.h3;omega
structure fT (R S B M C i:Nat):Prop where
 ex: ∃p0 p1 p2 p3,i=bl p0 p1 p2 p3∧gb R S B M C p0 p1 p2 p3
theorem fT.has{R S B M C i:Nat}(h:fT R S B M C i)(a:b6 R S B M C):fZ R S B M C (i:Int)=true:=by
 obtain⟨d,e,f,g,rfl,b⟩:=h.ex;exact Sx a b
theorem fT.bd{R S B M C i:Nat}(h:fT R S B M C i)(a:b6 R S B M C):i<8388608:=by
 obtain⟨d,e,f,g,rfl,b⟩:=h.ex;exact uU a.bd b
theorem ou(m:Mp)(p i:Nat):aO m p*64+i=bl (eX m p) (cQ m.G m.R m.B m.M p) (cV m.G m.R m.B m.M p) i:=by unfold aO bl;omega
theorem zx{m:Mp}(h:ba m){p i:Nat}(hp:p<m.R*m.B*m.M)(b:i<m.C):fT m.R m.S m.B m.M m.C (a7 m 1 p i):=by
 have a:=nw h hp;exact⟨_,_,_,_,ou m p i,a.h0,a.h1,a.h2,b⟩
theorem zy{m:Mp}(h:ba m){r i:Nat}(b:r<m.R+m.S)(a:i<m.B*m.M*m.C):fT m.R m.S m.B m.M m.C (a7 m 2 r i):=⟨_,_,_,_,rfl,ny h b a⟩
theorem Fh{m:Mp}{j:Jb}(h:ba m)(b:se m j){n:Nat}(d:n<(m.R*m.B*m.M-m.res)*m.C):fT m.R m.S m.B m.M m.C (aN m j n):=by
 have a:fT m.R m.S m.B m.M m.C (di m n):=⟨_,_,_,_,sf m n,yw h d⟩;rcases b.k with e | ⟨e,b⟩ | ⟨e,b⟩
 ·rw[e];exact a
 ·unfold aN;rw[e];show fT _ _ _ _ _ (if au m n=j.fr then _ else _)
  split
  ·split
   ·exact zx h b.ht (Nat.mod_lt _ h.O.bd.c1)
   ·exact a
  ·exact a
 ·unfold aN;rw[e];show fT _ _ _ _ _ (if aB m.G m.R m.B m.M (au m n)=j.fr then _ else _)
  split
  ·split
   ·have:=b.t1;have:=h.rk;exact zy h Om (u5 h d)
   ·exact a
  ·exact a
structure Ct where
 s:Le
 U:Nat
 ns:List Nt
 V:Dv
structure bp (c:Cf) (x:Ct) (K A:Nat):Prop where
 cf:cr c
 s:c0 x.s K
 D:gN c x.V.D
 gl: ∀k,(x.V.Y k).length=72
 vl:x.V.l.length≤A
 nl:x.ns.length≤A
 ly:sH c x.s.r.m
 run:h8 x.s.r
 U:x.U<(c.R*c.B*c.M-c.res)*c.C
 time:x.s.time≤1099511627776
theorem bp.mono{c:Cf}{x:Ct}{K A b a:Nat}(h:bp c x K A)(d:K≤b)(hA:A≤a):bp c x b a:=⟨h.cf,h.s.mono d,h.D,h.gl,WQ h.vl hA,WQ h.nl hA,h.ly,h.run,h.U,h.time⟩
theorem bp.dv{c:Cf}{x:Ct}{K A:Nat}(h:bp c x K A)(hA:A≤900000):nE c x.V:=⟨h.D,h.gl,WQ h.vl hA⟩
theorem cr.O{c:Cf}(h:cr c):b6 c.R c.S c.B c.M c.C:=h.ly.O
theorem fT.lay{c:Cf}{m:Mp}(e:sH c m){i:Nat}(h:fT m.R m.S m.B m.M m.C i):fT c.R c.S c.B c.M c.C i:=by rw[e.R,e.S,e.B,e.M,e.C] at h;exact h
def nH(c:Cf)(x:Ct)(i:Nat)(l:List UInt8)(p:Bool):Ct:={x with V:=iz x.V (i:Int) (fS c.E l (i:Int) p) (bif p then 1 else 0)}
def kg(c:Cf)(x:Ct)(i:Nat):List UInt8:=b9 c x.V.D (i:Int)
def bB(c:Cf)(x:Ct)(i:Nat):Nat:=kF c.E (kg c x i) (i:Int)
def cC(c:Cf)(x:Ct)(i:Nat):List UInt8:=oq c.E (kg c x i) (i:Int)
def iB(c:Cf)(x:Ct)(i h r:Nat):Nt:=⟨1,bB c x i,hZ c.E (kg c x i) (i:Int),i,h,r⟩
def bZ(c:Cf)(x:Ct)(i h r:Nat):Ct:=⟨⟨(cH c.J x.s (iB c x i h r)).r,(cH c.J x.s (iB c x i h r)).k,(cH c.J x.s (iB c x i h r)).g,x.s.time⟩,x.U,x.ns++[iB c x i h r],qi c x.V (i:Int)⟩
def aU(x:Ct)(n:Nat):Nat:=aN x.s.r.m x.s.r.j n
def jP(x:Ct)(n:Nat):Nat:=au x.s.r.m n
def jR(x:Ct)(n:Nat):Nat:=aB x.s.r.m.G x.s.r.m.R x.s.r.m.B x.s.r.m.M (au x.s.r.m n)
def jS(c:Cf)(x:Ct)(n:Nat):Ct:=bZ c x (aU x n) (jP x n) (jR x n)
def ki(x y:Ct):Ct:=⟨⟨y.s.r,y.s.k,y.s.g,x.s.time⟩,x.U,y.ns,y.V⟩
def cu(c:Cf)(x:Ct)(n:Nat)(a:Bool):Ct:=ki x<| bif (((bB c x (aU x n):Nat):Int)==1)&&a then nH c (jS c x n) (aU x n) (cC c x (aU x n)) false else jS c x n
def cc(k:Nat):Int:=bif (k:Int)==3 then 40 else bif (k:Int)==2 then 41 else 0
section
variable {c:Cf} {x:Ct} {K A:Nat}
theorem ow(m:Nat){xs:List UInt8}(a:xs.length=72)(x:Int):(oq m xs x).length=64:=by
 unfold oq rJ rK
 split
 ·cases decide (2≤jK ((W6 8).map (dK xs x)))
  ·exact mG _ _ _
  ·exact WN
 ·cases decide (2≤jK ((W6 2).map (cK xs x)))
  ·exact yg (uN a x) (W4 2)
  ·exact WN
theorem qj(h:bp c x K A){i:Nat}{l:List UInt8}(a:l.length=64)(p:Bool):bp c (nH c x i l p) K (A+1):=by
 refine⟨h.cf,h.s,E0 h.D _ (sG _ a _ _),sA h.gl _ (sG _ a _ _),?_,W8 h.nl,h.ly,h.run,h.U,h.time⟩;show(x.V.l++[_]).length≤A+1;rw[WL];exact WV h.vl
theorem zz(h:bp c x K A){i b r:Nat}(f:r<x.s.r.m.R)(e:b<x.s.r.m.R*x.s.r.m.B*x.s.r.m.M)(d:K+3≤1000000000):bp c (bZ c x i b r) (K+3) (A+1):=by
 have a:=Q6 (heavy:=c.J) (n:=iB c x i b r) h.s f e d;refine⟨h.cf,⟨a.r,a.k,a.g,a.n,a.rk⟩,sy h.D,h.gl,?_,?_,h.ly.tr (Q5 c.J x.s (iB c x i b r)),Su (heavy:=c.J) (n:=iB c x i b r) h.s f e d h.run,h.U,h.time⟩
 ·show(x.V.l++[_]).length≤A+1;rw[WL];exact WV h.vl
 ·show(x.ns++[_]).length≤A+1;rw[WL];exact WV h.nl
theorem vD(h:bp c x K A){n:Nat}(d:n<(c.R*c.B*c.M-c.res)*c.C):aU x n<8388608∧fZ c.R c.S c.B c.M c.C ((aU x n:Nat):Int)=true∧jP x n<x.s.r.m.R*x.s.r.m.B*x.s.r.m.M∧jR x n<x.s.r.m.R∧n<(x.s.r.m.R*x.s.r.m.B*x.s.r.m.M-x.s.r.m.res)*x.s.r.m.C:=by
 have a:n<(x.s.r.m.R*x.s.r.m.B*x.s.r.m.M-x.s.r.m.res)*x.s.r.m.C:=by rw[h.ly.R,h.ly.B,h.ly.M,h.ly.C,h.ly.res];exact d
 have b:=(Fh h.s.r.m h.s.r.j a).lay h.ly;exact⟨b.bd h.cf.O,b.has h.cf.O,sd h.s.r.m a,nu h.s.r.m.O,a⟩
theorem vE(h:bp c x K A){n:Nat}(a:n<(c.R*c.B*c.M-c.res)*c.C)(b:K+3≤1000000000):bp c (jS c x n) (K+3) (A+1):=zz h (vD h a).2.2.2.1 (vD h a).2.2.1 b
theorem bp.fix{y:Ct}{b a:Nat}(h:bp c x K A)(g:bp c y b a):bp c (ki x y) b a:=⟨g.cf,⟨g.s.r,g.s.k,g.s.g,g.s.n,g.s.rk⟩,g.D,g.gl,g.vl,g.nl,g.ly,g.run,h.U,h.time⟩
theorem Fi(h:bp c x K A){n:Nat}(e:n<(c.R*c.B*c.M-c.res)*c.C)(a:Bool)(d:K+3≤1000000000):bp c (cu c x n a) (K+3) (A+2):=by
 have b:=vE h e d;unfold cu;refine h.fix ?_;cases (((bB c x (aU x n):Nat):Int)==1)&&a
 ·exact b.mono (W4 _) (Nat.le_succ _)
 ·exact qj b (ow _ (nD h.D _) _) false
end
end
def Sy:Nt:=⟨0,0,0,0,0,0⟩
def Fj(x:Nt):List Value:=[iN x.k,iN x.v,iN x.f,iN x.i,iN x.h,iN x.r]
def vF:Kd WJ Nt:=⟨Fj,[i6 0,i6 0,i6 0,i6 0,i6 0,i6 0],117,81,Sy,6,λ_=>rfl,rfl,λ_=>rfl,dX.mk' Kr Kr rfl⟩
abbrev b3(v:Value)(xs:List Nt):aA:= .p (aq Fj ([i6 0,i6 0,i6 0,i6 0,i6 0,i6 0]) 81 v xs)
abbrev aQ(h e g j k d l b a i f:Nat)(c:Cf)(x:Ct)(L:aj):Prop:=∃v:Value,L=[ob h #[pt e 0,pt a 0,pt f 0,iN x.U,v] 119,ob e (lA c g d b x.s.time) 122,pk (ar g j k x.s.r),pk (aD d l x.s.k),pk (az b x.s.g),pk (dJ f),pk (bk a i c x.V),b3 v x.ns]
theorem pn(t q z y x a f g:Nat)(c:Cf)(b:cr c)(o time:Nat)(v:Value)(V:Dv)(h:nE c V)(i:Nat)(A:i<8388608)(j:fZ c.R c.S c.B c.M c.C ((i:Nat):Int)=true)(l:List UInt8)(e:l.length=64)(p:Bool):aa WJ 88 #[pt t 0,iN i,.agg (rB 64 l).toArray,.bool p] [ob t #[pt q 0,pt a 0,pt g 0,iN o,v] 119,ob q (lA c z y x time) 122,pk (dJ g),pk (bk a f c V)] [2,3] (λ_=>[pk (dJ g),pk (bk a f c (iz V (i:Int) (fS c.E l (i:Int) p) (bif p then 1 else 0)))]) (λ_=> .tuple #[]):=by
 have u:=b.E;have d:=sG c.E e (i:Int) p;refine fG Tryz.func88 λw cs=>ra (λk=>[(6,pt (B0 k) 0)]) (λk=>[ob (B0 k) (rB 64 l).toArray 43]) λk=>rr (λ_=>[(3,.m (ld 0 (pt g 0))),(7,.m (ld 0 (pt q 0))),(11,.m (ld 1 (iN c.E))),(12,.m (ls 4 (rB 64 l))),(15,.c [2] [] (Si c.E u g l (by(simp only[LL,e,d,e];done)) (i:Int) Om Om p)),(16,.m (al 5)),(17,.s 5)]) (λn=>[(8,pt ((n 16).y 0) 0)]) [] (λn L=>L++[ob ((n 16).y 0) (rB 72 (fS c.E l (i:Int) p)).toArray 217]) λn=>r0 [] [(25,.bool p)] [] ?_;refine cB (p) (λr=>?_) λr=>?_
 ·refine rr (λ_=>[(3,.l 0),(5,.l 5),(6,.c [3] [3] (R5 a f c b V h (i:Int) j (fS c.E l (i:Int) p) (by(simp only[LL,e,d,e];done))))]) N0 [] (λ_ L=>L.set 3 ((pk (bk a f c (iz V (i:Int) (fS c.E l (i:Int) p) 1))))) λB=>?_;exact ew ab.zero [2,3] [(0,0),(1,1)] [] (hf:=by(repeat (first | rw[r] | rw[ALct]));kernel_rfl)
 refine rs [(3,.l 0),(5,.l 5),(6,.c [3] [3] (R4 a f c b V h (i:Int) j (fS c.E l (i:Int) p) (by(simp only[LL,e,d,e];done))))] 3 ((pk (bk a f c (iz V (i:Int) (fS c.E l (i:Int) p) 0)))) ?_;exact ew ab.zero [2,3] [(0,0),(1,1)] [] (hf:=by(repeat (first | rw[r] | rw[ALcf]));kernel_rfl)
theorem Sz(t p q u x o y n A B:Nat)(c:Cf)(s:Le)(K:Nat)(hs:c0 s K)(j:Nat)(v:Value)(ns:List Nt)(I:ns.length≤800000)(G:K+3≤1000000000)(F:c.J≤65536)(d e f a b:Nat)(C:d≤3)(D:b<s.r.m.R)(H:a<s.r.m.R*s.r.m.B*s.r.m.M):aa WJ 89 #[pt t 0,.agg #[i6 1,iN d,iN e,iN f,iN a,iN b]] [ob t #[pt p 0,pt A 0,pt B 0,iN j,v] 119,ob p (lA c q o n s.time) 122,pk (ar q u x s.r),pk (aD o y s.k),pk (az n s.g),b3 v ns] [0,2,3,4,5] (λE=>[ob t #[pt p 0,pt A 0,pt B 0,iN j,(E.val 0)] 119,pk (ar q u x (cH c.J s (⟨1,d,e,f,a,b⟩:Nt)).r),pk (aD o y (cH c.J s (⟨1,d,e,f,a,b⟩:Nt)).k),pk (az n (cH c.J s (⟨1,d,e,f,a,b⟩:Nt)).g),b3 (E.val 0) (ns++([(⟨1,d,e,f,a,b⟩:Nt)]))]) (λ_=> .tuple #[]):=by
 refine fG Tryz.func89 λw cs=>ra (λz=>[(3,pt (B0 z) 0)]) (λz=>[ob (B0 z) #[i6 1,iN d,iN e,iN f,iN a,iN b] 81]) λz=>rr (λi=>[(4,.l 0),(5,.l 6),(6,.m (bs 7 1)),(7,eT vF (v) ns 5 7 ([(⟨1,d,e,f,a,b⟩:Nt)])),(10,.m (fj 0 5 (b3 ((i 7).val 0) (ns++([(⟨1,d,e,f,a,b⟩:Nt)]))) ((i 7).val 0) λbs h=>aq.one ((λ_ h=>h) bs h)))]) N0 [] (λi L=>(L.set 0 (ob t #[pt p 0,pt A 0,pt B 0,iN j,(i 7).val 0] 119)).set 5 (b3 ((i 7).val 0) (ns++([(⟨1,d,e,f,a,b⟩:Nt)])))++[ob (B6 i) #[i6 1,iN d,iN e,iN f,iN a,iN b] 81]) λi=>rr (λ_=>[(3,.l 0),(4,.l 6),(5,.c [1,2,3,4] [2,3,4] (Sm p q o n u x y c s _ hs G F d e f a b C D H))]) N0 [] (λ_ L=>((L.set 2 ((pk (ar q u x (cH c.J s (⟨1,d,e,f,a,b⟩:Nt)).r)))).set 3 ((pk (aD o y (cH c.J s (⟨1,d,e,f,a,b⟩:Nt)).k)))).set 4 ((pk (az n (cH c.J s (⟨1,d,e,f,a,b⟩:Nt)).g)))) λJ=>?_;exact ew (.l [] [] [(i 7).val 0]) [0,2,3,4,5] [(1,1)] []
theorem SA(i e g o q d j f n p:Nat)(c:Cf)(s:Le)(K:Nat)(hs:c0 s K)(b:Nat)(v:Value)(ns:List Nt)(t:ns.length≤800000)(r:s.time≤1000000000000000):aa WJ 89 #[pt i 0,.agg #[i6 2,i6 0,i6 0,i6 0,i6 0,i6 0]] [ob i #[pt e 0,pt n 0,pt p 0,iN b,v] 119,ob e (lA c g d f s.time) 122,pk (ar g o q s.r),pk (aD d j s.k),pk (az f s.g),b3 v ns] [0,1,2,3,4,5] (λE=>[ob i #[pt e 0,pt n 0,pt p 0,iN b,(E.val 0)] 119,ob e (lA c g d f ((s.time+1:Nat))) 122,pk (ar g o q s.r),pk (aD d j (mP s.k)),pk (az f s.g),b3 (E.val 0) (ns++([(⟨2,0,0,0,0,0⟩:Nt)]))]) (λ_=> .tuple #[]):=by
 refine fG Tryz.func89 λw cs=>ra (λk=>[(3,pt (B0 k) 0)]) (λk=>[ob (B0 k) #[i6 2,i6 0,i6 0,i6 0,i6 0,i6 0] 81]) λk=>rr (λa=>[(4,.l 0),(5,.l 6),(6,.m (bs 7 1)),(7,eT vF (v) ns 5 7 ([(⟨2,0,0,0,0,0⟩:Nt)])),(10,.m (fj 0 5 (b3 ((a 7).val 0) (ns++([(⟨2,0,0,0,0,0⟩:Nt)]))) ((a 7).val 0) λbs h=>aq.one ((λ_ h=>h) bs h)))]) N0 [] (λa L=>(L.set 0 (ob i #[pt e 0,pt n 0,pt p 0,iN b,(a 7).val 0] 119)).set 5 (b3 ((a 7).val 0) (ns++([(⟨2,0,0,0,0,0⟩:Nt)])))++[ob (B6 a) #[i6 2,i6 0,i6 0,i6 0,i6 0,i6 0] 81]) λa=>rr (λ_=>[(3,.l 0),(4,.l 6),(5,.c [1,2,3,4] [1,2,3,4] (Sn e g d f o q j c s _ hs r))]) N0 [] (λ_ L=>(L.set 1 (ob e (lA c g d f ((s.time+1:Nat))) 122)).set 3 ((pk (aD d j (mP s.k))))) λu=>?_;exact ew (.l [] [] [(a 7).val 0]) [0,1,2,3,4,5] [] []
theorem Fk(j f i n o e p d t u:Nat)(c:Cf)(s:Le)(K:Nat)(hs:c0 s K)(b:Nat)(v:Value)(ns:List Nt)(A:ns.length≤800000)(x:K+257≤1000000000)(y:s.r.j.A≠0)(z:s.r.j.nx<ft s.r.j.A s.r.m.B s.r.m.M s.r.m.C):aa WJ 89 #[pt j 0,.agg #[i6 3,i6 0,i6 0,i6 0,i6 0,i6 0]] [ob j #[pt f 0,pt t 0,pt u 0,iN b,v] 119,ob f (lA c i e d s.time) 122,pk (ar i n o s.r),pk (aD e p s.k),pk (az d s.g),b3 v ns] [0,2,3,4,5] (λE=>[ob j #[pt f 0,pt t 0,pt u 0,iN b,(E.val 0)] 119,pk (ar i n o (gK s).r),pk (aD e p (gK s).k),pk (az d (gK s).g),b3 (E.val 0) (ns++([(⟨3,0,0,0,0,0⟩:Nt)]))]) (λ_=> .tuple #[]):=by
 refine fG Tryz.func89 λw cs=>ra (λq=>[(3,pt (B0 q) 0)]) (λq=>[ob (B0 q) #[i6 3,i6 0,i6 0,i6 0,i6 0,i6 0] 81]) λq=>rr (λa=>[(4,.l 0),(5,.l 6),(6,.m (bs 7 1)),(7,eT vF (v) ns 5 7 ([(⟨3,0,0,0,0,0⟩:Nt)])),(10,.m (fj 0 5 (b3 ((a 7).val 0) (ns++([(⟨3,0,0,0,0,0⟩:Nt)]))) ((a 7).val 0) λbs h=>aq.one ((λ_ h=>h) bs h)))]) N0 [] (λa L=>(L.set 0 (ob j #[pt f 0,pt t 0,pt u 0,iN b,(a 7).val 0] 119)).set 5 (b3 ((a 7).val 0) (ns++([(⟨3,0,0,0,0,0⟩:Nt)])))++[ob (B6 a) #[i6 3,i6 0,i6 0,i6 0,i6 0,i6 0] 81]) λa=>rr (λ_=>[(3,.l 0),(4,.l 6),(5,.c [1,2,3,4] [2,3,4] (So f i e d n o p c s _ hs x y z))]) N0 [] (λ_ L=>((L.set 2 ((pk (ar i n o (gK s).r)))).set 3 ((pk (aD e p (gK s).k)))).set 4 ((pk (az d (gK s).g)))) λB=>?_;exact ew (.l [] [] [(a 7).val 0]) [0,2,3,4,5] [(1,1)] []
theorem SB(f e i n p g q d k o:Nat)(c:Cf)(s:Le)(K:Nat)(hs:c0 s K)(b:Nat)(v:Value)(ns:List Nt)(r:ns.length≤800000):aa WJ 89 #[pt f 0,.agg #[i6 4,i6 0,i6 0,i6 0,i6 0,i6 0]] [ob f #[pt e 0,pt k 0,pt o 0,iN b,v] 119,ob e (lA c i g d s.time) 122,pk (ar i n p s.r),pk (aD g q s.k),pk (az d s.g),b3 v ns] [0,2,3,4,5] (λE=>[ob f #[pt e 0,pt k 0,pt o 0,iN b,(E.val 0)] 119,pk (ar i n p s.r),pk (aD g q s.k),pk (az d (nz s.g)),b3 (E.val 0) (ns++([(⟨4,0,0,0,0,0⟩:Nt)]))]) (λ_=> .tuple #[]):=by
 refine fG Tryz.func89 λw cs=>ra (λj=>[(3,pt (B0 j) 0)]) (λj=>[ob (B0 j) #[i6 4,i6 0,i6 0,i6 0,i6 0,i6 0] 81]) λj=>rr (λa=>[(4,.l 0),(5,.l 6),(6,.m (bs 7 1)),(7,eT vF (v) ns 5 7 ([(⟨4,0,0,0,0,0⟩:Nt)])),(10,.m (fj 0 5 (b3 ((a 7).val 0) (ns++([(⟨4,0,0,0,0,0⟩:Nt)]))) ((a 7).val 0) λbs h=>aq.one ((λ_ h=>h) bs h)))]) N0 [] (λa L=>(L.set 0 (ob f #[pt e 0,pt k 0,pt o 0,iN b,(a 7).val 0] 119)).set 5 (b3 ((a 7).val 0) (ns++([(⟨4,0,0,0,0,0⟩:Nt)])))++[ob (B6 a) #[i6 4,i6 0,i6 0,i6 0,i6 0,i6 0] 81]) λa=>rs [(3,.l 0),(4,.l 6),(5,.c [1,2,3,4] [2,3,4] (Sp e i g d n p q c s _ hs))] 4 ((pk (az d (nz s.g)))) ?_;exact ew (.l [] [] [(a 7).val 0]) [0,2,3,4,5] [(1,1)] []
theorem zA(q o x C D u F t f B n:Nat)(c:Cf)(s:Le)(a:Nat)(ns:List Nt)(V:Dv)(K A:Nat)(h:bp c ⟨s,a,ns,V⟩ K A)(v:Value)(hA:A≤700000)(Q:K+3≤1000000000)(i b d:Nat)(R:i<8388608)(M:fZ c.R c.S c.B c.M c.C ((i:Nat):Int)=true)(J:b<s.r.m.R*s.r.m.B*s.r.m.M)(O:d<s.r.m.R):aa WJ 87 #[pt q 0,.agg #[iN i,iN b,iN d]] [ob q #[pt o 0,pt f 0,pt n 0,iN a,v] 119,ob o (lA c x u t s.time) 122,pk (ar x C D s.r),pk (aD u F s.k),pk (az t s.g),pk (dJ n),pk (bk f B c V),b3 v ns] [0,2,3,4,5,6,7] (λE=>[ob q #[pt o 0,pt f 0,pt n 0,iN a,(E.val 0)] 119,pk (ar x C D (bZ c (⟨s,a,ns,V⟩:Ct) i b d).s.r),pk (aD u F (bZ c (⟨s,a,ns,V⟩:Ct) i b d).s.k),pk (az t (bZ c (⟨s,a,ns,V⟩:Ct) i b d).s.g),pk (dJ n),pk (bk f B c (bZ c (⟨s,a,ns,V⟩:Ct) i b d).V),b3 (E.val 0) ((bZ c (⟨s,a,ns,V⟩:Ct) i b d).ns)]) (λ_=> .tuple #[.agg (rB 64 (cC c (⟨s,a,ns,V⟩:Ct) i)).toArray,.agg #[i6 ((bB c (⟨s,a,ns,V⟩:Ct) i:Nat):Int),i6 ((hZ c.E (kg c (⟨s,a,ns,V⟩:Ct) i) (i:Int):Nat):Int)]]):=by
 have j:=h.cf;have T:=j.E;have P:=j.E;have I:=h.dv Om;have S:=h.nl;have z:=nD h.D (i:Int);have N:=ow c.E z (i:Int);have y:ns.length≤800000:=WQ h.nl Om;exact fG Tryz.func87 λw cs=>ra (λe=>[(3,pt (B0 e) 0),(4,pt (B1 e) 0),(5,pt (B2 e) 0)]) (λe=>[ob (B0 e) #[iN i,iN b,iN d] 180,ob (B1 e) (rB 64 z6).toArray 43,ob (B2 e) #[i6 0,i6 0] 79]) λe=>rr (λ_=>[(3,.m (ld 0 (pt f 0))),(5,.m (ld 8 (iN i))),(6,.c [6] [6] (R6 f B c j V I (i:Int) M)),(10,.m (al 11)),(11,.s 11)]) (λG=>[(6,pt ((G 10).y 0) 0)]) [] (λG L=>L.set 6 ((pk (bk f B c (qi c V (i:Int)))))++[ob ((G 10).y 0) (rB 72 (b9 c V.D (i:Int))).toArray 217]) λG=>rr (λ_=>[(3,.m (ld 0 (pt n 0))),(7,.m (ld 0 (pt o 0))),(11,.m (ld 1 (iN c.E))),(12,.m (ls 11 (rB 72 (b9 c V.D (i:Int))))),(14,.m (ld 8 (iN i))),(15,.c [5] [] (Sj c.E P n (b9 c V.D (i:Int)) (by(simp only[LL,z,N];done)) (i:Int) Om Om)),(19,.m (al 12)),(20,.m (al 13)),(21,.s 12),(22,.s 13)]) (λp=>[(8,pt ((p 19).y 0) 0),(9,pt ((p 20).y 0) 0)]) [] (λp L=>L++[ob ((p 19).y 0) (rB 64 (oq c.E (b9 c V.D (i:Int)) (i:Int))).toArray 43,ob ((p 20).y 0) #[i6 ((kF c.E (b9 c V.D (i:Int)) (i:Int):Nat):Int),i6 ((hZ c.E (b9 c V.D (i:Int)) (i:Int):Nat):Int)] 79]) λp=>rr (λ_=>[(1,.l 13),(3,.l 8),(5,.l 8),(7,.l 8),(9,.c [0,1,2,3,4,7] [0,2,3,4,7] (Sz q o x C D u F t f n c s _ h.s a v ns y Q j.h2 (kF c.E (b9 c V.D (i:Int)) (i:Int)) (hZ c.E (b9 c V.D (i:Int)) (i:Int)) i b d (Sf _ _ _) O J))]) N0 [] (λH L=>((((L.set 0 (ob q #[pt o 0,pt f 0,pt n 0,iN a,((H 9).val 0)] 119)).set 2 ((pk (ar x C D (cH c.J s (⟨1,(kF c.E (b9 c V.D (i:Int)) (i:Int)),(hZ c.E (b9 c V.D (i:Int)) (i:Int)),i,b,d⟩:Nt)).r)))).set 3 ((pk (aD u F (cH c.J s (⟨1,(kF c.E (b9 c V.D (i:Int)) (i:Int)),(hZ c.E (b9 c V.D (i:Int)) (i:Int)),i,b,d⟩:Nt)).k)))).set 4 ((pk (az t (cH c.J s (⟨1,(kF c.E (b9 c V.D (i:Int)) (i:Int)),(hZ c.E (b9 c V.D (i:Int)) (i:Int)),i,b,d⟩:Nt)).g)))).set 7 (b3 ((H 9).val 0) (ns++([(⟨1,(kF c.E (b9 c V.D (i:Int)) (i:Int)),(hZ c.E (b9 c V.D (i:Int)) (i:Int)),i,b,d⟩:Nt)])))) λH=>rr (λ_=>[(0,.l 12),(1,.l 13),(2,.s 9),(3,.s 10)]) N0 [] (λ_ L=>(L.set 9 (ob (B1 e) (rB 64 (oq c.E (b9 c V.D (i:Int)) (i:Int))).toArray 43)).set 10 (ob (B2 e) #[i6 ((kF c.E (b9 c V.D (i:Int)) (i:Int):Nat):Int),i6 ((hZ c.E (b9 c V.D (i:Int)) (i:Int):Nat):Int)] 79)) λU=>ao (.tuple #[.agg (rB 64 (oq c.E (b9 c V.D (i:Int)) (i:Int))).toArray,.agg #[i6 ((kF c.E (b9 c V.D (i:Int)) (i:Int):Nat):Int),i6 ((hZ c.E (b9 c V.D (i:Int)) (i:Int):Nat):Int)]]) (.l [] [] [((H 9).val 0)]) bg [0,2,3,4,5,6,7] [(1,1)] [9,10] (hf:=by kernel_rfl)
theorem zB(v f:Nat):aa WJ 117 #[.agg #[iN v,iN f]] [] [] N0 (λ_=>i6 (cc v)):=by
 refine fG Tryz.func117 λw cs=>ra (λb=>[(1,pt (B0 b) 0),(2,i6 0)]) (λb=>[ob (B0 b) #[iN v,iN f] 79]) λb=>r0 [(1,.l 0)] [(4,iN v)] [] (r0 [] [(5,.bool ((v:Int)==3))] [] ?_);refine cN (v:Int) 3 (λa c=>?_) λa c=>?_
 ·exact r0 [] [(2,i6 40)] [2] (ao (i6 40) ab.zero (by unfold cc;(repeat (first | rw[a] | rw[ALct]))) [] [] [])
 refine r0 [] [(7,.bool ((v:Int)==2))] [] ?_;refine cN (v:Int) 2 (λe d=>?_) λe d=>?_
 ·exact r0 [] [(2,i6 41)] [2] (ao (i6 41) ab.zero (by unfold cc;(repeat (first | rw[a] | rw[e] | rw[ALct] | rw[ALcf]))) [] [] [])
 exact r0 [] [(2,i6 0)] [2] (ao (i6 0) ab.zero (by unfold cc;(repeat (first | rw[a] | rw[e] | rw[ALcf]))) [] [] [])
theorem Fl(h e a f g k j i l:Nat)(c:Cf)(r:Rp)(p:aK r)(d time:Nat)(v:Value)(n:Nat)(o:n<(r.m.R*r.m.B*r.m.M-r.m.res)*r.m.C):aa WJ 116 #[pt h 0,iN n] [ob h #[pt e 0,pt i 0,pt l 0,iN d,v] 119,ob e (lA c a k j time) 122,pk (ar a f g r)] [2] (λ_=>[pk (ar a f g r)]) (λ_=> .tuple #[.agg #[i6 ((aN r.m r.j n:Nat):Int),i6 ((au r.m n:Nat):Int),i6 ((aB r.m.G r.m.R r.m.B r.m.M (au r.m n):Nat):Int)],i6 0]):=by
 exact fG Tryz.func116 λw cs=>ra (λb=>[(4,pt (B0 b) 0),(5,i6 0)]) (λb=>[ob (B0 b) #[i6 0,i6 0,i6 0] 180]) λb=>r0 [(3,.m (ld 0 (pt e 0))),(6,.m (ld 1 (pt a 0))),(8,.c [2] [2] (Ph a f g r p n o)),] [(6,i6 ((aN r.m r.j n:Nat):Int)),(7,i6 ((au r.m n:Nat):Int)),(8,i6 ((aB r.m.G r.m.R r.m.B r.m.M (au r.m n):Nat):Int)),(9,i6 0)] [] (rF [] 25 (rr (λ_=>[(4,.s 3)]) (λ_=>[(5,i6 0)]) [5] (λ_ L=>L.set 3 (ob (B0 b) #[i6 ((aN r.m r.j n:Nat):Int),i6 ((au r.m n:Nat):Int),i6 ((aB r.m.G r.m.R r.m.B r.m.M (au r.m n):Nat):Int)] 180)) λq=>ao (.tuple #[.agg #[i6 ((aN r.m r.j n:Nat):Int),i6 ((au r.m n:Nat):Int),i6 ((aB r.m.G r.m.R r.m.B r.m.M (au r.m n):Nat):Int)],i6 0]) ab.zero bg [2] [(0,0),(1,1)] [3]))
theorem Fm(h e a f g k j i l:Nat)(c:Cf)(r:Rp)(p:aK r)(d time:Nat)(v:Value)(n:Int)(o:bK n (((r.m.R*r.m.B*r.m.M-r.m.res)*r.m.C:Nat):Int)=false):aa WJ 116 #[pt h 0,i6 n] [ob h #[pt e 0,pt i 0,pt l 0,iN d,v] 119,ob e (lA c a k j time) 122,pk (ar a f g r)] [2] (λ_=>[pk (ar a f g r)]) (λ_=> .tuple #[.agg #[i6 0,i6 0,i6 0],i6 30]):=by
 exact fG Tryz.func116 λw cs=>ra (λb=>[(4,pt (B0 b) 0),(5,i6 0)]) (λb=>[ob (B0 b) #[i6 0,i6 0,i6 0] 180]) λb=>r0 [(3,.m (ld 0 (pt e 0))),(6,.m (ld 1 (pt a 0))),(8,.c [2] [2] (Pj a f g r p n o)),] [(6,i6 0),(7,i6 0),(8,i6 0),(9,i6 12)] [] (rT [] 25 (r0 [(1,.s 3)] [(5,i6 30)] [5] (lf ab.zero [2] [(0,0),(1,1)] [3])))
theorem Fo(i m o t u k z j f q g:Nat)(c:Cf)(s:Le)(a:Nat)(ns:List Nt)(V:Dv)(K A:Nat)(h:bp c ⟨s,a,ns,V⟩ K A)(v:Value)(hA:A≤700000)(J:K+3≤1000000000)(n:Nat)(M:n<(c.R*c.B*c.M-c.res)*c.C)(b:Bool):aa WJ 83 #[pt i 0,iN n,.bool b] [ob i #[pt m 0,pt f 0,pt g 0,iN a,v] 119,ob m (lA c o k j s.time) 122,pk (ar o t u s.r),pk (aD k z s.k),pk (az j s.g),pk (dJ g),pk (bk f q c V),b3 v ns] [0,2,3,4,5,6,7] (λE=>[ob i #[pt m 0,pt f 0,pt g 0,iN a,(E.val 0)] 119,pk (ar o t u (cu c (⟨s,a,ns,V⟩:Ct) n b).s.r),pk (aD k z (cu c (⟨s,a,ns,V⟩:Ct) n b).s.k),pk (az j (cu c (⟨s,a,ns,V⟩:Ct) n b).s.g),pk (dJ g),pk (bk f q c (cu c (⟨s,a,ns,V⟩:Ct) n b).V),b3 (E.val 0) ((cu c (⟨s,a,ns,V⟩:Ct) n b).ns)]) (λ_=> .tuple #[.agg (rB 64 (cC c (⟨s,a,ns,V⟩:Ct) (aU (⟨s,a,ns,V⟩:Ct) n))).toArray,i6 (cc (bB c (⟨s,a,ns,V⟩:Ct) (aU (⟨s,a,ns,V⟩:Ct) n)))]):=by
 have p:=h.cf;have S:=p.E;have R:=p.E;have N:=h.dv Om;have O:=h.nl;have d:=vD h M;have P:=h.s.r;have Q:=vE h M J;have D:=Q.dv Om;have y:=d.1;have x:=d.2.1;have F:=d.2.2.1;have I:=d.2.2.2.1;have H:=d.2.2.2.2;have G:(cC c (⟨s,a,ns,V⟩:Ct) (aN s.r.m s.r.j n)).length=64:=ow c.E (nD h.D _) _;refine fG Tryz.func83 λw cs=>ra (λr=>[(6,pt (B0 r) 0),(7,i6 0)]) (λr=>[ob (B0 r) (rB 64 z6).toArray 43]) λr=>rr (λ_=>[(2,.c [0,1,2] [2] (Fl i m o t u k j f g c s.r P a s.time v n H)),(7,.s 9)]) (λB=>[(8,pt (B6 B) 0),(9,i6 0)]) [] (λB L=>L++[ob (B6 B) #[i6 ((aN s.r.m s.r.j n:Nat):Int),i6 ((au s.r.m n:Nat):Int),i6 ((aB s.r.m.G s.r.m.R s.r.m.B s.r.m.M (au s.r.m n):Nat):Int)] 180]) λB=>rF [] 19 (rr (λ_=>[(1,.l 9),(2,.c [0,1,2,3,4,5,6,7] [0,2,3,4,5,6,7] (zA i m o t u k z j f q g c s a ns V _ _ h v hA J (aN s.r.m s.r.j n) (au s.r.m n) (aB s.r.m.G s.r.m.R s.r.m.B s.r.m.M (au s.r.m n)) y x F I)),(8,.s 10),(9,.s 11)]) (λe=>[(10,pt (B6 e) 0),(11,pt (B7 e) 0)]) [] (λe L=>(((((L.set 0 (ob i #[pt m 0,pt f 0,pt g 0,iN a,((e 2).val 0)] 119)).set 2 ((pk (ar o t u (bZ c (⟨s,a,ns,V⟩:Ct) (aN s.r.m s.r.j n) (au s.r.m n) (aB s.r.m.G s.r.m.R s.r.m.B s.r.m.M (au s.r.m n))).s.r)))).set 3 ((pk (aD k z (bZ c (⟨s,a,ns,V⟩:Ct) (aN s.r.m s.r.j n) (au s.r.m n) (aB s.r.m.G s.r.m.R s.r.m.B s.r.m.M (au s.r.m n))).s.k)))).set 4 ((pk (az j (bZ c (⟨s,a,ns,V⟩:Ct) (aN s.r.m s.r.j n) (au s.r.m n) (aB s.r.m.G s.r.m.R s.r.m.B s.r.m.M (au s.r.m n))).s.g)))).set 6 ((pk (bk f q c (bZ c (⟨s,a,ns,V⟩:Ct) (aN s.r.m s.r.j n) (au s.r.m n) (aB s.r.m.G s.r.m.R s.r.m.B s.r.m.M (au s.r.m n))).V)))).set 7 (b3 ((e 2).val 0) ((bZ c (⟨s,a,ns,V⟩:Ct) (aN s.r.m s.r.j n) (au s.r.m n) (aB s.r.m.G s.r.m.R s.r.m.B s.r.m.M (au s.r.m n))).ns))++[ob (B6 e) (rB 64 (cC c (⟨s,a,ns,V⟩:Ct) (aN s.r.m s.r.j n))).toArray 43,ob (B7 e) #[i6 ((bB c (⟨s,a,ns,V⟩:Ct) (aN s.r.m s.r.j n):Nat):Int),i6 ((hZ c.E (kg c (⟨s,a,ns,V⟩:Ct) (aN s.r.m s.r.j n)) ((aN s.r.m s.r.j n):Int):Nat):Int)] 79]) λe=>r0 [(1,.l 11)] [(33,.bool ((((bB c (⟨s,a,ns,V⟩:Ct) (aN s.r.m s.r.j n):Nat):Int)==1)&&b))] [] ?_);refine cB ((((bB c (⟨s,a,ns,V⟩:Ct) (aN s.r.m s.r.j n):Nat):Int)==1)&&b) (λC=>?_) λC=>?_
 ·exact rr (λ_=>[(2,.l 9),(3,.l 10),(4,.c [0,1,5,6] [5,6] (pn i m o k j f q g c p a s.time ((e 2).val 0) ((bZ c (⟨s,a,ns,V⟩:Ct) (aN s.r.m s.r.j n) (au s.r.m n) (aB s.r.m.G s.r.m.R s.r.m.B s.r.m.M (au s.r.m n))).V) D (aN s.r.m s.r.j n) y x (cC c (⟨s,a,ns,V⟩:Ct) (aN s.r.m s.r.j n)) (by(simp only[LL,G];done)) false))]) N0 [] (λ_ L=>L.set 6 ((pk (bk f q c (iz ((bZ c (⟨s,a,ns,V⟩:Ct) (aN s.r.m s.r.j n) (au s.r.m n) (aB s.r.m.G s.r.m.R s.r.m.B s.r.m.M (au s.r.m n))).V) ((aN s.r.m s.r.j n):Int) (fS c.E (cC c (⟨s,a,ns,V⟩:Ct) (aN s.r.m s.r.j n)) ((aN s.r.m s.r.j n):Int) false) (bif false then 1 else 0)))))) λT=>rr (λ_=>[(0,.l 10),(1,.l 11),(2,.c [] [] (zB (bB c (⟨s,a,ns,V⟩:Ct) (aN s.r.m s.r.j n)) (hZ c.E (kg c (⟨s,a,ns,V⟩:Ct) (aN s.r.m s.r.j n)) ((aN s.r.m s.r.j n):Int)))),(3,.s 8)]) (λ_=>[(7,i6 (cc (bB c (⟨s,a,ns,V⟩:Ct) (aN s.r.m s.r.j n))))]) [7] (λ_ L=>L.set 8 (ob (B0 r) (rB 64 (cC c (⟨s,a,ns,V⟩:Ct) (aN s.r.m s.r.j n))).toArray 43)) λU=>ao (.tuple #[.agg (rB 64 (cC c (⟨s,a,ns,V⟩:Ct) (aN s.r.m s.r.j n))).toArray,i6 (cc (bB c (⟨s,a,ns,V⟩:Ct) (aN s.r.m s.r.j n)))]) (.l [] [] [((e 2).val 0)]) bg [0,2,3,4,5,6,7] [(1,1)] [8] (hf:=by unfold cu ki jS aU jP jR;dsimp only;(repeat (first | rw[C] | rw[ALct] | rw[ALcf]));kernel_rfl)
 exact rr (λ_=>[(0,.l 10),(1,.l 11),(2,.c [] [] (zB (bB c (⟨s,a,ns,V⟩:Ct) (aN s.r.m s.r.j n)) (hZ c.E (kg c (⟨s,a,ns,V⟩:Ct) (aN s.r.m s.r.j n)) ((aN s.r.m s.r.j n):Int)))),(3,.s 8)]) (λ_=>[(7,i6 (cc (bB c (⟨s,a,ns,V⟩:Ct) (aN s.r.m s.r.j n))))]) [7] (λ_ L=>L.set 8 (ob (B0 r) (rB 64 (cC c (⟨s,a,ns,V⟩:Ct) (aN s.r.m s.r.j n))).toArray 43)) λW=>ao (.tuple #[.agg (rB 64 (cC c (⟨s,a,ns,V⟩:Ct) (aN s.r.m s.r.j n))).toArray,i6 (cc (bB c (⟨s,a,ns,V⟩:Ct) (aN s.r.m s.r.j n)))]) (.l [] [] [((e 2).val 0)]) bg [0,2,3,4,5,6,7] [(1,1)] [8] (hf:=by unfold cu ki jS aU jP jR;dsimp only;(repeat (first | rw[C] | rw[ALcf]));kernel_rfl)
def bG(c:Cf)(x:Ct)(n:Nat)(l:List UInt8)(m:Nat):Ct:=ki x<| bif (m:Int)==0 then x else bif decide (pc m=64) then nH c x (aU x n) l false else bif !(cc (bB c x (aU x n))==0) then nH c (jS c x n) (aU x n) z6 true else nH c (jS c x n) (aU x n) (iM (cC c x (aU x n)) l m) false
def cd(c:Cf)(x:Ct)(n m:Nat):Int:=bif (m:Int)==0 then 30 else bif decide (pc m=64) then 0 else bif !(cc (bB c x (aU x n))==0) then cc (bB c x (aU x n)) else 0
theorem zC(l o:List UInt8)(m:Nat):(iM l o m).length=l.length:=vq o _ l
theorem zD{c:Cf}{x:Ct}{K A:Nat}(h:bp c x K A){n:Nat}(e:n<(c.R*c.B*c.M-c.res)*c.C){l:List UInt8}(d:l.length=64)(m:Nat)(b:K+3≤1000000000):bp c (bG c x n l m) (K+3) (A+2):=by
 have a:=vE h e b;unfold bG;refine h.fix ?_;cases (m:Int)==0
 ·cases decide (pc m=64)
  ·cases !(cc (bB c x (aU x n))==0)
   ·exact qj a ((zC ..).trans (ow _ (nD h.D _) _)) false
   ·exact qj a WN true
  ·exact(qj h d false).mono Om Om
 ·exact h.mono Om Om
def iS(c:Cf)(x:Ct):Ct:={x with U:=(x.U+1)%((c.R*c.B*c.M-c.res)*c.C)}
def k8(c:Cf)(x:Ct):Ct:=cu c (iS c x) x.U true
theorem vG{c:Cf}{x:Ct}{K A:Nat}(h:bp c x K A):bp c (iS c x) K A:=⟨h.cf,h.s,h.D,h.gl,h.vl,h.nl,h.ly,h.run,Nat.mod_lt _ (by have:=h.U;omega),h.time⟩
theorem SC{c:Cf}{x:Ct}{K A:Nat}(h:bp c x K A)(a:K+3≤1000000000):bp c (k8 c x) (K+3) (A+2):=Fi (vG h) h.U true a
theorem zE(l y:List UInt8)(m:Nat)(b:l.length=64)(d:y.length=64)(c:m<18446744073709551616):aa WJ 94 #[.agg (rB 64 l).toArray,.agg (rB 64 y).toArray,u6 (m:Int)] [] [] N0 (λ_=> .agg (rB 64 (iM l y m)).toArray):=by
 have a:=QS l y m b d c;rwa [Xc] at a
theorem SD(b d o j k i p g a f e:Nat)(c:Cf)(x:Ct)(K A:Nat)(h:bp c x K A)(hA:A≤700000)(u:K+3≤1000000000)(n:Nat)(B:n<((c.R*c.B*c.M-c.res)*c.C)):aa WJ 91 #[pt b 0,iN n] [pk (aQ b d o j k i p g a f e c x)] [0] (λ_=>[pk (aQ b d o j k i p g a f e c (cu c x n c.X))]) (λ_=> .tuple #[.agg (rB 64 (cC c x (aU x n))).toArray,i6 (cc (bB c x (aU x n)))]):=aa.pkZ Tryz.func91 λL y=>by
 obtain⟨v,rfl⟩:=y;refine⟨[0,2,3,4,5,6,7],λE=>[ob b #[pt d 0,pt a 0,pt e 0,iN x.U,(E.val 0)] 119,pk (ar o j k (cu c x n c.X).s.r),pk (aD i p (cu c x n c.X).s.k),pk (az g (cu c x n c.X).s.g),pk (dJ e),pk (bk a f c (cu c x n c.X).V),b3 (E.val 0) ((cu c x n c.X).ns)],?_,rfl,λE=>⟨rfl,rfl,⟨_,rfl⟩⟩⟩;have q:=h.cf;have F:=q.E;have D:=q.E;have z:=h.dv Om;have C:=h.nl;exact fG Tryz.func91 λw cs=>ra (λr=>[(4,pt (B0 r) 0),(5,i6 0)]) (λr=>[ob (B0 r) (rB 64 z6).toArray 43]) λr=>rr (λ_=>[(5,.m (ld 0 (pt d 0))),(9,.m (ld 1 (.bool c.X))),(10,.c [0,1,2,3,4,5,6,7] [0,2,3,4,5,6,7] (Fo b d o j k i p g a f e c x.s x.U x.ns x.V _ _ h v hA u n B c.X)),(13,.s 8)]) (λ_=>[(5,i6 (cc (bB c x (aU x n))))]) [5] (λt L=>((((((L.set 0 (ob b #[pt d 0,pt a 0,pt e 0,iN x.U,((t 10).val 0)] 119)).set 2 ((pk (ar o j k (cu c x n c.X).s.r)))).set 3 ((pk (aD i p (cu c x n c.X).s.k)))).set 4 ((pk (az g (cu c x n c.X).s.g)))).set 6 ((pk (bk a f c (cu c x n c.X).V)))).set 7 (b3 ((t 10).val 0) ((cu c x n c.X).ns))).set 8 (ob (B0 r) (rB 64 (cC c x (aU x n))).toArray 43)) λt=>ao (.tuple #[.agg (rB 64 (cC c x (aU x n))).toArray,i6 (cc (bB c x (aU x n)))]) (.l [] [] [((t 10).val 0)]) bg [0,2,3,4,5,6,7] [(1,1)] [8] (hf:=by kernel_rfl)
theorem SE(l m i o p f t e d r g:Nat)(c:Cf)(s:Le)(a:Nat)(ns:List Nt)(V:Dv)(K A:Nat)(h:bp c ⟨s,a,ns,V⟩ K A)(v:Value)(n:Int)(u:bK n ((((c.R*c.B*c.M-c.res)*c.C):Nat):Int)=false)(b:Bool):aa WJ 83 #[pt l 0,i6 n,.bool b] [ob l #[pt m 0,pt d 0,pt g 0,iN a,v] 119,ob m (lA c i f e s.time) 122,pk (ar i o p s.r),pk (aD f t s.k),pk (az e s.g),pk (dJ g),pk (bk d r c V),b3 v ns] [2,3,4,5,6,7] (λ_=>[pk (ar i o p s.r),pk (aD f t s.k),pk (az e s.g),pk (dJ g),pk (bk d r c V),b3 v ns]) (λ_=> .tuple #[.agg (rB 64 z6).toArray,i6 30]):=by
 have x:=h.s.r;have q:bK n (((s.r.m.R*s.r.m.B*s.r.m.M-s.r.m.res)*s.r.m.C:Nat):Int)=false:=by rw[h.ly.R,h.ly.B,h.ly.M,h.ly.C,h.ly.res];exact u
 exact fG Tryz.func83 λw cs=>ra (λj=>[(6,pt (B0 j) 0),(7,i6 0)]) (λj=>[ob (B0 j) (rB 64 z6).toArray 43]) λj=>rr (λ_=>[(2,.c [0,1,2] [2] (Fm l m i o p f e d g c s.r x a s.time v n q)),(7,.s 9)]) (λk=>[(8,pt (B6 k) 0),(9,i6 30)]) [] (λk L=>L++[ob (B6 k) #[i6 0,i6 0,i6 0] 180]) λk=>rT [] 19 (r0 [(2,.s 8)] [(7,i6 30)] [7] (lf ab.zero [2,3,4,5,6,7] [(0,0),(1,1)] [8]))
theorem SF(b i o j l g p f d e k:Nat)(c:Cf)(x:Ct)(K A:Nat)(h:bp c x K A)(n:Int)(r:bK n ((((c.R*c.B*c.M-c.res)*c.C):Nat):Int)=false):aa WJ 91 #[pt b 0,i6 n] [pk (aQ b i o j l g p f d e k c x)] [0] (λ_=>[pk (aQ b i o j l g p f d e k c x)]) (λ_=> .tuple #[.agg (rB 64 z6).toArray,i6 30]):=aa.pkZ Tryz.func91 λL q=>by
 obtain⟨v,rfl⟩:=q;refine⟨[2,3,4,5,6,7],λ_=>[pk (ar o j l x.s.r),pk (aD g p x.s.k),pk (az f x.s.g),pk (dJ k),pk (bk d e c x.V),b3 v x.ns],?_,rfl,λE=>⟨rfl,rfl,⟨_,rfl⟩⟩⟩;exact fG Tryz.func91 λw cs=>ra (λa=>[(4,pt (B0 a) 0),(5,i6 0)]) (λa=>[ob (B0 a) (rB 64 z6).toArray 43]) λa=>rr (λ_=>[(5,.m (ld 0 (pt i 0))),(9,.m (ld 1 (.bool c.X))),(10,.c [0,1,2,3,4,5,6,7] [2,3,4,5,6,7] (SE b i o j l g p f d e k c x.s x.U x.ns x.V _ _ h v n r c.X)),(13,.s 8)]) (λ_=>[(5,i6 30)]) [5] (λ_ L=>L.set 8 (ob (B0 a) (rB 64 z6).toArray 43)) λt=>lf ab.zero [2,3,4,5,6,7] [(0,0),(1,1)] [8]
theorem Fp(j q r D F o I k b g i:Nat)(c:Cf)(x:Ct)(K A:Nat)(h:bp c x K A)(hA:A≤700000)(W:K+3≤1000000000)(n:Nat)(X:n<((c.R*c.B*c.M-c.res)*c.C))(u:Value)(l:List UInt8)(hl:l.length=64)(m:Nat)(H:m<18446744073709551616)(v:Value):aa WJ 93 #[pt j 0,iN n,u,u6 (m:Int)] [ob j #[pt q 0,pt b 0,pt i 0,iN x.U,v] 119,ob q (lA c r o k x.s.time) 122,pk (ar r D F x.s.r),pk (aD o I x.s.k),pk (az k x.s.g),pk (dJ i),pk (bk b g c x.V),b3 v x.ns,.p (aG eB u l)] [0,2,3,4,5,6,7] (λE=>[ob j #[pt q 0,pt b 0,pt i 0,iN x.U,(E.val 0)] 119,pk (ar r D F (bG c x n l m).s.r),pk (aD o I (bG c x n l m).s.k),pk (az k (bG c x n l m).s.g),pk (dJ i),pk (bk b g c (bG c x n l m).V),b3 (E.val 0) ((bG c x n l m).ns)]) (λ_=>i6 (cd c x n m)):=by
 have e:=h.cf;have hm:=e.E;have HM:=e.E;have P:=h.dv Om;have Z:=h.nl;have f:=vD h X;have hr:=h.s.r;have ht:=vE h X W;have G:=ht.dv Om;have z:=f.1;have y:=f.2.1;have Q:=f.2.2.1;have U:=f.2.2.2.1;have S:=f.2.2.2.2;have R:(cC c x (aN x.s.r.m x.s.r.j n)).length=64:=ow c.E (nD h.D _) _;have Y:=(zC (cC c x (aN x.s.r.m x.s.r.j n)) l m).trans R;have hz6:z6.length=64:=WN;refine fO Tryz.func93 8 rfl λN T=>fG Tryz.func93 λw cs=>r0 [] [(8,i6 0)] [] (rr (λ_=>[(2,.c [0,1,2] [2] (Fl j q r D F o k b i c x.s.r hr x.U x.s.time v n S)),(7,.s 9)]) (λJ=>[(9,pt (B6 J) 0),(10,i6 0)]) [] (λJ L=>L++[ob (B6 J) #[i6 ((aN x.s.r.m x.s.r.j n:Nat):Int),i6 ((au x.s.r.m n:Nat):Int),i6 ((aB x.s.r.m.G x.s.r.m.R x.s.r.m.B x.s.r.m.M (au x.s.r.m n):Nat):Int)] 180]) λJ=>rr (λ_=>[(1,.c [8] [] (aa.at (rd':=[.c N]) (Ep u l (by with_reducible assumption)) (ec T (λ_ h=>h)))),(6,.s 10)]) (λM=>[(11,pt (B5 M) 0),(12,i6 0)]) [] (λM L=>L++[ob (B5 M) (rB 64 l).toArray 43]) λM=>r0 [] [(27,.bool ((m:Int)==0))] [] ?_);refine cN (m:Int) 0 (λt O=>?_) λt O=>?_
 ·exact r0 [] [(8,i6 30)] [8] (ao (i6 30) (.l [] [] [v]) (by unfold cd aU;(repeat (first | rw[t] | rw[ALct]))) [0,2,3,4,5,6,7] [(1,1),(8,8)] [] (hf:=by unfold bG ki jS aU jP jR;dsimp only;(repeat (first | rw[t] | rw[ALct]));kernel_rfl))
 refine r0 [(1,.c [] [] (QN m H))] [(38,.bool (decide (pc m=64)))] [] ?_;refine cB (decide (pc m=64)) (λB=>?_) λB=>?_
 ·exact rr (λ_=>[(2,.l 9),(3,.l 10),(4,.c [0,1,5,6] [5,6] (pn j q r o k b g i c e x.U x.s.time v x.V (by with_reducible exact P) (aN x.s.r.m x.s.r.j n) z y l (by with_reducible assumption) false))]) N0 [] (λ_ L=>L.set 6 ((pk (bk b g c (iz x.V ((aN x.s.r.m x.s.r.j n):Int) (fS c.E l ((aN x.s.r.m x.s.r.j n):Int) false) (bif false then 1 else 0)))))) λq9=>r0 [] [(8,i6 0)] [8] (ao (i6 0) (.l [] [] [v]) (by unfold cd aU;(repeat (first | rw[t] | rw[B] | rw[ALct] | rw[ALcf]))) [0,2,3,4,5,6,7] [(1,1),(8,8)] [] (hf:=by unfold bG ki jS aU jP jR;dsimp only;(repeat (first | rw[t] | rw[B] | rw[ALct] | rw[ALcf]));kernel_rfl))
 refine rr (λ_=>[(1,.l 9),(2,.c [0,1,2,3,4,5,6,7] [0,2,3,4,5,6,7] (zA j q r D F o I k b g i c x.s x.U x.ns x.V _ _ h v hA W (aN x.s.r.m x.s.r.j n) (au x.s.r.m n) (aB x.s.r.m.G x.s.r.m.R x.s.r.m.B x.s.r.m.M (au x.s.r.m n)) z y Q U)),(8,.s 11),(9,.s 12)]) (λa=>[(13,pt (B6 a) 0),(14,pt (B7 a) 0)]) [] (λa L=>(((((L.set 0 (ob j #[pt q 0,pt b 0,pt i 0,iN x.U,((a 2).val 0)] 119)).set 2 ((pk (ar r D F (bZ c x (aN x.s.r.m x.s.r.j n) (au x.s.r.m n) (aB x.s.r.m.G x.s.r.m.R x.s.r.m.B x.s.r.m.M (au x.s.r.m n))).s.r)))).set 3 ((pk (aD o I (bZ c x (aN x.s.r.m x.s.r.j n) (au x.s.r.m n) (aB x.s.r.m.G x.s.r.m.R x.s.r.m.B x.s.r.m.M (au x.s.r.m n))).s.k)))).set 4 ((pk (az k (bZ c x (aN x.s.r.m x.s.r.j n) (au x.s.r.m n) (aB x.s.r.m.G x.s.r.m.R x.s.r.m.B x.s.r.m.M (au x.s.r.m n))).s.g)))).set 6 ((pk (bk b g c (bZ c x (aN x.s.r.m x.s.r.j n) (au x.s.r.m n) (aB x.s.r.m.G x.s.r.m.R x.s.r.m.B x.s.r.m.M (au x.s.r.m n))).V)))).set 7 (b3 ((a 2).val 0) ((bZ c x (aN x.s.r.m x.s.r.j n) (au x.s.r.m n) (aB x.s.r.m.G x.s.r.m.R x.s.r.m.B x.s.r.m.M (au x.s.r.m n))).ns))++[ob (B6 a) (rB 64 (cC c x (aN x.s.r.m x.s.r.j n))).toArray 43,ob (B7 a) #[i6 ((bB c x (aN x.s.r.m x.s.r.j n):Nat):Int),i6 ((hZ c.E (kg c x (aN x.s.r.m x.s.r.j n)) ((aN x.s.r.m x.s.r.j n):Int):Nat):Int)] 79]) λa=>r0 [(0,.l 12),(1,.c [] [] (zB (bB c x (aN x.s.r.m x.s.r.j n)) (hZ c.E (kg c x (aN x.s.r.m x.s.r.j n)) ((aN x.s.r.m x.s.r.j n):Int))))] [(15,i6 (cc (bB c x (aN x.s.r.m x.s.r.j n))))] [] (r0 [] [(55,.bool ((cc (bB c x (aN x.s.r.m x.s.r.j n))) != 0))] [] ?_);refine m9 (cc (bB c x (aN x.s.r.m x.s.r.j n))) 0 (λd C=>?_) λd C=>?_
 ·exact rr (λ_=>[(2,.l 9),(4,.c [0,1,5,6] [5,6] (pn j q r o k b g i c e x.U x.s.time ((a 2).val 0) ((bZ c x (aN x.s.r.m x.s.r.j n) (au x.s.r.m n) (aB x.s.r.m.G x.s.r.m.R x.s.r.m.B x.s.r.m.M (au x.s.r.m n))).V) (by exact G) (aN x.s.r.m x.s.r.j n) z y z6 (by with_reducible assumption) true))]) N0 [] (λ_ L=>L.set 6 ((pk (bk b g c (iz ((bZ c x (aN x.s.r.m x.s.r.j n) (au x.s.r.m n) (aB x.s.r.m.G x.s.r.m.R x.s.r.m.B x.s.r.m.M (au x.s.r.m n))).V) ((aN x.s.r.m x.s.r.j n):Int) (fS c.E z6 ((aN x.s.r.m x.s.r.j n):Int) true) (bif true then 1 else 0)))))) λq15=>r0 [] [(8,i6 (cc (bB c x (aN x.s.r.m x.s.r.j n))))] [8] (ao (i6 (cc (bB c x (aN x.s.r.m x.s.r.j n)))) (.l [] [] [((a 2).val 0)]) (by unfold cd aU;(repeat (first | rw[t] | rw[B] | rw[d] | rw[ALct] | rw[ALcf]))) [0,2,3,4,5,6,7] [(1,1),(8,8)] [] (hf:=by unfold bG ki jS aU jP jR;dsimp only;(repeat (first | rw[t] | rw[B] | rw[d] | rw[ALct] | rw[ALcf]));kernel_rfl))
 exact rs [(2,.l 9),(3,.l 11),(4,.l 10),(6,.c [] [] (zE (cC c x (aN x.s.r.m x.s.r.j n)) l m (by with_reducible assumption) (by with_reducible assumption) H)),(7,.c [0,1,5,6] [5,6] (pn j q r o k b g i c e x.U x.s.time ((a 2).val 0) ((bZ c x (aN x.s.r.m x.s.r.j n) (au x.s.r.m n) (aB x.s.r.m.G x.s.r.m.R x.s.r.m.B x.s.r.m.M (au x.s.r.m n))).V) (by exact G) (aN x.s.r.m x.s.r.j n) z y (iM (cC c x (aN x.s.r.m x.s.r.j n)) l m) (by with_reducible assumption) false))] 6 ((pk (bk b g c (iz ((bZ c x (aN x.s.r.m x.s.r.j n) (au x.s.r.m n) (aB x.s.r.m.G x.s.r.m.R x.s.r.m.B x.s.r.m.M (au x.s.r.m n))).V) ((aN x.s.r.m x.s.r.j n):Int) (fS c.E (iM (cC c x (aN x.s.r.m x.s.r.j n)) l m) ((aN x.s.r.m x.s.r.j n):Int) false) (bif false then 1 else 0))))) (r0 [] [(8,i6 0)] [8] (ao (i6 0) (.l [] [] [((a 2).val 0)]) (by unfold cd aU;(repeat (first | rw[t] | rw[B] | rw[d] | rw[ALcf]))) [0,2,3,4,5,6,7] [(1,1),(8,8)] [] (hf:=by unfold bG ki jS aU jP jR;dsimp only;(repeat (first | rw[t] | rw[B] | rw[d] | rw[ALcf]));kernel_rfl)))
theorem Fq(a i o j k g q f b e d:Nat)(c:Cf)(x:Ct)(K A:Nat)(h:bp c x K A)(hA:A≤700000)(t:K+3≤1000000000)(n:Nat)(z:n<((c.R*c.B*c.M-c.res)*c.C))(u:Value)(l:List UInt8)(y:l.length=64)(m:Nat)(r:m<18446744073709551616):aa WJ 93 #[pt a 0,iN n,u,u6 (m:Int)] [pk (aQ a i o j k g q f b e d c x),.p (aG eB u l)] [0] (λ_=>[pk (aQ a i o j k g q f b e d c (bG c x n l m))]) (λ_=>i6 (cd c x n m)):=aa.pkZ Tryz.func93 λL w=>by
 obtain⟨v,rfl⟩:=w;exact⟨[0,2,3,4,5,6,7],λE=>[ob a #[pt i 0,pt b 0,pt d 0,iN x.U,(E.val 0)] 119,pk (ar o j k (bG c x n l m).s.r),pk (aD g q (bG c x n l m).s.k),pk (az f (bG c x n l m).s.g),pk (dJ d),pk (bk b e c (bG c x n l m).V),b3 (E.val 0) ((bG c x n l m).ns)],Fp a i o j k g q f b e d c x K A h hA t n z u l y m r v,rfl,λE=>⟨rfl,rfl,⟨_,rfl⟩⟩⟩
section
section
variable {R S B M C way r b w:Nat}
theorem SG(g:b6 R S B M C)(c:r<R)(a:b<B)(d:w<M):ka way R B M r b w<R*B*M:=by
 have e:R*B*M=M*B*R:=by rw[Xl (R*B),Xl R,←Xi]
 have f:R*B*M=R*M*B:=by rw[Xi,Xl B,Xi]
 match way with
 | 0=>exact sb d a c
 | 1=>rw[f];exact sb a d c
 | 2=>rw[e];exact sb c a d
 | k+3=>rw[e];exact sb c (o2 g.pow a) d
theorem SH(e:b6 R S B M C)(c:r<R)(a:b<B)(d:w<M):aB way R B M (ka way R B M r b w)=r∧cQ way R B M (ka way R B M r b w)=b∧cV way R B M (ka way R B M r b w)=w:=by
 match way with
 | 0=>
  have h:=uX d a c;exact⟨ALca (·.getD 2 0) h,ALca (·.getD 1 0) h,ALca (·.getD 0 0) h⟩
 | 1=>
  have h:=uX a d c;exact⟨ALca (·.getD 2 0) h,ALca (·.getD 0 0) h,ALca (·.getD 1 0) h⟩
 | 2=>
  have h:=uX c a d;exact⟨ALca (·.getD 0 0) h,ALca (·.getD 1 0) h,ALca (·.getD 2 0) h⟩
 | k+3=>
  have h:=uX c (o2 e.pow a (r:=w)) d;refine⟨ALca (·.getD 0 0) h,?_,ALca (·.getD 2 0) h⟩;show eH B ((aC (dH [r,eH B w b,w] [R,B,M] 3) [R,B,M] 3).getD 2 0) ((aC (dH [r,eH B w b,w] [R,B,M] 3) [R,B,M] 3).getD 1 0)=b;rw[show aC (dH [r,eH B w b,w] [R,B,M] 3) [R,B,M] 3=[r,eH B w b,w] from h];exact Dt B w b
end
def cj(r:Rp):Nat:=if r.j.A=1 then r.j.fr else ka r.m.G r.m.R r.m.B r.m.M r.j.fr (r.j.nx/r.m.C/r.m.M) (r.j.nx/r.m.C%r.m.M)
def dx(r:Rp):Nat:=if r.j.A=1 then aB r.m.G r.m.R r.m.B r.m.M r.j.fr else r.j.fr
theorem Fs{r:Rp}(h:aK r)(d:r.j.A≠0)(c:r.j.nx<ft r.j.A r.m.B r.m.M r.m.C):cj r<r.m.R*r.m.B*r.m.M∧dx r<r.m.R∧fT r.m.R r.m.S r.m.B r.m.M r.m.C (a7 r.m r.j.A r.j.fr r.j.nx)∧fT r.m.R r.m.S r.m.B r.m.M r.m.C (a7 r.m r.j.A r.j.tg r.j.nx):=by
 unfold cj dx;rcases h.j.k with e | ⟨e,a⟩ | ⟨e,a⟩
 ·rw[e] at d;exact absurd rfl d
 ·rw[e] at c⊢;exact⟨a.hf,nu h.m.O,zx h.m a.hf c,zx h.m a.ht c⟩
 ·rw[e] at c⊢;have f:=ny h.m (r:=r.j.fr) (i:=r.j.nx) (by have:=a.hf;omega) c;have:=a.t1;have:=h.m.rk;exact⟨SG h.m.O a.hf f.h1 f.h2,a.hf,zy h.m (by have:=a.hf;omega) c,zy h.m Om c⟩
theorem SI(e i j m o g q f a k d:Nat)(c:Cf)(x:Ct)(K A:Nat)(h:bp c x K A)(hA:A≤700000)(F:K+3≤1000000000)(n:Nat)(I:n<((c.R*c.B*c.M-c.res)*c.C))(u:Value)(l:List UInt8)(O:l.length=64):aa WJ 92 #[pt e 0,iN n,u] [pk (aQ e i j m o g q f a k d c x),.p (aG eB u l)] [0] (λ_=>[pk (aQ e i j m o g q f a k d c (bG c x n l 18446744073709551615))]) (λ_=>i6 (cd c x n 18446744073709551615)):=aa.pkZ Tryz.func92 λL G=>by
 obtain⟨v,rfl⟩:=G;refine⟨[0,2,3,4,5,6,7],λE=>[ob e #[pt i 0,pt a 0,pt d 0,iN x.U,(E.val 0)] 119,pk (ar j m o (bG c x n l 18446744073709551615).s.r),pk (aD g q (bG c x n l 18446744073709551615).s.k),pk (az f (bG c x n l 18446744073709551615).s.g),pk (dJ d),pk (bk a k c (bG c x n l 18446744073709551615).V),b3 (E.val 0) ((bG c x n l 18446744073709551615).ns)],?_,rfl,λE=>⟨rfl,rfl,⟨_,rfl⟩⟩⟩;have t:=h.cf;have P:=t.E;have N:=t.E;have H:=h.dv Om;have J:=h.nl;exact fO Tryz.func92 8 rfl λz D=>fG Tryz.func92 λw cs=>r0 [] [(6,i6 0)] [] (rr (λ_=>[(3,.c [0,1,2,3,4,5,6,7,8] [0,2,3,4,5,6,7] (aa.at (rd':=[ob e #[pt i 0,pt a 0,pt d 0,iN x.U,v] 119,ob i (lA c j g f x.s.time) 122,pk (ar j m o x.s.r),pk (aD g q x.s.k),pk (az f x.s.g),pk (dJ d),pk (bk a k c x.V),b3 v x.ns,.c z]) (Fp e i j m o g q f a k d c x _ _ h hA F n I u l (by with_reducible assumption) 18446744073709551615 Om v) (aP (aP (aP (aP (aP (aP (aP (aP (ec D (λ_ h=>h))))))))))))]) (λ_=>[(6,i6 (cd c x n 18446744073709551615))]) [6] (λy L=>(((((L.set 0 (ob e #[pt i 0,pt a 0,pt d 0,iN x.U,((y 3).val 0)] 119)).set 2 ((pk (ar j m o (bG c x n l 18446744073709551615).s.r)))).set 3 ((pk (aD g q (bG c x n l 18446744073709551615).s.k)))).set 4 ((pk (az f (bG c x n l 18446744073709551615).s.g)))).set 6 ((pk (bk a k c (bG c x n l 18446744073709551615).V)))).set 7 (b3 ((y 3).val 0) ((bG c x n l 18446744073709551615).ns))) λy=>lf (.l [] [] [((y 3).val 0)]) [0,2,3,4,5,6,7] [(1,1),(8,8)] [])
theorem Ft(q t i y z f H e a G g:Nat)(c:Cf)(x:Ct)(K A:Nat)(h:bp c x K A)(n:Int)(I:bK n ((((c.R*c.B*c.M-c.res)*c.C):Nat):Int)=false)(u:Value)(l:List UInt8)(N:l.length=64)(m:Nat)(v:Value):aa WJ 93 #[pt q 0,i6 n,u,u6 (m:Int)] [ob q #[pt t 0,pt a 0,pt g 0,iN x.U,v] 119,ob t (lA c i f e x.s.time) 122,pk (ar i y z x.s.r),pk (aD f H x.s.k),pk (az e x.s.g),pk (dJ g),pk (bk a G c x.V),b3 v x.ns,.p (aG eB u l)] [2,3,4,5,6,7] (λ_=>[pk (ar i y z x.s.r),pk (aD f H x.s.k),pk (az e x.s.g),pk (dJ g),pk (bk a G c x.V),b3 v x.ns]) (λ_=>i6 30):=by
 have J:=h.s.r;have D:bK n (((x.s.r.m.R*x.s.r.m.B*x.s.r.m.M-x.s.r.m.res)*x.s.r.m.C:Nat):Int)=false:=by rw[h.ly.R,h.ly.B,h.ly.M,h.ly.C,h.ly.res];exact I
 exact fO Tryz.func93 8 rfl λo F=>fG Tryz.func93 λw cs=>r0 [] [(8,i6 0)] [] (rr (λ_=>[(2,.c [0,1,2] [2] (Fm q t i y z f e a g c x.s.r J x.U x.s.time v n D)),(7,.s 9)]) (λj=>[(9,pt (B6 j) 0),(10,i6 30)]) [] (λj L=>L++[ob (B6 j) #[i6 0,i6 0,i6 0] 180]) λj=>rr (λ_=>[(1,.c [8] [] (aa.at (rd':=[.c o]) (Ep u l (by with_reducible assumption)) (ec F (λ_ h=>h)))),(6,.s 10)]) (λk=>[(11,pt (B5 k) 0),(12,i6 0)]) [] (λk L=>L++[ob (B5 k) (rB 64 l).toArray 43]) λk=>rT [(3,.d),(4,.d),(7,.d),(8,.d)] 27 (r0 [] [(8,i6 30)] [8] (lf ab.zero [2,3,4,5,6,7] [(0,0),(1,1),(8,8)] [])))
theorem SJ(a s o i k g q f d e j:Nat)(c:Cf)(x:Ct)(K A:Nat)(h:bp c x K A)(n:Int)(z:bK n ((((c.R*c.B*c.M-c.res)*c.C):Nat):Int)=false)(u:Value)(l:List UInt8)(y:l.length=64)(m:Nat):aa WJ 93 #[pt a 0,i6 n,u,u6 (m:Int)] [pk (aQ a s o i k g q f d e j c x),.p (aG eB u l)] [0] (λ_=>[pk (aQ a s o i k g q f d e j c x)]) (λ_=>i6 30):=aa.pkZ Tryz.func93 λL t=>by
 obtain⟨v,rfl⟩:=t;exact⟨[2,3,4,5,6,7],λ_=>[pk (ar o i k x.s.r),pk (aD g q x.s.k),pk (az f x.s.g),pk (dJ j),pk (bk d e c x.V),b3 v x.ns],Ft a s o i k g q f d e j c x K A h n z u l y m v,rfl,λE=>⟨rfl,rfl,⟨_,rfl⟩⟩⟩
theorem SK(i k g m o e q d a j f:Nat)(c:Cf)(x:Ct)(K A:Nat)(h:bp c x K A)(n:Int)(z:bK n ((((c.R*c.B*c.M-c.res)*c.C):Nat):Int)=false)(u:Value)(l:List UInt8)(D:l.length=64):aa WJ 92 #[pt i 0,i6 n,u] [pk (aQ i k g m o e q d a j f c x),.p (aG eB u l)] [0] (λ_=>[pk (aQ i k g m o e q d a j f c x)]) (λ_=>i6 30):=aa.pkZ Tryz.func92 λL y=>by
 obtain⟨v,rfl⟩:=y;refine⟨[2,3,4,5,6,7],λ_=>[pk (ar g m o x.s.r),pk (aD e q x.s.k),pk (az d x.s.g),pk (dJ f),pk (bk a j c x.V),b3 v x.ns],?_,rfl,λE=>⟨rfl,rfl,⟨_,rfl⟩⟩⟩;exact fO Tryz.func92 8 rfl λs t=>fG Tryz.func92 λw cs=>r0 [] [(6,i6 0)] [] (r0 [(3,.c [0,1,2,3,4,5,6,7,8] [2,3,4,5,6,7] (aa.at (rd':=[ob i #[pt k 0,pt a 0,pt f 0,iN x.U,v] 119,ob k (lA c g e d x.s.time) 122,pk (ar g m o x.s.r),pk (aD e q x.s.k),pk (az d x.s.g),pk (dJ f),pk (bk a j c x.V),b3 v x.ns,.c s]) (Ft i k g m o e q d a j f c x _ _ h n z u l (by with_reducible assumption) 18446744073709551615 v) (aP (aP (aP (aP (aP (aP (aP (aP (ec t (λ_ h=>h))))))))))))] [(6,i6 30)] [6] (lf ab.zero [2,3,4,5,6,7] [(0,0),(1,1),(8,8)] []))
theorem SL(g i u p q o y n f k j:Nat)(c:Cf)(x:Ct)(K A:Nat)(h:bp c x K A)(hA:A≤700000)(H:K+3≤1000000000):aa WJ 49 #[pt g 0] [pk (aQ g i u p q o y n f k j c x)] [0] (λ_=>[pk (aQ g i u p q o y n f k j c (k8 c x))]) (λ_=> .tuple #[iN x.U,i6 (cc (bB c (iS c x) (aU (iS c x) x.U)))]):=aa.pkZ Tryz.func49 λL I=>by
 obtain⟨v,rfl⟩:=I;refine⟨[0,2,3,4,5,6,7],λE=>[ob g #[pt i 0,pt f 0,pt j 0,i6 (((k8 c x).U:Nat):Int),E.val 0] 119,pk (ar u p q (k8 c x).s.r),pk (aD o y (k8 c x).s.k),pk (az n (k8 c x).s.g),pk (dJ j),pk (bk f k c (k8 c x).V),b3 (E.val 0) ((k8 c x).ns)],?_,rfl,λE=>⟨rfl,rfl,⟨_,rfl⟩⟩⟩;have e:=h.cf;have Q:=e.E;have P:=e.E;have J:=h.dv Om;have O:=h.nl;have G:=e.ly;have F:=h.U;have N:=WQ (Xn c.C (Nat.sub_le (c.R*c.B*c.M) c.res)) e.O.bd.rbmc;have D:=vG h;refine fG Tryz.func49 λw cs=>r0 [] [(2,i6 0),(3,i6 0)] [] (r0 [(3,.l 0)] [(4,iN x.U)] [] (rs [(2,ad x.U 1),(6,.m (ld 0 (pt i 0))),(10,.m (ls 1 ([iN c.R,iN c.S,iN c.B,iN c.M,iN c.C,iN c.G,iN c.res]))),(11,.c [] [] (yq c.R c.S c.B c.M c.C c.G c.res G)),(12,.t (tb (a:=i6 ((x.U+1:Nat):Int)) (b:=i6 (((((c.R*c.B)*c.M)-c.res)*c.C:Nat):Int)) λ_ _ _ _=>nV (a:=x.U+1) (d:=(((c.R*c.B)*c.M)-c.res)*c.C) Om)),(15,.s 0)] 0 (ob g #[pt i 0,pt f 0,pt j 0,i6 (((x.U+1)%((((c.R*c.B)*c.M)-c.res)*c.C):Nat):Int),v] 119) ?_));have h:=D;exact rr (λ_=>[(2,.c [0,1,2,3,4,5,6,7] [0,2,3,4,5,6,7] (Fo g i u p q o y n f k j c x.s ((x.U+1)%((((c.R*c.B)*c.M)-c.res)*c.C)) x.ns x.V _ _ h v hA H x.U F true)),(7,.s 8)]) (λ_=>[(6,i6 (cc (bB c (⟨x.s,((x.U+1)%((((c.R*c.B)*c.M)-c.res)*c.C)),x.ns,x.V⟩:Ct) (aU (⟨x.s,((x.U+1)%((((c.R*c.B)*c.M)-c.res)*c.C)),x.ns,x.V⟩:Ct) x.U))))]) [] (λz L=>(((((L.set 0 (ob g #[pt i 0,pt f 0,pt j 0,i6 (((x.U+1)%((((c.R*c.B)*c.M)-c.res)*c.C):Nat):Int),((z 2).val 0)] 119)).set 2 ((pk (ar u p q (cu c (⟨x.s,((x.U+1)%((((c.R*c.B)*c.M)-c.res)*c.C)),x.ns,x.V⟩:Ct) x.U true).s.r)))).set 3 ((pk (aD o y (cu c (⟨x.s,((x.U+1)%((((c.R*c.B)*c.M)-c.res)*c.C)),x.ns,x.V⟩:Ct) x.U true).s.k)))).set 4 ((pk (az n (cu c (⟨x.s,((x.U+1)%((((c.R*c.B)*c.M)-c.res)*c.C)),x.ns,x.V⟩:Ct) x.U true).s.g)))).set 6 ((pk (bk f k c (cu c (⟨x.s,((x.U+1)%((((c.R*c.B)*c.M)-c.res)*c.C)),x.ns,x.V⟩:Ct) x.U true).V)))).set 7 (b3 ((z 2).val 0) ((cu c (⟨x.s,((x.U+1)%((((c.R*c.B)*c.M)-c.res)*c.C)),x.ns,x.V⟩:Ct) x.U true).ns))++[ob (B6 z) (rB 64 (cC c (⟨x.s,((x.U+1)%((((c.R*c.B)*c.M)-c.res)*c.C)),x.ns,x.V⟩:Ct) (aU (⟨x.s,((x.U+1)%((((c.R*c.B)*c.M)-c.res)*c.C)),x.ns,x.V⟩:Ct) x.U))).toArray 43]) λz=>r0 [] [(2,iN x.U),(3,i6 (cc (bB c (⟨x.s,((x.U+1)%((((c.R*c.B)*c.M)-c.res)*c.C)),x.ns,x.V⟩:Ct) (aU (⟨x.s,((x.U+1)%((((c.R*c.B)*c.M)-c.res)*c.C)),x.ns,x.V⟩:Ct) x.U))))] [2,3] (ao (.tuple #[iN x.U,i6 (cc (bB c (⟨x.s,((x.U+1)%((((c.R*c.B)*c.M)-c.res)*c.C)),x.ns,x.V⟩:Ct) (aU (⟨x.s,((x.U+1)%((((c.R*c.B)*c.M)-c.res)*c.C)),x.ns,x.V⟩:Ct) x.U)))]) (.l [] [] [((z 2).val 0)]) bg [0,2,3,4,5,6,7] [(1,1)] [] (hf:=by kernel_rfl))
end
theorem SM(o j a f g u q p x:Nat)(c:Cf)(r:Rp)(d:aK r)(k time:Nat)(v:Value)(i:Nat)(z:r.j.A=1)(n:r.j.fr<r.m.R*r.m.B*r.m.M):aa WJ 85 #[pt o 0,iN i] [ob o #[pt j 0,pt p 0,pt x 0,iN k,v] 119,ob j (lA c a u q time) 122,pk (ar a f g r)] [2] (λ_=>[pk (ar a f g r)]) (λ_=> .agg #[iN i,iN r.j.fr,i6 ((aB r.m.G r.m.R r.m.B r.m.M r.j.fr:Nat):Int)]):=by
 have y:=d.m.O;have B:=d.m.ly.G;have A:=Dx d.m n;exact fG Tryz.func85 λw cs=>ra (λh=>[(4,pt (B0 h) 0)]) (λh=>[ob (B0 h) #[i6 0,i6 0,i6 0] 180]) λh=>rr (λ_=>[(3,.m (ld 0 (pt j 0))),(6,.m (ld 1 (pt a 0))),(7,.c [2] [2] (yH a f g r d)),(11,.m (ld 0 (pt j 0))),(14,.m (ld 1 (pt a 0))),(15,.c [2] [2] (sk a f g r d)),(16,.c [2] [2] (yR a f g r d)),(17,.m (al 4)),(18,.m (al 5)),(19,.s 4),(20,.s 5)]) (λe=>[(5,pt ((e 17).y 0) 0),(6,pt ((e 18).y 0) 0)]) [] (λe L=>L++[ob ((e 17).y 0) #[iN r.j.A,iN r.j.fr,iN r.j.tg,iN r.j.nx] 70,ob ((e 18).y 0) #[iN r.m.R,iN r.m.S,iN r.m.B,iN r.m.M,iN r.m.C,iN r.m.G,iN r.m.res] 25]) λe=>rF [(1,.l 4),(2,.t (tk (show Value.bool ((r.j.A:Int)==2)= .bool false from ALca Value.bool (by rw[z];rfl))))] 30 (r0 [(1,.m (ls 5 ([iN r.m.R,iN r.m.S,iN r.m.B,iN r.m.M,iN r.m.C]))),(3,.m (ld 5 (iN r.m.G))),(5,.m (ld 4 (iN r.j.fr))),(6,.c [] [] (Dw r.m.R r.m.S r.m.B r.m.M r.m.C y r.m.G Om r.j.fr Om)),] [(9,i6 ((g5 r.m.G r.m.R r.m.B r.m.M r.j.fr:Nat):Int))] [] (rs [(2,.l 4),(4,.t (tv (av .shr 3 (.tmp 59) (.const (u6 14)) (i6 ((g5 r.m.G r.m.R r.m.B r.m.M r.j.fr:Nat):Int)) (u6 14)) (λ_=>dQ (b:=((aB r.m.G r.m.R r.m.B r.m.M r.j.fr:Nat):Int)) (iD 14 Dc) Om))),(6,.s 3)] 3 (ob (B0 h) #[iN i,iN r.j.fr,i6 ((aB r.m.G r.m.R r.m.B r.m.M r.j.fr:Nat):Int)] 180) (lf ab.zero [2] [(0,0),(1,1)] [3])))
theorem SN(y k a g h D C B F:Nat)(c:Cf)(r:Rp)(e:aK r)(n time:Nat)(v:Value)(i:Nat)(I:r.j.A=2)(H:i=gj r.m r.j.fr r.j.nx)(q:r.j.fr<r.m.R)(u:r.j.nx<r.m.B*r.m.M*r.m.C):aa WJ 85 #[pt y 0,iN i] [ob y #[pt k 0,pt B 0,pt F 0,iN n,v] 119,ob k (lA c a D C time) 122,pk (ar a g h r)] [2] (λ_=>[pk (ar a g h r)]) (λ_=> .agg #[iN i,i6 ((ka r.m.G r.m.R r.m.B r.m.M r.j.fr (r.j.nx/r.m.C/r.m.M) (r.j.nx/r.m.C%r.m.M):Nat):Int),iN r.j.fr]):=by
 have z:=e.m.O;have x:=e.m.ly.G;have d:=ny e.m (r:=r.j.fr) Om u;have o:=d.h1;have p:=d.h2;have G:=d.h3;have A:=z.bd.c64;exact fG Tryz.func85 λw cs=>ra (λj=>[(4,pt (B0 j) 0)]) (λj=>[ob (B0 j) #[i6 0,i6 0,i6 0] 180]) λj=>rr (λ_=>[(3,.m (ld 0 (pt k 0))),(6,.m (ld 1 (pt a 0))),(7,.c [2] [2] (yH a g h r e)),(11,.m (ld 0 (pt k 0))),(14,.m (ld 1 (pt a 0))),(15,.c [2] [2] (sk a g h r e)),(16,.c [2] [2] (yR a g h r e)),(17,.m (al 4)),(18,.m (al 5)),(19,.s 4),(20,.s 5)]) (λf=>[(5,pt ((f 17).y 0) 0),(6,pt ((f 18).y 0) 0)]) [] (λf L=>L++[ob ((f 17).y 0) #[iN r.j.A,iN r.j.fr,iN r.j.tg,iN r.j.nx] 70,ob ((f 18).y 0) #[iN r.m.R,iN r.m.S,iN r.m.B,iN r.m.M,iN r.m.C,iN r.m.G,iN r.m.res] 25]) λf=>rT [(1,.l 4),(2,.t (tk (show Value.bool ((r.j.A:Int)==2)= .bool true from ALca Value.bool (by rw[I];rfl))))] 30 (r0 [(1,.m (ls 5 ([iN r.m.R,iN r.m.S,iN r.m.B,iN r.m.M,iN r.m.C]))),(3,.m (ld 5 (iN r.m.G))),(5,.t (tv (av .shr 3 (.tmp 36) (.const (u6 6)) (iN i) (u6 6)) (λ_=>dQ (b:=((r.j.fr*16384+r.j.nx/r.m.C/r.m.M*1024+r.j.nx/r.m.C%r.m.M:Nat):Int)) (iD 6 Dc) (by rw[H];unfold gj bl;omega)))),(6,.c [] [] (N2 r.m.R r.m.S r.m.B r.m.M r.m.C z r.m.G x r.j.fr (r.j.nx/r.m.C/r.m.M) (r.j.nx/r.m.C%r.m.M) q o p)),] [(7,i6 ((ka r.m.G r.m.R r.m.B r.m.M r.j.fr (r.j.nx/r.m.C/r.m.M) (r.j.nx/r.m.C%r.m.M):Nat):Int))] [] (rs [(3,.l 4),(5,.s 3)] 3 (ob (B0 j) #[iN i,i6 ((ka r.m.G r.m.R r.m.B r.m.M r.j.fr (r.j.nx/r.m.C/r.m.M) (r.j.nx/r.m.C%r.m.M):Nat):Int),iN r.j.fr] 180) (lf ab.zero [2] [(0,0),(1,1)] [3])))
theorem SO(d f b g h l k j m:Nat)(c:Cf)(r:Rp)(o:aK r)(a time:Nat)(v:Value)(i:Nat)(p:r.j.A≠0)(s:r.j.nx<ft r.j.A r.m.B r.m.M r.m.C)(q:i=a7 r.m r.j.A r.j.fr r.j.nx):aa WJ 85 #[pt d 0,iN i] [ob d #[pt f 0,pt j 0,pt m 0,iN a,v] 119,ob f (lA c b l k time) 122,pk (ar b g h r)] [2] (λ_=>[pk (ar b g h r)]) (λ_=> .agg #[iN i,i6 ((cj r:Nat):Int),i6 ((dx r:Nat):Int)]):=by
 unfold cj dx;rcases o.j.k with e | ⟨e,n⟩ | ⟨e,n⟩
 ·rw[e] at p;exact absurd rfl p
 ·rw[ALifp e,ALifp e];exact SM d f b g h l k j m c r o a time v i e n.hf
 ·rw[e] at s q;rw[ALifn Om,ALifn Om];exact SN d f b g h l k j m c r o a time v i e q n.hf s
def vH(y:Ct):Ct:={y with s:=gK y.s,ns:=y.ns++[(⟨3,0,0,0,0,0⟩:Nt)]}
def l0(x:Ct):Nat:=a7 x.s.r.m x.s.r.j.A x.s.r.j.fr x.s.r.j.nx
def ox(x:Ct):Nat:=a7 x.s.r.m x.s.r.j.A x.s.r.j.tg x.s.r.j.nx
def l7(x:Ct):Bool:=decide (cj x.s.r<x.s.r.m.R*x.s.r.m.B*x.s.r.m.M-x.s.r.m.res+x.s.r.m.Q)&& !x.s.r.m.P.getD (cj x.s.r) false
def sJ(c:Cf)(x:Ct):Ct:=bZ c x (l0 x) (cj x.s.r) (dx x.s.r)
def jx(c:Cf)(x:Ct):Ct:=bif l7 x then nH c (sJ c x) (ox x) (cC c x (l0 x)) (decide (2≤((bB c x (l0 x):Nat):Int))) else nH c x (ox x) z6 false
def iC(c:Cf)(x:Ct):Ct:=ki x (vH (jx c x))
theorem Fu{c:Cf}{x:Ct}{K A:Nat}(h:bp c x K A)(a:x.s.r.j.A≠0)(e:K+3≤1000000000):bp c (jx c x) (K+3) (A+2)∧(jx c x).s.r.j=x.s.r.j∧(jx c x).s.r.m=x.s.r.m:=by
 have b:=Fs h.s.r a (h.run a);unfold jx;cases l7 x
 ·exact⟨(qj h WN false).mono Om Om,rfl,rfl⟩
 ·have d:=zz (i:=l0 x) h b.2.1 b.1 e;exact⟨qj d (ow _ (nD h.D _) _) _,Fg c.J x.s _ a⟩
theorem SP{c:Cf}{x:Ct}{K A:Nat}(h:bp c x K A)(a:x.s.r.j.A≠0)(b:K+257≤1000000000):bp c (vH x) (K+257) (A+1):=by
 refine⟨h.cf,Q7 h.s a (h.run a) b,h.D,h.gl,W8 h.vl,?_,h.ly.tr (Q8 x.s),Sr h.s.r a h.run,h.U,h.time⟩;show(x.ns++[_]).length≤A+1;rw[WL];exact WV h.nl
theorem SQ{c:Cf}{x:Ct}{K A:Nat}(h:bp c x K A)(a:x.s.r.j.A≠0)(f:K+260≤1000000000):bp c (iC c x) (K+260) (A+3):=by
 obtain⟨b,d,e⟩:=Fu h a Om;exact h.fix (SP b (by rw[d];exact a) Om)
def qk(x:Ct):Ct:={x with s:=vy x.s,ns:=x.ns++[(⟨2,0,0,0,0,0⟩:Nt)]}
def ql(x:Ct):Ct:={x with s:=vz x.s,ns:=x.ns++[(⟨4,0,0,0,0,0⟩:Nt)]}
theorem SR{c:Cf}{x:Ct}{K A:Nat}(h:bp c x K A)(ht:x.s.time<1099511627776):bp c (qk x) K (A+1):=by
 refine⟨h.cf,Q9 h.s,h.D,h.gl,W8 h.vl,?_,h.ly,h.run,h.U,ht⟩;show(x.ns++[_]).length≤A+1;rw[WL];exact WV h.nl
theorem SS{c:Cf}{x:Ct}{K A:Nat}(h:bp c x K A):bp c (ql x) K (A+1):=by
 refine⟨h.cf,Ra h.s,h.D,h.gl,W8 h.vl,?_,h.ly,h.run,h.U,h.time⟩;show(x.ns++[_]).length≤A+1;rw[WL];exact WV h.nl
theorem SU(d b i m n a j f e p g:Nat)(c:Cf)(x:Ct)(K A:Nat)(h:bp c x K A)(hA:A≤700000)(ht:x.s.time<1099511627776):aa WJ 51 #[pt d 0] [pk (aQ d b i m n a j f e p g c x)] [0] (λ_=>[pk (aQ d b i m n a j f e p g c (qk x))]) (λ_=>i6 0):=aa.pkZ Tryz.func51 λL r=>by
 obtain⟨v,rfl⟩:=r;refine⟨[0,1,2,3,4,5,6,7],λE=>[ob d #[pt b 0,pt e 0,pt g 0,iN x.U,(E.val 0)] 119,ob b (lA c i a f ((x.s.time+1:Nat))) 122,pk (ar i m n x.s.r),pk (aD a j (mP x.s.k)),pk (az f x.s.g),pk (dJ g),pk (bk e p c x.V),b3 (E.val 0) (x.ns++([(⟨2,0,0,0,0,0⟩:Nt)]))],?_,rfl,λE=>⟨rfl,rfl,⟨_,rfl⟩⟩⟩;have s:=h.s;have k:x.ns.length≤800000:=WQ h.nl Om;have q:x.s.time≤1000000000000000:=by omega
 exact fG Tryz.func51 λw cs=>r0 [] [(2,i6 0)] [] (rF [(3,.l 0),(6,.l 1),(7,.t (tk (show Value.bool (decide (1099511627776≤(x.s.time:Int)))= .bool false from ALca Value.bool (by exact bf Om))))] 10 (rr (λ_=>[(2,.c [0,1,2,3,4,7] [0,1,2,3,4,7] (SA d b i m n a j f e g c x.s _ s x.U v x.ns k q))]) N0 [] (λo L=>(((L.set 0 (ob d #[pt b 0,pt e 0,pt g 0,iN x.U,((o 2).val 0)] 119)).set 1 (ob b (lA c i a f ((x.s.time+1:Nat))) 122)).set 3 ((pk (aD a j (mP x.s.k))))).set 7 (b3 ((o 2).val 0) (x.ns++([(⟨2,0,0,0,0,0⟩:Nt)])))) λo=>r0 [] [(2,i6 0)] [2] (lf (.l [] [] [((o 2).val 0)]) [0,1,2,3,4,5,6,7] [] [])))
theorem SV(a f m j k i n d b p e:Nat)(c:Cf)(x:Ct)(K A:Nat)(h:bp c x K A)(hA:A≤700000):aa WJ 52 #[pt a 0] [pk (aQ a f m j k i n d b p e c x)] [0] (λ_=>[pk (aQ a f m j k i n d b p e c (ql x))]) (λ_=>iN x.s.g.l.length):=aa.pkZ Tryz.func52 λL q=>by
 obtain⟨v,rfl⟩:=q;refine⟨[0,2,3,4,5,6,7],λE=>[ob a #[pt f 0,pt b 0,pt e 0,iN x.U,(E.val 0)] 119,pk (ar m j k x.s.r),pk (aD i n x.s.k),pk (az d (nz x.s.g)),pk (dJ e),pk (bk b p c x.V),b3 (E.val 0) (x.ns++([(⟨4,0,0,0,0,0⟩:Nt)]))],?_,rfl,λE=>⟨rfl,rfl,⟨_,rfl⟩⟩⟩;have r:=h.s;have g:x.ns.length≤800000:=WQ h.nl Om;exact fG Tryz.func52 λw cs=>r0 [] [(2,i6 0)] [] (r0 [(3,.l 0),(6,.l 1),(7,.c [4] [4] (D8 d x.s.g))] [(3,iN x.s.g.l.length)] [] (rr (λ_=>[(2,.c [0,1,2,3,4,7] [0,2,3,4,7] (SB a f m j k i n d b e c x.s _ r x.U v x.ns g))]) N0 [] (λo L=>((L.set 0 (ob a #[pt f 0,pt b 0,pt e 0,iN x.U,((o 2).val 0)] 119)).set 4 ((pk (az d (nz x.s.g))))).set 7 (b3 ((o 2).val 0) (x.ns++([(⟨4,0,0,0,0,0⟩:Nt)])))) λo=>r0 [] [(2,iN x.s.g.l.length)] [2] (lf (.l [] [] [((o 2).val 0)]) [0,2,3,4,5,6,7] [(1,1)] [])))
theorem SW(e k a b d j n i f g l:Nat)(c:Cf)(x:Ct)(K A:Nat)(h:bp c x K A)(p:x.s.r.j.A=0):aa WJ 50 #[pt e 0] [pk (aQ e k a b d j n i f g l c x)] [0] (λ_=>[pk (aQ e k a b d j n i f g l c x)]) (λ_=>i6 51):=aa.pkZ Tryz.func50 λL o=>by
 obtain⟨v,rfl⟩:=o;refine⟨[2,3,4,5,6,7],λ_=>[pk (ar a b d x.s.r),pk (aD j n x.s.k),pk (az i x.s.g),pk (dJ l),pk (bk f g c x.V),b3 v x.ns],?_,rfl,λE=>⟨rfl,rfl,⟨_,rfl⟩⟩⟩;have q:=h.s.r;exact fG Tryz.func50 λw cs=>r0 [] [(2,i6 0)] [] (r0 [(3,.m (ld 0 (pt k 0))),(6,.m (ld 1 (pt a 0))),(7,.c [2] [2] (Pz a b d x.s.r q p)),] [(3,i6 0),(4,i6 0),(5,i6 51)] [] (rT [] 22 (r0 [] [(2,i6 51)] [2] (lf ab.zero [2,3,4,5,6,7] [(0,0),(1,1)] []))))
theorem SX(n e a o p i u f b t j:Nat)(c:Cf)(x:Ct)(K A:Nat)(h:bp c x K A)(hA:A≤700000)(hK:K+260≤1000000000)(B:x.s.r.j.A≠0):aa WJ 50 #[pt n 0] [pk (aQ n e a o p i u f b t j c x)] [0] (λ_=>[pk (aQ n e a o p i u f b t j c (iC c x))]) (λ_=>i6 0):=aa.pkZ Tryz.func50 λL hL=>by
 obtain⟨v,rfl⟩:=hL;refine⟨[0,1,2,3,4,5,6,7],λE=>[ob n #[pt e 0,pt b 0,pt j 0,iN x.U,(E.val 0)] 119,ob e #[iN c.R,iN c.S,iN c.B,iN c.M,iN c.C,iN c.G,iN c.res,iN c.E,iN c.lr,iN c.er,iN c.lp,iN c.ep,iN c.K,iN c.J,iN c.log,.bool c.X,pt a 0,pt i 0,pt f 0,i6 (((iC c x).s.time:Nat):Int)] 122,pk (ar a o p (iC c x).s.r),pk (aD i u (iC c x).s.k),pk (az f (iC c x).s.g),pk (dJ j),pk (bk b t c (iC c x).V),b3 (E.val 0) ((iC c x).ns)],?_,rfl,λE=>⟨rfl,rfl,⟨_,rfl⟩⟩⟩;have d:=h.cf;have hm:=d.E;have HM:=d.E;have S:=h.dv Om;have hnl:=h.nl;have F:=h.s.r;have D:=h.run B;have z:=Fs F B D;have G:=z.1;have hsr:=z.2.1;have T:=(z.2.2.1.lay h.ly).bd d.O;have U:=(z.2.2.1.lay h.ly).has d.O;have H:=(z.2.2.2.lay h.ly).bd d.O;have I:=(z.2.2.2.lay h.ly).has d.O;have C:K+3≤1000000000:=by omega
 have ht:bp c (bZ c x (a7 x.s.r.m x.s.r.j.A x.s.r.j.fr x.s.r.j.nx) (cj x.s.r) (dx x.s.r)) (K+3) (A+1):=zz h z.2.1 z.1 C;have hts:=ht.s;have hs0:=h.s;have X:=Fg c.J x.s (iB c x (a7 x.s.r.m x.s.r.j.A x.s.r.j.fr x.s.r.j.nx) (cj x.s.r) (dx x.s.r)) B;have R:=ht.dv Om;have Z:(bZ c x (a7 x.s.r.m x.s.r.j.A x.s.r.j.fr x.s.r.j.nx) (cj x.s.r) (dx x.s.r)).ns.length≤800000:=WQ ht.nl Om;have Y:x.ns.length≤800000:=WQ h.nl Om;have Q:(bZ c x (a7 x.s.r.m x.s.r.j.A x.s.r.j.fr x.s.r.j.nx) (cj x.s.r) (dx x.s.r)).s.r.j.A≠0:=by show(cH _ _ _).r.j.A≠0;rw[X.1];exact B
 have W:(bZ c x (a7 x.s.r.m x.s.r.j.A x.s.r.j.fr x.s.r.j.nx) (cj x.s.r) (dx x.s.r)).s.r.j.nx<ft (bZ c x (a7 x.s.r.m x.s.r.j.A x.s.r.j.fr x.s.r.j.nx) (cj x.s.r) (dx x.s.r)).s.r.j.A (bZ c x (a7 x.s.r.m x.s.r.j.A x.s.r.j.fr x.s.r.j.nx) (cj x.s.r) (dx x.s.r)).s.r.m.B (bZ c x (a7 x.s.r.m x.s.r.j.A x.s.r.j.fr x.s.r.j.nx) (cj x.s.r) (dx x.s.r)).s.r.m.M (bZ c x (a7 x.s.r.m x.s.r.j.A x.s.r.j.fr x.s.r.j.nx) (cj x.s.r) (dx x.s.r)).s.r.m.C:=by show(cH _ _ _).r.j.nx<ft (cH _ _ _).r.j.A (cH _ _ _).r.m.B (cH _ _ _).r.m.M (cH _ _ _).r.m.C;rw[X.1,X.2];exact D
 have O:K+257≤1000000000:=by omega
 have P:K+3+257≤1000000000:=by omega
 have hln:(cC c x (a7 x.s.r.m x.s.r.j.A x.s.r.j.fr x.s.r.j.nx)).length=64:=ow c.E (nD h.D _) _;refine fG Tryz.func50 λw cs=>r0 [] [(2,i6 0)] [] (r0 [(3,.m (ld 0 (pt e 0))),(6,.m (ld 1 (pt a 0))),(7,.c [2] [2] (Py a o p x.s.r F B D)),] [(3,i6 ((a7 x.s.r.m x.s.r.j.A x.s.r.j.fr x.s.r.j.nx:Nat):Int)),(4,i6 ((a7 x.s.r.m x.s.r.j.A x.s.r.j.tg x.s.r.j.nx:Nat):Int)),(5,i6 0)] [] (rF [] 22 (rr (λ_=>[(2,.c [0,1,2] [2] (SO n e a o p i f b j c x.s.r F x.U x.s.time v (a7 x.s.r.m x.s.r.j.A x.s.r.j.fr x.s.r.j.nx) B D rfl)),(4,.s 8)]) (λJ=>[(6,pt (B3 J) 0)]) [] (λJ L=>L++[ob (B3 J) #[i6 ((a7 x.s.r.m x.s.r.j.A x.s.r.j.fr x.s.r.j.nx:Nat):Int),i6 ((cj x.s.r:Nat):Int),i6 ((dx x.s.r:Nat):Int)] 180]) λJ=>r0 [(3,.l 0),(6,.l 1),(7,.c [2] [2] (sk a o p x.s.r F)),(9,.l 8),(10,.c [2] [2] (QE a o p x.s.r F (cj x.s.r) G))] [(37,.bool (decide ((cj x.s.r)<x.s.r.m.R*x.s.r.m.B*x.s.r.m.M-x.s.r.m.res+x.s.r.m.Q)&& !x.s.r.m.P.getD (cj x.s.r) false))] [] ?_)));refine cB (decide ((cj x.s.r)<x.s.r.m.R*x.s.r.m.B*x.s.r.m.M-x.s.r.m.res+x.s.r.m.Q)&& !x.s.r.m.P.getD (cj x.s.r) false) (λN=>?_) λN=>?_
 ·exact rr (λ_=>[(1,.l 8),(2,.c [0,1,2,3,4,5,6,7] [0,2,3,4,5,6,7] (zA n e a o p i u f b t j c x.s x.U x.ns x.V _ _ h v hA C (a7 x.s.r.m x.s.r.j.A x.s.r.j.fr x.s.r.j.nx) (cj x.s.r) (dx x.s.r) T U G hsr)),(8,.s 9),(9,.s 10)]) (λq=>[(7,pt (B6 q) 0),(8,pt (B7 q) 0)]) [] (λq L=>(((((L.set 0 (ob n #[pt e 0,pt b 0,pt j 0,iN x.U,((q 2).val 0)] 119)).set 2 ((pk (ar a o p (bZ c x (a7 x.s.r.m x.s.r.j.A x.s.r.j.fr x.s.r.j.nx) (cj x.s.r) (dx x.s.r)).s.r)))).set 3 ((pk (aD i u (bZ c x (a7 x.s.r.m x.s.r.j.A x.s.r.j.fr x.s.r.j.nx) (cj x.s.r) (dx x.s.r)).s.k)))).set 4 ((pk (az f (bZ c x (a7 x.s.r.m x.s.r.j.A x.s.r.j.fr x.s.r.j.nx) (cj x.s.r) (dx x.s.r)).s.g)))).set 6 ((pk (bk b t c (bZ c x (a7 x.s.r.m x.s.r.j.A x.s.r.j.fr x.s.r.j.nx) (cj x.s.r) (dx x.s.r)).V)))).set 7 (b3 ((q 2).val 0) ((bZ c x (a7 x.s.r.m x.s.r.j.A x.s.r.j.fr x.s.r.j.nx) (cj x.s.r) (dx x.s.r)).ns))++[ob (B6 q) (rB 64 (cC c x (a7 x.s.r.m x.s.r.j.A x.s.r.j.fr x.s.r.j.nx))).toArray 43,ob (B7 q) #[i6 ((bB c x (a7 x.s.r.m x.s.r.j.A x.s.r.j.fr x.s.r.j.nx):Nat):Int),i6 ((hZ c.E (kg c x (a7 x.s.r.m x.s.r.j.A x.s.r.j.fr x.s.r.j.nx)) ((a7 x.s.r.m x.s.r.j.A x.s.r.j.fr x.s.r.j.nx):Int):Nat):Int)] 79]) λq=>cl [ob n #[pt e 0,pt b 0,pt j 0,iN x.U,((q 2).val 0)] 119,ob e #[iN c.R,iN c.S,iN c.B,iN c.M,iN c.C,iN c.G,iN c.res,iN c.E,iN c.lr,iN c.er,iN c.lp,iN c.ep,iN c.K,iN c.J,iN c.log,.bool c.X,pt a 0,pt i 0,pt f 0,i6 (((bZ c x (a7 x.s.r.m x.s.r.j.A x.s.r.j.fr x.s.r.j.nx) (cj x.s.r) (dx x.s.r)).s.time:Nat):Int)] 122,pk (ar a o p (bZ c x (a7 x.s.r.m x.s.r.j.A x.s.r.j.fr x.s.r.j.nx) (cj x.s.r) (dx x.s.r)).s.r),pk (aD i u (bZ c x (a7 x.s.r.m x.s.r.j.A x.s.r.j.fr x.s.r.j.nx) (cj x.s.r) (dx x.s.r)).s.k),pk (az f (bZ c x (a7 x.s.r.m x.s.r.j.A x.s.r.j.fr x.s.r.j.nx) (cj x.s.r) (dx x.s.r)).s.g),pk (dJ j),pk (bk b t c (bZ c x (a7 x.s.r.m x.s.r.j.A x.s.r.j.fr x.s.r.j.nx) (cj x.s.r) (dx x.s.r)).V),b3 ((q 2).val 0) ((bZ c x (a7 x.s.r.m x.s.r.j.A x.s.r.j.fr x.s.r.j.nx) (cj x.s.r) (dx x.s.r)).ns),ob (B3 J) #[i6 ((a7 x.s.r.m x.s.r.j.A x.s.r.j.fr x.s.r.j.nx:Nat):Int),i6 ((cj x.s.r:Nat):Int),i6 ((dx x.s.r:Nat):Int)] 180,ob (B6 q) (rB 64 (cC c x (a7 x.s.r.m x.s.r.j.A x.s.r.j.fr x.s.r.j.nx))).toArray 43,ob (B7 q) #[i6 ((bB c x (a7 x.s.r.m x.s.r.j.A x.s.r.j.fr x.s.r.j.nx):Nat):Int),i6 ((hZ c.E (kg c x (a7 x.s.r.m x.s.r.j.A x.s.r.j.fr x.s.r.j.nx)) ((a7 x.s.r.m x.s.r.j.A x.s.r.j.fr x.s.r.j.nx):Int):Nat):Int)] 79] (by skip;kernel_rfl) (rs [(2,.l 9),(4,.l 10),(6,.c [0,1,5,6] [5,6] (pn n e a i f b t j c d x.U ((bZ c x (a7 x.s.r.m x.s.r.j.A x.s.r.j.fr x.s.r.j.nx) (cj x.s.r) (dx x.s.r)).s.time) ((q 2).val 0) ((bZ c x (a7 x.s.r.m x.s.r.j.A x.s.r.j.fr x.s.r.j.nx) (cj x.s.r) (dx x.s.r)).V) (by with_reducible exact R) (a7 x.s.r.m x.s.r.j.A x.s.r.j.tg x.s.r.j.nx) H I (cC c x (a7 x.s.r.m x.s.r.j.A x.s.r.j.fr x.s.r.j.nx)) (by with_reducible assumption) (decide (2≤((bB c x (a7 x.s.r.m x.s.r.j.A x.s.r.j.fr x.s.r.j.nx):Nat):Int)))))] 6 ((pk (bk b t c (iz ((bZ c x (a7 x.s.r.m x.s.r.j.A x.s.r.j.fr x.s.r.j.nx) (cj x.s.r) (dx x.s.r)).V) ((a7 x.s.r.m x.s.r.j.A x.s.r.j.tg x.s.r.j.nx):Int) (fS c.E (cC c x (a7 x.s.r.m x.s.r.j.A x.s.r.j.fr x.s.r.j.nx)) ((a7 x.s.r.m x.s.r.j.A x.s.r.j.tg x.s.r.j.nx):Int) (decide (2≤((bB c x (a7 x.s.r.m x.s.r.j.A x.s.r.j.fr x.s.r.j.nx):Nat):Int)))) (bif (decide (2≤((bB c x (a7 x.s.r.m x.s.r.j.A x.s.r.j.fr x.s.r.j.nx):Nat):Int))) then 1 else 0))))) (rr (λ_=>[(2,.c [0,1,2,3,4,7] [0,2,3,4,7] (Fk n e a o p i u f b j c ((bZ c x (a7 x.s.r.m x.s.r.j.A x.s.r.j.fr x.s.r.j.nx) (cj x.s.r) (dx x.s.r)).s) _ (by with_reducible exact hts) x.U ((q 2).val 0) ((bZ c x (a7 x.s.r.m x.s.r.j.A x.s.r.j.fr x.s.r.j.nx) (cj x.s.r) (dx x.s.r)).ns) (by with_reducible exact Z) (by with_reducible exact P) (by with_reducible exact Q) (by with_reducible exact W)))]) N0 [] (λM L=>((((L.set 0 (ob n #[pt e 0,pt b 0,pt j 0,iN x.U,((M 2).val 0)] 119)).set 2 ((pk (ar a o p (gK ((bZ c x (a7 x.s.r.m x.s.r.j.A x.s.r.j.fr x.s.r.j.nx) (cj x.s.r) (dx x.s.r)).s)).r)))).set 3 ((pk (aD i u (gK ((bZ c x (a7 x.s.r.m x.s.r.j.A x.s.r.j.fr x.s.r.j.nx) (cj x.s.r) (dx x.s.r)).s)).k)))).set 4 ((pk (az f (gK ((bZ c x (a7 x.s.r.m x.s.r.j.A x.s.r.j.fr x.s.r.j.nx) (cj x.s.r) (dx x.s.r)).s)).g)))).set 7 (b3 ((M 2).val 0) (((bZ c x (a7 x.s.r.m x.s.r.j.A x.s.r.j.fr x.s.r.j.nx) (cj x.s.r) (dx x.s.r)).ns)++([(⟨3,0,0,0,0,0⟩:Nt)])))) λM=>r0 [] [(2,i6 0)] [2] (lf (.l [] [] [((M 2).val 0)]) [0,1,2,3,4,5,6,7] [] [] (hf:=by unfold iC ki vH jx l7 sJ l0 ox;dsimp only;(repeat (first | rw[N] | rw[ALct]));kernel_rfl))))
 exact rs [(3,.c [0,1,5,6] [5,6] (pn n e a i f b t j c d x.U x.s.time v x.V (by with_reducible exact S) (a7 x.s.r.m x.s.r.j.A x.s.r.j.tg x.s.r.j.nx) H I z6 bg false))] 6 ((pk (bk b t c (iz x.V ((a7 x.s.r.m x.s.r.j.A x.s.r.j.tg x.s.r.j.nx):Int) (fS c.E z6 ((a7 x.s.r.m x.s.r.j.A x.s.r.j.tg x.s.r.j.nx):Int) false) (bif false then 1 else 0))))) (rr (λ_=>[(2,.c [0,1,2,3,4,7] [0,2,3,4,7] (Fk n e a o p i u f b j c x.s _ (by with_reducible exact hs0) x.U v x.ns (by with_reducible exact Y) (by with_reducible exact O) (by with_reducible exact B) (by with_reducible exact D)))]) N0 [] (λy L=>((((L.set 0 (ob n #[pt e 0,pt b 0,pt j 0,iN x.U,((y 2).val 0)] 119)).set 2 ((pk (ar a o p (gK x.s).r)))).set 3 ((pk (aD i u (gK x.s).k)))).set 4 ((pk (az f (gK x.s).g)))).set 7 (b3 ((y 2).val 0) (x.ns++([(⟨3,0,0,0,0,0⟩:Nt)])))) λy=>r0 [] [(2,i6 0)] [2] (lf (.l [] [] [((y 2).val 0)]) [0,1,2,3,4,5,6,7] [] [] (hf:=by unfold iC ki vH jx l7 sJ l0 ox;dsimp only;(repeat (first | rw[N] | rw[ALcf]));kernel_rfl)))
section
section
variable {F:Fence} {n:Nat} {P:Program} {R:List Nat} {base:World} {Q:Exit→Act→World→Prop} {S:List It} {a:Sl} {sz:Nat} {es:Fe} {L:aj} {Ds:List Nat}
def zF(F:Fence)(n:Nat)(P:Program)(c:Code)(T:Exit→Act→World→Prop):Nat→Act→World→Prop
 | 0,_,_=>False
 | k+1,b,W=>c.wpIn F n P (Exit.then (zF F n P c T k) T) b W
def sK(F:Fence)(n:Nat)(P:Program)(Q:Exit→Act→World→Prop)(S:List It)(k:Nat):Exit→Act→World→Prop:=Exit.then (zF F n P (fU S) (dd F n P Q (bQ S)) k) (dd F n P Q (bQ S))
theorem lu(N:Nat)(t:Go F n P R base (sK F n P Q S N) [.c (fU S)] ⟨sz,es⟩ L Ds)(r:m8 S=true:=by kernel_rfl):Go F n P R base Q S ⟨sz,es⟩ L Ds:=by
 classical
 refine⟨λb W s q=>dD 1000 S ?_⟩;rw[show dg 1000 S=_ from tX r];show(Code.loop (fU S)).wpIn F n P (dd F n P Q (bQ S)) b W
 let J:Nat→Act→World→Prop:=zF F n P (fU S) (dd F n P Q (bQ S))
 let μ:Act→World→Nat:=λb W=>if h: ∃j,J j b W then Xk (kP h) else 0
 have o: ∀b W,(∃j,J j b W)→J (μ b W) b W∧∀i,i<μ b W→¬J i b W:=by
  intro b W h;have e:μ b W=Xk (kP h):=dif_pos h;rw[e];exact Classical.choose_spec (kP h)
 refine wpIn_loop (λb W=>∃j,J j b W) μ ⟨N+1,t.out b W s q⟩ λb W p=>?_;have g:=(o b W p).1;obtain⟨m,v⟩: ∃m,m=μ b W:=⟨_,rfl⟩;rw[←v] at g;cases m with
 | zero=>exact g.elim
 | succ m=>
  refine wpIn_mono (show(fU S).wpIn F n P _ b W from g) λe f d l=>?_;cases e with
  | normal=>
   have k:J m f d:=l;have w:μ f d≤m:=Nat.le_of_not_lt λu=>(o f d ⟨_,k⟩).2 _ u k;exact⟨⟨_,k⟩,by omega⟩
  | _=>exact l
theorem eP{k:Nat}{d:List It}(h:Go F n P R base (sK F n P Q d k) [.c (fU d)] a L Ds)(f:(nf S).isEmpty=true:=by kernel_rfl):Go F n P R base (sK F n P Q d (k+1)) S a L Ds:=by
 refine⟨λb W g e=>dD 1000 S ?_⟩;rw[show dg 1000 S=[] from List.isEmpty_iff.1 f];exact h.out b W g e
theorem oy{k:Nat}{c:List It}(e:Go F n P R base Q ((jd S (bQ c)).getD []) a L Ds)(g:(jd S (bQ c)).isSome=true:=by kernel_rfl):Go F n P R base (sK F n P Q c k) S a L Ds:=by
 obtain⟨i,d⟩:=Option.isSome_iff_exists.1 g;rw[d] at e;exact⟨λb W h f=>tY d (e.out b W h f) λ_=>rfl⟩
instance {F:Fence} {n:Nat} {P:Program} {Q Q0:Exit→Act→World→Prop} {S0:List It} {k:Nat} [h:Rt Q Q0]:Rt (sK F n P Q S0 k) Q0:=⟨λb W hq=>gU (S:=bQ S0) (h.out b W hq)⟩
end
end
structure St where
 k:Int
 ln:Int
 d:List UInt8
 m:Nat
 f0:Int
 f1:Int
 f2:Int
 f3:Int
 f4:Int
 f5:Int
 f6:Int
 f7:Int
abbrev sL(k j:Int)(d:List UInt8)(m a b c e f g h i:Int):List Value:=([i6 k,i6 j]:List Value)++rB 64 d++([u6 m,i6 a,i6 b,i6 c,i6 e,i6 f,i6 g,i6 h,i6 i]:List Value)
abbrev sV(k j:Int)(d:List UInt8)(m a b c e f g h i:Int):Array Value:=(sL k j d m a b c e f g h i).toArray
def ae:St:=⟨0,0,WK 64 0,0,0,0,0,0,0,0,0,0⟩
def eSt(x:St):List Value:=[i6 x.k,i6 x.ln]++rB 64 x.d++[u6 (x.m:Int),i6 x.f0,i6 x.f1,i6 x.f2,i6 x.f3,i6 x.f4,i6 x.f5,i6 x.f6,i6 x.f7]
def Fv:Kd WJ St:=⟨eSt,[i6 0,i6 0]++WK 64 (u1 0)++[u6 0,i6 0,i6 0,i6 0,i6 0,i6 0,i6 0,i6 0,i6 0],32,50,ae,75,λ_=>rfl,rfl,λ_=>rfl,dX.mk' Kr Kr rfl⟩
theorem Fw(b:Nat)(k n:Int)(d:List UInt8)(m:Nat)(c e f g h i j:Int):aa WJ 95 #[pt b 67] [ob b (sV k n d m 1 c e f g h i j) 50] [] (λE=>[ob (E.y 0) #[pt b 68,pt b 69,pt b 70,pt b 71,pt b 73] 197]) (λE=> .slice (some ⟨(E.y 0),0,none⟩) 5 5):=by
 exact fG Tryz.func95 λw cs=>r0 [] [(2,.slice none 0 0)] [] (r0 [] [(3,pt b 68)] [] (r0 [(3,.l 0)] [(10,i6 1)] [] (rT [] 11 (rr (λa=>[(0,.v (pt b 68)),(1,.v (pt b 68)),(2,.v (pt b 68)),(3,.v (pt b 68)),(4,.v (pt b 68)),(5,.v (pt b 69)),(6,.v (pt b 68)),(7,.v (pt b 68)),(8,.v (pt b 70)),(9,.v (pt b 68)),(10,.v (pt b 68)),(11,.v (pt b 71)),(12,.v (pt b 67)),(13,.v (pt b 67)),(14,.v (pt b 73)),(15,.m (bs 1 5)),(16,.v (.slice (some ⟨(a 15).y 0,0,none⟩) 5 5))]) (λa=>[(2,.slice (some ⟨(a 15).y 0,0,none⟩) 5 5)]) [2] (λa L=>L++[ob ((a 15).y 0) #[pt b 68,pt b 69,pt b 70,pt b 71,pt b 73] 197]) λa=>lf (.l [(a 15).y 0] [] []) [1] [(0,0)] []))))
theorem Fx(b:Nat)(k n:Int)(d:List UInt8)(m:Nat)(c e f g h i j:Int):aa WJ 95 #[pt b 67] [ob b (sV k n d m 2 c e f g h i j) 50] [] (λE=>[ob (E.y 0) #[pt b 68,pt b 69,pt b 70,pt b 71,pt b 73,pt b 74] 197]) (λE=> .slice (some ⟨(E.y 0),0,none⟩) 6 6):=by
 exact fG Tryz.func95 λw cs=>r0 [] [(2,.slice none 0 0)] [] (r0 [] [(3,pt b 68)] [] (r0 [(3,.l 0)] [(10,i6 2)] [] (rF [] 11 (rT [] 29 (rr (λa=>[(0,.v (pt b 68)),(1,.v (pt b 68)),(2,.v (pt b 68)),(3,.v (pt b 68)),(4,.v (pt b 68)),(5,.v (pt b 69)),(6,.v (pt b 68)),(7,.v (pt b 68)),(8,.v (pt b 70)),(9,.v (pt b 68)),(10,.v (pt b 68)),(11,.v (pt b 71)),(12,.v (pt b 67)),(13,.v (pt b 67)),(14,.v (pt b 73)),(15,.v (pt b 67)),(16,.v (pt b 67)),(17,.v (pt b 74)),(18,.m (bs 1 6)),(19,.v (.slice (some ⟨(a 18).y 0,0,none⟩) 6 6))]) (λa=>[(2,.slice (some ⟨(a 18).y 0,0,none⟩) 6 6)]) [2] (λa L=>L++[ob ((a 18).y 0) #[pt b 68,pt b 69,pt b 70,pt b 71,pt b 73,pt b 74] 197]) λa=>lf (.l [(a 18).y 0] [] []) [1] [(0,0)] [])))))
theorem Fy(b:Nat)(k n:Int)(d:List UInt8)(m:Nat)(c e f g h i j:Int):aa WJ 95 #[pt b 67] [ob b (sV k n d m 3 c e f g h i j) 50] [] (λE=>[ob (E.y 0) #[pt b 68,pt b 69,pt b 70,pt b 72,pt b 74] 197]) (λE=> .slice (some ⟨(E.y 0),0,none⟩) 5 5):=by
 exact fG Tryz.func95 λw cs=>r0 [] [(2,.slice none 0 0)] [] (r0 [] [(3,pt b 68)] [] (r0 [(3,.l 0)] [(10,i6 3)] [] (rF [] 11 (rF [] 29 (rT [] 50 (rr (λa=>[(0,.v (pt b 68)),(1,.v (pt b 68)),(2,.v (pt b 68)),(3,.v (pt b 68)),(4,.v (pt b 68)),(5,.v (pt b 69)),(6,.v (pt b 68)),(7,.v (pt b 68)),(8,.v (pt b 70)),(9,.v (pt b 67)),(10,.v (pt b 67)),(11,.v (pt b 72)),(12,.v (pt b 67)),(13,.v (pt b 67)),(14,.v (pt b 74)),(15,.m (bs 1 5)),(16,.v (.slice (some ⟨(a 15).y 0,0,none⟩) 5 5))]) (λa=>[(2,.slice (some ⟨(a 15).y 0,0,none⟩) 5 5)]) [2] (λa L=>L++[ob ((a 15).y 0) #[pt b 68,pt b 69,pt b 70,pt b 72,pt b 74] 197]) λa=>lf (.l [(a 15).y 0] [] []) [1] [(0,0)] []))))))
theorem Fz(b:Nat)(k n:Int)(d:List UInt8)(m:Nat)(c e f g h i j:Int):aa WJ 95 #[pt b 67] [ob b (sV k n d m 4 c e f g h i j) 50] [] (λE=>[ob (E.y 0) #[pt b 68,pt b 69,pt b 71,pt b 72,pt b 74] 197]) (λE=> .slice (some ⟨(E.y 0),0,none⟩) 5 5):=by
 exact fG Tryz.func95 λw cs=>r0 [] [(2,.slice none 0 0)] [] (r0 [] [(3,pt b 68)] [] (r0 [(3,.l 0)] [(10,i6 4)] [] (rF [] 11 (rF [] 29 (rF [] 50 (rT [] 68 (rr (λa=>[(0,.v (pt b 68)),(1,.v (pt b 68)),(2,.v (pt b 68)),(3,.v (pt b 68)),(4,.v (pt b 68)),(5,.v (pt b 69)),(6,.v (pt b 68)),(7,.v (pt b 68)),(8,.v (pt b 71)),(9,.v (pt b 67)),(10,.v (pt b 67)),(11,.v (pt b 72)),(12,.v (pt b 67)),(13,.v (pt b 67)),(14,.v (pt b 74)),(15,.m (bs 1 5)),(16,.v (.slice (some ⟨(a 15).y 0,0,none⟩) 5 5))]) (λa=>[(2,.slice (some ⟨(a 15).y 0,0,none⟩) 5 5)]) [2] (λa L=>L++[ob ((a 15).y 0) #[pt b 68,pt b 69,pt b 71,pt b 72,pt b 74] 197]) λa=>lf (.l [(a 15).y 0] [] []) [1] [(0,0)] [])))))))
theorem FA(b:Nat)(k n:Int)(d:List UInt8)(m:Nat)(c e f g h i j:Int):aa WJ 95 #[pt b 67] [ob b (sV k n d m 5 c e f g h i j) 50] [] (λE=>[ob (E.y 0) #[pt b 68,pt b 72,pt b 74] 197]) (λE=> .slice (some ⟨(E.y 0),0,none⟩) 3 3):=by
 exact fG Tryz.func95 λw cs=>r0 [] [(2,.slice none 0 0)] [] (r0 [] [(3,pt b 68)] [] (r0 [(3,.l 0)] [(10,i6 5)] [] (rF [] 11 (rF [] 29 (rF [] 50 (rF [] 68 (rT [] 86 (rr (λ_=>[(9,.m (bs 1 3))]) (λa=>[(2,.slice (some ⟨(a 9).y 0,0,none⟩) 3 3)]) [2] (λa L=>L++[ob ((a 9).y 0) #[pt b 68,pt b 72,pt b 74] 197]) λa=>lf (.l [(a 9).y 0] [] []) [1] [(0,0)] []))))))))
theorem FB(b:Nat)(k n:Int)(d:List UInt8)(m:Nat)(c e f g h i j:Int):aa WJ 95 #[pt b 67] [ob b (sV k n d m 6 c e f g h i j) 50] [] (λE=>[ob (E.y 0) #[pt b 68,pt b 69,pt b 70,pt b 71] 197]) (λE=> .slice (some ⟨(E.y 0),0,none⟩) 4 4):=by
 exact fG Tryz.func95 λw cs=>r0 [] [(2,.slice none 0 0)] [] (r0 [] [(3,pt b 68)] [] (r0 [(3,.l 0)] [(10,i6 6)] [] (rF [] 11 (rF [] 29 (rF [] 50 (rF [] 68 (rF [] 86 (rT [] 98 (rr (λa=>[(0,.v (pt b 68)),(1,.v (pt b 68)),(2,.v (pt b 68)),(3,.v (pt b 68)),(4,.v (pt b 68)),(5,.v (pt b 69)),(6,.v (pt b 68)),(7,.v (pt b 68)),(8,.v (pt b 70)),(9,.v (pt b 68)),(10,.v (pt b 68)),(11,.v (pt b 71)),(12,.m (bs 1 4)),(13,.v (.slice (some ⟨(a 12).y 0,0,none⟩) 4 4))]) (λa=>[(2,.slice (some ⟨(a 12).y 0,0,none⟩) 4 4)]) [2] (λa L=>L++[ob ((a 12).y 0) #[pt b 68,pt b 69,pt b 70,pt b 71] 197]) λa=>lf (.l [(a 12).y 0] [] []) [1] [(0,0)] [])))))))))
theorem FC(b:Nat)(k j:Int)(d:List UInt8)(m:Nat)(a c e f g h i:Int):aa WJ 95 #[pt b 67] [ob b (sV k j d m 7 a c e f g h i) 50] [] N0 (λ_=> .slice none 0 0):=by
 exact fG Tryz.func95 λw cs=>r0 [] [(2,.slice none 0 0)] [] (r0 [] [(3,pt b 68)] [] (r0 [(3,.l 0)] [(10,i6 7)] [] (rF [] 11 (rF [] 29 (rF [] 50 (rF [] 68 (rF [] 86 (rF [] 98 (r0 [] [(2,.slice none 0 0)] [2] (lf ab.zero [] [(0,0)] []))))))))))
end E
end Go.Proofs.YtbcodenfkijdnaaGreat
