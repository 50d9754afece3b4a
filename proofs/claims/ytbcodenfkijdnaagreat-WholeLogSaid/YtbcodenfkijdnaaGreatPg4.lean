/- WholeLog, in 6 texts: part 4. For every input; no condition. -/
import Derived.Test.YtbcodenfkijdnaaGreatPg3
set_option linter.unusedVariables false
set_option linter.unusedSimpArgs false
set_option maxRecDepth 100000
namespace Go.Proofs.YtbcodenfkijdnaaGreat
open Go Go.RowKit Go.Shelf
open Go.Proofs.Tryz renaming prog→UZ
open List renaming replicate→U0,length_append→U1,getD_eq_getElem?_getD→U2,length_replicate→U3,getElem?_eq_getElem→U4,length_set→U6,length_take→U7,length_map→U8,length_drop→Ve,length_eraseIdx→Vf,append_assoc→Vh,range→Vi,length_range→Vj,not_mem_nil→Vl,take_add_one→Vn,take_length→Vo,drop_eq_getElem_cons→Vr,take_zero→Vs,mem_or_eq_of_mem_set→Vt,set_append_right→Vv,toList_toArray→Vy,getElem?_drop→VB,foldl_append→VD,length_cons→VF,length_tail→VG,mem_cons→VH,map_cons→VJ,flatten→VK
open Nat renaming le_trans→U5,succ_le_succ→Va,zero_le→Vc,le_refl→Vg,le_succ_of_le→Vk,lt_succ_self→Vp,mul_assoc→Vu,mul_comm→Vx,mul_le_mul_right→Vz,lt_succ_of_lt→VE,mul_succ→VN
open Bool renaming and_eq_true→U9,or_eq_false_iff→Vm,or_eq_true→Vq,true_and→VI
open Int renaming natCast_mul→Vb,toNat_of_nonneg→VC
open Classical renaming choose→Vw
open Go.Result renaming andThen_ok→VA
open Go.Sem renaming run_bind→VL,run_pure→VM
namespace E
theorem Oz(g:Nat)(c:Lg)(x:Re)(d:fA c)(j:c.l.length≠c.H):aa UZ 235 #[pt g 0,.agg #[iN x.s,iN x.t,iN x.k,iN x.i,iN x.o]] [pk (aA g c)] [0] (λ_=>[pk (aA g {c with l:=c.l++[l7 x c.next],next:=c.next+1})]) (λ_=> .tuple #[.agg #[iN c.next,iN x.t,iN x.k,iN x.i,iN x.o],.bool true]):=aa.pkZ Tryz.func235 λL e=>by
 obtain⟨v,rfl⟩:=e;refine⟨[0,1],λE=>[ob g #[(E.val 0),iN c.H,iN (c.next+1),.bool c.lost] 124,eF (E.val 0) (c.l++([(⟨c.next,x.t,x.k,x.i,x.o⟩:Re)]))],?_,rfl,λE=>⟨rfl,rfl,⟨_,rfl⟩⟩⟩;have f:=d.l;have k:=d.r;have i:=d.n;exact fG Tryz.func235 λw cs=>ra (λa=>[(3,pt (B0 a) 0),(4,pt (B1 a) 0),(5,.bool false)]) (λa=>[ob (B0 a) #[iN x.s,iN x.t,iN x.k,iN x.i,iN x.o] 59,ob (B1 a) #[i6 0,i6 0,i6 0,i6 0,i6 0] 59]) λa=>rs [(3,.l 0),(5,.s 2)] 2 (ob (B0 a) #[iN c.next,iN x.t,iN x.k,iN x.i,iN x.o] 59) (rs [(3,.l 0),(4,ad c.next 1),(7,.s 0)] 0 (ob g #[v,iN c.H,iN (c.next+1),.bool c.lost] 124) (rF [(3,.l 0),(4,ew dJ v c.l 1),(8,.l 0),(9,.t (tk (show Value.bool ((c.l.length:Int)==(c.H:Int))= .bool false from ALca Value.bool (by rw[dR];omega))))] 28 (rr (λb=>[(4,.l 0),(5,.l 2),(6,.m (bs 4 1)),(7,eX dJ (v) c.l 1 4 ([(⟨c.next,x.t,x.k,x.i,x.o⟩:Re)])),(10,.m (e6 0 1 (eF ((b 7).val 0) (c.l++([(⟨c.next,x.t,x.k,x.i,x.o⟩:Re)]))) ((b 7).val 0) λbs h=>ao.one ((λ_ h=>h) bs h)))]) N0 [] (λb L=>(L.set 0 (ob g #[(b 7).val 0,iN c.H,iN (c.next+1),.bool c.lost] 124)).set 1 (eF ((b 7).val 0) (c.l++([(⟨c.next,x.t,x.k,x.i,x.o⟩:Re)])))++[ob (B6 b) #[iN c.next,iN x.t,iN x.k,iN x.i,iN x.o] 59]) λb=>rr (λ_=>[(0,.l 2),(1,.s 3)]) (λ_=>[(5,.bool true)]) [5] (λ_ L=>L.set 3 (ob (B1 a) #[iN c.next,iN x.t,iN x.k,iN x.i,iN x.o] 59)) λn=>lf (.l [] [] [(b 7).val 0]) [0,1] [] [3])))
theorem OA(g:Nat)(c:Lg)(x:Re)(b:fA c)(f:c.l.length=c.H)(i:bW x=true):aa UZ 235 #[pt g 0,.agg #[iN x.s,iN x.t,iN x.k,iN x.i,iN x.o]] [pk (aA g c)] [0] (λ_=>[pk (aA g {c with next:=c.next+1,lost:=true})]) (λ_=> .tuple #[.agg #[iN c.next,iN x.t,iN x.k,iN x.i,iN x.o],.bool false]):=aa.pkZ Tryz.func235 λL e=>by
 obtain⟨v,rfl⟩:=e;refine⟨[0,1],λ_=>[ob g #[v,iN c.H,iN (c.next+1),.bool true] 124,eF v c.l],?_,rfl,λE=>⟨rfl,rfl,⟨_,rfl⟩⟩⟩;have j:=b.l;have n:=b.r;have m:=b.n;refine fG Tryz.func235 λw cs=>ra (λa=>[(3,pt (B0 a) 0),(4,pt (B1 a) 0),(5,.bool false)]) (λa=>[ob (B0 a) #[iN x.s,iN x.t,iN x.k,iN x.i,iN x.o] 59,ob (B1 a) #[i6 0,i6 0,i6 0,i6 0,i6 0] 59]) λa=>rs [(3,.l 0),(5,.s 2)] 2 (ob (B0 a) #[iN c.next,iN x.t,iN x.k,iN x.i,iN x.o] 59) (rs [(3,.l 0),(4,ad c.next 1),(7,.s 0)] 0 (ob g #[v,iN c.H,iN (c.next+1),.bool c.lost] 124) (rT [(3,.l 0),(4,ew dJ v c.l 1),(8,.l 0),(9,.t (tk (show Value.bool ((c.l.length:Int)==(c.H:Int))= .bool true from ALca Value.bool (by rw[f];exact beq_self_eq_true _))))] 28 (rs [(3,.s 0)] 0 (ob g #[v,iN c.H,iN (c.next+1),.bool true] 124) (r0 [(1,.c [0,1] [] (aa.at (rd':=[ob g #[v,iN c.H,iN (c.next+1),.bool true] 124,eF v c.l]) (xM g v c.l c.H (c.next+1) true Om) (aN (bN (λ_ h=>ao.sq h) (λ_ h=>h)))))] [(6,i6 (gY bW c.l))] [] (r0 [(0,.l 2),(1,.c [] [] (pD (⟨c.next,x.t,x.k,x.i,x.o⟩:Re)))] [(40,.bool ((!(((⟨c.next,x.t,x.k,x.i,x.o⟩:Re).k:Int)==2))||(decide ((gY bW c.l)<0))))] [] ?_)))));have d:((!(((⟨c.next,x.t,x.k,x.i,x.o⟩:Re).k:Int)==2))||(decide ((gY bW c.l)<0)))=true:=by rw[show(!((x.k:Int)==2))=true from i];rfl
 exact cT ((!(((⟨c.next,x.t,x.k,x.i,x.o⟩:Re).k:Int)==2))||(decide ((gY bW c.l)<0))) d (rr (λ_=>[(0,.l 2),(1,.s 3)]) (λ_=>[(5,.bool false)]) [5] (λ_ L=>L.set 3 (ob (B1 a) #[iN c.next,iN x.t,iN x.k,iN x.i,iN x.o] 59)) λo=>lf ab.zero [0,1] [] [3])
theorem OB(g:Nat)(c:Lg)(x:Re)(b:fA c)(f:c.l.length=c.H)(o:bW x=false)(i:aO bW c.l=c.l.length):aa UZ 235 #[pt g 0,.agg #[iN x.s,iN x.t,iN x.k,iN x.i,iN x.o]] [pk (aA g c)] [0] (λ_=>[pk (aA g {c with next:=c.next+1,lost:=true})]) (λ_=> .tuple #[.agg #[iN c.next,iN x.t,iN x.k,iN x.i,iN x.o],.bool false]):=aa.pkZ Tryz.func235 λL e=>by
 obtain⟨v,rfl⟩:=e;refine⟨[0,1],λ_=>[ob g #[v,iN c.H,iN (c.next+1),.bool true] 124,eF v c.l],?_,rfl,λE=>⟨rfl,rfl,⟨_,rfl⟩⟩⟩;have j:=b.l;have n:=b.r;have m:=b.n;refine fG Tryz.func235 λw cs=>ra (λa=>[(3,pt (B0 a) 0),(4,pt (B1 a) 0),(5,.bool false)]) (λa=>[ob (B0 a) #[iN x.s,iN x.t,iN x.k,iN x.i,iN x.o] 59,ob (B1 a) #[i6 0,i6 0,i6 0,i6 0,i6 0] 59]) λa=>rs [(3,.l 0),(5,.s 2)] 2 (ob (B0 a) #[iN c.next,iN x.t,iN x.k,iN x.i,iN x.o] 59) (rs [(3,.l 0),(4,ad c.next 1),(7,.s 0)] 0 (ob g #[v,iN c.H,iN (c.next+1),.bool c.lost] 124) (rT [(3,.l 0),(4,ew dJ v c.l 1),(8,.l 0),(9,.t (tk (show Value.bool ((c.l.length:Int)==(c.H:Int))= .bool true from ALca Value.bool (by rw[f];exact beq_self_eq_true _))))] 28 (rs [(3,.s 0)] 0 (ob g #[v,iN c.H,iN (c.next+1),.bool true] 124) (r0 [(1,.c [0,1] [] (aa.at (rd':=[ob g #[v,iN c.H,iN (c.next+1),.bool true] 124,eF v c.l]) (Oq g v c.l c.H (c.next+1) true Om Om) (aN (bN (λ_ h=>ao.sq h) (λ_ h=>h)))))] [(6,i6 (-1))] [] (r0 [(0,.l 2),(1,.c [] [] (pD (⟨c.next,x.t,x.k,x.i,x.o⟩:Re)))] [(40,.bool ((!(((⟨c.next,x.t,x.k,x.i,x.o⟩:Re).k:Int)==2))||true))] [] ?_)))));have d:((!(((⟨c.next,x.t,x.k,x.i,x.o⟩:Re).k:Int)==2))||true)=true:=by rw[Bool.or_true]
 exact cT ((!(((⟨c.next,x.t,x.k,x.i,x.o⟩:Re).k:Int)==2))||true) d (rr (λ_=>[(0,.l 2),(1,.s 3)]) (λ_=>[(5,.bool false)]) [5] (λ_ L=>L.set 3 (ob (B1 a) #[iN c.next,iN x.t,iN x.k,iN x.i,iN x.o] 59)) λp=>lf ab.zero [0,1] [] [3])
theorem OD(g:Nat)(c:Lg)(x:Re)(e:fA c)(o:c.l.length=c.H)(p:bW x=false)(n:aO bW c.l<c.l.length):aa UZ 235 #[pt g 0,.agg #[iN x.s,iN x.t,iN x.k,iN x.i,iN x.o]] [pk (aA g c)] [0] (λ_=>[pk (aA g {c with l:=c.l.eraseIdx (aO bW c.l)++[l7 x c.next],next:=c.next+1,lost:=true})]) (λ_=> .tuple #[.agg #[iN c.next,iN x.t,iN x.k,iN x.i,iN x.o],.bool true]):=aa.pkZ Tryz.func235 λL i=>by
 obtain⟨v,rfl⟩:=i;refine⟨[0,1],λE=>[ob g #[(E.val 0),iN c.H,iN (c.next+1),.bool true] 124,eF (E.val 0) ((c.l.eraseIdx (aO bW c.l))++([(⟨c.next,x.t,x.k,x.i,x.o⟩:Re)]))],?_,rfl,λE=>⟨rfl,rfl,⟨_,rfl⟩⟩⟩;have r:=e.l;have y:=e.r;have u:=e.n;have j:(c.l.eraseIdx (aO bW c.l)).length=c.l.length-1:=by rw[Vf,ALifp n]
 refine fG Tryz.func235 λw cs=>ra (λb=>[(3,pt (B0 b) 0),(4,pt (B1 b) 0),(5,.bool false)]) (λb=>[ob (B0 b) #[iN x.s,iN x.t,iN x.k,iN x.i,iN x.o] 59,ob (B1 b) #[i6 0,i6 0,i6 0,i6 0,i6 0] 59]) λb=>rs [(3,.l 0),(5,.s 2)] 2 (ob (B0 b) #[iN c.next,iN x.t,iN x.k,iN x.i,iN x.o] 59) (rs [(3,.l 0),(4,ad c.next 1),(7,.s 0)] 0 (ob g #[v,iN c.H,iN (c.next+1),.bool c.lost] 124) (rT [(3,.l 0),(4,ew dJ v c.l 1),(8,.l 0),(9,.t (tk (show Value.bool ((c.l.length:Int)==(c.H:Int))= .bool true from ALca Value.bool (by rw[o];exact beq_self_eq_true _))))] 28 (rs [(3,.s 0)] 0 (ob g #[v,iN c.H,iN (c.next+1),.bool true] 124) (r0 [(1,.c [0,1] [] (aa.at (rd':=[ob g #[v,iN c.H,iN (c.next+1),.bool true] 124,eF v c.l]) (Oo g v c.l c.H (c.next+1) true Om Om) (aN (bN (λ_ h=>ao.sq h) (λ_ h=>h)))))] [(6,iN (aO bW c.l))] [] (r0 [(0,.l 2),(1,.c [] [] (pD (⟨c.next,x.t,x.k,x.i,x.o⟩:Re)))] [(40,.bool ((!(((⟨c.next,x.t,x.k,x.i,x.o⟩:Re).k:Int)==2))||(decide (((aO bW c.l:Nat):Int)<0))))] [] ?_)))));have f:((!(((⟨c.next,x.t,x.k,x.i,x.o⟩:Re).k:Int)==2))||(decide (((aO bW c.l:Nat):Int)<0)))=false:=by rw[show(!((x.k:Int)==2))=false from p,Bool.false_or];exact bg Om
 exact cF ((!(((⟨c.next,x.t,x.k,x.i,x.o⟩:Re).k:Int)==2))||(decide (((aO bW c.l:Nat):Int)<0))) f (rr (λd=>[(4,.m (ld 0 (v))),(7,ad (aO bW c.l) 1),(8,.c [1] [1] (Oy v c.l (aO bW c.l) Om)),(11,.m (e6 0 1 (eF ((d 8).val 0) (c.l.eraseIdx (aO bW c.l))) ((d 8).val 0) λbs h=>ao.one ((λ_ h=>h) bs h)))]) N0 [] (λd L=>(L.set 0 (ob g #[(d 8).val 0,iN c.H,iN (c.next+1),.bool true] 124)).set 1 (eF ((d 8).val 0) (c.l.eraseIdx (aO bW c.l)))) λd=>rr (λa=>[(4,.l 0),(5,.l 2),(6,.m (bs 4 1)),(7,eX dJ ((d 8).val 0) (c.l.eraseIdx (aO bW c.l)) 1 4 ([(⟨c.next,x.t,x.k,x.i,x.o⟩:Re)])),(10,.m (e6 0 1 (eF ((a 7).val 0) ((c.l.eraseIdx (aO bW c.l))++([(⟨c.next,x.t,x.k,x.i,x.o⟩:Re)]))) ((a 7).val 0) λbs h=>ao.one ((λ_ h=>h) bs h)))]) N0 [] (λa L=>(L.set 0 (ob g #[(a 7).val 0,iN c.H,iN (c.next+1),.bool true] 124)).set 1 (eF ((a 7).val 0) ((c.l.eraseIdx (aO bW c.l))++([(⟨c.next,x.t,x.k,x.i,x.o⟩:Re)])))++[ob (B6 a) #[iN c.next,iN x.t,iN x.k,iN x.i,iN x.o] 59]) λa=>rr (λ_=>[(0,.l 2),(1,.s 3)]) (λ_=>[(5,.bool true)]) [5] (λ_ L=>L.set 3 (ob (B1 b) #[iN c.next,iN x.t,iN x.k,iN x.i,iN x.o] 59)) λq=>lf (.l [] [] [(a 7).val 0]) [0,1] [] [3])
theorem OE(g:Nat)(c:Lg)(x:Re)(d:fA c):aa UZ 235 #[pt g 0,.agg #[iN x.s,iN x.t,iN x.k,iN x.i,iN x.o]] [pk (aA g c)] [0] (λ_=>[pk (aA g (bF c x))]) (λ_=> .tuple #[.agg #[iN c.next,iN x.t,iN x.k,iN x.i,iN x.o],.bool (Dd c x)]):=by
 unfold bF Dd;by_cases a:c.l.length=c.H
 ·rw[ALifp a,cS a];cases e:bW x with
  | true=>rw[ALifp (.inl rfl)];exact OA g c x d a e
  | false=>
   by_cases b:aO bW c.l=c.l.length
   ·rw[ALifp (.inr b),cS b];exact OB g c x d a e b
   ·rw[ALifn (λh=>h.elim (λh=>by cases h) b),bg b];exact OD g c x d a e (by have:=mU bW c.l;omega)
 ·rw[ALifn a,bg a];exact Oz g c x d a
section
section
variable {α:Type} {P:Program} {en:α→List Value} {z:List Value} {e T:TypeId} {v:Value} {xs ys:List α} {bs:av} {w:World}
theorem OF{i:Nat}(a:i<xs.length):aj en xs=aj en (xs.take i)++(en xs[i]++aj en (xs.drop (i+1))):=by
 have e:xs=xs.take i++(xs[i]::xs.drop (i+1)):=by rw[←Vr a,List.take_append_drop]
 conv=>lhs;rw[e]
 rw[jL];rfl
theorem OG{i:Nat}{a:α}(b:i<xs.length):aj en (xs.set i a)=aj en (xs.take i)++(en a++aj en (xs.drop (i+1))):=by
 rw[List.set_eq_take_append_cons_drop,ALifp b,jL];rfl
theorem OH(A X C l:List Value)(f:Nat)(c:f+l.length≤X.length):(A++(X++C)).take (A.length+f)++l++(A++(X++C)).drop (A.length+f+l.length)=A++((X.take f++l++X.drop (f+l.length))++C):=by
 have a:(A++(X++C)).take (A.length+f)=A++X.take f:=by
  rw[List.take_append,List.take_of_length_le Om,Nat.add_sub_cancel_left,List.take_append_of_le_length Om]
 have b:(A++(X++C)).drop (A.length+f+l.length)=X.drop (f+l.length)++C:=by
  rw[List.drop_append,List.drop_eq_nil_of_le Om,List.nil_append,show A.length+f+l.length-A.length=f+l.length by omega,List.drop_append_of_le_length c]
 rw[a,b];simp only[Vh]
theorem OI(p i k f:Nat){a d:α}{l:List Value}(u: ∀y,(en y).length=k)(m:i<xs.length)(N:f+l.length≤k)(Q:en a=(en (xs.getD i d)).take f++l++(en (xs.getD i d)).drop (f+l.length)):MD.ok P (λ_=>undef) (o7 P p (.p (ao en z T v xs)) (.p (ao en z T v (xs.set i a))) v (i*k+f) l) [p]:=by
 intro o ρ C j w c s;unfold o7 at j s⊢
 split at j
 ·rename_i I x y n;simp only[n] at s⊢;simp only[VH,Vl,or_false,forall_eq_or_imp,forall_eq,sE,sB] at j;obtain⟨F,M,K,L⟩:=j;obtain⟨J,D⟩:=s.ent;obtain⟨g,r,rfl,G⟩:=ao.some (show ao en z T v xs (c p) from J) m;rw[G] at D;have b:=D.one;have t:xs.getD i d=xs[i]:=by rw[U2,U4 m];rfl
  have hA:(aj en (xs.take i)).length=i*k:=fq u (by rw[U7];omega);have O:(bA (aj en xs) z r).toList.take (0+(i*k+f))++l++(bA (aj en xs) z r).toList.drop (0+(i*k+f)+l.length)=(bA (aj en (xs.set i a)) z r).toList:=by
   unfold bA;rw[Vy,Vy,OF (en:=en) m,OG m,Q,t,Nat.zero_add,←hA];have:=OH (aj en (xs.take i)) (en xs[i]) (aj en (xs.drop (i+1))++(U0 r z).flatten) l f (by rw[u];exact N);simp only[Vh] at this⊢;exact this
  have A:0+(i*k+f)+l.length≤(bA (aj en xs) z r).size:=by
   rw[sG,fq u rfl];have:=Vz k (show i+1≤xs.length from m);rw[Nat.add_mul] at this;omega
  simp only[eV,add_lit] at F;have B:=a8.setRow (bA (aj en (xs.set i a)) z r) b;refine⟨ab.zero,λ_=>[(g,.cells (bA (aj en (xs.set i a)) z r) T (0,0))],w.setRow g (bA (aj en (xs.set i a)) z r),.inr ⟨?_,by simp⟩,λq h=>?_,?_⟩
  ·unfold execOp;have H:=sx (P:=P) (T:=I) b A (List.all_eq_true.1 K) L;rw[O,Array.toArray_toList] at H;simp only[n,F,sy M,Instr.storeAt,Instr.sureAddr,VL,VM,VA,H]
  ·rw[List.mem_singleton.1 h];exact .inr ⟨g,r,by rw[U6],rfl⟩
  ·rw[show([p].flatMap λp=>bJ (c p))=_ by simp only[List.flatMap_cons,List.flatMap_nil,G,bJ];rfl];exact B
 ·exact(bu j).elim
def Di(K:Kd P α)(v:Value)(xs:List α)(p i f:Nat)(a:α)(l:List Value)(g:K.en a=(K.en (xs.getD i K.d)).take f++l++(K.en (xs.getD i K.d)).drop (f+l.length))(b:i<xs.length:=by omega)(c:f+l.length≤K.k:=by exact Nat.le_of_ble_eq_true rfl):b6 P:=
 .m ⟨[p],o7 P p (.p (ao K.en K.z K.T v xs)) (.p (ao K.en K.z K.T v (xs.set i a))) v (i*K.k+f) l,OI (d:=K.d) p i K.k f K.hk b c g⟩
end
end
structure Pa where
 k:Nat
 l:Nat
 a:Nat
deriving DecidableEq
def bo:Pa:=⟨0,0,0⟩
def oB(x:Pa):List Value:=[iN x.k,iN x.l,iN x.a]
def eA:Kd UZ Pa:=⟨oB,[i6 0,i6 0,i6 0],354,386,bo,3,λ_=>rfl,rfl,λ_=>rfl,dS.mk' Kr Kr rfl⟩
abbrev dX(v:Value)(xs:List Pa):aB:= .p (ao oB ([i6 0,i6 0,i6 0]) 386 v xs)
def bH(k:Nat)(x:Pa):Bool:=(x.k:Int)==(k:Int)
structure Tb where
 l:List Pa
 H:Nat
structure gZ (ev:Nat) (t:Tb):Prop where
 l:t.l.length≤t.H
 r1:1≤t.H
 r:t.H≤256
 b: ∀i,i<t.l.length→eP ev (t.l.getD i bo).l (t.l.getD i bo).a
abbrev dN(g:Nat)(t:Tb)(L:ah):Prop:=∃v:Value,L=[ob g #[v,iN t.H,.func (.func 178) #[] #[]] 356,dX v t.l]
def dY(xs:List Pa):Nat→Nat×Nat
 | 0=>(0,0)
 | k+1=>if k=0∨(xs.getD k bo).l<(dY xs k).2 then(k,(xs.getD k bo).l) else dY xs k
theorem xO(xs:List Pa): ∀k,1≤k→(dY xs k).1<k
 | 0,h=>by omega
 | 1,_=>by unfold dY;rw[ALifp (.inl rfl)];exact Nat.zero_lt_one
 | k+2,_=>by
  unfold dY
  split
  ·exact Vp _
  ·exact VE (xO xs (k+1) Om)
theorem OJ{xs:List Pa}{k:Nat}(h:(((k:Int)==0)||decide ((((xs.getD k bo).l:Nat):Int)<(((dY xs k).2:Nat):Int)))=true):dY xs (k+1)=(k,(xs.getD k bo).l):=by
 rw[dY,ALifp];simp only[Vq,decide_eq_true_eq,beq_iff_eq] at h;omega
theorem OK{xs:List Pa}{k:Nat}(h:(((k:Int)==0)||decide ((((xs.getD k bo).l:Nat):Int)<(((dY xs k).2:Nat):Int)))=false):dY xs (k+1)=dY xs k:=by
 rw[dY,ALifn];simp only[Vm,decide_eq_false_iff_not,dR] at h;omega
def cX(t:Tb)(k:Nat):Bk:=if aO (bH k) t.l=t.l.length then bh else⟨(t.l.getD (aO (bH k) t.l) bo).l,(t.l.getD (aO (bH k) t.l) bo).a⟩
def uA(t:Tb)(k:Nat):Bool:= !decide (aO (bH k) t.l=t.l.length)
def oC(t:Tb)(k l a:Nat):Tb:=
 if aO (bH k) t.l=t.l.length then
  (if t.l.length=t.H then{t with l:=t.l.eraseIdx (dY t.l t.l.length).1++[⟨k,l,a⟩]} else{t with l:=t.l++[⟨k,l,a⟩]})
 else{t with l:=t.l.set (aO (bH k) t.l) ⟨(t.l.getD (aO (bH k) t.l) bo).k,l,a⟩}
def oD(t:Tb)(k:Nat):Tb:=if aO (bH k) t.l=t.l.length then t else{t with l:=t.l.eraseIdx (aO (bH k) t.l)}
def Dj(t:Tb)(k:Nat):Nat:=if aO (bH k) t.l=t.l.length∧t.l.length=t.H then(t.l.getD (dY t.l t.l.length).1 bo).k else 0
def Dk(t:Tb)(k:Nat):Bool:=decide (aO (bH k) t.l=t.l.length)&&decide (t.l.length=t.H)
structure Tk where
 lr:Nat
 er:Nat
 lp:Nat
 ep:Nat
 H:Nat
 J:Nat
 F:List Bk
 t:Tb
structure dL (c:Tk):Prop where
 r:ie c.lr c.er
 p:ie c.lp c.ep
 h1:1≤c.J
 h2:c.J≤65536
 n:c.F.length≤8
 b: ∀i,i<c.F.length→eP c.er (c.F.getD i bh).l (c.F.getD i bh).a
 t:gZ c.ep c.t
abbrev aD(g a:Nat)(c:Tk)(L:ah):Prop:=∃v:Value,L=[ob g #[iN c.lr,iN c.er,iN c.lp,iN c.ep,iN c.H,iN c.J,v,pt a 0] 294,jY v c.F,pk (dN a c.t)]
def fk(c:Tk)(r p n:Nat):Tk:={c with F:=c.F.set r ⟨cc (c.F.getD r bh).l n,(c.F.getD r bh).a⟩,t:=oC c.t p (cc (cX c.t p).l n) (cX c.t p).a}
def oE(c:Tk)(r:Nat):Tk:={c with F:=c.F.set r ⟨0,0⟩}
def pE(c:Tk)(p:Nat):Tk:={c with t:=oD c.t p}
theorem gZ.get{ev:Nat}{t:Tb}(h:gZ ev t)(b:1≤ev)(k:Nat):eP ev (cX t k).l (cX t k).a:=by
 unfold cX
 split
 ·exact⟨Vc _,b⟩
 ·have:=mU (bH k) t.l;exact h.b _ Om
theorem OL(l a:Nat):aa UZ 178 #[.agg #[iN l,iN a]] [] [] N0 (λ_=>iN l):=by
 exact fG Tryz.func178 λw cs=>ra (λb=>[(1,pt (B0 b) 0),(2,i6 0)]) (λb=>[ob (B0 b) #[iN l,iN a] 290]) λb=>r0 [(1,.l 0)] [(2,iN l)] [2] (lf ab.zero [] [] [])
theorem OM(b k:Nat)(x:Pa):aa UZ 279 #[.agg #[iN x.k,iN x.l,iN x.a],pt b 0] [ob b #[iN k] 3] [] N0 (λ_=> .bool (bH k x)):=by
 exact fG Tryz.func279 λw cs=>ra (λa=>[(2,pt (B0 a) 0),(3,.bool false)]) (λa=>[ob (B0 a) #[iN x.k,iN x.l,iN x.a] 386]) λa=>r0 [(1,.l 1),(2,.l 0)] [(3,.bool ((x.k:Int)==(k:Int)))] [3] (ak (.bool ((x.k:Int)==(k:Int))) ab.zero a7 [] [(0,0)] [])
theorem ON(v:Value)(b k:Nat)(xs:List Pa)(m:xs.length≤1000000):aa UZ 278 #[v,.func (.func 279) #[] #[pt b 0]] [ob b #[iN k] 3,.p (aJ oB v xs)] [] N0 (λ_=>i6 (gY (bH k) xs)):=by
 refine fO Tryz.func278 1 rfl λf a=>fG Tryz.func278 λw cs=>r0 [] [(4,i6 0)] [] (r0 [(1,ey a.1 1)] [(7,iN xs.length),(8,i6 0)] [] ?_);refine lq (λn=>n≤xs.length∧(∀j,j<n→bH k (xs.getD j bo)=false)) (λn=>[(8,iN n)]) (λ_ L=>L) (λn=>xs.length-n) 0 ⟨by omega,(λ_ h=>absurd h (Nat.not_lt_zero _))⟩ Kr Kr (λn ⟨l,e⟩=>?_);refine r0 [] [(9,.bool (decide ((n:Int)<(xs.length:Int))))] [] ?_;refine b4 (n:Int) (xs.length:Int) (λg d=>?_) λg d=>?_
 ·refine r0 [] [(5,iN n)] [] (r0 [(3,e7 a.1 1 n 3),(4,mG eA a.1 1 n 0 3),(5,.c [0] [] (OM b k (xs.getD n bo)))] [(16,.bool (bH k (xs.getD n bo)))] [] ?_);refine cB (bH k (xs.getD n bo)) (λi=>?_) λi=>?_
  ·exact r0 [] [(4,iN n)] [] (ak (iN n) ab.zero (by(rw[Db Om e As];done)) [] [(0,0),(1,1)] [])
  exact r0 [(0,ad n 1)] [(8,iN (n+1))] [8] (le (n+1) ⟨by omega,xy e As⟩ Om Kr [0,1] Kr)
 obtain rfl:xs.length=n:=by omega
 exact lx (r0 [] [(4,i6 (-1))] [] (ak (i6 (-1)) ab.zero (by(rw[Da e];done)) [] [(0,0),(1,1)] []))
theorem Dl(g:Nat)(v:Value)(l:List Pa)(room k:Nat)(e:l.length≤1000000):aa UZ 261 #[pt g 0,iN k] [ob g #[v,iN room,.func (.func 178) #[] #[]] 356,.p (aJ oB v l)] [] N0 (λ_=>i6 (gY (bH k) l)):=by
 exact fO Tryz.func261 1 rfl λb d=>fG Tryz.func261 λw cs=>ra (λa=>[(3,pt (B0 a) 0),(4,i6 0)]) (λa=>[ob (B0 a) #[iN k] 3]) λa=>r0 [(3,.l 0),(5,.c [2,1] [] (aa.at (rd':=[ob (B0 a) #[iN k] 3,.c b]) (ON v (B0 a) k l Om) (aN (ec d (λ_ h=>h)))))] [(4,i6 (gY (bH k) l))] [4] (lf ab.zero [] [(0,0),(1,1)] [])
theorem xP(g:Nat)(v:Value)(l:List Pa)(room k:Nat)(b:l.length≤1000000)(h:aO (bH k) l<l.length):aa UZ 261 #[pt g 0,iN k] [ob g #[v,iN room,.func (.func 178) #[] #[]] 356,.p (aJ oB v l)] [] N0 (λ_=>iN (aO (bH k) l)):=by
 have a:=Dl g v l room k b;unfold gY at a;rwa [ALifn Om] at a
theorem uB(g:Nat)(v:Value)(l:List Pa)(room k:Nat)(b:l.length≤1000000)(h:aO (bH k) l=l.length):aa UZ 261 #[pt g 0,iN k] [ob g #[v,iN room,.func (.func 178) #[] #[]] 356,.p (aJ oB v l)] [] N0 (λ_=>i6 (-1)):=by
 have a:=Dl g v l room k b;unfold gY at a;rwa [ALifp h] at a
theorem OO(g:Nat)(v:Value)(l:List Pa)(room:Nat)(m:l.length≤1000000):aa UZ 263 #[pt g 0] [ob g #[v,iN room,.func (.func 178) #[] #[]] 356,.p (aJ oB v l)] [] N0 (λ_=>iN ((dY l l.length).1)):=by
 refine fO Tryz.func263 1 rfl λh b=>fG Tryz.func263 λw cs=>r0 [] [(2,i6 0)] [] (r0 [] [(3,i6 0),(4,i6 0)] [] (r0 [(3,.l 0),(4,ey b.1 1)] [(11,v),(12,iN l.length),(13,i6 0)] [] ?_));refine lq (λk=>k≤l.length) (λk=>[(3,iN ((dY l k).1)),(4,iN ((dY l k).2)),(13,iN k)]) (λ_ L=>L) (λk=>l.length-k) 0 Om Kr Kr (λk j=>?_);refine r0 [] [(14,.bool (decide ((k:Int)<(l.length:Int))))] [] ?_;refine b4 (k:Int) (l.length:Int) (λi e=>?_) λi e=>?_
 ·refine rr (λ_=>[(1,e7 b.1 1 k 3),(2,mG eA b.1 1 k 0 3),(5,.s 2)]) (λd=>[(6,pt (B3 d) 0),(5,iN k)]) [] (λd L=>L++[ob (B3 d) #[iN ((l.getD k bo).k),iN ((l.getD k bo).l),iN ((l.getD k bo).a)] 386]) λd=>r0 [(3,.l 0),(5,.l 2),(6,.c [] [] (OL ((l.getD k bo).l) ((l.getD k bo).a)))] [(7,iN ((l.getD k bo).l))] [] (r0 [] [(31,.bool (((k:Int)==0)||(decide ((((l.getD k bo).l:Nat):Int)<(((dY l k).2:Nat):Int)))))] [] ?_);refine cB (((k:Int)==0)||(decide ((((l.getD k bo).l:Nat):Int)<(((dY l k).2:Nat):Int)))) (λf=>?_) λf=>?_
  ·exact r0 [] [(3,iN k),(4,iN ((l.getD k bo).l))] [3,4] (r0 [(0,ad k 1)] [(13,iN (k+1))] [13] (le (k+1) Om Om (by(rw[OJ As]);kernel_rfl) [0,1] Kr))
  exact r0 [(0,ad k 1)] [(13,iN (k+1))] [13] (le (k+1) Om Om (by(rw[OK As]);kernel_rfl) [0,1] Kr)
 obtain rfl:l.length=k:=by omega
 exact lx (r0 [] [(2,iN ((dY l l.length).1))] [2] (lf ab.zero [] [(0,0),(1,1)] []))
section
open Go.Lib
set_option maxRecDepth 1000000 in
set_option maxHeartbeats 1000000 in
theorem OP(g n b i j:Nat)(w:World)(S:i<j)(R:j≤n)(H:n≤b)(a:Array Value)(x:w.heap[g]? =some (.cells a 386 (0,0)))(news:List Value)(d:news.length=(n-(j))*3)(m: ∀u∈news,u.oneCell'=true)(o: ∀t u,news[t]? =some u→w.cell? ⟨g,(j)*3+t,none⟩=some u)(k:i*3+news.length≤a.size)(C:n*3≤a.size):Calls UZ 280 #[.slice (some ⟨g,0,none⟩) n b,.int .i64 (i:Int),.int .i64 (j:Int)] w λe w'=>e= .returned (.slice (some ⟨g,0,none⟩) (n-(j-i)) b)∧w'=(w.drew.setRow g (a.toList.take (i*3)++news++a.toList.drop (i*3+news.length)).toArray).setRow g ((a.toList.take (i*3)++news++a.toList.drop (i*3+news.length)).toArray.toList.take ((i+(n-j))*3)++(U0 (n-(i+(n-j))) eA.z).flatten++(a.toList.take (i*3)++news++a.toList.drop (i*3+news.length)).toArray.toList.drop ((i+(n-j))*3+(n-(i+(n-j)))*3)).toArray:=by
 have F:Tryz.prog.follows .mixedOrders=true:=by kernel_rfl
 have P:i≤b:=by omega
 have Q:j≤b:=by omega
 obtain⟨V,Z,B,T,D,U,N⟩:=eA.hT.hi;obtain⟨A,hA,s⟩: ∃A:Addr,(if b=j then some (⟨g,0,none⟩:Addr) else some ⟨g,(j)*3,none⟩)=some A∧Hid (∀t u,news[t]? =some u→w.drew.cell? (A.add t)=some u):=by
  by_cases h:b=j
  ·refine⟨⟨g,0,none⟩,by simp [h],λt u v=>?_⟩;have K:news.length=0:=by rw[d];omega
   rw[List.length_eq_zero_iff.1 K] at v;simp at v
  ·exact⟨⟨g,(j)*3,none⟩,by simp [h],λt u v=>by rw[Addr.add_lit];exact o t u v⟩
 have W:Hid (news.length=(n-(j))*3):=d;have X:Hid (∀u∈news,u.oneCell'=true):=m;have Y:Hid (i*3+news.length≤a.size):=k;have I:Hid (w.drew.heap[g]? =some (.cells a 386 (0,0))):=x;obtain⟨p,q⟩: ∃p,p=w.drew.setRow g (a.toList.take (i*3)++news++a.toList.drop (i*3+news.length)).toArray:=⟨_,rfl⟩;have G:Hid (p=w.drew.setRow g (a.toList.take (i*3)++news++a.toList.drop (i*3+news.length)).toArray):=q;obtain⟨c,f⟩: ∃c,c=(a.toList.take (i*3)++news++a.toList.drop (i*3+news.length)).toArray:=⟨_,rfl⟩;have y:c.size=a.size:=by
  rw[f];simp only[List.size_toArray,U1,U7,Ve,Array.length_toList];omega
 have l:p.heap[g]? =some (.cells c 386 (0,0)):=by rw[q,←f];exact setRow_heap _ g a _ _ _ I.out
 obtain⟨z,r⟩: ∃z,z=p.setRow g (c.toList.take ((i+(n-j))*3)++(U0 (n-(i+(n-j))) eA.z).flatten++c.toList.drop ((i+(n-j))*3+(n-(i+(n-j)))*3)).toArray:=⟨_,rfl⟩;have O: ∀J,(Builtin.clear_ #[354] J #[.slice (some ⟨g,(i+(n-j))*3,none⟩) (n-(i+(n-j))) (b-(i+(n-j)))]).run UZ p= .ok (.tuple #[]) z:=λJ=>by
  rw[r];exact Dg eA.hT l Om (by show _+_*3≤_;rw[y];omega) (λu v=>by
   simp only[eA,VH,Vl,or_false] at v;rcases v with rfl | rfl | rfl<;>rfl)
 have L:Hid (z=p.setRow g (c.toList.take ((i+(n-j))*3)++(U0 (n-(i+(n-j))) eA.z).flatten++c.toList.drop ((i+(n-j))*3+(n-(i+(n-j)))*3)).toArray):=r;have M:Hid (c=(a.toList.take (i*3)++news++a.toList.drop (i*3+news.length)).toArray):=f;clear q o d m k x r l y f
 go_enter Tryz.func280,Tryz.ntmps280
 go_wp2_with fail
 go_region_law_o (refine Df rfl (.tmp 22) (.tmp 25) 354 rfl 386 V 3 eA.hT.ht B D g i b a I.out (by simp [Act.eval,Act.put]) A (n-(j)) (b-(j)) news (by simp [Act.eval,Act.put]) W.out s.out X.out Om Y.out ?_;rw[←G.out])
 go_wp2
 go_ret
 refine⟨by rw[show n-(j-i)=i+(n-j) by omega];rfl,?_⟩;rw[L.out,G.out,M.out]
theorem OQ(v:Value)(xs:List Pa)(i:Nat)(k:i<xs.length):aa UZ 280 #[v,iN i,iN (i+1)] [dX v xs] [0] (λE=>[dX (E.val 0) (xs.eraseIdx i)]) (λE=>E.val 0):=
 Dh eA (enters_of Tryz.func280 Kr rfl) k λg f w h e b j m l d c a=>OP g xs.length f i (i+1) w (Vp i) k b h j e m l d c a
end
theorem Dm(g:Nat)(v:Value)(l:List Pa)(room i:Nat)(b:i<l.length)(d:l.length≤1000000):aa UZ 262 #[pt g 0,iN i] [ob g #[v,iN room,.func (.func 178) #[] #[]] 356,dX v l] [0,1] (λE=>[ob g #[(E.val 0),iN room,.func (.func 178) #[] #[]] 356,dX (E.val 0) (l.eraseIdx i)]) (λ_=>iN ((l.getD i bo).k)):=by
 exact fG Tryz.func262 λw cs=>r0 [] [(4,i6 0)] [] (r0 [(3,.l 0),(5,cp eA v l 1 i),(6,te eA v l 1 (i*3) 0),(7,eL eA v l 1 i 0)] [(5,iN ((l.getD i bo).k))] [] (rr (λa=>[(4,.m (ld 0 (v))),(7,ad i 1),(8,.c [1] [1] (OQ v l i Om)),(11,.m (e6 0 1 (dX ((a 8).val 0) (l.eraseIdx i)) ((a 8).val 0) λbs h=>ao.one ((λ_ h=>h) bs h)))]) N0 [] (λa L=>(L.set 0 (ob g #[(a 8).val 0,iN room,.func (.func 178) #[] #[]] 356)).set 1 (dX ((a 8).val 0) (l.eraseIdx i))) λa=>r0 [] [(4,iN ((l.getD i bo).k))] [4] (lf (.l [] [] [((a 8).val 0)]) [0,1] [] [])))
theorem OR(g:Nat)(t:Tb)(k:Nat)(e:t.l.length≤1000000)(h:aO (bH k) t.l<t.l.length):aa UZ 238 #[pt g 0,iN k] [pk (dN g t)] [0] (λ_=>[pk (dN g t)]) (λ_=> .tuple #[.agg #[iN ((t.l.getD (aO (bH k) t.l) bo).l),iN ((t.l.getD (aO (bH k) t.l) bo).a)],.bool true]):=aa.pkZ Tryz.func238 λL d=>by
 obtain⟨v,rfl⟩:=d;refine⟨[1],λ_=>[dX v t.l],?_,rfl,λE=>⟨rfl,rfl,⟨_,rfl⟩⟩⟩;exact fG Tryz.func238 λw cs=>ra (λb=>[(4,pt (B0 b) 0),(5,.bool false)]) (λb=>[ob (B0 b) #[i6 0,i6 0] 290]) λb=>r0 [(2,.c [0,1] [] (aa.at (rd':=[ob g #[v,iN t.H,.func (.func 178) #[] #[]] 356,dX v t.l]) (xP g v t.l t.H k Om Om) (aN (bN (λ_ h=>ao.sq h) (λ_ h=>h)))))] [(6,iN (aO (bH k) t.l))] [] (rF [(1,.t (tk (show Value.bool (decide (((aO (bH k) t.l:Nat):Int)<0))= .bool false from ALca Value.bool (by exact bg Om))))] 12 (rr (λ_=>[(3,.l 0),(5,cp eA v t.l 1 (aO (bH k) t.l)),(6,te eA v t.l 1 ((aO (bH k) t.l)*3) 1),(7,nm eA v t.l 1 (aO (bH k) t.l) 1 2),(8,.s 2)]) (λ_=>[(5,.bool true)]) [5] (λ_ L=>L.set 2 (ob (B0 b) #[iN ((t.l.getD (aO (bH k) t.l) bo).l),iN ((t.l.getD (aO (bH k) t.l) bo).a)] 290)) λf=>lf ab.zero [1] [(0,0)] [2]))
theorem OS(g:Nat)(t:Tb)(k:Nat)(e:t.l.length≤1000000)(h:aO (bH k) t.l=t.l.length):aa UZ 238 #[pt g 0,iN k] [pk (dN g t)] [0] (λ_=>[pk (dN g t)]) (λ_=> .tuple #[.agg #[i6 0,i6 0],.bool false]):=aa.pkZ Tryz.func238 λL d=>by
 obtain⟨v,rfl⟩:=d;refine⟨[1],λ_=>[dX v t.l],?_,rfl,λE=>⟨rfl,rfl,⟨_,rfl⟩⟩⟩;exact fG Tryz.func238 λw cs=>ra (λa=>[(4,pt (B0 a) 0),(5,.bool false)]) (λa=>[ob (B0 a) #[i6 0,i6 0] 290]) λa=>r0 [(2,.c [0,1] [] (aa.at (rd':=[ob g #[v,iN t.H,.func (.func 178) #[] #[]] 356,dX v t.l]) (uB g v t.l t.H k Om Om) (aN (bN (λ_ h=>ao.sq h) (λ_ h=>h)))))] [(6,i6 (-1))] [] (rT [] 12 (ra (λb=>[(7,pt (B0 b) 0)]) (λb=>[ob (B0 b) #[i6 0,i6 0] 290]) λb=>r0 [(0,.l 3),(1,.s 2)] [(5,.bool false)] [5] (lf ab.zero [1] [(0,0)] [2])))
theorem OT(g:Nat)(t:Tb)(k l a:Nat)(e:t.l.length≤1000000)(h:aO (bH k) t.l<t.l.length):aa UZ 239 #[pt g 0,iN k,.agg #[iN l,iN a]] [pk (dN g t)] [0] (λ_=>[pk (dN g {t with l:=t.l.set (aO (bH k) t.l) ⟨(t.l.getD (aO (bH k) t.l) bo).k,l,a⟩})]) (λ_=> .tuple #[i6 0,.bool false]):=aa.pkZ Tryz.func239 λL d=>by
 obtain⟨v,rfl⟩:=d;refine⟨[1],λ_=>[dX v (t.l.set (aO (bH k) t.l) (⟨(t.l.getD (aO (bH k) t.l) bo).k,l,a⟩:Pa))],?_,rfl,λE=>⟨rfl,rfl,⟨_,rfl⟩⟩⟩;exact fG Tryz.func239 λw cs=>ra (λb=>[(5,pt (B0 b) 0),(6,i6 0),(7,.bool false)]) (λb=>[ob (B0 b) #[iN l,iN a] 290]) λb=>r0 [(2,.c [0,1] [] (aa.at (rd':=[ob g #[v,iN t.H,.func (.func 178) #[] #[]] 356,dX v t.l]) (xP g v t.l t.H k Om Om) (aN (bN (λ_ h=>ao.sq h) (λ_ h=>h)))))] [(8,iN (aO (bH k) t.l))] [] (rT [(1,.t (tk (show Value.bool (decide (0≤((aO (bH k) t.l:Nat):Int)))= .bool true from ALca Value.bool (by exact cS Om))))] 13 (rs [(3,.l 0),(5,.l 2),(6,cp eA v t.l 1 (aO (bH k) t.l)),(7,te eA v t.l 1 ((aO (bH k) t.l)*3) 1),(8,Di eA v t.l 1 (aO (bH k) t.l) 1 (⟨(t.l.getD (aO (bH k) t.l) bo).k,l,a⟩:Pa) [iN l,iN a] Kr Om)] 1 (dX v (t.l.set (aO (bH k) t.l) (⟨(t.l.getD (aO (bH k) t.l) bo).k,l,a⟩:Pa))) (r0 [] [(6,i6 0),(7,.bool false)] [6,7] (lf ab.zero [1] [(0,0)] []))))
theorem OU(g:Nat)(t:Tb)(k l a:Nat)(f:t.l.length≤1000)(h:aO (bH k) t.l=t.l.length)(i:t.l.length≠t.H):aa UZ 239 #[pt g 0,iN k,.agg #[iN l,iN a]] [pk (dN g t)] [0] (λ_=>[pk (dN g {t with l:=t.l++[⟨k,l,a⟩]})]) (λ_=> .tuple #[i6 0,.bool false]):=aa.pkZ Tryz.func239 λL e=>by
 obtain⟨v,rfl⟩:=e;refine⟨[0,1],λE=>[ob g #[(E.val 0),iN t.H,.func (.func 178) #[] #[]] 356,dX (E.val 0) (t.l++([(⟨k,l,a⟩:Pa)]))],?_,rfl,λE=>⟨rfl,rfl,⟨_,rfl⟩⟩⟩;exact fG Tryz.func239 λw cs=>ra (λd=>[(5,pt (B0 d) 0),(6,i6 0),(7,.bool false)]) (λd=>[ob (B0 d) #[iN l,iN a] 290]) λd=>r0 [(2,.c [0,1] [] (aa.at (rd':=[ob g #[v,iN t.H,.func (.func 178) #[] #[]] 356,dX v t.l]) (uB g v t.l t.H k Om Om) (aN (bN (λ_ h=>ao.sq h) (λ_ h=>h)))))] [(8,i6 (-1))] [] (rF [] 13 (rF [(3,.l 0),(4,ew eA v t.l 1),(8,.l 0),(9,.t (tk (show Value.bool ((t.l.length:Int)==(t.H:Int))= .bool false from ALca Value.bool (by rw[dR];omega))))] 32 (rr (λb=>[(4,.m (ld 0 (v))),(6,.m (ls 2 ([iN l,iN a]))),(8,.m (bs 3 1)),(9,eX eA (v) t.l 1 3 ([(⟨k,l,a⟩:Pa)])),(12,.m (e6 0 1 (dX ((b 9).val 0) (t.l++([(⟨k,l,a⟩:Pa)]))) ((b 9).val 0) λbs h=>ao.one ((λ_ h=>h) bs h)))]) N0 [] (λb L=>(L.set 0 (ob g #[(b 9).val 0,iN t.H,.func (.func 178) #[] #[]] 356)).set 1 (dX ((b 9).val 0) (t.l++([(⟨k,l,a⟩:Pa)])))++[ob ((b 8).y 0) #[iN k,iN l,iN a] 386]) λb=>r0 [] [(6,i6 0),(7,.bool false)] [6,7] (lf (.l [] [] [(b 9).val 0]) [0,1] [] []))))
theorem OV(g:Nat)(t:Tb)(k l a:Nat)(o:t.l.length≤1000)(h1:1≤t.l.length)(h:aO (bH k) t.l=t.l.length)(n:t.l.length=t.H):aa UZ 239 #[pt g 0,iN k,.agg #[iN l,iN a]] [pk (dN g t)] [0] (λ_=>[pk (dN g {t with l:=t.l.eraseIdx (dY t.l t.l.length).1++[⟨k,l,a⟩]})]) (λ_=> .tuple #[iN ((t.l.getD ((dY t.l t.l.length).1) bo).k),.bool true]):=aa.pkZ Tryz.func239 λL i=>by
 obtain⟨v,rfl⟩:=i;refine⟨[0,1],λE=>[ob g #[(E.val 0),iN t.H,.func (.func 178) #[] #[]] 356,dX (E.val 0) ((t.l.eraseIdx ((dY t.l t.l.length).1))++([(⟨k,l,a⟩:Pa)]))],?_,rfl,λE=>⟨rfl,rfl,⟨_,rfl⟩⟩⟩;have f:=xO t.l t.l.length h1;have j:(t.l.eraseIdx (dY t.l t.l.length).1).length=t.l.length-1:=by rw[Vf,ALifp f]
 exact fG Tryz.func239 λw cs=>ra (λe=>[(5,pt (B0 e) 0),(6,i6 0),(7,.bool false)]) (λe=>[ob (B0 e) #[iN l,iN a] 290]) λe=>r0 [(2,.c [0,1] [] (aa.at (rd':=[ob g #[v,iN t.H,.func (.func 178) #[] #[]] 356,dX v t.l]) (uB g v t.l t.H k Om Om) (aN (bN (λ_ h=>ao.sq h) (λ_ h=>h)))))] [(8,i6 (-1))] [] (rF [] 13 (rT [(3,.l 0),(4,ew eA v t.l 1),(8,.l 0),(9,.t (tk (show Value.bool ((t.l.length:Int)==(t.H:Int))= .bool true from ALca Value.bool (by rw[n];exact beq_self_eq_true _))))] 32 (rr (λ_=>[(2,.c [0,1] [] (aa.at (rd':=[ob g #[v,iN t.H,.func (.func 178) #[] #[]] 356,dX v t.l]) (OO g v t.l t.H Om) (aN (bN (λ_ h=>ao.sq h) (λ_ h=>h))))),(3,.c [0,1] [0,1] (Dm g v t.l t.H ((dY t.l t.l.length).1) Om Om))]) (λ_=>[(6,iN ((t.l.getD ((dY t.l t.l.length).1) bo).k)),(7,.bool true)]) [6,7] (λd L=>(L.set 0 (ob g #[((d 3).val 0),iN t.H,.func (.func 178) #[] #[]] 356)).set 1 (dX ((d 3).val 0) (t.l.eraseIdx ((dY t.l t.l.length).1)))) λd=>rr (λb=>[(4,.m (ld 0 (((d 3).val 0)))),(6,.m (ls 2 ([iN l,iN a]))),(8,.m (bs 3 1)),(9,eX eA (((d 3).val 0)) (t.l.eraseIdx ((dY t.l t.l.length).1)) 1 3 ([(⟨k,l,a⟩:Pa)])),(12,.m (e6 0 1 (dX ((b 9).val 0) ((t.l.eraseIdx ((dY t.l t.l.length).1))++([(⟨k,l,a⟩:Pa)]))) ((b 9).val 0) λbs h=>ao.one ((λ_ h=>h) bs h)))]) N0 [] (λb L=>(L.set 0 (ob g #[(b 9).val 0,iN t.H,.func (.func 178) #[] #[]] 356)).set 1 (dX ((b 9).val 0) ((t.l.eraseIdx ((dY t.l t.l.length).1))++([(⟨k,l,a⟩:Pa)])))++[ob ((b 8).y 0) #[iN k,iN l,iN a] 386]) λb=>r0 [] [(6,iN ((t.l.getD ((dY t.l t.l.length).1) bo).k)),(7,.bool true)] [6,7] (lf (.l [] [] [(b 9).val 0]) [0,1] [] []))))
theorem OX(g:Nat)(t:Tb)(k:Nat)(d:t.l.length≤1000000)(h:aO (bH k) t.l<t.l.length):aa UZ 270 #[pt g 0,iN k] [pk (dN g t)] [0] (λ_=>[pk (dN g {t with l:=t.l.eraseIdx (aO (bH k) t.l)})]) (λ_=> .bool true):=aa.pkZ Tryz.func270 λL b=>by
 obtain⟨v,rfl⟩:=b;refine⟨[0,1],λE=>[ob g #[(E.val 0),iN t.H,.func (.func 178) #[] #[]] 356,dX (E.val 0) (t.l.eraseIdx (aO (bH k) t.l))],?_,rfl,λE=>⟨rfl,rfl,⟨_,rfl⟩⟩⟩;exact fG Tryz.func270 λw cs=>r0 [] [(4,.bool false)] [] (r0 [(2,.c [0,1] [] (aa.at (rd':=[ob g #[v,iN t.H,.func (.func 178) #[] #[]] 356,dX v t.l]) (xP g v t.l t.H k Om Om) (aN (bN (λ_ h=>ao.sq h) (λ_ h=>h)))))] [(5,iN (aO (bH k) t.l))] [] (rF [(1,.t (tk (show Value.bool (decide (((aO (bH k) t.l:Nat):Int)<0))= .bool false from ALca Value.bool (by exact bg Om))))] 10 (rr (λ_=>[(2,.c [0,1] [0,1] (Dm g v t.l t.H (aO (bH k) t.l) Om Om))]) N0 [] (λa L=>(L.set 0 (ob g #[((a 2).val 0),iN t.H,.func (.func 178) #[] #[]] 356)).set 1 (dX ((a 2).val 0) (t.l.eraseIdx (aO (bH k) t.l)))) λa=>r0 [] [(4,.bool true)] [4] (lf (.l [] [] [((a 2).val 0)]) [0,1] [] []))))
theorem OY(g:Nat)(t:Tb)(k:Nat)(b:t.l.length≤1000000)(h:aO (bH k) t.l=t.l.length):aa UZ 270 #[pt g 0,iN k] [pk (dN g t)] [0] (λ_=>[pk (dN g t)]) (λ_=> .bool false):=aa.pkZ Tryz.func270 λL a=>by
 obtain⟨v,rfl⟩:=a;refine⟨[1],λ_=>[dX v t.l],?_,rfl,λE=>⟨rfl,rfl,⟨_,rfl⟩⟩⟩;exact fG Tryz.func270 λw cs=>r0 [] [(4,.bool false)] [] (r0 [(2,.c [0,1] [] (aa.at (rd':=[ob g #[v,iN t.H,.func (.func 178) #[] #[]] 356,dX v t.l]) (uB g v t.l t.H k Om Om) (aN (bN (λ_ h=>ao.sq h) (λ_ h=>h)))))] [(5,i6 (-1))] [] (rT [] 10 (r0 [] [(4,.bool false)] [4] (lf ab.zero [1] [(0,0)] []))))
theorem OZ(g:Nat)(t:Tb)(k:Nat)(b:t.l.length≤1000000):aa UZ 238 #[pt g 0,iN k] [pk (dN g t)] [0] (λ_=>[pk (dN g t)]) (λ_=> .tuple #[.agg #[iN ((cX t k).l),iN ((cX t k).a)],.bool (uA t k)]):=by
 unfold cX uA;by_cases h:aO (bH k) t.l=t.l.length
 ·rw[ALifp h,cS h];exact OS g t k b h
 ·rw[ALifn h,bg h];exact OR g t k b (by have:=mU (bH k) t.l;omega)
theorem O0(g:Nat)(t:Tb)(k l a:Nat)(c:t.l.length≤1000)(h1:1≤t.H):aa UZ 239 #[pt g 0,iN k,.agg #[iN l,iN a]] [pk (dN g t)] [0] (λ_=>[pk (dN g (oC t k l a))]) (λ_=> .tuple #[iN (Dj t k),.bool (Dk t k)]):=by
 unfold oC Dj Dk;by_cases h:aO (bH k) t.l=t.l.length
 ·by_cases b:t.l.length=t.H
  ·rw[ALifp h,ALifp b,ALifp ⟨h,b⟩,cS h,cS b];exact OV g t k l a c Om h b
  ·rw[ALifp h,ALifn b,ALifn (λq=>b q.2),cS h,bg b];exact OU g t k l a c h b
 ·rw[ALifn h,ALifn (λq=>h q.1),bg h];exact OT g t k l a Om (by have:=mU (bH k) t.l;omega)
theorem O3(g:Nat)(t:Tb)(k:Nat)(a:t.l.length≤1000000):aa UZ 270 #[pt g 0,iN k] [pk (dN g t)] [0] (λ_=>[pk (dN g (oD t k))]) (λ_=> .bool (uA t k)):=by
 unfold oD uA;by_cases h:aO (bH k) t.l=t.l.length
 ·rw[ALifp h,cS h];exact OY g t k a h
 ·rw[ALifn h,bg h];exact OX g t k a (by have:=mU (bH k) t.l;omega)
theorem Dn(g:Nat)(v:Value)(rs:List Bk)(j c d e f h i r:Nat)(k:r<rs.length):aa UZ 236 #[pt g 0,iN r] [ob g #[iN c,iN d,iN e,iN f,iN h,iN i,v,pt j 0] 294,.p (aJ xK v rs)] [] N0 (λ_=> .bool true):=by
 exact fO Tryz.func236 1 rfl λb a=>fG Tryz.func236 λw cs=>r0 [] [(4,.bool false)] [] (r0 [(7,.m (ld 0 (v))),(8,ey a.1 1),] [(4,.bool ((decide (0≤(r:Int)))&&(decide ((r:Int)<(rs.length:Int)))))] [4] (ak (.bool ((decide (0≤(r:Int)))&&(decide ((r:Int)<(rs.length:Int))))) ab.zero (by exact ALca Value.bool (by simp only[U9,decide_eq_true_eq];omega)) [] [(0,0),(1,1)] []))
theorem Dp(g b:Nat)(c:Tk)(d:dL c)(r p n:Nat)(x:r<c.F.length)(u:n≤65536):aa UZ 206 #[pt g 0,iN r,iN p,iN n] [pk (aD g b c)] [0] (λ_=>[pk (aD g b (fk c r p n))]) (λ_=> .tuple #[.agg #[.bool (cC c.lr ((c.F.getD r bh).l) n),.bool (cC c.lp ((cX c.t p).l) n)],i6 0]):=aa.pkZ Tryz.func206 λL t=>by
 obtain⟨v,rfl⟩:=t;refine⟨[1,2],λ_=>[jY v (c.F.set r (⟨cc ((c.F.getD r bh).l) n,(c.F.getD r bh).a⟩:Bk)),pk (dN b (oC c.t p (cc ((cX c.t p).l) n) ((cX c.t p).a)))],?_,rfl,λE=>⟨rfl,rfl,⟨_,rfl⟩⟩⟩;have y:=d.t.l;have z:=d.t.r;have o:=d.t.r1;have A:=d.n;have j:=d.b r x;have k:=d.t.get d.p.e1 p;refine fG Tryz.func206 λw cs=>ra (λf=>[(8,pt (B0 f) 0),(9,i6 0)]) (λf=>[ob (B0 f) #[.bool false,.bool false] 339]) λf=>r0 [(2,.c [0,1] [] (aa.at (rd':=[ob g #[iN c.lr,iN c.er,iN c.lp,iN c.ep,iN c.H,iN c.J,v,pt b 0] 294,jY v c.F]) (Dn g v c.F b c.lr c.er c.lp c.ep c.H c.J r Om) (aN (bN (λ_ h=>ao.sq h) (λ_ h=>h)))))] [(20,.bool (decide ((n:Int)<0)))] [] ?_;have q:(decide ((n:Int)<0))=false:=by exact bg Om
 exact cF (decide ((n:Int)<0)) q (ra (λe=>[(10,pt (B0 e) 0)]) (λe=>[ob (B0 e) #[.bool false,.bool false] 339]) λe=>rr (λ_=>[(3,.m (ld 0 (v))),(8,.m (ld 0 (v))),(10,cp kr v c.F 1 r),(11,nm kr v c.F 1 r 0 2),(16,.m (ls 0 ([iN c.lr,iN c.er]))),(18,.c [] [] (C6 c.lr c.er ((c.F.getD r bh).l) ((c.F.getD r bh).a) n (by exact d.r) (by exact j) Om)),(22,cp kr v c.F 1 r),(23,qt kr v c.F 1 r (⟨cc ((c.F.getD r bh).l) n,(c.F.getD r bh).a⟩:Bk)),(25,.s 4)]) N0 [] (λ_ L=>(L.set 1 (jY v (c.F.set r (⟨cc ((c.F.getD r bh).l) n,(c.F.getD r bh).a⟩:Bk)))).set 4 (ob (B0 e) #[.bool (cC c.lr ((c.F.getD r bh).l) n),.bool false] 339)) λB=>rr (λ_=>[(3,.m (ld 0 (pt b 0))),(5,.c [2] [2] (OZ b c.t p Om)),(9,.m (al 5)),(10,.s 5)]) (λi=>[(11,pt ((i 9).y 0) 0)]) [] (λi L=>L++[ob ((i 9).y 0) #[iN ((cX c.t p).l),iN ((cX c.t p).a)] 290]) λi=>rr (λ_=>[(0,.m (ls 5 ([iN ((cX c.t p).l),iN ((cX c.t p).a)]))),(5,.m (ls 0 ([iN c.lp,iN c.ep]))),(7,.c [] [] (C6 c.lp c.ep ((cX c.t p).l) ((cX c.t p).a) n (by exact d.p) (by exact k) Om)),(11,.s 5),(13,.s 4)]) N0 [] (λ_ L=>(L.set 4 (ob (B0 e) #[.bool (cC c.lr ((c.F.getD r bh).l) n),.bool (cC c.lp ((cX c.t p).l) n)] 339)).set 5 (ob ((i 9).y 0) #[iN (cc ((cX c.t p).l) n),iN ((cX c.t p).a)] 290)) λC=>rs [(3,.l 0),(5,.l 5),(6,.c [2] [2] (O0 b c.t p (cc ((cX c.t p).l) n) ((cX c.t p).a) Om Om))] 2 ((pk (dN b (oC c.t p (cc ((cX c.t p).l) n) ((cX c.t p).a))))) (rr (λ_=>[(0,.l 4),(1,.s 3)]) (λ_=>[(9,i6 0)]) [9] (λ_ L=>L.set 3 (ob (B0 f) #[.bool (cC c.lr ((c.F.getD r bh).l) n),.bool (cC c.lp ((cX c.t p).l) n)] 339)) λD=>lf ab.zero [1,2] [(0,0)] [3]))
theorem O4(g a:Nat)(c:Tk)(b:dL c)(p:Nat):aa UZ 249 #[pt g 0,iN p] [pk (aD g a c)] [0] (λ_=>[pk (aD g a (pE c p))]) (λ_=> .tuple #[]):=aa.pkZ Tryz.func249 λL e=>by
 obtain⟨v,rfl⟩:=e;refine⟨[1,2],λ_=>[jY v c.F,pk (dN a (oD c.t p))],?_,rfl,λE=>⟨rfl,rfl,⟨_,rfl⟩⟩⟩;have f:=b.t.l;have h:=b.t.r;have d:=b.t.r1;have i:=b.n;refine fG Tryz.func249 λw cs=>rs [(3,.l 0),(5,.c [2] [2] (O3 a c.t p Om))] 2 ((pk (dN a (oD c.t p)))) ?_;exact eh ab.zero [1,2] [(0,0)] []
theorem O5(g a:Nat)(c:Tk)(b:dL c)(r:Nat)(k:r<c.F.length):aa UZ 250 #[pt g 0,iN r] [pk (aD g a c)] [0] (λ_=>[pk (aD g a (oE c r))]) (λ_=> .tuple #[]):=aa.pkZ Tryz.func250 λL e=>by
 obtain⟨v,rfl⟩:=e;refine⟨[1,2],λ_=>[jY v (c.F.set r (⟨0,0⟩:Bk)),pk (dN a c.t)],?_,rfl,λE=>⟨rfl,rfl,⟨_,rfl⟩⟩⟩;have f:=b.t.l;have i:=b.t.r;have d:=b.t.r1;have j:=b.n;refine fG Tryz.func250 λw cs=>rT [(2,.c [0,1] [] (aa.at (rd':=[ob g #[iN c.lr,iN c.er,iN c.lp,iN c.ep,iN c.H,iN c.J,v,pt a 0] 294,jY v c.F]) (Dn g v c.F a c.lr c.er c.lp c.ep c.H c.J r Om) (aN (bN (λ_ h=>ao.sq h) (λ_ h=>h)))))] 6 (rs [(3,.l 0),(6,cp kr v c.F 1 r),(7,qt kr v c.F 1 r (⟨0,0⟩:Bk))] 1 (jY v (c.F.set r (⟨0,0⟩:Bk))) ?_);exact eh ab.zero [1,2] [(0,0)] []
section
def aX{α:Type}(f:α→α)(l:List α)(k:Nat):List α:=(l.take k).map f++l.drop k
section
variable {α:Type} {f:α→α} {l:List α} {k:Nat} {d:α}
theorem rv(f:α→α)(l:List α)(k:Nat):(aX f l k).length=l.length:=by unfold aX;rw[U1,U8,U7,Ve];omega
theorem uC(a:k<l.length):(aX f l k).getD k d=l.getD k d:=by
 unfold aX;rw[U2,List.getElem?_append_right (by rw[U8,U7];omega),U8,U7,VB,U2]
 congr 2;omega
theorem Dq(f:α→α)(l:List α):aX f l 0=l:=by unfold aX;simp
theorem Dt(f:α→α)(l:List α):aX f l l.length=l.map f:=by unfold aX;simp
theorem Du(a:k<l.length):(aX f l k).set k (f (l.getD k d))=aX f l (k+1):=by
 unfold aX;rw[Vv _ _ (by rw[U8,U7];omega),U8,U7,show k-min k l.length=0 by omega,Vr a,Vn,U4 a,List.map_append,Vh,U2,U4 a];rfl
end
def dO(ev:Nat)(b:Bk):Bk:=⟨gV ev b.l b.a,gX ev b.l b.a⟩
def cG(ev:Nat)(p:Pa):Pa:=⟨p.k,gV ev p.l p.a,gX ev p.l p.a⟩
theorem O6{ev:Nat}{l:List Bk}{k:Nat}(b:k<l.length):(aX (dO ev) l k).set k ⟨gV ev ((aX (dO ev) l k).getD k bh).l ((aX (dO ev) l k).getD k bh).a,gX ev ((aX (dO ev) l k).getD k bh).l ((aX (dO ev) l k).getD k bh).a⟩=aX (dO ev) l (k+1):=by
 rw[←Du (d:=bh) b,uC b];rfl
theorem O7{ev:Nat}{l:List Pa}{k:Nat}(b:k<l.length):(aX (cG ev) l k).set k ⟨((aX (cG ev) l k).getD k bo).k,gV ev ((aX (cG ev) l k).getD k bo).l ((aX (cG ev) l k).getD k bo).a,gX ev ((aX (cG ev) l k).getD k bo).l ((aX (cG ev) l k).getD k bo).a⟩=aX (cG ev) l (k+1):=by
 rw[←Du (d:=bo) b,uC b];rfl
def ry(t:Tb)(ev:Nat):Tb:={t with l:=aX (cG ev) t.l t.l.length}
def l8(c:Tk):Tk:={c with F:=aX (dO c.er) c.F c.F.length,t:=ry c.t c.ep}
end
theorem O8(b g e:Nat)(c:Tk)(hp:ie c.lp c.ep)(v:Value)(k l a:Nat)(f:eP c.ep l a):aa UZ 210 #[iN k,.agg #[iN l,iN a],pt b 0] [ob b #[pt g 0] 120,ob g #[iN c.lr,iN c.er,iN c.lp,iN c.ep,iN c.H,iN c.J,v,pt e 0] 294] [] N0 (λ_=> .agg #[iN (gV c.ep l a),iN (gX c.ep l a)]):=by
 exact fG Tryz.func210 λw cs=>ra (λd=>[(4,pt (B0 d) 0),(5,pt (B1 d) 0)]) (λd=>[ob (B0 d) #[iN l,iN a] 290,ob (B1 d) #[i6 0,i6 0] 290]) λd=>rs [(0,.l 2),(1,.l 0),(5,.l 1),(6,.c [] [] (C7 c.lp c.ep l a hp f)),(7,.s 3)] 3 (ob (B1 d) #[iN (gV c.ep l a),iN (gX c.ep l a)] 290) (lf ab.zero [] [(0,0),(1,1)] [3])
theorem O9(e:Nat)(t:Tb)(b g:Nat)(c:Tk)(o:dL c)(ht:gZ c.ep t)(v:Value):aa UZ 209 #[pt e 0,.func (.func 210) #[] #[pt b 0]] [pk (dN e t),ob b #[pt g 0] 120,ob g #[iN c.lr,iN c.er,iN c.lp,iN c.ep,iN c.H,iN c.J,v,pt e 0] 294] [0] (λ_=>[pk (dN e (ry t c.ep))]) (λ_=> .tuple #[]):=aa.pkZ Tryz.func209 λL n=>by
 obtain⟨d,rfl⟩:=n;refine⟨[1],λ_=>[dX d (aX (cG c.ep) t.l t.l.length)],?_,rfl,λE=>⟨rfl,rfl,⟨_,rfl⟩⟩⟩;have r:=ht.l;have u:=ht.r;refine fG Tryz.func209 λw cs=>r0 [(3,.l 0),(4,ew eA d t.l 1)] [(9,d),(10,iN t.l.length),(11,i6 0)] [] ?_;refine lq (λk=>k≤t.l.length) (λk=>[(11,iN k)]) (λk L=>L.set 1 (dX d (aX (cG c.ep) t.l k))) (λk=>t.l.length-k) 0 Om Kr (by rw[Dq];kernel_rfl) (λk p=>?_);have q:=rv (cG c.ep) t.l k;refine r0 [] [(12,.bool (decide ((k:Int)<(t.l.length:Int))))] [] ?_;refine b4 (k:Int) (t.l.length:Int) (λj h=>?_) λj h=>?_
 ·refine rr (λ_=>[(1,cp eA d (aX (cG c.ep) t.l k) 1 k),(2,nm eA d (aX (cG c.ep) t.l k) 1 k 0 3),(5,.s 4)]) (λf=>[(5,pt (B3 f) 0),(4,iN k)]) [] (λf L=>L++[ob (B3 f) #[iN (((aX (cG c.ep) t.l k).getD k bo).k),iN (((aX (cG c.ep) t.l k).getD k bo).l),iN (((aX (cG c.ep) t.l k).getD k bo).a)] 386]) λf=>?_;have i:eP c.ep ((aX (cG c.ep) t.l k).getD k bo).l ((aX (cG c.ep) t.l k).getD k bo).a:=by rw[uC Om];exact ht.b k Om
  exact rs [(3,.m (ld 0 (d))),(7,.m (ld 4 (iN (((aX (cG c.ep) t.l k).getD k bo).k)))),(9,.m (ls 4 ([iN (((aX (cG c.ep) t.l k).getD k bo).l),iN (((aX (cG c.ep) t.l k).getD k bo).a)]))),(10,.c [2,3] [] (O8 b g e c o.p v (((aX (cG c.ep) t.l k).getD k bo).k) (((aX (cG c.ep) t.l k).getD k bo).l) (((aX (cG c.ep) t.l k).getD k bo).a) i)),(11,cp eA d (aX (cG c.ep) t.l k) 1 k),(12,te eA d (aX (cG c.ep) t.l k) 1 (k*3) 1),(13,Di eA d (aX (cG c.ep) t.l k) 1 k 1 (⟨((aX (cG c.ep) t.l k).getD k bo).k,gV c.ep (((aX (cG c.ep) t.l k).getD k bo).l) (((aX (cG c.ep) t.l k).getD k bo).a),gX c.ep (((aX (cG c.ep) t.l k).getD k bo).l) (((aX (cG c.ep) t.l k).getD k bo).a)⟩:Pa) [iN (gV c.ep (((aX (cG c.ep) t.l k).getD k bo).l) (((aX (cG c.ep) t.l k).getD k bo).a)),iN (gX c.ep (((aX (cG c.ep) t.l k).getD k bo).l) (((aX (cG c.ep) t.l k).getD k bo).a))] Kr Om)] 1 (dX d ((aX (cG c.ep) t.l k).set k (⟨((aX (cG c.ep) t.l k).getD k bo).k,gV c.ep (((aX (cG c.ep) t.l k).getD k bo).l) (((aX (cG c.ep) t.l k).getD k bo).a),gX c.ep (((aX (cG c.ep) t.l k).getD k bo).l) (((aX (cG c.ep) t.l k).getD k bo).a)⟩:Pa))) (r0 [(0,ad k 1)] [(11,iN (k+1))] [11] (le (k+1) Om Om Kr [0,1,2,3] (by rw[←O7 Om];kernel_rfl)))
 obtain rfl:t.l.length=k:=by omega
 refine lx ?_;exact eh ab.zero [1] [(0,0),(2,2),(3,3)] []
theorem Pb(g d:Nat)(c:Tk)(b:dL c):aa UZ 164 #[pt g 0] [pk (aD g d c)] [0] (λ_=>[pk (aD g d (l8 c))]) (λ_=> .tuple #[]):=aa.pkZ Tryz.func164 λL o=>by
 obtain⟨v,rfl⟩:=o;refine⟨[1,2],λ_=>[jY v (aX (dO c.er) c.F c.F.length),pk (dN d (ry c.t c.ep))],?_,rfl,λE=>⟨rfl,rfl,⟨_,rfl⟩⟩⟩;have r:=b.t.l;have t:=b.t.r;have j:=b.t.r1;have u:=b.n;refine fG Tryz.func164 λw cs=>ra (λe=>[(1,pt (B0 e) 0)]) (λe=>[ob (B0 e) #[pt g 0] 120]) λe=>r0 [(0,.l 3),(3,.l 0),(4,ew kr v c.F 1)] [(7,v),(8,iN c.F.length),(9,i6 0)] [] ?_;refine lq (λk=>k≤c.F.length) (λk=>[(9,iN k)]) (λk L=>L.set 1 (jY v (aX (dO c.er) c.F k))) (λk=>c.F.length-k) 0 Om Kr (by rw[Dq];kernel_rfl) (λk p=>?_);have q:=rv (dO c.er) c.F k;refine r0 [] [(10,.bool (decide ((k:Int)<(c.F.length:Int))))] [] ?_;refine b4 (k:Int) (c.F.length:Int) (λn h=>?_) λn h=>?_
 ·refine rr (λ_=>[(1,cp kr v (aX (dO c.er) c.F k) 1 k),(2,nm kr v (aX (dO c.er) c.F k) 1 k 0 2),(5,.s 4)]) (λf=>[(3,pt (B3 f) 0),(2,iN k)]) [] (λf L=>L++[ob (B3 f) #[iN (((aX (dO c.er) c.F k).getD k bh).l),iN (((aX (dO c.er) c.F k).getD k bh).a)] 290]) λf=>?_;have i:eP c.er ((aX (dO c.er) c.F k).getD k bh).l ((aX (dO c.er) c.F k).getD k bh).a:=by rw[uC Om];exact b.b k Om
  exact rs [(0,.m (ld 3 (pt g 0))),(3,.m (ld 0 (v))),(5,.m (ls 4 ([iN (((aX (dO c.er) c.F k).getD k bh).l),iN (((aX (dO c.er) c.F k).getD k bh).a)]))),(6,.m (ld 3 (pt g 0))),(10,.m (ls 0 ([iN c.lr,iN c.er]))),(11,.c [] [] (C7 c.lr c.er (((aX (dO c.er) c.F k).getD k bh).l) (((aX (dO c.er) c.F k).getD k bh).a) b.r i)),(12,cp kr v (aX (dO c.er) c.F k) 1 k),(13,qt kr v (aX (dO c.er) c.F k) 1 k (⟨gV c.er (((aX (dO c.er) c.F k).getD k bh).l) (((aX (dO c.er) c.F k).getD k bh).a),gX c.er (((aX (dO c.er) c.F k).getD k bh).l) (((aX (dO c.er) c.F k).getD k bh).a)⟩:Bk))] 1 (jY v ((aX (dO c.er) c.F k).set k (⟨gV c.er (((aX (dO c.er) c.F k).getD k bh).l) (((aX (dO c.er) c.F k).getD k bh).a),gX c.er (((aX (dO c.er) c.F k).getD k bh).l) (((aX (dO c.er) c.F k).getD k bh).a)⟩:Bk))) (r0 [(0,ad k 1)] [(9,iN (k+1))] [9] (le (k+1) Om Om Kr [0,1,2,3] (by rw[←O6 Om];kernel_rfl)))
 obtain rfl:c.F.length=k:=by omega
 refine lx (rs [(0,.l 3),(3,.l 0),(5,.c [2,3,0] [2] (O9 d c.t (B0 e) g c b b.t v))] 2 ((pk (dN d (ry c.t c.ep)))) ?_);exact eh ab.zero [1,2] [(0,0)] []
theorem Pc(room:Nat)(h1:1≤room)(h2:room≤256):aa UZ 177 #[iN room,.func (.func 178) #[] #[]] [] [] (λE=>[ob (E.y 0) #[.slice none 0 0,iN room,.func (.func 178) #[] #[]] 356]) (λE=> .tuple #[pt ((E.y 0)) 0,i6 0]):=by
 refine fG Tryz.func177 λw cs=>r0 [] [(4,.pointer none),(5,i6 0)] [] (r0 [] [(11,.bool ((decide ((room:Int)<1))||(decide (256<(room:Int)))))] [] ?_);have b:((decide ((room:Int)<1))||(decide (256<(room:Int))))=false:=by rw[Vm];exact⟨bg Om,bg Om⟩
 exact cF ((decide ((room:Int)<1))||(decide (256<(room:Int)))) b (rr N0 (λa=>[(4,pt (B3 a) 0),(5,i6 0)]) [4,5] (λa L=>L++[ob (B3 a) #[.slice none 0 0,iN room,.func (.func 178) #[] #[]] 356]) λa=>lf (.l [(a 3).y 0] [] []) [0] [] [])
theorem Pd(room:Nat)(h1:1≤room)(h2:room≤256):aa UZ 177 #[iN room,.func (.func 178) #[] #[]] [] [] (λE=>[pk (dN (E.y 0) ⟨[],room⟩)]) (λE=> .tuple #[pt (E.y 0) 0,i6 0]):=(Pc room h1 h2).outs λE b a=>xN ⟨_,rfl⟩ a
theorem Dw(f d e b a heavy:Int):aa UZ 110 #[.agg #[i6 f,i6 d,i6 e,i6 b,i6 a,i6 heavy]] [] [] N0 (λ_=> .bool (((((gF f d&&gF e b)&&decide (1≤a))&&decide (a≤256))&&decide (1≤heavy))&&decide (heavy≤65536))):=by
 exact fG Tryz.func110 λw cs=>ra (λg=>[(1,pt (B0 g) 0),(2,.bool false)]) (λg=>[ob (B0 g) #[i6 f,i6 d,i6 e,i6 b,i6 a,i6 heavy] 29]) λg=>r0 [(1,.m (ls 0 ([i6 f,i6 d]))),(2,.c [] [] (xL f d)),(5,.m (ls 0 ([i6 e,i6 b]))),(6,.c [] [] (xL e b)),(10,.m (ld 0 (i6 a))),(15,.m (ld 0 (i6 a))),(20,.m (ld 0 (i6 heavy))),(25,.m (ld 0 (i6 heavy))),] [(2,.bool ((((((gF f d)&&(gF e b))&&(decide (1≤a)))&&(decide (a≤256)))&&(decide (1≤heavy)))&&(decide (heavy≤65536))))] [2] (ak (.bool ((((((gF f d)&&(gF e b))&&(decide (1≤a)))&&(decide (a≤256)))&&(decide (1≤heavy)))&&(decide (heavy≤65536)))) ab.zero a7 [] [] [])
def oF(e c d b a heavy f:Nat):Tk:=⟨e,c,d,b,a,heavy,U0 f bh,⟨[],a⟩⟩
theorem Pe(h f g e a heavy b:Nat)(m:ie h f)(k:ie g e)(h1:1≤a)(h2:a≤256)(o:1≤heavy)(n:heavy≤65536)(p:1≤b)(q:b≤8):aa UZ 138 #[.agg #[iN h,iN f,iN g,iN e,iN a,iN heavy],iN b] [] [] (λE=>[ob (E.y 0) #[iN h,iN f,iN g,iN e,iN a,iN heavy,(E.val 0),pt ((E.y 1)) 0] 294,jY (E.val 0) (U0 b bh),pk (dN (E.y 1) ⟨[],a⟩)]) (λE=> .tuple #[pt ((E.y 0)) 0,i6 0]):=by
 refine fG Tryz.func138 λw cs=>ra (λj=>[(2,pt (B0 j) 0),(4,.pointer none),(5,i6 0)]) (λj=>[ob (B0 j) #[iN h,iN f,iN g,iN e,iN a,iN heavy] 29]) λj=>rF [(0,.l 0),(1,.c [] [] (aa.v ((Dw (h:Int) (f:Int) (g:Int) (e:Int) (a:Int) (heavy:Int))) λ_=>ALca Value.bool (show(((((gF (h:Int) (f:Int)&&gF (g:Int) (e:Int))&&decide (1≤(a:Int)))&&decide ((a:Int)≤256))&&decide (1≤(heavy:Int)))&&decide ((heavy:Int)≤65536))=true from(by rw[m.r,k.r];simp only[U9,decide_eq_true_eq,true_and];omega))))] 8 (r0 [] [(12,.bool ((decide ((b:Int)<1))||(decide (8<(b:Int)))))] [] ?_);have n:((decide ((b:Int)<1))||(decide (8<(b:Int))))=false:=by rw[Vm];exact⟨bg Om,bg Om⟩
 exact cF ((decide ((b:Int)<1))||(decide (8<(b:Int)))) n (rr (λ_=>[(1,.l 0),(2,.c [] [1] (Pd a Om Om))]) (λi=>[(6,pt ((B2 i)) 0),(7,i6 0)]) [] (λi L=>L++[pk (dN (B2 i) ⟨[],a⟩)]) λi=>rF [] 26 (rr (λ_=>[(0,.l 0),(2,qA kr 2 b)]) (λd=>[(4,pt (B5 d) 0),(5,i6 0)]) [4,5] (λd L=>L++[jY (.slice (some ⟨(d 2).y 0,0,none⟩) b b) (U0 b bh),ob (B5 d) #[iN h,iN f,iN g,iN e,iN a,iN heavy,.slice (some ⟨(d 2).y 0,0,none⟩) b b,pt ((B2 i)) 0] 294]) λd=>lf (.l [(d 5).y 0,(B2 i)] [] [.slice (some ⟨(d 2).y 0,0,none⟩) b b]) [3,2,1] [] []))
theorem Pf(f d e c a heavy b:Nat)(h:ie f d)(g:ie e c)(h1:1≤a)(h2:a≤256)(i:1≤heavy)(j:heavy≤65536)(k:1≤b)(l:b≤8):aa UZ 138 #[.agg #[iN f,iN d,iN e,iN c,iN a,iN heavy],iN b] [] [] (λE=>[pk (aD (E.y 0) (E.y 1) (oF f d e c a heavy b))]) (λE=> .tuple #[pt ((E.y 0)) 0,i6 0]):=(Pe f d e c a heavy b h g h1 h2 i j k l).outs λE n m=>qY ⟨_,rfl⟩ m
def kt(r s b m c way a:Int):Bool:=(((((iF r s b m c&&decide (0≤way))&&decide (way<4))&&decide (0≤a))&&decide (a≤64))&&decide (a<r*b*m))
theorem Pg(R S B M C:Nat)(d:cu R S B M C)(way a:Int):aa UZ 106 #[.agg #[iN R,iN S,iN B,iN M,iN C,i6 way,i6 a]] [] [] N0 (λ_=> .bool (kt R S B M C way a)):=by
 exact fG Tryz.func106 λw cs=>ra (λb=>[(1,pt (B0 b) 0),(2,.bool false)]) (λb=>[ob (B0 b) #[iN R,iN S,iN B,iN M,iN C,i6 way,i6 a] 25]) λb=>r0 [(1,.m (ls 0 ([iN R,iN S,iN B,iN M,iN C]))),(3,.m (ld 0 (i6 way))),(4,.c [] [] (xm (R:Int) (S:Int) (B:Int) (M:Int) (C:Int) way)),(7,.m (ld 0 (i6 a))),(12,.m (ld 0 (i6 a))),(17,.m (ld 0 (i6 a))),(19,.m (ls 0 ([iN R,iN S,iN B,iN M,iN C]))),(20,.c [] [] (lU R S B M C d)),] [(2,.bool ((((((iF (R:Int) (S:Int) (B:Int) (M:Int) (C:Int))&&(decide (0≤way)))&&(decide (way<4)))&&(decide (0≤a)))&&(decide (a≤64)))&&(decide (a<(((R*B)*M:Nat):Int)))))] [2] (ak (.bool ((((((iF (R:Int) (S:Int) (B:Int) (M:Int) (C:Int))&&(decide (0≤way)))&&(decide (way<4)))&&(decide (0≤a)))&&(decide (a≤64)))&&(decide (a<(((R*B)*M:Nat):Int))))) ab.zero (by unfold kt;rw[Vb,Vb]) [] [] [])
theorem Ph(r s b m c way a:Int)(f:iF r s b m c=false):aa UZ 106 #[.agg #[i6 r,i6 s,i6 b,i6 m,i6 c,i6 way,i6 a]] [] [] N0 (λ_=> .bool (kt r s b m c way a)):=by
 exact fG Tryz.func106 λw cs=>ra (λe=>[(1,pt (B0 e) 0),(2,.bool false)]) (λe=>[ob (B0 e) #[i6 r,i6 s,i6 b,i6 m,i6 c,i6 way,i6 a] 25]) λe=>r0 [(1,.m (ls 0 ([i6 r,i6 s,i6 b,i6 m,i6 c]))),(3,.m (ld 0 (i6 way))),(4,.c [] [] (aa.v ((xm r s b m c way)) λ_=>ALca Value.bool (show(((iF r s b m c)&&(decide (0≤way)))&&(decide (way<4)))=false from(by rw[f];rfl)))),(6,.d),(7,.d),(8,.d),(11,.d),(12,.d),(13,.d),(16,.d),(17,.d),(18,.d),(19,.d),(20,.d),(21,.d)] [(2,.bool false)] [2] (ak (.bool false) ab.zero (by unfold kt;rw[f];rfl) [] [] [])
theorem Pj(r s b m c way a:Int):aa UZ 106 #[.agg #[i6 r,i6 s,i6 b,i6 m,i6 c,i6 way,i6 a]] [] [] N0 (λ_=> .bool (kt r s b m c way a)):=by
 cases d:iF r s b m c with
 | false=>exact Ph r s b m c way a d
 | true=>
  obtain⟨R,S,B,M,C,rfl,rfl,rfl,rfl,rfl,e⟩:=Cj d;exact Pg R S B M C e way a
def l9(r s b m c way e mode i g h f a heavy d:Int):Bool:=((((kt r s b m c way e&&((mode==1)||(mode==2)))&&(((((gF i g&&gF h f)&&decide (1≤a))&&decide (a≤256))&&decide (1≤heavy))&&decide (heavy≤65536)))&&decide (1≤d))&&decide (d≤256))
theorem Dx(r s b m c way e mode j h i g a heavy d:Int)(f:Bool):aa UZ 79 #[.agg #[i6 r,i6 s,i6 b,i6 m,i6 c,i6 way,i6 e,i6 mode,i6 j,i6 h,i6 i,i6 g,i6 a,i6 heavy,i6 d,.bool f]] [] [] N0 (λ_=> .bool (l9 r s b m c way e mode j h i g a heavy d)):=by
 exact fG Tryz.func79 λw cs=>ra (λk=>[(1,pt (B0 k) 0),(2,.bool false)]) (λk=>[ob (B0 k) #[i6 r,i6 s,i6 b,i6 m,i6 c,i6 way,i6 e,i6 mode,i6 j,i6 h,i6 i,i6 g,i6 a,i6 heavy,i6 d,.bool f] 31]) λk=>r0 [(1,.m (ls 0 ([i6 r,i6 s,i6 b,i6 m,i6 c,i6 way,i6 e]))),(2,.c [] [] (Pj r s b m c way e)),(5,.m (ld 0 (i6 mode))),(6,.c [] [] (om mode)),(10,.m (ls 0 ([i6 j,i6 h,i6 i,i6 g,i6 a,i6 heavy]))),(11,.c [] [] (Dw j h i g a heavy)),(15,.m (ld 0 (i6 d))),(20,.m (ld 0 (i6 d))),] [(2,.bool (((((kt r s b m c way e)&&((mode==1)||(mode==2)))&&(((((gF j h&&gF i g)&&decide (1≤a))&&decide (a≤256))&&decide (1≤heavy))&&decide (heavy≤65536)))&&(decide (1≤d)))&&(decide (d≤256))))] [2] (ak (.bool (((((kt r s b m c way e)&&((mode==1)||(mode==2)))&&(((((gF j h&&gF i g)&&decide (1≤a))&&decide (a≤256))&&decide (1≤heavy))&&decide (heavy≤65536)))&&(decide (1≤d)))&&(decide (d≤256)))) ab.zero a7 [] [] [])
structure Cf where
 R:Nat
 S:Nat
 B:Nat
 M:Nat
 C:Nat
 G:Nat
 res:Nat
 E:Nat
 lr:Nat
 er:Nat
 lp:Nat
 ep:Nat
 H:Nat
 J:Nat
 log:Nat
 W:Bool
abbrev cA(c:Cf):Array Value:=#[i6 (c.R:Int),i6 (c.S:Int),i6 (c.B:Int),i6 (c.M:Int),i6 (c.C:Int),i6 (c.G:Int),i6 (c.res:Int),i6 (c.E:Int),i6 (c.lr:Int),i6 (c.er:Int),i6 (c.lp:Int),i6 (c.ep:Int),i6 (c.H:Int),i6 (c.J:Int),i6 (c.log:Int),.bool c.W]
abbrev lA(c:Cf)(a b d t:Nat):Array Value:=#[i6 (c.R:Int),i6 (c.S:Int),i6 (c.B:Int),i6 (c.M:Int),i6 (c.C:Int),i6 (c.G:Int),i6 (c.res:Int),i6 (c.E:Int),i6 (c.lr:Int),i6 (c.er:Int),i6 (c.lp:Int),i6 (c.ep:Int),i6 (c.H:Int),i6 (c.J:Int),i6 (c.log:Int),.bool c.W,pt a 0,pt b 0,pt d 0,i6 (t:Int)]
structure dd (c:Cf):Prop where
 ly:gT c.R c.S c.B c.M c.C c.G c.res
 E:c.E=1∨c.E=2
 r:ie c.lr c.er
 p:ie c.lp c.ep
 m1:1≤c.H
 m2:c.H≤256
 h1:1≤c.J
 h2:c.J≤65536
 l1:1≤c.log
 l2:c.log≤256
theorem Pk{k:Nat}{w:World}(h:k<3):(Instr.index 228 (.agg #[i6 0,i6 0,i6 0]) (.int .i64 (k:Int))).run UZ w= .ok (i6 0) w:=by
 rcases k with _ | _ | _ | k
 ·kernel_rfl
 ·kernel_rfl
 ·kernel_rfl
 ·omega
theorem gT.v{R S B M C way a:Nat}(h:gT R S B M C way a):kt R S B M C way a=true:=by
 have b:=h.G;have c:=h.r64;have d:=h.rp;unfold kt;rw[h.O.ok];simp only[VI,U9,decide_eq_true_eq];rw[←Vb,←Vb];omega
theorem dd.v{c:Cf}(h:dd c):l9 c.R c.S c.B c.M c.C c.G c.res c.E c.lr c.er c.lp c.ep c.H c.J c.log=true:=by
 have a:=h.m1;have b:=h.m2;have d:=h.h1;have f:=h.h2;have g:=h.l1;have i:=h.l2;unfold l9;rw[h.ly.v,h.r.r,h.p.r];simp only[VI,U9,Vq,decide_eq_true_eq,beq_iff_eq];rcases h.E with e | e<;>omega
theorem Pm{r s b m c way a:Int}(h:kt r s b m c way a=true): ∃R S B M C w q:Nat,r=R∧s=S∧b=B∧m=M∧c=C∧way=w∧a=q∧gT R S B M C w q:=by
 unfold kt at h;simp only[U9,decide_eq_true_eq] at h;obtain⟨⟨⟨⟨⟨f,g⟩,i⟩,j⟩,k⟩,d⟩:=h;obtain⟨R,S,B,M,C,rfl,rfl,rfl,rfl,rfl,e⟩:=Cj f;rw[←Vb,←Vb] at d;exact⟨R,S,B,M,C,way.toNat,a.toNat,rfl,rfl,rfl,rfl,rfl,by omega,by omega,e,by omega,by omega,by omega⟩
theorem Pn{r s b m c way f mode k i j g a heavy d:Int}(e:Bool)(h:l9 r s b m c way f mode k i j g a heavy d=true): ∃q:Cf,r=q.R∧s=q.S∧b=q.B∧m=q.M∧c=q.C∧way=q.G∧f=q.res∧mode=q.E∧k=q.lr∧i=q.er∧j=q.lp∧g=q.ep∧a=q.H∧heavy=q.J∧d=q.log∧e=q.W∧dd q:=by
 unfold l9 at h;simp only[U9,Vq,decide_eq_true_eq,beq_iff_eq] at h;obtain⟨⟨⟨⟨p,D⟩,⟨⟨⟨⟨⟨t,hp⟩,u⟩,v⟩,x⟩,y⟩⟩,z⟩,A⟩:=h;obtain⟨R,S,B,M,C,w,q,rfl,rfl,rfl,rfl,rfl,rfl,rfl,l⟩:=Pm p;obtain⟨k,i,rfl,rfl,o⟩:=C2 t;obtain⟨j,g,rfl,rfl,n⟩:=C2 hp;exact⟨⟨R,S,B,M,C,w,q,mode.toNat,k,i,j,g,a.toNat,heavy.toNat,d.toNat,e⟩,rfl,rfl,rfl,rfl,rfl,rfl,rfl,by show mode=(mode.toNat:Int);omega,rfl,rfl,rfl,rfl,by show a=(a.toNat:Int);omega,by show heavy=(heavy.toNat:Int);omega,by show d=(d.toNat:Int);omega,rfl,l,by show mode.toNat=1∨mode.toNat=2;omega,o,n,by show 1≤a.toNat;omega,by show a.toNat≤256;omega,by show 1≤heavy.toNat;omega,by show heavy.toNat≤65536;omega,by show 1≤d.toNat;omega,by show d.toNat≤256;omega⟩
theorem xQ(c:Cf)(h:dd c):aa UZ 79 #[.agg (cA c)] [] [] N0 (λ_=> .bool true):=by
 have a:=Dx c.R c.S c.B c.M c.C c.G c.res c.E c.lr c.er c.lp c.ep c.H c.J c.log c.W;rwa [h.v] at a
theorem Po(c:Cf)(a:dd c):aa UZ 114 #[.agg (cA c)] [] [] (λE=>[ob (E.y 0) #[iN c.R,iN c.S,iN c.B,iN c.M,iN c.C,iN c.G,iN c.res,iN c.E,iN c.lr,iN c.er,iN c.lp,iN c.ep,iN c.H,iN c.J,iN c.log,.bool c.W,pt ((E.y 1)) 0,pt ((E.y 2)) 0,pt ((E.y 3)) 0,i6 0] 122,pk (aq (E.y 1) ((E.y 4)) ((E.y 5)) ⟨kW c.R c.S c.B c.M c.C c.G c.res,kY,[]⟩),pk (aD (E.y 2) ((E.y 6)) (oF c.lr c.er c.lp c.ep c.H c.J c.R)),pk (aA (E.y 3) (oA c.log))]) (λE=> .tuple #[pt ((E.y 0)) 0,i6 0]):=by
 have f:=a.ly;have p:=a.r;have o:=a.p;have y:=a.m1;have z:=a.m2;have q:=a.h1;have r:=a.h2;have v:=a.l1;have x:=a.l2;have A:=f.O.bd.r1;have B:=f.O.bd.r8;refine fG Tryz.func114 λw cs=>ra (λi=>[(1,pt (B0 i) 0),(2,.pointer none),(3,i6 0)]) (λi=>[ob (B0 i) (cA c) 31]) λi=>rF [(0,.l 0),(1,.c [] [] (xQ c a))] 10 (rr (λ_=>[(0,.l 0)]) (λd=>[(4,pt (B2 d) 0)]) [] (λd L=>L++[ob (B2 d) #[iN c.R,iN c.S,iN c.B,iN c.M,iN c.C,iN c.G,iN c.res,iN c.E,iN c.lr,iN c.er,iN c.lp,iN c.ep,iN c.H,iN c.J,iN c.log,.bool c.W,.pointer none,.pointer none,.pointer none,i6 0] 122]) λd=>ra (λj=>[(5,pt (B0 j) 0)]) (λj=>[ob (B0 j) #[i6 0,i6 0,i6 0] 228]) λj=>rr (λb=>[(2,.m (ls 0 ([iN c.R,iN c.S,iN c.B,iN c.M,iN c.C,iN c.G,iN c.res]))),(3,.c [] [3] (NO c.R c.S c.B c.M c.C c.G c.res f)),(9,.s 1),(11,.s 2)]) N0 [] (λb L=>L.set 1 (ob (B2 d) #[iN c.R,iN c.S,iN c.B,iN c.M,iN c.C,iN c.G,iN c.res,iN c.E,iN c.lr,iN c.er,iN c.lp,iN c.ep,iN c.H,iN c.J,iN c.log,.bool c.W,pt ((B3 b)) 0,.pointer none,.pointer none,i6 0] 122)++[pk (aq (B3 b) ((b 3).y 1) ((b 3).y 2) ⟨kW c.R c.S c.B c.M c.C c.G c.res,kY,[]⟩)]) λb=>rr (λe=>[(2,.m (ls 0 ([iN c.lr,iN c.er,iN c.lp,iN c.ep,iN c.H,iN c.J]))),(6,.m (ld 0 (iN c.R))),(7,.c [] [4] (Pf c.lr c.er c.lp c.ep c.H c.J c.R p o Om Om Om Om Om Om)),(13,.s 1),(15,.s 2)]) N0 [] (λe L=>L.set 1 (ob (B2 d) #[iN c.R,iN c.S,iN c.B,iN c.M,iN c.C,iN c.G,iN c.res,iN c.E,iN c.lr,iN c.er,iN c.lp,iN c.ep,iN c.H,iN c.J,iN c.log,.bool c.W,pt ((B3 b)) 0,pt ((B7 e)) 0,.pointer none,i6 0] 122)++[pk (aD (B7 e) ((e 7).y 1) (oF c.lr c.er c.lp c.ep c.H c.J c.R))]) λe=>rr (λh=>[(2,.m (ld 0 (iN c.log))),(3,.c [] [5] (Ou c.log Om Om)),(9,.s 1),(11,.s 2)]) N0 [] (λh L=>L.set 1 (ob (B2 d) #[iN c.R,iN c.S,iN c.B,iN c.M,iN c.C,iN c.G,iN c.res,iN c.E,iN c.lr,iN c.er,iN c.lp,iN c.ep,iN c.H,iN c.J,iN c.log,.bool c.W,pt ((B3 b)) 0,pt ((B7 e)) 0,pt ((B3 h)) 0,i6 0] 122)++[pk (aA (B3 h) (oA c.log))]) λh=>r0 [(0,.l 2)] [(48,.agg #[i6 0,i6 0,i6 0]),(49,i6 0)] [] ?_);refine lq (λk=>k≤3) (λk=>[(49,iN k)]) (λ_ L=>L) (λk=>3-k) 0 Om Kr Kr (λk u=>?_);refine r0 [] [(50,.bool (decide ((k:Int)<3)))] [] ?_;refine b4 (k:Int) 3 (λn g=>?_) λn g=>?_
 ·exact r0 [(0,.t (tv (Instr.index 228 (.agg #[i6 0,i6 0,i6 0]) (iN k)) (λ_=>Pk Om)))] [(7,i6 0)] [] (rF [] 53 (r0 [(0,ad k 1)] [(49,iN (k+1))] [49] (le (k+1) Om Om Kr [0,1,2,3,4,5] Kr)))
 obtain rfl:k=3:=by omega
 exact lx (r0 [] [(2,pt (B2 d) 0),(3,i6 0)] [] (lf (.l [(d 2).y 0,(B3 b),(B7 e),(B3 h),(b 3).y 1,(b 3).y 2,(e 7).y 1] [] []) [1,3,4,5] [] []))
theorem mV(b e d a:Nat)(c:Cf)(time:Nat)(g:Lg)(f:fA g)(k i o:Nat):aa UZ 205 #[pt b 0,iN k,iN i,iN o] [ob b (lA c e d a time) 122,pk (aA a g)] [1] (λ_=>[pk (aA a (bF g ⟨0,time,k,i,o⟩))]) (λ_=> .tuple #[]):=by
 refine fG Tryz.func205 λw cs=>rs [(3,.m (ld 0 (pt a 0))),(7,.m (ld 0 (iN time))),(12,.c [1] [1] (OE a g ⟨0,time,k,i,o⟩ f))] 1 ((pk (aA a (bF g ⟨0,time,k,i,o⟩)))) ?_;exact eh ab.zero [1] [(0,0)] [] (hf:=by kernel_rfl)
theorem Pp(g a b:Nat)(r:Rp)(d:a2 r)(p:Nat)(hp:p<r.m.R*r.m.B*r.m.M):aa UZ 64 #[pt a 0,iN p] [pk (aq g a b r)] [0] (λ_=>[pk (aq g a b r)]) (λ_=> .tuple #[iN (bq r.m p),i6 0]):=(CF a r.m d.m p hp).inW λL c=>⟨1,by rw[c];rfl,by rw[c];rfl⟩
theorem Pq(g a b:Nat)(r:Rp)(d:a2 r)(p:Nat)(hp:p<r.m.R*r.m.B*r.m.M):aa UZ 86 #[pt a 0,iN p] [pk (aq g a b r)] [0] (λ_=>[pk (aq g a b r)]) (λ_=> .bool (decide (p<r.m.R*r.m.B*r.m.M-r.m.res+r.m.Q)&& !r.m.P.getD p false)):=(MR a r.m d.m p hp).inW λL c=>⟨1,by rw[c];rfl,by rw[c];rfl⟩
theorem Dy(g a b:Nat)(r:Rp)(d:a2 r):aa UZ 63 #[pt a 0] [pk (aq g a b r)] [0] (λ_=>[pk (aq g a b r)]) (λ_=> .agg #[iN r.m.R,iN r.m.S,iN r.m.B,iN r.m.M,iN r.m.C,iN r.m.G,iN r.m.res]):=(iH a r.m d.m).inW λL c=>⟨1,by rw[c];rfl,by rw[c];rfl⟩
theorem pF(g a i h d e:Nat)(c:Cf)(time:Nat)(r:Rp)(f:a2 r)(p:Nat)(hp:p<r.m.R*r.m.B*r.m.M):aa UZ 248 #[pt g 0,iN p] [ob g (lA c a i h time) 122,pk (aq a d e r)] [1] (λ_=>[pk (aq a d e r)]) (λ_=>iN (bq r.m p*64)):=by
 have j:=uf f.m hp;exact fG Tryz.func248 λw cs=>r0 [] [(4,i6 0)] [] (r0 [(3,.m (ld 0 (pt a 0))),(4,.c [1] [1] (uy a d e r f)),(6,.c [1] [1] (Pp a d e r f p hp)),] [(5,iN (bq r.m p))] [] (r0 [(1,.t (tv (au .shl 3 (.tmp 17) (.const (u6 6)) (iN (bq r.m p)) (u6 6)) (λ_=>dB (b:=((bq r.m p*64:Nat):Int)) (fu 6 Dc Om Om) Om)))] [(4,iN (bq r.m p*64))] [4] (lf ab.zero [1] [(0,0)] [])))
theorem Pr(i h e a j m p:Nat)(c:Cf)(time:Nat)(r:Rp)(n:a2 r)(k:Tk)(y:dL k)(g:Lg)(s:fA g)(f t:Nat)(q:f<r.m.R*r.m.B*r.m.M)(x:t<r.m.R*r.m.B*r.m.M):aa UZ 213 #[pt i 0,i6 1,.agg #[i6 3,iN f,iN t]] [ob i (lA c h e a time) 122,pk (aq h j m r),pk (aD e p k),pk (aA a g)] [1,2,3] (λ_=>[pk (aq h j m r),pk (aD e p k),pk (aA a (bF g ⟨0,time,3,(bq r.m f*64),(bq r.m t*64)⟩))]) (λ_=> .tuple #[]):=by
 have u:=n.m.np;have v:=n.m.ly.rp;refine fG Tryz.func213 λw cs=>ra (λo=>[(5,pt (B0 o) 0)]) (λo=>[ob (B0 o) #[i6 3,iN f,iN t] 349]) λo=>r0 [(1,.l 4),(2,.t (tv (au .shl 3 (.tmp 9) (.const (u6 20)) (iN f) (u6 20)) (λ_=>dB (b:=((f*1048576:Nat):Int)) (fu 20 Dc Om Om) Om))),(4,.l 4),(5,.t (tv (au .shl 3 (.tmp 12) (.const (u6 20)) (iN t) (u6 20)) (λ_=>dB (b:=((t*1048576:Nat):Int)) (fu 20 Dc Om Om) Om)))] [(6,iN (f*1048576)),(7,iN (t*1048576))] [] (rT [] 15 (r0 [(2,.l 4),(3,.c [0,1] [1] (pF i h e a j m c time r n f Om)),(6,.l 4),(7,.c [0,1] [1] (pF i h e a j m c time r n t Om))] [(6,iN (bq r.m f*64)),(7,iN (bq r.m t*64))] [6,7] (rF [(1,.l 4)] 26 (rs [(2,.l 4),(5,.c [0,3] [3] (mV i h e a c time g s 3 (bq r.m f*64) (bq r.m t*64)))] 3 ((pk (aA a (bF g ⟨0,time,3,(bq r.m f*64),(bq r.m t*64)⟩)))) (rF [(1,.l 4),(4,.d),(5,.d)] 35 (rF [(1,.l 4)] 50 ?_))))));exact eh ab.zero [1,2,3] [(0,0)] []
theorem Ps(i h e a j m p:Nat)(c:Cf)(time:Nat)(r:Rp)(n:a2 r)(k:Tk)(x:dL k)(g:Lg)(s:fA g)(f:Nat)(q:f<r.m.R*r.m.B*r.m.M):aa UZ 213 #[pt i 0,i6 1,.agg #[i6 5,iN f,i6 0]] [ob i (lA c h e a time) 122,pk (aq h j m r),pk (aD e p k),pk (aA a g)] [1,2,3] (λ_=>[pk (aq h j m r),pk (aD e p k),pk (aA a (bF g ⟨0,time,5,(bq r.m f*64),0⟩))]) (λ_=> .tuple #[]):=by
 have u:=n.m.np;have v:=n.m.ly.rp;refine fG Tryz.func213 λw cs=>ra (λo=>[(5,pt (B0 o) 0)]) (λo=>[ob (B0 o) #[i6 5,iN f,i6 0] 349]) λo=>r0 [(1,.l 4),(2,.t (tv (au .shl 3 (.tmp 9) (.const (u6 20)) (iN f) (u6 20)) (λ_=>dB (b:=((f*1048576:Nat):Int)) (fu 20 Dc Om Om) Om))),(4,.l 4),(5,.t (tv (au .shl 3 (.tmp 12) (.const (u6 20)) (i6 0) (u6 20)) (λ_=>dB (b:=((0:Nat):Int)) (fu 20 Dc Om Om) Om)))] [(6,iN (f*1048576)),(7,i6 0)] [] (rT [] 15 (r0 [(2,.l 4),(3,.c [0,1] [1] (pF i h e a j m c time r n f Om)),(6,.l 4),(7,.c [0,1] [1] (pF i h e a j m c time r n 0 Om))] [(6,iN (bq r.m f*64)),(7,iN (bq r.m 0*64))] [6,7] (rT [(1,.l 4)] 26 (r0 [(1,.l 4)] [(7,i6 0)] [7] (rs [(2,.l 4),(5,.c [0,3] [3] (mV i h e a c time g s 5 (bq r.m f*64) 0))] 3 ((pk (aA a (bF g ⟨0,time,5,(bq r.m f*64),0⟩)))) (rF [(1,.l 4),(4,.d),(5,.d)] 35 (rF [(1,.l 4)] 50 ?_)))))));exact eh ab.zero [1,2,3] [(0,0)] []
theorem Pt(h e a d i j m:Nat)(c:Cf)(time:Nat)(r:Rp)(n:a2 r)(k:Tk)(s:dL k)(g:Lg)(q:fA g)(f t:Nat)(p:f<r.m.R*r.m.B*r.m.M)(x:t<r.m.R*r.m.B*r.m.M):aa UZ 213 #[pt h 0,i6 1,.agg #[i6 6,iN f,iN t]] [ob h (lA c e a d time) 122,pk (aq e i j r),pk (aD a m k),pk (aA d g)] [1,2,3] (λ_=>[pk (aq e i j r),pk (aD a m (pE k f)),pk (aA d (bF g ⟨0,time,6,(bq r.m f*64),(bq r.m t*64)⟩))]) (λ_=> .tuple #[]):=by
 have u:=n.m.np;have v:=n.m.ly.rp;refine fG Tryz.func213 λw cs=>ra (λo=>[(5,pt (B0 o) 0)]) (λo=>[ob (B0 o) #[i6 6,iN f,iN t] 349]) λo=>r0 [(1,.l 4),(2,.t (tv (au .shl 3 (.tmp 9) (.const (u6 20)) (iN f) (u6 20)) (λ_=>dB (b:=((f*1048576:Nat):Int)) (fu 20 Dc Om Om) Om))),(4,.l 4),(5,.t (tv (au .shl 3 (.tmp 12) (.const (u6 20)) (iN t) (u6 20)) (λ_=>dB (b:=((t*1048576:Nat):Int)) (fu 20 Dc Om Om) Om)))] [(6,iN (f*1048576)),(7,iN (t*1048576))] [] (rT [] 15 (r0 [(2,.l 4),(3,.c [0,1] [1] (pF h e a d i j c time r n f Om)),(6,.l 4),(7,.c [0,1] [1] (pF h e a d i j c time r n t Om))] [(6,iN (bq r.m f*64)),(7,iN (bq r.m t*64))] [6,7] (rF [(1,.l 4)] 26 (rs [(2,.l 4),(5,.c [0,3] [3] (mV h e a d c time g q 6 (bq r.m f*64) (bq r.m t*64)))] 3 ((pk (aA d (bF g ⟨0,time,6,(bq r.m f*64),(bq r.m t*64)⟩)))) (rT [(1,.l 4)] 35 (rs [(3,.l 0),(5,.l 4),(6,.c [2] [2] (O4 a m k s f))] 2 ((pk (aD a m (pE k f)))) ?_))))));exact eh ab.zero [1,2,3] [(0,0)] []
theorem Pu(j h e a m n o:Nat)(c:Cf)(time:Nat)(r:Rp)(p:a2 r)(k:Tk)(y:dL k)(g:Lg)(s:fA g)(f t:Nat)(q:f<8)(x:t<8):aa UZ 213 #[pt j 0,i6 2,.agg #[i6 4,iN f,iN t]] [ob j (lA c h e a time) 122,pk (aq h m n r),pk (aD e o k),pk (aA a g)] [1,2,3] (λ_=>[pk (aq h m n r),pk (aD e o k),pk (aA a (bF g ⟨0,time,4,(f*1048576),(t*1048576)⟩))]) (λ_=> .tuple #[]):=by
 have u:=p.m.np;have v:=p.m.ly.rp;refine fG Tryz.func213 λw cs=>ra (λi=>[(5,pt (B0 i) 0)]) (λi=>[ob (B0 i) #[i6 4,iN f,iN t] 349]) λi=>r0 [(1,.l 4),(2,.t (tv (au .shl 3 (.tmp 9) (.const (u6 20)) (iN f) (u6 20)) (λ_=>dB (b:=((f*1048576:Nat):Int)) (fu 20 Dc Om Om) Om))),(4,.l 4),(5,.t (tv (au .shl 3 (.tmp 12) (.const (u6 20)) (iN t) (u6 20)) (λ_=>dB (b:=((t*1048576:Nat):Int)) (fu 20 Dc Om Om) Om)))] [(6,iN (f*1048576)),(7,iN (t*1048576))] [] (rF [] 15 (rF [(1,.l 4)] 26 (rs [(2,.l 4),(5,.c [0,3] [3] (mV j h e a c time g s 4 (f*1048576) (t*1048576)))] 3 ((pk (aA a (bF g ⟨0,time,4,(f*1048576),(t*1048576)⟩)))) (rF [(1,.l 4),(4,.d),(5,.d)] 35 (rF [(1,.l 4)] 50 ?_)))));exact eh ab.zero [1,2,3] [(0,0)] []
theorem Pv(j h e a m n o:Nat)(c:Cf)(time:Nat)(r:Rp)(p:a2 r)(k:Tk)(x:dL k)(g:Lg)(s:fA g)(f:Nat)(q:f<8):aa UZ 213 #[pt j 0,i6 2,.agg #[i6 5,iN f,i6 1]] [ob j (lA c h e a time) 122,pk (aq h m n r),pk (aD e o k),pk (aA a g)] [1,2,3] (λ_=>[pk (aq h m n r),pk (aD e o k),pk (aA a (bF g ⟨0,time,5,(f*1048576),1⟩))]) (λ_=> .tuple #[]):=by
 have u:=p.m.np;have v:=p.m.ly.rp;refine fG Tryz.func213 λw cs=>ra (λi=>[(5,pt (B0 i) 0)]) (λi=>[ob (B0 i) #[i6 5,iN f,i6 1] 349]) λi=>r0 [(1,.l 4),(2,.t (tv (au .shl 3 (.tmp 9) (.const (u6 20)) (iN f) (u6 20)) (λ_=>dB (b:=((f*1048576:Nat):Int)) (fu 20 Dc Om Om) Om))),(4,.l 4),(5,.t (tv (au .shl 3 (.tmp 12) (.const (u6 20)) (i6 1) (u6 20)) (λ_=>dB (b:=((1048576:Nat):Int)) (fu 20 Dc Om Om) Om)))] [(6,iN (f*1048576)),(7,i6 1048576)] [] (rF [] 15 (rT [(1,.l 4)] 26 (r0 [(1,.l 4)] [(7,i6 1)] [7] (rs [(2,.l 4),(5,.c [0,3] [3] (mV j h e a c time g s 5 (f*1048576) 1))] 3 ((pk (aA a (bF g ⟨0,time,5,(f*1048576),1⟩)))) (rF [(1,.l 4),(4,.d),(5,.d)] 35 (rF [(1,.l 4)] 50 ?_))))));exact eh ab.zero [1,2,3] [(0,0)] []
theorem Pw(j e a d m n h:Nat)(c:Cf)(time:Nat)(r:Rp)(o:a2 r)(k:Tk)(u:dL k)(g:Lg)(s:fA g)(f t:Nat)(p:f<8)(y:t<8)(q:f<k.F.length):aa UZ 213 #[pt j 0,i6 2,.agg #[i6 6,iN f,iN t]] [ob j (lA c e a d time) 122,pk (aq e m n r),pk (aD a h k),pk (aA d g)] [1,2,3] (λ_=>[pk (aq e m n r),pk (aD a h (oE k f)),pk (aA d (bF g ⟨0,time,6,(f*1048576),(t*1048576)⟩))]) (λ_=> .tuple #[]):=by
 have v:=o.m.np;have x:=o.m.ly.rp;refine fG Tryz.func213 λw cs=>ra (λi=>[(5,pt (B0 i) 0)]) (λi=>[ob (B0 i) #[i6 6,iN f,iN t] 349]) λi=>r0 [(1,.l 4),(2,.t (tv (au .shl 3 (.tmp 9) (.const (u6 20)) (iN f) (u6 20)) (λ_=>dB (b:=((f*1048576:Nat):Int)) (fu 20 Dc Om Om) Om))),(4,.l 4),(5,.t (tv (au .shl 3 (.tmp 12) (.const (u6 20)) (iN t) (u6 20)) (λ_=>dB (b:=((t*1048576:Nat):Int)) (fu 20 Dc Om Om) Om)))] [(6,iN (f*1048576)),(7,iN (t*1048576))] [] (rF [] 15 (rF [(1,.l 4)] 26 (rs [(2,.l 4),(5,.c [0,3] [3] (mV j e a d c time g s 6 (f*1048576) (t*1048576)))] 3 ((pk (aA d (bF g ⟨0,time,6,(f*1048576),(t*1048576)⟩)))) (rF [(1,.l 4)] 35 (rT [(1,.l 4)] 50 (rs [(3,.l 0),(5,.l 4),(6,.c [2] [2] (O5 a h k u f Om))] 2 ((pk (aD a h (oE k f)))) ?_))))));exact eh ab.zero [1,2,3] [(0,0)] []
theorem Px(m:Nat)(a:m<18446744073709551616):aa UZ 131 #[u6 (m:Int)] [] [] N0 (λ_=> .bool (decide (pc m=64))):=by
 exact fG Tryz.func131 λw cs=>r0 [] [(2,.bool false)] [] (r0 [(1,.c [] [] (qC m Om))] [(2,.bool ((((pc m):Nat):Int)==64))] [2] (ak (.bool ((((pc m):Nat):Int)==64)) ab.zero (by exact ALca Value.bool (kX (pc m) 64)) [] [] []))
def eQ(x:UInt8)(k:Nat):List UInt8:=U0 k x++U0 (64-k) 0
theorem Py{x:UInt8}{k:Nat}(h:k≤64):(eQ x k).length=64:=by unfold eQ;rw[U1,U3,U3];omega
theorem Pz{x:UInt8}{k:Nat}(h:k<64):(eQ x k).set k x=eQ x (k+1):=by
 unfold eQ;rw[Vv _ _ (by rw[U3];exact Vg _),U3,Nat.sub_self,show 64-k=(64-(k+1))+1 by omega,List.replicate_succ,List.replicate_succ',Vh];rfl
theorem PA(x:UInt8):aa UZ 46 #[u1 (x.toNat:Int)] [] [] N0 (λ_=> .agg (rB 64 (eQ x 64)).toArray):=by
 refine fG Tryz.func46 λw cs=>ra (λb=>[(2,pt (B0 b) 0)]) (λb=>[ob (B0 b) (rB 64 z6).toArray 43]) λb=>ra (λa=>[(3,pt (B0 a) 0)]) (λa=>[ob (B0 a) (rB 64 z6).toArray 43]) λa=>r0 [] [(5,i6 0)] [] ?_;refine lq (λk=>k≤64) (λk=>[(5,iN k)]) (λk L=>L.set 1 (ob (B0 a) (rB 64 (eQ x k)).toArray 43)) (λk=>64-k) 0 Om Kr (by rw[show eQ x 0=U0 64 0 from rfl];kernel_rfl) (λk f=>?_);have d:=Py (x:=x) (k:=k) Om;refine r0 [] [(6,.bool (decide ((k:Int)<64)))] [] ?_;refine b4 (k:Int) 64 (λe c=>?_) λe c=>?_
 ·exact r0 [] [(4,iN k)] [] (rs [(2,iA 43 .i64 (B0 a) 0 64 1 k),(3,wD 1 (B0 a) k 43 (u1 (x.toNat:Int)) (rB 64 (eQ x k)) (rB 64 ((eQ x k).set k x)) (jt Om) (lF (show(eQ x k).length=64 by(simp only[LL,d];done))))] 1 (ob (B0 a) (rB 64 ((eQ x k).set k x)).toArray 43) (r0 [(0,ad k 1)] [(5,iN (k+1))] [5] (le (k+1) Om Om Kr [0,1] (by rw[←Pz Om];kernel_rfl))))
 obtain rfl:k=64:=by omega
 exact lx (rs [(0,.l 1),(1,.s 0)] 0 (ob (B0 b) (rB 64 (eQ x 64)).toArray 43) (lf ab.zero [] [] [0]))
theorem Dz(v:Value)(xs:List UInt8)(e:xs.length=64):aa UZ 130 #[v] [.p (aJ eB v xs)] [] N0 (λ_=> .tuple #[.agg (rB 64 xs).toArray,i6 0]):=by
 exact fO Tryz.func130 0 rfl λb a=>fG Tryz.func130 λw cs=>ra (λd=>[(2,pt (B0 d) 0),(3,i6 0)]) (λd=>[ob (B0 d) (rB 64 z6).toArray 43]) λd=>rF [(1,ey a.1 0),(2,.t (tk (show Value.bool ((xs.length:Int) != 64)= .bool false from ALca Value.bool (by rw[e];rfl))))] 6 (rr (λ_=>[(1,.m (AQ 0 (.c b) 64 (cP a.1) Dc Om)),(2,.m (AR 0 (.c b) 64 (rB 64 xs) (cP a.1) (kd e).symm Om (AS (λ_=>rfl) e))),(3,.s 1)]) (λ_=>[(3,i6 0)]) [3] (λ_ L=>L.set 1 (ob (B0 d) (rB 64 xs).toArray 43)) λf=>lf ab.zero [] [(0,0)] [1])
def jE(l o:List UInt8)(is:List Nat):List UInt8:=is.foldl (λl i=>l.set i (o.getD i 0)) l
def ig(l o:List UInt8)(m:Nat):List UInt8:=jE l o (bB m)
theorem uD(o:List UInt8): ∀(is:List Nat) (l:List UInt8),(jE l o is).length=l.length
 | [],_=>rfl
 | i::is,l=>by
  show(jE (l.set i (o.getD i 0)) o is).length=_;rw[uD o is,U6]
theorem PB{l o:List UInt8}{is:List Nat}{k:Nat}(h:k<is.length):(jE l o (is.take k)).set (is.getD k 0) (o.getD (is.getD k 0) 0)=jE l o (is.take (k+1)):=by
 unfold jE;rw[Vn,U4 h,VD,U2,U4 h];rfl
theorem PC(l y:List UInt8)(m:Nat)(f:l.length=64)(h:y.length=64)(u:m<18446744073709551616):aa UZ 94 #[.agg (rB 64 l).toArray,.agg (rB 64 y).toArray,u6 (m:Int)] [] [] N0 (λ_=> .agg (rB 64 (jE l y ((bB m).take ((bB m).length)))).toArray):=by
 refine fG Tryz.func94 λw cs=>ra (λa=>[(3,pt (B0 a) 0),(4,pt (B1 a) 0),(6,pt (B2 a) 0)]) (λa=>[ob (B0 a) (rB 64 l).toArray 43,ob (B1 a) (rB 64 y).toArray 43,ob (B2 a) (rB 64 z6).toArray 43]) λa=>rr (λ_=>[(1,.c [] [3] (AY m))]) (λb=>[(9,.func (.func 172) #[] #[pt ((B1 b)) 0])]) [] (λb L=>L++[ob (B1 b) #[u6 (m:Int)] 44]) λb=>?_;refine Ay (encs:=λ(i:Nat)=>#[iN i]) (xs:=bB m) (XO:=[((B1 b),.cells #[u6 (m:Int)] 44 (0,0))]) (KO:=[]) (AX (B1 b) m Om) (enters_of Tryz.func172 Kr rfl) (λk=>k≤(bB m).length) (λk L=>L.set 0 (ob (B0 a) (rB 64 (jE l y ((bB m).take k))).toArray 43)) [ob (B0 a) (rB 64 l).toArray 43,ob (B1 a) (rB 64 y).toArray 43,ob (B2 a) (rB 64 z6).toArray 43] [0,1,2,3] [3] [] Om (by rw[show jE l y ((bB m).take 0)=l by rw[Vs];rfl];kernel_rfl) (λv k x p r g e=>?_) (λo e=>?_)
 ·obtain⟨d,rfl⟩:=o2 0 g;have j:=(uD y ((bB m).take k) l).trans f;have n:=BL d;refine r0 [] [(7,iN ((bB m).getD k 0))] [] ?_;refine ag [] (λq t=>?_);exact rs [(2,iA 43 .i64 (B1 a) 0 64 1 ((bB m).getD k 0)),(3,rD 1 (B1 a) ((bB m).getD k 0) 43 (rB 64 y) (nh Om)),(4,iA 43 .i64 (B0 a) 0 64 1 ((bB m).getD k 0)),(5,wD 0 (B0 a) ((bB m).getD k 0) 43 (u1 ((y.getD ((bB m).getD k 0) 0).toNat:Int)) (rB 64 (jE l y ((bB m).take k))) (rB 64 ((jE l y ((bB m).take k)).set ((bB m).getD k 0) (y.getD ((bB m).getD k 0) 0))) (jt Om) (lF (show(jE l y ((bB m).take k)).length=64 by(simp only[LL,f,h,uD,f,h];done))))] 0 (ob (B0 a) (rB 64 ((jE l y ((bB m).take k)).set ((bB m).getD k 0) (y.getD ((bB m).getD k 0) 0))).toArray 43) (ne _ ⟨Om,rfl⟩ [0,1,2] (by rw[←PB Om];kernel_rfl))
 exact rs [(0,.l 0),(1,.s 2)] 2 (ob (B2 a) (rB 64 (jE l y ((bB m).take ((bB m).length)))).toArray 43) (lf ab.zero [] [] [2])
section
theorem nF{α:Type}{p:α→Prop}{l:List α}(d:α):(∀i,i<l.length→p (l.getD i d))↔∀x∈l,p x:=by
 constructor
 ·intro h x b;obtain⟨i,a,rfl⟩:=List.getElem_of_mem b;have:=h i a;rwa [U2,U4 a] at this
 ·intro h i a;rw[U2,U4 a];exact h _ (List.getElem_mem a)
theorem DA{α:Type}{l:List α}{i:Nat}(h:i<l.length):(l.eraseIdx i).length=l.length-1:=by rw[Vf,ALifp h]
theorem ma(g:Lg)(x:Re):(bF g x).next=g.next+1:=by
 unfold bF
 split
 ·split<;>rfl
 ·rfl
theorem uE(g:Lg)(x:Re):(bF g x).H=g.H:=by
 unfold bF
 split
 ·split<;>rfl
 ·rfl
theorem fA.add{g:Lg}(h:fA g)(x:Re)(b:g.next+1≤1000000000):fA (bF g x):=by
 refine⟨?_,by rw[uE];exact h.r1,by rw[uE];exact h.r,by rw[ma];exact b⟩;rw[uE];have d:=h.l;have f:=mU bW g.l;unfold bF
 split
 ·rename_i e
  split
  ·exact h.l
  ·rename_i c;have a:aO bW g.l<g.l.length:=by omega
   show(g.l.eraseIdx (aO bW g.l)++[l7 x g.next]).length≤g.H;rw[U1,DA a];show g.l.length-1+1≤g.H;omega
 ·show(g.l++[l7 x g.next]).length≤g.H;rw[U1];show g.l.length+1≤g.H;omega
theorem fA.clear{g:Lg}(h:fA g):fA (jD g):=⟨Vc _,h.r1,h.r,h.n⟩
theorem DB{α:Type}{l:List α}{i:Nat}{x:α}(h:x∈l.eraseIdx i):x∈l:=List.mem_of_mem_eraseIdx h
section
variable {ev:Nat} {t:Tb}
theorem gZ.mk'{a:Tb}(h:gZ ev t)(b:a.H=t.H)(d:a.l.length≤t.H)(c: ∀x∈a.l,eP ev x.l x.a):gZ ev a:=⟨by rw[b];exact d,by rw[b];exact h.r1,by rw[b];exact h.r,(nF (p:=λx:Pa=>eP ev x.l x.a) bo).2 c⟩
theorem gZ.mem(h:gZ ev t): ∀x∈t.l,eP ev x.l x.a:=(nF (p:=λx:Pa=>eP ev x.l x.a) bo).1 h.b
theorem gZ.put(h:gZ ev t){k l a:Nat}(c:eP ev l a):gZ ev (oC t k l a):=by
 have d:=h.l;have f:=h.r1;unfold oC
 split
 ·split
  ·rename_i e;refine h.mk' rfl ?_ λx b=>?_
   ·show(t.l.eraseIdx (dY t.l t.l.length).1++[(⟨k,l,a⟩:Pa)]).length≤t.H;rw[U1,DA (xO t.l t.l.length Om)];show t.l.length-1+1≤t.H;omega
   ·rcases List.mem_append.1 b with b | b
    ·exact h.mem x (DB b)
    ·rw[List.mem_singleton.1 b];exact c
  ·rename_i e;refine h.mk' rfl ?_ λx b=>?_
   ·show(t.l++[(⟨k,l,a⟩:Pa)]).length≤t.H;rw[U1];show t.l.length+1≤t.H;omega
   ·rcases List.mem_append.1 b with b | b
    ·exact h.mem x b
    ·rw[List.mem_singleton.1 b];exact c
 ·refine h.mk' rfl ?_ λx b=>?_
  ·show(t.l.set _ _).length≤t.H;rw[U6];exact h.l
  ·rcases Vt b with b | rfl
   ·exact h.mem x b
   ·exact c
theorem gZ.drop(h:gZ ev t)(k:Nat):gZ ev (oD t k):=by
 unfold oD
 split
 ·exact h
 ·refine h.mk' rfl ?_ λx a=>h.mem x (DB a);show(t.l.eraseIdx _).length≤t.H;rw[Vf];have:=h.l
  split<;>omega
theorem gZ.tick(h:gZ ev t):gZ ev (ry t ev):=by
 refine h.mk' rfl ?_ λx a=>?_
 ·show(aX (cG ev) t.l t.l.length).length≤t.H;rw[rv];exact h.l
 ·have a:x∈aX (cG ev) t.l t.l.length:=a;rw[Dt] at a;obtain⟨y,b,rfl⟩:=List.mem_map.1 a;exact C4 (h.mem y b)
end
section
variable {k:Tk}
theorem dL.rk(h:dL k): ∀x∈k.F,eP k.er x.l x.a:=(nF (p:=λx:Bk=>eP k.er x.l x.a) bh).1 h.b
theorem dL.set(h:dL k)(r:Nat){b:Bk}(d:eP k.er b.l b.a): ∀i,i<(k.F.set r b).length→eP k.er ((k.F.set r b).getD i bh).l ((k.F.set r b).getD i bh).a:=
 (nF (p:=λx:Bk=>eP k.er x.l x.a) bh).2 λx c=>by
  rcases Vt c with c | rfl
  ·exact h.rk x c
  ·exact d
theorem dL.note(h:dL k){r:Nat}(p n:Nat)(c:r<k.F.length):dL (fk k r p n):=
 ⟨h.r,h.p,h.h1,h.h2,by show(k.F.set r _).length≤8;rw[U6];exact h.n,h.set r (b:=⟨cc (k.F.getD r bh).l n,(k.F.getD r bh).a⟩) (C3 (h.b r c)),h.t.put (C3 (h.t.get h.p.e1 p))⟩
theorem dL.reset(h:dL k)(r:Nat):dL (oE k r):=
 ⟨h.r,h.p,h.h1,h.h2,by show(k.F.set r _).length≤8;rw[U6];exact h.n,h.set r (b:=⟨0,0⟩) ⟨Vc _,h.r.e1⟩,h.t⟩
theorem dL.drop(h:dL k)(p:Nat):dL (pE k p):=⟨h.r,h.p,h.h1,h.h2,h.n,h.b,h.t.drop p⟩
theorem dL.tick(h:dL k):dL (l8 k):=by
 refine⟨h.r,h.p,h.h1,h.h2,?_,(nF (p:=λx:Bk=>eP k.er x.l x.a) bh).2 λx a=>?_,h.t.tick⟩
 ·show(aX (dO k.er) k.F k.F.length).length≤8;rw[rv];exact h.n
 ·have a:x∈aX (dO k.er) k.F k.F.length:=a;rw[Dt] at a;obtain⟨y,b,rfl⟩:=List.mem_map.1 a;exact C4 (h.rk y b)
theorem PD(k:Tk)(r p n:Nat):(fk k r p n).F.length=k.F.length:=U6
theorem PE(k:Tk)(r:Nat):(oE k r).F.length=k.F.length:=U6
theorem PF(k:Tk):(l8 k).F.length=k.F.length:=rv ..
end
def fB(of:Nat)(v:Ev):Nat:=if v.k=3 then 1 else if v.k=4 then 2 else if v.k=5 then 1+v.t else of
def fW(of:Nat)(k:Tk)(v:Ev):Tk:=if v.k=6 then(if of=1 then pE k v.f else oE k v.f) else k
def nG(m:Mp)(of x:Nat):Nat:=if of=1 then bq m x*64 else x*1048576
def ij(m:Mp)(of time:Nat)(v:Ev):Re:=⟨0,time,v.k,nG m of v.f,if v.k=5 then v.t else nG m of v.t⟩
structure ik (np n of:Nat) (v:Ev):Prop where
 k:(of=1∧v.f<np∧(v.k=3∨v.k=6)∧v.t<np)∨(of=1∧v.f<np∧v.k=5∧v.t=0)∨(of=2∧v.f<n∧(v.k=4∨v.k=6)∧v.t<8)∨(of=2∧v.f<n∧v.k=5∧v.t=1)
theorem PG(of:Nat)(k:Tk)(v:Ev):(fW of k v).F.length=k.F.length:=by
 unfold fW
 split
 ·split
  ·rfl
  ·exact PE _ _
 ·rfl
theorem PH{k:Tk}(h:dL k)(of:Nat)(v:Ev):dL (fW of k v):=by
 unfold fW
 split
 ·split
  ·exact h.drop _
  ·exact h.reset _
 ·exact h
def e3(of:Nat)(k:Tk)(l:List Ev):Tk:=l.foldl (λk v=>fW (fB of v) k v) k
def eu(m:Mp)(of time:Nat)(g:Lg)(l:List Ev):Lg:=l.foldl (λg v=>bF g (ij m (fB of v) time v)) g
theorem xR(of:Nat): ∀(l:List Ev) {k:Tk},dL k→dL (e3 of k l)
 | [],_,h=>h
 | v::l,_,h=>xR of l (PH h (fB of v) v)
theorem xS(of:Nat): ∀(l:List Ev) (k:Tk),(e3 of k l).F.length=k.F.length
 | [],_=>rfl
 | v::l,k=>(xS of l (fW (fB of v) k v)).trans (PG _ k v)
theorem uF(m:Mp)(of time:Nat): ∀(l:List Ev) (g:Lg),(eu m of time g l).next=g.next+l.length
 | [],_=>rfl
 | v::l,g=>(uF m of time l (bF g (ij m (fB of v) time v))).trans (by rw[ma,VF];omega)
theorem xT(m:Mp)(of time:Nat): ∀(l:List Ev) {g:Lg},fA g→g.next+l.length≤1000000000→fA (eu m of time g l)
 | [],_,h,_=>h
 | v::l,g,h,a=>by
  rw[VF] at a;exact xT m of time l (h.add _ Om) (by rw[ma];omega)
theorem xU{α β:Type}{f:β→α→β}{b:β}{l:List α}{i:Nat}{d:α}(h:i<l.length):(l.take (i+1)).foldl f b=f ((l.take i).foldl f b) (l.getD i d):=by
 rw[Vn,U4 h,VD,U2,U4 h];rfl
theorem PI{of:Nat}{k:Tk}{l:List Ev}{i:Nat}(h:i<l.length):e3 of k (l.take (i+1))=fW (fB of (l.getD i cx)) (e3 of k (l.take i)) (l.getD i cx):=xU h
theorem PJ{m:Mp}{of time:Nat}{g:Lg}{l:List Ev}{i:Nat}(h:i<l.length):eu m of time g (l.take (i+1))=bF (eu m of time g (l.take i)) (ij m (fB of (l.getD i cx)) time (l.getD i cx)):=xU h
structure eC (m m':Mp):Prop where
 R:m'.R=m.R
 S:m'.S=m.S
 B:m'.B=m.B
 M:m'.M=m.M
 C:m'.C=m.C
 G:m'.G=m.G
 res:m'.res=m.res
theorem eC.rfl'(m:Mp):eC m m:=⟨rfl,rfl,rfl,rfl,rfl,rfl,rfl⟩
theorem eC.tr{a b c:Mp}(h:eC a b)(g:eC b c):eC a c:=⟨g.R.trans h.R,g.S.trans h.S,g.B.trans h.B,g.M.trans h.M,g.C.trans h.C,g.G.trans h.G,g.res.trans h.res⟩
theorem DC(r:Rp)(a:Ak):eC r.m (dc r a).m:=by
 unfold dc;cases a.k==1<;>cases du r.m<;>cases ei r.m<;>exact⟨rfl,rfl,rfl,rfl,rfl,rfl,rfl⟩
theorem nH(r:Rp)(a:Ak):eC r.m (bp r a).m:=by
 unfold bp;cases c6 r a
 ·cases r.j.A==0
  ·exact eC.rfl' _
  ·exact DC r a
 ·exact eC.rfl' _
theorem DD(r:Rp):eC r.m (jk r).m:=by
 unfold jk;cases r.j.A==1<;>exact⟨rfl,rfl,rfl,rfl,rfl,rfl,rfl⟩
theorem DE(s:Rp×List Ev):eC s.1.m (gU s).1.m:=by
 unfold gU;cases c6 (a1 s.1) (s.1.q.headD aH)
 ·exact DC (a1 s.1) _
 ·exact eC.rfl' _
theorem DF: ∀(n:Nat) (s:Rp×List Ev),eC s.1.m (eZ n s).1.m
 | 0,s=>eC.rfl' _
 | n+1,s=>by
  unfold eZ
  split
  ·exact(DE s).tr (DF n _)
  ·exact eC.rfl' _
theorem uG(r:Rp):eC r.m (fg r).1.m:=by
 unfold fg;cases kZ r.m (bE r).j
 ·exact eC.rfl' _
 ·exact(DD (bE r)).tr (DF _ (ae (bE r)))
theorem PK{r:Rp}{a:Ak}(h:a2 r)(c:ek r.m a):a2 (bp r a):=by
 unfold bp;cases hv:c6 r a
 ·rw[ALcf];cases r.j.A==0
  ·refine⟨h.m,h.j,λx b=>?_,?_,h.fr⟩
   ·have b:x∈py r.q a:=b;unfold py at b
    split at b
    ·exact h.q x b
    ·split at b
     ·exact h.q x b
     ·rcases List.mem_append.1 b with b | b
      ·exact h.q x b
      ·rw[List.mem_singleton.1 b];exact c
   ·show(py r.q a).length≤256;have:=h.n;unfold py
    split
    ·exact h.n
    ·split
     ·exact h.n
     ·rw[U1];show r.q.length+1≤256;omega
  ·exact CV h c hv
 ·exact h
theorem DG{r:Rp}{a:Ak}(h:a2 r)(d:ek r.m a)(of:Nat): ∀v∈fz r a,ik (r.m.R*r.m.B*r.m.M) r.m.R (fB of v) v:=by
 have i:=h.m.O.bd.r8;have e:=h.m.pg;have f:=h.m.rk;have g:=h.m.ly.rp;unfold fz;rcases d.k with⟨b,c⟩ | ⟨b,c⟩
 ·rw[b];show ∀v∈(bif du r.m then _ else _),_;cases hp:du r.m
  ·intro v hv;obtain rfl:=List.mem_singleton.1 hv;exact⟨.inr (.inl ⟨by rw[b];rfl,c,rfl,by rw[b]⟩)⟩
  ·intro v hv;obtain rfl:=List.mem_singleton.1 hv;refine⟨.inl ⟨rfl,c,.inl rfl,?_⟩⟩;show dV r.m<_;have:r.m.Q≠r.m.res:=by unfold du at hp;simpa using hp
   unfold dV;rw[ALifn this];show r.m.R*r.m.B*r.m.M-r.m.res+r.m.Q<_;omega
 ·rw[b];show ∀v∈(bif ei r.m then _ else _),_;cases hp:ei r.m
  ·intro v hv;obtain rfl:=List.mem_singleton.1 hv;exact⟨.inr (.inr (.inr ⟨by rw[b];rfl,c,rfl,by rw[b]⟩))⟩
  ·intro v hv;obtain rfl:=List.mem_singleton.1 hv;refine⟨.inr (.inr (.inl ⟨rfl,c,.inl rfl,?_⟩))⟩;show fy r.m<_;have:r.m.F≠r.m.S:=by unfold ei at hp;simpa using hp
   unfold fy;rw[ALifn this];omega
theorem pG{r:Rp}{a:Ak}(h:a2 r)(d:ek r.m a)(of:Nat): ∀v∈bU r a,ik (r.m.R*r.m.B*r.m.M) r.m.R (fB of v) v:=by
 unfold bU;cases c6 r a
 ·rw[ALcf];cases r.j.A==0
  ·rw[ALcf];cases uj r.q a==14
   ·intro v hv;cases hv
   ·intro v hv;obtain rfl:=List.mem_singleton.1 hv;rcases d.k with⟨b,c⟩ | ⟨b,c⟩
    ·exact⟨.inr (.inl ⟨by rw[b];rfl,c,rfl,by rw[b]⟩)⟩
    ·exact⟨.inr (.inr (.inr ⟨by rw[b];rfl,c,rfl,by rw[b]⟩))⟩
  ·exact DG h d of
 ·intro v hv;cases hv
theorem oG(r:Rp)(a:Ak):(bU r a).length≤1:=by
 unfold bU;cases c6 r a
 ·rw[ALcf];cases r.j.A==0
  ·rw[ALcf];cases uj r.q a==14
   ·exact Vc _
   ·exact Vg _
  ·rw[ALct,uu];exact Vg _
 ·exact Vc _
theorem PL{s:Rp×List Ev}(h:a2 s.1)(b:0<s.1.q.length)(of:Nat)(a: ∀v∈s.2,ik (s.1.m.R*s.1.m.B*s.1.m.M) s.1.m.R (fB of v) v): ∀v∈(gU s).2,ik (s.1.m.R*s.1.m.B*s.1.m.M) s.1.m.R (fB of v) v:=by
 unfold gU;cases c6 (a1 s.1) (s.1.q.headD aH)
 ·intro v hv;rcases List.mem_append.1 hv with hv | hv
  ·exact a v hv
  ·exact DG (r:=a1 s.1) (ur h) ⟨(ru h b).k⟩ of v hv
 ·exact a
theorem DH: ∀(n:Nat) (s:Rp×List Ev),n=s.1.q.length→a2 s.1→∀b,(∀v∈s.2,ik (s.1.m.R*s.1.m.B*s.1.m.M) s.1.m.R (fB b v) v)→a2 (eZ n s).1∧(eZ n s).2.length≤s.2.length+n∧∀v∈(eZ n s).2,ik (s.1.m.R*s.1.m.B*s.1.m.M) s.1.m.R (fB b v) v
 | 0,s,_,h,b,c=>⟨h,Vg _,c⟩
 | n+1,s,i,h,b,c=>by
  unfold eZ
  split
  ·have e:0<s.1.q.length:=by omega
   have a:=DE s;obtain⟨f,g,d⟩:=DH n (gU s) (by rw[xD,VG];omega) (xC h e) b (by rw[a.R,a.B,a.M];exact PL h e b c);rw[a.R,a.B,a.M] at d;exact⟨f,by have:=CY s;omega,d⟩
  ·exact⟨h,by omega,c⟩
theorem DI{r:Rp}(h:a2 r)(b:r.j.A≠0)(f:r.j.nx<gj r.j.A r.m.B r.m.M r.m.C):a2 (fg r).1∧(fg r).2.length≤257∧∀v∈(fg r).2,ik (r.m.R*r.m.B*r.m.M) r.m.R (fB r.j.A v) v:=by
 unfold fg;cases kZ r.m (bE r).j
 ·exact⟨uq h b f,Vc _,λv hv=>by cases hv⟩
 ·rw[ALct];have l:=uq h b f;have a:=DD (bE r);have i: ∀v∈(ae (bE r)).2,ik (r.m.R*r.m.B*r.m.M) r.m.R (fB r.j.A v) v:=by
   intro v hv;obtain rfl:=List.mem_singleton.1 hv;have w:=h.m.O.bd.r8;have n:=h.m.rk;rcases h.j.k with e | ⟨e,c⟩ | ⟨e,c⟩
   ·rw[e] at b;exact absurd rfl b
   ·rw[e];exact⟨.inl ⟨rfl,c.hf,.inr rfl,c.ht⟩⟩
   ·rw[e];refine⟨.inr (.inr (.inl ⟨rfl,c.hf,.inr rfl,?_⟩))⟩;have:=c.t1;show r.j.tg<8;omega
  obtain⟨g,o,d⟩:=DH (bE r).q.length (ae (bE r)) (by unfold ae jk;rfl) (um l b) r.j.A (by
   show ∀v∈(ae (bE r)).2,ik ((jk (bE r)).m.R*(jk (bE r)).m.B*(jk (bE r)).m.M) (jk (bE r)).m.R _ v;rw[a.R,a.B,a.M];exact i)
  have d: ∀v∈(cy (bE r)).2,ik ((jk (bE r)).m.R*(jk (bE r)).m.B*(jk (bE r)).m.M) (jk (bE r)).m.R (fB r.j.A v) v:=d;rw[a.R,a.B,a.M] at d;refine⟨g,?_,d⟩;have p:=h.n;have s:(bE r).q.length=r.q.length:=rfl;have u:(ae (bE r)).2.length=1:=rfl;show(eZ (bE r).q.length (ae (bE r))).2.length≤257;omega
theorem PM(of:Nat)(v:Ev):(((bif ((v.k:Nat):Int)==3 then 1 else(bif ((v.k:Nat):Int)==4 then 2 else(bif ((v.k:Nat):Int)==5 then 1+v.t else of))):Nat):Int)=((fB of v:Nat):Int):=by
 unfold fB;by_cases a:v.k=3
 ·rw[a];rfl
 by_cases b:v.k=4
 ·rw[b];rfl
 by_cases c:v.k=5
 ·rw[c];rfl
 have d:(((v.k:Nat):Int)==3)=false:=by rw[dR];omega
 have e:(((v.k:Nat):Int)==4)=false:=by rw[dR];omega
 have f:(((v.k:Nat):Int)==5)=false:=by rw[dR];omega
 rw[d,e,f,ALifn a,ALifn b,ALifn c];rfl
structure Le where
 r:Rp
 k:Tk
 g:Lg
 time:Nat
structure cH (s:Le) (K:Nat):Prop where
 r:a2 s.r
 k:dL s.k
 g:fA s.g
 n:s.g.next≤K
 rk:s.k.F.length=s.r.m.R
theorem cH.mono{s:Le}{K a:Nat}(h:cH s K)(b:K≤a):cH s a:=⟨h.r,h.k,h.g,U5 h.n b,h.rk⟩
def xV(of:Nat)(s:Le)(l:List Ev):Le:={s with k:=e3 of s.k l,g:=eu s.r.m of s.time s.g l}
theorem DJ{s:Le}{K:Nat}(h:cH s K)(of:Nat)(l:List Ev)(a:K+l.length≤1000000000):cH (xV of s l) (K+l.length):=by
 have b:=h.n;exact⟨h.r,xR of l h.k,xT _ of _ l h.g Om,by show(eu _ of _ s.g l).next≤_;rw[uF];omega,(xS of l s.k).trans h.rk⟩
def xW(s:Le)(x:Re):Le:={s with g:=bF s.g x}
theorem uH{s:Le}{K:Nat}(h:cH s K)(x:Re)(a:K+1≤1000000000):cH (xW s x) (K+1):=by
 have b:=h.n;exact⟨h.r,h.k,h.g.add x Om,by show(bF s.g x).next≤_;rw[ma];omega,h.rk⟩
def DK(s:Le)(r p n:Nat):Le:={s with k:=fk s.k r p n}
theorem xX{s:Le}{K:Nat}(h:cH s K){r:Nat}(p n:Nat)(a:r<s.r.m.R):cH (DK s r p n) K:=⟨h.r,h.k.note p n (by rw[h.rk];exact a),h.g,h.n,(PD ..).trans h.rk⟩
def uI(s:Le)(r:Rp):Le:={s with r:=r}
theorem oH{s:Le}{K:Nat}(h:cH s K){a:Ak}(b:ek s.r.m a):cH (uI s (bp s.r a)) K:=⟨PK h.r b,h.k,h.g,h.n,h.rk.trans (nH s.r a).R.symm⟩
def oI(s:Le)(a:Ak):Le:=xV a.k (uI s (bp s.r a)) (bU s.r a)
theorem uJ{s:Le}{K:Nat}(h:cH s K){a:Ak}(b:ek s.r.m a)(c:K+1≤1000000000):cH (oI s a) (K+1):=by
 have d:=oG s.r a;exact(DJ (oH h b) a.k (bU s.r a) Om).mono Om
theorem uK(s:Le)(a:Ak):eC s.r.m (oI s a).r.m:=nH s.r a
theorem ek.ly{m b:Mp}{a:Ak}(h:ek m a)(e:eC m b):ek b a:=⟨by rw[e.R,e.B,e.M];exact h.k⟩
theorem ik.ly{m a:Mp}{of:Nat}{v:Ev}(h:ik (m.R*m.B*m.M) m.R of v)(e:eC m a):ik (a.R*a.B*a.M) a.R of v:=by rw[e.R,e.B,e.M];exact h
def mb(s:Le)(b a w:Nat)(x:Re):Le:=DK (xW s x) b a w
def fK(s:Le)(b a w:Nat)(x:Re):Le:=bif cC s.k.lp (cX s.k.t a).l w then oI (mb s b a w x) ⟨1,a⟩ else mb s b a w x
def eR(s:Le)(a b w:Nat)(x:Re):Le:=bif cC s.k.lr (s.k.F.getD a bh).l w then oI (fK s a b w x) ⟨2,a⟩ else fK s a b w x
theorem DM{s:Le}{K b a w:Nat}(x:Re)(h:cH s K)(e:b<s.r.m.R)(d:a<s.r.m.R*s.r.m.B*s.r.m.M)(f:K+3≤1000000000):cH (fK s b a w x) (K+2):=by
 have c:=xX (uH h x Om) a w e;unfold fK;cases cC s.k.lp (cX s.k.t a).l w
 ·exact c.mono Om
 ·exact(uJ c ⟨.inl ⟨rfl,d⟩⟩ Om).mono Om
theorem uL(s:Le)(b a w:Nat)(x:Re):eC s.r.m (fK s b a w x).r.m:=by
 unfold fK;cases cC s.k.lp (cX s.k.t a).l w
 ·exact eC.rfl' _
 ·exact uK (mb s b a w x) _
theorem DN{s:Le}{K a b w:Nat}(x:Re)(h:cH s K)(d:a<s.r.m.R)(f:b<s.r.m.R*s.r.m.B*s.r.m.M)(e:K+3≤1000000000):cH (eR s a b w x) (K+3):=by
 have c:=DM (w:=w) x h d f e;unfold eR;cases cC s.k.lr (s.k.F.getD a bh).l w
 ·exact c.mono Om
 ·exact(uJ c ⟨.inr ⟨rfl,by rw[(uL s a b w x).R];exact d⟩⟩ Om).mono Om
theorem DO(s:Le)(a b w:Nat)(x:Re):eC s.r.m (eR s a b w x).r.m:=by
 unfold eR;cases cC s.k.lr (s.k.F.getD a bh).l w
 ·exact uL ..
 ·exact(uL s a b w x).tr (uK _ _)
structure Nt where
 k:Nat
 v:Nat
 f:Nat
 i:Nat
 h:Nat
 r:Nat
def di(heavy:Nat)(s:Le)(n:Nt):Le:=if n.v=0 then s else if n.v=1 then eR s n.r n.h 1 ⟨0,s.time,1,n.i,n.f⟩ else if n.v=2 then xW s ⟨0,s.time,2,n.i,1⟩ else eR s n.r n.h heavy ⟨0,s.time,2,n.i,0⟩
theorem PN(heavy:Nat)(s:Le)(n:Nt):eC s.r.m (di heavy s n).r.m:=by
 unfold di
 split
 ·exact eC.rfl' _
 split
 ·exact DO ..
 split
 ·exact eC.rfl' _
 ·exact DO ..
theorem PO{heavy K:Nat}{s:Le}{n:Nt}(h:cH s K)(c:n.r<s.r.m.R)(b:n.h<s.r.m.R*s.r.m.B*s.r.m.M)(a:K+3≤1000000000):cH (di heavy s n) (K+3):=by
 unfold di
 split
 ·exact h.mono Om
 split
 ·exact DN _ h c b a
 split
 ·exact(uH h _ Om).mono Om
 ·exact DN _ h c b a
def g5(s:Le):Le:=xV s.r.j.A (uI s (fg s.r).1) (fg s.r).2
theorem PQ{s:Le}{K:Nat}(h:cH s K)(c:s.r.j.A≠0)(d:s.r.j.nx<gj s.r.j.A s.r.m.B s.r.m.M s.r.m.C)(g:K+257≤1000000000):cH (g5 s) (K+257):=by
 obtain⟨a,e,f⟩:=DI h.r c d;have b:cH (uI s (fg s.r).1) K:=⟨a,h.k,h.g,h.n,h.rk.trans (uG s.r).R.symm⟩;exact(DJ b _ (fg s.r).2 Om).mono Om
theorem PR(s:Le):eC s.r.m (g5 s).r.m:=uG s.r
def DP(s:Le):Le:={s with k:=l8 s.k,time:=s.time+1}
def DQ(s:Le):Le:={s with g:=jD s.g}
theorem PS{s:Le}{K:Nat}(h:cH s K):cH (DP s) K:=⟨h.r,h.k.tick,h.g,h.n,(PF _).trans h.rk⟩
theorem PT{s:Le}{K:Nat}(h:cH s K):cH (DQ s) K:=⟨h.r,h.k,h.g.clear,h.n,h.rk⟩
end
theorem PU(j h f e l m n:Nat)(c:Cf)(time:Nat)(r:Rp)(o:a2 r)(k:Tk)(s:dL k)(g:Lg)(q:fA g)(of:Nat)(v:Ev)(hv:ik (r.m.R*r.m.B*r.m.M) r.m.R of v)(t:k.F.length=r.m.R):aa UZ 213 #[pt j 0,iN of,.agg #[iN v.k,iN v.f,iN v.t]] [ob j (lA c h f e time) 122,pk (aq h l m r),pk (aD f n k),pk (aA e g)] [1,2,3] (λ_=>[pk (aq h l m r),pk (aD f n (fW of k v)),pk (aA e (bF g (ij r.m of time v)))]) (λ_=> .tuple #[]):=by
 have u:=o.m.O.bd.r8;obtain⟨w,a,b⟩:=v;obtain⟨hv⟩:=hv;simp only at hv;rcases hv with⟨rfl,p,d,i⟩ | ⟨rfl,p,d,i⟩ | ⟨rfl,p,d,i⟩ | ⟨rfl,p,d,i⟩
 ·rcases d with rfl | rfl
  ·rw[show ij r.m 1 time ⟨3,a,b⟩=⟨0,time,3,bq r.m a*64,bq r.m b*64⟩ by simp [ij,nG],show fW 1 k ⟨3,a,b⟩=k by simp [fW]];exact Pr j h f e l m n c time r o k s g q a b p i
  ·rw[show ij r.m 1 time ⟨6,a,b⟩=⟨0,time,6,bq r.m a*64,bq r.m b*64⟩ by simp [ij,nG],show fW 1 k ⟨6,a,b⟩=pE k a by simp [fW]];exact Pt j h f e l m n c time r o k s g q a b p i
 ·subst d;subst i;rw[show ij r.m 1 time ⟨5,a,0⟩=⟨0,time,5,bq r.m a*64,0⟩ by simp [ij,nG],show fW 1 k ⟨5,a,0⟩=k by simp [fW]];exact Ps j h f e l m n c time r o k s g q a p
 ·rcases d with rfl | rfl
  ·rw[show ij r.m 2 time ⟨4,a,b⟩=⟨0,time,4,a*1048576,b*1048576⟩ by simp [ij,nG],show fW 2 k ⟨4,a,b⟩=k by simp [fW]];exact Pu j h f e l m n c time r o k s g q a b Om i
  ·rw[show ij r.m 2 time ⟨6,a,b⟩=⟨0,time,6,a*1048576,b*1048576⟩ by simp [ij,nG],show fW 2 k ⟨6,a,b⟩=oE k a by simp [fW]];exact Pw j h f e l m n c time r o k s g q a b Om i Om
 ·subst d;subst i;rw[show ij r.m 2 time ⟨5,a,1⟩=⟨0,time,5,a*1048576,1⟩ by simp [ij,nG],show fW 2 k ⟨5,a,1⟩=k by simp [fW]];exact Pv j h f e l m n c time r o k s g q a Om
theorem ik.tb{np n of:Nat}{v:Ev}(h:ik np n of v)(a:np≤4096):v.t<4096:=by
 obtain⟨h⟩:=h;omega
theorem oJ(m d b a n o j:Nat)(c:Cf)(time:Nat)(r:Rp)(I:a2 r)(k:Tk)(R:dL k)(g:Lg)(Q:fA g)(of:Nat)(v:Value)(l:List Ev)(V:l.length≤300)(T:g.next+l.length≤1000000000)(P: ∀e∈l,ik (r.m.R*r.m.B*r.m.M) r.m.R (fB of e) e)(G:k.F.length=r.m.R):aa UZ 166 #[pt m 0,iN of,v] [ob m (lA c d b a time) 122,pk (aq d n o r),pk (aD b j k),pk (aA a g),.p (aJ xA v l)] [1,2,3] (λ_=>[pk (aq d n o r),pk (aD b j (e3 of k l)),pk (aA a (eu r.m of time g l))]) (λ_=> .tuple #[]):=by
 refine fO Tryz.func166 4 rfl λh x=>fG Tryz.func166 λw cs=>r0 [(1,ey x.1 4)] [(9,v),(10,iN l.length),(11,i6 0)] [] ?_;refine lq (λi=>i≤l.length) (λi=>[(11,iN i)]) (λi L=>(L.set 2 ((pk (aD b j (e3 of k (l.take i)))))).set 3 ((pk (aA a (eu r.m of time g (l.take i)))))) (λi=>l.length-i) 0 Om Kr (by rw[Vs];kernel_rfl) (λi S=>?_);have K:=xR of (l.take i) R;have M:(l.take i).length≤l.length:=by rw[U7];omega
 have J:=xT r.m of time (l.take i) Q Om;have B:=(xS of (l.take i) k).trans G;refine r0 [] [(12,.bool (decide ((i:Int)<(l.length:Int))))] [] ?_;refine b4 (i:Int) (l.length:Int) (λO C=>?_) λO C=>?_
 ·have H:=(nF cx).2 P i Om;have N:=H.tb I.m.np;refine rr (λ_=>[(0,e7 x.1 4 i 3),(1,mG iK x.1 4 i 0 3),(3,.s 5)]) (λy=>[(7,pt (B2 y) 0)]) [] (λy L=>L++[ob (B2 y) #[iN ((l.getD i cx).k),iN ((l.getD i cx).f),iN ((l.getD i cx).t)] 349]) λy=>r0 [] [(8,iN of)] [] (r0 [(1,.l 5)] [(17,iN ((l.getD i cx).k))] [] (r0 [] [(18,.bool ((((l.getD i cx).k:Nat):Int)==3))] [] ?_));refine cJ ((((l.getD i cx).k:Nat):Int)==3) (λc=>[(8,iN (bif c then 1 else(bif (((l.getD i cx).k:Nat):Int)==4 then 2 else(bif (((l.getD i cx).k:Nat):Int)==5 then 1+((l.getD i cx).t) else of))))]) (λ_=>[ob m (lA c d b a time) 122,pk (aq d n o r),pk (aD b j (e3 of k (l.take i))),pk (aA a (eu r.m of time g (l.take i))),.c h,ob (B2 y) #[iN ((l.getD i cx).k),iN ((l.getD i cx).f),iN ((l.getD i cx).t)] 349]) (λF=>?_) (λF=>?_) ?_
  ·have D:=eq_of_beq F;refine r0 [] [(8,i6 1)] [8] ?_;exact cm Kr [0,1,2,3,4,5] Kr
  ·have D:=ne_of_beq_false F;refine r0 [] [(20,.bool ((((l.getD i cx).k:Nat):Int)==4))] [] ?_;refine cJ ((((l.getD i cx).k:Nat):Int)==4) (λc=>[(8,iN (bif c then 2 else(bif (((l.getD i cx).k:Nat):Int)==5 then 1+((l.getD i cx).t) else of)))]) (λ_=>[ob m (lA c d b a time) 122,pk (aq d n o r),pk (aD b j (e3 of k (l.take i))),pk (aA a (eu r.m of time g (l.take i))),.c h,ob (B2 y) #[iN ((l.getD i cx).k),iN ((l.getD i cx).f),iN ((l.getD i cx).t)] 349]) (λq=>?_) (λq=>?_) ?_
   ·have z:=eq_of_beq q;refine r0 [] [(8,i6 2)] [8] ?_;exact cm Kr [0,1,2,3,4,5] Kr
   ·have z:=ne_of_beq_false q;refine r0 [] [(22,.bool ((((l.getD i cx).k:Nat):Int)==5))] [] ?_;refine cJ ((((l.getD i cx).k:Nat):Int)==5) (λc=>[(8,iN (bif c then 1+((l.getD i cx).t) else of))]) (λ_=>[ob m (lA c d b a time) 122,pk (aq d n o r),pk (aD b j (e3 of k (l.take i))),pk (aA a (eu r.m of time g (l.take i))),.c h,ob (B2 y) #[iN ((l.getD i cx).k),iN ((l.getD i cx).f),iN ((l.getD i cx).t)] 349]) (λu=>?_) (λu=>?_) ?_
    ·have A:=eq_of_beq u;refine r0 [(1,.l 5),(2,ad 1 ((l.getD i cx).t))] [(8,iN (1+((l.getD i cx).t)))] [8] ?_;exact cm Kr [0,1,2,3,4,5] Kr
    ·have A:=ne_of_beq_false u;exact cm Kr [0,1,2,3,4,5] Kr
    exact cm Kr [0,1,2,3,4,5] Kr
   exact cm Kr [0,1,2,3,4,5] Kr
  exact rr (λ_=>[(1,.t (tk (show iN (bif (((l.getD i cx).k:Nat):Int)==3 then 1 else(bif (((l.getD i cx).k:Nat):Int)==4 then 2 else(bif (((l.getD i cx).k:Nat):Int)==5 then 1+((l.getD i cx).t) else of)))=iN (fB of (l.getD i cx)) from ALca (Value.int .i64) (PM of (l.getD i cx))))),(2,.l 5),(3,.c [0,1,2,3] [1,2,3] (PU m d b a n o j c time r I (e3 of k (l.take i)) K (eu r.m of time g (l.take i)) J (fB of (l.getD i cx)) (l.getD i cx) H B))]) N0 [] (λ_ L=>(L.set 2 ((pk (aD b j (fW (fB of (l.getD i cx)) (e3 of k (l.take i)) (l.getD i cx)))))).set 3 ((pk (aA a (bF (eu r.m of time g (l.take i)) (ij r.m (fB of (l.getD i cx)) time (l.getD i cx))))))) λU=>r0 [(0,ad i 1)] [(11,iN (i+1))] [11] (le (i+1) Om Om Kr [0,1,2,3,4] (by rw[PI Om,PJ Om];kernel_rfl))
 obtain rfl:i=l.length:=by omega
 refine cl [ob m (lA c d b a time) 122,pk (aq d n o r),pk (aD b j (e3 of k l)),pk (aA a (eu r.m of time g l)),.c h] (by rw[Vo];kernel_rfl) (lx ?_);exact eh ab.zero [1,2,3] [(0,0),(4,4)] []
theorem PV(q d b j n o p:Nat)(c:Cf)(s:Le)(K:Nat)(hs:cH s K)(hK:K+3≤1000000000)(Y:c.J≤65536)(i h a f:Nat)(A:a<s.r.m.R)(V:h<s.r.m.R*s.r.m.B*s.r.m.M):aa UZ 163 #[pt q 0,.agg #[i6 1,i6 1,iN f,iN i,iN h,iN a]] [ob q (lA c d b j s.time) 122,pk (aq d n o s.r),pk (aD b p s.k),pk (aA j s.g)] [1,2,3] (λ_=>[pk (aq d n o (eR s a h (1) ⟨0,s.time,1,i,f⟩).r),pk (aD b p (eR s a h (1) ⟨0,s.time,1,i,f⟩).k),pk (aA j (eR s a h (1) ⟨0,s.time,1,i,f⟩).g)]) (λ_=> .tuple #[]):=by
 have N:=hs.rk;have X:=hs.n;have U:=uH hs ⟨0,s.time,1,i,f⟩ Om;have z:=xX U h (1) A;have H:ek (mb s a h (1) ⟨0,s.time,1,i,f⟩).r.m ⟨1,h⟩:=⟨.inl ⟨rfl,V⟩⟩;have I:ek (mb s a h (1) ⟨0,s.time,1,i,f⟩).r.m ⟨2,a⟩:=⟨.inr ⟨rfl,A⟩⟩;have O:=oH z H;have R:=pG z.r H 1;have Z:=oG s.r ⟨1,h⟩;have F:=uJ z H Om;have P:=oH z I;have S:=pG z.r I 2;have l5:=oG s.r ⟨2,a⟩;have M:ek (oI (mb s a h (1) ⟨0,s.time,1,i,f⟩) ⟨1,h⟩).r.m ⟨2,a⟩:=I.ly (uK _ _);have Q:=oH F M;have T:=pG F.r M 2;have l6:=oG (bp s.r ⟨1,h⟩) ⟨2,a⟩;have y3:=nH s.r ⟨1,h⟩;have y5:=nH s.r ⟨2,a⟩;have y6:=nH (bp s.r ⟨1,h⟩) ⟨2,a⟩;have n3:(bF s.g ⟨0,s.time,1,i,f⟩).next+(bU s.r ⟨1,h⟩).length≤1000000000:=by rw[ma];omega
 have n5:(bF s.g ⟨0,s.time,1,i,f⟩).next+(bU s.r ⟨2,a⟩).length≤1000000000:=by rw[ma];omega
 have n6:(eu (bp s.r ⟨1,h⟩).m 1 s.time (bF s.g ⟨0,s.time,1,i,f⟩) (bU s.r ⟨1,h⟩)).next+(bU (bp s.r ⟨1,h⟩) ⟨2,a⟩).length≤1000000000:=by rw[uF,ma];omega
 have W:=A;refine fG Tryz.func163 λw cs=>ra (λD=>[(3,pt (B0 D) 0)]) (λD=>[ob (B0 D) #[i6 1,i6 1,iN f,iN i,iN h,iN a] 81]) λD=>r0 [] [(4,i6 0)] [] (r0 [(2,.l 4)] [(9,i6 1)] [] (rF [] 20 (rT [] 22 (r0 [] [(4,i6 1)] [4] (rs [(2,.l 4),(5,.l 4),(6,.c [0,3] [3] (mV q d b j c s.time s.g hs.g 1 i f))] 3 ((pk (aA j (bF s.g ⟨0,s.time,1,i,f⟩)))) (rr (λ_=>[(0,.v (pt q 0)),(1,.v (pt q 0)),(2,.v (pt q 17)),(3,.m (ld 0 (pt b 0))),(4,.v (pt (B0 D) 5)),(5,.m (ld 4 (iN a))),(6,.v (pt (B0 D) 4)),(7,.m (ld 4 (iN h))),(8,.v (i6 1)),(9,.c [2] [2] (Dp b p s.k hs.k a h 1 (by rw[N];exact A) Om)),(10,.v (.tuple #[.agg #[.bool (cC s.k.lr ((s.k.F.getD a bh).l) 1),.bool (cC s.k.lp ((cX s.k.t h).l) 1)],i6 0])),(11,.v (.agg #[.bool (cC s.k.lr ((s.k.F.getD a bh).l) 1),.bool (cC s.k.lp ((cX s.k.t h).l) 1)])),(12,.v (i6 0)),(13,.m (al 5)),(14,.s 5),(15,.v (i6 0))]) (λJ=>[(5,pt ((J 13).y 0) 0)]) [] (λJ L=>L.set 2 ((pk (aD b p (fk s.k a h 1))))++[ob ((J 13).y 0) #[.bool (cC s.k.lr ((s.k.F.getD a bh).l) 1),.bool (cC s.k.lp ((cX s.k.t h).l) 1)] 339]) λJ=>r0 [(1,.l 5)] [(51,.bool (cC s.k.lp ((cX s.k.t h).l) 1))] [] ?_))))));refine cB (cC s.k.lp ((cX s.k.t h).l) 1) (λt=>?_) λt=>?_
 ·refine rr (λu=>[(4,.l 0),(6,.l 4),(8,.c [1] [1,6] (pC d n o s.r (by exact hs.r) (⟨1,h⟩:Ak) (by exact H))),(9,.c [0,1,2,3,6] [1,2,3] (aa.at (rd':=[ob q (lA c d b j s.time) 122,pk (aq d n o (bp s.r (⟨1,h⟩:Ak))),pk (aD b p (fk s.k a h 1)),pk (aA j (bF s.g ⟨0,s.time,1,i,f⟩)),bf ((u 8).val 0) (bU s.r (⟨1,h⟩:Ak))]) (oJ q d b j n o p c s.time (bp s.r (⟨1,h⟩:Ak)) (by exact O.r) (fk s.k a h 1) (by exact z.k) (bF s.g ⟨0,s.time,1,i,f⟩) (by exact z.g) 1 ((u 8).val 0) (bU s.r (⟨1,h⟩:Ak)) (by exact U5 Z Dc) (by exact n3) (by exact λe G=>(R e G).ly y3) (by exact O.rk)) (aN (aN (aN (aN (bN (λ_ h=>ao.sq h) (λ_ h=>h))))))))]) N0 [] (λu L=>((L.set 1 ((pk (aq d n o (bp s.r (⟨1,h⟩:Ak)))))).set 2 ((pk (aD b p (e3 1 (fk s.k a h 1) (bU s.r (⟨1,h⟩:Ak))))))).set 3 ((pk (aA j (eu (bp s.r (⟨1,h⟩:Ak)).m 1 s.time (bF s.g ⟨0,s.time,1,i,f⟩) (bU s.r (⟨1,h⟩:Ak))))))++[bf ((u 8).val 0) (bU s.r (⟨1,h⟩:Ak))]) λu=>r0 [(1,.l 5)] [(63,.bool (cC s.k.lr ((s.k.F.getD a bh).l) 1))] [] ?_;refine cB (cC s.k.lr ((s.k.F.getD a bh).l) 1) (λB=>?_) λB=>?_
  ·refine rr (λx=>[(4,.l 0),(6,.l 4),(8,.c [1] [1,7] (pC d n o (bp s.r (⟨1,h⟩:Ak)) (by exact F.r) (⟨2,a⟩:Ak) (by exact M))),(9,.c [0,1,2,3,7] [1,2,3] (aa.at (rd':=[ob q (lA c d b j s.time) 122,pk (aq d n o (bp (bp s.r (⟨1,h⟩:Ak)) (⟨2,a⟩:Ak))),pk (aD b p (e3 1 (fk s.k a h 1) (bU s.r (⟨1,h⟩:Ak)))),pk (aA j (eu (bp s.r (⟨1,h⟩:Ak)).m 1 s.time (bF s.g ⟨0,s.time,1,i,f⟩) (bU s.r (⟨1,h⟩:Ak)))),bf ((x 8).val 0) (bU (bp s.r (⟨1,h⟩:Ak)) (⟨2,a⟩:Ak))]) (oJ q d b j n o p c s.time (bp (bp s.r (⟨1,h⟩:Ak)) (⟨2,a⟩:Ak)) (by exact Q.r) (e3 1 (fk s.k a h 1) (bU s.r (⟨1,h⟩:Ak))) (by exact F.k) (eu (bp s.r (⟨1,h⟩:Ak)).m 1 s.time (bF s.g ⟨0,s.time,1,i,f⟩) (bU s.r (⟨1,h⟩:Ak))) (by exact F.g) 2 ((x 8).val 0) (bU (bp s.r (⟨1,h⟩:Ak)) (⟨2,a⟩:Ak)) (by exact U5 l6 Dc) (by exact n6) (by exact λe G=>(T e G).ly y6) (by exact Q.rk)) (aN (aN (aN (aN (bN (λ_ h=>ao.sq h) (λ_ h=>h))))))))]) N0 [] (λx L=>((L.set 1 ((pk (aq d n o (bp (bp s.r (⟨1,h⟩:Ak)) (⟨2,a⟩:Ak)))))).set 2 ((pk (aD b p (e3 2 (e3 1 (fk s.k a h 1) (bU s.r (⟨1,h⟩:Ak))) (bU (bp s.r (⟨1,h⟩:Ak)) (⟨2,a⟩:Ak))))))).set 3 ((pk (aA j (eu (bp (bp s.r (⟨1,h⟩:Ak)) (⟨2,a⟩:Ak)).m 2 s.time (eu (bp s.r (⟨1,h⟩:Ak)).m 1 s.time (bF s.g ⟨0,s.time,1,i,f⟩) (bU s.r (⟨1,h⟩:Ak))) (bU (bp s.r (⟨1,h⟩:Ak)) (⟨2,a⟩:Ak))))))++[bf ((x 8).val 0) (bU (bp s.r (⟨1,h⟩:Ak)) (⟨2,a⟩:Ak))]) λx=>?_;exact eh ab.zero [1,2,3] [(0,0)] [] (hf:=by unfold eR fK;(repeat (first | rw[t] | rw[B] | rw[ALct]));kernel_rfl)
  exact eh ab.zero [1,2,3] [(0,0)] [] (hf:=by unfold eR fK;(repeat (first | rw[t] | rw[B] | rw[ALct] | rw[ALcf]));kernel_rfl)
 refine r0 [(1,.l 5)] [(63,.bool (cC s.k.lr ((s.k.F.getD a bh).l) 1))] [] ?_;refine cB (cC s.k.lr ((s.k.F.getD a bh).l) 1) (λC=>?_) λC=>?_
 ·refine rr (λy=>[(4,.l 0),(6,.l 4),(8,.c [1] [1,6] (pC d n o s.r (by exact hs.r) (⟨2,a⟩:Ak) (by exact I))),(9,.c [0,1,2,3,6] [1,2,3] (aa.at (rd':=[ob q (lA c d b j s.time) 122,pk (aq d n o (bp s.r (⟨2,a⟩:Ak))),pk (aD b p (fk s.k a h 1)),pk (aA j (bF s.g ⟨0,s.time,1,i,f⟩)),bf ((y 8).val 0) (bU s.r (⟨2,a⟩:Ak))]) (oJ q d b j n o p c s.time (bp s.r (⟨2,a⟩:Ak)) (by exact P.r) (fk s.k a h 1) (by exact z.k) (bF s.g ⟨0,s.time,1,i,f⟩) (by exact z.g) 2 ((y 8).val 0) (bU s.r (⟨2,a⟩:Ak)) (by exact U5 l5 Dc) (by exact n5) (by exact λe G=>(S e G).ly y5) (by exact P.rk)) (aN (aN (aN (aN (bN (λ_ h=>ao.sq h) (λ_ h=>h))))))))]) N0 [] (λy L=>((L.set 1 ((pk (aq d n o (bp s.r (⟨2,a⟩:Ak)))))).set 2 ((pk (aD b p (e3 2 (fk s.k a h 1) (bU s.r (⟨2,a⟩:Ak))))))).set 3 ((pk (aA j (eu (bp s.r (⟨2,a⟩:Ak)).m 2 s.time (bF s.g ⟨0,s.time,1,i,f⟩) (bU s.r (⟨2,a⟩:Ak))))))++[bf ((y 8).val 0) (bU s.r (⟨2,a⟩:Ak))]) λy=>?_;exact eh ab.zero [1,2,3] [(0,0)] [] (hf:=by unfold eR fK;(repeat (first | rw[t] | rw[C] | rw[ALct] | rw[ALcf]));kernel_rfl)
 exact eh ab.zero [1,2,3] [(0,0)] [] (hf:=by unfold eR fK;(repeat (first | rw[t] | rw[C] | rw[ALcf]));kernel_rfl)
theorem PW(q d b j n o p:Nat)(c:Cf)(s:Le)(K:Nat)(hs:cH s K)(hK:K+3≤1000000000)(Y:c.J≤65536)(i h a f:Nat)(A:a<s.r.m.R)(V:h<s.r.m.R*s.r.m.B*s.r.m.M):aa UZ 163 #[pt q 0,.agg #[i6 1,i6 3,iN f,iN i,iN h,iN a]] [ob q (lA c d b j s.time) 122,pk (aq d n o s.r),pk (aD b p s.k),pk (aA j s.g)] [1,2,3] (λ_=>[pk (aq d n o (eR s a h (c.J) ⟨0,s.time,2,i,0⟩).r),pk (aD b p (eR s a h (c.J) ⟨0,s.time,2,i,0⟩).k),pk (aA j (eR s a h (c.J) ⟨0,s.time,2,i,0⟩).g)]) (λ_=> .tuple #[]):=by
 have N:=hs.rk;have X:=hs.n;have U:=uH hs ⟨0,s.time,2,i,0⟩ Om;have z:=xX U h (c.J) A;have H:ek (mb s a h (c.J) ⟨0,s.time,2,i,0⟩).r.m ⟨1,h⟩:=⟨.inl ⟨rfl,V⟩⟩;have I:ek (mb s a h (c.J) ⟨0,s.time,2,i,0⟩).r.m ⟨2,a⟩:=⟨.inr ⟨rfl,A⟩⟩;have O:=oH z H;have R:=pG z.r H 1;have Z:=oG s.r ⟨1,h⟩;have F:=uJ z H Om;have P:=oH z I;have S:=pG z.r I 2;have l5:=oG s.r ⟨2,a⟩;have M:ek (oI (mb s a h (c.J) ⟨0,s.time,2,i,0⟩) ⟨1,h⟩).r.m ⟨2,a⟩:=I.ly (uK _ _);have Q:=oH F M;have T:=pG F.r M 2;have l6:=oG (bp s.r ⟨1,h⟩) ⟨2,a⟩;have y3:=nH s.r ⟨1,h⟩;have y5:=nH s.r ⟨2,a⟩;have y6:=nH (bp s.r ⟨1,h⟩) ⟨2,a⟩;have n3:(bF s.g ⟨0,s.time,2,i,0⟩).next+(bU s.r ⟨1,h⟩).length≤1000000000:=by rw[ma];omega
 have n5:(bF s.g ⟨0,s.time,2,i,0⟩).next+(bU s.r ⟨2,a⟩).length≤1000000000:=by rw[ma];omega
 have n6:(eu (bp s.r ⟨1,h⟩).m 1 s.time (bF s.g ⟨0,s.time,2,i,0⟩) (bU s.r ⟨1,h⟩)).next+(bU (bp s.r ⟨1,h⟩) ⟨2,a⟩).length≤1000000000:=by rw[uF,ma];omega
 have W:=A;refine fG Tryz.func163 λw cs=>ra (λD=>[(3,pt (B0 D) 0)]) (λD=>[ob (B0 D) #[i6 1,i6 3,iN f,iN i,iN h,iN a] 81]) λD=>r0 [] [(4,i6 0)] [] (r0 [(2,.l 4)] [(9,i6 3)] [] (rF [] 20 (rF [] 22 (rF [] 31 (r0 [(5,.l 0)] [(4,iN c.J)] [4] (rs [(2,.l 4),(3,.c [0,3] [3] (mV q d b j c s.time s.g hs.g 2 i 0))] 3 ((pk (aA j (bF s.g ⟨0,s.time,2,i,0⟩)))) (rr (λ_=>[(0,.v (pt q 0)),(1,.v (pt q 0)),(2,.v (pt q 17)),(3,.m (ld 0 (pt b 0))),(4,.v (pt (B0 D) 5)),(5,.m (ld 4 (iN a))),(6,.v (pt (B0 D) 4)),(7,.m (ld 4 (iN h))),(8,.v (iN c.J)),(9,.c [2] [2] (Dp b p s.k hs.k a h c.J (by rw[N];exact A) Om)),(10,.v (.tuple #[.agg #[.bool (cC s.k.lr ((s.k.F.getD a bh).l) c.J),.bool (cC s.k.lp ((cX s.k.t h).l) c.J)],i6 0])),(11,.v (.agg #[.bool (cC s.k.lr ((s.k.F.getD a bh).l) c.J),.bool (cC s.k.lp ((cX s.k.t h).l) c.J)])),(12,.v (i6 0)),(13,.m (al 5)),(14,.s 5),(15,.v (i6 0))]) (λJ=>[(5,pt ((J 13).y 0) 0)]) [] (λJ L=>L.set 2 ((pk (aD b p (fk s.k a h c.J))))++[ob ((J 13).y 0) #[.bool (cC s.k.lr ((s.k.F.getD a bh).l) c.J),.bool (cC s.k.lp ((cX s.k.t h).l) c.J)] 339]) λJ=>r0 [(1,.l 5)] [(51,.bool (cC s.k.lp ((cX s.k.t h).l) c.J))] [] ?_)))))));refine cB (cC s.k.lp ((cX s.k.t h).l) c.J) (λt=>?_) λt=>?_
 ·refine rr (λu=>[(4,.l 0),(6,.l 4),(8,.c [1] [1,6] (pC d n o s.r (by exact hs.r) (⟨1,h⟩:Ak) (by exact H))),(9,.c [0,1,2,3,6] [1,2,3] (aa.at (rd':=[ob q (lA c d b j s.time) 122,pk (aq d n o (bp s.r (⟨1,h⟩:Ak))),pk (aD b p (fk s.k a h c.J)),pk (aA j (bF s.g ⟨0,s.time,2,i,0⟩)),bf ((u 8).val 0) (bU s.r (⟨1,h⟩:Ak))]) (oJ q d b j n o p c s.time (bp s.r (⟨1,h⟩:Ak)) (by exact O.r) (fk s.k a h c.J) (by exact z.k) (bF s.g ⟨0,s.time,2,i,0⟩) (by exact z.g) 1 ((u 8).val 0) (bU s.r (⟨1,h⟩:Ak)) (by exact U5 Z Dc) (by exact n3) (by exact λe G=>(R e G).ly y3) (by exact O.rk)) (aN (aN (aN (aN (bN (λ_ h=>ao.sq h) (λ_ h=>h))))))))]) N0 [] (λu L=>((L.set 1 ((pk (aq d n o (bp s.r (⟨1,h⟩:Ak)))))).set 2 ((pk (aD b p (e3 1 (fk s.k a h c.J) (bU s.r (⟨1,h⟩:Ak))))))).set 3 ((pk (aA j (eu (bp s.r (⟨1,h⟩:Ak)).m 1 s.time (bF s.g ⟨0,s.time,2,i,0⟩) (bU s.r (⟨1,h⟩:Ak))))))++[bf ((u 8).val 0) (bU s.r (⟨1,h⟩:Ak))]) λu=>r0 [(1,.l 5)] [(63,.bool (cC s.k.lr ((s.k.F.getD a bh).l) c.J))] [] ?_;refine cB (cC s.k.lr ((s.k.F.getD a bh).l) c.J) (λB=>?_) λB=>?_
  ·refine rr (λx=>[(4,.l 0),(6,.l 4),(8,.c [1] [1,7] (pC d n o (bp s.r (⟨1,h⟩:Ak)) (by exact F.r) (⟨2,a⟩:Ak) (by exact M))),(9,.c [0,1,2,3,7] [1,2,3] (aa.at (rd':=[ob q (lA c d b j s.time) 122,pk (aq d n o (bp (bp s.r (⟨1,h⟩:Ak)) (⟨2,a⟩:Ak))),pk (aD b p (e3 1 (fk s.k a h c.J) (bU s.r (⟨1,h⟩:Ak)))),pk (aA j (eu (bp s.r (⟨1,h⟩:Ak)).m 1 s.time (bF s.g ⟨0,s.time,2,i,0⟩) (bU s.r (⟨1,h⟩:Ak)))),bf ((x 8).val 0) (bU (bp s.r (⟨1,h⟩:Ak)) (⟨2,a⟩:Ak))]) (oJ q d b j n o p c s.time (bp (bp s.r (⟨1,h⟩:Ak)) (⟨2,a⟩:Ak)) (by exact Q.r) (e3 1 (fk s.k a h c.J) (bU s.r (⟨1,h⟩:Ak))) (by exact F.k) (eu (bp s.r (⟨1,h⟩:Ak)).m 1 s.time (bF s.g ⟨0,s.time,2,i,0⟩) (bU s.r (⟨1,h⟩:Ak))) (by exact F.g) 2 ((x 8).val 0) (bU (bp s.r (⟨1,h⟩:Ak)) (⟨2,a⟩:Ak)) (by exact U5 l6 Dc) (by exact n6) (by exact λe G=>(T e G).ly y6) (by exact Q.rk)) (aN (aN (aN (aN (bN (λ_ h=>ao.sq h) (λ_ h=>h))))))))]) N0 [] (λx L=>((L.set 1 ((pk (aq d n o (bp (bp s.r (⟨1,h⟩:Ak)) (⟨2,a⟩:Ak)))))).set 2 ((pk (aD b p (e3 2 (e3 1 (fk s.k a h c.J) (bU s.r (⟨1,h⟩:Ak))) (bU (bp s.r (⟨1,h⟩:Ak)) (⟨2,a⟩:Ak))))))).set 3 ((pk (aA j (eu (bp (bp s.r (⟨1,h⟩:Ak)) (⟨2,a⟩:Ak)).m 2 s.time (eu (bp s.r (⟨1,h⟩:Ak)).m 1 s.time (bF s.g ⟨0,s.time,2,i,0⟩) (bU s.r (⟨1,h⟩:Ak))) (bU (bp s.r (⟨1,h⟩:Ak)) (⟨2,a⟩:Ak))))))++[bf ((x 8).val 0) (bU (bp s.r (⟨1,h⟩:Ak)) (⟨2,a⟩:Ak))]) λx=>?_;exact eh ab.zero [1,2,3] [(0,0)] [] (hf:=by unfold eR fK;(repeat (first | rw[t] | rw[B] | rw[ALct]));kernel_rfl)
  exact eh ab.zero [1,2,3] [(0,0)] [] (hf:=by unfold eR fK;(repeat (first | rw[t] | rw[B] | rw[ALct] | rw[ALcf]));kernel_rfl)
 refine r0 [(1,.l 5)] [(63,.bool (cC s.k.lr ((s.k.F.getD a bh).l) c.J))] [] ?_;refine cB (cC s.k.lr ((s.k.F.getD a bh).l) c.J) (λC=>?_) λC=>?_
 ·refine rr (λy=>[(4,.l 0),(6,.l 4),(8,.c [1] [1,6] (pC d n o s.r (by exact hs.r) (⟨2,a⟩:Ak) (by exact I))),(9,.c [0,1,2,3,6] [1,2,3] (aa.at (rd':=[ob q (lA c d b j s.time) 122,pk (aq d n o (bp s.r (⟨2,a⟩:Ak))),pk (aD b p (fk s.k a h c.J)),pk (aA j (bF s.g ⟨0,s.time,2,i,0⟩)),bf ((y 8).val 0) (bU s.r (⟨2,a⟩:Ak))]) (oJ q d b j n o p c s.time (bp s.r (⟨2,a⟩:Ak)) (by exact P.r) (fk s.k a h c.J) (by exact z.k) (bF s.g ⟨0,s.time,2,i,0⟩) (by exact z.g) 2 ((y 8).val 0) (bU s.r (⟨2,a⟩:Ak)) (by exact U5 l5 Dc) (by exact n5) (by exact λe G=>(S e G).ly y5) (by exact P.rk)) (aN (aN (aN (aN (bN (λ_ h=>ao.sq h) (λ_ h=>h))))))))]) N0 [] (λy L=>((L.set 1 ((pk (aq d n o (bp s.r (⟨2,a⟩:Ak)))))).set 2 ((pk (aD b p (e3 2 (fk s.k a h c.J) (bU s.r (⟨2,a⟩:Ak))))))).set 3 ((pk (aA j (eu (bp s.r (⟨2,a⟩:Ak)).m 2 s.time (bF s.g ⟨0,s.time,2,i,0⟩) (bU s.r (⟨2,a⟩:Ak))))))++[bf ((y 8).val 0) (bU s.r (⟨2,a⟩:Ak))]) λy=>?_;exact eh ab.zero [1,2,3] [(0,0)] [] (hf:=by unfold eR fK;(repeat (first | rw[t] | rw[C] | rw[ALct] | rw[ALcf]));kernel_rfl)
 exact eh ab.zero [1,2,3] [(0,0)] [] (hf:=by unfold eR fK;(repeat (first | rw[t] | rw[C] | rw[ALcf]));kernel_rfl)
theorem PX(g e d b j k m:Nat)(c:Cf)(s:Le)(K:Nat)(hs:cH s K)(i h n f:Nat):aa UZ 163 #[pt g 0,.agg #[i6 1,i6 0,iN f,iN i,iN h,iN n]] [ob g (lA c e d b s.time) 122,pk (aq e j k s.r),pk (aD d m s.k),pk (aA b s.g)] [1,2,3] (λ_=>[pk (aq e j k s.r),pk (aD d m s.k),pk (aA b s.g)]) (λ_=> .tuple #[]):=by
 exact fG Tryz.func163 λw cs=>ra (λa=>[(3,pt (B0 a) 0)]) (λa=>[ob (B0 a) #[i6 1,i6 0,iN f,iN i,iN h,iN n] 81]) λa=>r0 [] [(4,i6 0)] [] (r0 [(2,.l 4)] [(9,i6 0)] [] (rT [] 20 (lf ab.zero [1,2,3] [(0,0)] [])))
theorem PY(g d b a j k m:Nat)(c:Cf)(s:Le)(K:Nat)(hs:cH s K)(o:K+3≤1000000000)(i h n f:Nat):aa UZ 163 #[pt g 0,.agg #[i6 1,i6 2,iN f,iN i,iN h,iN n]] [ob g (lA c d b a s.time) 122,pk (aq d j k s.r),pk (aD b m s.k),pk (aA a s.g)] [1,2,3] (λ_=>[pk (aq d j k s.r),pk (aD b m s.k),pk (aA a (bF s.g ⟨0,s.time,2,i,1⟩))]) (λ_=> .tuple #[]):=by
 exact fG Tryz.func163 λw cs=>ra (λe=>[(3,pt (B0 e) 0)]) (λe=>[ob (B0 e) #[i6 1,i6 2,iN f,iN i,iN h,iN n] 81]) λe=>r0 [] [(4,i6 0)] [] (r0 [(2,.l 4)] [(9,i6 2)] [] (rF [] 20 (rF [] 22 (rT [] 31 (rs [(2,.l 4),(3,.c [0,3] [3] (mV g d b a c s.time s.g hs.g 2 i 1))] 3 ((pk (aA a (bF s.g ⟨0,s.time,2,i,1⟩)))) (lf ab.zero [1,2,3] [(0,0)] []))))))
theorem DR(m:Nat)(a:m=1∨m=2):aa UZ 75 #[iN m] [] [] N0 (λ_=>iN (aV (m:Int))):=by
 rcases a with rfl | rfl
 ·exact tM
 ·exact tN
theorem DS(m:Nat)(a:m=1∨m=2):aa UZ 192 #[iN m] [] [] N0 (λ_=>iN (dG (m:Int))):=by
 rcases a with rfl | rfl
 ·exact xa
 ·exact xb
structure Fa where
 x0:Int
 x1:Int
 x2:Int
 x3:Int
 x4:Int
 x5:Int
 x6:Int
 x7:Int
def bZ:Fa:=⟨0,0,0,0,0,0,0,0⟩
def oK(x:Fa):List Value:=[i6 x.x0,i6 x.x1,i6 x.x2,i6 x.x3,i6 x.x4,i6 x.x5,i6 x.x6,i6 x.x7]
def k5:Kd UZ Fa:=⟨oK,[i6 0,i6 0,i6 0,i6 0,i6 0,i6 0,i6 0,i6 0],93,48,bZ,8,λ_=>rfl,rfl,λ_=>rfl,dS.mk' Kr Kr rfl⟩
abbrev de(v:Value)(xs:List Fa):aB:= .p (ao oK ([i6 0,i6 0,i6 0,i6 0,i6 0,i6 0,i6 0,i6 0]) 48 v xs)
theorem xY(i n:Int):aa UZ 74 #[i6 i,i6 n] [] [] N0 (λ_=> .bool (bR i n)):=by
 exact fG Tryz.func74 λw cs=>r0 [] [(4,.bool false)] [] (r0 [] [(4,.bool ((decide (0≤i))&&(decide (i<n))))] [4] (ak (.bool ((decide (0≤i))&&(decide (i<n)))) ab.zero a7 [] [] []))
def jZ(f:Fa):Bool:=(decide (2≤f.x0))&&(decide (f.x0≤5))
theorem DT(f:Fa):aa UZ 169 #[.agg #[i6 f.x0,i6 f.x1,i6 f.x2,i6 f.x3,i6 f.x4,i6 f.x5,i6 f.x6,i6 f.x7]] [] [] N0 (λ_=> .bool (jZ f)):=by
 exact fG Tryz.func169 λw cs=>ra (λa=>[(1,pt (B0 a) 0),(2,.bool false)]) (λa=>[ob (B0 a) #[i6 f.x0,i6 f.x1,i6 f.x2,i6 f.x3,i6 f.x4,i6 f.x5,i6 f.x6,i6 f.x7] 48]) λa=>r0 [(1,.l 0),(5,.l 0)] [(2,.bool ((decide (2≤f.x0))&&(decide (f.x0≤5))))] [2] (ak (.bool ((decide (2≤f.x0))&&(decide (f.x0≤5)))) ab.zero a7 [] [] [])
def k6(f:Fa)(a b c d:Int):Bool:=(bif (bif f.x0==1 then f.x0==1 else f.x0==2) then(a==f.x1&&(b==f.x2&&(c==f.x3&&(d==f.x4&&true)))) else(bif f.x0==3 then(a==f.x1&&(b==f.x2&&(c==f.x3&&(f.x4==f.x4&&true)))) else(bif f.x0==4 then(a==f.x1&&(b==f.x2&&(f.x3==f.x3&&(d==f.x4&&true)))) else(bif f.x0==5 then a==f.x1 else false))))
theorem PZ(f:Fa)(a b i j:Int):aa UZ 69 #[.agg #[i6 f.x0,i6 f.x1,i6 f.x2,i6 f.x3,i6 f.x4,i6 f.x5,i6 f.x6,i6 f.x7],.agg #[i6 a,i6 b,i6 i,i6 j]] [] [] N0 (λ_=> .bool (k6 f a b i j)):=by
 refine fG Tryz.func69 λw cs=>ra (λg=>[(2,pt (B0 g) 0),(3,pt (B1 g) 0),(4,.bool false)]) (λg=>[ob (B0 g) #[i6 f.x0,i6 f.x1,i6 f.x2,i6 f.x3,i6 f.x4,i6 f.x5,i6 f.x6,i6 f.x7] 48,ob (B1 g) #[i6 a,i6 b,i6 i,i6 j] 46]) λg=>rr (λ_=>[(1,.l 0),(3,.s 2)]) (λq=>[(5,pt (B2 q) 0)]) [] (λq L=>L++[ob (B2 q) #[i6 f.x1,i6 f.x2,i6 f.x3,i6 f.x4] 46]) λq=>r0 [(1,.l 0)] [(9,i6 f.x0)] [] (r0 [] [(10,.bool (f.x0==1))] [] ?_);refine cJ (f.x0==1) (λc=>[(10,.bool (bif c then f.x0==1 else f.x0==2))]) (λ_=>[ob (B0 g) #[i6 f.x0,i6 f.x1,i6 f.x2,i6 f.x3,i6 f.x4,i6 f.x5,i6 f.x6,i6 f.x7] 48,ob (B1 g) #[i6 a,i6 b,i6 i,i6 j] 46,ob (B2 q) #[i6 f.x1,i6 f.x2,i6 f.x3,i6 f.x4] 46]) (λt=>?_) (λt=>?_) ?_
 ·have r:=eq_of_beq t;exact cm Kr [0,1,2] Kr
 ·have r:=ne_of_beq_false t;refine r0 [] [(10,.bool (f.x0==2))] [10] ?_;exact cm Kr [0,1,2] Kr
 refine cB ((bif f.x0==1 then f.x0==1 else f.x0==2)) (λm=>?_) λm=>?_
 ·exact r0 [(0,.l 1),(1,.l 2),(2,.e)] [(4,.bool (a==f.x1&&(b==f.x2&&(i==f.x3&&(j==f.x4&&true)))))] [4] (ak (.bool (a==f.x1&&(b==f.x2&&(i==f.x3&&(j==f.x4&&true))))) ab.zero (by((try simp only[k6]);(repeat (first | rw[m] | rw[ALct])))<;>rfl) [] [] [])
 refine r0 [] [(16,.bool (f.x0==3))] [] ?_;refine cD f.x0 3 (λd n=>?_) λd n=>?_
 ·exact rr (λ_=>[(1,.l 2),(3,.s 1)]) N0 [] (λ_ L=>L.set 1 (ob (B1 g) #[i6 a,i6 b,i6 i,i6 f.x4] 46)) λu=>r0 [(0,.l 1),(1,.l 2),(2,.e)] [(4,.bool (a==f.x1&&(b==f.x2&&(i==f.x3&&(f.x4==f.x4&&true)))))] [4] (ak (.bool (a==f.x1&&(b==f.x2&&(i==f.x3&&(f.x4==f.x4&&true))))) ab.zero (by((try simp only[k6]);(repeat (first | rw[m] | rw[d] | rw[ALct] | rw[ALcf])))<;>rfl) [] [] [])
 refine r0 [] [(24,.bool (f.x0==4))] [] ?_;refine cD f.x0 4 (λh o=>?_) λh o=>?_
 ·exact rr (λ_=>[(1,.l 2),(3,.s 1)]) N0 [] (λ_ L=>L.set 1 (ob (B1 g) #[i6 a,i6 b,i6 f.x3,i6 j] 46)) λv=>r0 [(0,.l 1),(1,.l 2),(2,.e)] [(4,.bool (a==f.x1&&(b==f.x2&&(f.x3==f.x3&&(j==f.x4&&true)))))] [4] (ak (.bool (a==f.x1&&(b==f.x2&&(f.x3==f.x3&&(j==f.x4&&true))))) ab.zero (by((try simp only[k6]);(repeat (first | rw[m] | rw[d] | rw[h] | rw[ALct] | rw[ALcf])))<;>rfl) [] [] [])
 refine r0 [] [(32,.bool (f.x0==5))] [] ?_;refine cD f.x0 5 (λk p=>?_) λk p=>?_
 ·exact r0 [(1,.l 1),(3,.l 2)] [(4,.bool (a==f.x1))] [4] (ak (.bool (a==f.x1)) ab.zero (by((try simp only[k6]);(repeat (first | rw[m] | rw[d] | rw[h] | rw[k] | rw[ALct] | rw[ALcf])))<;>rfl) [] [] [])
 exact r0 [] [(4,.bool false)] [4] (ak (.bool false) ab.zero (by((try simp only[k6]);(repeat (first | rw[m] | rw[d] | rw[h] | rw[k] | rw[ALcf])))<;>rfl) [] [] [])
def iL(f:Fa):Int:=(bif f.x0==1 then f.x1 else(bif f.x0==2 then f.x1 else(bif f.x0==3 then f.x1 else(bif f.x0==4 then f.x1 else(bif f.x0==5 then f.x1 else(bif f.x0==7 then 0 else f.x1))))))
def iM(f:Fa):Int:=(bif f.x0==1 then(bif f.x0==3 then f.x2 else(bif f.x0==4 then f.x2 else(bif f.x0==5 then 0 else f.x2))) else(bif f.x0==2 then(bif f.x0==3 then f.x2 else(bif f.x0==4 then f.x2 else(bif f.x0==5 then 0 else f.x2))) else(bif f.x0==3 then f.x2 else(bif f.x0==4 then f.x2 else(bif f.x0==5 then 0 else(bif f.x0==7 then 0 else f.x2))))))
def iO(f:Fa):Int:=(bif f.x0==1 then(bif f.x0==3 then f.x3 else(bif f.x0==4 then 0 else(bif f.x0==5 then 0 else f.x3))) else(bif f.x0==2 then(bif f.x0==3 then f.x3 else(bif f.x0==4 then 0 else(bif f.x0==5 then 0 else f.x3))) else(bif f.x0==3 then f.x3 else(bif f.x0==4 then 0 else(bif f.x0==5 then 0 else(bif f.x0==7 then 0 else f.x3))))))
def iP(f:Fa):Int:=(bif f.x0==1 then(bif f.x0==3 then 0 else(bif f.x0==4 then f.x4 else(bif f.x0==5 then 0 else f.x4))) else(bif f.x0==2 then(bif f.x0==3 then 0 else(bif f.x0==4 then f.x4 else(bif f.x0==5 then 0 else f.x4))) else(bif f.x0==3 then 0 else(bif f.x0==4 then f.x4 else(bif f.x0==5 then 0 else(bif f.x0==7 then 0 else f.x4))))))
def iQ(f:Fa):Int:=(bif f.x0==1 then 0 else(bif f.x0==2 then 0 else(bif f.x0==3 then f.x5 else(bif f.x0==4 then f.x5 else(bif f.x0==5 then f.x5 else 0)))))
def iR(f:Fa):Int:=(bif f.x0==1 then f.x6 else(bif f.x0==2 then f.x6 else 0))
def iS(f:Fa):Int:=(bif f.x0==1 then 0 else(bif f.x0==2 then f.x7 else(bif f.x0==3 then f.x7 else(bif f.x0==4 then f.x7 else(bif f.x0==5 then f.x7 else 0)))))
theorem P0(f:Fa):aa UZ 72 #[.agg #[i6 f.x0,i6 f.x1,i6 f.x2,i6 f.x3,i6 f.x4,i6 f.x5,i6 f.x6,i6 f.x7]] [] [] N0 (λ_=> .agg #[i6 f.x0,i6 (iL f),i6 (iM f),i6 (iO f),i6 (iP f),i6 (iQ f),i6 (iR f),i6 (iS f)]):=by
 refine fG Tryz.func72 λw cs=>ra (λd=>[(1,pt (B0 d) 0),(2,pt (B1 d) 0)]) (λd=>[ob (B0 d) #[i6 f.x0,i6 f.x1,i6 f.x2,i6 f.x3,i6 f.x4,i6 f.x5,i6 f.x6,i6 f.x7] 48,ob (B1 d) #[i6 0,i6 0,i6 0,i6 0,i6 0,i6 0,i6 0,i6 0] 48]) λd=>rr (λ_=>[(1,.l 0),(3,.l 0),(6,.s 2)]) (λe=>[(3,pt (B5 e) 0)]) [] (λe L=>L++[ob (B5 e) #[i6 f.x0,i6 f.x1,i6 f.x2,i6 f.x3,i6 f.x4,i6 0,i6 0,i6 0] 48]) λe=>r0 [(1,.l 0)] [(10,i6 f.x0)] [] (r0 [] [(11,.bool (f.x0==1))] [] ?_);refine cD f.x0 1 (λh D=>?_) λh D=>?_
 ·refine rr (λ_=>[(1,.l 0),(3,.s 2)]) N0 [] (λ_ L=>L.set 2 (ob (B5 e) #[i6 f.x0,i6 f.x1,i6 f.x2,i6 f.x3,i6 f.x4,i6 0,i6 f.x6,i6 0] 48)) λQ=>r0 [(1,.l 0)] [(39,i6 f.x0)] [] (r0 [] [(40,.bool (f.x0==3))] [] ?_);refine cD f.x0 3 (λC F=>?_) λC F=>?_
  ·exact rr (λ_=>[(2,.s 2)]) N0 [] (λ_ L=>L.set 2 (ob (B5 e) #[i6 f.x0,i6 f.x1,i6 f.x2,i6 f.x3,i6 0,i6 0,i6 f.x6,i6 0] 48)) λG=>rs [(0,.l 2),(1,.s 1)] 1 (ob (B1 d) #[i6 f.x0,i6 f.x1,i6 f.x2,i6 f.x3,i6 0,i6 0,i6 f.x6,i6 0] 48) (ak (.agg #[i6 f.x0,i6 f.x1,i6 f.x2,i6 f.x3,i6 0,i6 0,i6 f.x6,i6 0]) ab.zero (by((try simp only[iL,iM,iO,iP,iQ,iR,iS]);(repeat (first | rw[h] | rw[C] | rw[ALct])))<;>rfl) [] [] [1])
  refine r0 [] [(44,.bool (f.x0==4))] [] ?_;refine cD f.x0 4 (λj p=>?_) λj p=>?_
  ·exact rr (λ_=>[(2,.s 2)]) N0 [] (λ_ L=>L.set 2 (ob (B5 e) #[i6 f.x0,i6 f.x1,i6 f.x2,i6 0,i6 f.x4,i6 0,i6 f.x6,i6 0] 48)) λH=>rs [(0,.l 2),(1,.s 1)] 1 (ob (B1 d) #[i6 f.x0,i6 f.x1,i6 f.x2,i6 0,i6 f.x4,i6 0,i6 f.x6,i6 0] 48) (ak (.agg #[i6 f.x0,i6 f.x1,i6 f.x2,i6 0,i6 f.x4,i6 0,i6 f.x6,i6 0]) ab.zero (by((try simp only[iL,iM,iO,iP,iQ,iR,iS]);(repeat (first | rw[h] | rw[C] | rw[j] | rw[ALct] | rw[ALcf])))<;>rfl) [] [] [1])
  refine r0 [] [(48,.bool (f.x0==5))] [] ?_;refine cD f.x0 5 (λm q=>?_) λm q=>?_
  ·exact rr (λ_=>[(2,.l 0),(5,.s 2)]) N0 [] (λ_ L=>L.set 2 (ob (B5 e) #[i6 f.x0,i6 f.x1,i6 0,i6 0,i6 0,i6 0,i6 f.x6,i6 0] 48)) λI=>rs [(0,.l 2),(1,.s 1)] 1 (ob (B1 d) #[i6 f.x0,i6 f.x1,i6 0,i6 0,i6 0,i6 0,i6 f.x6,i6 0] 48) (ak (.agg #[i6 f.x0,i6 f.x1,i6 0,i6 0,i6 0,i6 0,i6 f.x6,i6 0]) ab.zero (by((try simp only[iL,iM,iO,iP,iQ,iR,iS]);(repeat (first | rw[h] | rw[C] | rw[j] | rw[m] | rw[ALct] | rw[ALcf])))<;>rfl) [] [] [1])
  exact rs [(0,.l 2),(1,.s 1)] 1 (ob (B1 d) #[i6 f.x0,i6 f.x1,i6 f.x2,i6 f.x3,i6 f.x4,i6 0,i6 f.x6,i6 0] 48) (ak (.agg #[i6 f.x0,i6 f.x1,i6 f.x2,i6 f.x3,i6 f.x4,i6 0,i6 f.x6,i6 0]) ab.zero (by((try simp only[iL,iM,iO,iP,iQ,iR,iS]);(repeat (first | rw[h] | rw[C] | rw[j] | rw[m] | rw[ALct] | rw[ALcf])))<;>rfl) [] [] [1])
 refine r0 [] [(16,.bool (f.x0==2))] [] ?_;refine cD f.x0 2 (λb r=>?_) λb r=>?_
 ·refine rr (λ_=>[(1,.l 0),(3,.l 0),(5,.s 2),(7,.s 2)]) N0 [] (λ_ L=>L.set 2 (ob (B5 e) #[i6 f.x0,i6 f.x1,i6 f.x2,i6 f.x3,i6 f.x4,i6 0,i6 f.x6,i6 f.x7] 48)) λJ=>r0 [(1,.l 0)] [(39,i6 f.x0)] [] (r0 [] [(40,.bool (f.x0==3))] [] ?_);refine cD f.x0 3 (λi u=>?_) λi u=>?_
  ·exact rr (λ_=>[(2,.s 2)]) N0 [] (λ_ L=>L.set 2 (ob (B5 e) #[i6 f.x0,i6 f.x1,i6 f.x2,i6 f.x3,i6 0,i6 0,i6 f.x6,i6 f.x7] 48)) λK=>rs [(0,.l 2),(1,.s 1)] 1 (ob (B1 d) #[i6 f.x0,i6 f.x1,i6 f.x2,i6 f.x3,i6 0,i6 0,i6 f.x6,i6 f.x7] 48) (ak (.agg #[i6 f.x0,i6 f.x1,i6 f.x2,i6 f.x3,i6 0,i6 0,i6 f.x6,i6 f.x7]) ab.zero (by((try simp only[iL,iM,iO,iP,iQ,iR,iS]);(repeat (first | rw[h] | rw[b] | rw[i] | rw[ALct] | rw[ALcf])))<;>rfl) [] [] [1])
  refine r0 [] [(44,.bool (f.x0==4))] [] ?_;refine cD f.x0 4 (λk v=>?_) λk v=>?_
  ·exact rr (λ_=>[(2,.s 2)]) N0 [] (λ_ L=>L.set 2 (ob (B5 e) #[i6 f.x0,i6 f.x1,i6 f.x2,i6 0,i6 f.x4,i6 0,i6 f.x6,i6 f.x7] 48)) λM=>rs [(0,.l 2),(1,.s 1)] 1 (ob (B1 d) #[i6 f.x0,i6 f.x1,i6 f.x2,i6 0,i6 f.x4,i6 0,i6 f.x6,i6 f.x7] 48) (ak (.agg #[i6 f.x0,i6 f.x1,i6 f.x2,i6 0,i6 f.x4,i6 0,i6 f.x6,i6 f.x7]) ab.zero (by((try simp only[iL,iM,iO,iP,iQ,iR,iS]);(repeat (first | rw[h] | rw[b] | rw[i] | rw[k] | rw[ALct] | rw[ALcf])))<;>rfl) [] [] [1])
  refine r0 [] [(48,.bool (f.x0==5))] [] ?_;refine cD f.x0 5 (λn x=>?_) λn x=>?_
  ·exact rr (λ_=>[(2,.l 0),(5,.s 2)]) N0 [] (λ_ L=>L.set 2 (ob (B5 e) #[i6 f.x0,i6 f.x1,i6 0,i6 0,i6 0,i6 0,i6 f.x6,i6 f.x7] 48)) λN=>rs [(0,.l 2),(1,.s 1)] 1 (ob (B1 d) #[i6 f.x0,i6 f.x1,i6 0,i6 0,i6 0,i6 0,i6 f.x6,i6 f.x7] 48) (ak (.agg #[i6 f.x0,i6 f.x1,i6 0,i6 0,i6 0,i6 0,i6 f.x6,i6 f.x7]) ab.zero (by((try simp only[iL,iM,iO,iP,iQ,iR,iS]);(repeat (first | rw[h] | rw[b] | rw[i] | rw[k] | rw[n] | rw[ALct] | rw[ALcf])))<;>rfl) [] [] [1])
  exact rs [(0,.l 2),(1,.s 1)] 1 (ob (B1 d) #[i6 f.x0,i6 f.x1,i6 f.x2,i6 f.x3,i6 f.x4,i6 0,i6 f.x6,i6 f.x7] 48) (ak (.agg #[i6 f.x0,i6 f.x1,i6 f.x2,i6 f.x3,i6 f.x4,i6 0,i6 f.x6,i6 f.x7]) ab.zero (by((try simp only[iL,iM,iO,iP,iQ,iR,iS]);(repeat (first | rw[h] | rw[b] | rw[i] | rw[k] | rw[n] | rw[ALct] | rw[ALcf])))<;>rfl) [] [] [1])
 refine r0 [] [(24,.bool (f.x0==3))] [] ?_;refine cD f.x0 3 (λa y=>?_) λa y=>?_
 ·exact cT (f.x0==3) a (rs [(1,.l 0),(3,.l 0),(5,.s 2),(7,.s 2)] 2 (ob (B5 e) #[i6 f.x0,i6 f.x1,i6 f.x2,i6 f.x3,i6 f.x4,i6 f.x5,i6 0,i6 f.x7] 48) (r0 [(1,.l 0)] [(39,i6 f.x0)] [] (rT [(0,.t (tk (show Value.bool (f.x0==3)= .bool true from ALca Value.bool a)))] 40 (rs [(2,.s 2)] 2 (ob (B5 e) #[i6 f.x0,i6 f.x1,i6 f.x2,i6 f.x3,i6 0,i6 f.x5,i6 0,i6 f.x7] 48) (rs [(0,.l 2),(1,.s 1)] 1 (ob (B1 d) #[i6 f.x0,i6 f.x1,i6 f.x2,i6 f.x3,i6 0,i6 f.x5,i6 0,i6 f.x7] 48) (ak (.agg #[i6 f.x0,i6 f.x1,i6 f.x2,i6 f.x3,i6 0,i6 f.x5,i6 0,i6 f.x7]) ab.zero (by((try simp only[iL,iM,iO,iP,iQ,iR,iS]);(repeat (first | rw[h] | rw[b] | rw[a] | rw[ALct] | rw[ALcf])))<;>rfl) [] [] [1]))))))
 refine r0 [] [(24,.bool (f.x0==4))] [24] ?_;refine cD f.x0 4 (λc z=>?_) λc z=>?_
 ·exact cT (f.x0==4) c (rs [(1,.l 0),(3,.l 0),(5,.s 2),(7,.s 2)] 2 (ob (B5 e) #[i6 f.x0,i6 f.x1,i6 f.x2,i6 f.x3,i6 f.x4,i6 f.x5,i6 0,i6 f.x7] 48) (r0 [(1,.l 0)] [(39,i6 f.x0)] [] (rF [(0,.t (tk (show Value.bool (f.x0==3)= .bool false from ALca Value.bool a)))] 40 (rT [(0,.t (tk (show Value.bool (f.x0==4)= .bool true from ALca Value.bool c)))] 44 (rs [(2,.s 2)] 2 (ob (B5 e) #[i6 f.x0,i6 f.x1,i6 f.x2,i6 0,i6 f.x4,i6 f.x5,i6 0,i6 f.x7] 48) (rs [(0,.l 2),(1,.s 1)] 1 (ob (B1 d) #[i6 f.x0,i6 f.x1,i6 f.x2,i6 0,i6 f.x4,i6 f.x5,i6 0,i6 f.x7] 48) (ak (.agg #[i6 f.x0,i6 f.x1,i6 f.x2,i6 0,i6 f.x4,i6 f.x5,i6 0,i6 f.x7]) ab.zero (by((try simp only[iL,iM,iO,iP,iQ,iR,iS]);(repeat (first | rw[h] | rw[b] | rw[a] | rw[c] | rw[ALct] | rw[ALcf])))<;>rfl) [] [] [1])))))))
 refine r0 [] [(24,.bool (f.x0==5))] [24] ?_;refine cD f.x0 5 (λg A=>?_) λg A=>?_
 ·exact rr (λ_=>[(1,.l 0),(3,.l 0),(5,.s 2),(7,.s 2)]) N0 [] (λ_ L=>L.set 2 (ob (B5 e) #[i6 f.x0,i6 f.x1,i6 f.x2,i6 f.x3,i6 f.x4,i6 f.x5,i6 0,i6 f.x7] 48)) λO=>r0 [(1,.l 0)] [(39,i6 f.x0)] [] (rF [(0,.t (tk (show Value.bool (f.x0==3)= .bool false from ALca Value.bool a)))] 40 (rF [(0,.t (tk (show Value.bool (f.x0==4)= .bool false from ALca Value.bool c)))] 44 (rT [(0,.t (tk (show Value.bool (f.x0==5)= .bool true from ALca Value.bool g)))] 48 (rs [(2,.l 0),(5,.s 2)] 2 (ob (B5 e) #[i6 f.x0,i6 f.x1,i6 0,i6 0,i6 0,i6 f.x5,i6 0,i6 f.x7] 48) (rs [(0,.l 2),(1,.s 1)] 1 (ob (B1 d) #[i6 f.x0,i6 f.x1,i6 0,i6 0,i6 0,i6 f.x5,i6 0,i6 f.x7] 48) (ak (.agg #[i6 f.x0,i6 f.x1,i6 0,i6 0,i6 0,i6 f.x5,i6 0,i6 f.x7]) ab.zero (by((try simp only[iL,iM,iO,iP,iQ,iR,iS]);(repeat (first | rw[h] | rw[b] | rw[a] | rw[c] | rw[g] | rw[ALct] | rw[ALcf])))<;>rfl) [] [] [1]))))))
 refine r0 [] [(34,.bool (f.x0==7))] [] ?_;refine cD f.x0 7 (λo B=>?_) λo B=>?_
 ·exact rr (λ_=>[(2,.s 2)]) N0 [] (λ_ L=>L.set 2 (ob (B5 e) #[i6 f.x0,i6 0,i6 0,i6 0,i6 0,i6 0,i6 0,i6 0] 48)) λP=>r0 [(1,.l 0)] [(39,i6 f.x0)] [] (rF [(0,.t (tk (show Value.bool (f.x0==3)= .bool false from ALca Value.bool a)))] 40 (rF [(0,.t (tk (show Value.bool (f.x0==4)= .bool false from ALca Value.bool c)))] 44 (rF [(0,.t (tk (show Value.bool (f.x0==5)= .bool false from ALca Value.bool g)))] 48 (rs [(0,.l 2),(1,.s 1)] 1 (ob (B1 d) #[i6 f.x0,i6 0,i6 0,i6 0,i6 0,i6 0,i6 0,i6 0] 48) (ak (.agg #[i6 f.x0,i6 0,i6 0,i6 0,i6 0,i6 0,i6 0,i6 0]) ab.zero (by((try simp only[iL,iM,iO,iP,iQ,iR,iS]);(repeat (first | rw[h] | rw[b] | rw[a] | rw[c] | rw[g] | rw[o] | rw[ALct] | rw[ALcf])))<;>rfl) [] [] [1])))))
 exact r0 [(1,.l 0)] [(39,i6 f.x0)] [] (rF [(0,.t (tk (show Value.bool (f.x0==3)= .bool false from ALca Value.bool a)))] 40 (rF [(0,.t (tk (show Value.bool (f.x0==4)= .bool false from ALca Value.bool c)))] 44 (rF [(0,.t (tk (show Value.bool (f.x0==5)= .bool false from ALca Value.bool g)))] 48 (rs [(0,.l 2),(1,.s 1)] 1 (ob (B1 d) #[i6 f.x0,i6 f.x1,i6 f.x2,i6 f.x3,i6 f.x4,i6 0,i6 0,i6 0] 48) (ak (.agg #[i6 f.x0,i6 f.x1,i6 f.x2,i6 f.x3,i6 f.x4,i6 0,i6 0,i6 0]) ab.zero (by((try simp only[iL,iM,iO,iP,iQ,iR,iS]);(repeat (first | rw[h] | rw[b] | rw[a] | rw[c] | rw[g] | rw[o] | rw[ALcf])))<;>rfl) [] [] [1])))))
def oL(f:Fa)(R S B M C m:Nat):Bool:=(((((((decide (1≤f.x0))&&(decide (f.x0≤7)))&&(((m:Int)==1)||((m:Int)==2)))&&(f.x0==f.x0&&(f.x1==(iL f)&&(f.x2==(iM f)&&(f.x3==(iO f)&&(f.x4==(iP f)&&(f.x5==(iQ f)&&(f.x6==(iR f)&&(f.x7==(iS f)&&true)))))))))&&(hold R S B M C f.x1 f.x2 f.x3 f.x4))&&(bR f.x6 576))&&(bR f.x5 ((aV (m:Int):Nat):Int)))&&(bR f.x7 (bif f.x0==2 then 2 else 256))
theorem P1(f:Fa)(R S B M C m:Nat)(g:cu R S B M C)(h:m=1∨m=2):aa UZ 38 #[.agg #[i6 f.x0,i6 f.x1,i6 f.x2,i6 f.x3,i6 f.x4,i6 f.x5,i6 f.x6,i6 f.x7],.agg #[iN R,iN S,iN B,iN M,iN C],iN m] [] [] N0 (λ_=> .bool (oL f R S B M C m)):=by
 refine fG Tryz.func38 λw cs=>ra (λa=>[(3,pt (B0 a) 0),(4,pt (B1 a) 0),(6,.bool false)]) (λa=>[ob (B0 a) #[i6 f.x0,i6 f.x1,i6 f.x2,i6 f.x3,i6 f.x4,i6 f.x5,i6 f.x6,i6 f.x7] 48,ob (B1 a) #[iN R,iN S,iN B,iN M,iN C] 23]) λa=>r0 [] [(7,i6 256)] [] (r0 [(1,.l 0)] [(10,.bool (f.x0==2))] [] ?_);refine cJ (f.x0==2) (λc=>[(7,i6 (bif c then 2 else 256))]) (λ_=>[ob (B0 a) #[i6 f.x0,i6 f.x1,i6 f.x2,i6 f.x3,i6 f.x4,i6 f.x5,i6 f.x6,i6 f.x7] 48,ob (B1 a) #[iN R,iN S,iN B,iN M,iN C] 23]) (λd=>?_) (λd=>?_) ?_
 ·have b:=eq_of_beq d;refine r0 [] [(7,i6 2)] [7] ?_;exact cm Kr [0,1] Kr
 ·have b:=ne_of_beq_false d;exact cm Kr [0,1] Kr
 exact r0 [(1,.m (ld 0 (i6 f.x0))),(5,.m (ld 0 (i6 f.x0))),(10,.c [] [] (om (m:Int))),(13,.m (ls 0 ([i6 f.x0,i6 f.x1,i6 f.x2,i6 f.x3,i6 f.x4,i6 f.x5,i6 f.x6,i6 f.x7]))),(14,.m (ls 0 ([i6 f.x0,i6 f.x1,i6 f.x2,i6 f.x3,i6 f.x4,i6 f.x5,i6 f.x6,i6 f.x7]))),(15,.c [] [] (P0 f)),(16,.e),(19,.m (ls 1 ([iN R,iN S,iN B,iN M,iN C]))),(21,.m (ls 0 ([i6 f.x1,i6 f.x2,i6 f.x3,i6 f.x4]))),(22,.c [] [] (qP R S B M C g f.x1 f.x2 f.x3 f.x4)),(26,.m (ld 0 (i6 f.x6))),(27,.c [] [] (xY f.x6 576)),(31,.m (ld 0 (i6 f.x5))),(33,.c [] [] (DR m h)),(34,.c [] [] (xY f.x5 ((aV (m:Int):Nat):Int))),(38,.m (ld 0 (i6 f.x7))),(40,.c [] [] (xY f.x7 (bif f.x0==2 then 2 else 256)))] [(6,.bool ((((((((decide (1≤f.x0))&&(decide (f.x0≤7)))&&(((m:Int)==1)||((m:Int)==2)))&&(f.x0==f.x0&&(f.x1==(iL f)&&(f.x2==(iM f)&&(f.x3==(iO f)&&(f.x4==(iP f)&&(f.x5==(iQ f)&&(f.x6==(iR f)&&(f.x7==(iS f)&&true)))))))))&&(hold R S B M C f.x1 f.x2 f.x3 f.x4))&&(bR f.x6 576))&&(bR f.x5 ((aV (m:Int):Nat):Int)))&&(bR f.x7 (bif f.x0==2 then 2 else 256))))] [6] (lf ab.zero [] [] [])
theorem P2{P:Program}{T:TypeId}{x y:Operand}{w:World}{yk:IntKind}{a:Nat}(n:Nat)(b:n≤8):(au .shr T x y (.int .u8 (a:Int)) (.int yk (n:Int))).run P w= .ok (.int .u8 ((a/2^n:Nat):Int)) w:=by
 unfold au;simp only[VL,eqGuard_shr,VM,VA,binOp_shr,shift_shr_u8 _ _ _ (Int.natCast_nonneg n) Om,Int.toNat_natCast];push_cast;rfl
def nI(xs:List UInt8)(b:Nat):Nat:=(xs.getD (b/8) 0).toNat/2^(b%8)%2
theorem P3(x:UInt8)(n:Nat):x.toNat/2^n<256:=Nat.lt_of_le_of_lt (Nat.div_le_self _ _) x.toNat_lt
theorem P4(v:Value)(xs:List UInt8)(g:xs.length=72)(b:Int)(h0:0≤b)(h1:b<576):aa UZ 284 #[v,i6 b] [.p (aJ eB v xs)] [] N0 (λ_=>iN (nI xs b.toNat)):=by
 exact fO Tryz.func284 0 rfl λd c=>fG Tryz.func284 λw cs=>r0 [] [(4,i6 0)] [] (rF [(1,.t (tk (show Value.bool (decide (b<0))= .bool false from ALca Value.bool (by exact bg Om)))),(4,.t (tv (au .shr 3 (.tmp 8) (.const (u6 3)) (i6 b) (u6 3)) (λ_=>dB (b:=((b.toNat/8:Nat):Int)) (hP 3 Dc) Om))),(6,ey c.1 0),(7,.t (tk (show Value.bool (decide ((xs.length:Int)≤((b.toNat/8:Nat):Int)))= .bool false from ALca Value.bool (by exact bg Om))))] 13 (r0 [(2,.t (tv (au .shr 3 (.tmp 15) (.const (u6 3)) (i6 b) (u6 3)) (λ_=>dB (b:=((b.toNat/8:Nat):Int)) (hP 3 Dc) Om))),(3,e7 c.1 0 (b.toNat/8) 1),(4,iz kB c.1 0 (b.toNat/8) 0),(6,.t (tv (au .and 3 (.tmp 19) (.const (i6 7)) (i6 b) (i6 7)) (λ_=>dB (b:=((b.toNat%8:Nat):Int)) (lJ _ 3 8 Dc Dc Dc Dc) Om))),(7,.t (tc (k:= .i64) (l:= .u64) (a:=iN (b.toNat%8)) λ_ _ _ e f=>mz e f Om)),(8,.t (tv (au .shr 5 (.tmp 18) (.tmp 21) (u1 ((xs.getD (b.toNat/8) 0).toNat:Int)) (u6 ((b.toNat%8:Nat):Int))) (λ_=>P2 (b.toNat%8) Om))),(9,.t (tv (convert 5 3 (u1 (((xs.getD (b.toNat/8) 0).toNat/2^(b.toNat%8):Nat):Int))) (λ_=>G4 Tryz.underlying5 Tryz.underlying3 (P3 _ _)))),(10,.t (tv (au .and 3 (.tmp 23) (.const (i6 1)) (iN ((xs.getD (b.toNat/8) 0).toNat/2^(b.toNat%8))) (i6 1)) (λ_=>AM)))] [(4,iN (nI xs b.toNat))] [4] (lf ab.zero [] [(0,0)] [])))
theorem DU(xs:List UInt8)(g:xs.length=72)(b:Int)(h0:0≤b)(h1:b<576):aa UZ 168 #[.agg (rB 72 xs).toArray,i6 b] [] [] N0 (λ_=> .agg (rB 72 (xs.set (b.toNat/8) ((xs.getD (b.toNat/8) 0)^^^(UInt8.ofNat (1*2^(b.toNat%8)))))).toArray):=by
 refine fG Tryz.func168 λw cs=>ra (λc=>[(2,pt (B0 c) 0),(4,pt (B1 c) 0)]) (λc=>[ob (B0 c) (rB 72 xs).toArray 217,ob (B1 c) (rB 72 (U0 72 0)).toArray 217]) λc=>r0 [] [(10,.bool ((decide (0≤b))&&(decide (b<576))))] [] ?_;have d:((decide (0≤b))&&(decide (b<576)))=true:=by rw[cS Om,cS Om];rfl
 exact cT ((decide (0≤b))&&(decide (b<576))) d (rs [(1,.t (tv (au .shr 3 (.tmp 11) (.const (u6 3)) (i6 b) (u6 3)) (λ_=>dB (b:=((b.toNat/8:Nat):Int)) (hP 3 Dc) Om))),(2,iA 217 .i64 (B0 c) 0 72 1 (b.toNat/8)),(3,rD 0 (B0 c) (b.toNat/8) 217 (rB 72 xs) (nh Om)),(5,.t (tv (au .and 3 (.tmp 15) (.const (i6 7)) (i6 b) (i6 7)) (λ_=>dB (b:=((b.toNat%8:Nat):Int)) (lJ _ 3 8 Dc Dc Dc Dc) Om))),(6,.t (tc (k:= .i64) (l:= .u64) (a:=iN (b.toNat%8)) λ_ _ _ e f=>mz e f Om)),(7,.t (tv (au .shl 5 (.const (u1 1)) (.tmp 17) (u1 1) (u6 ((b.toNat%8:Nat):Int))) (λ_=>tq (a:=1) (b.toNat%8) Om))),(8,.t (tb (a:=u1 ((xs.getD (b.toNat/8) 0).toNat:Int)) (b:=u1 ((UInt8.ofNat (1*2^(b.toNat%8))).toNat:Int)) λ_ _ _ _=>kJ (xs.getD (b.toNat/8) 0) ((UInt8.ofNat (1*2^(b.toNat%8)))))),(9,iA 217 .i64 (B0 c) 0 72 1 (b.toNat/8)),(10,wD 0 (B0 c) (b.toNat/8) 217 (u1 (((xs.getD (b.toNat/8) 0)^^^(UInt8.ofNat (1*2^(b.toNat%8)))).toNat:Int)) (rB 72 xs) (rB 72 (xs.set (b.toNat/8) ((xs.getD (b.toNat/8) 0)^^^(UInt8.ofNat (1*2^(b.toNat%8)))))) (jt Om) (lF g))] 0 (ob (B0 c) (rB 72 (xs.set (b.toNat/8) ((xs.getD (b.toNat/8) 0)^^^(UInt8.ofNat (1*2^(b.toNat%8)))))).toArray 217) (rs [(0,.l 0),(1,.s 1)] 1 (ob (B1 c) (rB 72 (xs.set (b.toNat/8) ((xs.getD (b.toNat/8) 0)^^^(UInt8.ofNat (1*2^(b.toNat%8)))))).toArray 217) (lf ab.zero [] [] [1])))
section
theorem P5{α:Type}{en:α→List Value}{d:α}{a m:Nat}{ys:List α}{t:TypeId}(h1: ∀x,(en x).length=1)(h:ys.length=m):aJ en (.slice (some ⟨a,0,none⟩) m m) ys [(a,.cells ((cv en d m ys).toArray) t (0,0))]:=⟨oc h1 h,some ⟨a,0,none⟩,0,by rw[h];rfl⟩
theorem xZ(m:Int):aV m≤36:=by unfold aV;split<;>(try split)<;>omega
theorem DV(m:Int):dG m≤8:=by unfold dG;split<;>(try split)<;>omega
theorem x8{m:Int}{k:Nat}(c:k≤dG m):aV m*k≤72:=by
 by_cases b:m=1
 ·subst b;have a:k≤8:=c;show 9*k≤72;omega
 ·by_cases a:m=2
  ·subst a;have d:k≤2:=c;show 36*k≤72;omega
  ·unfold aV;rw[ALifn b,ALifn a];omega
theorem DW{m:Int}{xs ys:List UInt8}(o:Nat): ∀k,dh (λi=>dq m (xs.getD (o+i) 0) (ys.getD (o+i) 0)) k≤8*k
 | 0=>Vg _
 | k+1=>by
  rw[dh];have h:=DW (m:=m) (xs:=xs) (ys:=ys) o k;have a:=LY m (xs.getD (o+k) 0) (ys.getD (o+k) 0);have b:dq m (xs.getD (o+k) 0) (ys.getD (o+k) 0)≤8:=by
   split at a<;>omega
  omega
theorem DX{m:Int}{xs ys:List UInt8}(k:Nat):dh (λi=>dq m (xs.getD i 0) (ys.getD i 0)) k≤8*k:=by
 have h:=DW (m:=m) (xs:=xs) (ys:=ys) 0 k;simpa using h
theorem DY{f g:Nat→Nat}: ∀{n:Nat},(∀i,i<n→f i=g i)→dh f n=dh g n
 | 0,_=>rfl
 | n+1,h=>by rw[dh,dh,DY λi a=>h i (VE a),h n (Vp n)]
theorem DZ{xs:List UInt8}{o n i:Nat}(h:i<n):((xs.drop o).take n).getD i 0=xs.getD (o+i) 0:=by
 rw[U2,List.getElem?_take,ALifp h,VB,U2]
theorem P6(a b:UInt8):dq 1 a b=pc (a^^^b).toNat:=ALifp rfl
theorem P7{a b:UInt8}(h:((a.toNat:Int) != (b.toNat:Int))=true):dq 2 a b=1:=by
 unfold dq;rw[ALifn Dc,ALifn (λe=>by subst e;simp at h)]
theorem P8{a b:UInt8}(h:((a.toNat:Int) != (b.toNat:Int))=false):dq 2 a b=0:=by
 unfold dq;have c:=bne_eq_false_iff_eq.1 h;rw[ALifn Dc,ALifp (UInt8.toNat_inj.1 Om)]
theorem P9(m:Int)(a b:List UInt8)(k:Nat):((kp m a b (k+1):Nat):Int)=max ((kp m a b k:Nat):Int) ((dh (λi=>dq m (((a.drop (aV m*k)).take (aV m)).getD i 0) (((b.drop (aV m*k)).take (aV m)).getD i 0)) (aV m):Nat):Int):=by
 rw[show dh (λi=>dq m (((a.drop (aV m*k)).take (aV m)).getD i 0) (((b.drop (aV m*k)).take (aV m)).getD i 0)) (aV m)=wC m a b k from DY λi c=>by rw[DZ c,DZ c],kp];omega
theorem Qa(xs ys:List UInt8)(k:Nat):dh (λz=>dq 1 (xs.getD z 0) (ys.getD z 0)) (k+1)=dh (λz=>dq 1 (xs.getD z 0) (ys.getD z 0)) k+pc (xs.getD k 0^^^ys.getD k 0).toNat:=by rw[dh,P6]
theorem Qb(xs ys:List UInt8)(k:Nat):dh (λz=>dq 2 (xs.getD z 0) (ys.getD z 0)) (k+1)=bif ((xs.getD k 0).toNat:Int) != ((ys.getD k 0).toNat:Int) then dh (λz=>dq 2 (xs.getD z 0) (ys.getD z 0)) k+1 else dh (λz=>dq 2 (xs.getD z 0) (ys.getD z 0)) k:=by
 rw[dh];cases h:((xs.getD k 0).toNat:Int) != ((ys.getD k 0).toNat:Int) with
 | true=>rw[P7 h];rfl
 | false=>rw[P8 h];rfl
theorem Qc(b:UInt8):pc b.toNat≤8:=Ca b.toNat_lt
theorem D0(f:Nat→Nat):dh f 0=0:=by rw[dh]
theorem D1(m:Nat)(c:m=1∨m=2)(xs:List UInt8)(b:xs.length=72)(q:Nat)(a:q<dG (m:Int)):aa UZ 194 #[.agg (rB 72 xs).toArray,iN m,iN q] [] [] (λE=>[br (E.val 0) ((xs.drop (aV (m:Int)*q)).take (aV (m:Int)))]) (λE=>E.val 0):=by
 rcases c with rfl | rfl
 ·exact BR xs b q a
 ·exact BS xs b q a
attribute [local irreducible] dh kp pc dq aV dG nI
theorem Qd(v u:Value)(xs ys:List UInt8)(l:ys.length=xs.length)(r:xs.length≤100):aa UZ 226 #[v,u] [.p (aJ eB v xs),.p (aJ eB u ys)] [] N0 (λ_=>i6 ((dh (λz=>dq 1 (xs.getD z 0) (ys.getD z 0)) xs.length:Nat):Int)):=by
 refine fO Tryz.func226 0 rfl λg d=>?_;refine fO Tryz.func226 1 rfl λh e=>?_;refine fG Tryz.func226 λw cs=>?_;refine r0 [] [(4,i6 0)] [] (rF [(1,ey d.1 0),(3,ey e.1 1),(4,.t (tk (show Value.bool (decide ((ys.length:Int)<(xs.length:Int)))= .bool false from ALca Value.bool (by exact bg Om))))] 12 (r0 [(1,ey e.1 1),(3,ey d.1 0),(4,.t (tv (au .sub 3 (.tmp 16) (.tmp 18) (iN ys.length) (iN xs.length)) (λ_=>dB (b:=0) (pU Om Om) Om)))] [(5,i6 0)] [] (r0 [(1,ey d.1 0)] [(21,v),(22,iN xs.length),(23,i6 0)] [] ?_)));refine lq (λi=>i≤xs.length) (λi=>[(23,iN i),(5,i6 ((dh (λz=>dq 1 (xs.getD z 0) (ys.getD z 0)) i:Nat):Int))]) (λ_ L=>L) (λi=>xs.length-i) 0 Om (by rw[D0];kernel_rfl) Kr (λi k=>?_);have o:=DX (m:=1) (xs:=xs) (ys:=ys) i;have n:=Qc (xs.getD i 0^^^ys.getD i 0);have q:=(xs.getD i 0^^^ys.getD i 0).toNat_lt;refine r0 [] [(24,.bool (decide ((i:Int)<(xs.length:Int))))] [] ?_;refine b4 (i:Int) (xs.length:Int) (λj f=>?_) λj f=>?_
 ·refine r0 [(1,e7 d.1 0 i 1),(2,iz kB d.1 0 i 0)] [(6,iN i),(7,u1 ((xs.getD i 0).toNat:Int))] [] ?_;refine r0 [(4,e7 e.1 1 i 1),(5,iz kB e.1 1 i 0),(6,.t (tb (a:=u1 ((xs.getD i 0).toNat:Int)) (b:=u1 ((ys.getD i 0).toNat:Int)) λ_ _ _ _=>kJ (xs.getD i 0) (ys.getD i 0))),(7,.c [] [] (AT (((xs.getD i 0)^^^(ys.getD i 0)).toNat) Om)),(8,ad (dh (λz=>dq 1 (xs.getD z 0) (ys.getD z 0)) i) (pc (((xs.getD i 0)^^^(ys.getD i 0)).toNat)))] [(5,i6 (((dh (λz=>dq 1 (xs.getD z 0) (ys.getD z 0)) i)+(pc (((xs.getD i 0)^^^(ys.getD i 0)).toNat)):Nat):Int))] [5] (r0 [(0,ad i 1)] [(23,i6 ((i+1:Nat):Int))] [23] ?_);exact le (i+1) Om Om (by rw[Qa];kernel_rfl) [0,1] Kr
 obtain rfl:i=xs.length:=by omega
 refine lx ?_;exact r0 [] [(4,i6 ((dh (λz=>dq 1 (xs.getD z 0) (ys.getD z 0)) xs.length:Nat):Int))] [4] (lf ab.zero [] [(0,0),(1,1)] [])
theorem Qe(v u:Value)(xs ys:List UInt8)(f:ys.length=xs.length)(g:xs.length≤100):aa UZ 193 #[i6 1,v,u] [.p (aJ eB v xs),.p (aJ eB u ys)] [] N0 (λ_=>i6 ((dh (λz=>dq 1 (xs.getD z 0) (ys.getD z 0)) xs.length:Nat):Int)):=by
 refine fO Tryz.func193 0 rfl λa d=>?_;refine fO Tryz.func193 1 rfl λb e=>?_;refine fG Tryz.func193 λw cs=>?_;exact r0 [] [(6,i6 0)] [] (rT [] 11 (r0 [(2,.c [0,1] [] (aa.at (rd':=[.c a,.c b]) (Qd v u xs ys Om Om) (ec d (ec e (λ_ h=>h)))))] [(6,i6 ((dh (λz=>dq 1 (xs.getD z 0) (ys.getD z 0)) xs.length:Nat):Int))] [6] (lf ab.zero [] [(0,0),(1,1)] [])))
theorem Qf(v u:Value)(xs ys:List UInt8)(l:ys.length=xs.length)(o:xs.length≤100):aa UZ 193 #[i6 2,v,u] [.p (aJ eB v xs),.p (aJ eB u ys)] [] N0 (λ_=>i6 ((dh (λz=>dq 2 (xs.getD z 0) (ys.getD z 0)) xs.length:Nat):Int)):=by
 refine fO Tryz.func193 0 rfl λf b=>?_;refine fO Tryz.func193 1 rfl λg e=>?_;refine fG Tryz.func193 λw cs=>?_;refine r0 [] [(6,i6 0)] [] (rF [] 11 (r0 [] [(7,i6 0)] [] (r0 [(1,ey b.1 0)] [(15,v),(16,iN xs.length),(17,i6 0)] [] ?_)));refine lq (λi=>i≤xs.length) (λi=>[(17,iN i),(7,i6 ((dh (λz=>dq 2 (xs.getD z 0) (ys.getD z 0)) i:Nat):Int))]) (λ_ L=>L) (λi=>xs.length-i) 0 Om (by rw[D0];kernel_rfl) Kr (λi k=>?_);have n:=DX (m:=2) (xs:=xs) (ys:=ys) i;refine r0 [] [(18,.bool (decide ((i:Int)<(xs.length:Int))))] [] ?_;refine b4 (i:Int) (xs.length:Int) (λj h=>?_) λj h=>?_
 ·refine r0 [(1,e7 b.1 0 i 1),(2,iz kB b.1 0 i 0)] [(8,iN i),(9,u1 ((xs.getD i 0).toNat:Int))] [] ?_;refine r0 [(3,e7 e.1 1 i 1),(4,iz kB e.1 1 i 0)] [(27,.bool (((xs.getD i 0).toNat:Int) != ((ys.getD i 0).toNat:Int)))] [] ?_;refine cJ (((xs.getD i 0).toNat:Int) != ((ys.getD i 0).toNat:Int)) (λc=>[(7,i6 (((bif c then(dh (λz=>dq 2 (xs.getD z 0) (ys.getD z 0)) i)+1 else dh (λz=>dq 2 (xs.getD z 0) (ys.getD z 0)) i):Nat):Int))]) (λ_=>[.c f,.c g]) (λa=>?_) (λa=>?_) ?_
  ·have d:=bne_iff_ne.1 a;refine r0 [(1,ad (dh (λz=>dq 2 (xs.getD z 0) (ys.getD z 0)) i) 1)] [(7,i6 (((dh (λz=>dq 2 (xs.getD z 0) (ys.getD z 0)) i)+1:Nat):Int))] [7] ?_;exact cm Kr [0,1] Kr
  ·have d:=z3 a;exact cm Kr [0,1] Kr
  refine r0 [(0,ad i 1)] [(17,i6 ((i+1:Nat):Int))] [17] ?_;exact le (i+1) Om Om (by rw[Qb];kernel_rfl) [0,1] Kr
 obtain rfl:i=xs.length:=by omega
 refine lx ?_;exact r0 [] [(6,i6 ((dh (λz=>dq 2 (xs.getD z 0) (ys.getD z 0)) xs.length:Nat):Int))] [6] (lf ab.zero [] [(0,0),(1,1)] [])
theorem Qg(m:Nat)(c:m=1∨m=2)(v u:Value)(xs ys:List UInt8)(n:Nat)(d:xs.length=n)(b:ys.length=n)(a:n≤100):aa UZ 193 #[iN m,v,u] [.p (aJ eB v xs),.p (aJ eB u ys)] [] N0 (λ_=>i6 ((dh (λi=>dq (m:Int) (xs.getD i 0) (ys.getD i 0)) n:Nat):Int)):=by
 subst d;rcases c with rfl | rfl
 ·exact Qe v u xs ys b a
 ·exact Qf v u xs ys b a
theorem D2{xs:List UInt8}{m:Int}{k:Nat}(b:xs.length=72)(a:k<dG m):((xs.drop (aV m*k)).take (aV m)).length=aV m:=by
 have h:=x8 (m:=m) (k:=k+1) a;rw[VN] at h;rw[U7,Ve];omega
theorem D3(m:Nat)(hm:m=1∨m=2)(a b:List UInt8)(ha:a.length=72)(hb:b.length=72):aa UZ 149 #[iN m,.agg (rB 72 a).toArray,.agg (rB 72 b).toArray] [] [] N0 (λ_=>i6 ((jU (m:Int) a b:Nat):Int)):=by
 refine fG Tryz.func149 λw cs=>?_
 refine ra (λq1=>[(4,pt (B0 q1) 0),(5,pt (B1 q1) 0),(6,i6 0)]) (λq1=>[ob (B0 q1) (rB 72 a).toArray 217,ob (B1 q1) (rB 72 b).toArray 217]) λq1=>r0 [] [(7,i6 0)] [] (r0 [(1,.c [] [] (DS m hm))] [(10,i6 ((dG (m:Int):Nat):Int)),(11,i6 0)] [] ?_)
 refine lq (λk=>k≤(dG (m:Int))) (λk=>[(11,iN k),(7,i6 ((kp (m:Int) a b k:Nat):Int))]) (λ_ L=>L) (λk=>(dG (m:Int))-k) 0 Om (by rw[kp];kernel_rfl) Kr (λk hk4=>?_)
 have hw8:=DV (m:Int)
 refine r0 [] [(12,.bool (decide ((k:Int)<((dG (m:Int):Nat):Int))))] [] ?_
 refine b4 (k:Int) ((dG (m:Int):Nat):Int) (λh6 dh6=>?_) λh6 dh6=>?_
 ·have HLA:=D2 (m:=(m:Int)) (k:=k) ha Om
  have HLB:=D2 (m:=(m:Int)) (k:=k) hb Om
  have HLC:aV (m:Int)≤100:=U5 (xZ _) Dc
  refine r0 [] [(8,iN k)] [] (rr (λq8=>[(2,.m (ls 0 (rB 72 a))),(5,.c [] [2] (D1 m hm a (by(simp only[LL,ha,hb,ha,hb];done)) k Om)),(6,.m (ls 1 (rB 72 b))),(9,.c [] [3] (D1 m hm b (by(simp only[LL,ha,hb,ha,hb];done)) k Om)),(10,.c [2,3] [] (aa.at (rd':=[br ((q8 5).val 0) ((a.drop (aV (m:Int)*k)).take (aV (m:Int))),br ((q8 9).val 0) ((b.drop (aV (m:Int)*k)).take (aV (m:Int)))]) (Qg m hm ((q8 5).val 0) ((q8 9).val 0) ((a.drop (aV (m:Int)*k)).take (aV (m:Int))) ((b.drop (aV (m:Int)*k)).take (aV (m:Int))) (aV (m:Int)) HLA HLB HLC) (bN (λ_ h=>ao.sq h) (bN (λ_ h=>ao.sq h) (λ_ h=>h))))),(11,.t (tv (Builtin.max_ #[3,3] 3 #[i6 ((kp (m:Int) a b k:Nat):Int),i6 ((dh (λz=>dq (m:Int) (((a.drop (aV (m:Int)*k)).take (aV (m:Int))).getD z 0) (((b.drop (aV (m:Int)*k)).take (aV (m:Int))).getD z 0)) (aV (m:Int)):Nat):Int)]) (λ_=>qj _ _ _ _)))]) (λ_=>[(7,i6 (max ((kp (m:Int) a b k:Nat):Int) ((dh (λz=>dq (m:Int) (((a.drop (aV (m:Int)*k)).take (aV (m:Int))).getD z 0) (((b.drop (aV (m:Int)*k)).take (aV (m:Int))).getD z 0)) (aV (m:Int)):Nat):Int)))]) [7] (λq8 L=>L++[br ((q8 5).val 0) ((a.drop (aV (m:Int)*k)).take (aV (m:Int))),br ((q8 9).val 0) ((b.drop (aV (m:Int)*k)).take (aV (m:Int)))]) λq8=>r0 [(0,ad k 1)] [(11,i6 ((k+1:Nat):Int))] [11] ?_)
  exact le (k+1) Om Om (by rw[P9];kernel_rfl) [0,1] Kr
 obtain rfl:k=(dG (m:Int)):=by omega
 refine lx ?_
 refine r0 [] [(6,i6 ((kp (m:Int) a b (dG (m:Int)):Nat):Int))] [6] ?_
 exact ak (i6 ((kp (m:Int) a b (dG (m:Int)):Nat):Int)) ab.zero a7 [] [] []
end
section
attribute [local irreducible] aV dG nI
theorem Qh(e f c m:Nat)(i:m=1∨m=2)(D:c<aV (m:Int)):eT 5 UZ 288 #[pt e 0,pt f 0] (λ(x:Nat)=>#[iN x]) ((Vi (dG (m:Int))).map λk=>aV (m:Int)*k+c) (VK [[(e,.cells #[iN m] 3 (0,0))],[(f,.cells #[iN c] 3 (0,0))]]):=by
 have r:=xZ (m:Int);have t:=DV (m:Int);refine gi (KO:=[[(e,.cells #[iN m] 3 (0,0))],[(f,.cells #[iN c] 3 (0,0))]]) Tryz.func288 (λu y w C A h q p=>?_);refine r0 [(0,.l 0),(1,.c [] [] (DR m i))] [(4,iN (aV (m:Int)))] [] (r0 [(0,.l 1),(3,.l 1)] [(14,.bool ((decide ((c:Int)<0))||(decide (((aV (m:Int):Nat):Int)≤(c:Int)))))] [] ?_);have o:((decide ((c:Int)<0))||(decide (((aV (m:Int):Nat):Int)≤(c:Int))))=false:=by rw[bg Om,bg Om];rfl
 refine cF ((decide ((c:Int)<0))||(decide (((aV (m:Int):Nat):Int)≤(c:Int)))) o (r0 [(0,.l 0),(1,.c [] [] (DS m i))] [(16,iN (dG (m:Int))),(17,i6 0)] [] ?_);refine jv (λk=>k≤(dG (m:Int))) (λk=>[(17,iN k)]) (λ_ L=>L) (λk=>(dG (m:Int))-k) (λk=>k) 0 Om p Kr Kr (λk z B s d=>?_);have hck:=x8 (m:=(m:Int)) (k:=k) Om;refine r0 [] [(18,.bool (decide ((k:Int)<((dG (m:Int):Nat):Int))))] [] ?_;refine b4 (k:Int) ((dG (m:Int):Nat):Int) (λg a=>?_) λg a=>?_
 ·refine r0 [] [(5,iN k)] [] ?_;refine iy h q d 6 (λ_=>[(3,ml (aV (m:Int)) k),(4,.l 1),(5,ad ((aV (m:Int))*k) c)]) (λ_=>[(20,.func (.yield u) #[] #[]),(25,iN (((aV (m:Int))*k)+c))]) [] (λ_ L=>L) N0 [0,1] (nX Om) (λv j n b=>?_);refine cF _ rfl (r0 [(0,ad k 1)] [(17,iN (k+1))] [17] ?_);exact ia (k+1) Om b Om Kr [0,1] Kr
 refine jw ?_;exact kk h d (by(rw[U8,Vj];omega)) [] [0,1]
theorem Qi(m c:Nat):aa UZ 285 #[iN m,iN c] [] [] (λE=>[ob (E.y 0) #[iN m] 3,ob (E.y 1) #[iN c] 3]) (λE=> .func (.func 288) #[] #[pt ((E.y 0)) 0,pt ((E.y 1)) 0]):=by
 exact fG Tryz.func285 λw cs=>ra (λa=>[(2,pt (B0 a) 0),(3,pt (B1 a) 0),(4,.nilFunc)]) (λa=>[ob (B0 a) #[iN m] 3,ob (B1 a) #[iN c] 3]) λa=>r0 [] [(4,.func (.func 288) #[] #[pt (B0 a) 0,pt (B1 a) 0])] [4] (lf (.l [(a 0).y 0,(a 1).y 0] [] []) [0,1] [] [])
def gn(n c:Nat)(v:UInt8)(xs:List UInt8):Nat→List UInt8
 | 0=>xs
 | k+1=>(gn n c v xs k).set (n*k+c) v
theorem uM(n c:Nat)(v:UInt8)(xs:List UInt8): ∀k,(gn n c v xs k).length=xs.length
 | 0=>rfl
 | k+1=>by rw[gn,U6,uM]
theorem Qj(n c:Nat)(v:UInt8)(xs:List UInt8):gn n c v xs 0=xs:=rfl
theorem Qk(n c k:Nat)(v:UInt8)(xs:List UInt8):gn n c v xs (k+1)=(gn n c v xs k).set (n*k+c) v:=rfl
def mW(xs:List UInt8)(b v:Int):List UInt8:=bif (!(((nI xs b.toNat:Nat):Int)==v%2)) then xs.set (b.toNat/8) (xs.getD (b.toNat/8) 0^^^UInt8.ofNat (1*2^(b.toNat%8))) else xs
theorem Ql(xs:List UInt8)(b v:Int):(mW xs b v).length=xs.length:=by
 unfold mW;cases (!(((nI xs b.toNat:Nat):Int)==v%2))
 ·rfl
 ·exact U6
attribute [local irreducible] gn
theorem Qm(xs:List UInt8)(g:xs.length=72)(b v:Int)(h0:0≤b)(h1:b<576):aa UZ 271 #[.agg (rB 72 xs).toArray,i6 b,i6 v] [] [] N0 (λ_=> .agg (rB 72 (mW xs b v)).toArray):=by
 refine fG Tryz.func271 λw cs=>ra (λa=>[(3,pt (B0 a) 0),(6,pt (B1 a) 0)]) (λa=>[ob (B0 a) (rB 72 xs).toArray 217,ob (B1 a) (rB 72 (U0 72 0)).toArray 217]) λa=>r0 [(0,aS 217 (B0 a) 72 1),(2,.c [0] [] (aa.at (rd':=[ob (B0 a) (rB 72 xs).toArray 217]) (P4 (.slice (some ⟨(a 0).y 0,0,none⟩) 72 72) xs (by(simp only[LL,g];done)) b Om Om) (ec (P5 (d:=0) (λ_=>rfl) g) (λ_ h=>h)))),(4,.t (tv (au .and 3 (.tmp 10) (.const (i6 1)) (i6 v) (i6 1)) (λ_=>lJ _ 1 2 Dc Dc Dc Dc)))] [(12,.bool (((nI xs b.toNat:Nat):Int) != (v%2)))] [] ?_;refine mE ((nI xs b.toNat:Nat):Int) (v%2) (λf e=>?_) λf e=>?_
 ·exact rr (λ_=>[(0,.l 0),(2,.c [] [] (DU xs (by(simp only[LL,g];done)) b Om Om)),(3,.s 1)]) N0 [] (λ_ L=>L.set 1 (ob (B1 a) (rB 72 (xs.set (b.toNat/8) ((xs.getD (b.toNat/8) 0)^^^(UInt8.ofNat (1*2^(b.toNat%8)))))).toArray 217)) λi=>ak (.agg (rB 72 (xs.set (b.toNat/8) ((xs.getD (b.toNat/8) 0)^^^(UInt8.ofNat (1*2^(b.toNat%8)))))).toArray) ab.zero (by unfold mW;(repeat (first | rw[f] | rw[ALct]))) [] [] [1]
 exact rs [(0,.l 0),(1,.s 1)] 1 (ob (B1 a) (rB 72 xs).toArray 217) (ak (.agg (rB 72 xs).toArray) ab.zero (by unfold mW;(repeat (first | rw[f] | rw[ALcf]))) [] [] [1])
theorem Qn(xs:List UInt8)(f:xs.length=72)(c m:Nat)(o:m=1∨m=2)(i:c<aV (m:Int))(v:UInt8):aa UZ 272 #[.agg (rB 72 xs).toArray,iN m,iN c,u1 (v.toNat:Int)] [] [] N0 (λ_=> .agg (rB 72 (gn (aV (m:Int)) c v xs (dG (m:Int)))).toArray):=by
 have n:=xZ (m:Int);have d:=f;refine fG Tryz.func272 λw cs=>ra (λa=>[(4,pt (B0 a) 0),(7,pt (B1 a) 0),(8,pt (B2 a) 0)]) (λa=>[ob (B0 a) (rB 72 xs).toArray 217,ob (B1 a) #[u1 (v.toNat:Int)] 5,ob (B2 a) (rB 72 (U0 72 0)).toArray 217]) λa=>rr (λ_=>[(2,.c [] [3,4] (Qi m c))]) (λb=>[(12,.func (.func 288) #[] #[pt ((B2 b)) 0,pt (((b 2).y 1)) 0])]) [] (λb L=>L++[ob (B2 b) #[iN m] 3,ob ((b 2).y 1) #[iN c] 3]) λb=>?_;refine n9 (encs:=λ(x:Nat)=>#[iN x]) (xs:=(Vi (dG (m:Int))).map λk=>aV (m:Int)*k+c) (KO:=[[((B2 b),.cells #[iN m] 3 (0,0))],[(((b 2).y 1),.cells #[iN c] 3 (0,0))]]) (Qh (B2 b) ((b 2).y 1) c m o i) (enters_of Tryz.func288 Kr rfl) (λk=>k≤dG (m:Int)) (λk L=>L.set 0 (ob (B0 a) (rB 72 (gn (aV (m:Int)) c v xs k)).toArray 217)) [3,4] Om (by rw[Qj];kernel_rfl) (λy k z q t g e=>?_) (λp e=>?_)
 ·obtain⟨h,rfl⟩:=nc g;have d:=(uM (aV (m:Int)) c v xs k).trans f;have hck:=x8 (m:=(m:Int)) (k:=k+1) Om;have j:aV (m:Int)*(k+1)=aV (m:Int)*k+aV (m:Int):=VN _ _;refine r0 [] [(9,iN (aV (m:Int)*k+c))] [] ?_;refine ag [3,4] (λr u=>?_);exact rs [(1,.l 1),(2,iA 217 .i64 (B0 a) 0 72 1 (aV (m:Int)*k+c)),(3,wD 0 (B0 a) (aV (m:Int)*k+c) 217 (u1 (v.toNat:Int)) (rB 72 (gn (aV (m:Int)) c v xs k)) (rB 72 ((gn (aV (m:Int)) c v xs k).set (aV (m:Int)*k+c) v)) (jt Om) (lF (show(gn (aV (m:Int)) c v xs k).length=72 by(simp only[LL,f,d,f];done))))] 0 (ob (B0 a) (rB 72 ((gn (aV (m:Int)) c v xs k).set (aV (m:Int)*k+c) v)).toArray 217) (ne _ ⟨Om,rfl⟩ [0,1,2,3,4] (by rw[Qk];kernel_rfl))
 refine cl [ob (B0 a) (rB 72 (gn (aV (m:Int)) c v xs (dG (m:Int)))).toArray 217,ob (B1 a) #[u1 (v.toNat:Int)] 5,ob (B2 a) (rB 72 (U0 72 0)).toArray 217,ob (B2 b) #[iN m] 3,ob ((b 2).y 1) #[iN c] 3] (by rw[U8,Vj];kernel_rfl) ?_;simp only[U8,Vj] at e;have d:=(uM (aV (m:Int)) c v xs (dG (m:Int))).trans f;exact rs [(0,.l 0),(1,.s 2)] 2 (ob (B2 a) (rB 72 (gn (aV (m:Int)) c v xs (dG (m:Int)))).toArray 217) (lf ab.zero [] [] [2])
end
section
structure mc (c:Cf) (f:Fa):Prop where
 ok:oL f c.R c.S c.B c.M c.C c.E=true
section
variable {c:Cf} {f:Fa}
theorem mc.all(h:mc c f):hold c.R c.S c.B c.M c.C f.x1 f.x2 f.x3 f.x4=true∧(0≤f.x6∧f.x6<576)∧(0≤f.x5∧f.x5<((aV (c.E:Int):Nat):Int)):=by
 have a:=h.ok;unfold oL at a;simp only[U9] at a;exact⟨a.1.1.1.2,kU.1 a.1.1.2,kU.1 a.1.2⟩
end
theorem Qo(xs:List UInt8)(d:xs.length=72)(c:Int)(m:Nat)(b:m=1∨m=2)(a:0≤c∧c<((aV (m:Int):Nat):Int))(v:UInt8):aa UZ 272 #[.agg (rB 72 xs).toArray,iN m,i6 c,u1 (v.toNat:Int)] [] [] N0 (λ_=> .agg (rB 72 (gn (aV (m:Int)) c.toNat v xs (dG (m:Int)))).toArray):=by
 obtain⟨n,rfl⟩:=Int.eq_ofNat_of_zero_le a.1;exact Qn xs d n m b Om v
def mf(m:Nat)(a b d e:Int)(xs:List UInt8)(f:Fa):List UInt8:=bif ((!(jZ f))||(!(k6 f a b d e))) then xs else(bif (f.x0==2) then mW xs f.x6 f.x7 else gn (aV (m:Int)) f.x5.toNat (aP f.x7) xs (dG (m:Int)))
theorem UP(m:Nat)(a b d e:Int)(xs:List UInt8)(f:Fa):(mf m a b d e xs f).length=xs.length:=by
 unfold mf;cases ((!(jZ f))||(!(k6 f a b d e)))
 ·cases (f.x0==2)
  ·exact uM ..
  ·exact Ql ..
 ·rfl
def jG(m:Nat)(a b d e:Int)(xs:List UInt8)(l:List Fa):List UInt8:=l.foldl (mf m a b d e) xs
theorem uN(m:Nat)(a b d e:Int): ∀(l:List Fa) (xs:List UInt8),(jG m a b d e xs l).length=xs.length
 | [],_=>rfl
 | f::l,xs=>(uN m a b d e l _).trans (UP ..)
theorem Qp{m:Nat}{a b d e:Int}{xs:List UInt8}{l:List Fa}{i:Nat}(h:i<l.length):jG m a b d e xs (l.take (i+1))=mf m a b d e (jG m a b d e xs (l.take i)) (l.getD i bZ):=xU h
attribute [local irreducible] k6 jZ aV dG gn mW hold dH
theorem Qq(c:Cf)(f:Fa)(p:mc c f)(z:c.E=1∨c.E=2)(e g h i:Int)(xs:List UInt8)(m:xs.length=72):aa UZ 252 #[.agg #[i6 f.x0,i6 f.x1,i6 f.x2,i6 f.x3,i6 f.x4,i6 f.x5,i6 f.x6,i6 f.x7],iN c.E,.agg #[i6 e,i6 g,i6 h,i6 i],.agg (rB 72 xs).toArray] [] [] N0 (λ_=> .agg (rB 72 (mf c.E e g h i xs f)).toArray):=by
 have d:=p.all;have x:=d.2.1.1;have y:=d.2.1.2;have q:=d.2.2;have r:=z;refine fG Tryz.func252 λw cs=>ra (λb=>[(4,pt (B0 b) 0),(6,pt (B1 b) 0),(7,pt (B2 b) 0),(8,pt (B3 b) 0)]) (λb=>[ob (B0 b) #[i6 f.x0,i6 f.x1,i6 f.x2,i6 f.x3,i6 f.x4,i6 f.x5,i6 f.x6,i6 f.x7] 48,ob (B1 b) #[i6 e,i6 g,i6 h,i6 i] 46,ob (B2 b) (rB 72 xs).toArray 217,ob (B3 b) (rB 72 (U0 72 0)).toArray 217]) λb=>r0 [(0,.l 0),(1,.c [] [] (DT f)),(4,.l 0),(5,.l 1),(6,.c [] [] (PZ f e g h i))] [(9,.bool ((!(jZ f))||(!(k6 f e g h i))))] [] ?_;refine cB ((!(jZ f))||(!(k6 f e g h i))) (λj=>?_) λj=>?_
 ·exact rr (λ_=>[(0,.l 2),(1,.s 3)]) N0 [] (λ_ L=>L.set 3 (ob (B3 b) (rB 72 xs).toArray 217)) λA=>ak (.agg (rB 72 xs).toArray) ab.zero (by unfold mf;(repeat (first | rw[j] | rw[ALct]))) [] [] [3]
 refine r0 [(1,.l 0)] [(20,.bool (f.x0==2))] [] ?_;refine cD f.x0 2 (λo n=>?_) λo n=>?_
 ·exact rr (λ_=>[(0,.l 2),(2,.l 0),(4,.l 0),(5,.c [] [] (Qm xs (by(simp only[LL,m,m];done)) f.x6 f.x7 Om Om)),(6,.s 3)]) N0 [] (λ_ L=>L.set 3 (ob (B3 b) (rB 72 (mW xs f.x6 f.x7)).toArray 217)) λB=>ak (.agg (rB 72 (mW xs f.x6 f.x7)).toArray) ab.zero (by unfold mf;(repeat (first | rw[j] | rw[o] | rw[ALct] | rw[ALcf]))) [] [] [3]
 exact rs [(0,.l 2),(3,.l 0),(5,.l 0),(6,.t (tc (k:= .i64) (l:= .u8) (a:=i6 f.x7) λ_ _ _ u v=>nS u v)),(7,.c [] [] (Qo xs (by(simp only[LL,m,m];done)) f.x5 c.E r q (aP f.x7))),(8,.s 3)] 3 (ob (B3 b) (rB 72 (gn (aV (c.E:Int)) (f.x5).toNat (aP f.x7) xs (dG (c.E:Int)))).toArray 217) (ak (.agg (rB 72 (gn (aV (c.E:Int)) (f.x5).toNat (aP f.x7) xs (dG (c.E:Int)))).toArray) ab.zero (by unfold mf;(repeat (first | rw[j] | rw[o] | rw[ALcf]))) [] [] [3])
attribute [local irreducible] mf
theorem Qr(c:Cf)(z:c.E=1∨c.E=2)(v:Value)(l:List Fa)(y:l.length≤1000)(r: ∀f∈l,mc c f)(a b d e:Int)(xs:List UInt8)(j:xs.length=72):aa UZ 225 #[v,iN c.E,.agg #[i6 a,i6 b,i6 d,i6 e],.agg (rB 72 xs).toArray] [.p (aJ oK v l)] [] N0 (λ_=> .agg (rB 72 (jG c.E a b d e xs l)).toArray):=by
 refine fO Tryz.func225 0 rfl λo i=>fG Tryz.func225 λw cs=>ra (λg=>[(6,pt (B0 g) 0),(7,pt (B1 g) 0),(8,pt (B2 g) 0)]) (λg=>[ob (B0 g) #[i6 a,i6 b,i6 d,i6 e] 46,ob (B1 g) (rB 72 xs).toArray 217,ob (B2 g) (rB 72 (U0 72 0)).toArray 217]) λg=>r0 [(1,ey i.1 0)] [(11,v),(12,iN l.length),(13,i6 0)] [] ?_;refine lq (λk=>k≤l.length) (λk=>[(13,iN k)]) (λk L=>L.set 2 (ob (B1 g) (rB 72 (jG c.E a b d e xs (l.take k))).toArray 217)) (λk=>l.length-k) 0 Om Kr (by rw[Vs];kernel_rfl) (λk x=>?_);have h:=(uN c.E a b d e (l.take k) xs).trans j;refine r0 [] [(14,.bool (decide ((k:Int)<(l.length:Int))))] [] ?_;refine b4 (k:Int) (l.length:Int) (λu q=>?_) λu q=>?_
 ·refine rr (λ_=>[(0,e7 i.1 0 k 8),(1,mG k5 i.1 0 k 0 8),(3,.s 4)]) (λm=>[(10,pt (B2 m) 0)]) [] (λm L=>L++[ob (B2 m) #[i6 ((l.getD k bZ).x0),i6 ((l.getD k bZ).x1),i6 ((l.getD k bZ).x2),i6 ((l.getD k bZ).x3),i6 ((l.getD k bZ).x4),i6 ((l.getD k bZ).x5),i6 ((l.getD k bZ).x6),i6 ((l.getD k bZ).x7)] 48]) λm=>?_;have n:=(nF bZ).2 r k Om;have t:=(UP c.E a b d e (jG c.E a b d e xs (l.take k)) (l.getD k bZ)).trans h;exact rs [(0,.l 4),(2,.l 1),(3,.l 2),(4,.c [] [] (Qq c (l.getD k bZ) n z a b d e (jG c.E a b d e xs (l.take k)) (by(simp only[LL,j,h,t,j];done)))),(5,.s 2)] 2 (ob (B1 g) (rB 72 (mf c.E a b d e (jG c.E a b d e xs (l.take k)) (l.getD k bZ))).toArray 217) (r0 [(0,ad k 1)] [(13,iN (k+1))] [13] (le (k+1) Om Om Kr [0,1,2,3] (by rw[Qp Om];kernel_rfl)))
 obtain rfl:k=l.length:=by omega
 refine cl [.c o,ob (B0 g) #[i6 a,i6 b,i6 d,i6 e] 46,ob (B1 g) (rB 72 (jG c.E a b d e xs l)).toArray 217,ob (B2 g) (rB 72 (U0 72 0)).toArray 217] (by rw[Vo];kernel_rfl) (lx ?_);have h:=(uN c.E a b d e l xs).trans j;exact rs [(0,.l 2),(1,.s 3)] 3 (ob (B2 g) (rB 72 (jG c.E a b d e xs l)).toArray 217) (lf ab.zero [] [(0,0)] [3])
end
theorem D5(c:Cf)(b:cu c.R c.S c.B c.M c.C)(a p1 p2 p3:Int)(d:hold c.R c.S c.B c.M c.C a p1 p2 p3=true):aa UZ 147 #[.agg #[iN c.R,iN c.S,iN c.B,iN c.M,iN c.C],.agg #[i6 a,i6 p1,i6 p2,i6 p3]] [] [] N0 (λ_=> .tuple #[i6 (dH a p1 p2 p3),i6 0]):=by
 have h:=Cm c.R c.S c.B c.M c.C b a p1 p2 p3;unfold qQ qR at h;rw[d] at h;exact h
theorem x9(c:Cf)(b:cu c.R c.S c.B c.M c.C)(i:Int)(a:fJ c.R c.S c.B c.M c.C i=true):aa UZ 68 #[.agg #[iN c.R,iN c.S,iN c.B,iN c.M,iN c.C],i6 i] [] [] N0 (λ_=> .tuple #[.agg #[i6 (i/1048576),i6 (i/65536%16),i6 (i/64%1024),i6 (i%64)],i6 0]):=by
 have h:=Cn c.R c.S c.B c.M c.C b i;unfold qS qT qU qV qW at h;unfold fJ at a;rw[Bool.not_eq_true'] at a;rw[a] at h;exact h
theorem Qs{i:Nat}{w:World}{α:Type}{en:α→List Value}{v:Value}{xs:List α}{bs:av}(h:aJ en v xs bs):(au .eql 93 (.tmp i) (.const (.slice none 0 0)) v (.slice none 0 0)).run UZ w= .ok (.bool (oi v)) w:=by
 obtain⟨a,r,rfl⟩:=h.2;cases a<;>kernel_rfl
theorem Qt(v:Value)(xs:List Fa)(f:xs.length≤1000):aa UZ 70 #[v] [.p (aJ oK v xs)] [] (λE=>[de (E.val 0) xs]) (λE=>(E.val 0)):=by
 refine fO Tryz.func70 0 rfl λd a=>fG Tryz.func70 λw cs=>r0 [] [(2,.slice none 0 0)] [] (r0 [(1,.t (tv (au .eql 93 (.tmp 3) (.const (.slice none 0 0)) (v) (.slice none 0 0)) (λ_=>Qs a)))] [(4,.bool (oi v))] [] ?_);refine cB (oi v) (λe=>?_) λe=>?_
 ·exact r0 [] [(2,.slice none 0 0)] [2] (cz k5 (lf (.l [] [] [.slice none 0 0]) [1] [(0,0)] [] (hf:=by(try rewrite [tF a As]);kernel_rfl)))
 exact rr (λb=>[(0,.m (ql 1 oK ([i6 0,i6 0,i6 0,i6 0,i6 0,i6 0,i6 0,i6 0]) 48)),(2,.m (lG 1 0 k5.hT (.slice (some ⟨(b 0).y 0,0,none⟩) 0 0) (v) (xs:=[]) (ys:=xs) (.c d) (cP a.1) k5.one k5.lz (by simp only[LL];omega)))]) (λb=>[(2,(b 2).val 0)]) [2] (λb L=>L++[de ((b 2).val 0) (([])++xs)]) λb=>lf (.l [] [] [(b 2).val 0]) [1] [(0,0)] [] (hf:=by(try rewrite [tF a As]);kernel_rfl)
theorem Qu(v:Value)(xs:List Fa)(l:Nat)(a:l≤xs.length)(b:xs.length≤1000):aa UZ 70 #[gx v l xs.length 8] [.p (aJ oK v xs)] [] (λE=>[de (E.val 0) (xs.drop l)]) (λE=>E.val 0):=
 aa.at (Qt (gx v l xs.length 8) (xs.drop l) (by rw[Ve];omega)) (bN (λ_ h=>aJ.drop (en:=oK) (k:=8) (λ_=>rfl) h a) λ_ h=>h)
def jH(xs:List Fa):Int:=(bif decide (256≤(xs.length:Int)) then 14 else 0)
def iT(xs:List Fa)(f:Fa):List Fa:=(bif decide (256≤(xs.length:Int)) then xs else xs++([f]))
theorem D6(v:Value)(xs:List Fa)(f:Fa):aa UZ 170 #[v,.agg #[i6 f.x0,i6 f.x1,i6 f.x2,i6 f.x3,i6 f.x4,i6 f.x5,i6 f.x6,i6 f.x7]] [de v xs] [0] (λE=>[de (E.val 0) (iT xs f)]) (λE=> .tuple #[(E.val 0),i6 (jH xs)]):=by
 refine fG Tryz.func170 λw cs=>ra (λc=>[(3,pt (B0 c) 0),(4,.slice none 0 0),(5,i6 0)]) (λc=>[ob (B0 c) #[i6 f.x0,i6 f.x1,i6 f.x2,i6 f.x3,i6 f.x4,i6 f.x5,i6 f.x6,i6 f.x7] 48]) λc=>r0 [(1,ew k5 v xs 0)] [(8,.bool (decide (256≤(xs.length:Int))))] [] ?_;refine n7 256 (xs.length:Int) (λb d=>?_) λb d=>?_
 ·exact r0 [] [(4,v),(5,i6 14)] [4,5] (ak (.tuple #[v,i6 14]) (.l [] [] [v]) (by((try simp only[jH,iT]);(repeat (first | rw[b] | rw[ALct])))<;>rfl) [0] [] [] (hf:=by(try simp only[jH,iT]);(repeat (first | rw[b] | rw[ALct]));kernel_rfl))
 exact rr (λ_=>[(1,.l 1),(2,.m (bs 2 1)),(3,eX k5 (v) xs 0 2 ([f]))]) (λa=>[(4,(a 3).val 0),(5,i6 0)]) [4,5] (λa L=>L.set 0 (de ((a 3).val 0) (xs++([f])))++[ob (B2 a) #[i6 f.x0,i6 f.x1,i6 f.x2,i6 f.x3,i6 f.x4,i6 f.x5,i6 f.x6,i6 f.x7] 48]) λa=>ak (.tuple #[(a 3).val 0,i6 0]) (.l [] [] [(a 3).val 0]) (by((try simp only[jH,iT]);(repeat (first | rw[b] | rw[ALcf])))<;>rfl) [0] [] [] (hf:=by(try simp only[jH,iT]);(repeat (first | rw[b] | rw[ALcf]));kernel_rfl)
structure Dr where
 cells:Int→List UInt8
 X:List Fa
 I:List Fa
def ku:List UInt8:=U0 72 0
def pH(r:List UInt8):Value:= .agg (rB 72 r).toArray
abbrev eD(f:Int→List UInt8)(g:Nat):aB:= .p (kM pH ku f g)
abbrev fL(g:Nat)(c:Cf)(D:Dr)(L:ah):Prop:=∃(gm:Nat) (a b:Value),L=[ob g #[iN c.R,iN c.S,iN c.B,iN c.M,iN c.C,iN c.E,.map (some gm),a,b] 162,eD D.cells gm,de a D.X,de b D.I]
structure g8 (c:Cf) (D:Dr):Prop where
 cl: ∀k,(D.cells k).length=72
 l1:D.X.length≤256
 l2:D.I.length≤256
 f1: ∀f∈D.X,mc c f
 f2: ∀f∈D.I,mc c f
def rz:Dr:=⟨λ_=>ku,[],[]⟩
theorem Qv(c:Cf):g8 c rz:=⟨λ_=>U3,Vc _,Vc _,λf h=>absurd h Vl,λf h=>absurd h Vl⟩
def UL(D:Dr)(i:Int):Int:=bif (D.I.length:Int)==0 then i else bif (D.I.getD 0 bZ).x0==7 then i else dH (D.I.getD 0 bZ).x1 (D.I.getD 0 bZ).x2 (D.I.getD 0 bZ).x3 (D.I.getD 0 bZ).x4
def cR(D:Dr):Bool:=bif (D.I.length:Int)==0 then false else(D.I.getD 0 bZ).x0==7
def dZ(D:Dr):Dr:={D with I:=D.I.drop 1}
theorem ya{α:Type}{l:List α}(h:(l.length:Int)=0):l.drop 1=l:=by
 have e:l=[]:=List.length_eq_zero_iff.1 Om;subst e;rfl
theorem rA{c:Cf}{D:Dr}(h:g8 c D):g8 c (dZ D):=⟨h.cl,h.l1,by show(D.I.drop 1).length≤256;rw[Ve];have:=h.l2;omega,h.f1,λf a=>h.f2 f (List.mem_of_mem_drop a)⟩
theorem D7{c:Cf}{l:List Fa}(h: ∀f∈l,mc c f)(a:(l.length:Int)≠0):mc c (l.getD 0 bZ):=(nF bZ).2 h 0 Om
theorem Qw(c:Cf)(b:dd c):aa UZ 112 #[.agg #[iN c.R,iN c.S,iN c.B,iN c.M,iN c.C],iN c.E] [] [] (λE=>[ob (E.y 0) #[iN c.R,iN c.S,iN c.B,iN c.M,iN c.C,iN c.E,.map (some (E.y 1)),.slice none 0 0,.slice none 0 0] 162,eD (λ_=>ku) (E.y 1)]) (λE=> .tuple #[pt ((E.y 0)) 0,i6 0]):=by
 have g:=b.ly.O;have h:=b.E;refine fG Tryz.func112 λw cs=>ra (λd=>[(2,pt (B0 d) 0),(4,.pointer none),(5,i6 0)]) (λd=>[ob (B0 d) #[iN c.R,iN c.S,iN c.B,iN c.M,iN c.C] 23]) λd=>rF [(0,.l 0),(1,.c [] [] (tY c.R c.S c.B c.M c.C g))] 6 (r0 [(1,.c [] [] (om (c.E:Int)))] [(10,.bool (!(((c.E:Int)==1)||((c.E:Int)==2))))] [] ?_);have f:(!(((c.E:Int)==1)||((c.E:Int)==2)))=false:=by rw[show((((c.E:Nat):Int)==1)||(((c.E:Nat):Int)==2))=true by rcases h with e | e<;>rw[e]<;>rfl];rfl
 exact cF (!(((c.E:Int)==1)||((c.E:Int)==2))) f (rr (λ_=>[(0,.l 0),(2,.m (mm 1 pH ku))]) (λa=>[(4,pt (B4 a) 0),(5,i6 0)]) [4,5] (λa L=>L++[eD (λ_=>ku) (B2 a),ob (B4 a) #[iN c.R,iN c.S,iN c.B,iN c.M,iN c.C,iN c.E,.map (some (B2 a)),.slice none 0 0,.slice none 0 0] 162]) λa=>lf (.l [(a 4).y 0,(a 2).y 0] [] []) [2,1] [] [])
theorem Qx(g:Nat)(c:Cf)(D:Dr):aa UZ 113 #[pt g 0] [pk (fL g c D)] [0] (λ_=>[pk (fL g c D)]) (λ_=> .agg #[iN c.R,iN c.S,iN c.B,iN c.M,iN c.C]):=aa.pkZ Tryz.func113 λL b=>by
 obtain⟨gm,d,e,rfl⟩:=b;refine⟨[1,2,3],λ_=>[eD D.cells gm,de d D.X,de e D.I],?_,rfl,λE=>⟨rfl,rfl,⟨_,_,_,rfl⟩⟩⟩;exact fG Tryz.func113 λw cs=>ra (λa=>[(2,pt (B0 a) 0)]) (λa=>[ob (B0 a) #[i6 0,i6 0,i6 0,i6 0,i6 0] 23]) λa=>rs [(3,.l 0),(4,.s 4)] 4 (ob (B0 a) #[iN c.R,iN c.S,iN c.B,iN c.M,iN c.C] 23) (lf ab.zero [1,2,3] [(0,0)] [4])
theorem yb(g:Nat)(c:Cf)(D:Dr):aa UZ 107 #[pt g 0] [pk (fL g c D)] [0] (λ_=>[pk (fL g c D)]) (λ_=>iN c.E):=aa.pkZ Tryz.func107 λL a=>by
 obtain⟨gm,b,d,rfl⟩:=a;refine⟨[1,2,3],λ_=>[eD D.cells gm,de b D.X,de d D.I],?_,rfl,λE=>⟨rfl,rfl,⟨_,_,_,rfl⟩⟩⟩;exact fG Tryz.func107 λw cs=>r0 [] [(2,i6 0)] [] (r0 [(3,.l 0)] [(2,iN c.E)] [2] (lf ab.zero [1,2,3] [(0,0)] []))
theorem D8(g:Nat)(c:Cf)(r:dd c)(D:Dr)(t:g8 c D)(i:Int)(gm:Nat)(f a:Value):aa UZ 190 #[pt g 0,i6 i] [ob g #[iN c.R,iN c.S,iN c.B,iN c.M,iN c.C,iN c.E,.map (some gm),f,a] 162,eD D.cells gm,de f D.X,de a D.I] [0,1,2,3] (λE=>[ob g #[iN c.R,iN c.S,iN c.B,iN c.M,iN c.C,iN c.E,.map (some gm),f,(E.val 0)] 162,eD ((dZ D).cells) gm,de f ((dZ D).X),de (E.val 0) ((dZ D).I)]) (λ_=> .agg #[i6 (UL D i),.bool (cR D)]):=by
 have u:=t.l2;have n:=r.ly.O;refine fG Tryz.func190 λw cs=>ra (λe=>[(4,pt (B0 e) 0)]) (λe=>[ob (B0 e) #[i6 0,.bool false] 88]) λe=>r0 [(3,.l 0),(4,ew k5 a D.I 3)] [(13,.bool ((D.I.length:Int)==0))] [] ?_;refine cD (D.I.length:Int) 0 (λj d=>?_) λj d=>?_
 ·exact rr (λ_=>[(2,.s 4)]) N0 [] (λ_ L=>L.set 4 (ob (B0 e) #[i6 i,.bool false] 88)) λy=>ak (.agg #[i6 i,.bool false]) (.l [] [] [a]) (by unfold UL cR;(repeat (first | rw[j] | rw[ALct]))) [0,1,2,3] [] [4] (hf:=by unfold dZ;(try rewrite [ya As]);kernel_rfl)
 have o:=(D7 t.f2 d).all.1;have v:0<D.I.length:=by have x:=d;omega
 refine rr (λ_=>[(3,.l 0),(4,cp k5 a D.I 3 0),(5,nm k5 a D.I 3 0 0 8),(7,.s 5)]) (λk=>[(5,pt (B6 k) 0)]) [] (λk L=>L++[ob (B6 k) #[i6 ((D.I.getD 0 bZ).x0),i6 ((D.I.getD 0 bZ).x1),i6 ((D.I.getD 0 bZ).x2),i6 ((D.I.getD 0 bZ).x3),i6 ((D.I.getD 0 bZ).x4),i6 ((D.I.getD 0 bZ).x5),i6 ((D.I.getD 0 bZ).x6),i6 ((D.I.getD 0 bZ).x7)] 48]) λk=>rr (λb=>[(4,.l 0),(5,HV k5 a D.I 3 1),(6,.c [3] [6] (aa.at (rd':=[de a D.I]) (Qu a D.I 1 Om Om) (bN (λ_ h=>ao.sq h) (λ_ h=>h)))),(9,.m (e6 0 6 (de ((b 6).val 0) ((D.I).drop (1))) ((b 6).val 0) λbs h=>ao.one ((λ_ h=>h) bs h)))]) N0 [] (λb L=>L.set 0 (ob g #[iN c.R,iN c.S,iN c.B,iN c.M,iN c.C,iN c.E,.map (some gm),f,(b 6).val 0] 162)++[de ((b 6).val 0) ((D.I).drop (1))]) λb=>r0 [(1,.l 5)] [(33,.bool (((D.I.getD 0 bZ).x0)==7))] [] ?_;refine cD ((D.I.getD 0 bZ).x0) 7 (λq p=>?_) λq p=>?_
 ·exact rr (λ_=>[(2,.s 4)]) N0 [] (λ_ L=>L.set 4 (ob (B0 e) #[i6 i,.bool true] 88)) λz=>ak (.agg #[i6 i,.bool true]) (.l [] [] [((b 6).val 0)]) (by unfold UL cR;(repeat (first | rw[j] | rw[q] | rw[ALct] | rw[ALcf]))) [0,1,2,6] [] [4] (hf:=by unfold dZ;(try rewrite [ya As]);kernel_rfl)
 exact r0 [(3,.m (ls 0 ([iN c.R,iN c.S,iN c.B,iN c.M,iN c.C]))),(5,.m (ls 5 ([i6 ((D.I.getD 0 bZ).x1),i6 ((D.I.getD 0 bZ).x2),i6 ((D.I.getD 0 bZ).x3),i6 ((D.I.getD 0 bZ).x4)]))),(6,.c [] [] (D5 c n ((D.I.getD 0 bZ).x1) ((D.I.getD 0 bZ).x2) ((D.I.getD 0 bZ).x3) ((D.I.getD 0 bZ).x4) o)),] [(6,i6 (dH ((D.I.getD 0 bZ).x1) ((D.I.getD 0 bZ).x2) ((D.I.getD 0 bZ).x3) ((D.I.getD 0 bZ).x4))),(7,i6 0)] [] (rF [] 47 (rs [(2,.s 4)] 4 (ob (B0 e) #[i6 (dH ((D.I.getD 0 bZ).x1) ((D.I.getD 0 bZ).x2) ((D.I.getD 0 bZ).x3) ((D.I.getD 0 bZ).x4)),.bool false] 88) (ak (.agg #[i6 (dH ((D.I.getD 0 bZ).x1) ((D.I.getD 0 bZ).x2) ((D.I.getD 0 bZ).x3) ((D.I.getD 0 bZ).x4)),.bool false]) (.l [] [] [((b 6).val 0)]) (by unfold UL cR;(repeat (first | rw[j] | rw[q] | rw[ALcf]))) [0,1,2,6] [] [4] (hf:=by unfold dZ;(try rewrite [ya As]);kernel_rfl))))
section
theorem yc{R S B M C:Nat}(f:cu R S B M C){a p1 p2 p3:Int}(h:hold R S B M C a p1 p2 p3=true):fJ R S B M C (dH a p1 p2 p3)=true:=by
 obtain⟨b,c,d,e,g,i⟩:=Mf f.bd h;unfold fJ;rw[b,c,d,e,h,bg Om];rfl
theorem Qy{c:Cf}(a:dd c){D:Dr}(d:g8 c D){i:Int}(b:fJ c.R c.S c.B c.M c.C i=true):fJ c.R c.S c.B c.M c.C (UL D i)=true:=by
 unfold UL;cases h:((D.I.length:Int)==0)
 ·rw[ALcf];cases (D.I.getD 0 bZ).x0==7
  ·exact yc a.ly.O (D7 d.f2 (ne_of_beq_false h)).all.1
  ·exact b
 ·exact b
def pI(c:Cf)(D:Dr)(i:Int):List UInt8:=jG c.E (i/1048576) (i/65536%16) (i/64%1024) (i%64) (D.cells i) D.X
theorem yd{c:Cf}{D:Dr}(a:g8 c D)(i:Int):(pI c D i).length=72:=(uN ..).trans (a.cl i)
def b9(c:Cf)(D:Dr)(i:Int):List UInt8:=bif cR D then U0 72 0 else pI c (dZ D) (UL D i)
theorem nJ{c:Cf}{D:Dr}(a:g8 c D)(i:Int):(b9 c D i).length=72:=by
 unfold b9;cases cR D
 ·exact yd (rA a) _
 ·exact U3
def nK(D:Dr)(i:Int)(r:List UInt8):Dr:=⟨bif !(cR D) then dM D.cells (UL D i) r else D.cells,D.X,D.I.drop 1⟩
theorem rC{f:Int→List UInt8}{n:Nat}(h: ∀k,(f k).length=n)(i:Int){r:List UInt8}(a:r.length=n)(k:Int):(dM f i r k).length=n:=by
 unfold dM
 split<;>simp [*]
theorem D9{c:Cf}{D:Dr}(h:g8 c D)(i:Int){r:List UInt8}(b:r.length=72):g8 c (nK D i r):=by
 have a:=rA h;refine⟨?_,a.l1,a.l2,a.f1,a.f2⟩;show ∀k,((bif !(cR D) then dM D.cells (UL D i) r else D.cells) k).length=72;cases cR D
 ·exact rC h.cl _ b
 ·exact h.cl
def Ea(xs:List UInt8)(b:Int):List UInt8:=xs.set (b.toNat/8) (xs.getD (b.toNat/8) 0^^^UInt8.ofNat (1*2^(b.toNat%8)))
def j0(c:Cf)(f:Fa):Bool:=oL f c.R c.S c.B c.M c.C c.E
def j4(c:Cf)(D:Dr)(f:Fa):Dr:=
 ⟨bif !(j0 c f) then D.cells else bif f.x0==1 then dM D.cells (dH f.x1 f.x2 f.x3 f.x4) (Ea (D.cells (dH f.x1 f.x2 f.x3 f.x4)) f.x6) else D.cells,
  bif !(j0 c f) then D.X else bif f.x0==1 then D.X else bif jZ f then iT D.X f else D.X,
  bif !(j0 c f) then D.I else bif f.x0==1 then D.I else bif jZ f then D.I else iT D.I f⟩
def gH(c:Cf)(D:Dr)(f:Fa):Int:=bif !(j0 c f) then 10 else bif f.x0==1 then 0 else bif jZ f then jH D.X else jH D.I
theorem Eb{xs:List Fa}(f:Fa)(h:xs.length≤256):(iT xs f).length≤256:=by
 unfold iT;cases a:decide (256≤(xs.length:Int))
 ·have:=of_decide_eq_false a;simp only[ALcf,U1,List.length_singleton];omega
 ·exact h
theorem Ec{xs:List Fa}{f:Fa}{p:Fa→Prop}(h: ∀x∈xs,p x)(hf:p f): ∀x∈iT xs f,p x:=by
 unfold iT;cases decide (256≤(xs.length:Int))
 ·simp only[ALcf,List.mem_append,List.mem_singleton];rintro x (a | rfl)
  ·exact h x a
  ·exact hf
 ·exact h
theorem Qz{c:Cf}{D:Dr}(h:g8 c D)(f:Fa):g8 c (j4 c D f):=by
 unfold j4;cases b:j0 c f
 ·exact⟨h.cl,h.l1,h.l2,h.f1,h.f2⟩
 ·have a:mc c f:=⟨b⟩;cases f.x0==1
  ·cases jZ f
   ·exact⟨h.cl,h.l1,Eb f h.l2,h.f1,Ec h.f2 a⟩
   ·exact⟨h.cl,Eb f h.l1,h.l2,Ec h.f1 a,h.f2⟩
  ·exact⟨rC h.cl _ (by unfold Ea;rw[U6];exact h.cl _),h.l1,h.l2,h.f1,h.f2⟩
attribute [local irreducible] jG UL cR fJ dH jZ jH iT oL
theorem QA(g:Nat)(c:Cf)(d:dd c)(D:Dr)(b:g8 c D)(i:Int)(n:fJ c.R c.S c.B c.M c.C i=true)(gm:Nat)(a p:Value):aa UZ 191 #[pt g 0,i6 i] [ob g #[iN c.R,iN c.S,iN c.B,iN c.M,iN c.C,iN c.E,.map (some gm),a,p] 162,eD D.cells gm,de a D.X,de p D.I] [1,2,3] (λ_=>[eD D.cells gm,de a D.X,de p D.I]) (λ_=> .tuple #[.agg (rB 72 (pI c D i)).toArray,i6 0]):=by
 have j:=d.ly.O;have k:=n;have q:=b.l1;have l:=b.cl i;have o:=yd b i;have r:=d.E;exact fG Tryz.func191 λw cs=>ra (λe=>[(4,pt (B0 e) 0),(5,i6 0)]) (λe=>[ob (B0 e) (rB 72 (U0 72 0)).toArray 217]) λe=>rr (λ_=>[(3,.m (ls 0 ([iN c.R,iN c.S,iN c.B,iN c.M,iN c.C]))),(5,.c [] [] (x9 c j i k)),(9,.m (al 5)),(10,.s 5)]) (λf=>[(6,pt ((f 9).y 0) 0),(7,i6 0)]) [] (λf L=>L++[ob ((f 9).y 0) #[i6 (i/1048576),i6 (i/65536%16),i6 (i/64%1024),i6 (i%64)] 46]) λf=>rF [] 18 (rr (λ_=>[(3,.m (ld 0 (a))),(7,.m (ld 0 (iN c.E))),(8,.m (ls 5 ([i6 (i/1048576),i6 (i/65536%16),i6 (i/64%1024),i6 (i%64)]))),(12,.m (ld 0 (.map (some gm)))),(14,.m (mg 1 (eD D.cells gm) gm i (λ_ h=>h))),(15,.c [2] [] (aa.at (rd':=[de a D.X]) (Qr c r a D.X (U5 b.l1 Dc) b.f1 (i/1048576) (i/65536%16) (i/64%1024) (i%64) (D.cells i) (by(simp only[LL,l,o];done))) (bN (λ_ h=>ao.sq h) (λ_ h=>h)))),(16,.s 4)]) (λ_=>[(5,i6 0)]) [5] (λ_ L=>L.set 4 (ob (B0 e) (rB 72 (jG c.E (i/1048576) (i/65536%16) (i/64%1024) (i%64) (D.cells i) D.X)).toArray 217)) λt=>ak (.tuple #[.agg (rB 72 (jG c.E (i/1048576) (i/65536%16) (i/64%1024) (i%64) (D.cells i) D.X)).toArray,i6 0]) ab.zero a7 [1,2,3] [(0,0)] [4])
theorem QB(g:Nat)(c:Cf)(d:dd c)(D:Dr)(o:g8 c D)(i:Int)(k:fJ c.R c.S c.B c.M c.C i=true)(r:List UInt8)(t:r.length=72):aa UZ 204 #[pt g 0,i6 i,.agg (rB 72 r).toArray] [pk (fL g c D)] [0] (λ_=>[pk (fL g c (nK D i r))]) (λ_=> .tuple #[.agg #[i6 (UL D i),.bool (cR D)],i6 0]):=aa.pkZ Tryz.func204 λL p=>by
 obtain⟨gm,e,q,rfl⟩:=p;refine⟨[0,1,2,3],λE=>[ob g #[iN c.R,iN c.S,iN c.B,iN c.M,iN c.C,iN c.E,.map (some gm),e,(E.val 0)] 162,eD ((nK D i r).cells) gm,de e ((dZ D).X),de (E.val 0) ((dZ D).I)],?_,rfl,λE=>⟨rfl,rfl,⟨_,_,_,rfl⟩⟩⟩;have f:=d.ly.O;have h:=k;refine fG Tryz.func204 λw cs=>ra (λa=>[(5,pt (B0 a) 0),(6,pt (B1 a) 0),(7,i6 0)]) (λa=>[ob (B0 a) (rB 72 r).toArray 217,ob (B1 a) #[i6 0,.bool false] 88]) λa=>rr (λ_=>[(3,.m (ls 0 ([iN c.R,iN c.S,iN c.B,iN c.M,iN c.C]))),(5,.c [] [] (x9 c f i h)),(9,.m (al 6)),(10,.s 6)]) (λ_=>[(9,i6 0)]) [] (λn L=>L++[ob ((n 9).y 0) #[i6 (i/1048576),i6 (i/65536%16),i6 (i/64%1024),i6 (i%64)] 46]) λn=>rF [] 21 (rr (λ_=>[(2,.c [0,1,2,3] [0,1,2,3] (D8 g c d D o i gm e q)),(4,.s 7)]) (λb=>[(10,pt (B3 b) 0)]) [] (λb L=>(((L.set 0 (ob g #[iN c.R,iN c.S,iN c.B,iN c.M,iN c.C,iN c.E,.map (some gm),e,((b 2).val 0)] 162)).set 1 (eD ((dZ D).cells) gm)).set 2 (de e ((dZ D).X))).set 3 (de ((b 2).val 0) ((dZ D).I))++[ob (B3 b) #[i6 (UL D i),.bool (cR D)] 88]) λb=>r0 [(1,.l 7)] [(29,.bool (!(cR D)))] [] ?_);refine cB (!(cR D)) (λj=>?_) λj=>?_
 ·exact rr (λ_=>[(3,.l 0),(5,.l 7),(6,.l 4),(7,.m (mu 1 gm (UL D i) pH ku ((dZ D).cells) r))]) N0 [] (λ_ L=>L.set 1 (eD (dM ((dZ D).cells) (UL D i) r) gm)) λu=>rr (λ_=>[(0,.l 7),(1,.s 5)]) (λ_=>[(7,i6 0)]) [7] (λ_ L=>L.set 5 (ob (B1 a) #[i6 (UL D i),.bool (cR D)] 88)) λv=>lf (.l [] [] [((b 2).val 0)]) [0,1,2,3] [] [5] (hf:=by unfold nK;(repeat (first | rw[j] | rw[ALct]));kernel_rfl)
 exact rr (λ_=>[(0,.l 7),(1,.s 5)]) (λ_=>[(7,i6 0)]) [7] (λ_ L=>L.set 5 (ob (B1 a) #[i6 (UL D i),.bool (cR D)] 88)) λx=>lf (.l [] [] [((b 2).val 0)]) [0,1,2,3] [] [5] (hf:=by unfold nK;(repeat (first | rw[j] | rw[ALcf]));kernel_rfl)
theorem QC(g:Nat)(c:Cf)(b:dd c)(D:Dr)(h:g8 c D)(i:Int)(f:fJ c.R c.S c.B c.M c.C i=true):aa UZ 148 #[pt g 0,i6 i] [pk (fL g c D)] [0] (λ_=>[pk (fL g c (dZ D))]) (λ_=> .tuple #[.agg (rB 72 (b9 c D i)).toArray,.agg #[i6 (UL D i),.bool (cR D)],i6 0]):=aa.pkZ Tryz.func148 λL r=>by
 obtain⟨gm,e,u,rfl⟩:=r;refine⟨[0,1,2,3],λE=>[ob g #[iN c.R,iN c.S,iN c.B,iN c.M,iN c.C,iN c.E,.map (some gm),e,(E.val 0)] 162,eD ((dZ D).cells) gm,de e ((dZ D).X),de (E.val 0) ((dZ D).I)],?_,rfl,λE=>⟨rfl,rfl,⟨_,_,_,rfl⟩⟩⟩;have k:=b.ly.O;have n:=f;have p:=Qy b h f;have t:=yd (rA h) (UL D i);refine fG Tryz.func148 λw cs=>ra (λd=>[(4,pt (B0 d) 0),(5,pt (B1 d) 0),(6,i6 0)]) (λd=>[ob (B0 d) (rB 72 (U0 72 0)).toArray 217,ob (B1 d) #[i6 0,.bool false] 88]) λd=>rr (λ_=>[(3,.m (ls 0 ([iN c.R,iN c.S,iN c.B,iN c.M,iN c.C]))),(5,.c [] [] (x9 c k i n)),(9,.m (al 6)),(10,.s 6)]) (λ_=>[(8,i6 0)]) [] (λq L=>L++[ob ((q 9).y 0) #[i6 (i/1048576),i6 (i/65536%16),i6 (i/64%1024),i6 (i%64)] 46]) λq=>rF [] 22 (rr (λ_=>[(2,.c [0,1,2,3] [0,1,2,3] (D8 g c b D h i gm e u)),(4,.s 7)]) (λa=>[(9,pt (B3 a) 0)]) [] (λa L=>(((L.set 0 (ob g #[iN c.R,iN c.S,iN c.B,iN c.M,iN c.C,iN c.E,.map (some gm),e,((a 2).val 0)] 162)).set 1 (eD ((dZ D).cells) gm)).set 2 (de e ((dZ D).X))).set 3 (de ((a 2).val 0) ((dZ D).I))++[ob (B3 a) #[i6 (UL D i),.bool (cR D)] 88]) λa=>r0 [(1,.l 7)] [(30,.bool (cR D))] [] ?_);refine cB (cR D) (λo=>?_) λo=>?_
 ·exact rr (λ_=>[(1,.l 7),(2,.s 4),(3,.s 5)]) (λ_=>[(6,i6 0)]) [6] (λ_ L=>L.set 5 (ob (B1 d) #[i6 (UL D i),.bool (cR D)] 88)) λv=>ak (.tuple #[.agg (rB 72 (U0 72 0)).toArray,.agg #[i6 (UL D i),.bool (cR D)],i6 0]) (.l [] [] [((a 2).val 0)]) (by unfold b9;(repeat (first | rw[o] | rw[ALct]))) [0,1,2,3] [] [4,5]
 exact rr (λ_=>[(2,.l 7),(3,.c [0,1,2,3] [1,2,3] (QA g c b (dZ D) (rA h) (UL D i) p gm e ((a 2).val 0))),(8,.s 8)]) (λj=>[(10,pt (B7 j) 0),(11,i6 0)]) [] (λj L=>L.set 3 (de ((a 2).val 0) ((dZ D).I))++[ob (B7 j) (rB 72 (pI c (dZ D) (UL D i))).toArray 217]) λj=>rr (λ_=>[(0,.l 8),(1,.l 7),(3,.s 4),(4,.s 5)]) (λ_=>[(6,i6 0)]) [6] (λ_ L=>(L.set 4 (ob (B0 d) (rB 72 (pI c (dZ D) (UL D i))).toArray 217)).set 5 (ob (B1 d) #[i6 (UL D i),.bool (cR D)] 88)) λx=>ak (.tuple #[.agg (rB 72 (pI c (dZ D) (UL D i))).toArray,.agg #[i6 (UL D i),.bool (cR D)],i6 0]) (.l [] [] [((a 2).val 0)]) (by unfold b9;(repeat (first | rw[o] | rw[ALcf]))) [0,1,2,3] [] [4,5]
theorem QD(g:Nat)(c:Cf)(k:dd c)(D:Dr)(u:g8 c D)(f:Fa):aa UZ 129 #[pt g 0,.agg #[i6 f.x0,i6 f.x1,i6 f.x2,i6 f.x3,i6 f.x4,i6 f.x5,i6 f.x6,i6 f.x7]] [pk (fL g c D)] [0] (λ_=>[pk (fL g c (j4 c D f))]) (λ_=>i6 (gH c D f)):=aa.pkZ Tryz.func129 λL x=>by
 obtain⟨gm,n,o,rfl⟩:=x;refine⟨[0,1,2,3],λE=>[ob g #[iN c.R,iN c.S,iN c.B,iN c.M,iN c.C,iN c.E,.map (some gm),(E.val 0),(E.val 1)] 162,eD ((j4 c D f).cells) gm,de (E.val 0) ((j4 c D f).X),de (E.val 1) ((j4 c D f).I)],?_,rfl,λE=>⟨rfl,rfl,⟨_,_,_,rfl⟩⟩⟩;have q:=k.ly.O;have t:=u.cl (dH f.x1 f.x2 f.x3 f.x4);have v:=k.ly.O;refine fG Tryz.func129 λw cs=>ra (λp=>[(3,pt (B0 p) 0),(4,i6 0)]) (λp=>[ob (B0 p) #[i6 f.x0,i6 f.x1,i6 f.x2,i6 f.x3,i6 f.x4,i6 f.x5,i6 f.x6,i6 f.x7] 48]) λp=>r0 [(0,.m (ls 4 ([i6 f.x0,i6 f.x1,i6 f.x2,i6 f.x3,i6 f.x4,i6 f.x5,i6 f.x6,i6 f.x7]))),(4,.m (ls 0 ([iN c.R,iN c.S,iN c.B,iN c.M,iN c.C]))),(8,.m (ld 0 (iN c.E))),(9,.c [] [] (P1 f c.R c.S c.B c.M c.C c.E v k.E)),] [(19,.bool (!(oL f c.R c.S c.B c.M c.C c.E)))] [] ?_;refine cB (!(oL f c.R c.S c.B c.M c.C c.E)) (λe=>?_) λe=>?_
 ·exact r0 [] [(4,i6 10)] [4] (ak (i6 10) (.l [] [] [n,o]) (by unfold gH j0;(repeat (first | rw[e] | rw[ALct]))) [0,1,2,3] [] [] (hf:=by unfold j4 j0;(repeat (first | rw[e] | rw[ALct]));kernel_rfl))
 have i:mc c f:=⟨by simpa using e⟩;have r:=i.all.1;refine r0 [(1,.l 4)] [(31,.bool (f.x0==1))] [] ?_;refine cD f.x0 1 (λj s=>?_) λj s=>?_
 ·exact r0 [(3,.m (ls 0 ([iN c.R,iN c.S,iN c.B,iN c.M,iN c.C]))),(5,.m (ls 4 ([i6 f.x1,i6 f.x2,i6 f.x3,i6 f.x4]))),(6,.c [] [] (D5 c q f.x1 f.x2 f.x3 f.x4 r)),] [(5,i6 (dH f.x1 f.x2 f.x3 f.x4)),(6,i6 0)] [] (rs [(3,.m (ld 0 (.map (some gm)))),(8,.m (ld 0 (.map (some gm)))),(10,.m (mg 1 (eD D.cells gm) gm (dH f.x1 f.x2 f.x3 f.x4) (λ_ h=>h))),(12,.m (ld 4 (i6 f.x6))),(13,.c [] [] (DU (D.cells (dH f.x1 f.x2 f.x3 f.x4)) (by(simp only[LL,t];done)) f.x6 i.all.2.1.1 i.all.2.1.2)),(14,.m (mu 1 gm (dH f.x1 f.x2 f.x3 f.x4) pH ku D.cells ((D.cells (dH f.x1 f.x2 f.x3 f.x4)).set (f.x6.toNat/8) (((D.cells (dH f.x1 f.x2 f.x3 f.x4)).getD (f.x6.toNat/8) 0)^^^(UInt8.ofNat (1*2^(f.x6.toNat%8)))))))] 1 (eD (dM D.cells (dH f.x1 f.x2 f.x3 f.x4) ((D.cells (dH f.x1 f.x2 f.x3 f.x4)).set (f.x6.toNat/8) (((D.cells (dH f.x1 f.x2 f.x3 f.x4)).getD (f.x6.toNat/8) 0)^^^(UInt8.ofNat (1*2^(f.x6.toNat%8)))))) gm) (r0 [] [(4,i6 0)] [4] (ak (i6 0) (.l [] [] [n,o]) (by unfold gH j0;(repeat (first | rw[e] | rw[j] | rw[ALct] | rw[ALcf]))) [0,1,2,3] [] [] (hf:=by unfold j4 j0;(repeat (first | rw[e] | rw[j] | rw[ALct] | rw[ALcf]));kernel_rfl))))
 refine r0 [(0,.l 4),(1,.c [] [] (DT f))] [(60,.bool (jZ f))] [] ?_;refine cB (jZ f) (λd=>?_) λd=>?_
 ·exact rr (λa=>[(4,.m (ld 0 (n))),(5,.m (ls 4 ([i6 f.x0,i6 f.x1,i6 f.x2,i6 f.x3,i6 f.x4,i6 f.x5,i6 f.x6,i6 f.x7]))),(6,.c [2] [2] (D6 n D.X f)),(12,.m (e6 0 2 (de ((a 6).val 0) (iT D.X f)) ((a 6).val 0) λbs h=>ao.one ((λ_ h=>h) bs h)))]) (λ_=>[(4,i6 (jH D.X))]) [4] (λa L=>(L.set 0 (ob g #[iN c.R,iN c.S,iN c.B,iN c.M,iN c.C,iN c.E,.map (some gm),((a 6).val 0),o] 162)).set 2 (de ((a 6).val 0) (iT D.X f))) λa=>r0 [] [(4,i6 (jH D.X))] [4] (ak (i6 (jH D.X)) (.l [] [] [((a 6).val 0),o]) (by unfold gH j0;(repeat (first | rw[e] | rw[j] | rw[d] | rw[ALct] | rw[ALcf]))) [0,1,2,3] [] [] (hf:=by unfold j4 j0;(repeat (first | rw[e] | rw[j] | rw[d] | rw[ALct] | rw[ALcf]));kernel_rfl))
 exact rr (λb=>[(4,.m (ld 0 (o))),(5,.m (ls 4 ([i6 f.x0,i6 f.x1,i6 f.x2,i6 f.x3,i6 f.x4,i6 f.x5,i6 f.x6,i6 f.x7]))),(6,.c [3] [3] (D6 o D.I f)),(12,.m (e6 0 3 (de ((b 6).val 0) (iT D.I f)) ((b 6).val 0) λbs h=>ao.one ((λ_ h=>h) bs h)))]) (λ_=>[(4,i6 (jH D.I))]) [4] (λb L=>(L.set 0 (ob g #[iN c.R,iN c.S,iN c.B,iN c.M,iN c.C,iN c.E,.map (some gm),n,((b 6).val 0)] 162)).set 3 (de ((b 6).val 0) (iT D.I f))) λb=>r0 [] [(4,i6 (jH D.I))] [4] (ak (i6 (jH D.I)) (.l [] [] [n,((b 6).val 0)]) (by unfold gH j0;(repeat (first | rw[e] | rw[j] | rw[d] | rw[ALcf]))) [0,1,2,3] [] [] (hf:=by unfold j4 j0;(repeat (first | rw[e] | rw[j] | rw[d] | rw[ALcf]));kernel_rfl))
end
section
theorem Ed{α β:Type}{en:α→List Value}{z:List Value}{T:TypeId}{b:β→List Value}{e:List Value}{c:TypeId}{S:ah→Prop}{L:ah}{ds:List av}(d:S (L++[.p (ao en z T (.slice none 0 0) ([]:List α)),.p (ao b e c (.slice none 0 0) ([]:List β))]))(h:bk L ds): ∃a,bk [pk S] a∧a.flatten=ds.flatten:=
 ⟨[ds.flatten],⟨⟨_,ds++[[],[]],d,jJ h ⟨ao.nil none,ao.nil none,trivial⟩,by simp⟩,trivial⟩,by simp⟩
theorem QE(c:Cf)(a:dd c):aa UZ 112 #[.agg #[iN c.R,iN c.S,iN c.B,iN c.M,iN c.C],iN c.E] [] [] (λE=>[pk (fL (E.y 0) c rz)]) (λE=> .tuple #[pt (E.y 0) 0,i6 0]):=(Qw c a).outs λE d b=>Ed ⟨_,_,_,rfl⟩ b
structure Ac where
 wr:Bool
 ix:Int
 wt:Int
 dr:Bool
 ex:Int
 mr:Bool
def eS:Ac:=⟨false,0,0,false,0,false⟩
def ye(x:Ac):List Value:=[.bool x.wr,i6 x.ix,i6 x.wt,.bool x.dr,i6 x.ex,.bool x.mr]
def rE:Kd UZ Ac:=⟨ye,[.bool false,i6 0,i6 0,.bool false,i6 0,.bool false],142,90,eS,6,λ_=>rfl,rfl,λ_=>rfl,dS.mk' Kr Kr rfl⟩
abbrev kv(v:Value)(xs:List Ac):aB:= .p (ao ye ([.bool false,i6 0,i6 0,.bool false,i6 0,.bool false]) 90 v xs)
def yf(x:Int):Value:= .int .i64 x
abbrev kx(f:Int→Int)(g:Nat):aB:= .p (kM yf 0 f g)
structure Dv where
 D:Dr
 Y:Int→List UInt8
 Z:Int→Int
 l:List Ac
abbrev bj(g a:Nat)(c:Cf)(V:Dv)(L:ah):Prop:=∃(gm gk:Nat) (v:Value),L=[ob g #[pt a 0,.map (some gm),.map (some gk),v] 144,pk (fL a c V.D),eD V.Y gm,kx V.Z gk,kv v V.l]
structure mX (c:Cf) (V:Dv):Prop where
 D:g8 c V.D
 gl: ∀k,(V.Y k).length=72
 ll:V.l.length≤900000
def rG:Dv:=⟨rz,λ_=>ku,λ_=>0,[]⟩
def g9(V:Dv)(i:Int)(r:List UInt8)(mk:Int):Dv:=⟨nK V.D i r,dM V.Y i r,dM V.Z i mk,V.l++[⟨true,i,UL V.D i,cR V.D,0,false⟩]⟩
def yg(c:Cf)(V:Dv)(i:Int):Ac:=⟨false,i,UL V.D i,cR V.D,((jU (c.E:Int) (b9 c V.D i) (V.Y (UL V.D i)):Nat):Int),bif !(cR V.D) then V.Z (UL V.D i)==1 else false⟩
def pJ(c:Cf)(V:Dv)(i:Int):Dv:=⟨dZ V.D,V.Y,V.Z,V.l++[yg c V i]⟩
def mY(c:Cf)(V:Dv)(f:Fa):Dv:={V with D:=j4 c V.D f}
attribute [local irreducible] jU b9 UL cR fJ
theorem QF(g b c a:Nat)(v:Value)(f:Int→Int)(i:Int):aa UZ 150 #[pt g 0,i6 i] [ob g #[pt b 0,.map (some c),.map (some a),v] 144,kx f a] [1] (λ_=>[kx f a]) (λ_=> .bool ((f i)==1)):=by
 exact fG Tryz.func150 λw cs=>r0 [] [(4,.bool false)] [] (r0 [(3,.l 0),(5,.m (mg 1 (kx f a) a i (λ_ h=>h)))] [(4,.bool ((f i)==1))] [4] (lf ab.zero [1] [(0,0)] []))
theorem yh(g a:Nat)(c:Cf)(V:Dv):aa UZ 36 #[pt g 0] [pk (bj g a c V)] [0] (λ_=>[pk (bj g a c V)]) (λ_=>pt a 0):=aa.pkZ Tryz.func36 λL d=>by
 obtain⟨gm,b,v,rfl⟩:=d;refine⟨[1,2,3,4],λ_=>[pk (fL a c V.D),eD V.Y gm,kx V.Z b,kv v V.l],?_,rfl,λE=>⟨rfl,rfl,⟨_,_,_,rfl⟩⟩⟩;exact fG Tryz.func36 λw cs=>r0 [] [(2,.pointer none)] [] (r0 [(3,.l 0)] [(2,pt a 0)] [2] (lf ab.zero [1,2,3,4] [(0,0)] []))
theorem QG(g a:Nat)(c:Cf)(V:Dv):aa UZ 42 #[pt g 0] [pk (bj g a c V)] [0] (λ_=>[pk (bj g a c V)]) (λ_=>iN V.l.length):=aa.pkZ Tryz.func42 λL d=>by
 obtain⟨gm,b,v,rfl⟩:=d;refine⟨[1,2,3,4],λ_=>[pk (fL a c V.D),eD V.Y gm,kx V.Z b,kv v V.l],?_,rfl,λE=>⟨rfl,rfl,⟨_,_,_,rfl⟩⟩⟩;exact fG Tryz.func42 λw cs=>r0 [] [(2,i6 0)] [] (r0 [(3,.l 0),(4,ew rE v V.l 4)] [(2,iN V.l.length)] [2] (lf ab.zero [1,2,3,4] [(0,0)] []))
theorem QH(g a:Nat)(c:Cf)(d:dd c)(V:Dv)(i:mX c V)(f:Fa):aa UZ 90 #[pt g 0,.agg #[i6 f.x0,i6 f.x1,i6 f.x2,i6 f.x3,i6 f.x4,i6 f.x5,i6 f.x6,i6 f.x7]] [pk (bj g a c V)] [0] (λ_=>[pk (bj g a c (mY c V f))]) (λ_=>i6 (gH c V.D f)):=aa.pkZ Tryz.func90 λL h=>by
 obtain⟨gm,e,v,rfl⟩:=h;refine⟨[1,2,3,4],λ_=>[pk (fL a c (j4 c V.D f)),eD V.Y gm,kx V.Z e,kv v V.l],?_,rfl,λE=>⟨rfl,rfl,⟨_,_,_,rfl⟩⟩⟩;exact fG Tryz.func90 λw cs=>ra (λb=>[(3,pt (B0 b) 0),(4,i6 0)]) (λb=>[ob (B0 b) #[i6 f.x0,i6 f.x1,i6 f.x2,i6 f.x3,i6 f.x4,i6 f.x5,i6 f.x6,i6 f.x7] 48]) λb=>rr (λ_=>[(3,.l 0),(4,.l 5),(5,.c [1] [1] (QD a c d V.D i.D f))]) (λ_=>[(4,i6 (gH c V.D f))]) [4] (λ_ L=>L.set 1 ((pk (fL a c (j4 c V.D f))))) λj=>lf ab.zero [1,2,3,4] [(0,0)] []
theorem Ee(g a:Nat)(c:Cf)(j:dd c)(V:Dv)(n:mX c V)(i:Int)(k:fJ c.R c.S c.B c.M c.C i=true)(r:List UInt8)(o:r.length=72)(mk:Int):aa UZ 162 #[pt g 0,i6 i,.agg (rB 72 r).toArray,i6 mk] [pk (bj g a c V)] [0] (λ_=>[pk (bj g a c (g9 V i r mk))]) (λ_=>i6 0):=aa.pkZ Tryz.func162 λL p=>by
 obtain⟨gm,d,v,rfl⟩:=p;refine⟨[0,1,2,3,4],λE=>[ob g #[pt a 0,.map (some gm),.map (some d),(E.val 0)] 144,pk (fL a c (nK V.D i r)),eD (dM V.Y i r) gm,kx (dM V.Z i mk) d,kv (E.val 0) (V.l++([(⟨true,i,(UL V.D i),cR V.D,0,false⟩:Ac)]))],?_,rfl,λE=>⟨rfl,rfl,⟨_,_,_,rfl⟩⟩⟩;have q:=n.ll;exact fG Tryz.func162 λw cs=>ra (λe=>[(6,pt (B0 e) 0),(8,i6 0)]) (λe=>[ob (B0 e) (rB 72 r).toArray 217]) λe=>rr (λ_=>[(0,.v (pt g 0)),(1,.v (pt g 0)),(2,.v (pt g 0)),(3,.m (ld 0 (pt a 0))),(4,.v (i6 i)),(5,.m (ls 5 (rB 72 r))),(6,.c [1] [1] (QB a c j V.D n.D i k r (by(simp only[LL,o,o];done)))),(7,.v (.tuple #[.agg #[i6 (UL V.D i),.bool (cR V.D)],i6 0])),(8,.v (.agg #[i6 (UL V.D i),.bool (cR V.D)])),(9,.v (i6 0)),(10,.m (al 6)),(11,.s 6),(12,.v (i6 0))]) (λf=>[(9,pt ((f 10).y 0) 0),(10,i6 0)]) [] (λf L=>L.set 1 ((pk (fL a c (nK V.D i r))))++[ob ((f 10).y 0) #[i6 (UL V.D i),.bool (cR V.D)] 88]) λf=>rF [] 22 (rs [(3,.l 0),(5,.l 5),(6,.m (mu 2 gm i pH ku V.Y r))] 2 (eD (dM V.Y i r) gm) (rs [(3,.l 0),(6,.m (mu 3 d i yf 0 V.Z mk))] 3 (kx (dM V.Z i mk) d) (rr (λb=>[(0,.v (pt g 0)),(1,.v (pt g 0)),(2,.v (pt g 0)),(3,.v (pt g 3)),(4,.m (ld 0 (v))),(5,.v (i6 i)),(6,.m (ls 6 ([i6 (UL V.D i),.bool (cR V.D)]))),(7,.v (.agg #[.bool true,i6 i,i6 (UL V.D i),.bool (cR V.D),i6 0,.bool false])),(8,.m (bs 7 1)),(9,eX rE (v) V.l 4 7 ([(⟨true,i,(UL V.D i),cR V.D,0,false⟩:Ac)])),(10,.v (pt g 0)),(11,.v (pt g 3)),(12,.m (e6 0 4 (kv ((b 9).val 0) (V.l++([(⟨true,i,(UL V.D i),cR V.D,0,false⟩:Ac)]))) ((b 9).val 0) λbs h=>ao.one ((λ_ h=>h) bs h)))]) N0 [] (λb L=>(L.set 0 (ob g #[pt a 0,.map (some gm),.map (some d),(b 9).val 0] 144)).set 4 (kv ((b 9).val 0) (V.l++([(⟨true,i,(UL V.D i),cR V.D,0,false⟩:Ac)])))++[ob ((b 8).y 0) #[.bool true,i6 i,i6 (UL V.D i),.bool (cR V.D),i6 0,.bool false] 90]) λb=>r0 [] [(8,i6 0)] [8] (lf (.l [] [] [(b 9).val 0]) [0,1,2,3,4] [] []))))
theorem QI(g a:Nat)(c:Cf)(d:dd c)(V:Dv)(h:mX c V)(i:Int)(e:fJ c.R c.S c.B c.M c.C i=true)(r:List UInt8)(f:r.length=72):aa UZ 127 #[pt g 0,i6 i,.agg (rB 72 r).toArray] [pk (bj g a c V)] [0] (λ_=>[pk (bj g a c (g9 V i r 0))]) (λ_=>i6 0):=by
 exact fG Tryz.func127 λw cs=>ra (λb=>[(5,pt (B0 b) 0),(6,i6 0)]) (λb=>[ob (B0 b) (rB 72 r).toArray 217]) λb=>rr (λ_=>[(2,.l 1),(3,.c [0] [0] (Ee g a c d V h i e r (by(simp only[LL,f,f];done)) 0))]) (λ_=>[(6,i6 0)]) [6] (λ_ L=>L.set 0 ((pk (bj g a c (g9 V i r 0))))) λj=>lf ab.zero [0] [] []
theorem QJ(g a:Nat)(c:Cf)(d:dd c)(V:Dv)(h:mX c V)(i:Int)(e:fJ c.R c.S c.B c.M c.C i=true)(r:List UInt8)(f:r.length=72):aa UZ 126 #[pt g 0,i6 i,.agg (rB 72 r).toArray] [pk (bj g a c V)] [0] (λ_=>[pk (bj g a c (g9 V i r 1))]) (λ_=>i6 0):=by
 exact fG Tryz.func126 λw cs=>ra (λb=>[(5,pt (B0 b) 0),(6,i6 0)]) (λb=>[ob (B0 b) (rB 72 r).toArray 217]) λb=>rr (λ_=>[(2,.l 1),(3,.c [0] [0] (Ee g a c d V h i e r (by(simp only[LL,f,f];done)) 1))]) (λ_=>[(6,i6 0)]) [6] (λ_ L=>L.set 0 ((pk (bj g a c (g9 V i r 1))))) λj=>lf ab.zero [0] [] []
theorem QK(g a:Nat)(c:Cf)(p:dd c)(V:Dv)(q:mX c V)(i:Int)(r:fJ c.R c.S c.B c.M c.C i=true):aa UZ 123 #[pt g 0,i6 i] [pk (bj g a c V)] [0] (λ_=>[pk (bj g a c (pJ c V i))]) (λ_=> .tuple #[.agg (rB 72 (b9 c V.D i)).toArray,i6 0]):=aa.pkZ Tryz.func123 λL u=>by
 obtain⟨gm,o,v,rfl⟩:=u;refine⟨[0,1,2,3,4],λE=>[ob g #[pt a 0,.map (some gm),.map (some o),(E.val 0)] 144,pk (fL a c (dZ V.D)),eD V.Y gm,kx V.Z o,kv (E.val 0) ((pJ c V i).l)],?_,rfl,λE=>⟨rfl,rfl,⟨_,_,_,rfl⟩⟩⟩;have x:=q.ll;have f:=nJ q.D i;have e:=q.gl (UL V.D i);have y:=p.E;refine fG Tryz.func123 λw cs=>ra (λn=>[(4,pt (B0 n) 0),(5,i6 0)]) (λn=>[ob (B0 n) (rB 72 (U0 72 0)).toArray 217]) λn=>rr (λ_=>[(0,.v (pt g 0)),(1,.v (pt g 0)),(2,.v (pt g 0)),(3,.m (ld 0 (pt a 0))),(4,.v (i6 i)),(5,.c [1] [1] (QC a c p V.D q.D i r)),(6,.v (.tuple #[.agg (rB 72 (b9 c V.D i)).toArray,.agg #[i6 (UL V.D i),.bool (cR V.D)],i6 0])),(7,.v (.agg (rB 72 (b9 c V.D i)).toArray)),(8,.v (.agg #[i6 (UL V.D i),.bool (cR V.D)])),(9,.v (i6 0)),(10,.m (al 6)),(11,.m (al 7)),(12,.s 6),(13,.s 7),(14,.v (i6 0))]) (λb=>[(6,pt ((b 10).y 0) 0),(7,pt ((b 11).y 0) 0),(8,i6 0)]) [] (λb L=>L.set 1 ((pk (fL a c (dZ V.D))))++[ob ((b 10).y 0) (rB 72 (b9 c V.D i)).toArray 217,ob ((b 11).y 0) #[i6 (UL V.D i),.bool (cR V.D)] 88]) λb=>rF [] 20 ?_;cases t:(cR V.D)
 case true=>
  exact rr (λj=>[(0,.v (pt g 0)),(1,.v (pt g 0)),(2,.v (pt g 0)),(3,.v (pt g 3)),(4,.m (ld 0 (v))),(5,.v (i6 i)),(6,.m (ls 7 ([i6 (UL V.D i),.bool true]))),(7,.v (pt g 0)),(8,.v (pt g 0)),(9,.v (pt g 0)),(10,.m (ld 0 (pt a 0))),(11,.c [1] [1] (yb a c (dZ V.D))),(12,.m (ls 6 (rB 72 (b9 c V.D i)))),(13,.v (pt g 0)),(14,.v (pt g 0)),(15,.v (pt g 1)),(16,.m (ld 0 (.map (some gm)))),(17,.v (pt ((b 11).y 0) 0)),(18,.m (ld 7 (i6 (UL V.D i)))),(19,.m (mg 2 (eD V.Y gm) gm (UL V.D i) (λ_ h=>h))),(20,.c [] [] (D3 c.E Om (b9 c V.D i) (V.Y (UL V.D i)) (by(simp only[LL,f,e];done)) (by(simp only[LL,f,e];done)))),(21,.v (pt ((b 11).y 0) 1)),(22,.m (ld 7 (.bool true))),(23,.v (.bool false)),(24,.v (.bool false)),(25,.d),(26,.d),(27,.d),(28,.d),(30,.v (.agg #[.bool false,i6 i,i6 (UL V.D i),.bool true,iN (jU (c.E:Int) (b9 c V.D i) (V.Y (UL V.D i))),.bool false])),(31,.m (bs 8 1)),(32,eX rE (v) V.l 4 8 ([(⟨false,i,(UL V.D i),true,((jU (c.E:Int) (b9 c V.D i) (V.Y (UL V.D i)):Nat):Int),false⟩:Ac)])),(33,.v (pt g 0)),(34,.v (pt g 3)),(35,.m (e6 0 4 (kv ((j 32).val 0) (V.l++([(⟨false,i,(UL V.D i),true,((jU (c.E:Int) (b9 c V.D i) (V.Y (UL V.D i)):Nat):Int),false⟩:Ac)]))) ((j 32).val 0) λbs h=>ao.one ((λ_ h=>h) bs h)))]) N0 [] (λj L=>(L.set 0 (ob g #[pt a 0,.map (some gm),.map (some o),(j 32).val 0] 144)).set 4 (kv ((j 32).val 0) (V.l++([(⟨false,i,(UL V.D i),true,((jU (c.E:Int) (b9 c V.D i) (V.Y (UL V.D i)):Nat):Int),false⟩:Ac)])))++[ob ((j 31).y 0) #[.bool false,i6 i,i6 (UL V.D i),.bool true,iN (jU (c.E:Int) (b9 c V.D i) (V.Y (UL V.D i))),.bool false] 90]) λj=>rr (λ_=>[(0,.l 6),(1,.s 5)]) (λ_=>[(5,i6 0)]) [5] (λ_ L=>L.set 5 (ob (B0 n) (rB 72 (b9 c V.D i)).toArray 217)) λz=>lf (.l [] [] [(j 32).val 0]) [0,1,2,3,4] [] [5] (hf:=by unfold pJ yg;(repeat (rw[t]));kernel_rfl)
 exact rr (λk=>[(0,.v (pt g 0)),(1,.v (pt g 0)),(2,.v (pt g 0)),(3,.v (pt g 3)),(4,.m (ld 0 (v))),(5,.v (i6 i)),(6,.m (ls 7 ([i6 (UL V.D i),.bool false]))),(7,.v (pt g 0)),(8,.v (pt g 0)),(9,.v (pt g 0)),(10,.m (ld 0 (pt a 0))),(11,.c [1] [1] (yb a c (dZ V.D))),(12,.m (ls 6 (rB 72 (b9 c V.D i)))),(13,.v (pt g 0)),(14,.v (pt g 0)),(15,.v (pt g 1)),(16,.m (ld 0 (.map (some gm)))),(17,.v (pt ((b 11).y 0) 0)),(18,.m (ld 7 (i6 (UL V.D i)))),(19,.m (mg 2 (eD V.Y gm) gm (UL V.D i) (λ_ h=>h))),(20,.c [] [] (D3 c.E Om (b9 c V.D i) (V.Y (UL V.D i)) (by(simp only[LL,f,e];done)) (by(simp only[LL,f,e];done)))),(21,.v (pt ((b 11).y 0) 1)),(22,.m (ld 7 (.bool false))),(23,.v (.bool true)),(24,.v (.bool true)),(25,.v (pt g 0)),(26,.v (pt ((b 11).y 0) 0)),(27,.m (ld 7 (i6 (UL V.D i)))),(28,.c [0,3] [3] (QF g a gm o v V.Z (UL V.D i))),(30,.v (.agg #[.bool false,i6 i,i6 (UL V.D i),.bool false,iN (jU (c.E:Int) (b9 c V.D i) (V.Y (UL V.D i))),.bool ((V.Z (UL V.D i))==1)])),(31,.m (bs 8 1)),(32,eX rE (v) V.l 4 8 ([(⟨false,i,(UL V.D i),false,((jU (c.E:Int) (b9 c V.D i) (V.Y (UL V.D i)):Nat):Int),(V.Z (UL V.D i))==1⟩:Ac)])),(33,.v (pt g 0)),(34,.v (pt g 3)),(35,.m (e6 0 4 (kv ((k 32).val 0) (V.l++([(⟨false,i,(UL V.D i),false,((jU (c.E:Int) (b9 c V.D i) (V.Y (UL V.D i)):Nat):Int),(V.Z (UL V.D i))==1⟩:Ac)]))) ((k 32).val 0) λbs h=>ao.one ((λ_ h=>h) bs h)))]) N0 [] (λk L=>(L.set 0 (ob g #[pt a 0,.map (some gm),.map (some o),(k 32).val 0] 144)).set 4 (kv ((k 32).val 0) (V.l++([(⟨false,i,(UL V.D i),false,((jU (c.E:Int) (b9 c V.D i) (V.Y (UL V.D i)):Nat):Int),(V.Z (UL V.D i))==1⟩:Ac)])))++[ob ((k 31).y 0) #[.bool false,i6 i,i6 (UL V.D i),.bool false,iN (jU (c.E:Int) (b9 c V.D i) (V.Y (UL V.D i))),.bool ((V.Z (UL V.D i))==1)] 90]) λk=>rr (λ_=>[(0,.l 6),(1,.s 5)]) (λ_=>[(5,i6 0)]) [5] (λ_ L=>L.set 5 (ob (B0 n) (rB 72 (b9 c V.D i)).toArray 217)) λA=>lf (.l [] [] [(k 32).val 0]) [0,1,2,3,4] [] [5] (hf:=by unfold pJ yg;(repeat (rw[t]));kernel_rfl)
end
theorem QL(c:Cf)(e:dd c):aa UZ 81 #[.agg #[iN c.R,iN c.S,iN c.B,iN c.M,iN c.C],iN c.E] [] [] (λE=>[ob (E.y 0) #[pt ((E.y 1)) 0,.map (some (E.y 2)),.map (some (E.y 3)),.slice none 0 0] 144,pk (fL (E.y 1) c rz),eD (λ_=>ku) (E.y 2),kx (λ_=>0) (E.y 3)]) (λE=> .tuple #[pt ((E.y 0)) 0,i6 0]):=by
 exact fG Tryz.func81 λw cs=>ra (λd=>[(2,pt (B0 d) 0),(4,.pointer none),(5,i6 0)]) (λd=>[ob (B0 d) #[iN c.R,iN c.S,iN c.B,iN c.M,iN c.C] 23]) λd=>rr (λ_=>[(0,.l 0),(2,.c [] [1] (QE c e))]) (λb=>[(6,pt ((B2 b)) 0),(7,i6 0)]) [] (λb L=>L++[pk (fL (B2 b) c rz)]) λb=>rF [] 15 (rr (λ_=>[(1,.m (mm 2 pH ku)),(2,.m (mm 3 yf 0))]) (λa=>[(4,pt (B4 a) 0),(5,i6 0)]) [4,5] (λa L=>L++[eD (λ_=>ku) (B1 a),kx (λ_=>0) (B2 a),ob (B4 a) #[pt ((B2 b)) 0,.map (some (B1 a)),.map (some (B2 a)),.slice none 0 0] 144]) λa=>lf (.l [(a 4).y 0,(B2 b),(a 1).y 0,(a 2).y 0] [] []) [4,1,2,3] [] [])
theorem QM(n:Nat):max (n:Int) 0=((n+0:Nat):Int):=by omega
theorem QN(c d g h j i n:Nat)(v:Value)(l:List Ac)(bs:av)(f:aJ ye v l bs)(G:l.length≤1000000)(u:n≤1000000):eT 5 UZ 60 #[pt c 0,pt d 0] (λ(x:Nat×Ac)=>#[i6 (x.1:Int),.agg #[.bool (x.2.wr),i6 (x.2.ix),i6 (x.2.wt),.bool (x.2.dr),i6 (x.2.ex),.bool (x.2.mr)]]) ((Vi (l.length-n)).map λk=>(n+k,l.getD (n+k) eS)) (VK [[(c,.cells #[iN n] 3 (0,0))],[(d,.cells #[pt g 0] 84 (0,0))],[(g,.cells #[pt h 0,.map (some j),.map (some i),v] 144 (0,0))],bs]):=by
 refine gi (KO:=[[(c,.cells #[iN n] 3 (0,0))],[(d,.cells #[pt g 0] 84 (0,0))],[(g,.cells #[pt h 0,.map (some j),.map (some i),v] 144 (0,0))],bs]) Tryz.func60 (λw z y F C m r q=>?_);refine r0 [(0,.l 0),(1,.t (tv (Builtin.max_ #[3,3] 3 #[iN n,i6 0]) (λ_=>qj _ _ _ _)))] [(4,i6 (max (n:Int) 0))] [] ?_;refine jv (λk=>k≤(l.length-n)) (λk=>[(4,iN (n+k))]) (λ_ L=>L) (λk=>(l.length-n)-k) (λk=>k) 0 Om q (by rw[QM];kernel_rfl) Kr (λk A D s b=>?_);refine r0 [(1,.l 1),(4,.l 2),(5,ey f.1 3)] [(13,.bool (decide (((n+k:Nat):Int)<(l.length:Int))))] [] ?_;refine b4 ((n+k:Nat):Int) (l.length:Int) (λp e=>?_) λp e=>?_
 ·refine iy m r b 9 (λ_=>[(2,.l 1),(5,.l 2),(7,e7 f.1 3 (n+k) 6),(8,mG rE f.1 3 (n+k) 0 6)]) (λ_=>[(16,.func (.yield w) #[] #[]),(17,iN (n+k)),(24,.agg #[.bool ((l.getD (n+k) eS).wr),i6 ((l.getD (n+k) eS).ix),i6 ((l.getD (n+k) eS).wt),.bool ((l.getD (n+k) eS).dr),i6 ((l.getD (n+k) eS).ex),.bool ((l.getD (n+k) eS).mr)])]) [] (λ_ L=>L) N0 [0,1,2,3] (nX Om) (λH B o a=>?_);refine cF _ rfl (r0 [(1,ad (n+k) 1)] [(4,iN ((n+k)+1))] [4] ?_);exact ia (k+1) Om a Om Kr [0,1,2,3] Kr
 refine jw ?_;exact kk m b (by(rw[U8,Vj];omega)) [] [0,1,2,3]
theorem QO(g n:Nat):aa UZ 31 #[pt g 0,iN n] [] [] (λE=>[ob (E.y 0) #[iN n] 3,ob (E.y 1) #[pt g 0] 84]) (λE=> .func (.func 60) #[] #[pt ((E.y 0)) 0,pt ((E.y 1)) 0]):=by
 exact fG Tryz.func31 λw cs=>ra (λa=>[(2,pt (B0 a) 0),(3,pt (B1 a) 0),(4,.nilFunc)]) (λa=>[ob (B0 a) #[pt g 0] 84,ob (B1 a) #[iN n] 3]) λa=>r0 [] [(4,.func (.func 60) #[] #[pt (B1 a) 0,pt (B0 a) 0])] [4] (lf (.l [(a 1).y 0,(a 0).y 0] [] []) [1,0] [] [])
def oM(a:Ac):Bool:=a.dr||(a.wt != a.ix)
theorem QP(x:Ac):aa UZ 32 #[.agg #[.bool x.wr,i6 x.ix,i6 x.wt,.bool x.dr,i6 x.ex,.bool x.mr]] [] [] N0 (λ_=> .bool (oM x)):=by
 exact fG Tryz.func32 λw cs=>ra (λa=>[(1,pt (B0 a) 0),(2,.bool false)]) (λa=>[ob (B0 a) #[.bool x.wr,i6 x.ix,i6 x.wt,.bool x.dr,i6 x.ex,.bool x.mr] 90]) λa=>r0 [(0,.v (pt (B0 a) 2)),(1,.v (pt (B0 a) 3)),(2,.m (ld 0 (.bool x.dr))),(3,.v (.bool x.dr)),(4,.v (pt (B0 a) 2)),(5,.v (pt (B0 a) 2)),(6,.m (ld 0 (i6 x.wt))),(7,.v (pt (B0 a) 1)),(8,.m (ld 0 (i6 x.ix))),(9,.v (.bool (x.wt != x.ix))),(11,.v (.bool (x.dr||(x.wt != x.ix))))] [(2,.bool (x.dr||(x.wt != x.ix)))] [2] (ak (.bool (x.dr||(x.wt != x.ix))) ab.zero a7 [] [] [])
theorem QQ(c:Cf)(a:dd c):aa UZ 81 #[.agg #[iN c.R,iN c.S,iN c.B,iN c.M,iN c.C],iN c.E] [] [] (λE=>[pk (bj (E.y 0) (E.y 1) c rG)]) (λE=> .tuple #[pt (E.y 0) 0,i6 0]):=(QL c a).outs λE d b=>xN (S:=bj (E.y 0) (E.y 1) c rG) ⟨_,_,_,rfl⟩ b
theorem eT.mono{α:Type}{n:Nat}{P:Program}{j:Nat}{k:Array Value}{encs:α→Array Value}{xs:List α}{KO a:av}(h:eT n P j k encs xs KO)(hs:KO.Sublist a):eT n P j k encs xs a:=by
 intro l J m W O c t g u v r;refine h l J m W O ⟨λx d=>c.obj x (hs.subset d),c.nd.sublist hs⟩ t g u (λi x p q d z B=>(v i x p q d z B).mono λe C y=>?_) r;obtain⟨o,f,s⟩:=y;exact⟨o,⟨f.size,f.old,f.new,λb w A=>f.keep b w (A.imp id λ⟨x,d,e⟩=>⟨x,hs.subset d,e⟩)⟩,s⟩
section
section
variable {P:Program} {f:FuncId} {args:Array Value} {rd:ah} {wt:ab→ah} {v:ab→Value}
theorem aa.sub(h:aa P f args rd [] wt v){L:ah}(js:List Nat)(d:(cZ js,js.map λj=>L[j]?)=(true,rd.map some)):aa P f args L [] wt v:=by
 have r:=m7 (ALca (·.1) d);have d:=ALca (·.2) d;simp only at d;refine⟨h.ent,λw cs p o=>?_⟩;have n:=p8 o.nd;have q: ∀(js:List Nat) (rd:ah),js.map (λj=>L[j]?)=rd.map some→bk rd (js.map λj=>cs.getD j []):=by
  intro js
  induction js with
  | nil=>intro rd e;cases rd with
   | nil=>trivial
   | cons x rd=>cases e
  | cons j js ih=>intro rd e;cases rd with
   | nil=>cases e
   | cons x rd=>
    rw[VJ,VJ,List.cons.injEq] at e;exact⟨mw p e.1,ih rd e.2⟩
 have k: ∀j∈js,j<cs.length:=by
  intro j c;have:L[j]?∈js.map λj=>L[j]? :=List.mem_map_of_mem c;rw[d] at this;obtain⟨x,_,e⟩:=List.mem_map.1 this;rw[←iV p];exact(List.getElem?_eq_some_iff.1 e.symm).1
 have:=h.out w (js.map λj=>cs.getD j []) (q js rd d) ⟨λy m=>?_,?_⟩
 ·simpa using this
 ·obtain⟨l,i,m⟩:=List.mem_flatten.1 m;obtain⟨j,c,rfl⟩:=List.mem_map.1 i;exact o.obj y (List.mem_flatten.2 ⟨_,m8 (k j c),m⟩)
 ·refine List.pairwise_flatten.2 ⟨λl i=>?_,?_⟩
  ·obtain⟨j,_,rfl⟩:=List.mem_map.1 i;exact n.1 j
  ·exact List.Pairwise.map _ (λa b g=>n.2 a b g) r
end
abbrev dC(g:Nat)(L:ah):Prop:=∃(b a f:Nat) (u:Value),L=[ob g #[pt b 0,pt a 0] 242,ob b (rB 74 (bC 10)++rI 256 (bQ 10)).toArray 298,ob a #[pt f 0,u] 309,ob f (rB 255 aQ++rN 256 aU).toArray 312,br u cQ]
theorem QR:aa UZ 115 #[] [] [] (λE=>[pk (dC (E.y 0))]) (λE=>pt (E.y 0) 0):=Li.outs λE b a=>qY (S:=dC (E.y 0)) ⟨_,_,_,_,rfl⟩ a
def gp(m:Nat)(l:List UInt8)(x:Int)(p:Bool):List UInt8:=if m=1 then fI 9 (kT l x p) 8 else fI 36 (lS l x p) 2
theorem rH(m:Nat){l:List UInt8}(a:l.length=64)(x:Int)(p:Bool):(gp m l x p).length=72:=by
 unfold gp
 split
 ·exact po (qN l x p) Dc
 ·exact po (qO a x p) Dc
def nM(m:Nat)(xs:List UInt8)(x:Int):List UInt8:=if m=1 then qL xs x else qM xs x
def nN(m:Nat)(xs:List UInt8)(x:Int):List Int:=if m=1 then(Vi 8).map (dK xs x) else(Vi 2).map (cK xs x)
def j5(m:Nat)(xs:List UInt8)(x:Int):Nat:=(jK (nN m xs x)).toNat
def gI(m:Nat)(xs:List UInt8)(x:Int):Nat:=(iE (nN m xs x)).toNat
theorem QS(xs:List UInt8)(x:Int)(k:Nat):dK xs x k≤3:=by
 unfold dK jT;generalize dj _ _=z;cases z==0<;>cases z==1<;>cases z==2<;>cases z==3<;>decide
theorem QT(m:Nat)(xs:List UInt8)(x:Int):j5 m xs x≤3:=by
 have h:jK (nN m xs x)≤3:=L1 Dc λy a=>by
  unfold nN at a
  split at a
  ·obtain⟨k,_,rfl⟩:=List.mem_map.1 a;exact QS xs x k
  ·obtain⟨k,_,rfl⟩:=List.mem_map.1 a;exact L3 xs x k
 unfold j5;omega
theorem QU(m:Nat)(xs:List UInt8)(x:Int):((j5 m xs x:Nat):Int)=jK (nN m xs x):=VC (LZ _)
theorem QV(m:Nat)(xs:List UInt8)(x:Int):((gI m xs x:Nat):Int)=iE (nN m xs x):=by
 refine VC ?_;unfold iE;cases jK (nN m xs x) != 1
 ·exact(BV _).1
 ·exact Int.le_refl _
theorem QW(m:Nat)(e:m=1∨m=2)(g:Nat)(l:List UInt8)(c:l.length=64)(x:Int)(h0: -9223372036854775808≤x)(h1:x≤9223372036854775807)(p:Bool):aa UZ 125 #[pt g 0,iN m,.agg (rB 64 l).toArray,i6 x,.bool p] [pk (dC g)] [] N0 (λ_=> .agg (rB 72 (gp m l x p)).toArray):=by
 refine aa.pkR (rest:=[]) (enters_of Tryz.func125 Kr rfl) λL d=>?_;obtain⟨b,a,f,u,rfl⟩:=d;unfold gp;rcases e with rfl | rfl
 ·exact(LW g b a l c x p).sub [0,1] rfl
 ·exact(aa.at (rd':=[ob g #[pt b 0,pt a 0] 242,ob a #[pt f 0,u] 309,ob f (rB 255 aQ++rN 256 aU).toArray 312,br u cQ]) (LX g b a f u l c x h0 h1 p) (aN (aN (aN (bN (λ_ h=>ao.sq h) λ_ h=>h))))).sub [0,2,3,4] rfl
theorem QX(m:Nat)(e:m=1∨m=2)(g:Nat)(xs:List UInt8)(c:xs.length=72)(x:Int)(h0: -9223372036854775808≤x)(h1:x≤9223372036854775807):aa UZ 124 #[pt g 0,iN m,.agg (rB 72 xs).toArray,i6 x] [pk (dC g)] [] N0 (λ_=> .tuple #[.agg (rB 64 (nM m xs x)).toArray,.agg #[i6 ((j5 m xs x:Nat):Int),i6 ((gI m xs x:Nat):Int)]]):=by
 refine aa.pkR (rest:=[]) (enters_of Tryz.func124 Kr rfl) λL d=>?_;obtain⟨b,a,f,u,rfl⟩:=d;rw[QU,QV];unfold nM nN;rcases e with rfl | rfl
 ·exact(LS g b a xs c x).sub [0,1] rfl
 ·exact(aa.at (rd':=[ob g #[pt b 0,pt a 0] 242,ob a #[pt f 0,u] 309,ob f (rB 255 aQ++rN 256 aU).toArray 312,br u cQ]) (LU g b a f u xs c x h0 h1) (aN (aN (aN (bN (λ_ h=>ao.sq h) λ_ h=>h))))).sub [0,2,3,4] rfl
theorem QY(j d b a l m o:Nat)(c:Cf)(s:Le)(K:Nat)(hs:cH s K)(t:K+3≤1000000000)(q:c.J≤65536)(n:Nt)(p:n.v≤3)(e:n.r<s.r.m.R)(u:n.h<s.r.m.R*s.r.m.B*s.r.m.M):aa UZ 163 #[pt j 0,.agg #[i6 1,iN n.v,iN n.f,iN n.i,iN n.h,iN n.r]] [ob j (lA c d b a s.time) 122,pk (aq d l m s.r),pk (aD b o s.k),pk (aA a s.g)] [1,2,3] (λ_=>[pk (aq d l m (di c.J s n).r),pk (aD b o (di c.J s n).k),pk (aA a (di c.J s n).g)]) (λ_=> .tuple #[]):=by
 obtain⟨k,v,f,i,h,r⟩:=n;simp only at p e u
 match v,p with
 | 0,_=>exact PX j d b a l m o c s K hs i h r f
 | 1,_=>exact PV j d b a l m o c s K hs t q i h r f e u
 | 2,_=>exact PY j d b a l m o c s K hs t i h r f
 | 3,_=>exact PW j d b a l m o c s K hs t q i h r f e u
theorem QZ(t m j i n o p:Nat)(c:Cf)(s:Le)(K:Nat)(hs:cH s K)(z:K+3≤1000000000)(y:c.J≤65536)(d e h a b:Nat)(u:d≤3)(x:b<s.r.m.R)(A:a<s.r.m.R*s.r.m.B*s.r.m.M):aa UZ 128 #[pt t 0,.agg #[i6 1,iN d,iN e,iN h,iN a,iN b]] [ob t (lA c m j i s.time) 122,pk (aq m n o s.r),pk (aD j p s.k),pk (aA i s.g)] [1,2,3] (λ_=>[pk (aq m n o (di c.J s (⟨1,d,e,h,a,b⟩:Nt)).r),pk (aD j p (di c.J s (⟨1,d,e,h,a,b⟩:Nt)).k),pk (aA i (di c.J s (⟨1,d,e,h,a,b⟩:Nt)).g)]) (λ_=> .tuple #[]):=by
 refine fG Tryz.func128 λw cs=>ra (λq=>[(3,pt (B0 q) 0)]) (λq=>[ob (B0 q) #[i6 1,iN d,iN e,iN h,iN a,iN b] 81]) λq=>r0 [(1,.l 4)] [(8,i6 1)] [] (rT [] 9 (rr (λ_=>[(1,.l 4),(2,.c [0,1,2,3] [1,2,3] (QY t m j i n o p c s K hs z y (⟨1,d,e,h,a,b⟩:Nt) u x A))]) N0 [] (λ_ L=>((L.set 1 ((pk (aq m n o (di c.J s (⟨1,d,e,h,a,b⟩:Nt)).r)))).set 2 ((pk (aD j p (di c.J s (⟨1,d,e,h,a,b⟩:Nt)).k)))).set 3 ((pk (aA i (di c.J s (⟨1,d,e,h,a,b⟩:Nt)).g)))) λB=>?_));exact eh ab.zero [1,2,3] [(0,0)] []
theorem Q2(e d a b i j g:Nat)(c:Cf)(s:Le)(K:Nat)(hs:cH s K)(k:s.time≤1000000000000000):aa UZ 128 #[pt e 0,.agg #[i6 2,i6 0,i6 0,i6 0,i6 0,i6 0]] [ob e (lA c d a b s.time) 122,pk (aq d i j s.r),pk (aD a g s.k),pk (aA b s.g)] [0,1,2,3] (λ_=>[ob e (lA c d a b ((s.time+1:Nat))) 122,pk (aq d i j s.r),pk (aD a g (l8 s.k)),pk (aA b s.g)]) (λ_=> .tuple #[]):=by
 refine fG Tryz.func128 λw cs=>ra (λh=>[(3,pt (B0 h) 0)]) (λh=>[ob (B0 h) #[i6 2,i6 0,i6 0,i6 0,i6 0,i6 0] 81]) λh=>r0 [(1,.l 4)] [(8,i6 2)] [] (rF [] 9 (rT [] 14 (rs [(3,.l 0),(4,ad s.time 1),(7,.s 0)] 0 (ob e (lA c d a b ((s.time+1:Nat))) 122) (rs [(3,.l 0),(4,.c [2] [2] (Pb a g s.k hs.k))] 2 ((pk (aD a g (l8 s.k)))) ?_))));exact eh ab.zero [0,1,2,3] [] []
theorem Q3(q a n j d i p:Nat)(c:Cf)(s:Le)(K:Nat)(hs:cH s K)(C:K+257≤1000000000)(u:s.r.j.A≠0)(x:s.r.j.nx<gj s.r.j.A s.r.m.B s.r.m.M s.r.m.C):aa UZ 128 #[pt q 0,.agg #[i6 3,i6 0,i6 0,i6 0,i6 0,i6 0]] [ob q (lA c a n j s.time) 122,pk (aq a d i s.r),pk (aD n p s.k),pk (aA j s.g)] [1,2,3] (λ_=>[pk (aq a d i (g5 s).r),pk (aD n p (g5 s).k),pk (aA j (g5 s).g)]) (λ_=> .tuple #[]):=by
 have B:=hs.n;have b:=DI hs.r u x;have A:=hs.r;refine fG Tryz.func128 λw cs=>ra (λt=>[(3,pt (B0 t) 0)]) (λt=>[ob (B0 t) #[i6 3,i6 0,i6 0,i6 0,i6 0,i6 0] 81]) λt=>r0 [(1,.l 4)] [(8,i6 3)] [] (rF [] 9 (rF [] 14 (rT [] 28 (r0 [(3,.l 0),(4,.c [1] [1] (xH a d i s.r A))] [(4,iN s.r.j.A)] [] (rr (λ_=>[(3,.l 0),(4,.c [1] [1,5] (Of a d i s.r hs.r u x))]) (λo=>[(5,(o 4).val 0)]) [] (λo L=>L.set 1 ((pk (aq a d i (fg s.r).1)))++[bf ((o 4).val 0) ((fg s.r).2)]) λo=>rr (λ_=>[(3,.c [0,1,2,3,5] [1,2,3] (aa.at (rd':=[ob q (lA c a n j s.time) 122,pk (aq a d i (fg s.r).1),pk (aD n p s.k),pk (aA j s.g),bf ((o 4).val 0) ((fg s.r).2)]) (oJ q a n j d i p c s.time ((fg s.r).1) b.1 s.k hs.k s.g hs.g s.r.j.A ((o 4).val 0) ((fg s.r).2) (by have y:=b.2.1;omega) (by have y:=b.2.1;omega) (λe z=>(b.2.2 e z).ly (uG s.r)) (hs.rk.trans (uG s.r).R.symm)) (aN (aN (aN (aN (bN (λ_ h=>ao.sq h) (λ_ h=>h))))))))]) N0 [] (λ_ L=>((L.set 1 ((pk (aq a d i ((fg s.r).1))))).set 2 ((pk (aD n p (e3 s.r.j.A s.k ((fg s.r).2)))))).set 3 ((pk (aA j (eu ((fg s.r).1).m s.r.j.A s.time s.g ((fg s.r).2)))))) λD=>?_)))));exact eh ab.zero [1,2,3] [(0,0)] [] (hf:=by kernel_rfl)
theorem Q4(g e d a h i j:Nat)(c:Cf)(s:Le)(K:Nat)(hs:cH s K):aa UZ 128 #[pt g 0,.agg #[i6 4,i6 0,i6 0,i6 0,i6 0,i6 0]] [ob g (lA c e d a s.time) 122,pk (aq e h i s.r),pk (aD d j s.k),pk (aA a s.g)] [1,2,3] (λ_=>[pk (aq e h i s.r),pk (aD d j s.k),pk (aA a (jD s.g))]) (λ_=> .tuple #[]):=by
 refine fG Tryz.func128 λw cs=>ra (λb=>[(3,pt (B0 b) 0)]) (λb=>[ob (B0 b) #[i6 4,i6 0,i6 0,i6 0,i6 0,i6 0] 81]) λb=>r0 [(1,.l 4)] [(8,i6 4)] [] (rF [] 9 (rF [] 14 (rF [] 28 (rT [] 48 (rs [(3,.l 0),(4,.c [3] [3] (Ov a s.g))] 3 ((pk (aA a (jD s.g)))) ?_)))));exact eh ab.zero [1,2,3] [(0,0)] []
end
section
structure rJ (c:Cf) (m:Mp):Prop where
 R:m.R=c.R
 S:m.S=c.S
 B:m.B=c.B
 M:m.M=c.M
 C:m.C=c.C
 G:m.G=c.G
 res:m.res=c.res
theorem rJ.tr{c:Cf}{m a:Mp}(h:rJ c m)(e:eC m a):rJ c a:=⟨e.R.trans h.R,e.S.trans h.S,e.B.trans h.B,e.M.trans h.M,e.C.trans h.C,e.G.trans h.G,e.res.trans h.res⟩
def gJ(r:Rp):Prop:=r.j.A≠0→r.j.nx<gj r.j.A r.m.B r.m.M r.m.C
theorem Ef{m:Mp}(h:bn m){k:Nat}(b:k=1∨k=2):0<gj k m.B m.M m.C:=by
 have a:=h.O.bd;rcases b with rfl | rfl
 ·exact a.c1
 ·exact Nat.mul_pos (Nat.mul_pos a.b1 a.m1) a.c1
theorem Eg{r:Rp}(d:bn r.m){a:Ak}(g:ek r.m a)(h:gJ r):gJ (dc r a):=by
 have e:=Ef d (.inl rfl);have f:=Ef d (.inr rfl);unfold dc;rcases g.k with⟨b,_⟩ | ⟨b,_⟩
 ·rw[b];show gJ (bif du r.m then _ else _);cases du r.m
  ·exact h
  ·exact λ_=>e
 ·rw[b];show gJ (bif ei r.m then _ else _);cases ei r.m
  ·exact h
  ·exact λ_=>f
theorem Eh{r:Rp}(d:a2 r){a:Ak}(b:ek r.m a)(h:gJ r):gJ (bp r a):=by
 unfold bp;cases c6 r a
 ·cases r.j.A==0
  ·exact h
  ·exact Eg d.m b h
 ·exact h
theorem Ei{r:Rp}(a:Ak)(h:r.j.A≠0):(bp r a).j=r.j∧(bp r a).m=r.m:=by
 unfold bp;cases c6 r a
 ·rw[show(r.j.A==0)=false from dR.2 h];exact⟨rfl,rfl⟩
 ·exact⟨rfl,rfl⟩
theorem Q5{s:Rp×List Ev}(a:a2 s.1)(d:0<s.1.q.length)(h:gJ s.1):gJ (gU s).1:=by
 have b:=ru a d;unfold gU;cases c6 (a1 s.1) (s.1.q.headD aH)
 ·exact Eg (r:=a1 s.1) a.m ⟨b.k⟩ h
 ·exact h
theorem Ej: ∀(n:Nat) (s:Rp×List Ev),n=s.1.q.length→a2 s.1→gJ s.1→gJ (eZ n s).1
 | 0,s,_,_,h=>h
 | n+1,s,d,b,h=>by
  unfold eZ
  split
  ·have a:0<s.1.q.length:=by omega
   exact Ej n (gU s) (by rw[xD,VG];omega) (xC b a) (Q5 b a h)
  ·exact h
theorem Q6{r:Rp}(f:a2 r)(b:r.j.A≠0)(h:gJ r):gJ (fg r).1:=by
 have d:=h b;unfold fg;cases a:kZ r.m (bE r).j
 ·intro _;unfold kZ at a;have g: ¬(r.j.nx+1=gj r.j.A r.m.B r.m.M r.m.C):=by
   intro e;rw[Bool.and_eq_false_iff] at a;rcases a with a | a
   ·exact absurd (of_decide_eq_false a) (λq=>q b)
   ·exact of_decide_eq_false a e
  show r.j.nx+1<gj r.j.A r.m.B r.m.M r.m.C;omega
 ·exact Ej _ (ae (bE r)) (by unfold ae jk;rfl) (um (uq f b d) b) (λq=>absurd rfl q)
theorem Q7{s:Le}{K b a w:Nat}(x:Re)(h:cH s K)(f:b<s.r.m.R)(e:a<s.r.m.R*s.r.m.B*s.r.m.M)(d:gJ s.r):gJ (fK s b a w x).r:=by
 unfold fK;cases cC s.k.lp (cX s.k.t a).l w
 ·exact d
 ·exact Eh h.r ⟨.inl ⟨rfl,e⟩⟩ d
theorem Ek{s:Le}{K a b w:Nat}(x:Re)(h:cH s K)(d:a<s.r.m.R)(f:b<s.r.m.R*s.r.m.B*s.r.m.M)(i:K+3≤1000000000)(j:gJ s.r):gJ (eR s a b w x).r:=by
 have g:=DM (w:=w) x h d f i;have e:=Q7 (w:=w) x h d f j;unfold eR;cases cC s.k.lr (s.k.F.getD a bh).l w
 ·exact e
 ·exact Eh g.r ⟨.inr ⟨rfl,by rw[(uL s a b w x).R];exact d⟩⟩ e
theorem Q8{heavy K:Nat}{s:Le}{n:Nt}(h:cH s K)(e:n.r<s.r.m.R)(d:n.h<s.r.m.R*s.r.m.B*s.r.m.M)(b:K+3≤1000000000)(a:gJ s.r):gJ (di heavy s n).r:=by
 unfold di
 split
 ·exact a
 split
 ·exact Ek _ h e d b a
 split
 ·exact a
 ·exact Ek _ h e d b a
theorem Q9(s:Le)(b a w:Nat)(x:Re)(h:s.r.j.A≠0):(fK s b a w x).r.j=s.r.j∧(fK s b a w x).r.m=s.r.m:=by
 unfold fK;cases cC s.k.lp (cX s.k.t a).l w
 ·exact⟨rfl,rfl⟩
 ·exact Ei (r:=s.r) _ h
theorem El(s:Le)(a b w:Nat)(x:Re)(h:s.r.j.A≠0):(eR s a b w x).r.j=s.r.j∧(eR s a b w x).r.m=s.r.m:=by
 have d:=Q9 s a b w x h;unfold eR;cases cC s.k.lr (s.k.F.getD a bh).l w
 ·exact d
 ·have e:=Ei (r:=(fK s a b w x).r) ⟨2,a⟩ (by rw[d.1];exact h);exact⟨e.1.trans d.1,e.2.trans d.2⟩
theorem Em(heavy:Nat)(s:Le)(n:Nt)(h:s.r.j.A≠0):(di heavy s n).r.j=s.r.j∧(di heavy s n).r.m=s.r.m:=by
 unfold di
 split
 ·exact⟨rfl,rfl⟩
 split
 ·exact El _ _ _ _ _ h
 split
 ·exact⟨rfl,rfl⟩
 ·exact El _ _ _ _ _ h
theorem Ra{R S B M C a p1 p2 p3:Nat}(b:cu R S B M C)(h:gS R S B M C a p1 p2 p3):fJ R S B M C ((bT a p1 p2 p3:Nat):Int)=true:=by
 rw[←tZ];refine yc b (tT.2 ?_);have:=h.h0;have:=h.h1;have:=h.h2;have:=h.h3;omega
structure jm (R S B M C i:Nat):Prop where
 ex: ∃p0 p1 p2 p3,i=bT p0 p1 p2 p3∧gS R S B M C p0 p1 p2 p3
theorem jm.has{R S B M C i:Nat}(h:jm R S B M C i)(a:cu R S B M C):fJ R S B M C (i:Int)=true:=by
 obtain⟨d,e,f,g,rfl,b⟩:=h.ex;exact Ra a b
theorem jm.bd{R S B M C i:Nat}(h:jm R S B M C i)(a:cu R S B M C):i<8388608:=by
 obtain⟨d,e,f,g,rfl,b⟩:=h.ex;exact xk a.bd b
theorem Rb(m:Mp)(p i:Nat):bq m p*64+i=bT (kV m p) (fx m.G m.R m.B m.M p) (fw m.G m.R m.B m.M p) i:=by unfold bq bT;omega
theorem yi{m:Mp}(h:bn m){p i:Nat}(hp:p<m.R*m.B*m.M)(b:i<m.C):jm m.R m.S m.B m.M m.C (ba m 1 p i):=by
 have a:=ue h hp;exact⟨_,_,_,_,Rb m p i,a.h0,a.h1,a.h2,b⟩
theorem yj{m:Mp}(h:bn m){r i:Nat}(b:r<m.R+m.S)(a:i<m.B*m.M*m.C):jm m.R m.S m.B m.M m.C (ba m 2 r i):=⟨_,_,_,_,rfl,ui h b a⟩
theorem Rc{m:Mp}{j:Jb}(h:bn m)(b:rn m j){n:Nat}(d:n<(m.R*m.B*m.M-m.res)*m.C):jm m.R m.S m.B m.M m.C (aR m j n):=by
 have a:jm m.R m.S m.B m.M m.C (eO m n):=⟨_,_,_,_,CH m n,CI h d⟩;rcases b.k with e | ⟨e,b⟩ | ⟨e,b⟩
 ·rw[e];exact a
 ·unfold aR;rw[e];show jm _ _ _ _ _ (if ay m n=j.fr then _ else _)
  split
  ·split
   ·exact yi h b.ht (Nat.mod_lt _ h.O.bd.c1)
   ·exact a
  ·exact a
 ·unfold aR;rw[e];show jm _ _ _ _ _ (if aK m.G m.R m.B m.M (ay m n)=j.fr then _ else _)
  split
  ·split
   ·have:=b.t1;have:=h.rk;exact yj h Om (xv h d)
   ·exact a
  ·exact a
structure Ct where
 s:Le
 U:Nat
 ns:List Nt
 V:Dv
structure bI (c:Cf) (x:Ct) (K A:Nat):Prop where
 cf:dd c
 s:cH x.s K
 D:g8 c x.V.D
 gl: ∀k,(x.V.Y k).length=72
 vl:x.V.l.length≤A
 nl:x.ns.length≤A
 ly:rJ c x.s.r.m
 run:gJ x.s.r
 U:x.U<(c.R*c.B*c.M-c.res)*c.C
 time:x.s.time≤1099511627776
theorem bI.mono{c:Cf}{x:Ct}{K A b a:Nat}(h:bI c x K A)(d:K≤b)(hA:A≤a):bI c x b a:=⟨h.cf,h.s.mono d,h.D,h.gl,U5 h.vl hA,U5 h.nl hA,h.ly,h.run,h.U,h.time⟩
theorem bI.dv{c:Cf}{x:Ct}{K A:Nat}(h:bI c x K A)(hA:A≤900000):mX c x.V:=⟨h.D,h.gl,U5 h.vl hA⟩
theorem dd.O{c:Cf}(h:dd c):cu c.R c.S c.B c.M c.C:=h.ly.O
theorem jm.lay{c:Cf}{m:Mp}(e:rJ c m){i:Nat}(h:jm m.R m.S m.B m.M m.C i):jm c.R c.S c.B c.M c.C i:=by rw[e.R,e.S,e.B,e.M,e.C] at h;exact h
def oN(c:Cf)(x:Ct)(i:Nat)(l:List UInt8)(p:Bool):Ct:={x with V:=g9 x.V (i:Int) (gp c.E l (i:Int) p) (bif p then 1 else 0)}
def k7(c:Cf)(x:Ct)(i:Nat):List UInt8:=b9 c x.V.D (i:Int)
def bM(c:Cf)(x:Ct)(i:Nat):Nat:=j5 c.E (k7 c x i) (i:Int)
def cN(c:Cf)(x:Ct)(i:Nat):List UInt8:=nM c.E (k7 c x i) (i:Int)
def nO(c:Cf)(x:Ct)(i h r:Nat):Nt:=⟨1,bM c x i,gI c.E (k7 c x i) (i:Int),i,h,r⟩
def b0(c:Cf)(x:Ct)(i h r:Nat):Ct:=⟨⟨(di c.J x.s (nO c x i h r)).r,(di c.J x.s (nO c x i h r)).k,(di c.J x.s (nO c x i h r)).g,x.s.time⟩,x.U,x.ns++[nO c x i h r],pJ c x.V (i:Int)⟩
def bc(x:Ct)(n:Nat):Nat:=aR x.s.r.m x.s.r.j n
def mh(x:Ct)(n:Nat):Nat:=ay x.s.r.m n
def mi(x:Ct)(n:Nat):Nat:=aK x.s.r.m.G x.s.r.m.R x.s.r.m.B x.s.r.m.M (ay x.s.r.m n)
def k8(c:Cf)(x:Ct)(n:Nat):Ct:=b0 c x (bc x n) (mh x n) (mi x n)
def ky(x y:Ct):Ct:=⟨⟨y.s.r,y.s.k,y.s.g,x.s.time⟩,x.U,y.ns,y.V⟩
def cO(c:Cf)(x:Ct)(n:Nat)(a:Bool):Ct:=ky x<| bif (((bM c x (bc x n):Nat):Int)==1)&&a then oN c (k8 c x n) (bc x n) (cN c x (bc x n)) false else k8 c x n
def cd(k:Nat):Int:=bif (k:Int)==3 then 40 else bif (k:Int)==2 then 41 else 0
section
variable {c:Cf} {x:Ct} {K A:Nat}
theorem oO(m:Nat){xs:List UInt8}(a:xs.length=72)(x:Int):(nM m xs x).length=64:=by
 unfold nM qL qM
 split
 ·cases decide (2≤jK ((Vi 8).map (dK xs x)))
  ·exact lP _ _ _
  ·exact U3
 ·cases decide (2≤jK ((Vi 2).map (cK xs x)))
  ·exact xg (tO a x) (Vg 2)
  ·exact U3
theorem pK(h:bI c x K A){i:Nat}{l:List UInt8}(a:l.length=64)(p:Bool):bI c (oN c x i l p) K (A+1):=by
 refine⟨h.cf,h.s,D9 h.D _ (rH _ a _ _),rC h.gl _ (rH _ a _ _),?_,Vk h.nl,h.ly,h.run,h.U,h.time⟩;show(x.V.l++[_]).length≤A+1;rw[U1];exact Va h.vl
theorem yl(h:bI c x K A){i b r:Nat}(f:r<x.s.r.m.R)(e:b<x.s.r.m.R*x.s.r.m.B*x.s.r.m.M)(d:K+3≤1000000000):bI c (b0 c x i b r) (K+3) (A+1):=by
 have a:=PO (heavy:=c.J) (n:=nO c x i b r) h.s f e d;refine⟨h.cf,⟨a.r,a.k,a.g,a.n,a.rk⟩,rA h.D,h.gl,?_,?_,h.ly.tr (PN c.J x.s (nO c x i b r)),Q8 (heavy:=c.J) (n:=nO c x i b r) h.s f e d h.run,h.U,h.time⟩
 ·show(x.V.l++[_]).length≤A+1;rw[U1];exact Va h.vl
 ·show(x.ns++[_]).length≤A+1;rw[U1];exact Va h.nl
theorem uO(h:bI c x K A){n:Nat}(d:n<(c.R*c.B*c.M-c.res)*c.C):bc x n<8388608∧fJ c.R c.S c.B c.M c.C ((bc x n:Nat):Int)=true∧mh x n<x.s.r.m.R*x.s.r.m.B*x.s.r.m.M∧mi x n<x.s.r.m.R∧n<(x.s.r.m.R*x.s.r.m.B*x.s.r.m.M-x.s.r.m.res)*x.s.r.m.C:=by
 have a:n<(x.s.r.m.R*x.s.r.m.B*x.s.r.m.M-x.s.r.m.res)*x.s.r.m.C:=by rw[h.ly.R,h.ly.B,h.ly.M,h.ly.C,h.ly.res];exact d
 have b:=(Rc h.s.r.m h.s.r.j a).lay h.ly;exact⟨b.bd h.cf.O,b.has h.cf.O,ug h.s.r.m a,rj h.s.r.m.O,a⟩
theorem uP(h:bI c x K A){n:Nat}(a:n<(c.R*c.B*c.M-c.res)*c.C)(b:K+3≤1000000000):bI c (k8 c x n) (K+3) (A+1):=yl h (uO h a).2.2.2.1 (uO h a).2.2.1 b
theorem bI.fix{y:Ct}{b a:Nat}(h:bI c x K A)(g:bI c y b a):bI c (ky x y) b a:=⟨g.cf,⟨g.s.r,g.s.k,g.s.g,g.s.n,g.s.rk⟩,g.D,g.gl,g.vl,g.nl,g.ly,g.run,h.U,h.time⟩
theorem En(h:bI c x K A){n:Nat}(e:n<(c.R*c.B*c.M-c.res)*c.C)(a:Bool)(d:K+3≤1000000000):bI c (cO c x n a) (K+3) (A+2):=by
 have b:=uP h e d;unfold cO;refine h.fix ?_;cases (((bM c x (bc x n):Nat):Int)==1)&&a
 ·exact b.mono (Vg _) (Nat.le_succ _)
 ·exact pK b (oO _ (nJ h.D _) _) false
end
end
def Rd:Nt:=⟨0,0,0,0,0,0⟩
def Eo(x:Nt):List Value:=[iN x.k,iN x.v,iN x.f,iN x.i,iN x.h,iN x.r]
def uQ:Kd UZ Nt:=⟨Eo,[i6 0,i6 0,i6 0,i6 0,i6 0,i6 0],117,81,Rd,6,λ_=>rfl,rfl,λ_=>rfl,dS.mk' Kr Kr rfl⟩
abbrev b3(v:Value)(xs:List Nt):aB:= .p (ao Eo ([i6 0,i6 0,i6 0,i6 0,i6 0,i6 0]) 81 v xs)
abbrev aT(h e g j k d l b a i f:Nat)(c:Cf)(x:Ct)(L:ah):Prop:=∃v:Value,L=[ob h #[pt e 0,pt a 0,pt f 0,iN x.U,v] 119,ob e (lA c g d b x.s.time) 122,pk (aq g j k x.s.r),pk (aD d l x.s.k),pk (aA b x.s.g),pk (dC f),pk (bj a i c x.V),b3 v x.ns]
theorem oP(t q z y x a f g:Nat)(c:Cf)(b:dd c)(o time:Nat)(v:Value)(V:Dv)(h:mX c V)(i:Nat)(A:i<8388608)(j:fJ c.R c.S c.B c.M c.C ((i:Nat):Int)=true)(l:List UInt8)(e:l.length=64)(p:Bool):aa UZ 88 #[pt t 0,iN i,.agg (rB 64 l).toArray,.bool p] [ob t #[pt q 0,pt a 0,pt g 0,iN o,v] 119,ob q (lA c z y x time) 122,pk (dC g),pk (bj a f c V)] [2,3] (λ_=>[pk (dC g),pk (bj a f c (g9 V (i:Int) (gp c.E l (i:Int) p) (bif p then 1 else 0)))]) (λ_=> .tuple #[]):=by
 have u:=b.E;have d:=rH c.E e (i:Int) p;refine fG Tryz.func88 λw cs=>ra (λk=>[(6,pt (B0 k) 0)]) (λk=>[ob (B0 k) (rB 64 l).toArray 43]) λk=>rr (λ_=>[(3,.m (ld 0 (pt g 0))),(7,.m (ld 0 (pt q 0))),(11,.m (ld 1 (iN c.E))),(12,.m (ls 4 (rB 64 l))),(15,.c [2] [] (QW c.E u g l (by(simp only[LL,e,d,e];done)) (i:Int) Om Om p)),(16,.m (al 5)),(17,.s 5)]) (λn=>[(8,pt ((n 16).y 0) 0)]) [] (λn L=>L++[ob ((n 16).y 0) (rB 72 (gp c.E l (i:Int) p)).toArray 217]) λn=>r0 [] [(25,.bool p)] [] ?_;refine cB (p) (λr=>?_) λr=>?_
 ·refine rr (λ_=>[(3,.l 0),(5,.l 5),(6,.c [3] [3] (QJ a f c b V h (i:Int) j (gp c.E l (i:Int) p) (by(simp only[LL,e,d,e];done))))]) N0 [] (λ_ L=>L.set 3 ((pk (bj a f c (g9 V (i:Int) (gp c.E l (i:Int) p) 1))))) λB=>?_;exact eh ab.zero [2,3] [(0,0),(1,1)] [] (hf:=by(repeat (first | rw[r] | rw[ALct]));kernel_rfl)
 refine rs [(3,.l 0),(5,.l 5),(6,.c [3] [3] (QI a f c b V h (i:Int) j (gp c.E l (i:Int) p) (by(simp only[LL,e,d,e];done))))] 3 ((pk (bj a f c (g9 V (i:Int) (gp c.E l (i:Int) p) 0)))) ?_;exact eh ab.zero [2,3] [(0,0),(1,1)] [] (hf:=by(repeat (first | rw[r] | rw[ALcf]));kernel_rfl)
theorem Rf(t p q u x o y n A B:Nat)(c:Cf)(s:Le)(K:Nat)(hs:cH s K)(j:Nat)(v:Value)(ns:List Nt)(I:ns.length≤800000)(G:K+3≤1000000000)(F:c.J≤65536)(d e f a b:Nat)(C:d≤3)(D:b<s.r.m.R)(H:a<s.r.m.R*s.r.m.B*s.r.m.M):aa UZ 89 #[pt t 0,.agg #[i6 1,iN d,iN e,iN f,iN a,iN b]] [ob t #[pt p 0,pt A 0,pt B 0,iN j,v] 119,ob p (lA c q o n s.time) 122,pk (aq q u x s.r),pk (aD o y s.k),pk (aA n s.g),b3 v ns] [0,2,3,4,5] (λE=>[ob t #[pt p 0,pt A 0,pt B 0,iN j,(E.val 0)] 119,pk (aq q u x (di c.J s (⟨1,d,e,f,a,b⟩:Nt)).r),pk (aD o y (di c.J s (⟨1,d,e,f,a,b⟩:Nt)).k),pk (aA n (di c.J s (⟨1,d,e,f,a,b⟩:Nt)).g),b3 (E.val 0) (ns++([(⟨1,d,e,f,a,b⟩:Nt)]))]) (λ_=> .tuple #[]):=by
 refine fG Tryz.func89 λw cs=>ra (λz=>[(3,pt (B0 z) 0)]) (λz=>[ob (B0 z) #[i6 1,iN d,iN e,iN f,iN a,iN b] 81]) λz=>rr (λi=>[(4,.l 0),(5,.l 6),(6,.m (bs 7 1)),(7,eX uQ (v) ns 5 7 ([(⟨1,d,e,f,a,b⟩:Nt)])),(10,.m (e6 0 5 (b3 ((i 7).val 0) (ns++([(⟨1,d,e,f,a,b⟩:Nt)]))) ((i 7).val 0) λbs h=>ao.one ((λ_ h=>h) bs h)))]) N0 [] (λi L=>(L.set 0 (ob t #[pt p 0,pt A 0,pt B 0,iN j,(i 7).val 0] 119)).set 5 (b3 ((i 7).val 0) (ns++([(⟨1,d,e,f,a,b⟩:Nt)])))++[ob (B6 i) #[i6 1,iN d,iN e,iN f,iN a,iN b] 81]) λi=>rr (λ_=>[(3,.l 0),(4,.l 6),(5,.c [1,2,3,4] [2,3,4] (QZ p q o n u x y c s _ hs G F d e f a b C D H))]) N0 [] (λ_ L=>((L.set 2 ((pk (aq q u x (di c.J s (⟨1,d,e,f,a,b⟩:Nt)).r)))).set 3 ((pk (aD o y (di c.J s (⟨1,d,e,f,a,b⟩:Nt)).k)))).set 4 ((pk (aA n (di c.J s (⟨1,d,e,f,a,b⟩:Nt)).g)))) λJ=>?_;exact eh (.l [] [] [(i 7).val 0]) [0,2,3,4,5] [(1,1)] []
theorem Rg(i e g o q d j f n p:Nat)(c:Cf)(s:Le)(K:Nat)(hs:cH s K)(b:Nat)(v:Value)(ns:List Nt)(t:ns.length≤800000)(r:s.time≤1000000000000000):aa UZ 89 #[pt i 0,.agg #[i6 2,i6 0,i6 0,i6 0,i6 0,i6 0]] [ob i #[pt e 0,pt n 0,pt p 0,iN b,v] 119,ob e (lA c g d f s.time) 122,pk (aq g o q s.r),pk (aD d j s.k),pk (aA f s.g),b3 v ns] [0,1,2,3,4,5] (λE=>[ob i #[pt e 0,pt n 0,pt p 0,iN b,(E.val 0)] 119,ob e (lA c g d f ((s.time+1:Nat))) 122,pk (aq g o q s.r),pk (aD d j (l8 s.k)),pk (aA f s.g),b3 (E.val 0) (ns++([(⟨2,0,0,0,0,0⟩:Nt)]))]) (λ_=> .tuple #[]):=by
 refine fG Tryz.func89 λw cs=>ra (λk=>[(3,pt (B0 k) 0)]) (λk=>[ob (B0 k) #[i6 2,i6 0,i6 0,i6 0,i6 0,i6 0] 81]) λk=>rr (λa=>[(4,.l 0),(5,.l 6),(6,.m (bs 7 1)),(7,eX uQ (v) ns 5 7 ([(⟨2,0,0,0,0,0⟩:Nt)])),(10,.m (e6 0 5 (b3 ((a 7).val 0) (ns++([(⟨2,0,0,0,0,0⟩:Nt)]))) ((a 7).val 0) λbs h=>ao.one ((λ_ h=>h) bs h)))]) N0 [] (λa L=>(L.set 0 (ob i #[pt e 0,pt n 0,pt p 0,iN b,(a 7).val 0] 119)).set 5 (b3 ((a 7).val 0) (ns++([(⟨2,0,0,0,0,0⟩:Nt)])))++[ob (B6 a) #[i6 2,i6 0,i6 0,i6 0,i6 0,i6 0] 81]) λa=>rr (λ_=>[(3,.l 0),(4,.l 6),(5,.c [1,2,3,4] [1,2,3,4] (Q2 e g d f o q j c s _ hs r))]) N0 [] (λ_ L=>(L.set 1 (ob e (lA c g d f ((s.time+1:Nat))) 122)).set 3 ((pk (aD d j (l8 s.k))))) λu=>?_;exact eh (.l [] [] [(a 7).val 0]) [0,1,2,3,4,5] [] []
theorem Ep(j f i n o e p d t u:Nat)(c:Cf)(s:Le)(K:Nat)(hs:cH s K)(b:Nat)(v:Value)(ns:List Nt)(A:ns.length≤800000)(x:K+257≤1000000000)(y:s.r.j.A≠0)(z:s.r.j.nx<gj s.r.j.A s.r.m.B s.r.m.M s.r.m.C):aa UZ 89 #[pt j 0,.agg #[i6 3,i6 0,i6 0,i6 0,i6 0,i6 0]] [ob j #[pt f 0,pt t 0,pt u 0,iN b,v] 119,ob f (lA c i e d s.time) 122,pk (aq i n o s.r),pk (aD e p s.k),pk (aA d s.g),b3 v ns] [0,2,3,4,5] (λE=>[ob j #[pt f 0,pt t 0,pt u 0,iN b,(E.val 0)] 119,pk (aq i n o (g5 s).r),pk (aD e p (g5 s).k),pk (aA d (g5 s).g),b3 (E.val 0) (ns++([(⟨3,0,0,0,0,0⟩:Nt)]))]) (λ_=> .tuple #[]):=by
 refine fG Tryz.func89 λw cs=>ra (λq=>[(3,pt (B0 q) 0)]) (λq=>[ob (B0 q) #[i6 3,i6 0,i6 0,i6 0,i6 0,i6 0] 81]) λq=>rr (λa=>[(4,.l 0),(5,.l 6),(6,.m (bs 7 1)),(7,eX uQ (v) ns 5 7 ([(⟨3,0,0,0,0,0⟩:Nt)])),(10,.m (e6 0 5 (b3 ((a 7).val 0) (ns++([(⟨3,0,0,0,0,0⟩:Nt)]))) ((a 7).val 0) λbs h=>ao.one ((λ_ h=>h) bs h)))]) N0 [] (λa L=>(L.set 0 (ob j #[pt f 0,pt t 0,pt u 0,iN b,(a 7).val 0] 119)).set 5 (b3 ((a 7).val 0) (ns++([(⟨3,0,0,0,0,0⟩:Nt)])))++[ob (B6 a) #[i6 3,i6 0,i6 0,i6 0,i6 0,i6 0] 81]) λa=>rr (λ_=>[(3,.l 0),(4,.l 6),(5,.c [1,2,3,4] [2,3,4] (Q3 f i e d n o p c s _ hs x y z))]) N0 [] (λ_ L=>((L.set 2 ((pk (aq i n o (g5 s).r)))).set 3 ((pk (aD e p (g5 s).k)))).set 4 ((pk (aA d (g5 s).g)))) λB=>?_;exact eh (.l [] [] [(a 7).val 0]) [0,2,3,4,5] [(1,1)] []
theorem Rh(f e i n p g q d k o:Nat)(c:Cf)(s:Le)(K:Nat)(hs:cH s K)(b:Nat)(v:Value)(ns:List Nt)(r:ns.length≤800000):aa UZ 89 #[pt f 0,.agg #[i6 4,i6 0,i6 0,i6 0,i6 0,i6 0]] [ob f #[pt e 0,pt k 0,pt o 0,iN b,v] 119,ob e (lA c i g d s.time) 122,pk (aq i n p s.r),pk (aD g q s.k),pk (aA d s.g),b3 v ns] [0,2,3,4,5] (λE=>[ob f #[pt e 0,pt k 0,pt o 0,iN b,(E.val 0)] 119,pk (aq i n p s.r),pk (aD g q s.k),pk (aA d (jD s.g)),b3 (E.val 0) (ns++([(⟨4,0,0,0,0,0⟩:Nt)]))]) (λ_=> .tuple #[]):=by
 refine fG Tryz.func89 λw cs=>ra (λj=>[(3,pt (B0 j) 0)]) (λj=>[ob (B0 j) #[i6 4,i6 0,i6 0,i6 0,i6 0,i6 0] 81]) λj=>rr (λa=>[(4,.l 0),(5,.l 6),(6,.m (bs 7 1)),(7,eX uQ (v) ns 5 7 ([(⟨4,0,0,0,0,0⟩:Nt)])),(10,.m (e6 0 5 (b3 ((a 7).val 0) (ns++([(⟨4,0,0,0,0,0⟩:Nt)]))) ((a 7).val 0) λbs h=>ao.one ((λ_ h=>h) bs h)))]) N0 [] (λa L=>(L.set 0 (ob f #[pt e 0,pt k 0,pt o 0,iN b,(a 7).val 0] 119)).set 5 (b3 ((a 7).val 0) (ns++([(⟨4,0,0,0,0,0⟩:Nt)])))++[ob (B6 a) #[i6 4,i6 0,i6 0,i6 0,i6 0,i6 0] 81]) λa=>rs [(3,.l 0),(4,.l 6),(5,.c [1,2,3,4] [2,3,4] (Q4 e i g d n p q c s _ hs))] 4 ((pk (aA d (jD s.g)))) ?_;exact eh (.l [] [] [(a 7).val 0]) [0,2,3,4,5] [(1,1)] []
theorem ym(q o x C D u F t f B n:Nat)(c:Cf)(s:Le)(a:Nat)(ns:List Nt)(V:Dv)(K A:Nat)(h:bI c ⟨s,a,ns,V⟩ K A)(v:Value)(hA:A≤700000)(Q:K+3≤1000000000)(i b d:Nat)(R:i<8388608)(M:fJ c.R c.S c.B c.M c.C ((i:Nat):Int)=true)(J:b<s.r.m.R*s.r.m.B*s.r.m.M)(O:d<s.r.m.R):aa UZ 87 #[pt q 0,.agg #[iN i,iN b,iN d]] [ob q #[pt o 0,pt f 0,pt n 0,iN a,v] 119,ob o (lA c x u t s.time) 122,pk (aq x C D s.r),pk (aD u F s.k),pk (aA t s.g),pk (dC n),pk (bj f B c V),b3 v ns] [0,2,3,4,5,6,7] (λE=>[ob q #[pt o 0,pt f 0,pt n 0,iN a,(E.val 0)] 119,pk (aq x C D (b0 c (⟨s,a,ns,V⟩:Ct) i b d).s.r),pk (aD u F (b0 c (⟨s,a,ns,V⟩:Ct) i b d).s.k),pk (aA t (b0 c (⟨s,a,ns,V⟩:Ct) i b d).s.g),pk (dC n),pk (bj f B c (b0 c (⟨s,a,ns,V⟩:Ct) i b d).V),b3 (E.val 0) ((b0 c (⟨s,a,ns,V⟩:Ct) i b d).ns)]) (λ_=> .tuple #[.agg (rB 64 (cN c (⟨s,a,ns,V⟩:Ct) i)).toArray,.agg #[i6 ((bM c (⟨s,a,ns,V⟩:Ct) i:Nat):Int),i6 ((gI c.E (k7 c (⟨s,a,ns,V⟩:Ct) i) (i:Int):Nat):Int)]]):=by
 have j:=h.cf;have T:=j.E;have P:=j.E;have I:=h.dv Om;have S:=h.nl;have z:=nJ h.D (i:Int);have N:=oO c.E z (i:Int);have y:ns.length≤800000:=U5 h.nl Om;exact fG Tryz.func87 λw cs=>ra (λe=>[(3,pt (B0 e) 0),(4,pt (B1 e) 0),(5,pt (B2 e) 0)]) (λe=>[ob (B0 e) #[iN i,iN b,iN d] 180,ob (B1 e) (rB 64 z6).toArray 43,ob (B2 e) #[i6 0,i6 0] 79]) λe=>rr (λ_=>[(3,.m (ld 0 (pt f 0))),(5,.m (ld 8 (iN i))),(6,.c [6] [6] (QK f B c j V I (i:Int) M)),(10,.m (al 11)),(11,.s 11)]) (λG=>[(6,pt ((G 10).y 0) 0)]) [] (λG L=>L.set 6 ((pk (bj f B c (pJ c V (i:Int)))))++[ob ((G 10).y 0) (rB 72 (b9 c V.D (i:Int))).toArray 217]) λG=>rr (λ_=>[(3,.m (ld 0 (pt n 0))),(7,.m (ld 0 (pt o 0))),(11,.m (ld 1 (iN c.E))),(12,.m (ls 11 (rB 72 (b9 c V.D (i:Int))))),(14,.m (ld 8 (iN i))),(15,.c [5] [] (QX c.E P n (b9 c V.D (i:Int)) (by(simp only[LL,z,N];done)) (i:Int) Om Om)),(19,.m (al 12)),(20,.m (al 13)),(21,.s 12),(22,.s 13)]) (λp=>[(8,pt ((p 19).y 0) 0),(9,pt ((p 20).y 0) 0)]) [] (λp L=>L++[ob ((p 19).y 0) (rB 64 (nM c.E (b9 c V.D (i:Int)) (i:Int))).toArray 43,ob ((p 20).y 0) #[i6 ((j5 c.E (b9 c V.D (i:Int)) (i:Int):Nat):Int),i6 ((gI c.E (b9 c V.D (i:Int)) (i:Int):Nat):Int)] 79]) λp=>rr (λ_=>[(1,.l 13),(3,.l 8),(5,.l 8),(7,.l 8),(9,.c [0,1,2,3,4,7] [0,2,3,4,7] (Rf q o x C D u F t f n c s _ h.s a v ns y Q j.h2 (j5 c.E (b9 c V.D (i:Int)) (i:Int)) (gI c.E (b9 c V.D (i:Int)) (i:Int)) i b d (QT _ _ _) O J))]) N0 [] (λH L=>((((L.set 0 (ob q #[pt o 0,pt f 0,pt n 0,iN a,((H 9).val 0)] 119)).set 2 ((pk (aq x C D (di c.J s (⟨1,(j5 c.E (b9 c V.D (i:Int)) (i:Int)),(gI c.E (b9 c V.D (i:Int)) (i:Int)),i,b,d⟩:Nt)).r)))).set 3 ((pk (aD u F (di c.J s (⟨1,(j5 c.E (b9 c V.D (i:Int)) (i:Int)),(gI c.E (b9 c V.D (i:Int)) (i:Int)),i,b,d⟩:Nt)).k)))).set 4 ((pk (aA t (di c.J s (⟨1,(j5 c.E (b9 c V.D (i:Int)) (i:Int)),(gI c.E (b9 c V.D (i:Int)) (i:Int)),i,b,d⟩:Nt)).g)))).set 7 (b3 ((H 9).val 0) (ns++([(⟨1,(j5 c.E (b9 c V.D (i:Int)) (i:Int)),(gI c.E (b9 c V.D (i:Int)) (i:Int)),i,b,d⟩:Nt)])))) λH=>rr (λ_=>[(0,.l 12),(1,.l 13),(2,.s 9),(3,.s 10)]) N0 [] (λ_ L=>(L.set 9 (ob (B1 e) (rB 64 (nM c.E (b9 c V.D (i:Int)) (i:Int))).toArray 43)).set 10 (ob (B2 e) #[i6 ((j5 c.E (b9 c V.D (i:Int)) (i:Int):Nat):Int),i6 ((gI c.E (b9 c V.D (i:Int)) (i:Int):Nat):Int)] 79)) λU=>ak (.tuple #[.agg (rB 64 (nM c.E (b9 c V.D (i:Int)) (i:Int))).toArray,.agg #[i6 ((j5 c.E (b9 c V.D (i:Int)) (i:Int):Nat):Int),i6 ((gI c.E (b9 c V.D (i:Int)) (i:Int):Nat):Int)]]) (.l [] [] [((H 9).val 0)]) a7 [0,2,3,4,5,6,7] [(1,1)] [9,10] (hf:=by kernel_rfl)
theorem yn(v f:Nat):aa UZ 117 #[.agg #[iN v,iN f]] [] [] N0 (λ_=>i6 (cd v)):=by
 refine fG Tryz.func117 λw cs=>ra (λb=>[(1,pt (B0 b) 0),(2,i6 0)]) (λb=>[ob (B0 b) #[iN v,iN f] 79]) λb=>r0 [(1,.l 0)] [(4,iN v)] [] (r0 [] [(5,.bool ((v:Int)==3))] [] ?_);refine cD (v:Int) 3 (λa c=>?_) λa c=>?_
 ·exact r0 [] [(2,i6 40)] [2] (ak (i6 40) ab.zero (by unfold cd;(repeat (first | rw[a] | rw[ALct]))) [] [] [])
 refine r0 [] [(7,.bool ((v:Int)==2))] [] ?_;refine cD (v:Int) 2 (λe d=>?_) λe d=>?_
 ·exact r0 [] [(2,i6 41)] [2] (ak (i6 41) ab.zero (by unfold cd;(repeat (first | rw[a] | rw[e] | rw[ALct] | rw[ALcf]))) [] [] [])
 exact r0 [] [(2,i6 0)] [2] (ak (i6 0) ab.zero (by unfold cd;(repeat (first | rw[a] | rw[e] | rw[ALcf]))) [] [] [])
theorem Er(h e a f g k j i l:Nat)(c:Cf)(r:Rp)(p:a2 r)(d time:Nat)(v:Value)(n:Nat)(o:n<(r.m.R*r.m.B*r.m.M-r.m.res)*r.m.C):aa UZ 116 #[pt h 0,iN n] [ob h #[pt e 0,pt i 0,pt l 0,iN d,v] 119,ob e (lA c a k j time) 122,pk (aq a f g r)] [2] (λ_=>[pk (aq a f g r)]) (λ_=> .tuple #[.agg #[i6 ((aR r.m r.j n:Nat):Int),i6 ((ay r.m n:Nat):Int),i6 ((aK r.m.G r.m.R r.m.B r.m.M (ay r.m n):Nat):Int)],i6 0]):=by
 exact fG Tryz.func116 λw cs=>ra (λb=>[(4,pt (B0 b) 0),(5,i6 0)]) (λb=>[ob (B0 b) #[i6 0,i6 0,i6 0] 180]) λb=>r0 [(3,.m (ld 0 (pt e 0))),(6,.m (ld 1 (pt a 0))),(8,.c [2] [2] (NP a f g r p n o)),] [(6,i6 ((aR r.m r.j n:Nat):Int)),(7,i6 ((ay r.m n:Nat):Int)),(8,i6 ((aK r.m.G r.m.R r.m.B r.m.M (ay r.m n):Nat):Int)),(9,i6 0)] [] (rF [] 25 (rr (λ_=>[(4,.s 3)]) (λ_=>[(5,i6 0)]) [5] (λ_ L=>L.set 3 (ob (B0 b) #[i6 ((aR r.m r.j n:Nat):Int),i6 ((ay r.m n:Nat):Int),i6 ((aK r.m.G r.m.R r.m.B r.m.M (ay r.m n):Nat):Int)] 180)) λq=>ak (.tuple #[.agg #[i6 ((aR r.m r.j n:Nat):Int),i6 ((ay r.m n:Nat):Int),i6 ((aK r.m.G r.m.R r.m.B r.m.M (ay r.m n):Nat):Int)],i6 0]) ab.zero a7 [2] [(0,0),(1,1)] [3]))
theorem Es(h e a f g k j i l:Nat)(c:Cf)(r:Rp)(p:a2 r)(d time:Nat)(v:Value)(n:Int)(o:bR n (((r.m.R*r.m.B*r.m.M-r.m.res)*r.m.C:Nat):Int)=false):aa UZ 116 #[pt h 0,i6 n] [ob h #[pt e 0,pt i 0,pt l 0,iN d,v] 119,ob e (lA c a k j time) 122,pk (aq a f g r)] [2] (λ_=>[pk (aq a f g r)]) (λ_=> .tuple #[.agg #[i6 0,i6 0,i6 0],i6 30]):=by
 exact fG Tryz.func116 λw cs=>ra (λb=>[(4,pt (B0 b) 0),(5,i6 0)]) (λb=>[ob (B0 b) #[i6 0,i6 0,i6 0] 180]) λb=>r0 [(3,.m (ld 0 (pt e 0))),(6,.m (ld 1 (pt a 0))),(8,.c [2] [2] (NQ a f g r p n o)),] [(6,i6 0),(7,i6 0),(8,i6 0),(9,i6 12)] [] (rT [] 25 (r0 [(1,.s 3)] [(5,i6 30)] [5] (lf ab.zero [2] [(0,0),(1,1)] [3])))
theorem Et(i m o t u k z j f q g:Nat)(c:Cf)(s:Le)(a:Nat)(ns:List Nt)(V:Dv)(K A:Nat)(h:bI c ⟨s,a,ns,V⟩ K A)(v:Value)(hA:A≤700000)(J:K+3≤1000000000)(n:Nat)(M:n<(c.R*c.B*c.M-c.res)*c.C)(b:Bool):aa UZ 83 #[pt i 0,iN n,.bool b] [ob i #[pt m 0,pt f 0,pt g 0,iN a,v] 119,ob m (lA c o k j s.time) 122,pk (aq o t u s.r),pk (aD k z s.k),pk (aA j s.g),pk (dC g),pk (bj f q c V),b3 v ns] [0,2,3,4,5,6,7] (λE=>[ob i #[pt m 0,pt f 0,pt g 0,iN a,(E.val 0)] 119,pk (aq o t u (cO c (⟨s,a,ns,V⟩:Ct) n b).s.r),pk (aD k z (cO c (⟨s,a,ns,V⟩:Ct) n b).s.k),pk (aA j (cO c (⟨s,a,ns,V⟩:Ct) n b).s.g),pk (dC g),pk (bj f q c (cO c (⟨s,a,ns,V⟩:Ct) n b).V),b3 (E.val 0) ((cO c (⟨s,a,ns,V⟩:Ct) n b).ns)]) (λ_=> .tuple #[.agg (rB 64 (cN c (⟨s,a,ns,V⟩:Ct) (bc (⟨s,a,ns,V⟩:Ct) n))).toArray,i6 (cd (bM c (⟨s,a,ns,V⟩:Ct) (bc (⟨s,a,ns,V⟩:Ct) n)))]):=by
 have p:=h.cf;have S:=p.E;have R:=p.E;have N:=h.dv Om;have O:=h.nl;have d:=uO h M;have P:=h.s.r;have Q:=uP h M J;have D:=Q.dv Om;have y:=d.1;have x:=d.2.1;have F:=d.2.2.1;have I:=d.2.2.2.1;have H:=d.2.2.2.2;have G:(cN c (⟨s,a,ns,V⟩:Ct) (aR s.r.m s.r.j n)).length=64:=oO c.E (nJ h.D _) _;refine fG Tryz.func83 λw cs=>ra (λr=>[(6,pt (B0 r) 0),(7,i6 0)]) (λr=>[ob (B0 r) (rB 64 z6).toArray 43]) λr=>rr (λ_=>[(2,.c [0,1,2] [2] (Er i m o t u k j f g c s.r P a s.time v n H)),(7,.s 9)]) (λB=>[(8,pt (B6 B) 0),(9,i6 0)]) [] (λB L=>L++[ob (B6 B) #[i6 ((aR s.r.m s.r.j n:Nat):Int),i6 ((ay s.r.m n:Nat):Int),i6 ((aK s.r.m.G s.r.m.R s.r.m.B s.r.m.M (ay s.r.m n):Nat):Int)] 180]) λB=>rF [] 19 (rr (λ_=>[(1,.l 9),(2,.c [0,1,2,3,4,5,6,7] [0,2,3,4,5,6,7] (ym i m o t u k z j f q g c s a ns V _ _ h v hA J (aR s.r.m s.r.j n) (ay s.r.m n) (aK s.r.m.G s.r.m.R s.r.m.B s.r.m.M (ay s.r.m n)) y x F I)),(8,.s 10),(9,.s 11)]) (λe=>[(10,pt (B6 e) 0),(11,pt (B7 e) 0)]) [] (λe L=>(((((L.set 0 (ob i #[pt m 0,pt f 0,pt g 0,iN a,((e 2).val 0)] 119)).set 2 ((pk (aq o t u (b0 c (⟨s,a,ns,V⟩:Ct) (aR s.r.m s.r.j n) (ay s.r.m n) (aK s.r.m.G s.r.m.R s.r.m.B s.r.m.M (ay s.r.m n))).s.r)))).set 3 ((pk (aD k z (b0 c (⟨s,a,ns,V⟩:Ct) (aR s.r.m s.r.j n) (ay s.r.m n) (aK s.r.m.G s.r.m.R s.r.m.B s.r.m.M (ay s.r.m n))).s.k)))).set 4 ((pk (aA j (b0 c (⟨s,a,ns,V⟩:Ct) (aR s.r.m s.r.j n) (ay s.r.m n) (aK s.r.m.G s.r.m.R s.r.m.B s.r.m.M (ay s.r.m n))).s.g)))).set 6 ((pk (bj f q c (b0 c (⟨s,a,ns,V⟩:Ct) (aR s.r.m s.r.j n) (ay s.r.m n) (aK s.r.m.G s.r.m.R s.r.m.B s.r.m.M (ay s.r.m n))).V)))).set 7 (b3 ((e 2).val 0) ((b0 c (⟨s,a,ns,V⟩:Ct) (aR s.r.m s.r.j n) (ay s.r.m n) (aK s.r.m.G s.r.m.R s.r.m.B s.r.m.M (ay s.r.m n))).ns))++[ob (B6 e) (rB 64 (cN c (⟨s,a,ns,V⟩:Ct) (aR s.r.m s.r.j n))).toArray 43,ob (B7 e) #[i6 ((bM c (⟨s,a,ns,V⟩:Ct) (aR s.r.m s.r.j n):Nat):Int),i6 ((gI c.E (k7 c (⟨s,a,ns,V⟩:Ct) (aR s.r.m s.r.j n)) ((aR s.r.m s.r.j n):Int):Nat):Int)] 79]) λe=>r0 [(1,.l 11)] [(33,.bool ((((bM c (⟨s,a,ns,V⟩:Ct) (aR s.r.m s.r.j n):Nat):Int)==1)&&b))] [] ?_);refine cB ((((bM c (⟨s,a,ns,V⟩:Ct) (aR s.r.m s.r.j n):Nat):Int)==1)&&b) (λC=>?_) λC=>?_
 ·exact rr (λ_=>[(2,.l 9),(3,.l 10),(4,.c [0,1,5,6] [5,6] (oP i m o k j f q g c p a s.time ((e 2).val 0) ((b0 c (⟨s,a,ns,V⟩:Ct) (aR s.r.m s.r.j n) (ay s.r.m n) (aK s.r.m.G s.r.m.R s.r.m.B s.r.m.M (ay s.r.m n))).V) D (aR s.r.m s.r.j n) y x (cN c (⟨s,a,ns,V⟩:Ct) (aR s.r.m s.r.j n)) (by(simp only[LL,G];done)) false))]) N0 [] (λ_ L=>L.set 6 ((pk (bj f q c (g9 ((b0 c (⟨s,a,ns,V⟩:Ct) (aR s.r.m s.r.j n) (ay s.r.m n) (aK s.r.m.G s.r.m.R s.r.m.B s.r.m.M (ay s.r.m n))).V) ((aR s.r.m s.r.j n):Int) (gp c.E (cN c (⟨s,a,ns,V⟩:Ct) (aR s.r.m s.r.j n)) ((aR s.r.m s.r.j n):Int) false) (bif false then 1 else 0)))))) λT=>rr (λ_=>[(0,.l 10),(1,.l 11),(2,.c [] [] (yn (bM c (⟨s,a,ns,V⟩:Ct) (aR s.r.m s.r.j n)) (gI c.E (k7 c (⟨s,a,ns,V⟩:Ct) (aR s.r.m s.r.j n)) ((aR s.r.m s.r.j n):Int)))),(3,.s 8)]) (λ_=>[(7,i6 (cd (bM c (⟨s,a,ns,V⟩:Ct) (aR s.r.m s.r.j n))))]) [7] (λ_ L=>L.set 8 (ob (B0 r) (rB 64 (cN c (⟨s,a,ns,V⟩:Ct) (aR s.r.m s.r.j n))).toArray 43)) λU=>ak (.tuple #[.agg (rB 64 (cN c (⟨s,a,ns,V⟩:Ct) (aR s.r.m s.r.j n))).toArray,i6 (cd (bM c (⟨s,a,ns,V⟩:Ct) (aR s.r.m s.r.j n)))]) (.l [] [] [((e 2).val 0)]) a7 [0,2,3,4,5,6,7] [(1,1)] [8] (hf:=by unfold cO ky k8 bc mh mi;dsimp only;(repeat (first | rw[C] | rw[ALct] | rw[ALcf]));kernel_rfl)
 exact rr (λ_=>[(0,.l 10),(1,.l 11),(2,.c [] [] (yn (bM c (⟨s,a,ns,V⟩:Ct) (aR s.r.m s.r.j n)) (gI c.E (k7 c (⟨s,a,ns,V⟩:Ct) (aR s.r.m s.r.j n)) ((aR s.r.m s.r.j n):Int)))),(3,.s 8)]) (λ_=>[(7,i6 (cd (bM c (⟨s,a,ns,V⟩:Ct) (aR s.r.m s.r.j n))))]) [7] (λ_ L=>L.set 8 (ob (B0 r) (rB 64 (cN c (⟨s,a,ns,V⟩:Ct) (aR s.r.m s.r.j n))).toArray 43)) λW=>ak (.tuple #[.agg (rB 64 (cN c (⟨s,a,ns,V⟩:Ct) (aR s.r.m s.r.j n))).toArray,i6 (cd (bM c (⟨s,a,ns,V⟩:Ct) (aR s.r.m s.r.j n)))]) (.l [] [] [((e 2).val 0)]) a7 [0,2,3,4,5,6,7] [(1,1)] [8] (hf:=by unfold cO ky k8 bc mh mi;dsimp only;(repeat (first | rw[C] | rw[ALcf]));kernel_rfl)
def bG(c:Cf)(x:Ct)(n:Nat)(l:List UInt8)(m:Nat):Ct:=ky x<| bif (m:Int)==0 then x else bif decide (pc m=64) then oN c x (bc x n) l false else bif !(cd (bM c x (bc x n))==0) then oN c (k8 c x n) (bc x n) z6 true else oN c (k8 c x n) (bc x n) (ig (cN c x (bc x n)) l m) false
def cq(c:Cf)(x:Ct)(n m:Nat):Int:=bif (m:Int)==0 then 30 else bif decide (pc m=64) then 0 else bif !(cd (bM c x (bc x n))==0) then cd (bM c x (bc x n)) else 0
theorem yo(l o:List UInt8)(m:Nat):(ig l o m).length=l.length:=uD o _ l
theorem yp{c:Cf}{x:Ct}{K A:Nat}(h:bI c x K A){n:Nat}(e:n<(c.R*c.B*c.M-c.res)*c.C){l:List UInt8}(d:l.length=64)(m:Nat)(b:K+3≤1000000000):bI c (bG c x n l m) (K+3) (A+2):=by
 have a:=uP h e b;unfold bG;refine h.fix ?_;cases (m:Int)==0
 ·cases decide (pc m=64)
  ·cases !(cd (bM c x (bc x n))==0)
   ·exact pK a ((yo ..).trans (oO _ (nJ h.D _) _)) false
   ·exact pK a U3 true
  ·exact(pK h d false).mono Om Om
 ·exact h.mono Om Om
def j6(c:Cf)(x:Ct):Ct:={x with U:=(x.U+1)%((c.R*c.B*c.M-c.res)*c.C)}
def kz(c:Cf)(x:Ct):Ct:=cO c (j6 c x) x.U true
theorem Eu{c:Cf}{x:Ct}{K A:Nat}(h:bI c x K A):bI c (j6 c x) K A:=⟨h.cf,h.s,h.D,h.gl,h.vl,h.nl,h.ly,h.run,Nat.mod_lt _ (by have:=h.U;omega),h.time⟩
theorem Ri{c:Cf}{x:Ct}{K A:Nat}(h:bI c x K A)(a:K+3≤1000000000):bI c (kz c x) (K+3) (A+2):=En (Eu h) h.U true a
theorem yq(l y:List UInt8)(m:Nat)(b:l.length=64)(d:y.length=64)(c:m<18446744073709551616):aa UZ 94 #[.agg (rB 64 l).toArray,.agg (rB 64 y).toArray,u6 (m:Int)] [] [] N0 (λ_=> .agg (rB 64 (ig l y m)).toArray):=by
 have a:=PC l y m b d c;rwa [Vo] at a
theorem Rj(b d o j k i p g a f e:Nat)(c:Cf)(x:Ct)(K A:Nat)(h:bI c x K A)(hA:A≤700000)(u:K+3≤1000000000)(n:Nat)(B:n<((c.R*c.B*c.M-c.res)*c.C)):aa UZ 91 #[pt b 0,iN n] [pk (aT b d o j k i p g a f e c x)] [0] (λ_=>[pk (aT b d o j k i p g a f e c (cO c x n c.W))]) (λ_=> .tuple #[.agg (rB 64 (cN c x (bc x n))).toArray,i6 (cd (bM c x (bc x n)))]):=aa.pkZ Tryz.func91 λL y=>by
 obtain⟨v,rfl⟩:=y;refine⟨[0,2,3,4,5,6,7],λE=>[ob b #[pt d 0,pt a 0,pt e 0,iN x.U,(E.val 0)] 119,pk (aq o j k (cO c x n c.W).s.r),pk (aD i p (cO c x n c.W).s.k),pk (aA g (cO c x n c.W).s.g),pk (dC e),pk (bj a f c (cO c x n c.W).V),b3 (E.val 0) ((cO c x n c.W).ns)],?_,rfl,λE=>⟨rfl,rfl,⟨_,rfl⟩⟩⟩;have q:=h.cf;have F:=q.E;have D:=q.E;have z:=h.dv Om;have C:=h.nl;exact fG Tryz.func91 λw cs=>ra (λr=>[(4,pt (B0 r) 0),(5,i6 0)]) (λr=>[ob (B0 r) (rB 64 z6).toArray 43]) λr=>rr (λ_=>[(5,.m (ld 0 (pt d 0))),(9,.m (ld 1 (.bool c.W))),(10,.c [0,1,2,3,4,5,6,7] [0,2,3,4,5,6,7] (Et b d o j k i p g a f e c x.s x.U x.ns x.V _ _ h v hA u n B c.W)),(13,.s 8)]) (λ_=>[(5,i6 (cd (bM c x (bc x n))))]) [5] (λt L=>((((((L.set 0 (ob b #[pt d 0,pt a 0,pt e 0,iN x.U,((t 10).val 0)] 119)).set 2 ((pk (aq o j k (cO c x n c.W).s.r)))).set 3 ((pk (aD i p (cO c x n c.W).s.k)))).set 4 ((pk (aA g (cO c x n c.W).s.g)))).set 6 ((pk (bj a f c (cO c x n c.W).V)))).set 7 (b3 ((t 10).val 0) ((cO c x n c.W).ns))).set 8 (ob (B0 r) (rB 64 (cN c x (bc x n))).toArray 43)) λt=>ak (.tuple #[.agg (rB 64 (cN c x (bc x n))).toArray,i6 (cd (bM c x (bc x n)))]) (.l [] [] [((t 10).val 0)]) a7 [0,2,3,4,5,6,7] [(1,1)] [8] (hf:=by kernel_rfl)
theorem Rk(l m i o p f t e d r g:Nat)(c:Cf)(s:Le)(a:Nat)(ns:List Nt)(V:Dv)(K A:Nat)(h:bI c ⟨s,a,ns,V⟩ K A)(v:Value)(n:Int)(u:bR n ((((c.R*c.B*c.M-c.res)*c.C):Nat):Int)=false)(b:Bool):aa UZ 83 #[pt l 0,i6 n,.bool b] [ob l #[pt m 0,pt d 0,pt g 0,iN a,v] 119,ob m (lA c i f e s.time) 122,pk (aq i o p s.r),pk (aD f t s.k),pk (aA e s.g),pk (dC g),pk (bj d r c V),b3 v ns] [2,3,4,5,6,7] (λ_=>[pk (aq i o p s.r),pk (aD f t s.k),pk (aA e s.g),pk (dC g),pk (bj d r c V),b3 v ns]) (λ_=> .tuple #[.agg (rB 64 z6).toArray,i6 30]):=by
 have x:=h.s.r;have q:bR n (((s.r.m.R*s.r.m.B*s.r.m.M-s.r.m.res)*s.r.m.C:Nat):Int)=false:=by rw[h.ly.R,h.ly.B,h.ly.M,h.ly.C,h.ly.res];exact u
 exact fG Tryz.func83 λw cs=>ra (λj=>[(6,pt (B0 j) 0),(7,i6 0)]) (λj=>[ob (B0 j) (rB 64 z6).toArray 43]) λj=>rr (λ_=>[(2,.c [0,1,2] [2] (Es l m i o p f e d g c s.r x a s.time v n q)),(7,.s 9)]) (λk=>[(8,pt (B6 k) 0),(9,i6 30)]) [] (λk L=>L++[ob (B6 k) #[i6 0,i6 0,i6 0] 180]) λk=>rT [] 19 (r0 [(2,.s 8)] [(7,i6 30)] [7] (lf ab.zero [2,3,4,5,6,7] [(0,0),(1,1)] [8]))
theorem Rl(b i o j l g p f d e k:Nat)(c:Cf)(x:Ct)(K A:Nat)(h:bI c x K A)(n:Int)(r:bR n ((((c.R*c.B*c.M-c.res)*c.C):Nat):Int)=false):aa UZ 91 #[pt b 0,i6 n] [pk (aT b i o j l g p f d e k c x)] [0] (λ_=>[pk (aT b i o j l g p f d e k c x)]) (λ_=> .tuple #[.agg (rB 64 z6).toArray,i6 30]):=aa.pkZ Tryz.func91 λL q=>by
 obtain⟨v,rfl⟩:=q;refine⟨[2,3,4,5,6,7],λ_=>[pk (aq o j l x.s.r),pk (aD g p x.s.k),pk (aA f x.s.g),pk (dC k),pk (bj d e c x.V),b3 v x.ns],?_,rfl,λE=>⟨rfl,rfl,⟨_,rfl⟩⟩⟩;exact fG Tryz.func91 λw cs=>ra (λa=>[(4,pt (B0 a) 0),(5,i6 0)]) (λa=>[ob (B0 a) (rB 64 z6).toArray 43]) λa=>rr (λ_=>[(5,.m (ld 0 (pt i 0))),(9,.m (ld 1 (.bool c.W))),(10,.c [0,1,2,3,4,5,6,7] [2,3,4,5,6,7] (Rk b i o j l g p f d e k c x.s x.U x.ns x.V _ _ h v n r c.W)),(13,.s 8)]) (λ_=>[(5,i6 30)]) [5] (λ_ L=>L.set 8 (ob (B0 a) (rB 64 z6).toArray 43)) λt=>lf ab.zero [2,3,4,5,6,7] [(0,0),(1,1)] [8]
theorem Ew(j q r D F o I k b g i:Nat)(c:Cf)(x:Ct)(K A:Nat)(h:bI c x K A)(hA:A≤700000)(W:K+3≤1000000000)(n:Nat)(X:n<((c.R*c.B*c.M-c.res)*c.C))(u:Value)(l:List UInt8)(hl:l.length=64)(m:Nat)(H:m<18446744073709551616)(v:Value):aa UZ 93 #[pt j 0,iN n,u,u6 (m:Int)] [ob j #[pt q 0,pt b 0,pt i 0,iN x.U,v] 119,ob q (lA c r o k x.s.time) 122,pk (aq r D F x.s.r),pk (aD o I x.s.k),pk (aA k x.s.g),pk (dC i),pk (bj b g c x.V),b3 v x.ns,.p (aJ eB u l)] [0,2,3,4,5,6,7] (λE=>[ob j #[pt q 0,pt b 0,pt i 0,iN x.U,(E.val 0)] 119,pk (aq r D F (bG c x n l m).s.r),pk (aD o I (bG c x n l m).s.k),pk (aA k (bG c x n l m).s.g),pk (dC i),pk (bj b g c (bG c x n l m).V),b3 (E.val 0) ((bG c x n l m).ns)]) (λ_=>i6 (cq c x n m)):=by
 have e:=h.cf;have hm:=e.E;have HM:=e.E;have P:=h.dv Om;have Z:=h.nl;have f:=uO h X;have hr:=h.s.r;have ht:=uP h X W;have G:=ht.dv Om;have z:=f.1;have y:=f.2.1;have Q:=f.2.2.1;have U:=f.2.2.2.1;have S:=f.2.2.2.2;have R:(cN c x (aR x.s.r.m x.s.r.j n)).length=64:=oO c.E (nJ h.D _) _;have Y:=(yo (cN c x (aR x.s.r.m x.s.r.j n)) l m).trans R;have hz6:z6.length=64:=U3;refine fO Tryz.func93 8 rfl λN T=>fG Tryz.func93 λw cs=>r0 [] [(8,i6 0)] [] (rr (λ_=>[(2,.c [0,1,2] [2] (Er j q r D F o k b i c x.s.r hr x.U x.s.time v n S)),(7,.s 9)]) (λJ=>[(9,pt (B6 J) 0),(10,i6 0)]) [] (λJ L=>L++[ob (B6 J) #[i6 ((aR x.s.r.m x.s.r.j n:Nat):Int),i6 ((ay x.s.r.m n:Nat):Int),i6 ((aK x.s.r.m.G x.s.r.m.R x.s.r.m.B x.s.r.m.M (ay x.s.r.m n):Nat):Int)] 180]) λJ=>rr (λ_=>[(1,.c [8] [] (aa.at (rd':=[.c N]) (Dz u l (by with_reducible assumption)) (ec T (λ_ h=>h)))),(6,.s 10)]) (λM=>[(11,pt (B5 M) 0),(12,i6 0)]) [] (λM L=>L++[ob (B5 M) (rB 64 l).toArray 43]) λM=>r0 [] [(27,.bool ((m:Int)==0))] [] ?_);refine cD (m:Int) 0 (λt O=>?_) λt O=>?_
 ·exact r0 [] [(8,i6 30)] [8] (ak (i6 30) (.l [] [] [v]) (by unfold cq bc;(repeat (first | rw[t] | rw[ALct]))) [0,2,3,4,5,6,7] [(1,1),(8,8)] [] (hf:=by unfold bG ky k8 bc mh mi;dsimp only;(repeat (first | rw[t] | rw[ALct]));kernel_rfl))
 refine r0 [(1,.c [] [] (Px m H))] [(38,.bool (decide (pc m=64)))] [] ?_;refine cB (decide (pc m=64)) (λB=>?_) λB=>?_
 ·exact rr (λ_=>[(2,.l 9),(3,.l 10),(4,.c [0,1,5,6] [5,6] (oP j q r o k b g i c e x.U x.s.time v x.V (by with_reducible exact P) (aR x.s.r.m x.s.r.j n) z y l (by with_reducible assumption) false))]) N0 [] (λ_ L=>L.set 6 ((pk (bj b g c (g9 x.V ((aR x.s.r.m x.s.r.j n):Int) (gp c.E l ((aR x.s.r.m x.s.r.j n):Int) false) (bif false then 1 else 0)))))) λq9=>r0 [] [(8,i6 0)] [8] (ak (i6 0) (.l [] [] [v]) (by unfold cq bc;(repeat (first | rw[t] | rw[B] | rw[ALct] | rw[ALcf]))) [0,2,3,4,5,6,7] [(1,1),(8,8)] [] (hf:=by unfold bG ky k8 bc mh mi;dsimp only;(repeat (first | rw[t] | rw[B] | rw[ALct] | rw[ALcf]));kernel_rfl))
 refine rr (λ_=>[(1,.l 9),(2,.c [0,1,2,3,4,5,6,7] [0,2,3,4,5,6,7] (ym j q r D F o I k b g i c x.s x.U x.ns x.V _ _ h v hA W (aR x.s.r.m x.s.r.j n) (ay x.s.r.m n) (aK x.s.r.m.G x.s.r.m.R x.s.r.m.B x.s.r.m.M (ay x.s.r.m n)) z y Q U)),(8,.s 11),(9,.s 12)]) (λa=>[(13,pt (B6 a) 0),(14,pt (B7 a) 0)]) [] (λa L=>(((((L.set 0 (ob j #[pt q 0,pt b 0,pt i 0,iN x.U,((a 2).val 0)] 119)).set 2 ((pk (aq r D F (b0 c x (aR x.s.r.m x.s.r.j n) (ay x.s.r.m n) (aK x.s.r.m.G x.s.r.m.R x.s.r.m.B x.s.r.m.M (ay x.s.r.m n))).s.r)))).set 3 ((pk (aD o I (b0 c x (aR x.s.r.m x.s.r.j n) (ay x.s.r.m n) (aK x.s.r.m.G x.s.r.m.R x.s.r.m.B x.s.r.m.M (ay x.s.r.m n))).s.k)))).set 4 ((pk (aA k (b0 c x (aR x.s.r.m x.s.r.j n) (ay x.s.r.m n) (aK x.s.r.m.G x.s.r.m.R x.s.r.m.B x.s.r.m.M (ay x.s.r.m n))).s.g)))).set 6 ((pk (bj b g c (b0 c x (aR x.s.r.m x.s.r.j n) (ay x.s.r.m n) (aK x.s.r.m.G x.s.r.m.R x.s.r.m.B x.s.r.m.M (ay x.s.r.m n))).V)))).set 7 (b3 ((a 2).val 0) ((b0 c x (aR x.s.r.m x.s.r.j n) (ay x.s.r.m n) (aK x.s.r.m.G x.s.r.m.R x.s.r.m.B x.s.r.m.M (ay x.s.r.m n))).ns))++[ob (B6 a) (rB 64 (cN c x (aR x.s.r.m x.s.r.j n))).toArray 43,ob (B7 a) #[i6 ((bM c x (aR x.s.r.m x.s.r.j n):Nat):Int),i6 ((gI c.E (k7 c x (aR x.s.r.m x.s.r.j n)) ((aR x.s.r.m x.s.r.j n):Int):Nat):Int)] 79]) λa=>r0 [(0,.l 12),(1,.c [] [] (yn (bM c x (aR x.s.r.m x.s.r.j n)) (gI c.E (k7 c x (aR x.s.r.m x.s.r.j n)) ((aR x.s.r.m x.s.r.j n):Int))))] [(15,i6 (cd (bM c x (aR x.s.r.m x.s.r.j n))))] [] (r0 [] [(55,.bool ((cd (bM c x (aR x.s.r.m x.s.r.j n))) != 0))] [] ?_);refine mE (cd (bM c x (aR x.s.r.m x.s.r.j n))) 0 (λd C=>?_) λd C=>?_
 ·exact rr (λ_=>[(2,.l 9),(4,.c [0,1,5,6] [5,6] (oP j q r o k b g i c e x.U x.s.time ((a 2).val 0) ((b0 c x (aR x.s.r.m x.s.r.j n) (ay x.s.r.m n) (aK x.s.r.m.G x.s.r.m.R x.s.r.m.B x.s.r.m.M (ay x.s.r.m n))).V) (by exact G) (aR x.s.r.m x.s.r.j n) z y z6 (by with_reducible assumption) true))]) N0 [] (λ_ L=>L.set 6 ((pk (bj b g c (g9 ((b0 c x (aR x.s.r.m x.s.r.j n) (ay x.s.r.m n) (aK x.s.r.m.G x.s.r.m.R x.s.r.m.B x.s.r.m.M (ay x.s.r.m n))).V) ((aR x.s.r.m x.s.r.j n):Int) (gp c.E z6 ((aR x.s.r.m x.s.r.j n):Int) true) (bif true then 1 else 0)))))) λq15=>r0 [] [(8,i6 (cd (bM c x (aR x.s.r.m x.s.r.j n))))] [8] (ak (i6 (cd (bM c x (aR x.s.r.m x.s.r.j n)))) (.l [] [] [((a 2).val 0)]) (by unfold cq bc;(repeat (first | rw[t] | rw[B] | rw[d] | rw[ALct] | rw[ALcf]))) [0,2,3,4,5,6,7] [(1,1),(8,8)] [] (hf:=by unfold bG ky k8 bc mh mi;dsimp only;(repeat (first | rw[t] | rw[B] | rw[d] | rw[ALct] | rw[ALcf]));kernel_rfl))
 exact rs [(2,.l 9),(3,.l 11),(4,.l 10),(6,.c [] [] (yq (cN c x (aR x.s.r.m x.s.r.j n)) l m (by with_reducible assumption) (by with_reducible assumption) H)),(7,.c [0,1,5,6] [5,6] (oP j q r o k b g i c e x.U x.s.time ((a 2).val 0) ((b0 c x (aR x.s.r.m x.s.r.j n) (ay x.s.r.m n) (aK x.s.r.m.G x.s.r.m.R x.s.r.m.B x.s.r.m.M (ay x.s.r.m n))).V) (by exact G) (aR x.s.r.m x.s.r.j n) z y (ig (cN c x (aR x.s.r.m x.s.r.j n)) l m) (by with_reducible assumption) false))] 6 ((pk (bj b g c (g9 ((b0 c x (aR x.s.r.m x.s.r.j n) (ay x.s.r.m n) (aK x.s.r.m.G x.s.r.m.R x.s.r.m.B x.s.r.m.M (ay x.s.r.m n))).V) ((aR x.s.r.m x.s.r.j n):Int) (gp c.E (ig (cN c x (aR x.s.r.m x.s.r.j n)) l m) ((aR x.s.r.m x.s.r.j n):Int) false) (bif false then 1 else 0))))) (r0 [] [(8,i6 0)] [8] (ak (i6 0) (.l [] [] [((a 2).val 0)]) (by unfold cq bc;(repeat (first | rw[t] | rw[B] | rw[d] | rw[ALcf]))) [0,2,3,4,5,6,7] [(1,1),(8,8)] [] (hf:=by unfold bG ky k8 bc mh mi;dsimp only;(repeat (first | rw[t] | rw[B] | rw[d] | rw[ALcf]));kernel_rfl)))
theorem Ex(a i o j k g q f b e d:Nat)(c:Cf)(x:Ct)(K A:Nat)(h:bI c x K A)(hA:A≤700000)(t:K+3≤1000000000)(n:Nat)(z:n<((c.R*c.B*c.M-c.res)*c.C))(u:Value)(l:List UInt8)(y:l.length=64)(m:Nat)(r:m<18446744073709551616):aa UZ 93 #[pt a 0,iN n,u,u6 (m:Int)] [pk (aT a i o j k g q f b e d c x),.p (aJ eB u l)] [0] (λ_=>[pk (aT a i o j k g q f b e d c (bG c x n l m))]) (λ_=>i6 (cq c x n m)):=aa.pkZ Tryz.func93 λL w=>by
 obtain⟨v,rfl⟩:=w;exact⟨[0,2,3,4,5,6,7],λE=>[ob a #[pt i 0,pt b 0,pt d 0,iN x.U,(E.val 0)] 119,pk (aq o j k (bG c x n l m).s.r),pk (aD g q (bG c x n l m).s.k),pk (aA f (bG c x n l m).s.g),pk (dC d),pk (bj b e c (bG c x n l m).V),b3 (E.val 0) ((bG c x n l m).ns)],Ew a i o j k g q f b e d c x K A h hA t n z u l y m r v,rfl,λE=>⟨rfl,rfl,⟨_,rfl⟩⟩⟩
section
section
variable {R S B M C way r b w:Nat}
theorem Rm(g:cu R S B M C)(c:r<R)(a:b<B)(d:w<M):lW way R B M r b w<R*B*M:=by
 have e:R*B*M=M*B*R:=by rw[Vx (R*B),Vx R,←Vu]
 have f:R*B*M=R*M*B:=by rw[Vu,Vx B,Vu]
 match way with
 | 0=>exact ri d a c
 | 1=>rw[f];exact ri a d c
 | 2=>rw[e];exact ri c a d
 | k+3=>rw[e];exact ri c (pq g.pow a) d
end
def cI(r:Rp):Nat:=if r.j.A=1 then r.j.fr else lW r.m.G r.m.R r.m.B r.m.M r.j.fr (r.j.nx/r.m.C/r.m.M) (r.j.nx/r.m.C%r.m.M)
def dk(r:Rp):Nat:=if r.j.A=1 then aK r.m.G r.m.R r.m.B r.m.M r.j.fr else r.j.fr
theorem Ey{r:Rp}(h:a2 r)(d:r.j.A≠0)(c:r.j.nx<gj r.j.A r.m.B r.m.M r.m.C):cI r<r.m.R*r.m.B*r.m.M∧dk r<r.m.R∧jm r.m.R r.m.S r.m.B r.m.M r.m.C (ba r.m r.j.A r.j.fr r.j.nx)∧jm r.m.R r.m.S r.m.B r.m.M r.m.C (ba r.m r.j.A r.j.tg r.j.nx):=by
 unfold cI dk;rcases h.j.k with e | ⟨e,a⟩ | ⟨e,a⟩
 ·rw[e] at d;exact absurd rfl d
 ·rw[e] at c⊢;exact⟨a.hf,rj h.m.O,yi h.m a.hf c,yi h.m a.ht c⟩
 ·rw[e] at c⊢;have f:=ui h.m (r:=r.j.fr) (i:=r.j.nx) (by have:=a.hf;omega) c;have:=a.t1;have:=h.m.rk;exact⟨Rm h.m.O a.hf f.h1 f.h2,a.hf,yj h.m (by have:=a.hf;omega) c,yj h.m Om c⟩
theorem Rn(e i j m o g q f a k d:Nat)(c:Cf)(x:Ct)(K A:Nat)(h:bI c x K A)(hA:A≤700000)(F:K+3≤1000000000)(n:Nat)(I:n<((c.R*c.B*c.M-c.res)*c.C))(u:Value)(l:List UInt8)(O:l.length=64):aa UZ 92 #[pt e 0,iN n,u] [pk (aT e i j m o g q f a k d c x),.p (aJ eB u l)] [0] (λ_=>[pk (aT e i j m o g q f a k d c (bG c x n l 18446744073709551615))]) (λ_=>i6 (cq c x n 18446744073709551615)):=aa.pkZ Tryz.func92 λL G=>by
 obtain⟨v,rfl⟩:=G;refine⟨[0,2,3,4,5,6,7],λE=>[ob e #[pt i 0,pt a 0,pt d 0,iN x.U,(E.val 0)] 119,pk (aq j m o (bG c x n l 18446744073709551615).s.r),pk (aD g q (bG c x n l 18446744073709551615).s.k),pk (aA f (bG c x n l 18446744073709551615).s.g),pk (dC d),pk (bj a k c (bG c x n l 18446744073709551615).V),b3 (E.val 0) ((bG c x n l 18446744073709551615).ns)],?_,rfl,λE=>⟨rfl,rfl,⟨_,rfl⟩⟩⟩;have t:=h.cf;have P:=t.E;have N:=t.E;have H:=h.dv Om;have J:=h.nl;exact fO Tryz.func92 8 rfl λz D=>fG Tryz.func92 λw cs=>r0 [] [(6,i6 0)] [] (rr (λ_=>[(3,.c [0,1,2,3,4,5,6,7,8] [0,2,3,4,5,6,7] (aa.at (rd':=[ob e #[pt i 0,pt a 0,pt d 0,iN x.U,v] 119,ob i (lA c j g f x.s.time) 122,pk (aq j m o x.s.r),pk (aD g q x.s.k),pk (aA f x.s.g),pk (dC d),pk (bj a k c x.V),b3 v x.ns,.c z]) (Ew e i j m o g q f a k d c x _ _ h hA F n I u l (by with_reducible assumption) 18446744073709551615 Om v) (aN (aN (aN (aN (aN (aN (aN (aN (ec D (λ_ h=>h))))))))))))]) (λ_=>[(6,i6 (cq c x n 18446744073709551615))]) [6] (λy L=>(((((L.set 0 (ob e #[pt i 0,pt a 0,pt d 0,iN x.U,((y 3).val 0)] 119)).set 2 ((pk (aq j m o (bG c x n l 18446744073709551615).s.r)))).set 3 ((pk (aD g q (bG c x n l 18446744073709551615).s.k)))).set 4 ((pk (aA f (bG c x n l 18446744073709551615).s.g)))).set 6 ((pk (bj a k c (bG c x n l 18446744073709551615).V)))).set 7 (b3 ((y 3).val 0) ((bG c x n l 18446744073709551615).ns))) λy=>lf (.l [] [] [((y 3).val 0)]) [0,2,3,4,5,6,7] [(1,1),(8,8)] [])
theorem Ez(q t i y z f H e a G g:Nat)(c:Cf)(x:Ct)(K A:Nat)(h:bI c x K A)(n:Int)(I:bR n ((((c.R*c.B*c.M-c.res)*c.C):Nat):Int)=false)(u:Value)(l:List UInt8)(N:l.length=64)(m:Nat)(v:Value):aa UZ 93 #[pt q 0,i6 n,u,u6 (m:Int)] [ob q #[pt t 0,pt a 0,pt g 0,iN x.U,v] 119,ob t (lA c i f e x.s.time) 122,pk (aq i y z x.s.r),pk (aD f H x.s.k),pk (aA e x.s.g),pk (dC g),pk (bj a G c x.V),b3 v x.ns,.p (aJ eB u l)] [2,3,4,5,6,7] (λ_=>[pk (aq i y z x.s.r),pk (aD f H x.s.k),pk (aA e x.s.g),pk (dC g),pk (bj a G c x.V),b3 v x.ns]) (λ_=>i6 30):=by
 have J:=h.s.r;have D:bR n (((x.s.r.m.R*x.s.r.m.B*x.s.r.m.M-x.s.r.m.res)*x.s.r.m.C:Nat):Int)=false:=by rw[h.ly.R,h.ly.B,h.ly.M,h.ly.C,h.ly.res];exact I
 exact fO Tryz.func93 8 rfl λo F=>fG Tryz.func93 λw cs=>r0 [] [(8,i6 0)] [] (rr (λ_=>[(2,.c [0,1,2] [2] (Es q t i y z f e a g c x.s.r J x.U x.s.time v n D)),(7,.s 9)]) (λj=>[(9,pt (B6 j) 0),(10,i6 30)]) [] (λj L=>L++[ob (B6 j) #[i6 0,i6 0,i6 0] 180]) λj=>rr (λ_=>[(1,.c [8] [] (aa.at (rd':=[.c o]) (Dz u l (by with_reducible assumption)) (ec F (λ_ h=>h)))),(6,.s 10)]) (λk=>[(11,pt (B5 k) 0),(12,i6 0)]) [] (λk L=>L++[ob (B5 k) (rB 64 l).toArray 43]) λk=>rT [(3,.d),(4,.d),(7,.d),(8,.d)] 27 (r0 [] [(8,i6 30)] [8] (lf ab.zero [2,3,4,5,6,7] [(0,0),(1,1),(8,8)] [])))
theorem Ro(a s o i k g q f d e j:Nat)(c:Cf)(x:Ct)(K A:Nat)(h:bI c x K A)(n:Int)(z:bR n ((((c.R*c.B*c.M-c.res)*c.C):Nat):Int)=false)(u:Value)(l:List UInt8)(y:l.length=64)(m:Nat):aa UZ 93 #[pt a 0,i6 n,u,u6 (m:Int)] [pk (aT a s o i k g q f d e j c x),.p (aJ eB u l)] [0] (λ_=>[pk (aT a s o i k g q f d e j c x)]) (λ_=>i6 30):=aa.pkZ Tryz.func93 λL t=>by
 obtain⟨v,rfl⟩:=t;exact⟨[2,3,4,5,6,7],λ_=>[pk (aq o i k x.s.r),pk (aD g q x.s.k),pk (aA f x.s.g),pk (dC j),pk (bj d e c x.V),b3 v x.ns],Ez a s o i k g q f d e j c x K A h n z u l y m v,rfl,λE=>⟨rfl,rfl,⟨_,rfl⟩⟩⟩
theorem Rq(i k g m o e q d a j f:Nat)(c:Cf)(x:Ct)(K A:Nat)(h:bI c x K A)(n:Int)(z:bR n ((((c.R*c.B*c.M-c.res)*c.C):Nat):Int)=false)(u:Value)(l:List UInt8)(D:l.length=64):aa UZ 92 #[pt i 0,i6 n,u] [pk (aT i k g m o e q d a j f c x),.p (aJ eB u l)] [0] (λ_=>[pk (aT i k g m o e q d a j f c x)]) (λ_=>i6 30):=aa.pkZ Tryz.func92 λL y=>by
 obtain⟨v,rfl⟩:=y;refine⟨[2,3,4,5,6,7],λ_=>[pk (aq g m o x.s.r),pk (aD e q x.s.k),pk (aA d x.s.g),pk (dC f),pk (bj a j c x.V),b3 v x.ns],?_,rfl,λE=>⟨rfl,rfl,⟨_,rfl⟩⟩⟩;exact fO Tryz.func92 8 rfl λs t=>fG Tryz.func92 λw cs=>r0 [] [(6,i6 0)] [] (r0 [(3,.c [0,1,2,3,4,5,6,7,8] [2,3,4,5,6,7] (aa.at (rd':=[ob i #[pt k 0,pt a 0,pt f 0,iN x.U,v] 119,ob k (lA c g e d x.s.time) 122,pk (aq g m o x.s.r),pk (aD e q x.s.k),pk (aA d x.s.g),pk (dC f),pk (bj a j c x.V),b3 v x.ns,.c s]) (Ez i k g m o e q d a j f c x _ _ h n z u l (by with_reducible assumption) 18446744073709551615 v) (aN (aN (aN (aN (aN (aN (aN (aN (ec t (λ_ h=>h))))))))))))] [(6,i6 30)] [6] (lf ab.zero [2,3,4,5,6,7] [(0,0),(1,1),(8,8)] []))
theorem Rr(g i u p q o y n f k j:Nat)(c:Cf)(x:Ct)(K A:Nat)(h:bI c x K A)(hA:A≤700000)(H:K+3≤1000000000):aa UZ 49 #[pt g 0] [pk (aT g i u p q o y n f k j c x)] [0] (λ_=>[pk (aT g i u p q o y n f k j c (kz c x))]) (λ_=> .tuple #[iN x.U,i6 (cd (bM c (j6 c x) (bc (j6 c x) x.U)))]):=aa.pkZ Tryz.func49 λL I=>by
 obtain⟨v,rfl⟩:=I;refine⟨[0,2,3,4,5,6,7],λE=>[ob g #[pt i 0,pt f 0,pt j 0,i6 (((kz c x).U:Nat):Int),E.val 0] 119,pk (aq u p q (kz c x).s.r),pk (aD o y (kz c x).s.k),pk (aA n (kz c x).s.g),pk (dC j),pk (bj f k c (kz c x).V),b3 (E.val 0) ((kz c x).ns)],?_,rfl,λE=>⟨rfl,rfl,⟨_,rfl⟩⟩⟩;have e:=h.cf;have Q:=e.E;have P:=e.E;have J:=h.dv Om;have O:=h.nl;have G:=e.ly;have F:=h.U;have N:=U5 (Vz c.C (Nat.sub_le (c.R*c.B*c.M) c.res)) e.O.bd.rbmc;have D:=Eu h;refine fG Tryz.func49 λw cs=>r0 [] [(2,i6 0),(3,i6 0)] [] (r0 [(3,.l 0)] [(4,iN x.U)] [] (rs [(2,ad x.U 1),(6,.m (ld 0 (pt i 0))),(10,.m (ls 1 ([iN c.R,iN c.S,iN c.B,iN c.M,iN c.C,iN c.G,iN c.res]))),(11,.c [] [] (xn c.R c.S c.B c.M c.C c.G c.res G)),(12,.t (tb (a:=i6 ((x.U+1:Nat):Int)) (b:=i6 (((((c.R*c.B)*c.M)-c.res)*c.C:Nat):Int)) λ_ _ _ _=>ni (a:=x.U+1) (d:=(((c.R*c.B)*c.M)-c.res)*c.C) Om)),(15,.s 0)] 0 (ob g #[pt i 0,pt f 0,pt j 0,i6 (((x.U+1)%((((c.R*c.B)*c.M)-c.res)*c.C):Nat):Int),v] 119) ?_));have h:=D;exact rr (λ_=>[(2,.c [0,1,2,3,4,5,6,7] [0,2,3,4,5,6,7] (Et g i u p q o y n f k j c x.s ((x.U+1)%((((c.R*c.B)*c.M)-c.res)*c.C)) x.ns x.V _ _ h v hA H x.U F true)),(7,.s 8)]) (λ_=>[(6,i6 (cd (bM c (⟨x.s,((x.U+1)%((((c.R*c.B)*c.M)-c.res)*c.C)),x.ns,x.V⟩:Ct) (bc (⟨x.s,((x.U+1)%((((c.R*c.B)*c.M)-c.res)*c.C)),x.ns,x.V⟩:Ct) x.U))))]) [] (λz L=>(((((L.set 0 (ob g #[pt i 0,pt f 0,pt j 0,i6 (((x.U+1)%((((c.R*c.B)*c.M)-c.res)*c.C):Nat):Int),((z 2).val 0)] 119)).set 2 ((pk (aq u p q (cO c (⟨x.s,((x.U+1)%((((c.R*c.B)*c.M)-c.res)*c.C)),x.ns,x.V⟩:Ct) x.U true).s.r)))).set 3 ((pk (aD o y (cO c (⟨x.s,((x.U+1)%((((c.R*c.B)*c.M)-c.res)*c.C)),x.ns,x.V⟩:Ct) x.U true).s.k)))).set 4 ((pk (aA n (cO c (⟨x.s,((x.U+1)%((((c.R*c.B)*c.M)-c.res)*c.C)),x.ns,x.V⟩:Ct) x.U true).s.g)))).set 6 ((pk (bj f k c (cO c (⟨x.s,((x.U+1)%((((c.R*c.B)*c.M)-c.res)*c.C)),x.ns,x.V⟩:Ct) x.U true).V)))).set 7 (b3 ((z 2).val 0) ((cO c (⟨x.s,((x.U+1)%((((c.R*c.B)*c.M)-c.res)*c.C)),x.ns,x.V⟩:Ct) x.U true).ns))++[ob (B6 z) (rB 64 (cN c (⟨x.s,((x.U+1)%((((c.R*c.B)*c.M)-c.res)*c.C)),x.ns,x.V⟩:Ct) (bc (⟨x.s,((x.U+1)%((((c.R*c.B)*c.M)-c.res)*c.C)),x.ns,x.V⟩:Ct) x.U))).toArray 43]) λz=>r0 [] [(2,iN x.U),(3,i6 (cd (bM c (⟨x.s,((x.U+1)%((((c.R*c.B)*c.M)-c.res)*c.C)),x.ns,x.V⟩:Ct) (bc (⟨x.s,((x.U+1)%((((c.R*c.B)*c.M)-c.res)*c.C)),x.ns,x.V⟩:Ct) x.U))))] [2,3] (ak (.tuple #[iN x.U,i6 (cd (bM c (⟨x.s,((x.U+1)%((((c.R*c.B)*c.M)-c.res)*c.C)),x.ns,x.V⟩:Ct) (bc (⟨x.s,((x.U+1)%((((c.R*c.B)*c.M)-c.res)*c.C)),x.ns,x.V⟩:Ct) x.U)))]) (.l [] [] [((z 2).val 0)]) a7 [0,2,3,4,5,6,7] [(1,1)] [] (hf:=by kernel_rfl))
end
theorem Rs(o j a f g u q p x:Nat)(c:Cf)(r:Rp)(d:a2 r)(k time:Nat)(v:Value)(i:Nat)(z:r.j.A=1)(n:r.j.fr<r.m.R*r.m.B*r.m.M):aa UZ 85 #[pt o 0,iN i] [ob o #[pt j 0,pt p 0,pt x 0,iN k,v] 119,ob j (lA c a u q time) 122,pk (aq a f g r)] [2] (λ_=>[pk (aq a f g r)]) (λ_=> .agg #[iN i,iN r.j.fr,i6 ((aK r.m.G r.m.R r.m.B r.m.M r.j.fr:Nat):Int)]):=by
 have y:=d.m.O;have B:=d.m.ly.G;have A:=Cx d.m n;exact fG Tryz.func85 λw cs=>ra (λh=>[(4,pt (B0 h) 0)]) (λh=>[ob (B0 h) #[i6 0,i6 0,i6 0] 180]) λh=>rr (λ_=>[(3,.m (ld 0 (pt j 0))),(6,.m (ld 1 (pt a 0))),(7,.c [2] [2] (xH a f g r d)),(11,.m (ld 0 (pt j 0))),(14,.m (ld 1 (pt a 0))),(15,.c [2] [2] (uy a f g r d)),(16,.c [2] [2] (Dy a f g r d)),(17,.m (al 4)),(18,.m (al 5)),(19,.s 4),(20,.s 5)]) (λe=>[(5,pt ((e 17).y 0) 0),(6,pt ((e 18).y 0) 0)]) [] (λe L=>L++[ob ((e 17).y 0) #[iN r.j.A,iN r.j.fr,iN r.j.tg,iN r.j.nx] 70,ob ((e 18).y 0) #[iN r.m.R,iN r.m.S,iN r.m.B,iN r.m.M,iN r.m.C,iN r.m.G,iN r.m.res] 25]) λe=>rF [(1,.l 4),(2,.t (tk (show Value.bool ((r.j.A:Int)==2)= .bool false from ALca Value.bool (by rw[z];rfl))))] 30 (r0 [(1,.m (ls 5 ([iN r.m.R,iN r.m.S,iN r.m.B,iN r.m.M,iN r.m.C]))),(3,.m (ld 5 (iN r.m.G))),(5,.m (ld 4 (iN r.j.fr))),(6,.c [] [] (Cw r.m.R r.m.S r.m.B r.m.M r.m.C y r.m.G Om r.j.fr Om)),] [(9,i6 ((gD r.m.G r.m.R r.m.B r.m.M r.j.fr:Nat):Int))] [] (rs [(2,.l 4),(4,.t (tv (au .shr 3 (.tmp 59) (.const (u6 14)) (i6 ((gD r.m.G r.m.R r.m.B r.m.M r.j.fr:Nat):Int)) (u6 14)) (λ_=>dB (b:=((aK r.m.G r.m.R r.m.B r.m.M r.j.fr:Nat):Int)) (hP 14 Dc) Om))),(6,.s 3)] 3 (ob (B0 h) #[iN i,iN r.j.fr,i6 ((aK r.m.G r.m.R r.m.B r.m.M r.j.fr:Nat):Int)] 180) (lf ab.zero [2] [(0,0),(1,1)] [3])))
theorem Ru(y k a g h D C B F:Nat)(c:Cf)(r:Rp)(e:a2 r)(n time:Nat)(v:Value)(i:Nat)(I:r.j.A=2)(H:i=jX r.m r.j.fr r.j.nx)(q:r.j.fr<r.m.R)(u:r.j.nx<r.m.B*r.m.M*r.m.C):aa UZ 85 #[pt y 0,iN i] [ob y #[pt k 0,pt B 0,pt F 0,iN n,v] 119,ob k (lA c a D C time) 122,pk (aq a g h r)] [2] (λ_=>[pk (aq a g h r)]) (λ_=> .agg #[iN i,i6 ((lW r.m.G r.m.R r.m.B r.m.M r.j.fr (r.j.nx/r.m.C/r.m.M) (r.j.nx/r.m.C%r.m.M):Nat):Int),iN r.j.fr]):=by
 have z:=e.m.O;have x:=e.m.ly.G;have d:=ui e.m (r:=r.j.fr) Om u;have o:=d.h1;have p:=d.h2;have G:=d.h3;have A:=z.bd.c64;exact fG Tryz.func85 λw cs=>ra (λj=>[(4,pt (B0 j) 0)]) (λj=>[ob (B0 j) #[i6 0,i6 0,i6 0] 180]) λj=>rr (λ_=>[(3,.m (ld 0 (pt k 0))),(6,.m (ld 1 (pt a 0))),(7,.c [2] [2] (xH a g h r e)),(11,.m (ld 0 (pt k 0))),(14,.m (ld 1 (pt a 0))),(15,.c [2] [2] (uy a g h r e)),(16,.c [2] [2] (Dy a g h r e)),(17,.m (al 4)),(18,.m (al 5)),(19,.s 4),(20,.s 5)]) (λf=>[(5,pt ((f 17).y 0) 0),(6,pt ((f 18).y 0) 0)]) [] (λf L=>L++[ob ((f 17).y 0) #[iN r.j.A,iN r.j.fr,iN r.j.tg,iN r.j.nx] 70,ob ((f 18).y 0) #[iN r.m.R,iN r.m.S,iN r.m.B,iN r.m.M,iN r.m.C,iN r.m.G,iN r.m.res] 25]) λf=>rT [(1,.l 4),(2,.t (tk (show Value.bool ((r.j.A:Int)==2)= .bool true from ALca Value.bool (by rw[I];rfl))))] 30 (r0 [(1,.m (ls 5 ([iN r.m.R,iN r.m.S,iN r.m.B,iN r.m.M,iN r.m.C]))),(3,.m (ld 5 (iN r.m.G))),(5,.t (tv (au .shr 3 (.tmp 36) (.const (u6 6)) (iN i) (u6 6)) (λ_=>dB (b:=((r.j.fr*16384+r.j.nx/r.m.C/r.m.M*1024+r.j.nx/r.m.C%r.m.M:Nat):Int)) (hP 6 Dc) (by rw[H];unfold jX bT;omega)))),(6,.c [] [] (MF r.m.R r.m.S r.m.B r.m.M r.m.C z r.m.G x r.j.fr (r.j.nx/r.m.C/r.m.M) (r.j.nx/r.m.C%r.m.M) q o p)),] [(7,i6 ((lW r.m.G r.m.R r.m.B r.m.M r.j.fr (r.j.nx/r.m.C/r.m.M) (r.j.nx/r.m.C%r.m.M):Nat):Int))] [] (rs [(3,.l 4),(5,.s 3)] 3 (ob (B0 j) #[iN i,i6 ((lW r.m.G r.m.R r.m.B r.m.M r.j.fr (r.j.nx/r.m.C/r.m.M) (r.j.nx/r.m.C%r.m.M):Nat):Int),iN r.j.fr] 180) (lf ab.zero [2] [(0,0),(1,1)] [3])))
theorem Rv(d f b g h l k j m:Nat)(c:Cf)(r:Rp)(o:a2 r)(a time:Nat)(v:Value)(i:Nat)(p:r.j.A≠0)(s:r.j.nx<gj r.j.A r.m.B r.m.M r.m.C)(q:i=ba r.m r.j.A r.j.fr r.j.nx):aa UZ 85 #[pt d 0,iN i] [ob d #[pt f 0,pt j 0,pt m 0,iN a,v] 119,ob f (lA c b l k time) 122,pk (aq b g h r)] [2] (λ_=>[pk (aq b g h r)]) (λ_=> .agg #[iN i,i6 ((cI r:Nat):Int),i6 ((dk r:Nat):Int)]):=by
 unfold cI dk;rcases o.j.k with e | ⟨e,n⟩ | ⟨e,n⟩
 ·rw[e] at p;exact absurd rfl p
 ·rw[ALifp e,ALifp e];exact Rs d f b g h l k j m c r o a time v i e n.hf
 ·rw[e] at s q;rw[ALifn Om,ALifn Om];exact Ru d f b g h l k j m c r o a time v i e q n.hf s
def pL(y:Ct):Ct:={y with s:=g5 y.s,ns:=y.ns++[(⟨3,0,0,0,0,0⟩:Nt)]}
def pM(x:Ct):Nat:=ba x.s.r.m x.s.r.j.A x.s.r.j.fr x.s.r.j.nx
def uR(x:Ct):Nat:=ba x.s.r.m x.s.r.j.A x.s.r.j.tg x.s.r.j.nx
def rK(x:Ct):Bool:=decide (cI x.s.r<x.s.r.m.R*x.s.r.m.B*x.s.r.m.M-x.s.r.m.res+x.s.r.m.Q)&& !x.s.r.m.P.getD (cI x.s.r) false
def yr(c:Cf)(x:Ct):Ct:=b0 c x (pM x) (cI x.s.r) (dk x.s.r)
def mZ(c:Cf)(x:Ct):Ct:=bif rK x then oN c (yr c x) (uR x) (cN c x (pM x)) (decide (2≤((bM c x (pM x):Nat):Int))) else oN c x (uR x) z6 false
def jn(c:Cf)(x:Ct):Ct:=ky x (pL (mZ c x))
theorem Rw{c:Cf}{x:Ct}{K A:Nat}(h:bI c x K A)(a:x.s.r.j.A≠0)(e:K+3≤1000000000):bI c (mZ c x) (K+3) (A+2)∧(mZ c x).s.r.j=x.s.r.j∧(mZ c x).s.r.m=x.s.r.m:=by
 have b:=Ey h.s.r a (h.run a);unfold mZ;cases rK x
 ·exact⟨(pK h U3 false).mono Om Om,rfl,rfl⟩
 ·have d:=yl (i:=pM x) h b.2.1 b.1 e;exact⟨pK d (oO _ (nJ h.D _) _) _,Em c.J x.s _ a⟩
theorem Rx{c:Cf}{x:Ct}{K A:Nat}(h:bI c x K A)(a:x.s.r.j.A≠0)(b:K+257≤1000000000):bI c (pL x) (K+257) (A+1):=by
 refine⟨h.cf,PQ h.s a (h.run a) b,h.D,h.gl,Vk h.vl,?_,h.ly.tr (PR x.s),Q6 h.s.r a h.run,h.U,h.time⟩;show(x.ns++[_]).length≤A+1;rw[U1];exact Va h.nl
theorem Ry{c:Cf}{x:Ct}{K A:Nat}(h:bI c x K A)(a:x.s.r.j.A≠0)(f:K+260≤1000000000):bI c (jn c x) (K+260) (A+3):=by
 obtain⟨b,d,e⟩:=Rw h a Om;exact h.fix (Rx b (by rw[d];exact a) Om)
def pN(x:Ct):Ct:={x with s:=DP x.s,ns:=x.ns++[(⟨2,0,0,0,0,0⟩:Nt)]}
def pO(x:Ct):Ct:={x with s:=DQ x.s,ns:=x.ns++[(⟨4,0,0,0,0,0⟩:Nt)]}
theorem Rz{c:Cf}{x:Ct}{K A:Nat}(h:bI c x K A)(ht:x.s.time<1099511627776):bI c (pN x) K (A+1):=by
 refine⟨h.cf,PS h.s,h.D,h.gl,Vk h.vl,?_,h.ly,h.run,h.U,ht⟩;show(x.ns++[_]).length≤A+1;rw[U1];exact Va h.nl
theorem RA{c:Cf}{x:Ct}{K A:Nat}(h:bI c x K A):bI c (pO x) K (A+1):=by
 refine⟨h.cf,PT h.s,h.D,h.gl,Vk h.vl,?_,h.ly,h.run,h.U,h.time⟩;show(x.ns++[_]).length≤A+1;rw[U1];exact Va h.nl
theorem RB(d b i m n a j f e p g:Nat)(c:Cf)(x:Ct)(K A:Nat)(h:bI c x K A)(hA:A≤700000)(ht:x.s.time<1099511627776):aa UZ 51 #[pt d 0] [pk (aT d b i m n a j f e p g c x)] [0] (λ_=>[pk (aT d b i m n a j f e p g c (pN x))]) (λ_=>i6 0):=aa.pkZ Tryz.func51 λL r=>by
 obtain⟨v,rfl⟩:=r;refine⟨[0,1,2,3,4,5,6,7],λE=>[ob d #[pt b 0,pt e 0,pt g 0,iN x.U,(E.val 0)] 119,ob b (lA c i a f ((x.s.time+1:Nat))) 122,pk (aq i m n x.s.r),pk (aD a j (l8 x.s.k)),pk (aA f x.s.g),pk (dC g),pk (bj e p c x.V),b3 (E.val 0) (x.ns++([(⟨2,0,0,0,0,0⟩:Nt)]))],?_,rfl,λE=>⟨rfl,rfl,⟨_,rfl⟩⟩⟩;have s:=h.s;have k:x.ns.length≤800000:=U5 h.nl Om;have q:x.s.time≤1000000000000000:=by omega
 exact fG Tryz.func51 λw cs=>r0 [] [(2,i6 0)] [] (rF [(3,.l 0),(6,.l 1),(7,.t (tk (show Value.bool (decide (1099511627776≤(x.s.time:Int)))= .bool false from ALca Value.bool (by exact bg Om))))] 10 (rr (λ_=>[(2,.c [0,1,2,3,4,7] [0,1,2,3,4,7] (Rg d b i m n a j f e g c x.s _ s x.U v x.ns k q))]) N0 [] (λo L=>(((L.set 0 (ob d #[pt b 0,pt e 0,pt g 0,iN x.U,((o 2).val 0)] 119)).set 1 (ob b (lA c i a f ((x.s.time+1:Nat))) 122)).set 3 ((pk (aD a j (l8 x.s.k))))).set 7 (b3 ((o 2).val 0) (x.ns++([(⟨2,0,0,0,0,0⟩:Nt)])))) λo=>r0 [] [(2,i6 0)] [2] (lf (.l [] [] [((o 2).val 0)]) [0,1,2,3,4,5,6,7] [] [])))
theorem RC(a f m j k i n d b p e:Nat)(c:Cf)(x:Ct)(K A:Nat)(h:bI c x K A)(hA:A≤700000):aa UZ 52 #[pt a 0] [pk (aT a f m j k i n d b p e c x)] [0] (λ_=>[pk (aT a f m j k i n d b p e c (pO x))]) (λ_=>iN x.s.g.l.length):=aa.pkZ Tryz.func52 λL q=>by
 obtain⟨v,rfl⟩:=q;refine⟨[0,2,3,4,5,6,7],λE=>[ob a #[pt f 0,pt b 0,pt e 0,iN x.U,(E.val 0)] 119,pk (aq m j k x.s.r),pk (aD i n x.s.k),pk (aA d (jD x.s.g)),pk (dC e),pk (bj b p c x.V),b3 (E.val 0) (x.ns++([(⟨4,0,0,0,0,0⟩:Nt)]))],?_,rfl,λE=>⟨rfl,rfl,⟨_,rfl⟩⟩⟩;have r:=h.s;have g:x.ns.length≤800000:=U5 h.nl Om;exact fG Tryz.func52 λw cs=>r0 [] [(2,i6 0)] [] (r0 [(3,.l 0),(6,.l 1),(7,.c [4] [4] (De d x.s.g))] [(3,iN x.s.g.l.length)] [] (rr (λ_=>[(2,.c [0,1,2,3,4,7] [0,2,3,4,7] (Rh a f m j k i n d b e c x.s _ r x.U v x.ns g))]) N0 [] (λo L=>((L.set 0 (ob a #[pt f 0,pt b 0,pt e 0,iN x.U,((o 2).val 0)] 119)).set 4 ((pk (aA d (jD x.s.g))))).set 7 (b3 ((o 2).val 0) (x.ns++([(⟨4,0,0,0,0,0⟩:Nt)])))) λo=>r0 [] [(2,iN x.s.g.l.length)] [2] (lf (.l [] [] [((o 2).val 0)]) [0,2,3,4,5,6,7] [(1,1)] [])))
theorem RD(e k a b d j n i f g l:Nat)(c:Cf)(x:Ct)(K A:Nat)(h:bI c x K A)(p:x.s.r.j.A=0):aa UZ 50 #[pt e 0] [pk (aT e k a b d j n i f g l c x)] [0] (λ_=>[pk (aT e k a b d j n i f g l c x)]) (λ_=>i6 51):=aa.pkZ Tryz.func50 λL o=>by
 obtain⟨v,rfl⟩:=o;refine⟨[2,3,4,5,6,7],λ_=>[pk (aq a b d x.s.r),pk (aD j n x.s.k),pk (aA i x.s.g),pk (dC l),pk (bj f g c x.V),b3 v x.ns],?_,rfl,λE=>⟨rfl,rfl,⟨_,rfl⟩⟩⟩;have q:=h.s.r;exact fG Tryz.func50 λw cs=>r0 [] [(2,i6 0)] [] (r0 [(3,.m (ld 0 (pt k 0))),(6,.m (ld 1 (pt a 0))),(7,.c [2] [2] (N6 a b d x.s.r q p)),] [(3,i6 0),(4,i6 0),(5,i6 51)] [] (rT [] 22 (r0 [] [(2,i6 51)] [2] (lf ab.zero [2,3,4,5,6,7] [(0,0),(1,1)] []))))
theorem RE(n e a o p i u f b t j:Nat)(c:Cf)(x:Ct)(K A:Nat)(h:bI c x K A)(hA:A≤700000)(hK:K+260≤1000000000)(B:x.s.r.j.A≠0):aa UZ 50 #[pt n 0] [pk (aT n e a o p i u f b t j c x)] [0] (λ_=>[pk (aT n e a o p i u f b t j c (jn c x))]) (λ_=>i6 0):=aa.pkZ Tryz.func50 λL hL=>by
 obtain⟨v,rfl⟩:=hL;refine⟨[0,1,2,3,4,5,6,7],λE=>[ob n #[pt e 0,pt b 0,pt j 0,iN x.U,(E.val 0)] 119,ob e #[iN c.R,iN c.S,iN c.B,iN c.M,iN c.C,iN c.G,iN c.res,iN c.E,iN c.lr,iN c.er,iN c.lp,iN c.ep,iN c.H,iN c.J,iN c.log,.bool c.W,pt a 0,pt i 0,pt f 0,i6 (((jn c x).s.time:Nat):Int)] 122,pk (aq a o p (jn c x).s.r),pk (aD i u (jn c x).s.k),pk (aA f (jn c x).s.g),pk (dC j),pk (bj b t c (jn c x).V),b3 (E.val 0) ((jn c x).ns)],?_,rfl,λE=>⟨rfl,rfl,⟨_,rfl⟩⟩⟩;have d:=h.cf;have hm:=d.E;have HM:=d.E;have S:=h.dv Om;have hnl:=h.nl;have F:=h.s.r;have D:=h.run B;have z:=Ey F B D;have G:=z.1;have hsr:=z.2.1;have T:=(z.2.2.1.lay h.ly).bd d.O;have U:=(z.2.2.1.lay h.ly).has d.O;have H:=(z.2.2.2.lay h.ly).bd d.O;have I:=(z.2.2.2.lay h.ly).has d.O;have C:K+3≤1000000000:=by omega
 have ht:bI c (b0 c x (ba x.s.r.m x.s.r.j.A x.s.r.j.fr x.s.r.j.nx) (cI x.s.r) (dk x.s.r)) (K+3) (A+1):=yl h z.2.1 z.1 C;have hts:=ht.s;have hs0:=h.s;have X:=Em c.J x.s (nO c x (ba x.s.r.m x.s.r.j.A x.s.r.j.fr x.s.r.j.nx) (cI x.s.r) (dk x.s.r)) B;have R:=ht.dv Om;have Z:(b0 c x (ba x.s.r.m x.s.r.j.A x.s.r.j.fr x.s.r.j.nx) (cI x.s.r) (dk x.s.r)).ns.length≤800000:=U5 ht.nl Om;have Y:x.ns.length≤800000:=U5 h.nl Om;have Q:(b0 c x (ba x.s.r.m x.s.r.j.A x.s.r.j.fr x.s.r.j.nx) (cI x.s.r) (dk x.s.r)).s.r.j.A≠0:=by show(di _ _ _).r.j.A≠0;rw[X.1];exact B
 have W:(b0 c x (ba x.s.r.m x.s.r.j.A x.s.r.j.fr x.s.r.j.nx) (cI x.s.r) (dk x.s.r)).s.r.j.nx<gj (b0 c x (ba x.s.r.m x.s.r.j.A x.s.r.j.fr x.s.r.j.nx) (cI x.s.r) (dk x.s.r)).s.r.j.A (b0 c x (ba x.s.r.m x.s.r.j.A x.s.r.j.fr x.s.r.j.nx) (cI x.s.r) (dk x.s.r)).s.r.m.B (b0 c x (ba x.s.r.m x.s.r.j.A x.s.r.j.fr x.s.r.j.nx) (cI x.s.r) (dk x.s.r)).s.r.m.M (b0 c x (ba x.s.r.m x.s.r.j.A x.s.r.j.fr x.s.r.j.nx) (cI x.s.r) (dk x.s.r)).s.r.m.C:=by show(di _ _ _).r.j.nx<gj (di _ _ _).r.j.A (di _ _ _).r.m.B (di _ _ _).r.m.M (di _ _ _).r.m.C;rw[X.1,X.2];exact D
 have O:K+257≤1000000000:=by omega
 have P:K+3+257≤1000000000:=by omega
 have hln:(cN c x (ba x.s.r.m x.s.r.j.A x.s.r.j.fr x.s.r.j.nx)).length=64:=oO c.E (nJ h.D _) _;refine fG Tryz.func50 λw cs=>r0 [] [(2,i6 0)] [] (r0 [(3,.m (ld 0 (pt e 0))),(6,.m (ld 1 (pt a 0))),(7,.c [2] [2] (N5 a o p x.s.r F B D)),] [(3,i6 ((ba x.s.r.m x.s.r.j.A x.s.r.j.fr x.s.r.j.nx:Nat):Int)),(4,i6 ((ba x.s.r.m x.s.r.j.A x.s.r.j.tg x.s.r.j.nx:Nat):Int)),(5,i6 0)] [] (rF [] 22 (rr (λ_=>[(2,.c [0,1,2] [2] (Rv n e a o p i f b j c x.s.r F x.U x.s.time v (ba x.s.r.m x.s.r.j.A x.s.r.j.fr x.s.r.j.nx) B D rfl)),(4,.s 8)]) (λJ=>[(6,pt (B3 J) 0)]) [] (λJ L=>L++[ob (B3 J) #[i6 ((ba x.s.r.m x.s.r.j.A x.s.r.j.fr x.s.r.j.nx:Nat):Int),i6 ((cI x.s.r:Nat):Int),i6 ((dk x.s.r:Nat):Int)] 180]) λJ=>r0 [(3,.l 0),(6,.l 1),(7,.c [2] [2] (uy a o p x.s.r F)),(9,.l 8),(10,.c [2] [2] (Pq a o p x.s.r F (cI x.s.r) G))] [(37,.bool (decide ((cI x.s.r)<x.s.r.m.R*x.s.r.m.B*x.s.r.m.M-x.s.r.m.res+x.s.r.m.Q)&& !x.s.r.m.P.getD (cI x.s.r) false))] [] ?_)));refine cB (decide ((cI x.s.r)<x.s.r.m.R*x.s.r.m.B*x.s.r.m.M-x.s.r.m.res+x.s.r.m.Q)&& !x.s.r.m.P.getD (cI x.s.r) false) (λN=>?_) λN=>?_
 ·exact rr (λ_=>[(1,.l 8),(2,.c [0,1,2,3,4,5,6,7] [0,2,3,4,5,6,7] (ym n e a o p i u f b t j c x.s x.U x.ns x.V _ _ h v hA C (ba x.s.r.m x.s.r.j.A x.s.r.j.fr x.s.r.j.nx) (cI x.s.r) (dk x.s.r) T U G hsr)),(8,.s 9),(9,.s 10)]) (λq=>[(7,pt (B6 q) 0),(8,pt (B7 q) 0)]) [] (λq L=>(((((L.set 0 (ob n #[pt e 0,pt b 0,pt j 0,iN x.U,((q 2).val 0)] 119)).set 2 ((pk (aq a o p (b0 c x (ba x.s.r.m x.s.r.j.A x.s.r.j.fr x.s.r.j.nx) (cI x.s.r) (dk x.s.r)).s.r)))).set 3 ((pk (aD i u (b0 c x (ba x.s.r.m x.s.r.j.A x.s.r.j.fr x.s.r.j.nx) (cI x.s.r) (dk x.s.r)).s.k)))).set 4 ((pk (aA f (b0 c x (ba x.s.r.m x.s.r.j.A x.s.r.j.fr x.s.r.j.nx) (cI x.s.r) (dk x.s.r)).s.g)))).set 6 ((pk (bj b t c (b0 c x (ba x.s.r.m x.s.r.j.A x.s.r.j.fr x.s.r.j.nx) (cI x.s.r) (dk x.s.r)).V)))).set 7 (b3 ((q 2).val 0) ((b0 c x (ba x.s.r.m x.s.r.j.A x.s.r.j.fr x.s.r.j.nx) (cI x.s.r) (dk x.s.r)).ns))++[ob (B6 q) (rB 64 (cN c x (ba x.s.r.m x.s.r.j.A x.s.r.j.fr x.s.r.j.nx))).toArray 43,ob (B7 q) #[i6 ((bM c x (ba x.s.r.m x.s.r.j.A x.s.r.j.fr x.s.r.j.nx):Nat):Int),i6 ((gI c.E (k7 c x (ba x.s.r.m x.s.r.j.A x.s.r.j.fr x.s.r.j.nx)) ((ba x.s.r.m x.s.r.j.A x.s.r.j.fr x.s.r.j.nx):Int):Nat):Int)] 79]) λq=>cl [ob n #[pt e 0,pt b 0,pt j 0,iN x.U,((q 2).val 0)] 119,ob e #[iN c.R,iN c.S,iN c.B,iN c.M,iN c.C,iN c.G,iN c.res,iN c.E,iN c.lr,iN c.er,iN c.lp,iN c.ep,iN c.H,iN c.J,iN c.log,.bool c.W,pt a 0,pt i 0,pt f 0,i6 (((b0 c x (ba x.s.r.m x.s.r.j.A x.s.r.j.fr x.s.r.j.nx) (cI x.s.r) (dk x.s.r)).s.time:Nat):Int)] 122,pk (aq a o p (b0 c x (ba x.s.r.m x.s.r.j.A x.s.r.j.fr x.s.r.j.nx) (cI x.s.r) (dk x.s.r)).s.r),pk (aD i u (b0 c x (ba x.s.r.m x.s.r.j.A x.s.r.j.fr x.s.r.j.nx) (cI x.s.r) (dk x.s.r)).s.k),pk (aA f (b0 c x (ba x.s.r.m x.s.r.j.A x.s.r.j.fr x.s.r.j.nx) (cI x.s.r) (dk x.s.r)).s.g),pk (dC j),pk (bj b t c (b0 c x (ba x.s.r.m x.s.r.j.A x.s.r.j.fr x.s.r.j.nx) (cI x.s.r) (dk x.s.r)).V),b3 ((q 2).val 0) ((b0 c x (ba x.s.r.m x.s.r.j.A x.s.r.j.fr x.s.r.j.nx) (cI x.s.r) (dk x.s.r)).ns),ob (B3 J) #[i6 ((ba x.s.r.m x.s.r.j.A x.s.r.j.fr x.s.r.j.nx:Nat):Int),i6 ((cI x.s.r:Nat):Int),i6 ((dk x.s.r:Nat):Int)] 180,ob (B6 q) (rB 64 (cN c x (ba x.s.r.m x.s.r.j.A x.s.r.j.fr x.s.r.j.nx))).toArray 43,ob (B7 q) #[i6 ((bM c x (ba x.s.r.m x.s.r.j.A x.s.r.j.fr x.s.r.j.nx):Nat):Int),i6 ((gI c.E (k7 c x (ba x.s.r.m x.s.r.j.A x.s.r.j.fr x.s.r.j.nx)) ((ba x.s.r.m x.s.r.j.A x.s.r.j.fr x.s.r.j.nx):Int):Nat):Int)] 79] (by skip;kernel_rfl) (rs [(2,.l 9),(4,.l 10),(6,.c [0,1,5,6] [5,6] (oP n e a i f b t j c d x.U ((b0 c x (ba x.s.r.m x.s.r.j.A x.s.r.j.fr x.s.r.j.nx) (cI x.s.r) (dk x.s.r)).s.time) ((q 2).val 0) ((b0 c x (ba x.s.r.m x.s.r.j.A x.s.r.j.fr x.s.r.j.nx) (cI x.s.r) (dk x.s.r)).V) (by with_reducible exact R) (ba x.s.r.m x.s.r.j.A x.s.r.j.tg x.s.r.j.nx) H I (cN c x (ba x.s.r.m x.s.r.j.A x.s.r.j.fr x.s.r.j.nx)) (by with_reducible assumption) (decide (2≤((bM c x (ba x.s.r.m x.s.r.j.A x.s.r.j.fr x.s.r.j.nx):Nat):Int)))))] 6 ((pk (bj b t c (g9 ((b0 c x (ba x.s.r.m x.s.r.j.A x.s.r.j.fr x.s.r.j.nx) (cI x.s.r) (dk x.s.r)).V) ((ba x.s.r.m x.s.r.j.A x.s.r.j.tg x.s.r.j.nx):Int) (gp c.E (cN c x (ba x.s.r.m x.s.r.j.A x.s.r.j.fr x.s.r.j.nx)) ((ba x.s.r.m x.s.r.j.A x.s.r.j.tg x.s.r.j.nx):Int) (decide (2≤((bM c x (ba x.s.r.m x.s.r.j.A x.s.r.j.fr x.s.r.j.nx):Nat):Int)))) (bif (decide (2≤((bM c x (ba x.s.r.m x.s.r.j.A x.s.r.j.fr x.s.r.j.nx):Nat):Int))) then 1 else 0))))) (rr (λ_=>[(2,.c [0,1,2,3,4,7] [0,2,3,4,7] (Ep n e a o p i u f b j c ((b0 c x (ba x.s.r.m x.s.r.j.A x.s.r.j.fr x.s.r.j.nx) (cI x.s.r) (dk x.s.r)).s) _ (by with_reducible exact hts) x.U ((q 2).val 0) ((b0 c x (ba x.s.r.m x.s.r.j.A x.s.r.j.fr x.s.r.j.nx) (cI x.s.r) (dk x.s.r)).ns) (by with_reducible exact Z) (by with_reducible exact P) (by with_reducible exact Q) (by with_reducible exact W)))]) N0 [] (λM L=>((((L.set 0 (ob n #[pt e 0,pt b 0,pt j 0,iN x.U,((M 2).val 0)] 119)).set 2 ((pk (aq a o p (g5 ((b0 c x (ba x.s.r.m x.s.r.j.A x.s.r.j.fr x.s.r.j.nx) (cI x.s.r) (dk x.s.r)).s)).r)))).set 3 ((pk (aD i u (g5 ((b0 c x (ba x.s.r.m x.s.r.j.A x.s.r.j.fr x.s.r.j.nx) (cI x.s.r) (dk x.s.r)).s)).k)))).set 4 ((pk (aA f (g5 ((b0 c x (ba x.s.r.m x.s.r.j.A x.s.r.j.fr x.s.r.j.nx) (cI x.s.r) (dk x.s.r)).s)).g)))).set 7 (b3 ((M 2).val 0) (((b0 c x (ba x.s.r.m x.s.r.j.A x.s.r.j.fr x.s.r.j.nx) (cI x.s.r) (dk x.s.r)).ns)++([(⟨3,0,0,0,0,0⟩:Nt)])))) λM=>r0 [] [(2,i6 0)] [2] (lf (.l [] [] [((M 2).val 0)]) [0,1,2,3,4,5,6,7] [] [] (hf:=by unfold jn ky pL mZ rK yr pM uR;dsimp only;(repeat (first | rw[N] | rw[ALct]));kernel_rfl))))
 exact rs [(3,.c [0,1,5,6] [5,6] (oP n e a i f b t j c d x.U x.s.time v x.V (by with_reducible exact S) (ba x.s.r.m x.s.r.j.A x.s.r.j.tg x.s.r.j.nx) H I z6 a7 false))] 6 ((pk (bj b t c (g9 x.V ((ba x.s.r.m x.s.r.j.A x.s.r.j.tg x.s.r.j.nx):Int) (gp c.E z6 ((ba x.s.r.m x.s.r.j.A x.s.r.j.tg x.s.r.j.nx):Int) false) (bif false then 1 else 0))))) (rr (λ_=>[(2,.c [0,1,2,3,4,7] [0,2,3,4,7] (Ep n e a o p i u f b j c x.s _ (by with_reducible exact hs0) x.U v x.ns (by with_reducible exact Y) (by with_reducible exact O) (by with_reducible exact B) (by with_reducible exact D)))]) N0 [] (λy L=>((((L.set 0 (ob n #[pt e 0,pt b 0,pt j 0,iN x.U,((y 2).val 0)] 119)).set 2 ((pk (aq a o p (g5 x.s).r)))).set 3 ((pk (aD i u (g5 x.s).k)))).set 4 ((pk (aA f (g5 x.s).g)))).set 7 (b3 ((y 2).val 0) (x.ns++([(⟨3,0,0,0,0,0⟩:Nt)])))) λy=>r0 [] [(2,i6 0)] [2] (lf (.l [] [] [((y 2).val 0)]) [0,1,2,3,4,5,6,7] [] [] (hf:=by unfold jn ky pL mZ rK yr pM uR;dsimp only;(repeat (first | rw[N] | rw[ALcf]));kernel_rfl)))
section
section
variable {F:Fence} {n:Nat} {P:Program} {R:List Nat} {base:World} {Q:Exit→Act→World→Prop} {S:List It} {a:Sl} {sz:Nat} {es:Fe} {L:ah} {Ds:List Nat}
def yt(F:Fence)(n:Nat)(P:Program)(c:Code)(T:Exit→Act→World→Prop):Nat→Act→World→Prop
 | 0,_,_=>False
 | k+1,b,W=>c.wpIn F n P (Exit.then (yt F n P c T k) T) b W
def rL(F:Fence)(n:Nat)(P:Program)(Q:Exit→Act→World→Prop)(S:List It)(k:Nat):Exit→Act→World→Prop:=Exit.then (yt F n P (fC S) (cV F n P Q (bP S)) k) (cV F n P Q (bP S))
theorem lu(N:Nat)(t:Go F n P R base (rL F n P Q S N) [.c (fC S)] ⟨sz,es⟩ L Ds)(r:mD S=true:=by kernel_rfl):Go F n P R base Q S ⟨sz,es⟩ L Ds:=by
 classical
 refine⟨λb W s q=>dm 1000 S ?_⟩;rw[show c0 1000 S=_ from s4 r];show(Code.loop (fC S)).wpIn F n P (cV F n P Q (bP S)) b W
 let J:Nat→Act→World→Prop:=yt F n P (fC S) (cV F n P Q (bP S))
 let μ:Act→World→Nat:=λb W=>if h: ∃j,J j b W then Vw (ki h) else 0
 have o: ∀b W,(∃j,J j b W)→J (μ b W) b W∧∀i,i<μ b W→¬J i b W:=by
  intro b W h;have e:μ b W=Vw (ki h):=dif_pos h;rw[e];exact Classical.choose_spec (ki h)
 refine wpIn_loop (λb W=>∃j,J j b W) μ ⟨N+1,t.out b W s q⟩ λb W p=>?_;have g:=(o b W p).1;obtain⟨m,v⟩: ∃m,m=μ b W:=⟨_,rfl⟩;rw[←v] at g;cases m with
 | zero=>exact g.elim
 | succ m=>
  refine wpIn_mono (show(fC S).wpIn F n P _ b W from g) λe f d l=>?_;cases e with
  | normal=>
   have k:J m f d:=l;have w:μ f d≤m:=Nat.le_of_not_lt λu=>(o f d ⟨_,k⟩).2 _ u k;exact⟨⟨_,k⟩,by omega⟩
  | _=>exact l
theorem eG{k:Nat}{d:List It}(h:Go F n P R base (rL F n P Q d k) [.c (fC d)] a L Ds)(f:(nf S).isEmpty=true:=by kernel_rfl):Go F n P R base (rL F n P Q d (k+1)) S a L Ds:=by
 refine⟨λb W g e=>dm 1000 S ?_⟩;rw[show c0 1000 S=[] from List.isEmpty_iff.1 f];exact h.out b W g e
theorem m0{k:Nat}{c:List It}(e:Go F n P R base Q ((iw S (bP c)).getD []) a L Ds)(g:(iw S (bP c)).isSome=true:=by kernel_rfl):Go F n P R base (rL F n P Q c k) S a L Ds:=by
 obtain⟨i,d⟩:=Option.isSome_iff_exists.1 g;rw[d] at e;exact⟨λb W h f=>s5 d (e.out b W h f) λ_=>rfl⟩
instance {F:Fence} {n:Nat} {P:Program} {Q Q0:Exit→Act→World→Prop} {S0:List It} {k:Nat} [h:Rt Q Q0]:Rt (rL F n P Q S0 k) Q0:=⟨λb W hq=>gz (S:=bP S0) (h.out b W hq)⟩
end
end
structure St where
 k:Int
 ln:Int
 d:List UInt8
 m:Nat
 f0:Int
 f1:Int
 f2:Int
 f3:Int
 f4:Int
 f5:Int
 f6:Int
 f7:Int
abbrev sL(k j:Int)(d:List UInt8)(m a b c e f g h i:Int):List Value:=([i6 k,i6 j]:List Value)++rB 64 d++([u6 m,i6 a,i6 b,i6 c,i6 e,i6 f,i6 g,i6 h,i6 i]:List Value)
abbrev sV(k j:Int)(d:List UInt8)(m a b c e f g h i:Int):Array Value:=(sL k j d m a b c e f g h i).toArray
def aC:St:=⟨0,0,U0 64 0,0,0,0,0,0,0,0,0,0⟩
def eSt(x:St):List Value:=[i6 x.k,i6 x.ln]++rB 64 x.d++[u6 (x.m:Int),i6 x.f0,i6 x.f1,i6 x.f2,i6 x.f3,i6 x.f4,i6 x.f5,i6 x.f6,i6 x.f7]
def RF:Kd UZ St:=⟨eSt,[i6 0,i6 0]++U0 64 (u1 0)++[u6 0,i6 0,i6 0,i6 0,i6 0,i6 0,i6 0,i6 0,i6 0],32,50,aC,75,λ_=>rfl,rfl,λ_=>rfl,dS.mk' Kr Kr rfl⟩
theorem EA(b:Nat)(k n:Int)(d:List UInt8)(m:Nat)(c e f g h i j:Int):aa UZ 95 #[pt b 67] [ob b (sV k n d m 1 c e f g h i j) 50] [] (λE=>[ob (E.y 0) #[pt b 68,pt b 69,pt b 70,pt b 71,pt b 73] 197]) (λE=> .slice (some ⟨(E.y 0),0,none⟩) 5 5):=by
 exact fG Tryz.func95 λw cs=>r0 [] [(2,.slice none 0 0)] [] (r0 [] [(3,pt b 68)] [] (r0 [(3,.l 0)] [(10,i6 1)] [] (rT [] 11 (rr (λa=>[(0,.v (pt b 68)),(1,.v (pt b 68)),(2,.v (pt b 68)),(3,.v (pt b 68)),(4,.v (pt b 68)),(5,.v (pt b 69)),(6,.v (pt b 68)),(7,.v (pt b 68)),(8,.v (pt b 70)),(9,.v (pt b 68)),(10,.v (pt b 68)),(11,.v (pt b 71)),(12,.v (pt b 67)),(13,.v (pt b 67)),(14,.v (pt b 73)),(15,.m (bs 1 5)),(16,.v (.slice (some ⟨(a 15).y 0,0,none⟩) 5 5))]) (λa=>[(2,.slice (some ⟨(a 15).y 0,0,none⟩) 5 5)]) [2] (λa L=>L++[ob ((a 15).y 0) #[pt b 68,pt b 69,pt b 70,pt b 71,pt b 73] 197]) λa=>lf (.l [(a 15).y 0] [] []) [1] [(0,0)] []))))
theorem EB(b:Nat)(k n:Int)(d:List UInt8)(m:Nat)(c e f g h i j:Int):aa UZ 95 #[pt b 67] [ob b (sV k n d m 2 c e f g h i j) 50] [] (λE=>[ob (E.y 0) #[pt b 68,pt b 69,pt b 70,pt b 71,pt b 73,pt b 74] 197]) (λE=> .slice (some ⟨(E.y 0),0,none⟩) 6 6):=by
 exact fG Tryz.func95 λw cs=>r0 [] [(2,.slice none 0 0)] [] (r0 [] [(3,pt b 68)] [] (r0 [(3,.l 0)] [(10,i6 2)] [] (rF [] 11 (rT [] 29 (rr (λa=>[(0,.v (pt b 68)),(1,.v (pt b 68)),(2,.v (pt b 68)),(3,.v (pt b 68)),(4,.v (pt b 68)),(5,.v (pt b 69)),(6,.v (pt b 68)),(7,.v (pt b 68)),(8,.v (pt b 70)),(9,.v (pt b 68)),(10,.v (pt b 68)),(11,.v (pt b 71)),(12,.v (pt b 67)),(13,.v (pt b 67)),(14,.v (pt b 73)),(15,.v (pt b 67)),(16,.v (pt b 67)),(17,.v (pt b 74)),(18,.m (bs 1 6)),(19,.v (.slice (some ⟨(a 18).y 0,0,none⟩) 6 6))]) (λa=>[(2,.slice (some ⟨(a 18).y 0,0,none⟩) 6 6)]) [2] (λa L=>L++[ob ((a 18).y 0) #[pt b 68,pt b 69,pt b 70,pt b 71,pt b 73,pt b 74] 197]) λa=>lf (.l [(a 18).y 0] [] []) [1] [(0,0)] [])))))
theorem EC(b:Nat)(k n:Int)(d:List UInt8)(m:Nat)(c e f g h i j:Int):aa UZ 95 #[pt b 67] [ob b (sV k n d m 3 c e f g h i j) 50] [] (λE=>[ob (E.y 0) #[pt b 68,pt b 69,pt b 70,pt b 72,pt b 74] 197]) (λE=> .slice (some ⟨(E.y 0),0,none⟩) 5 5):=by
 exact fG Tryz.func95 λw cs=>r0 [] [(2,.slice none 0 0)] [] (r0 [] [(3,pt b 68)] [] (r0 [(3,.l 0)] [(10,i6 3)] [] (rF [] 11 (rF [] 29 (rT [] 50 (rr (λa=>[(0,.v (pt b 68)),(1,.v (pt b 68)),(2,.v (pt b 68)),(3,.v (pt b 68)),(4,.v (pt b 68)),(5,.v (pt b 69)),(6,.v (pt b 68)),(7,.v (pt b 68)),(8,.v (pt b 70)),(9,.v (pt b 67)),(10,.v (pt b 67)),(11,.v (pt b 72)),(12,.v (pt b 67)),(13,.v (pt b 67)),(14,.v (pt b 74)),(15,.m (bs 1 5)),(16,.v (.slice (some ⟨(a 15).y 0,0,none⟩) 5 5))]) (λa=>[(2,.slice (some ⟨(a 15).y 0,0,none⟩) 5 5)]) [2] (λa L=>L++[ob ((a 15).y 0) #[pt b 68,pt b 69,pt b 70,pt b 72,pt b 74] 197]) λa=>lf (.l [(a 15).y 0] [] []) [1] [(0,0)] []))))))
theorem ED(b:Nat)(k n:Int)(d:List UInt8)(m:Nat)(c e f g h i j:Int):aa UZ 95 #[pt b 67] [ob b (sV k n d m 4 c e f g h i j) 50] [] (λE=>[ob (E.y 0) #[pt b 68,pt b 69,pt b 71,pt b 72,pt b 74] 197]) (λE=> .slice (some ⟨(E.y 0),0,none⟩) 5 5):=by
 exact fG Tryz.func95 λw cs=>r0 [] [(2,.slice none 0 0)] [] (r0 [] [(3,pt b 68)] [] (r0 [(3,.l 0)] [(10,i6 4)] [] (rF [] 11 (rF [] 29 (rF [] 50 (rT [] 68 (rr (λa=>[(0,.v (pt b 68)),(1,.v (pt b 68)),(2,.v (pt b 68)),(3,.v (pt b 68)),(4,.v (pt b 68)),(5,.v (pt b 69)),(6,.v (pt b 68)),(7,.v (pt b 68)),(8,.v (pt b 71)),(9,.v (pt b 67)),(10,.v (pt b 67)),(11,.v (pt b 72)),(12,.v (pt b 67)),(13,.v (pt b 67)),(14,.v (pt b 74)),(15,.m (bs 1 5)),(16,.v (.slice (some ⟨(a 15).y 0,0,none⟩) 5 5))]) (λa=>[(2,.slice (some ⟨(a 15).y 0,0,none⟩) 5 5)]) [2] (λa L=>L++[ob ((a 15).y 0) #[pt b 68,pt b 69,pt b 71,pt b 72,pt b 74] 197]) λa=>lf (.l [(a 15).y 0] [] []) [1] [(0,0)] [])))))))
theorem EE(b:Nat)(k n:Int)(d:List UInt8)(m:Nat)(c e f g h i j:Int):aa UZ 95 #[pt b 67] [ob b (sV k n d m 5 c e f g h i j) 50] [] (λE=>[ob (E.y 0) #[pt b 68,pt b 72,pt b 74] 197]) (λE=> .slice (some ⟨(E.y 0),0,none⟩) 3 3):=by
 exact fG Tryz.func95 λw cs=>r0 [] [(2,.slice none 0 0)] [] (r0 [] [(3,pt b 68)] [] (r0 [(3,.l 0)] [(10,i6 5)] [] (rF [] 11 (rF [] 29 (rF [] 50 (rF [] 68 (rT [] 86 (rr (λ_=>[(9,.m (bs 1 3))]) (λa=>[(2,.slice (some ⟨(a 9).y 0,0,none⟩) 3 3)]) [2] (λa L=>L++[ob ((a 9).y 0) #[pt b 68,pt b 72,pt b 74] 197]) λa=>lf (.l [(a 9).y 0] [] []) [1] [(0,0)] []))))))))
theorem EF(b:Nat)(k n:Int)(d:List UInt8)(m:Nat)(c e f g h i j:Int):aa UZ 95 #[pt b 67] [ob b (sV k n d m 6 c e f g h i j) 50] [] (λE=>[ob (E.y 0) #[pt b 68,pt b 69,pt b 70,pt b 71] 197]) (λE=> .slice (some ⟨(E.y 0),0,none⟩) 4 4):=by
 exact fG Tryz.func95 λw cs=>r0 [] [(2,.slice none 0 0)] [] (r0 [] [(3,pt b 68)] [] (r0 [(3,.l 0)] [(10,i6 6)] [] (rF [] 11 (rF [] 29 (rF [] 50 (rF [] 68 (rF [] 86 (rT [] 98 (rr (λa=>[(0,.v (pt b 68)),(1,.v (pt b 68)),(2,.v (pt b 68)),(3,.v (pt b 68)),(4,.v (pt b 68)),(5,.v (pt b 69)),(6,.v (pt b 68)),(7,.v (pt b 68)),(8,.v (pt b 70)),(9,.v (pt b 68)),(10,.v (pt b 68)),(11,.v (pt b 71)),(12,.m (bs 1 4)),(13,.v (.slice (some ⟨(a 12).y 0,0,none⟩) 4 4))]) (λa=>[(2,.slice (some ⟨(a 12).y 0,0,none⟩) 4 4)]) [2] (λa L=>L++[ob ((a 12).y 0) #[pt b 68,pt b 69,pt b 70,pt b 71] 197]) λa=>lf (.l [(a 12).y 0] [] []) [1] [(0,0)] [])))))))))
theorem EG(b:Nat)(k j:Int)(d:List UInt8)(m:Nat)(a c e f g h i:Int):aa UZ 95 #[pt b 67] [ob b (sV k j d m 7 a c e f g h i) 50] [] N0 (λ_=> .slice none 0 0):=by
 exact fG Tryz.func95 λw cs=>r0 [] [(2,.slice none 0 0)] [] (r0 [] [(3,pt b 68)] [] (r0 [(3,.l 0)] [(10,i6 7)] [] (rF [] 11 (rF [] 29 (rF [] 50 (rF [] 68 (rF [] 86 (rF [] 98 (r0 [] [(2,.slice none 0 0)] [2] (lf ab.zero [] [(0,0)] []))))))))))
end E
end Go.Proofs.YtbcodenfkijdnaaGreat
