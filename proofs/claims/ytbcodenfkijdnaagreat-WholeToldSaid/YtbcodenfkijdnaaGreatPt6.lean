/- WholeTold, in 7 texts: part 6. For every input; no condition. -/
import Derived.Test.YtbcodenfkijdnaaGreatPt5
set_option linter.unusedVariables false
set_option linter.unusedSimpArgs false
set_option maxRecDepth 100000
namespace Go.Proofs.YtbcodenfkijdnaaGreat
open Go Go.RowKit Go.Shelf
open List renaming getD_eq_getElem?_getD→YU,sublist_append_right→YV,getElem?_eq_getElem→YW,length_map→YX,length_append→YY,take_append_drop→YZ,replicate→Y0,length_range→Y2,getElem?_append_right→Y6,range→Za,take_add_one→Zb,getElem?_map→Zc,take_length→Ze,length_cons→Zf
open Go.Proofs.Tryz renaming prog→Y1
open Nat renaming le_refl→Y3,sub_zero→Y5,le_of_lt→Y7,zero_add→Y9,le_succ_of_le→Zd,succ_le_succ→Zh,le_trans→Zj
open Option renaming getD_some→Y4,toList_some→Y8
open Bool renaming and_eq_true→Zg,or_eq_true→Zi
namespace E
section
theorem XL(g n:Nat):aa Y1 29 #[pt g 0,iN n] [] [] (λE=>[ob (E.y 0) #[iN n] 3,ob (E.y 1) #[pt g 0] 37]) (λE=> .func (.func 59) #[] #[pt ((E.y 0)) 0,pt ((E.y 1)) 0]):=by
 exact fG Tryz.func29 λw cs=>ra (λa=>[(2,pt (B0 a) 0),(3,pt (B1 a) 0),(4,.nilFunc)]) (λa=>[ob (B0 a) #[pt g 0] 37,ob (B1 a) #[iN n] 3]) λa=>r0 [] [(4,.func (.func 59) #[] #[pt (B1 a) 0,pt (B0 a) 0])] [4] (lf (.l [(a 1).y 0,(a 0).y 0] [] []) [1,0] [] [])
theorem XM(d e n g f l D B C A F z j y m:Nat)(c:Cf)(x:Mc)(H:x.x.ns.length≤1000000)(i:n≤1000000)(bs:aA)(h:nN (bg g f l D B C A F z j y m c x) bs):e4 5 Y1 59 #[pt d 0,pt e 0] (λ(x:Nat×Nt)=>#[i6 (x.1:Int),.agg #[i6 (x.2.k:Int),i6 (x.2.v:Int),i6 (x.2.f:Int),i6 (x.2.i:Int),i6 (x.2.h:Int),i6 (x.2.r:Int)]]) ((Za (x.x.ns.length-n)).map λk=>(n+k,x.x.ns.getD (n+k) e3)) (List.flatten [[(d,.cells #[iN n] 3 (0,0))],[(e,.cells #[pt f 0] 37 (0,0))],bs]):=by
 obtain⟨L,P,⟨gi,X,vs,rfl⟩,b,rfl⟩:=h;obtain⟨o,_,rfl,R,b⟩:=Yp b;obtain⟨O,_,rfl,G,b⟩:=Yp b;obtain⟨N,Q,⟨M,rfl⟩,a,rfl⟩:=G;obtain⟨p,_,rfl,I,a⟩:=Yp a;obtain⟨q,_,rfl,S,a⟩:=Yp a;obtain⟨r,_,rfl,T,a⟩:=Yp a;obtain⟨s,_,rfl,U,a⟩:=Yp a;obtain⟨t,_,rfl,V,a⟩:=Yp a;obtain⟨u,_,rfl,W,a⟩:=Yp a;obtain⟨v,_,rfl,J,a⟩:=Yp a;obtain⟨w,_,rfl,K,a⟩:=Yp a;obtain rfl:=nD a;obtain rfl:p=_:=I;refine(V7 d e f l j m n x.x.U M x.x.ns w (ar.sq K) H i).mono ?_;simp only[List.flatten_cons,List.flatten_nil,List.append_nil];refine List.Sublist.append (List.Sublist.refl _) (List.Sublist.append (List.Sublist.refl _) ?_);refine List.Sublist.trans ?_ (YV o _);refine List.Sublist.trans ?_ (List.sublist_append_left _ _);refine List.Sublist.append (List.Sublist.refl _) ?_;exact((((((YV v _).trans (YV u _)).trans (YV t _)).trans (YV s _)).trans (YV r _)).trans (YV q _))
def da(l:List Nt):Nat→List Nat
 | 0=>[]
 | k+1=>bif ((l.getD (0+k) e3).k:Int)==1 then da l k++[(l.getD (0+k) e3).v] else da l k
def di(l:List Ac):Nat→Nat
 | 0=>0
 | k+1=>bif (l.getD (0+k) aD).wr then di l k else di l k+1
theorem XN(l:List Nt):da l 0=[]:=rfl
theorem wW(l:List Nt)(k:Nat):da l (k+1)=bif ((l.getD (0+k) e3).k:Int)==1 then da l k++[(l.getD (0+k) e3).v] else da l k:=rfl
theorem XP(l:List Ac):di l 0=0:=rfl
theorem tm(l:List Ac)(k:Nat):di l (k+1)=bif (l.getD (0+k) aD).wr then di l k else di l k+1:=rfl
theorem AP(l:List Nt): ∀k,(da l k).length≤k
 | 0=>Y3 _
 | k+1=>by
  have:=AP l k;rw[wW];cases ((l.getD (0+k) e3).k:Int)==1
  ·exact Zd this
  ·rw[ALct,YY];exact Zh this
theorem HZ(l:List Ac): ∀k,di l k≤k
 | 0=>Y3 _
 | k+1=>by
  have:=HZ l k;rw[tm];cases (l.getD (0+k) aD).wr
  ·exact Zh this
  ·exact Zd this
theorem H0(l:List Nt): ∀k,k≤l.length→da l k=(kK (l.take k)).map (·.v)
 | 0,_=>rfl
 | k+1,h=>by
  have a:k<l.length:=h;rw[wW,H0 l k (Y7 a),Zb,YW a,Y8,Y9,YU,YW a,Y4];cases e:((l[k].k:Int)==1)
  ·rw[ALcf,wV (λq=>by rw[q] at e;exact absurd e Dc)]
  ·rw[ALct,HU (by have:=eq_of_beq e;omega),List.map_append];rfl
theorem AQ(l:List Nt):da l l.length=(kK l).map (·.v):=by rw[H0 l _ (Y3 _),Ze]
theorem AR(l:List Ac): ∀k,k≤l.length→di l k=(gI (l.take k)).length
 | 0,_=>rfl
 | k+1,h=>by
  have a:k<l.length:=h;rw[tm,AR l k (Y7 a),Zb,YW a,Y8,Y9,YU,YW a,Y4];cases e:l[k].wr
  ·rw[ALcf,HT e,YY];rfl
  ·rw[ALct,AK e]
theorem XQ(l:List Ac):di l l.length=(gI l).length:=by rw[AR l _ (Y3 _),Ze]
theorem H2{l:List Ac}{k:Nat}(a:k<l.length)(h:(l.getD (0+k) aD).wr=false):di l k<(gI l).length∧(gI l).getD (di l k) aD=l.getD (0+k) aD:=by
 have c:l.getD (0+k) aD=l[k]:=by rw[Y9,YU,YW a,Y4]
 rw[c] at h⊢;have e:gI l=gI (l.take k)++l[k]::gI (l.drop (k+1)):=by
  have b:l=l.take k++l[k]::l.drop (k+1):=by rw[←List.drop_eq_getElem_cons a,YZ]
  conv=>lhs;rw[b]
  unfold gI;rw[List.filter_append,List.filter_cons_of_pos (by rw[h];rfl)]
 rw[AR l k (Y7 a),e];refine⟨by rw[YY,Zf];omega,?_⟩;rw[YU,Y6 (Y3 _),Nat.sub_self];rfl
structure XR (c:Cf) (x:Ct) (j:Nat):Prop where
 n:(x.V.l.getD (0+j) aD).wr=false→di x.V.l j<(da x.ns (x.ns.length-0)).length
 t:(x.V.l.getD (0+j) aD).wr=false→kd (x.V.l.getD (0+j) aD)=false→l9 c.E ((da x.ns (x.ns.length-0)).getD (di x.V.l j) 0) ((x.V.l.getD (0+j) aD).ex.toNat+(x.V.l.getD (0+j) aD).mr.toNat) (x.V.l.getD (0+j) aD).mr∧0≤(x.V.l.getD (0+j) aD).ex
theorem XS{c:Cf}{x:Ct}(h:eK c x){j:Nat}(g:j<x.V.l.length):XR c x j:=by
 obtain⟨i,b,e,n⟩:=h.p;have o:(da x.ns x.ns.length).length=(gI x.V.l).length:=by rw[AQ,YX,b,e,YX,YX]
 refine⟨λd=>by rw[Y5,o];exact(H2 g d).1,λd f=>?_⟩;rw[Y5];obtain⟨a,k⟩:=H2 g d;rw[b,YX] at a;have l:(da x.ns x.ns.length).getD (di x.V.l j) 0=(i[di x.V.l j]).2.v:=by
  rw[AQ,e,YU,List.map_map,Zc,YW a];rfl
 have m:x.V.l.getD (0+j) aD=(i[di x.V.l j]).1:=by
  rw[←k,b,YU,Zc,YW a];rfl
 rw[l];rw[m] at f⊢;exact n _ (List.getElem_mem a) f
theorem XT{c:Cf}{x:Ct}(h:eK c x):di x.V.l (x.V.l.length-0)=(da x.ns (x.ns.length-0)).length:=by
 rw[Y5,Y5];obtain⟨e,a,b,d⟩:=h.p;rw[XQ,AQ,YX,a,b,YX,YX]
theorem XU{m v:Nat}{a:Int}{p:Bool}(h:l9 m v (a.toNat+p.toNat) p)(h0:0≤a):
  ((((((((v:Nat):Int)==0)&&(decide (0<(bif p then a+1 else a))))&&(decide ((bif p then a+1 else a)<((3+m:Nat):Int))))||(((((v:Nat):Int)==1)&&((bif p then a+1 else a) != 1))&&(decide ((bif p then a+1 else a)<((2+m:Nat):Int)))))||(((bif p then a+1 else a)==0)&&(((v:Nat):Int) != 0)))||((((bif p then a+1 else a)==1)&&(!p))&&(((v:Nat):Int) != 1)))=false:=by
 obtain⟨c,d,e,b⟩:=h;rw[Bool.eq_false_iff];intro f;cases p with
 | false=>
  have b:=λh=>b h rfl;simp only[ALcf,Bool.toNat_false,Zi,Zg,decide_eq_true_eq,beq_iff_eq,bne_iff_ne,ne_eq,Bool.not_false,and_true] at c d e b f;omega
 | true=>
  simp only[ALct,Bool.toNat_true,Zi,Zg,decide_eq_true_eq,beq_iff_eq,bne_iff_ne,ne_eq,Bool.not_true,Bool.false_eq_true,and_false,false_and,or_false] at c d e f;omega
attribute [local irreducible] aj fq gj da di
theorem XV(r s b m c way g mode o k n j a heavy f:Int)(e:Bool)(h:mK r s b m c way g mode o k n j a heavy f=false)(v:Value)(l:List St):aa Y1 5 #[.agg #[i6 r,i6 s,i6 b,i6 m,i6 c,i6 way,i6 g,i6 mode,i6 o,i6 k,i6 n,i6 j,i6 a,i6 heavy,i6 f,.bool e],v] [.p (aP eSt v l)] [] N0 (λ_=> .bool true):=by
 exact fO Tryz.func5 0 rfl λq t=>fG Tryz.func5 λw cs=>ra (λi=>[(2,pt (B0 i) 0),(4,pt (B1 i) 0)]) (λi=>[ob (B0 i) #[i6 r,i6 s,i6 b,i6 m,i6 c,i6 way,i6 g,i6 mode,i6 o,i6 k,i6 n,i6 j,i6 a,i6 heavy,i6 f,.bool e] 31,ob (B1 i) #[.bool false] 4]) λi=>rF [(0,.c [] [] (wT))] 15 (r0 [(0,.l 1),(1,.c [] [] (WI r s b m c way g mode o k n j a heavy f e h))] [(5,.pointer none)] [] (rT [(3,.d),(4,.d),(5,.d)] 24 (rs [(0,.s 2)] 2 (ob (B1 i) #[.bool true] 4) (lf ab.zero [] [(0,0)] [2]))))
theorem XW(c:Cf)(b:cZ c)(hs:ou c=false)(v:Value)(l:List St):aa Y1 5 #[.agg (cA c),v] [.p (aP eSt v l)] [] N0 (λ_=> .bool true):=by
 exact fO Tryz.func5 0 rfl λe f=>fG Tryz.func5 λw cs=>ra (λa=>[(2,pt (B0 a) 0),(4,pt (B1 a) 0)]) (λa=>[ob (B0 a) (cA c) 31,ob (B1 a) #[.bool false] 4]) λa=>rF [(0,.c [] [] (wT))] 15 (r0 [(0,.l 1),(1,.c [] [] (WZ c b hs))] [(5,.pointer none)] [] (rT [(3,.d),(4,.d),(5,.d)] 24 (rs [(0,.s 2)] 2 (ob (B1 a) #[.bool true] 4) (lf ab.zero [] [(0,0)] [2]))))
theorem XX(c:Cf)(d:cZ c)(hs:ou c=true)(v:Value)(l:List St)(g:80<l.length):aa Y1 5 #[.agg (cA c),v] [.p (aP eSt v l)] [] N0 (λ_=> .bool true):=by
 exact fO Tryz.func5 0 rfl λf e=>fG Tryz.func5 λw cs=>ra (λb=>[(2,pt (B0 b) 0),(4,pt (B1 b) 0)]) (λb=>[ob (B0 b) (cA c) 31,ob (B1 b) #[.bool false] 4]) λb=>rF [(0,.c [] [] (wT))] 15 (rr (λ_=>[(0,.l 1),(1,.c [] [3] (AB c d hs))]) (λa=>[(5,pt ((B1 a)) 0)]) [] (λa L=>L++[pk (bg (B1 a) (((a 1).y 1)) (((a 1).y 2)) (((a 1).y 3)) (((a 1).y 4)) (((a 1).y 5)) (((a 1).y 6)) (((a 1).y 7)) (((a 1).y 8)) (((a 1).y 9)) (((a 1).y 10)) (((a 1).y 11)) c (ak c))]) λa=>rT [(4,eD e.1 0),(5,.t (tk (show Value.bool (decide (80<(l.length:Int)))= .bool true from ALca Value.bool (by exact c0 Om))))] 24 (rs [(0,.s 2)] 2 (ob (B1 b) #[.bool true] 4) (lf ab.zero [] [(0,0)] [2])))
theorem XY(c:Cf)(J:cZ c)(hs:ou c=true)(v:Value)(l:List St)(hl:l.length≤80)(Q:qE l)(hx:tf (aj c (ak c) l l.length).x.V.l)(S:eK c (aj c (ak c) l l.length).x):aa Y1 5 #[.agg (cA c),v] [.p (aP eSt v l)] [] N0 (λ_=> .bool true):=by
 have Y:=GM.start J;have P:0+l.length≤900:=by omega
 have Z:=wU Y Q l.length P;have gv:(aj c (ak c) l l.length).x.V.l.length≤900000:=Zj (Z.vl Om) Dc;have gn:(aj c (ak c) l l.length).x.ns.length≤900000:=Zj Z.ok.ct.nl Om;have hvl:=AP (aj c (ak c) l l.length).x.ns (aj c (ak c) l l.length).x.ns.length;have hcm:=J.E;refine fO Tryz.func5 0 rfl λz R=>fG Tryz.func5 λw cs=>ra (λq=>[(2,pt (B0 q) 0),(4,pt (B1 q) 0)]) (λq=>[ob (B0 q) (cA c) 31,ob (B1 q) #[.bool false] 4]) λq=>rF [(0,.c [] [] (wT))] 15 (rr (λ_=>[(0,.l 1),(1,.c [] [3] (AB c J hs))]) (λa=>[(5,pt ((B1 a)) 0)]) [] (λa L=>L++[pk (bg (B1 a) (((a 1).y 1)) (((a 1).y 2)) (((a 1).y 3)) (((a 1).y 4)) (((a 1).y 5)) (((a 1).y 6)) (((a 1).y 7)) (((a 1).y 8)) (((a 1).y 9)) (((a 1).y 10)) (((a 1).y 11)) c (ak c))]) λa=>rF [(4,eD R.1 0),(5,.t (tk (show Value.bool (decide (80<(l.length:Int)))= .bool false from ALca Value.bool (by exact bj Om))))] 24 (rr (λ_=>[(2,.c [3,0] [3,4] (aa.at (rd':=[pk (bg (B1 a) (((a 1).y 1)) (((a 1).y 2)) (((a 1).y 3)) (((a 1).y 4)) (((a 1).y 5)) (((a 1).y 6)) (((a 1).y 7)) (((a 1).y 8)) (((a 1).y 9)) (((a 1).y 10)) (((a 1).y 11)) c (ak c)),.c z]) (Xp (B1 a) ((a 1).y 1) ((a 1).y 2) ((a 1).y 3) ((a 1).y 4) ((a 1).y 5) ((a 1).y 6) ((a 1).y 7) ((a 1).y 8) ((a 1).y 9) ((a 1).y 10) ((a 1).y 11) c (ak c) _ Y v l P Q) (atS (ei R (λ_ h=>h)))))]) N0 [] (λT L=>L.set 3 ((pk (bg (B1 a) ((a 1).y 1) ((a 1).y 2) ((a 1).y 3) ((a 1).y 4) ((a 1).y 5) ((a 1).y 6) ((a 1).y 7) ((a 1).y 8) ((a 1).y 9) ((a 1).y 10) ((a 1).y 11) c (aj c (ak c) l l.length))))++[px ((T 2).val 0) (kg c (ak c) l l.length)]) λT=>ra (λD=>[(6,pt (B0 D) 0)]) (λD=>[ob (B0 D) #[.slice none 0 0] 74]) λD=>rr (λ_=>[(1,.c [3] [3] (Hu (B1 a) ((a 1).y 1) ((a 1).y 2) ((a 1).y 3) ((a 1).y 4) ((a 1).y 5) ((a 1).y 6) ((a 1).y 7) ((a 1).y 8) ((a 1).y 9) ((a 1).y 10) ((a 1).y 11) c (aj c (ak c) l l.length))),(2,.c [] [6,7] (XL ((a 1).y 1) 0))]) (λo=>[(30,.func (.func 59) #[] #[pt ((B2 o)) 0,pt (((o 2).y 1)) 0])]) [] (λo L=>L++[ob (B2 o) #[i6 ((0:Nat):Int)] 3,ob ((o 2).y 1) #[pt ((a 1).y 1) 0] 37]) λo=>cz bX ?_));refine ck 3 (nN (bg (B1 a) ((a 1).y 1) ((a 1).y 2) ((a 1).y 3) ((a 1).y 4) ((a 1).y 5) ((a 1).y 6) ((a 1).y 7) ((a 1).y 8) ((a 1).y 9) ((a 1).y 10) ((a 1).y 11) c (aj c (ak c) l l.length))) (λy O=>?_);refine cz bX ?_;refine Cr (encs:=λ(x:Nat×Nt)=>#[i6 (x.1:Int),.agg #[i6 (x.2.k:Int),i6 (x.2.v:Int),i6 (x.2.f:Int),i6 (x.2.i:Int),i6 (x.2.h:Int),i6 (x.2.r:Int)]]) (xs:=(Za ((aj c (ak c) l l.length).x.ns.length-0)).map (λk=>(0+k,(aj c (ak c) l l.length).x.ns.getD (0+k) e3))) (KO:=[[((B2 o),.cells #[i6 ((0:Nat):Int)] 3 (0,0))],[(((o 2).y 1),.cells #[pt ((a 1).y 1) 0] 37 (0,0))],y]) (XM (B2 o) ((o 2).y 1) 0 (B1 a) ((a 1).y 1) ((a 1).y 2) ((a 1).y 3) ((a 1).y 4) ((a 1).y 5) ((a 1).y 6) ((a 1).y 7) ((a 1).y 8) ((a 1).y 9) ((a 1).y 10) ((a 1).y 11) c (aj c (ak c) l l.length) Om Om y O) (enters_of Tryz.func59 Kr rfl) (λj _=>j≤(aj c (ak c) l l.length).x.ns.length-0) (λj b L=>(L.set 5 (ob (B0 D) #[b] 74)).set 9 (bt b (da (aj c (ak c) l l.length).x.ns j))) [6,7,3] (.slice none 0 0) Om (by rw[XN];kernel_rfl) (λlR j b xE R1 W1 M G=>?_) (λD10 b G=>?_)
 ·obtain⟨X,rfl⟩:=mi M;have hvj:=AP (aj c (ak c) l l.length).x.ns j;refine rr (λ_=>[(1,.s 10)]) (λC=>[(8,pt (B0 C) 0)]) [] (λC L=>L++[ob (B0 C) #[i6 ((((aj c (ak c) l l.length).x.ns.getD (0+j) e3).k:Nat):Int),i6 ((((aj c (ak c) l l.length).x.ns.getD (0+j) e3).v:Nat):Int),i6 ((((aj c (ak c) l l.length).x.ns.getD (0+j) e3).f:Nat):Int),i6 ((((aj c (ak c) l l.length).x.ns.getD (0+j) e3).i:Nat):Int),i6 ((((aj c (ak c) l l.length).x.ns.getD (0+j) e3).h:Nat):Int),i6 ((((aj c (ak c) l l.length).x.ns.getD (0+j) e3).r:Nat):Int)] 81]) λC=>?_;refine ag [6,7,3] (λR2 W2=>?_);refine r0 [(1,.l 10)] [(35,.bool (((((aj c (ak c) l l.length).x.ns.getD (0+j) e3).k:Nat):Int)==1))] [] ?_;refine cE ((((aj c (ak c) l l.length).x.ns.getD (0+j) e3).k:Nat):Int) 1 (λI N=>?_) λI N=>?_
  ·exact rr (λg=>[(0,.l 5),(3,.l 10),(4,.m (bs 11 1)),(5,e7 bX (b) (da (aj c (ak c) l l.length).x.ns j) 9 11 ([((aj c (ak c) l l.length).x.ns.getD (0+j) e3).v])),(6,.m (fv 5 9 (bt ((g 5).val 0) ((da (aj c (ak c) l l.length).x.ns j)++([((aj c (ak c) l l.length).x.ns.getD (0+j) e3).v]))) ((g 5).val 0) λbs h=>ar.one ((λ_ h=>h) bs h)))]) N0 [] (λg L=>(L.set 5 (ob (B0 D) #[(g 5).val 0] 74)).set 9 (bt ((g 5).val 0) ((da (aj c (ak c) l l.length).x.ns j)++([((aj c (ak c) l l.length).x.ns.getD (0+j) e3).v])))++[ob (B4 g) #[i6 ((((aj c (ak c) l l.length).x.ns.getD (0+j) e3).v:Nat):Int)] 3]) λg=>ne _ ⟨(g 5).val 0,Om,rfl⟩ [0,1,2,3,4,5,6,7,8,9] (by rw[wW];(repeat (first | rw[I] | rw[ALct]));kernel_rfl)
  exact ne _ ⟨b,Om,rfl⟩ [0,1,2,3,4,5,6,7,8,9] (by rw[wW];(repeat (first | rw[I] | rw[ALcf]));kernel_rfl)
 refine cl [.c z,ob (B0 q) (cA c) 31,ob (B1 q) #[.bool false] 4,.c y,px ((T 2).val 0) (kg c (ak c) l l.length),ob (B0 D) #[b] 74,ob (B2 o) #[i6 ((0:Nat):Int)] 3,ob ((o 2).y 1) #[pt ((a 1).y 1) 0] 37,bt (.slice none 0 0) ([]),bt b (da (aj c (ak c) l l.length).x.ns ((aj c (ak c) l l.length).x.ns.length-0))] (by rw[YX,Y2];kernel_rfl) ?_;simp only[YX,Y2] at G;refine cw 3 (.c y) ((pk (bg (B1 a) ((a 1).y 1) ((a 1).y 2) ((a 1).y 3) ((a 1).y 4) ((a 1).y 5) ((a 1).y 6) ((a 1).y 7) ((a 1).y 8) ((a 1).y 9) ((a 1).y 10) ((a 1).y 11) c (aj c (ak c) l l.length)))) (cP O) (rr (λ_=>[(1,.s 10)]) (λn=>[(9,pt (B0 n) 0)]) [] (λn L=>L++[ob (B0 n) #[i6 0] 3]) λn=>rr (λ_=>[(1,.c [3] [3] (wO (B1 a) ((a 1).y 1) ((a 1).y 2) ((a 1).y 3) ((a 1).y 4) ((a 1).y 5) ((a 1).y 6) ((a 1).y 7) ((a 1).y 8) ((a 1).y 9) ((a 1).y 10) ((a 1).y 11) c (aj c (ak c) l l.length))),(2,.c [] [11,12] (GG ((a 1).y 9) 0))]) (λd=>[(44,.func (.func 60) #[] #[pt ((B2 d)) 0,pt (((d 2).y 1)) 0])]) [] (λd L=>L++[ob (B2 d) #[i6 ((0:Nat):Int)] 3,ob ((d 2).y 1) #[pt ((a 1).y 9) 0] 84]) λd=>?_);refine ck 3 (nN (bg (B1 a) ((a 1).y 1) ((a 1).y 2) ((a 1).y 3) ((a 1).y 4) ((a 1).y 5) ((a 1).y 6) ((a 1).y 7) ((a 1).y 8) ((a 1).y 9) ((a 1).y 10) ((a 1).y 11) c (aj c (ak c) l l.length))) (λe F=>?_);refine nR (encs:=λ(x:Nat×Ac)=>#[i6 (x.1:Int),.agg #[.bool (x.2.wr),i6 (x.2.ix),i6 (x.2.wt),.bool (x.2.dr),i6 (x.2.ex),.bool (x.2.mr)]]) (xs:=(Za ((aj c (ak c) l l.length).x.V.l.length-0)).map (λk=>(0+k,(aj c (ak c) l l.length).x.V.l.getD (0+k) aD))) (KO:=[[((B2 d),.cells #[i6 ((0:Nat):Int)] 3 (0,0))],[(((d 2).y 1),.cells #[pt ((a 1).y 9) 0] 84 (0,0))],e]) (Hv (B2 d) ((d 2).y 1) 0 (B1 a) ((a 1).y 1) ((a 1).y 2) ((a 1).y 3) ((a 1).y 4) ((a 1).y 5) ((a 1).y 6) ((a 1).y 7) ((a 1).y 8) ((a 1).y 9) ((a 1).y 10) ((a 1).y 11) c (aj c (ak c) l l.length) Om Om e F) (enters_of Tryz.func60 Kr rfl) (λj=>j≤(aj c (ak c) l l.length).x.V.l.length-0) (λj L=>L.set 10 (ob (B0 n) #[i6 ((di (aj c (ak c) l l.length).x.V.l j:Nat):Int)] 3)) [11,12,3] Om (by rw[XP];kernel_rfl) (λlR j xE R1 W1 M H=>?_) (λD21 H=>?_)
 ·obtain⟨K,rfl⟩:=mi M;have B:=XS S (j:=j) (by have:=K;omega);have hxj:=hx.ex (0+j);have hrj:=HZ (aj c (ak c) l l.length).x.V.l j;refine rr (λ_=>[(1,.s 13)]) (λu=>[(11,pt (B0 u) 0)]) [] (λu L=>L++[ob (B0 u) #[.bool (((aj c (ak c) l l.length).x.V.l.getD (0+j) aD).wr),i6 (((aj c (ak c) l l.length).x.V.l.getD (0+j) aD).ix),i6 (((aj c (ak c) l l.length).x.V.l.getD (0+j) aD).wt),.bool (((aj c (ak c) l l.length).x.V.l.getD (0+j) aD).dr),i6 (((aj c (ak c) l l.length).x.V.l.getD (0+j) aD).ex),.bool (((aj c (ak c) l l.length).x.V.l.getD (0+j) aD).mr)] 90]) λu=>?_;refine ag [11,12,3] (λR2 W2=>?_);refine r0 [(1,.l 13)] [(48,.bool (((aj c (ak c) l l.length).x.V.l.getD (0+j) aD).wr))] [] ?_;refine cB (((aj c (ak c) l l.length).x.V.l.getD (0+j) aD).wr) (λA=>?_) λA=>?_
  ·exact ne _ ⟨Om,rfl⟩ [0,1,2,3,4,5,6,7,8,9,10,11,12] (by rw[tm];(repeat (first | rw[A] | rw[ALct]));kernel_rfl)
  refine rF [(0,.l 10),(1,.l 5),(2,eS bX b (da (aj c (ak c) l l.length).x.ns ((aj c (ak c) l l.length).x.ns.length-0)) 9),(3,.t (tk (show Value.bool (decide ((((da (aj c (ak c) l l.length).x.ns ((aj c (ak c) l l.length).x.ns.length-0)).length:Nat):Int)≤((di (aj c (ak c) l l.length).x.V.l j:Nat):Int)))= .bool false from ALca Value.bool (by exact bj (by have:=B.n (by with_reducible assumption);omega)))))] 52 ?_;have hrk:=B.n (by with_reducible assumption);refine r0 [(0,.l 5),(1,.l 10),(2,cy bX b (da (aj c (ak c) l l.length).x.ns ((aj c (ak c) l l.length).x.ns.length-0)) 9 (di (aj c (ak c) l l.length).x.V.l j)),(3,eL bX b (da (aj c (ak c) l l.length).x.ns ((aj c (ak c) l l.length).x.ns.length-0)) 9 (di (aj c (ak c) l l.length).x.V.l j) 0)] [(12,i6 ((((da (aj c (ak c) l l.length).x.ns ((aj c (ak c) l l.length).x.ns.length-0)).getD (di (aj c (ak c) l l.length).x.V.l j) 0):Nat):Int))] [] (rs [(0,.l 10),(1,ad (di (aj c (ak c) l l.length).x.V.l j) 1),(2,.s 10)] 10 (ob (B0 n) #[i6 (((di (aj c (ak c) l l.length).x.V.l j)+1:Nat):Int)] 3) (r0 [(0,.l 13),(1,.c [] [] (GH ((aj c (ak c) l l.length).x.V.l.getD (0+j) aD)))] [(60,.bool (kd ((aj c (ak c) l l.length).x.V.l.getD (0+j) aD)))] [] ?_));refine cB (kd ((aj c (ak c) l l.length).x.V.l.getD (0+j) aD)) (λU=>?_) λU=>?_
  ·exact ne _ ⟨Om,rfl⟩ [0,1,2,3,4,5,6,7,8,9,10,11,12] (by rw[tm];(repeat (first | rw[A] | rw[ALcf]));kernel_rfl)
  refine r0 [(1,.l 13)] [(13,i6 (((aj c (ak c) l l.length).x.V.l.getD (0+j) aD).ex))] [] (r0 [(1,.l 13)] [(64,.bool (((aj c (ak c) l l.length).x.V.l.getD (0+j) aD).mr))] [] ?_);refine cJ (((aj c (ak c) l l.length).x.V.l.getD (0+j) aD).mr) (λbJ=>[(13,i6 (bif bJ then((((aj c (ak c) l l.length).x.V.l.getD (0+j) aD).ex)+1) else(((aj c (ak c) l l.length).x.V.l.getD (0+j) aD).ex)))]) (λ_=>[.c z,ob (B0 q) (cA c) 31,ob (B1 q) #[.bool false] 4,.c e,px ((T 2).val 0) (kg c (ak c) l l.length),ob (B0 D) #[b] 74,ob (B2 o) #[i6 ((0:Nat):Int)] 3,ob ((o 2).y 1) #[pt ((a 1).y 1) 0] 37,bt (.slice none 0 0) ([]),bt b (da (aj c (ak c) l l.length).x.ns ((aj c (ak c) l l.length).x.ns.length-0)),ob (B0 n) #[i6 (((di (aj c (ak c) l l.length).x.V.l j)+1:Nat):Int)] 3,ob (B2 d) #[i6 ((0:Nat):Int)] 3,ob ((d 2).y 1) #[pt ((a 1).y 9) 0] 84,ob (B0 u) #[.bool (((aj c (ak c) l l.length).x.V.l.getD (0+j) aD).wr),i6 (((aj c (ak c) l l.length).x.V.l.getD (0+j) aD).ix),i6 (((aj c (ak c) l l.length).x.V.l.getD (0+j) aD).wt),.bool (((aj c (ak c) l l.length).x.V.l.getD (0+j) aD).dr),i6 (((aj c (ak c) l l.length).x.V.l.getD (0+j) aD).ex),.bool (((aj c (ak c) l l.length).x.V.l.getD (0+j) aD).mr)] 90]) (λV=>?_) (λV=>?_) ?_
  ·refine r0 [(1,aI (((aj c (ak c) l l.length).x.V.l.getD (0+j) aD).ex) (1) Om)] [(13,i6 ((((aj c (ak c) l l.length).x.V.l.getD (0+j) aD).ex)+1))] [13] ?_;exact cm Kr [0,1,2,3,4,5,6,7,8,9,10,11,12,13] Kr
  ·exact cm Kr [0,1,2,3,4,5,6,7,8,9,10,11,12,13] Kr
  refine r0 [(9,.m (ld 1 (iN c.E))),(10,ad 3 c.E),(23,.m (ld 1 (iN c.E))),(24,ad 2 c.E),(41,.m (ld 13 (.bool (((aj c (ak c) l l.length).x.V.l.getD (0+j) aD).mr)))),] [(115,.bool ((((((((((da (aj c (ak c) l l.length).x.ns ((aj c (ak c) l l.length).x.ns.length-0)).getD (di (aj c (ak c) l l.length).x.V.l j) 0):Nat):Int)==0)&&(decide (0<(bif ((aj c (ak c) l l.length).x.V.l.getD (0+j) aD).mr then((((aj c (ak c) l l.length).x.V.l.getD (0+j) aD).ex)+1) else(((aj c (ak c) l l.length).x.V.l.getD (0+j) aD).ex)))))&&(decide ((bif ((aj c (ak c) l l.length).x.V.l.getD (0+j) aD).mr then((((aj c (ak c) l l.length).x.V.l.getD (0+j) aD).ex)+1) else(((aj c (ak c) l l.length).x.V.l.getD (0+j) aD).ex))<((3+c.E:Nat):Int))))||(((((((da (aj c (ak c) l l.length).x.ns ((aj c (ak c) l l.length).x.ns.length-0)).getD (di (aj c (ak c) l l.length).x.V.l j) 0):Nat):Int)==1)&&((bif ((aj c (ak c) l l.length).x.V.l.getD (0+j) aD).mr then((((aj c (ak c) l l.length).x.V.l.getD (0+j) aD).ex)+1) else(((aj c (ak c) l l.length).x.V.l.getD (0+j) aD).ex)) != 1))&&(decide ((bif ((aj c (ak c) l l.length).x.V.l.getD (0+j) aD).mr then((((aj c (ak c) l l.length).x.V.l.getD (0+j) aD).ex)+1) else(((aj c (ak c) l l.length).x.V.l.getD (0+j) aD).ex))<((2+c.E:Nat):Int)))))||(((bif ((aj c (ak c) l l.length).x.V.l.getD (0+j) aD).mr then((((aj c (ak c) l l.length).x.V.l.getD (0+j) aD).ex)+1) else(((aj c (ak c) l l.length).x.V.l.getD (0+j) aD).ex))==0)&&(((((da (aj c (ak c) l l.length).x.ns ((aj c (ak c) l l.length).x.ns.length-0)).getD (di (aj c (ak c) l l.length).x.V.l j) 0):Nat):Int) != 0)))||((((bif ((aj c (ak c) l l.length).x.V.l.getD (0+j) aD).mr then((((aj c (ak c) l l.length).x.V.l.getD (0+j) aD).ex)+1) else(((aj c (ak c) l l.length).x.V.l.getD (0+j) aD).ex))==1)&&(!(((aj c (ak c) l l.length).x.V.l.getD (0+j) aD).mr)))&&(((((da (aj c (ak c) l l.length).x.ns ((aj c (ak c) l l.length).x.ns.length-0)).getD (di (aj c (ak c) l l.length).x.V.l j) 0):Nat):Int) != 1))))] [] ?_;have W:((((((((((da (aj c (ak c) l l.length).x.ns ((aj c (ak c) l l.length).x.ns.length-0)).getD (di (aj c (ak c) l l.length).x.V.l j) 0):Nat):Int)==0)&&(decide (0<(bif ((aj c (ak c) l l.length).x.V.l.getD (0+j) aD).mr then((((aj c (ak c) l l.length).x.V.l.getD (0+j) aD).ex)+1) else(((aj c (ak c) l l.length).x.V.l.getD (0+j) aD).ex)))))&&(decide ((bif ((aj c (ak c) l l.length).x.V.l.getD (0+j) aD).mr then((((aj c (ak c) l l.length).x.V.l.getD (0+j) aD).ex)+1) else(((aj c (ak c) l l.length).x.V.l.getD (0+j) aD).ex))<((3+c.E:Nat):Int))))||(((((((da (aj c (ak c) l l.length).x.ns ((aj c (ak c) l l.length).x.ns.length-0)).getD (di (aj c (ak c) l l.length).x.V.l j) 0):Nat):Int)==1)&&((bif ((aj c (ak c) l l.length).x.V.l.getD (0+j) aD).mr then((((aj c (ak c) l l.length).x.V.l.getD (0+j) aD).ex)+1) else(((aj c (ak c) l l.length).x.V.l.getD (0+j) aD).ex)) != 1))&&(decide ((bif ((aj c (ak c) l l.length).x.V.l.getD (0+j) aD).mr then((((aj c (ak c) l l.length).x.V.l.getD (0+j) aD).ex)+1) else(((aj c (ak c) l l.length).x.V.l.getD (0+j) aD).ex))<((2+c.E:Nat):Int)))))||(((bif ((aj c (ak c) l l.length).x.V.l.getD (0+j) aD).mr then((((aj c (ak c) l l.length).x.V.l.getD (0+j) aD).ex)+1) else(((aj c (ak c) l l.length).x.V.l.getD (0+j) aD).ex))==0)&&(((((da (aj c (ak c) l l.length).x.ns ((aj c (ak c) l l.length).x.ns.length-0)).getD (di (aj c (ak c) l l.length).x.V.l j) 0):Nat):Int) != 0)))||((((bif ((aj c (ak c) l l.length).x.V.l.getD (0+j) aD).mr then((((aj c (ak c) l l.length).x.V.l.getD (0+j) aD).ex)+1) else(((aj c (ak c) l l.length).x.V.l.getD (0+j) aD).ex))==1)&&(!(((aj c (ak c) l l.length).x.V.l.getD (0+j) aD).mr)))&&(((((da (aj c (ak c) l l.length).x.ns ((aj c (ak c) l l.length).x.ns.length-0)).getD (di (aj c (ak c) l l.length).x.V.l j) 0):Nat):Int) != 1)))=false:=by exact XU (B.t (by with_reducible assumption) (by with_reducible assumption)).1 (B.t (by with_reducible assumption) (by with_reducible assumption)).2
  exact cF ((((((((((da (aj c (ak c) l l.length).x.ns ((aj c (ak c) l l.length).x.ns.length-0)).getD (di (aj c (ak c) l l.length).x.V.l j) 0):Nat):Int)==0)&&(decide (0<(bif ((aj c (ak c) l l.length).x.V.l.getD (0+j) aD).mr then((((aj c (ak c) l l.length).x.V.l.getD (0+j) aD).ex)+1) else(((aj c (ak c) l l.length).x.V.l.getD (0+j) aD).ex)))))&&(decide ((bif ((aj c (ak c) l l.length).x.V.l.getD (0+j) aD).mr then((((aj c (ak c) l l.length).x.V.l.getD (0+j) aD).ex)+1) else(((aj c (ak c) l l.length).x.V.l.getD (0+j) aD).ex))<((3+c.E:Nat):Int))))||(((((((da (aj c (ak c) l l.length).x.ns ((aj c (ak c) l l.length).x.ns.length-0)).getD (di (aj c (ak c) l l.length).x.V.l j) 0):Nat):Int)==1)&&((bif ((aj c (ak c) l l.length).x.V.l.getD (0+j) aD).mr then((((aj c (ak c) l l.length).x.V.l.getD (0+j) aD).ex)+1) else(((aj c (ak c) l l.length).x.V.l.getD (0+j) aD).ex)) != 1))&&(decide ((bif ((aj c (ak c) l l.length).x.V.l.getD (0+j) aD).mr then((((aj c (ak c) l l.length).x.V.l.getD (0+j) aD).ex)+1) else(((aj c (ak c) l l.length).x.V.l.getD (0+j) aD).ex))<((2+c.E:Nat):Int)))))||(((bif ((aj c (ak c) l l.length).x.V.l.getD (0+j) aD).mr then((((aj c (ak c) l l.length).x.V.l.getD (0+j) aD).ex)+1) else(((aj c (ak c) l l.length).x.V.l.getD (0+j) aD).ex))==0)&&(((((da (aj c (ak c) l l.length).x.ns ((aj c (ak c) l l.length).x.ns.length-0)).getD (di (aj c (ak c) l l.length).x.V.l j) 0):Nat):Int) != 0)))||((((bif ((aj c (ak c) l l.length).x.V.l.getD (0+j) aD).mr then((((aj c (ak c) l l.length).x.V.l.getD (0+j) aD).ex)+1) else(((aj c (ak c) l l.length).x.V.l.getD (0+j) aD).ex))==1)&&(!(((aj c (ak c) l l.length).x.V.l.getD (0+j) aD).mr)))&&(((((da (aj c (ak c) l l.length).x.ns ((aj c (ak c) l l.length).x.ns.length-0)).getD (di (aj c (ak c) l l.length).x.V.l j) 0):Nat):Int) != 1))) W (ne _ ⟨Om,rfl⟩ [0,1,2,3,4,5,6,7,8,9,10,11,12] (by rw[tm];(repeat (first | rw[A] | rw[ALcf]));kernel_rfl))
 refine cl [.c z,ob (B0 q) (cA c) 31,ob (B1 q) #[.bool false] 4,.c e,px ((T 2).val 0) (kg c (ak c) l l.length),ob (B0 D) #[b] 74,ob (B2 o) #[i6 ((0:Nat):Int)] 3,ob ((o 2).y 1) #[pt ((a 1).y 1) 0] 37,bt (.slice none 0 0) ([]),bt b (da (aj c (ak c) l l.length).x.ns ((aj c (ak c) l l.length).x.ns.length-0)),ob (B0 n) #[i6 ((di (aj c (ak c) l l.length).x.V.l ((aj c (ak c) l l.length).x.V.l.length-0):Nat):Int)] 3,ob (B2 d) #[i6 ((0:Nat):Int)] 3,ob ((d 2).y 1) #[pt ((a 1).y 9) 0] 84] (by rw[YX,Y2];kernel_rfl) ?_;simp only[YX,Y2] at H;exact cw 3 (.c e) ((pk (bg (B1 a) ((a 1).y 1) ((a 1).y 2) ((a 1).y 3) ((a 1).y 4) ((a 1).y 5) ((a 1).y 6) ((a 1).y 7) ((a 1).y 8) ((a 1).y 9) ((a 1).y 10) ((a 1).y 11) c (aj c (ak c) l l.length)))) (cP F) (rs [(0,.l 10),(1,.l 5),(2,eS bX b (da (aj c (ak c) l l.length).x.ns ((aj c (ak c) l l.length).x.ns.length-0)) 9),(3,.t (tk (show Value.bool (((di (aj c (ak c) l l.length).x.V.l ((aj c (ak c) l l.length).x.V.l.length-0):Nat):Int)==(((da (aj c (ak c) l l.length).x.ns ((aj c (ak c) l l.length).x.ns.length-0)).length:Nat):Int))= .bool true from ALca Value.bool (by exact beq_iff_eq.2 (by have:=XT S;omega))))),(4,.s 2)] 2 (ob (B1 q) #[.bool true] 4) (aq (.bool true) ab.zero ba [] [(0,0)] [2]))
end
section
open Go.ChangeShapes Go.WideShapes
theorem Yq.split{l m:List Yj}{cs:List Value}(h:Yq (l++m) cs):Yq l (cs.take l.length)∧Yq m (cs.drop l.length):=by
 obtain⟨f,d⟩:=h;rw[YY] at f;refine⟨⟨by rw[List.length_take];omega,λi lf a=>?_⟩,⟨by rw[List.length_drop];omega,λi lf a=>?_⟩⟩
 ·have e:i<l.length:=(List.getElem?_eq_some_iff.1 a).1;obtain⟨v,b,c⟩:=d i lf (by rw[List.getElem?_append_left e];exact a);exact⟨v,by rw[List.getElem?_take_of_lt e];exact b,c⟩
 ·obtain⟨v,b,c⟩:=d (l.length+i) lf (by rw[Y6 (Nat.le_add_right _ _),Nat.add_sub_cancel_left];exact a);exact⟨v,by rw[List.getElem?_drop];exact b,c⟩
theorem Yq.one{f:Yj}{ls:List Yj}{cs:List Value}(h:Yq (f::ls) cs): ∃v vs,cs=v::vs∧YC f v∧Yq ls vs:=by
 obtain⟨a,b⟩:=h;cases cs with
 | nil=>simp at a
 | cons v vs=>
  obtain⟨u,c,d⟩:=b 0 f rfl;obtain rfl:v=u:=by simpa using c
  exact⟨v,vs,rfl,d,by simpa using a,λi lf e=>by simpa using b (i+1) lf (by rw[List.getElem?_cons_succ];exact e)⟩
theorem YF: ∀(n:Nat) (cs:List Value),Yq (Y0 n (.int .u8)) cs→∃d:List UInt8,d.length=n∧cs=d.map λb=>Value.int .u8 (b.toNat:Int)
 | 0,cs,h=>⟨[],rfl,by have:=h.1;simp at this;simpa using this⟩
 | n+1,cs,h=>by
  obtain⟨v,vs,rfl,⟨z,rfl,e⟩,a⟩:=Yq.one (by rw[List.replicate_succ] at h;exact h);obtain⟨d,c,rfl⟩:=YF n vs a;have f:=bounds_u8 e;refine⟨UInt8.ofNat z.toNat::d,by rw[Zf,c],?_⟩;rw[List.map_cons,show((UInt8.ofNat z.toNat).toNat:Int)=z by rw[UInt8.toNat_ofNat'];omega]
theorem YS{l:List Int}(h:l.length=8): ∃a b c d e f g i,l=[a,b,c,d,e,f,g,i]:=by
 match l,h with
 | [a,b,c,d,e,f,g,i],_=>exact⟨a,b,c,d,e,f,g,i,rfl⟩
def stLs:List Yj:=Y0 2 (.int .i64)++(Y0 64 (.int .u8)++(.int .u64::Y0 8 (.int .i64)))
theorem YT{cs:List Value}(h:Yq stLs cs): ∃s:St,cs=eSt s∧StOk s:=by
 obtain⟨x,y⟩:=Yq.split h;obtain⟨z,A⟩:=Yq.split y;obtain⟨v,vs,o,⟨m,t,C⟩,B⟩:=Yq.one A;obtain⟨G,D,l,_⟩:=Yw 2 _ x;obtain⟨d,q,n⟩:=YF 64 _ z;obtain⟨H,F,r,_⟩:=Yw 8 _ B;have I:=bounds_u64 C;obtain⟨a,b,c,i,e,f,g,j,rfl⟩:=YS F
 match G,D with
 | [k,p],_=>
  refine⟨⟨k,p,d,m.toNat,a,b,c,i,e,f,g,j⟩,?_,⟨q,by show m.toNat<_;omega⟩⟩;have u:cs=cs.take 2++cs.drop 2:=(YZ 2 cs).symm;have w:cs.drop 2=(cs.drop 2).take 64++(cs.drop 2).drop 64:=(YZ 64 _).symm;have l:cs.take 2=[i6 k,i6 p]:=l;have n:(cs.drop 2).take 64=d.map λb=>Value.int .u8 (b.toNat:Int):=n;have o:(cs.drop 2).drop 64=v::vs:=o;rw[u,w,l,n,o,t,r];show _=[i6 k,i6 p]++rB 64 d++_;rw[BH q,show(m:Int)=((m.toNat:Nat):Int) by omega];rfl
theorem rows_st: ∀(a:List (List Value)),(∀r∈a,Yq stLs r)→∃L:List St,a=L.map eSt∧∀s∈L,StOk s
 | [],_=>⟨[],rfl,λs g=>absurd g List.not_mem_nil⟩
 | r::a,h=>by
  obtain⟨L,b,c⟩:=rows_st a λx i=>h x (List.mem_cons_of_mem _ i);obtain⟨s,d,f⟩:=YT (h r List.mem_cons_self);exact⟨s::L,by rw[b,d];rfl,λy j=>(List.mem_cons.1 j).elim (λe=>e▸f) (c y)⟩
theorem sts_ok{l:List St}(h: ∀s∈l,StOk s):qE l:=⟨λk=>by
 rw[YU];cases b:l[k]? with
 | none=>exact⟨List.length_replicate,by show(0:Nat)<_;decide⟩
 | some a=>exact h a (List.mem_of_getElem? b)⟩
def cfLs:List Yj:=Y0 15 (.int .i64)++[.bool]
theorem cells_cfg{cs:List Value}(h:Yq cfLs cs): ∃(r s b m c way e mode n k l j a heavy d:Int) (f:Bool),cs=[i6 r,i6 s,i6 b,i6 m,i6 c,i6 way,i6 e,i6 mode,i6 n,i6 k,i6 l,i6 j,i6 a,i6 heavy,i6 d,.bool f]:=by
 obtain⟨t,u⟩:=Yq.split h;obtain⟨v,vs,g,⟨q,o⟩,w⟩:=Yq.one u;obtain⟨z,y,i,_⟩:=Yw 15 _ t;have x:vs=[]:=List.length_eq_zero_iff.1 w.1
 match z,y with
 | [r,s,b,m,c,way,e,mode,n,k,l,j,a,heavy,d],_=>
  refine⟨r,s,b,m,c,way,e,mode,n,k,l,j,a,heavy,d,q,?_⟩;have p:cs=cs.take 15++cs.drop 15:=(YZ 15 cs).symm;have i:cs.take 15=_:=i;have g:cs.drop 15=_:=g;rw[p,i,g,o,x];rfl
theorem aa.belowQ{P:Program}{f:FuncId}{args:Array Value}{u:Value}{T:aA→Prop}{bs:aA}(h:aa P f args [.p T] [] N0 (λ_=>u))(w:World)(d:eh bs w)(ht:T bs):Calls P f args w λe w'=>e= .returned u∧Below w.heap.size w w':=by
 refine(callsIn_wide (n:=6)).1 ((callsIn_wide.2 (h.out w [bs] ⟨ht,trivial⟩ (by simpa using d))).mono ?_);rintro e w' ⟨E,g,rfl,i,a⟩;exact⟨rfl,a.os,a.tape,a.output,a.size,λb c=>a.far b c (by simp)⟩
theorem st_sq{A:Option Addr}{n k:Nat}{L:List St}{w:World}(b:L.length=n)(f:n≤k)(g:y7 75 w A (L.map eSt)): ∃a,eh a w∧aP eSt (.slice A n k) L a:=by
 obtain⟨a,d,e⟩:=PM (en:=eSt) (k:=75) (c:=k) (λs=>by unfold eSt;rw[YY,YY,Ja];rfl) Dc g b;exact⟨a,d,e,A,k-n,by rw[b,Nat.add_sub_cancel' f]⟩
end
section
open Go.ChangeShapes Go.WideShapes
theorem told_con(r s b m c way f mode t k o j d heavy e:Int)(a:Bool)(v:Value)(l:List St)(g:qE l):aa Y1 5 #[.agg #[i6 r,i6 s,i6 b,i6 m,i6 c,i6 way,i6 f,i6 mode,i6 t,i6 k,i6 o,i6 j,i6 d,i6 heavy,i6 e,.bool a],v] [.p (aP eSt v l)] [] N0 (λ_=> .bool true):=by
 cases h:mK r s b m c way f mode t k o j d heavy e
 ·exact XV r s b m c way f mode t k o j d heavy e a h v l
 ·obtain⟨q,rfl,rfl,rfl,rfl,rfl,rfl,rfl,rfl,rfl,rfl,rfl,rfl,rfl,rfl,rfl,rfl,i⟩:=SN a h;cases n:ou q
  ·exact XW q i n v l
  ·by_cases u:l.length≤80
   ·exact XY q i n v l u g (Xw (HP (Xv q) l _)) (HY i g _ Om)
   ·exact XX q i n v l Om
end
end E
section
open Go.ChangeShapes Go.WideShapes
theorem WholeTold_any(r s b m c way g mode l i j h d heavy f:Int)(a:Bool)(A:Option Addr)(n k:Nat)(L:List E.St)(t:L.length=n)(q:n≤k)(hs: ∀s∈L,E.StOk s)(w:World)(u:y7 75 w A (L.map E.eSt)):
  Calls Y1 5 #[.agg #[.int .i64 r,.int .i64 s,.int .i64 b,.int .i64 m,.int .i64 c,.int .i64 way,.int .i64 g,.int .i64 mode,.int .i64 l,.int .i64 i,.int .i64 j,.int .i64 h,.int .i64 d,.int .i64 heavy,.int .i64 f,.bool a],.slice A n k] w
   λe w'=>e= .returned (.bool true)∧Below w.heap.size w w':=by
 obtain⟨bs,o,p⟩:=E.st_sq t q u;exact(E.told_con r s b m c way g mode l i j h d heavy f a _ L (E.sts_ok hs)).belowQ w o p
end
end Go.Proofs.YtbcodenfkijdnaaGreat
