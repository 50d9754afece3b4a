/- WholeGone, in 7 texts: part 6. For every input; no condition. -/
import Derived.Test.YtbcodenfkijdnaaGreatD5
set_option linter.unusedVariables false
set_option linter.unusedSimpArgs false
set_option maxRecDepth 100000
namespace Go.Proofs.YtbcodenfkijdnaaGreat.E
open Go Go.RowKit Go.Shelf
open List renaming range→dZ,length_range→eF,length_map→ir,getD_eq_getElem?_getD→jg,getElem?_eq_getElem→jh,getElem_of_mem→na,length_append→n7,getElem_drop→oG,length_drop→po,append_nil→pD
open Option renaming getD_some→jm
open Go.Proofs.Tryz renaming prog→jw
open Nat renaming le_trans→ka,le_add_right→kP,mul_le_mul_right→nN,mul_assoc→p4,succ_mul→p6
theorem aap{α:Type}{l:List α}{n:Nat}{p:α→Bool}{d:α}(h: ∀j,j<l.length-n→p (l.getD (n+j) d)=false):(l.drop n).any p=false:=by
 rw[List.any_eq_false]
 intro a ha
 obtain⟨j,hj,rfl⟩:=na ha
 have hj2:j<l.length-n:=by rwa [po] at hj
 have:=h j hj2
 rw[jg,jh Om,jm] at this
 rw[oG,this]
 simp
theorem aaq{α:Type}{l:List α}{n j:Nat}{p:α→Bool}{d:α}(hj:j<l.length-n)(h:p (l.getD (n+j) d)=true):(l.drop n).any p=true:=by
 rw[List.any_eq_true]
 rw[jg,jh Om,jm] at h
 exact⟨_,List.mem_of_getElem (i:=j) (by rw[oG]) (h:=by rw[po];exact hj),h⟩
theorem XN{α:Type}{l:List α}{p:α→Bool}{d:α}(h: ∀j,j<l.length→p (l.getD j d)=true):l.all p=true:=by
 rw[List.all_eq_true]
 intro a ha
 obtain⟨j,hj,rfl⟩:=na ha
 have:=h j hj
 rwa [jg,jh hj,jm] at this
theorem XP{α:Type}{l:List α}{j:Nat}{p:α→Bool}{d:α}(hj:j<l.length)(h:p (l.getD j d)=false):l.all p=false:=by
 rw[List.all_eq_false]
 rw[jg,jh hj,jm] at h
 exact⟨_,List.getElem_mem hj,by rw[h];simp⟩
theorem XQ{p:Nat→Prop}{k:Nat}(h: ∀j,j<k→p j)(hk:p k): ∀j,j<k+1→p j:=λj hj=>by
 rcases Nat.lt_succ_iff_lt_or_eq.1 hj with h1 | rfl
 ·exact h j h1
 ·exact hk
def lc(mode:Nat)(l:List Ac):Bool:=(!(cq mode l (l.length-0)).ast)&&decide ((cq mode l (l.length-0)).ex≤1)
structure tN (l:List Ac):Prop where
 ex: ∀k,0≤(l.getD k dO).ex∧(l.getD k dO).ex≤1000000
theorem aar(g gc gl gr gm gq gk gt gg gd ge go:Nat)(c:Cf)(x:Mc)(hl:x.x.V.l.length≤900000)(hx:tN x.x.V.l):aa jw 41 #[pt g 0] [pk (br g gc gl gr gm gq gk gt gg gd ge go c x)] [0] (λ_=>[pk (br g gc gl gr gm gq gk gt gg gd ge go c x)]) (λ_=> .bool (lc c.mode x.x.V.l)):=by
 refine fG Tryz.func41 λw cs=>?_
 refine r0 [] [(2,.bool false)] [] (rr (λ_=>[(2,.c [0] [0] (AJ g gc gl gr gm gq gk gt gg gd ge go c x)),(3,.c [0] [0] (XF g gc gl gr gm gq gk gt gg gd ge go c x)),(4,.c [0] [0] (XM g gc gl gr gm gq gk gt gg gd ge go c x hl hx.ex)),(6,.s 1)]) (λq2=>[(3,pt (B5 q2) 0)]) [] (λq2 L=>L++[ob (B5 q2) #[i6 ((cq c.mode x.x.V.l (x.x.V.l.length-0)).ex),.bool ((cq c.mode x.x.V.l (x.x.V.l.length-0)).ast),.bool ((cq c.mode x.x.V.l (x.x.V.l.length-0)).dr),.bool ((cq c.mode x.x.V.l (x.x.V.l.length-0)).tl)] 166]) λq2=>r0 [(1,.l 1),(5,.l 1)] [(2,.bool ((!((cq c.mode x.x.V.l (x.x.V.l.length-0)).ast))&&(decide (((cq c.mode x.x.V.l (x.x.V.l.length-0)).ex)≤1))))] [2] ?_)
 exact am (.bool ((!((cq c.mode x.x.V.l (x.x.V.l.length-0)).ast))&&(decide (((cq c.mode x.x.V.l (x.x.V.l.length-0)).ex)≤1)))) ab.zero bh [0] [] []
abbrev Zv(i:Int)(a:Ac):Bool:=(a.ix==i)||((!(a.dr))&&(a.wt==i))
theorem aas(g gc gl gr gm gq gk gt gg gd ge go:Nat)(c:Cf)(x:Mc)(hl:x.x.V.l.length≤900000)(n:Nat)(hn:n≤900000)(i:Int):aa jw 44 #[pt g 0,iN n,i6 i] [pk (br g gc gl gr gm gq gk gt gg gd ge go c x)] [0] (λ_=>[pk (br g gc gl gr gm gq gk gt gg gd ge go c x)]) (λ_=> .bool ((x.x.V.l.drop n).any (Zv i))):=by
 refine fG Tryz.func44 λw cs=>?_
 refine ra (λq1=>[(5,pt (B0 q1) 0),(6,pt (B1 q1) 0)]) (λq1=>[ob (B0 q1) #[i6 i] 3,ob (B1 q1) #[.bool false] 4]) λq1=>rr (λ_=>[(1,.c [0] [0] (AJ g gc gl gr gm gq gk gt gg gd ge go c x)),(3,.c [] [3,4] (U1 gd n))]) (λq2=>[(12,.func (.func 60) #[] #[pt ((B3 q2)) 0,pt (((q2 3).abd 1)) 0])]) [] (λq2 L=>L++[ob (B3 q2) #[iN n] 3,ob ((q2 3).abd 1) #[pt gd 0] 84]) λq2=>?_
 refine ck 0 (r7 (br g gc gl gr gm gq gk gt gg gd ge go c x)) (λbK3 hK4=>?_)
 refine xY (encs:=λ(x:Nat×Ac)=>#[i6 (x.1:Int),.agg #[.bool (x.2.wr),i6 (x.2.ix),i6 (x.2.wt),.bool (x.2.dr),i6 (x.2.ex),.bool (x.2.mr)]]) (xs:=(dZ (x.x.V.l.length-n)).map (λk=>(n+k,x.x.V.l.getD (n+k) dO))) (KO:=[[((B3 q2),.cells #[iN n] 3 (0,0))],[(((q2 3).abd 1),.cells #[pt gd 0] 84 (0,0))],bK3]) (XJ (B3 q2) ((q2 3).abd 1) n g gc gl gr gm gq gk gt gg gd ge go c x Om Om bK3 hK4) (enters_of Tryz.func60 Kr rfl) (λk=>k≤x.x.V.l.length-n∧(∀j,j<k→Zv i (x.x.V.l.getD (n+j) dO)=false)) (λ_ L=>L) (λc k=>(c=Code.ret∧(∃j,j+1=k∧Zv i (x.x.V.l.getD (n+j) dO)=true))) (λ_ _ L=>L.set 2 (ob (B1 q1) #[.bool true] 4)) [3,4,0] ⟨by omega,(λ_ h=>absurd h (Nat.not_lt_zero _))⟩ Kr (λlR k xE R1 W1 hxE ⟨hk6,hw⟩=>?_) (λD5 ⟨hk6,hw⟩=>?_) λD5 c k hi hX=>?_
 ·obtain⟨hkb7,rfl⟩:=oh hxE
  refine rr (λ_=>[(1,.s 5)]) (λq8=>[(8,pt (B0 q8) 0)]) [] (λq8 L=>L++[ob (B0 q8) #[.bool ((x.x.V.l.getD (n+k) dO).wr),i6 ((x.x.V.l.getD (n+k) dO).ix),i6 ((x.x.V.l.getD (n+k) dO).wt),.bool ((x.x.V.l.getD (n+k) dO).dr),i6 ((x.x.V.l.getD (n+k) dO).ex),.bool ((x.x.V.l.getD (n+k) dO).mr)] 90]) λq8=>?_
  refine ag [3,4,0] (λR2 W2=>?_)
  refine r0 [(1,.m (ld 5 (i6 ((x.x.V.l.getD (n+k) dO).ix)))),(2,.m (ld 1 (i6 i))),(7,.m (ld 5 (.bool ((x.x.V.l.getD (n+k) dO).dr)))),(12,.m (ld 5 (i6 ((x.x.V.l.getD (n+k) dO).wt)))),(13,.m (ld 1 (i6 i)))] [(31,.bool ((((x.x.V.l.getD (n+k) dO).ix)==i)||((!((x.x.V.l.getD (n+k) dO).dr))&&(((x.x.V.l.getD (n+k) dO).wt)==i))))] [] ?_
  refine cB ((((x.x.V.l.getD (n+k) dO).ix)==i)||((!((x.x.V.l.getD (n+k) dO).dr))&&(((x.x.V.l.getD (n+k) dO).wt)==i))) (λh10=>?_) λh10=>?_
  ·refine rr (λ_=>[(0,.s 2)]) N0 [] (λ_ L=>L.set 2 (ob (B1 q1) #[.bool true] 4)) λq11=>?_
   exact nr _ ⟨⟨rfl,⟨_,rfl,As⟩⟩,rfl⟩ [0,1,2,3,4] Kr
  exact ne _ ⟨⟨by omega,XQ hw As⟩,rfl⟩ [0,1,2,3,4] Kr
 ·simp only[ir,eF] at hk6
  refine cw 0 (.c bK3) ((pk (br g gc gl gr gm gq gk gt gg gd ge go c x))) (cP hK4) ?_
  refine r0 [(0,.s 2)] [] [] ?_
  exact am (.bool false) ab.zero (by(simp only[ir,eF] at hw;rw[aap hw])) [0] [] [2]
 obtain⟨rfl,hx0⟩:=hX
 refine cw 0 (.c bK3) ((pk (br g gc gl gr gm gq gk gt gg gd ge go c x))) (cP hK4) ?_
 exact am (.bool true) ab.zero (by(obtain⟨j,hj,hn⟩:=hx0;have hi2:=hi;simp only[ir,eF] at hi2;rw[aaq (j:=j) Om hn])) [0] [] [2]
structure AN (q:List Sv):Prop where
 l: ∀k,(q.getD k aV).l.length=64
 w: ∀k,(q.getD k aV).w.length=64
theorem HA{c:Cf}{b:Bool}(h:oT c=b):decide ((((((c.R+c.S)*c.B)*c.M)*c.C:Nat):Int)≤100)=b:=by
 rw[←h]
 unfold oT
 exact decide_eq_decide.2 Om
theorem XW(c:Cf)(hcf:dd c)(hs:oT c=false):aa jw 12 #[.agg (cA c)] [] [] N0 (λ_=> .pointer none):=by
 refine fG Tryz.func12 λw cs=>?_
 exact ra (λq1=>[(1,pt (B0 q1) 0),(2,.pointer none)]) (λq1=>[ob (B0 q1) (cA c) 31]) λq1=>rT [(0,.l 0),(1,.c [] [] (aa.v ((Hw c hcf)) λ_=>ALca Value.bool (show(decide ((((((c.R+c.S)*c.B)*c.M)*c.C:Nat):Int)≤100))=false from(by exact HA hs))))] 7 (r0 [] [(2,.pointer none)] [2] (lf ab.zero [] [] []))
theorem AO(c:Cf)(hcf:dd c)(hs:oT c=true):aa jw 12 #[.agg (cA c)] [] [] (λE=>[pk (br (E.abd 0) ((E.abd 1)) ((E.abd 2)) ((E.abd 3)) ((E.abd 4)) ((E.abd 5)) ((E.abd 6)) ((E.abd 7)) ((E.abd 8)) ((E.abd 9)) ((E.abd 10)) ((E.abd 11)) c (dC c))]) (λE=>pt ((E.abd 0)) 0):=by
 refine fG Tryz.func12 λw cs=>?_
 exact ra (λq1=>[(1,pt (B0 q1) 0),(2,.pointer none)]) (λq1=>[ob (B0 q1) (cA c) 31]) λq1=>rF [(0,.l 0),(1,.c [] [] (aa.v ((Hw c hcf)) λ_=>ALca Value.bool (show(decide ((((((c.R+c.S)*c.B)*c.M)*c.C:Nat):Int)≤100))=true from(by exact HA hs))))] 7 (rr (λ_=>[(0,.l 0),(1,.c [] [1] (Xo c hcf))]) (λq3=>[(3,pt ((B1 q3)) 0),(4,i6 0)]) [] (λq3 L=>L++[pk (br (B1 q3) ((q3 1).abd 1) ((q3 1).abd 3) ((q3 1).abd 4) ((q3 1).abd 5) ((q3 1).abd 6) ((q3 1).abd 7) ((q3 1).abd 8) ((q3 1).abd 9) ((q3 1).abd 10) ((q3 1).abd 11) ((q3 1).abd 12) c (dC c))]) λq3=>rF [] 14 (r0 [] [(2,pt ((B1 q3)) 0)] [2] (lf (.l [(B1 q3),(q3 1).abd 1,(q3 1).abd 3,(q3 1).abd 4,(q3 1).abd 5,(q3 1).abd 6,(q3 1).abd 7,(q3 1).abd 8,(q3 1).abd 9,(q3 1).abd 10,(q3 1).abd 11,(q3 1).abd 12] [] []) [1] [] [])))
theorem XX:aa jw 45 #[] [] [] N0 (λ_=> .agg #[i6 1,i6 0,i6 1,i6 2,i6 2,i6 0,i6 0,i6 1,i6 9,i6 9,i6 9,i6 9,i6 2,i6 2,i6 4,.bool true]):=by
 refine fG Tryz.func45 λw cs=>?_
 exact ra (λq1=>[(0,pt (B0 q1) 0)]) (λq1=>[ob (B0 q1) #[i6 0,i6 0,i6 0,i6 0,i6 0,i6 0,i6 0,i6 0,i6 0,i6 0,i6 0,i6 0,i6 0,i6 0,i6 0,.bool false] 31]) λq1=>rr (λ_=>[(2,.s 1)]) (λq2=>[(1,pt (B1 q2) 0)]) [] (λq2 L=>L++[ob (B1 q2) #[i6 9,i6 9] 27]) λq2=>rs [(2,.l 1),(3,.l 1),(6,.s 0)] 0 (ob (B0 q1) #[i6 1,i6 0,i6 1,i6 2,i6 2,i6 0,i6 0,i6 1,i6 9,i6 9,i6 9,i6 9,i6 2,i6 2,i6 4,.bool true] 31) (lf ab.zero [] [] [0])
theorem aat(b1 b2:Nat)(m:Mp)(hm:eC m)(k:Nat)(hk:k<m.R*m.B*m.M):fy 5 jw 100 #[pt b1 0,pt b2 0] (λ(i:Nat)=>#[iN i]) ((dZ m.C).map λj=>bD m k*64+j) (List.flatten [[(b1,.cells #[i6 (bD m k:Int)] 3 (0,0))],[(b2,.cells #[iN m.R,iN m.S,iN m.B,iN m.M,iN m.C] 23 (0,0))]]):=by
 have hl:=qD hm hk
 have h:=aaf b1 b2 m.R m.S m.B m.M m.C (bD m k) _ _ _ hm.abc (Av m k 0) ⟨hl.h0,hl.h1,hl.h2,hm.abc.bd.c1⟩
 rwa [show(bJ (gO m k) (ed m.way m.R m.B m.M k) (ec m.way m.R m.B m.M k))=λj=>bD m k*64+j from funext λj=>(Av m k j).symm] at h
def zK(m:Mp):Nat→List Nat
 | 0=>[]
 | k+1=>bif m.aa4.getD k false then zK m k++(dZ m.C).map (λz=>bD m k*64+z) else zK m k
def gv(m:Mp):Nat→List Nat
 | 0=>zK m (m.R*m.B*m.M)
 | k+1=>bif dM m k then gv m k++(dZ (m.B*m.M*m.C)).map (ri m.M m.C k) else gv m k
theorem aau(m:Mp):zK m 0=[]:=rfl
theorem ZI(m:Mp)(k:Nat):zK m (k+1)=bif m.aa4.getD k false then zK m k++(dZ m.C).map (λz=>bD m k*64+z) else zK m k:=rfl
theorem aav(m:Mp):gv m 0=zK m (m.R*m.B*m.M):=rfl
theorem ZE(m:Mp)(k:Nat):gv m (k+1)=bif dM m k then gv m k++(dZ (m.B*m.M*m.C)).map (ri m.M m.C k) else gv m k:=rfl
theorem ZJ(m:Mp): ∀k,(zK m k).length≤k*m.C
 | 0=>Nat.zero_le _
 | k+1=>by
  have h:=ZJ m k
  rw[ZI,p6]
  cases m.aa4.getD k false
  ·exact ka h (kP _ _)
  ·rw[ALct,n7,ir,eF];omega
theorem ZR(m:Mp): ∀k,(gv m k).length≤m.R*m.B*m.M*m.C+k*(m.B*m.M*m.C)
 | 0=>ka (ZJ m _) (kP _ _)
 | k+1=>by
  have h:=ZR m k
  rw[ZE,p6]
  cases dM m k
  ·exact ka h (Nat.add_le_add_left (kP _ _) _)
  ·rw[ALct,n7,ir,eF];omega
theorem aaw{m:Mp}(hG:f9 m.R m.S m.B m.M m.C){k:Nat}(hk:k≤m.R*m.B*m.M):(zK m k).length≤4096:=
 ka (ZJ m k) (ka (nN _ hk) hG.bd.rbmc)
theorem ZS{m:Mp}(hG:f9 m.R m.S m.B m.M m.C){k:Nat}(hk:k≤m.R):(gv m k).length≤8192:=by
 have h1:=ZR m k
 have h2:=hG.bd.rbmc
 have h3:k*(m.B*m.M*m.C)≤m.R*(m.B*m.M*m.C):=nN _ hk
 have h4:m.R*(m.B*m.M*m.C)=m.R*m.B*m.M*m.C:=by rw[←p4,←p4]
 omega
theorem ZT(m:Mp)(k:Nat):zK m (k+1)=bif (!(m.aa4.getD k false))||false then zK m k else zK m k++(dZ m.C).map (λz=>bD m k*64+z):=by
 rw[ZI]
 cases m.aa4.getD k false<;>rfl
attribute [local irreducible] zK gv
theorem ZU{α:Type}(f:Nat→α):(dZ 0).map f=[]:=rfl
theorem ZV{α:Type}(f:Nat→α)(k:Nat)(l:List α):l++(dZ (k+1)).map f=(l++(dZ k).map f)++[f k]:=by rw[List.range_succ,List.map_append,List.append_assoc];rfl
theorem aax(g gc gl gr gm gq gk gt gg gd ge go:Nat)(c:Cf)(x:Mc)(hr:aN x.x.s.r):aa jw 34 #[pt g 0] [pk (br g gc gl gr gm gq gk gt gg gd ge go c x)] [0] (λE=>[pk (br g gc gl gr gm gq gk gt gg gd ge go c x),bP (E.val 0) (gv x.x.s.r.m x.x.s.r.m.R)]) (λE=>(E.val 0)):=by
 have HRP:=hr
 have HMP:=hr.m
 have hG:=HMP.abc
 have h88:=hG.bd.r8
 have hnp:=HMP.np
 have hrp5:=HMP.ly.rp
 have hc64:=hG.bd.c64
 have hbmc:=hG.bd.bmc
 refine fG Tryz.func34 λw cs=>?_
 refine r0 [] [(2,.slice none 0 0)] [] (ra (λq2=>[(3,pt (B0 q2) 0)]) (λq2=>[ob (B0 q2) #[.slice none 0 0] 74]) λq2=>r0 [(1,.c [0] [0] (XC g gc gl gr gm gq gk gt gg gd ge go c x)),(2,.c [0] [0] (aai g gc gl gr gm gq gk gt gg gd ge go c x)),(3,.c [0] [0] (aaj g gc gl gr gm gq gk gt gg gd ge go c x HRP))] [(4,pt gm 0)] [] (rr (λ_=>[(1,.c [0] [0] (aak g gc gl gr gm gq gk gt gg gd ge go c x HRP)),(4,.s 2)]) (λq4=>[(5,pt (B3 q4) 0)]) [] (λq4 L=>L++[ob (B3 q4) #[iN x.x.s.r.m.R,iN x.x.s.r.m.S,iN x.x.s.r.m.B,iN x.x.s.r.m.M,iN x.x.s.r.m.C] 23]) λq4=>r0 [(0,.l 2),(1,.c [] [] (mU x.x.s.r.m.R x.x.s.r.m.S x.x.s.r.m.B x.x.s.r.m.M x.x.s.r.m.C hG))] [(22,i6 (((x.x.s.r.m.R*x.x.s.r.m.B)*x.x.s.r.m.M:Nat):Int)),(23,i6 0)] [] ?_))
 refine cz cu ?_
 refine ZM (λk _ _=>k≤(x.x.s.r.m.R*x.x.s.r.m.B*x.x.s.r.m.M)) (λk _ _=>[(23,iN k)]) (λk vC3_0 _ L=>(L.set 1 (ob (B0 q2) #[vC3_0] 74)).set 3 (bP vC3_0 (zK x.x.s.r.m k))) (λk _ _=>(x.x.s.r.m.R*x.x.s.r.m.B*x.x.s.r.m.M)-k) 0 (.slice none 0 0) _ Om Kr (by rw[aau];kernel_rfl) rfl (λk vC3_0 Es6 hk7=>?_)
 have hgl:=aaw hG hk7
 refine r0 [] [(24,.bool (decide ((k:Int)<(((x.x.s.r.m.R*x.x.s.r.m.B)*x.x.s.r.m.M:Nat):Int))))] [] ?_
 refine cj (k:Int) (((x.x.s.r.m.R*x.x.s.r.m.B)*x.x.s.r.m.M:Nat):Int) (λh9 dh9=>?_) λh9 dh9=>?_
 ·refine r0 [] [(6,iN k)] [] ?_
  refine r0 [(2,.c [0] [0] (aan g gc gl gr gm gq gk gt gg gd ge go c x HRP k Om))] [(7,i6 ((bD x.x.s.r.m k:Nat):Int)),(8,i6 0)] [] (r0 [(2,.c [0] [0] (aal g gc gl gr gm gq gk gt gg gd ge go c x HRP k Om))] [(39,.bool ((!(x.x.s.r.m.aa4.getD k false))||false))] [] ?_)
  refine cB ((!(x.x.s.r.m.aa4.getD k false))||false) (λh13=>?_) λh13=>?_
  ·refine r0 [(0,ad k 1)] [(23,i6 ((k+1:Nat):Int))] [23] ?_
   exact ZB (k+1) vC3_0 Es6 Om Om Kr [0,1,2,3] (by rw[ZT];(repeat (first | rw[h13] | rw[ALct]));kernel_rfl)
  refine rr (λ_=>[(0,.l 2),(2,.c [] [4,5] (aag x.x.s.r.m.R x.x.s.r.m.S x.x.s.r.m.B x.x.s.r.m.M x.x.s.r.m.C (bD x.x.s.r.m k)))]) (λq15=>[(42,.func (.func 100) #[] #[pt ((B2 q15)) 0,pt (((q15 2).abd 1)) 0])]) [] (λq15 L=>L++[ob (B2 q15) #[i6 ((bD x.x.s.r.m k:Nat):Int)] 3,ob ((q15 2).abd 1) #[iN x.x.s.r.m.R,iN x.x.s.r.m.S,iN x.x.s.r.m.B,iN x.x.s.r.m.M,iN x.x.s.r.m.C] 23]) λq15=>?_
  refine KQ (encs:=λ(i:Nat)=>#[iN i]) (xs:=(dZ x.x.s.r.m.C).map (λz=>bD x.x.s.r.m k*64+z)) (KO:=[[((B2 q15),.cells #[i6 ((bD x.x.s.r.m k:Nat):Int)] 3 (0,0))],[(((q15 2).abd 1),.cells #[iN x.x.s.r.m.R,iN x.x.s.r.m.S,iN x.x.s.r.m.B,iN x.x.s.r.m.M,iN x.x.s.r.m.C] 23 (0,0))]]) (aat (B2 q15) ((q15 2).abd 1) x.x.s.r.m HMP k Om) (enters_of Tryz.func100 Kr rfl) (λj _=>j≤x.x.s.r.m.C) (λj vC3_0b L=>(L.set 1 (ob (B0 q2) #[vC3_0b] 74)).set 3 (bP vC3_0b (zK x.x.s.r.m k++(dZ j).map (λz=>bD x.x.s.r.m k*64+z)))) [4,5] vC3_0 Om (by rw[ZU,pD];kernel_rfl) (λlR j vC3_0b xE R1 W1 hxE hk17=>?_) (λD16 vC3_0b hk17=>?_)
  ·obtain⟨hkb18,rfl⟩:=oh hxE
   have hml:((dZ j).map (λz=>bD x.x.s.r.m k*64+z)).length=j:=by rw[ir,eF]
   refine r0 [] [(9,i6 ((bD x.x.s.r.m k*64+j:Nat):Int))] [] ?_
   refine ag [4,5] (λR2 W2=>?_)
   refine rr (λq20=>[(0,.l 1),(2,.m (bs 6 1)),(3,fD cu (vC3_0b) (zK x.x.s.r.m k++(dZ j).map (λz=>bD x.x.s.r.m k*64+z)) 3 6 ([bD x.x.s.r.m k*64+j])),(4,.m (fZ 1 3 (bP ((q20 3).val 0) ((zK x.x.s.r.m k++(dZ j).map (λz=>bD x.x.s.r.m k*64+z))++([bD x.x.s.r.m k*64+j]))) ((q20 3).val 0) λbs h=>ap.one ((λ_ h=>h) bs h)))]) N0 [] (λq20 L=>(L.set 1 (ob (B0 q2) #[(q20 3).val 0] 74)).set 3 (bP ((q20 3).val 0) ((zK x.x.s.r.m k++(dZ j).map (λz=>bD x.x.s.r.m k*64+z))++([bD x.x.s.r.m k*64+j])))++[ob (B2 q20) #[i6 ((bD x.x.s.r.m k*64+j:Nat):Int)] 3]) λq20=>?_
   exact ne _ ⟨(q20 3).val 0,Om,rfl⟩ [0,1,2,3,4,5] (by rw[ZV];kernel_rfl)
  refine cl [pk (br g gc gl gr gm gq gk gt gg gd ge go c x),ob (B0 q2) #[vC3_0b] 74,ob (B3 q4) #[iN x.x.s.r.m.R,iN x.x.s.r.m.S,iN x.x.s.r.m.B,iN x.x.s.r.m.M,iN x.x.s.r.m.C] 23,bP vC3_0b (zK x.x.s.r.m k++(dZ x.x.s.r.m.C).map (λz=>bD x.x.s.r.m k*64+z)),ob (B2 q15) #[i6 ((bD x.x.s.r.m k:Nat):Int)] 3,ob ((q15 2).abd 1) #[iN x.x.s.r.m.R,iN x.x.s.r.m.S,iN x.x.s.r.m.B,iN x.x.s.r.m.M,iN x.x.s.r.m.C] 23] (by rw[ir,eF];kernel_rfl) ?_
  simp only[ir,eF] at hk17
  refine r0 [(0,ad k 1)] [(23,i6 ((k+1:Nat):Int))] [23] ?_
  exact ZB (k+1) vC3_0b (D16::Es6) Om Om Kr [0,1,2,3] (by rw[ZT];(repeat (first | rw[h13] | rw[ALcf]));kernel_rfl)
 obtain rfl:k=(x.x.s.r.m.R*x.x.s.r.m.B*x.x.s.r.m.M):=by omega
 refine ZN ?_
 refine r0 [(1,.l 2)] [(50,iN x.x.s.r.m.R),(51,i6 0)] [] ?_
 refine ZM (λr _ _=>r≤x.x.s.r.m.R) (λr _ _=>[(51,iN r)]) (λr vC3_0b _ L=>(L.set 1 (ob (B0 q2) #[vC3_0b] 74)).set 3 (bP vC3_0b (gv x.x.s.r.m r))) (λr _ _=>x.x.s.r.m.R-r) 0 vC3_0 _ Om Kr (by rw[aav];kernel_rfl) rfl (λr vC3_0b Es23 hk24=>?_)
 have hgm:=ZS hG hk24
 refine r0 [] [(52,.bool (decide ((r:Int)<(x.x.s.r.m.R:Int))))] [] ?_
 refine cj (r:Int) (x.x.s.r.m.R:Int) (λh26 dh26=>?_) λh26 dh26=>?_
 ·refine r0 [] [(10,iN r)] [] ?_
  refine r0 [(2,.c [0] [0] (aam g gc gl gr gm gq gk gt gg gd ge go c x HRP r Om))] [(12,.bool (dM x.x.s.r.m r))] [] (r0 [] [(60,.bool (dM x.x.s.r.m r))] [] ?_)
  refine cB (dM x.x.s.r.m r) (λh30=>?_) λh30=>?_
  ·refine rr (λ_=>[(0,.l 2),(2,.c [] [4,5] (WQ x.x.s.r.m.R x.x.s.r.m.S x.x.s.r.m.B x.x.s.r.m.M x.x.s.r.m.C r))]) (λq31=>[(63,.func (.func 101) #[] #[pt ((B2 q31)) 0,pt (((q31 2).abd 1)) 0])]) [] (λq31 L=>L++[ob (B2 q31) #[iN x.x.s.r.m.R,iN x.x.s.r.m.S,iN x.x.s.r.m.B,iN x.x.s.r.m.M,iN x.x.s.r.m.C] 23,ob ((q31 2).abd 1) #[iN r] 3]) λq31=>?_
   refine KQ (encs:=λ(i:Nat)=>#[iN i]) (xs:=(dZ (x.x.s.r.m.B*x.x.s.r.m.M*x.x.s.r.m.C)).map (ri x.x.s.r.m.M x.x.s.r.m.C r)) (KO:=[[((B2 q31),.cells #[iN x.x.s.r.m.R,iN x.x.s.r.m.S,iN x.x.s.r.m.B,iN x.x.s.r.m.M,iN x.x.s.r.m.C] 23 (0,0))],[(((q31 2).abd 1),.cells #[iN r] 3 (0,0))]]) (WP (B2 q31) ((q31 2).abd 1) x.x.s.r.m.R x.x.s.r.m.S x.x.s.r.m.B x.x.s.r.m.M x.x.s.r.m.C r hG Om) (enters_of Tryz.func101 Kr rfl) (λj _=>j≤x.x.s.r.m.B*x.x.s.r.m.M*x.x.s.r.m.C) (λj vC3_0 L=>(L.set 1 (ob (B0 q2) #[vC3_0] 74)).set 3 (bP vC3_0 (gv x.x.s.r.m r++(dZ j).map (ri x.x.s.r.m.M x.x.s.r.m.C r)))) [4,5] vC3_0b Om (by rw[ZU,pD];kernel_rfl) (λlR j vC3_0 xE R1 W1 hxE hk33=>?_) (λD32 vC3_0 hk33=>?_)
   ·obtain⟨hkb34,rfl⟩:=oh hxE
    have hml:((dZ j).map (ri x.x.s.r.m.M x.x.s.r.m.C r)).length=j:=by rw[ir,eF]
    refine r0 [] [(13,i6 ((ri x.x.s.r.m.M x.x.s.r.m.C r j:Nat):Int))] [] ?_
    refine ag [4,5] (λR2 W2=>?_)
    refine rr (λq36=>[(0,.l 1),(2,.m (bs 6 1)),(3,fD cu (vC3_0) (gv x.x.s.r.m r++(dZ j).map (ri x.x.s.r.m.M x.x.s.r.m.C r)) 3 6 ([ri x.x.s.r.m.M x.x.s.r.m.C r j])),(4,.m (fZ 1 3 (bP ((q36 3).val 0) ((gv x.x.s.r.m r++(dZ j).map (ri x.x.s.r.m.M x.x.s.r.m.C r))++([ri x.x.s.r.m.M x.x.s.r.m.C r j]))) ((q36 3).val 0) λbs h=>ap.one ((λ_ h=>h) bs h)))]) N0 [] (λq36 L=>(L.set 1 (ob (B0 q2) #[(q36 3).val 0] 74)).set 3 (bP ((q36 3).val 0) ((gv x.x.s.r.m r++(dZ j).map (ri x.x.s.r.m.M x.x.s.r.m.C r))++([ri x.x.s.r.m.M x.x.s.r.m.C r j])))++[ob (B2 q36) #[i6 ((ri x.x.s.r.m.M x.x.s.r.m.C r j:Nat):Int)] 3]) λq36=>?_
    exact ne _ ⟨(q36 3).val 0,Om,rfl⟩ [0,1,2,3,4,5] (by rw[ZV];kernel_rfl)
   refine cl [pk (br g gc gl gr gm gq gk gt gg gd ge go c x),ob (B0 q2) #[vC3_0] 74,ob (B3 q4) #[iN x.x.s.r.m.R,iN x.x.s.r.m.S,iN x.x.s.r.m.B,iN x.x.s.r.m.M,iN x.x.s.r.m.C] 23,bP vC3_0 (gv x.x.s.r.m r++(dZ (x.x.s.r.m.B*x.x.s.r.m.M*x.x.s.r.m.C)).map (ri x.x.s.r.m.M x.x.s.r.m.C r)),ob (B2 q31) #[iN x.x.s.r.m.R,iN x.x.s.r.m.S,iN x.x.s.r.m.B,iN x.x.s.r.m.M,iN x.x.s.r.m.C] 23,ob ((q31 2).abd 1) #[iN r] 3] (by rw[ir,eF];kernel_rfl) ?_
   simp only[ir,eF] at hk33
   refine r0 [(0,ad r 1)] [(51,i6 ((r+1:Nat):Int))] [51] ?_
   exact ZB (r+1) vC3_0 (D32::Es23) Om Om Kr [0,1,2,3] (by rw[ZE];(repeat (first | rw[h30] | rw[ALct]));kernel_rfl)
  refine r0 [(0,ad r 1)] [(51,i6 ((r+1:Nat):Int))] [51] ?_
  exact ZB (r+1) vC3_0b Es23 Om Om Kr [0,1,2,3] (by rw[ZE];(repeat (first | rw[h30] | rw[ALcf]));kernel_rfl)
 obtain rfl:x.x.s.r.m.R=r:=by omega
 refine ZN ?_
 exact r0 [(0,.l 1)] [(2,vC3_0b)] [2] (lf (.l [] [] [vC3_0b]) [0,3] [] [])
end Go.Proofs.YtbcodenfkijdnaaGreat.E
namespace Go.Proofs.YtbcodenfkijdnaaGreat.E
open Go Go.RowKit Go.Shelf
open List renaming length_replicate→dZ,replicate→jh
open Nat renaming le_trans→eF,lt_of_le_of_lt→ir
open Go.Proofs.Tryz renaming prog→jg
structure GM (c:Cf) (x:Mc) (n:Nat):Prop where
 ok:d8 c x (1+260*n) (4096+3*n) n
 t:x.x.s.time≤n
theorem GM.start{c:Cf}(h:dd c):GM c (dC c) 0:=⟨Hu h,Nat.le_refl _⟩
theorem GM.step{c:Cf}{x:Mc}{n:Nat}(h:GM c x n)(hn:n≤900){s:St}(hs:StOk s):GM c (eY c x s) (n+1):=
 ⟨(WJ h.ok hs Om (ir h.t Om)).mono Om Om Om,eF (WL c x s) (Nat.succ_le_succ h.t)⟩
theorem GM.mono{c:Cf}{x:Mc}{n m:Nat}(h:GM c x n)(hm:n≤m):GM c x m:=⟨h.ok.mono Om Om hm,eF h.t hm⟩
theorem GM.dv{c:Cf}{x:Mc}{n:Nat}(h:GM c x n)(hn:n≤900):nX c x.x.V:=h.ok.ct.dv Om
theorem GM.vl{c:Cf}{x:Mc}{n:Nat}(h:GM c x n)(hn:n≤900):x.x.V.l.length≤7000:=eF h.ok.ct.vl Om
theorem wR(g gc gl gr gm gq gk gt gg gd ge go:Nat)(c:Cf)(x:Mc)(n:Nat)(h:GM c x n)(hn:n≤900)(s:St)(hs:StOk s):aa jg 16 #[pt g 0,.agg (eSt s).toArray] [pk (br g gc gl gr gm gq gk gt gg gd ge go c x)] [0] (λ_=>[pk (br g gc gl gr gm gq gk gt gg gd ge go c (eY c x s))]) (λ_=> .agg (wK (gS c x s)).toArray):=
 WF g gc gl gr gm gq gk gt gg gd ge go c x _ _ _ h.ok Om Om Om (ir h.t Om) s hs
def dP:Cf:=⟨1,0,1,2,2,0,0,1,9,9,9,9,2,2,4,true⟩
def HD:St:=⟨2,1,fl 6 64,0,0,0,0,0,0,0,0,0⟩
def HE:St:=⟨8,0,jh 64 0,0,1,0,0,0,1,0,40,0⟩
def tO:St:=⟨1,1,jh 64 0,0,0,0,0,0,0,0,0,0⟩
def wS:Mc:=eY dP (eY dP (dC dP) HD) HE
def AP:Mc:=eY dP wS tO
abbrev AQ:St:=⟨2,1,(fl (6:UInt8) 64),0,0,0,0,0,0,0,0,0⟩
abbrev AR:St:=⟨8,0,z6,0,1,0,0,0,1,0,40,0⟩
abbrev wT:St:=⟨1,1,z6,0,0,0,0,0,0,0,0,0⟩
abbrev wU:Mc:=eY dP (dC dP) AQ
abbrev tQ:Mc:=eY dP wU AR
abbrev lh:Mc:=eY dP tQ wT
abbrev gT:An:=gS dP tQ wT
theorem XY:(gS dP wS tO).e=0:=by decide+kernel
theorem XZ:(gS dP wS tO).n=0:=by decide+kernel
theorem HF:(gS dP wS tO).l=fl 6 64:=by decide+kernel
theorem X0:AP.x.s.g.l.length=1:=by decide+kernel
theorem X1:lc 1 AP.x.V.l=true:=by decide+kernel
theorem X2:AP.x.V.l.all (λa=>decide (0≤a.ex)&&decide (a.ex≤1000000))=true:=by decide+kernel
theorem X3{l:List Ac}(h:l.all (λa=>decide (0≤a.ex)&&decide (a.ex≤1000000))=true):tN l:=⟨λk=>by
 rw[List.getD_eq_getElem?_getD]
 cases hk:l[k]? with
 | none=>exact⟨Int.le_refl _,by decide⟩
 | some a=>
  have h1:=List.all_eq_true.1 h a (List.mem_of_getElem? hk)
  simpa using h1⟩
theorem AS(x:UInt8):(fl x 64).length=64:=by unfold fl;rw[List.length_append,dZ,dZ]
theorem HI:dd dP:=⟨⟨⟨by decide⟩,by decide,by decide,by decide⟩,.inl rfl,⟨by decide,by decide,by decide,by decide⟩,⟨by decide,by decide,by decide,by decide⟩,by decide,by decide,by decide,by decide,by decide,by decide⟩
theorem HJ:StOk HD:=⟨AS 6,by decide⟩
theorem HL:StOk HE:=⟨dZ,by decide⟩
theorem HN:StOk tO:=⟨dZ,by decide⟩
theorem X4:aa jg 12 #[.agg #[i6 1,i6 0,i6 1,i6 2,i6 2,i6 0,i6 0,i6 1,i6 9,i6 9,i6 9,i6 9,i6 2,i6 2,i6 4,.bool true]] [] [] (λE=>[pk (br (E.abd 0) (E.abd 1) (E.abd 2) (E.abd 3) (E.abd 4) (E.abd 5) (E.abd 6) (E.abd 7) (E.abd 8) (E.abd 9) (E.abd 10) (E.abd 11) dP (dC dP))]) (λE=>pt (E.abd 0) 0):=AO dP HI Dc
attribute [local irreducible] eY gS dC lc
theorem X5:(((gT.e)==0&&((gT.n)==0&&true))&&decide (gT.l=fl (6:UInt8) 64))=true:=by
 have h1:gT.e=0:=XY
 have h2:gT.n=0:=XZ
 have h3:gT.l=fl (6:UInt8) 64:=HF
 rw[h1,h2,h3];simp
theorem X6:gT.l.length=64:=by
 have h3:gT.l=fl (6:UInt8) 64:=HF
 rw[h3];exact AS 6
theorem X7:(((lh.x.s.g.l.length:Nat):Int)==1)=true:=by
 have h1:lh.x.s.g.l.length=1:=X0
 rw[h1];rfl
theorem X8:lc dP.mode lh.x.V.l=true:=X1
theorem HO:GM dP (dC dP) 0:=GM.start HI
theorem HP:GM dP wU 1:=HO.step Dc HJ
theorem HQ:GM dP tQ 2:=HP.step Dc HL
theorem X9:GM dP lh 3:=HQ.step Dc HN
theorem Ya:lh.x.V.l.length≤900000:=eF (X9.vl Dc) Dc
theorem Yb:tN lh.x.V.l:=X3 X2
theorem Yc:StOk AQ:=HJ
theorem Yd:StOk AR:=HL
theorem Ye:StOk wT:=HN
theorem wV:aa jg 11 #[] [] [] N0 (λ_=> .bool true):=by
 have hz6:z6.length=64:=dZ
 have hf6:=AS 6
 have hal:=X6
 refine fG Tryz.func11 λw cs=>?_
 refine r0 [] [(0,.bool false)] [] (rr (λ_=>[(0,.c [] [] (XX)),(2,.s 0)]) (λq2=>[(1,pt (B1 q2) 0)]) [] (λq2 L=>L++[ob (B1 q2) #[i6 1,i6 0,i6 1,i6 2,i6 2,i6 0,i6 0,i6 1,i6 9,i6 9,i6 9,i6 9,i6 2,i6 2,i6 4,.bool true] 31]) λq2=>rr (λ_=>[(0,.l 0),(1,.c [] [1] (X4))]) (λq3=>[(2,pt ((B1 q3)) 0)]) [] (λq3 L=>L++[pk (br (B1 q3) ((q3 1).abd 1) ((q3 1).abd 2) ((q3 1).abd 3) ((q3 1).abd 4) ((q3 1).abd 5) ((q3 1).abd 6) ((q3 1).abd 7) ((q3 1).abd 8) ((q3 1).abd 9) ((q3 1).abd 10) ((q3 1).abd 11) dP (dC dP))]) λq3=>rF [] 9 (rr (λ_=>[(0,.c [] [] (TL (6:UInt8))),(2,.s 2)]) (λq5=>[(3,pt (B1 q5) 0)]) [] (λq5 L=>L++[ob (B1 q5) (rB 64 (fl (6:UInt8) 64)).toArray 43]) λq5=>rs [(1,.l 2),(3,.c [1] [1] (wR (B1 q3) ((q3 1).abd 1) ((q3 1).abd 2) ((q3 1).abd 3) ((q3 1).abd 4) ((q3 1).abd 5) ((q3 1).abd 6) ((q3 1).abd 7) ((q3 1).abd 8) ((q3 1).abd 9) ((q3 1).abd 10) ((q3 1).abd 11) dP (dC dP) _ (by with_reducible exact HO) Dc AQ (by with_reducible exact Yc)))] 1 ((pk (br (B1 q3) ((q3 1).abd 1) ((q3 1).abd 2) ((q3 1).abd 3) ((q3 1).abd 4) ((q3 1).abd 5) ((q3 1).abd 6) ((q3 1).abd 7) ((q3 1).abd 8) ((q3 1).abd 9) ((q3 1).abd 10) ((q3 1).abd 11) dP wU))) ?_))
 exact rs [(4,.c [1] [1] (wR (B1 q3) ((q3 1).abd 1) ((q3 1).abd 2) ((q3 1).abd 3) ((q3 1).abd 4) ((q3 1).abd 5) ((q3 1).abd 6) ((q3 1).abd 7) ((q3 1).abd 8) ((q3 1).abd 9) ((q3 1).abd 10) ((q3 1).abd 11) dP wU _ (by with_reducible exact HP) Dc AR (by with_reducible exact Yd)))] 1 ((pk (br (B1 q3) ((q3 1).abd 1) ((q3 1).abd 2) ((q3 1).abd 3) ((q3 1).abd 4) ((q3 1).abd 5) ((q3 1).abd 6) ((q3 1).abd 7) ((q3 1).abd 8) ((q3 1).abd 9) ((q3 1).abd 10) ((q3 1).abd 11) dP tQ))) (rr (λ_=>[(2,.c [1] [1] (wR (B1 q3) ((q3 1).abd 1) ((q3 1).abd 2) ((q3 1).abd 3) ((q3 1).abd 4) ((q3 1).abd 5) ((q3 1).abd 6) ((q3 1).abd 7) ((q3 1).abd 8) ((q3 1).abd 9) ((q3 1).abd 10) ((q3 1).abd 11) dP tQ _ (by with_reducible exact HQ) Dc wT (by with_reducible exact Ye))),(4,.s 3)]) (λq8=>[(4,pt (B3 q8) 0)]) [] (λq8 L=>L.set 1 ((pk (br (B1 q3) ((q3 1).abd 1) ((q3 1).abd 2) ((q3 1).abd 3) ((q3 1).abd 4) ((q3 1).abd 5) ((q3 1).abd 6) ((q3 1).abd 7) ((q3 1).abd 8) ((q3 1).abd 9) ((q3 1).abd 10) ((q3 1).abd 11) dP lh)))++[ob (B3 q8) (([i6 (gT.e),i6 (gT.n)]:List Value)++rB 64 (gT.l)).toArray 53]) λq8=>r0 [(0,.m (ls 3 (([i6 (gT.e),i6 (gT.n)]:List Value)++rB 64 (gT.l)))),(1,.m (ls 2 (rB 64 (fl (6:UInt8) 64)))),(2,.v (.agg (([i6 0,i6 0]:List Value)++rB 64 (fl (6:UInt8) 64)).toArray)),(3,.t (TH.cast (i9 53 λ_ _ _=>uu (xs:=([i6 (gT.e),i6 (gT.n)]:List Value)++rB 64 (gT.l)) (ys:=([i6 0,i6 0]:List Value)++rB 64 (fl (6:UInt8) 64)) Kr (fz Kr Kr bh (jp (show(gT.l).length=64 by(simp only[LL,hf6,hal];done)) (show(fl (6:UInt8) 64).length=64 by rfl)))) (show Value.bool ((((gT.e)==0&&((gT.n)==0&&true))&&decide (gT.l=fl (6:UInt8) 64)))= .bool true from ALca Value.bool (by exact X5)))),(4,.v (.bool true)),(5,.v (pt ((B1 q3)) 0)),(6,.c [1] [1] (XC (B1 q3) ((q3 1).abd 1) ((q3 1).abd 2) ((q3 1).abd 3) ((q3 1).abd 4) ((q3 1).abd 5) ((q3 1).abd 6) ((q3 1).abd 7) ((q3 1).abd 8) ((q3 1).abd 9) ((q3 1).abd 10) ((q3 1).abd 11) dP lh)),(7,.c [1] [1] (XD (B1 q3) ((q3 1).abd 1) ((q3 1).abd 2) ((q3 1).abd 3) ((q3 1).abd 4) ((q3 1).abd 5) ((q3 1).abd 6) ((q3 1).abd 7) ((q3 1).abd 8) ((q3 1).abd 9) ((q3 1).abd 10) ((q3 1).abd 11) dP lh)),(8,.c [1] [1] (XE (B1 q3) ((q3 1).abd 1) ((q3 1).abd 2) ((q3 1).abd 3) ((q3 1).abd 4) ((q3 1).abd 5) ((q3 1).abd 6) ((q3 1).abd 7) ((q3 1).abd 8) ((q3 1).abd 9) ((q3 1).abd 10) ((q3 1).abd 11) dP lh)),(9,.t (tk (show Value.bool (((lh.x.s.g.l.length:Nat):Int)==1)= .bool true from ALca Value.bool (by exact X7)))),(11,.v (.bool true)),(12,.v (pt ((B1 q3)) 0)),(13,.c [1] [1] (aa.v ((aar (B1 q3) ((q3 1).abd 1) ((q3 1).abd 2) ((q3 1).abd 3) ((q3 1).abd 4) ((q3 1).abd 5) ((q3 1).abd 6) ((q3 1).abd 7) ((q3 1).abd 8) ((q3 1).abd 9) ((q3 1).abd 10) ((q3 1).abd 11) dP lh Ya Yb)) λ_=>ALca Value.bool (show(lc dP.mode lh.x.V.l)=true from(by exact X8)))),(15,.v (.bool true))] [(0,.bool true)] [0] (lf ab.zero [] [] []))
end Go.Proofs.YtbcodenfkijdnaaGreat.E
namespace Go.Proofs.YtbcodenfkijdnaaGreat.E
open Go Go.RowKit Go.Shelf
def de(c:Cf)(x:Mc)(l:List St):Nat→Mc
 | 0=>x
 | k+1=>eY c (de c x l k) (l.getD k av)
def mE(c:Cf)(x:Mc)(l:List St):Nat→List An
 | 0=>[]
 | k+1=>mE c x l k++[gS c (de c x l k) (l.getD k av)]
theorem Yf(c:Cf)(x:Mc)(l:List St):de c x l 0=x:=rfl
theorem Yg(c:Cf)(x:Mc)(l:List St)(k:Nat):de c x l (k+1)=eY c (de c x l k) (l.getD k av):=rfl
theorem Yh(c:Cf)(x:Mc)(l:List St):mE c x l 0=[]:=rfl
theorem HR(c:Cf)(x:Mc)(l:List St)(k:Nat):mE c x l (k+1)=mE c x l k++[gS c (de c x l k) (l.getD k av)]:=rfl
theorem HT(c:Cf)(x:Mc)(l:List St): ∀k,(mE c x l k).length=k
 | 0=>rfl
 | k+1=>by rw[HR,List.length_append,HT];rfl
structure oW (l:List St):Prop where
 a: ∀k,StOk (l.getD k av)
theorem tS{c:Cf}{x:Mc}{n:Nat}(h:GM c x n){l:List St}(hs:oW l): ∀k,n+k≤900→GM c (de c x l k) (n+k)
 | 0,_=>h
 | k+1,hk=>(tS h hs k Om).step Om (hs.a k)
attribute [local irreducible] de mE eY gS
theorem Yi(g gc gl gr gm gq gk gt gg gd ge go:Nat)(c:Cf)(x:Mc)(n:Nat)(h:GM c x n)(v:Value)(l:List St)(hl:n+l.length≤900)(hs:oW l):aa Tryz.prog 28 #[pt g 0,v] [pk (br g gc gl gr gm gq gk gt gg gd ge go c x),.p (aK eSt v l)] [0] (λE=>[pk (br g gc gl gr gm gq gk gt gg gd ge go c (de c x l l.length)),wL (E.val 0) (mE c x l l.length)]) (λE=>(E.val 0)):=by
 refine fO Tryz.func28 1 rfl λbq1 hq1=>?_
 refine fG Tryz.func28 λw cs=>?_
 refine r0 [] [(4,.slice none 0 0)] [] (r0 [] [(5,.slice none 0 0)] [] (r0 [(1,eR hq1.1 1)] [(8,v),(9,iN l.length),(10,i6 0)] [] ?_))
 refine cz Hk ?_
 refine mN (λk _=>k≤l.length) (λk vS5=>[(10,iN k),(5,vS5)]) (λk vS5 L=>(L.set 0 ((pk (br g gc gl gr gm gq gk gt gg gd ge go c (de c x l k))))).set 2 (wL vS5 (mE c x l k))) (λk _=>l.length-k) 0 (.slice none 0 0) Om Kr (by rw[Yf,Yh];kernel_rfl) (λk vS5 hk4=>?_)
 have hkk:=hk4
 have hgm:=tS h hs k Om
 have hnk:n+k≤900:=by omega
 have hsk:=hs.a k
 have hsd:=hsk.d
 have hal:=HT c x l k
 refine r0 [] [(11,.bool (decide ((k:Int)<(l.length:Int))))] [] ?_
 refine cj (k:Int) (l.length:Int) (λh6 dh6=>?_) λh6 dh6=>?_
 ·refine rr (λ_=>[(0,fF hq1.1 1 k 75),(1,nC VL hq1.1 1 k 0 75),(3,.s 3)]) (λq7=>[(7,pt (B2 q7) 0)]) [] (λq7 L=>L++[ob (B2 q7) (sV ((l.getD k av).k) ((l.getD k av).ln) ((l.getD k av).d) ((l.getD k av).m:Nat) ((l.getD k av).f0) ((l.getD k av).f1) ((l.getD k av).f2) ((l.getD k av).f3) ((l.getD k av).f4) ((l.getD k av).f5) ((l.getD k av).f6) ((l.getD k av).f7)) 50]) λq7=>?_
  refine rr (λ_=>[(2,.l 3),(3,.c [0] [0] (wR g gc gl gr gm gq gk gt gg gd ge go c (de c x l k) _ hgm hnk (⟨((l.getD k av).k),((l.getD k av).ln),((l.getD k av).d),((l.getD k av).m),((l.getD k av).f0),((l.getD k av).f1),((l.getD k av).f2),((l.getD k av).f3),((l.getD k av).f4),((l.getD k av).f5),((l.getD k av).f6),((l.getD k av).f7)⟩:St) hsk)),(4,.m (bs 4 1)),(5,fD Hk (vS5) (mE c x l k) 2 4 ([(⟨((gS c (de c x l k) (⟨((l.getD k av).k),((l.getD k av).ln),((l.getD k av).d),((l.getD k av).m),((l.getD k av).f0),((l.getD k av).f1),((l.getD k av).f2),((l.getD k av).f3),((l.getD k av).f4),((l.getD k av).f5),((l.getD k av).f6),((l.getD k av).f7)⟩:St)).e),((gS c (de c x l k) (⟨((l.getD k av).k),((l.getD k av).ln),((l.getD k av).d),((l.getD k av).m),((l.getD k av).f0),((l.getD k av).f1),((l.getD k av).f2),((l.getD k av).f3),((l.getD k av).f4),((l.getD k av).f5),((l.getD k av).f6),((l.getD k av).f7)⟩:St)).n),(gS c (de c x l k) (⟨((l.getD k av).k),((l.getD k av).ln),((l.getD k av).d),((l.getD k av).m),((l.getD k av).f0),((l.getD k av).f1),((l.getD k av).f2),((l.getD k av).f3),((l.getD k av).f4),((l.getD k av).f5),((l.getD k av).f6),((l.getD k av).f7)⟩:St)).l⟩:An)]))]) (λq8=>[(5,(q8 5).val 0)]) [5] (λq8 L=>(L.set 0 ((pk (br g gc gl gr gm gq gk gt gg gd ge go c (eY c (de c x l k) (⟨((l.getD k av).k),((l.getD k av).ln),((l.getD k av).d),((l.getD k av).m),((l.getD k av).f0),((l.getD k av).f1),((l.getD k av).f2),((l.getD k av).f3),((l.getD k av).f4),((l.getD k av).f5),((l.getD k av).f6),((l.getD k av).f7)⟩:St)))))).set 2 (wL ((q8 5).val 0) ((mE c x l k)++([(⟨((gS c (de c x l k) (⟨((l.getD k av).k),((l.getD k av).ln),((l.getD k av).d),((l.getD k av).m),((l.getD k av).f0),((l.getD k av).f1),((l.getD k av).f2),((l.getD k av).f3),((l.getD k av).f4),((l.getD k av).f5),((l.getD k av).f6),((l.getD k av).f7)⟩:St)).e),((gS c (de c x l k) (⟨((l.getD k av).k),((l.getD k av).ln),((l.getD k av).d),((l.getD k av).m),((l.getD k av).f0),((l.getD k av).f1),((l.getD k av).f2),((l.getD k av).f3),((l.getD k av).f4),((l.getD k av).f5),((l.getD k av).f6),((l.getD k av).f7)⟩:St)).n),(gS c (de c x l k) (⟨((l.getD k av).k),((l.getD k av).ln),((l.getD k av).d),((l.getD k av).m),((l.getD k av).f0),((l.getD k av).f1),((l.getD k av).f2),((l.getD k av).f3),((l.getD k av).f4),((l.getD k av).f5),((l.getD k av).f6),((l.getD k av).f7)⟩:St)).l⟩:An)])))++[ob (B4 q8) (([i6 ((gS c (de c x l k) (⟨((l.getD k av).k),((l.getD k av).ln),((l.getD k av).d),((l.getD k av).m),((l.getD k av).f0),((l.getD k av).f1),((l.getD k av).f2),((l.getD k av).f3),((l.getD k av).f4),((l.getD k av).f5),((l.getD k av).f6),((l.getD k av).f7)⟩:St)).e),i6 ((gS c (de c x l k) (⟨((l.getD k av).k),((l.getD k av).ln),((l.getD k av).d),((l.getD k av).m),((l.getD k av).f0),((l.getD k av).f1),((l.getD k av).f2),((l.getD k av).f3),((l.getD k av).f4),((l.getD k av).f5),((l.getD k av).f6),((l.getD k av).f7)⟩:St)).n)]:List Value)++rB 64 ((gS c (de c x l k) (⟨((l.getD k av).k),((l.getD k av).ln),((l.getD k av).d),((l.getD k av).m),((l.getD k av).f0),((l.getD k av).f1),((l.getD k av).f2),((l.getD k av).f3),((l.getD k av).f4),((l.getD k av).f5),((l.getD k av).f6),((l.getD k av).f7)⟩:St)).l)).toArray 53]) λq8=>r0 [(0,ad k 1)] [(10,i6 ((k+1:Nat):Int))] [10] ?_
  exact lE (k+1) ((q8 5).val 0) Om Om Kr [0,1,2] (by rw[Yg,HR];kernel_rfl)
 obtain rfl:l.length=k:=by omega
 refine lF ?_
 exact r0 [] [(4,vS5)] [4] (lf (.l [] [] [vS5]) [0,2] [(1,1)] [])
end Go.Proofs.YtbcodenfkijdnaaGreat.E
namespace Go.Proofs.YtbcodenfkijdnaaGreat.E
open Go Go.RowKit Go.Shelf
open Go.Proofs.Tryz renaming prog→dZ
open Nat renaming le_trans→eF
theorem aay(r s b m c way res mode lr er lp ep room heavy log:Int)(back:Bool)(h:m0 r s b m c way res mode lr er lp ep room heavy log=false)(v u:Value)(l ms:List St):aa dZ 10 #[.agg #[i6 r,i6 s,i6 b,i6 m,i6 c,i6 way,i6 res,i6 mode,i6 lr,i6 er,i6 lp,i6 ep,i6 room,i6 heavy,i6 log,.bool back],v,u] [.p (λbs=>aK eSt v l bs∧aK eSt u ms bs),.p (λbs=>bs=[])] [] N0 (λ_=> .bool true):=by
 have hf:=Tryz.func10
 have hE:=enters_of hf Kr rfl
 refine aa.ro 0 rfl (λbq0 hh0=>?_) hE
 refine aa.ro 1 rfl (λbq1 hh1=>?_) hE
 have hq0:=hh0.1
 have hq1:=hh0.2
 refine fE hf (λw cs=>?_) hE
 exact ra (λq1=>[(3,pt (B0 q1) 0),(6,.bool false)]) (λq1=>[ob (B0 q1) #[i6 r,i6 s,i6 b,i6 m,i6 c,i6 way,i6 res,i6 mode,i6 lr,i6 er,i6 lp,i6 ep,i6 room,i6 heavy,i6 log,.bool back] 31]) λq1=>rF [(0,.c [] [] (wV))] 15 (r0 [(0,.l 2),(1,.c [] [] (Xw r s b m c way res mode lr er lp ep room heavy log back h))] [(7,.pointer none)] [] (rT [(0,.v (.pointer none)),(1,.v (.bool true)),(2,.v (.bool true)),(3,.d),(4,.d),(5,.d),(7,.v (.bool true)),(8,.d),(9,.d),(10,.d)] 29 (r0 [] [(6,.bool true)] [6] (lf ab.zero [] [(0,0),(1,1)] []))))
theorem aaz(c:Cf)(hcf:dd c)(hs:oT c=false)(v u:Value)(l ms:List St):aa dZ 10 #[.agg (cA c),v,u] [.p (λbs=>aK eSt v l bs∧aK eSt u ms bs),.p (λbs=>bs=[])] [] N0 (λ_=> .bool true):=by
 have hf:=Tryz.func10
 have hE:=enters_of hf Kr rfl
 refine aa.ro 0 rfl (λbq0 hh0=>?_) hE
 refine aa.ro 1 rfl (λbq1 hh1=>?_) hE
 have hq0:=hh0.1
 have hq1:=hh0.2
 refine fE hf (λw cs=>?_) hE
 exact ra (λq1=>[(3,pt (B0 q1) 0),(6,.bool false)]) (λq1=>[ob (B0 q1) (cA c) 31]) λq1=>rF [(0,.c [] [] (wV))] 15 (r0 [(0,.l 2),(1,.c [] [] (XW c hcf hs))] [(7,.pointer none)] [] (rT [(0,.v (.pointer none)),(1,.v (.bool true)),(2,.v (.bool true)),(3,.d),(4,.d),(5,.d),(7,.v (.bool true)),(8,.d),(9,.d),(10,.d)] 29 (r0 [] [(6,.bool true)] [6] (lf ab.zero [] [(0,0),(1,1)] []))))
theorem aaA(c:Cf)(hcf:dd c)(hs:oT c=true)(v u:Value)(l ms:List St)(hl:80<l.length):aa dZ 10 #[.agg (cA c),v,u] [.p (λbs=>aK eSt v l bs∧aK eSt u ms bs),.p (λbs=>bs=[])] [] N0 (λ_=> .bool true):=by
 have hf:=Tryz.func10
 have hE:=enters_of hf Kr rfl
 refine aa.ro 0 rfl (λbq0 hh0=>?_) hE
 refine aa.ro 1 rfl (λbq1 hh1=>?_) hE
 have hq0:=hh0.1
 have hq1:=hh0.2
 refine fE hf (λw cs=>?_) hE
 exact ra (λq1=>[(3,pt (B0 q1) 0),(6,.bool false)]) (λq1=>[ob (B0 q1) (cA c) 31]) λq1=>rF [(0,.c [] [] (wV))] 15 (rr (λ_=>[(0,.l 2),(1,.c [] [3] (AO c hcf hs))]) (λq3=>[(7,pt ((B1 q3)) 0)]) [] (λq3 L=>L++[pk (br (B1 q3) (((q3 1).abd 1)) (((q3 1).abd 2)) (((q3 1).abd 3)) (((q3 1).abd 4)) (((q3 1).abd 5)) (((q3 1).abd 6)) (((q3 1).abd 7)) (((q3 1).abd 8)) (((q3 1).abd 9)) (((q3 1).abd 10)) (((q3 1).abd 11)) c (dC c))]) λq3=>rT [(0,.v (pt ((B1 q3)) 0)),(1,.v (.bool false)),(2,.v (.bool false)),(3,.v (v)),(4,eR hq0.1 0),(5,.t (tk (show Value.bool (decide (80<(l.length:Int)))= .bool true from ALca Value.bool (by exact cC Om)))),(7,.v (.bool true)),(8,.d),(9,.d),(10,.d)] 29 (r0 [] [(6,.bool true)] [6] (lf ab.zero [] [(0,0),(1,1)] [])))
theorem aaB(c:Cf)(hcf:dd c)(hs:oT c=true)(v u:Value)(l ms:List St)(hl:l.length≤80)(hl2:40<ms.length):aa dZ 10 #[.agg (cA c),v,u] [.p (λbs=>aK eSt v l bs∧aK eSt u ms bs),.p (λbs=>bs=[])] [] N0 (λ_=> .bool true):=by
 have hf:=Tryz.func10
 have hE:=enters_of hf Kr rfl
 refine aa.ro 0 rfl (λbq0 hh0=>?_) hE
 refine aa.ro 1 rfl (λbq1 hh1=>?_) hE
 have hq0:=hh0.1
 have hq1:=hh0.2
 refine fE hf (λw cs=>?_) hE
 exact ra (λq1=>[(3,pt (B0 q1) 0),(6,.bool false)]) (λq1=>[ob (B0 q1) (cA c) 31]) λq1=>rF [(0,.c [] [] (wV))] 15 (rr (λ_=>[(0,.l 2),(1,.c [] [3] (AO c hcf hs))]) (λq3=>[(7,pt ((B1 q3)) 0)]) [] (λq3 L=>L++[pk (br (B1 q3) (((q3 1).abd 1)) (((q3 1).abd 2)) (((q3 1).abd 3)) (((q3 1).abd 4)) (((q3 1).abd 5)) (((q3 1).abd 6)) (((q3 1).abd 7)) (((q3 1).abd 8)) (((q3 1).abd 9)) (((q3 1).abd 10)) (((q3 1).abd 11)) c (dC c))]) λq3=>rT [(0,.v (pt ((B1 q3)) 0)),(1,.v (.bool false)),(2,.v (.bool false)),(3,.v (v)),(4,eR hq0.1 0),(5,.t (tk (show Value.bool (decide (80<(l.length:Int)))= .bool false from ALca Value.bool (by exact bj Om)))),(7,.v (.bool false)),(8,.v (u)),(9,eR hq1.1 0),(10,.t (tk (show Value.bool (decide (40<(ms.length:Int)))= .bool true from ALca Value.bool (by exact cC Om))))] 29 (r0 [] [(6,.bool true)] [6] (lf ab.zero [] [(0,0),(1,1)] [])))
def tD(c:Cf)(x:Mc)(l:List St):Nat→Mc
 | 0=>x
 | k+1=>bif ((l.getD k av).k==8)&&(((l.getD k av).f0==6)||((l.getD k av).f0==7)) then tD c x l k else eY c (tD c x l k) (l.getD k av)
theorem aaC(c:Cf)(x:Mc)(l:List St):tD c x l 0=x:=rfl
theorem ZF(c:Cf)(x:Mc)(l:List St)(k:Nat):tD c x l (k+1)=bif ((l.getD k av).k==8)&&(((l.getD k av).f0==6)||((l.getD k av).f0==7)) then tD c x l k else eY c (tD c x l k) (l.getD k av):=rfl
theorem ZG{c:Cf}{x:Mc}{n:Nat}(h:GM c x n){l:List St}(hs:oW l): ∀k,n+k≤900→GM c (tD c x l k) (n+k)
 | 0,_=>h
 | k+1,hk=>by
  have h1:=ZG h hs k Om
  rw[ZF]
  cases ((l.getD k av).k==8)&&(((l.getD k av).f0==6)||((l.getD k av).f0==7))
  ·exact h1.step Om (hs.a k)
  ·exact h1.mono Om
def Zw(c:Cf)(x:Mc)(ms:List St):Bool:=bif (tD c x ms ms.length).x.V.l.any lV then true else(gv x.x.s.r.m x.x.s.r.m.R).all λi=> !(((tD c x ms ms.length).x.V.l.drop x.x.V.l.length).any (Zv (i:Int)))
theorem aaD{l:List Nat}{p:Nat→Bool}(h: ∀j,j<l.length→p (l.getD j 0)=false):(l.all λi=> !(p i))=true:=XN (d:=0) λj hj=>by rw[h j hj];rfl
theorem aaE{l:List Nat}{p:Nat→Bool}{j:Nat}(hj:j<l.length)(h:p (l.getD j 0)=true):(l.all λi=> !(p i))=false:=XP (d:=0) hj (by rw[h];rfl)
attribute [local irreducible] tD de eY gS gv
theorem aaF(c:Cf)(hcf:dd c)(hs:oT c=true)(v u:Value)(l ms:List St)(hl:l.length≤80)(hm:ms.length≤40)(hls:oW l)(hms:oW ms):aa dZ 10 #[.agg (cA c),v,u] [.p (λbs=>aK eSt v l bs∧aK eSt u ms bs),.p (λbs=>bs=[])] [] N0 (λ_=> .bool (Zw c (de c (dC c) l l.length) ms)):=by
 have g0:=GM.start hcf
 have g1:GM c (de c (dC c) l l.length) 80:=(tS g0 hls l.length Om).mono Om
 have hr:=g1.ok.ct.s.r
 have hG:f9 (de c (dC c) l l.length).x.s.r.m.R (de c (dC c) l l.length).x.s.r.m.S (de c (dC c) l l.length).x.s.r.m.B (de c (dC c) l l.length).x.s.r.m.M (de c (dC c) l l.length).x.s.r.m.C:=hr.m.abc
 have hgl:=ZS hG (Nat.le_refl _)
 have hl0:0+l.length≤900:=by omega
 have gv1:=g1.vl Om
 have hn1:(de c (dC c) l l.length).x.V.l.length≤900000:=eF gv1 Dc
 have g2:GM c (tD c (de c (dC c) l l.length) ms ms.length) 120:=(ZG g1 hms ms.length Om).mono Om
 have HDV:=g2.dv Om
 have hn2:(tD c (de c (dC c) l l.length) ms ms.length).x.V.l.length≤900000:=eF (g2.vl Om) Dc
 have hf:=Tryz.func10
 have hE:=enters_of hf Kr rfl
 refine aa.ro 0 rfl (λbq0 hh0=>?_) hE
 refine aa.ro 1 rfl (λbq1 hh1=>?_) hE
 have hq0:=hh0.1
 have hq1:=hh0.2
 refine fE hf (λw cs=>?_) hE
 refine ra (λq1=>[(3,pt (B0 q1) 0),(6,.bool false)]) (λq1=>[ob (B0 q1) (cA c) 31]) λq1=>rF [(0,.c [] [] (wV))] 15 (rr (λ_=>[(0,.l 2),(1,.c [] [3] (AO c hcf hs))]) (λq3=>[(7,pt ((B1 q3)) 0)]) [] (λq3 L=>L++[pk (br (B1 q3) (((q3 1).abd 1)) (((q3 1).abd 2)) (((q3 1).abd 3)) (((q3 1).abd 4)) (((q3 1).abd 5)) (((q3 1).abd 6)) (((q3 1).abd 7)) (((q3 1).abd 8)) (((q3 1).abd 9)) (((q3 1).abd 10)) (((q3 1).abd 11)) c (dC c))]) λq3=>rF [(0,.v (pt ((B1 q3)) 0)),(1,.v (.bool false)),(2,.v (.bool false)),(3,.v (v)),(4,eR hq0.1 0),(5,.t (tk (show Value.bool (decide (80<(l.length:Int)))= .bool false from ALca Value.bool (by exact bj Om)))),(7,.v (.bool false)),(8,.v (u)),(9,eR hq1.1 0),(10,.t (tk (show Value.bool (decide (40<(ms.length:Int)))= .bool false from ALca Value.bool (by exact bj Om))))] 29 (rr (λ_=>[(2,.c [3,0] [3,4] (aa.at (rd':=[pk (br (B1 q3) (((q3 1).abd 1)) (((q3 1).abd 2)) (((q3 1).abd 3)) (((q3 1).abd 4)) (((q3 1).abd 5)) (((q3 1).abd 6)) (((q3 1).abd 7)) (((q3 1).abd 8)) (((q3 1).abd 9)) (((q3 1).abd 10)) (((q3 1).abd 11)) c (dC c)),.c bq0]) (Yi (B1 q3) ((q3 1).abd 1) ((q3 1).abd 2) ((q3 1).abd 3) ((q3 1).abd 4) ((q3 1).abd 5) ((q3 1).abd 6) ((q3 1).abd 7) ((q3 1).abd 8) ((q3 1).abd 9) ((q3 1).abd 10) ((q3 1).abd 11) c (dC c) _ g0 v l hl0 hls) (ak (em hq0 (λ_ h=>h)))))]) N0 [] (λq5 L=>L.set 3 ((pk (br (B1 q3) ((q3 1).abd 1) ((q3 1).abd 2) ((q3 1).abd 3) ((q3 1).abd 4) ((q3 1).abd 5) ((q3 1).abd 6) ((q3 1).abd 7) ((q3 1).abd 8) ((q3 1).abd 9) ((q3 1).abd 10) ((q3 1).abd 11) c (de c (dC c) l l.length))))++[wL ((q5 2).val 0) (mE c (dC c) l l.length)]) λq5=>rr (λ_=>[(1,.c [3] [3,5] (aax (B1 q3) ((q3 1).abd 1) ((q3 1).abd 2) ((q3 1).abd 3) ((q3 1).abd 4) ((q3 1).abd 5) ((q3 1).abd 6) ((q3 1).abd 7) ((q3 1).abd 8) ((q3 1).abd 9) ((q3 1).abd 10) ((q3 1).abd 11) c (de c (dC c) l l.length) hr))]) (λq6=>[(8,((q6 1).val 0))]) [] (λq6 L=>L++[bP ((q6 1).val 0) (gv (de c (dC c) l l.length).x.s.r.m (de c (dC c) l l.length).x.s.r.m.R)]) λq6=>?_))
 refine rr (λ_=>[(1,.c [3] [3] (AJ (B1 q3) ((q3 1).abd 1) ((q3 1).abd 2) ((q3 1).abd 3) ((q3 1).abd 4) ((q3 1).abd 5) ((q3 1).abd 6) ((q3 1).abd 7) ((q3 1).abd 8) ((q3 1).abd 9) ((q3 1).abd 10) ((q3 1).abd 11) c (de c (dC c) l l.length))),(2,.c [3] [3] (XF (B1 q3) ((q3 1).abd 1) ((q3 1).abd 2) ((q3 1).abd 3) ((q3 1).abd 4) ((q3 1).abd 5) ((q3 1).abd 6) ((q3 1).abd 7) ((q3 1).abd 8) ((q3 1).abd 9) ((q3 1).abd 10) ((q3 1).abd 11) c (de c (dC c) l l.length)))]) (λ_=>[(9,i6 (((de c (dC c) l l.length).x.V.l.length:Nat):Int))]) [] (λ_ L=>L.set 3 ((pk (br (B1 q3) ((q3 1).abd 1) ((q3 1).abd 2) ((q3 1).abd 3) ((q3 1).abd 4) ((q3 1).abd 5) ((q3 1).abd 6) ((q3 1).abd 7) ((q3 1).abd 8) ((q3 1).abd 9) ((q3 1).abd 10) ((q3 1).abd 11) c (de c (dC c) l l.length))))) λq7=>r0 [(1,eR hq1.1 0)] [(38,u),(39,iN ms.length),(40,i6 0)] [] ?_
 refine lq (λk=>k≤ms.length) (λk=>[(40,iN k)]) (λk L=>L.set 3 ((pk (br (B1 q3) ((q3 1).abd 1) ((q3 1).abd 2) ((q3 1).abd 3) ((q3 1).abd 4) ((q3 1).abd 5) ((q3 1).abd 6) ((q3 1).abd 7) ((q3 1).abd 8) ((q3 1).abd 9) ((q3 1).abd 10) ((q3 1).abd 11) c (tD c (de c (dC c) l l.length) ms k))))) (λk=>ms.length-k) 0 Om Kr (by rw[aaC];kernel_rfl) (λk hk9=>?_)
 have hkk:=hk9
 have hgm:=ZG g1 hms k Om
 have hnk:80+k≤900:=by omega
 have hsk:=hms.a k
 have hsd:=hsk.d
 refine r0 [] [(41,.bool (decide ((k:Int)<(ms.length:Int))))] [] ?_
 refine cj (k:Int) (ms.length:Int) (λh11 dh11=>?_) λh11 dh11=>?_
 ·refine rr (λ_=>[(0,fF hq1.1 0 k 75),(1,nC VL hq1.1 0 k 0 75),(3,.s 6)]) (λq12=>[(11,pt (B2 q12) 0)]) [] (λq12 L=>L++[ob (B2 q12) (sV ((ms.getD k av).k) ((ms.getD k av).ln) ((ms.getD k av).d) ((ms.getD k av).m:Nat) ((ms.getD k av).f0) ((ms.getD k av).f1) ((ms.getD k av).f2) ((ms.getD k av).f3) ((ms.getD k av).f4) ((ms.getD k av).f5) ((ms.getD k av).f6) ((ms.getD k av).f7)) 50]) λq12=>?_
  refine r0 [(0,.v (pt (B2 q12) 0)),(1,.m (ld 6 (i6 ((ms.getD k av).k)))),(2,.v (.bool (((ms.getD k av).k)==8))),(3,.v (.bool (((ms.getD k av).k)==8))),(4,.v (pt (B2 q12) 67)),(5,.v (pt (B2 q12) 67)),(6,.m (ld 6 (i6 ((ms.getD k av).f0)))),(7,.v (.bool (((ms.getD k av).f0)==6))),(8,.v (.bool (((ms.getD k av).f0)==6))),(9,.v (pt (B2 q12) 67)),(10,.v (pt (B2 q12) 67)),(11,.m (ld 6 (i6 ((ms.getD k av).f0)))),(12,.v (.bool (((ms.getD k av).f0)==7)))] [(58,.bool ((((ms.getD k av).k)==8)&&((((ms.getD k av).f0)==6)||(((ms.getD k av).f0)==7))))] [] ?_
  refine cB ((((ms.getD k av).k)==8)&&((((ms.getD k av).f0)==6)||(((ms.getD k av).f0)==7))) (λh14=>?_) λh14=>?_
  ·refine r0 [(0,ad k 1)] [(40,i6 ((k+1:Nat):Int))] [40] ?_
   exact le (k+1) Om Om Kr [0,1,2,3,4,5] (by rw[ZF];(repeat (first | rw[h14] | rw[ALct]));kernel_rfl)
  refine rs [(1,.l 6),(2,.c [3] [3] (wR (B1 q3) ((q3 1).abd 1) ((q3 1).abd 2) ((q3 1).abd 3) ((q3 1).abd 4) ((q3 1).abd 5) ((q3 1).abd 6) ((q3 1).abd 7) ((q3 1).abd 8) ((q3 1).abd 9) ((q3 1).abd 10) ((q3 1).abd 11) c (tD c (de c (dC c) l l.length) ms k) _ hgm hnk (⟨((ms.getD k av).k),((ms.getD k av).ln),((ms.getD k av).d),((ms.getD k av).m),((ms.getD k av).f0),((ms.getD k av).f1),((ms.getD k av).f2),((ms.getD k av).f3),((ms.getD k av).f4),((ms.getD k av).f5),((ms.getD k av).f6),((ms.getD k av).f7)⟩:St) hsk))] 3 ((pk (br (B1 q3) ((q3 1).abd 1) ((q3 1).abd 2) ((q3 1).abd 3) ((q3 1).abd 4) ((q3 1).abd 5) ((q3 1).abd 6) ((q3 1).abd 7) ((q3 1).abd 8) ((q3 1).abd 9) ((q3 1).abd 10) ((q3 1).abd 11) c (eY c (tD c (de c (dC c) l l.length) ms k) (⟨((ms.getD k av).k),((ms.getD k av).ln),((ms.getD k av).d),((ms.getD k av).m),((ms.getD k av).f0),((ms.getD k av).f1),((ms.getD k av).f2),((ms.getD k av).f3),((ms.getD k av).f4),((ms.getD k av).f5),((ms.getD k av).f6),((ms.getD k av).f7)⟩:St))))) (r0 [(0,ad k 1)] [(40,i6 ((k+1:Nat):Int))] [40] ?_)
  exact le (k+1) Om Om Kr [0,1,2,3,4,5] (by rw[ZF];(repeat (first | rw[h14] | rw[ALcf]));kernel_rfl)
 obtain rfl:k=ms.length:=by omega
 refine lx ?_
 refine r0 [(1,.c [3] [3] (AJ (B1 q3) ((q3 1).abd 1) ((q3 1).abd 2) ((q3 1).abd 3) ((q3 1).abd 4) ((q3 1).abd 5) ((q3 1).abd 6) ((q3 1).abd 7) ((q3 1).abd 8) ((q3 1).abd 9) ((q3 1).abd 10) ((q3 1).abd 11) c (tD c (de c (dC c) l l.length) ms ms.length))),(2,.c [3] [3] (aao (B1 q3) ((q3 1).abd 1) ((q3 1).abd 2) ((q3 1).abd 3) ((q3 1).abd 4) ((q3 1).abd 5) ((q3 1).abd 6) ((q3 1).abd 7) ((q3 1).abd 8) ((q3 1).abd 9) ((q3 1).abd 10) ((q3 1).abd 11) c (tD c (de c (dC c) l l.length) ms ms.length) HDV))] [(65,.bool ((tD c (de c (dC c) l l.length) ms ms.length).x.V.l.any lV))] [] ?_
 refine cB ((tD c (de c (dC c) l l.length) ms ms.length).x.V.l.any lV) (λh19=>?_) λh19=>?_
 ·refine r0 [] [(6,.bool true)] [6] ?_
  exact am (.bool true) ab.zero (by(unfold Zw;(repeat (first | rw[h19] | rw[ALct]));done)) [] [(0,0),(1,1)] []
 refine r0 [(1,fC cu ((q6 1).val 0) (gv (de c (dC c) l l.length).x.s.r.m (de c (dC c) l l.length).x.s.r.m.R) 5)] [(66,((q6 1).val 0)),(67,i6 (((gv (de c (dC c) l l.length).x.s.r.m (de c (dC c) l l.length).x.s.r.m.R).length:Nat):Int)),(68,i6 0)] [] ?_
 refine lq (λj=>j≤(gv (de c (dC c) l l.length).x.s.r.m (de c (dC c) l l.length).x.s.r.m.R).length∧(∀i,i<j→((tD c (de c (dC c) l l.length) ms ms.length).x.V.l.drop (de c (dC c) l l.length).x.V.l.length).any (Zv (((gv (de c (dC c) l l.length).x.s.r.m (de c (dC c) l l.length).x.s.r.m.R).getD i 0:Nat):Int))=false)) (λj=>[(68,iN j)]) (λ_ L=>L) (λj=>((gv (de c (dC c) l l.length).x.s.r.m (de c (dC c) l l.length).x.s.r.m.R).length)-j) 0 ⟨by omega,(λ_ h=>absurd h (Nat.not_lt_zero _))⟩ Kr Kr (λj ⟨hk22,hw⟩=>?_)
 refine r0 [] [(69,.bool (decide ((j:Int)<(((gv (de c (dC c) l l.length).x.s.r.m (de c (dC c) l l.length).x.s.r.m.R).length:Nat):Int))))] [] ?_
 refine cj (j:Int) (((gv (de c (dC c) l l.length).x.s.r.m (de c (dC c) l l.length).x.s.r.m.R).length:Nat):Int) (λh24 dh24=>?_) λh24 dh24=>?_
 ·refine r0 [(0,cU cu ((q6 1).val 0) (gv (de c (dC c) l l.length).x.s.r.m (de c (dC c) l l.length).x.s.r.m.R) 5 j),(1,fg cu ((q6 1).val 0) (gv (de c (dC c) l l.length).x.s.r.m (de c (dC c) l l.length).x.s.r.m.R) 5 j 0)] [(13,i6 ((((gv (de c (dC c) l l.length).x.s.r.m (de c (dC c) l l.length).x.s.r.m.R).getD j 0):Nat):Int))] [] ?_
  refine rr (λ_=>[(3,.c [3] [3] (aas (B1 q3) ((q3 1).abd 1) ((q3 1).abd 2) ((q3 1).abd 3) ((q3 1).abd 4) ((q3 1).abd 5) ((q3 1).abd 6) ((q3 1).abd 7) ((q3 1).abd 8) ((q3 1).abd 9) ((q3 1).abd 10) ((q3 1).abd 11) c (tD c (de c (dC c) l l.length) ms ms.length) hn2 ((de c (dC c) l l.length).x.V.l.length) hn1 ((((gv (de c (dC c) l l.length).x.s.r.m (de c (dC c) l l.length).x.s.r.m.R).getD j 0):Nat):Int)))]) (λ_=>[(75,.bool (((tD c (de c (dC c) l l.length) ms ms.length).x.V.l.drop ((de c (dC c) l l.length).x.V.l.length)).any (Zv ((((gv (de c (dC c) l l.length).x.s.r.m (de c (dC c) l l.length).x.s.r.m.R).getD j 0):Nat):Int))))]) [] (λ_ L=>L.set 3 ((pk (br (B1 q3) ((q3 1).abd 1) ((q3 1).abd 2) ((q3 1).abd 3) ((q3 1).abd 4) ((q3 1).abd 5) ((q3 1).abd 6) ((q3 1).abd 7) ((q3 1).abd 8) ((q3 1).abd 9) ((q3 1).abd 10) ((q3 1).abd 11) c (tD c (de c (dC c) l l.length) ms ms.length))))) λq26=>?_
  refine cB (((tD c (de c (dC c) l l.length) ms ms.length).x.V.l.drop ((de c (dC c) l l.length).x.V.l.length)).any (Zv ((((gv (de c (dC c) l l.length).x.s.r.m (de c (dC c) l l.length).x.s.r.m.R).getD j 0):Nat):Int))) (λh27=>?_) λh27=>?_
  ·refine r0 [] [(6,.bool false)] [] ?_
   exact am (.bool false) ab.zero (by(unfold Zw;(repeat (first | rw[h19] | rw[ALcf]));rw[aaE (j:=j) Om As])) [] [(0,0),(1,1)] []
  refine r0 [(0,ad j 1)] [(68,i6 ((j+1:Nat):Int))] [68] ?_
  exact le (j+1) ⟨by omega,XQ hw As⟩ Om Kr [0,1,2,3,4,5] Kr
 refine lx ?_
 refine r0 [] [(6,.bool true)] [] ?_
 exact am (.bool true) ab.zero (by(unfold Zw;(repeat (first | rw[h19] | rw[ALcf]));rw[aaD (by(intro i hi;exact hw i Om))])) [] [(0,0),(1,1)] []
end Go.Proofs.YtbcodenfkijdnaaGreat.E
namespace Go.Proofs.YtbcodenfkijdnaaGreat.E
open Go Go.RowKit Go.Shelf
open Nat renaming add_comm→dZ,add_mul_mod_self_right→eF,add_mul_div_right→ir,div_eq_of_lt→jg,div_add_mod→jh,zero_add→jm
structure eM (r:Rp):Prop where
 inj: ∀i k,i<r.m.R*r.m.B*r.m.M-r.m.res→k<r.m.R*r.m.B*r.m.M-r.m.res→r.m.aa3.getD i 0=r.m.aa3.getD k 0→i=k
 ld: ∀i,i<r.m.R*r.m.B*r.m.M-r.m.res→r.m.aa4.getD (r.m.aa3.getD i 0) false=false
 lt: ∀i,i<r.m.R*r.m.B*r.m.M-r.m.res→r.m.aa3.getD i 0<r.m.R*r.m.B*r.m.M-r.m.res+r.m.aba
 nt: ∀i,i<r.m.R*r.m.B*r.m.M-r.m.res→r.j.aa2=1→r.m.aa3.getD i 0≠r.j.tg
 al: ∀p,p<r.m.R*r.m.B*r.m.M-r.m.res+r.m.aba→r.m.aa4.getD p false=false→(r.j.aa2=1∧p=r.j.tg)∨∃i,i<r.m.R*r.m.B*r.m.M-r.m.res∧r.m.aa3.getD i 0=p
 si: ∀a b,a<r.m.R→b<r.m.R→dM r.m a=true→r.m.aa5.getD a 0=r.m.aa5.getD b 0→a=b
 sl: ∀a,a<r.m.R→r.m.aa5.getD a 0<((r.m.R+r.m.abb:Nat):Int)
 st: ∀a,a<r.m.R→r.j.aa2=2→r.m.aa5.getD a 0≠(r.j.tg:Int)
theorem pY{m:Mp}{a:Nat}(h:dM m a=true):m.aa5.getD a 0≠ -1:=by unfold dM at h;simpa using h
theorem wW{R S B M C p0 p1 p2 p3 q0 q1 q2 q3:Nat}(hG:Sy R S B M C)(hp:gZ R S B M C p0 p1 p2 p3)(hq:gZ R S B M C q0 q1 q2 q3)(e:bJ p0 p1 p2 p3=bJ q0 q1 q2 q3):p0=q0∧p1=q1∧p2=q2∧p3=q3:=by
 have h1:=zw hG hp
 have h2:=zw hG hq
 rw[e] at h1
 exact⟨h1.1.symm.trans h2.1,h1.2.1.symm.trans h2.2.1,h1.2.2.1.symm.trans h2.2.2.1,h1.2.2.2.symm.trans h2.2.2.2⟩
theorem Yw{m:Mp}(h:eC m){p q:Nat}(hp:p<m.R*m.B*m.M)(hq:q<m.R*m.B*m.M)(e0:aF m.way m.R m.B m.M p=aF m.way m.R m.B m.M q)(e1:ed m.way m.R m.B m.M p=ed m.way m.R m.B m.M q)(e2:ec m.way m.R m.B m.M p=ec m.way m.R m.B m.M q):p=q:=by
 rw[←zx (way:=m.way) h.abc hp,←zx (way:=m.way) h.abc hq,e0,e1,e2]
theorem Yx{m:Mp}(h:eC m)(si: ∀a b,a<m.R→b<m.R→dM m a=true→m.aa5.getD a 0=m.aa5.getD b 0→a=b){p q:Nat}(e:gO m p=gO m q):aF m.way m.R m.B m.M p=aF m.way m.R m.B m.M q:=by
 have h1:=nP (p:=p) (way:=m.way) h.abc
 have h2:=nP (p:=q) (way:=m.way) h.abc
 unfold gO at e
 cases ha:dM m (aF m.way m.R m.B m.M p)
 ·cases hb:dM m (aF m.way m.R m.B m.M q)
  ·rw[ha,hb] at e;exact e
  ·rw[ha,hb,ALcf,ALct] at e
   have:=(h.sp _ h2).resolve_left (pY hb)
   omega
 ·cases hb:dM m (aF m.way m.R m.B m.M q)
  ·rw[ha,hb,ALcf,ALct] at e
   have:=(h.sp _ h1).resolve_left (pY ha)
   omega
  ·rw[ha,hb,ALct,ALct] at e
   have h3:=(h.sp _ h1).resolve_left (pY ha)
   have h4:=(h.sp _ h2).resolve_left (pY hb)
   exact si _ _ h1 h2 ha Om
theorem AW{C n k:Nat}(h:n/C=k/C)(g:n%C=k%C):n=k:=by rw[←jh n C,←jh k C,h,g]
theorem rl{m:Mp}(h:eC m)(si: ∀a b,a<m.R→b<m.R→dM m a=true→m.aa5.getD a 0=m.aa5.getD b 0→a=b){p q i k:Nat}(hp:p<m.R*m.B*m.M)(hq:q<m.R*m.B*m.M)(hi:i<m.C)(hk:k<m.C)(e:bD m p*64+i=bD m q*64+k):p=q∧i=k:=by
 rw[Av,Av] at e
 have h1:=qD h hp
 have h2:=qD h hq
 obtain⟨e0,e1,e2,e3⟩:=wW h.abc.bd ⟨h1.h0,h1.h1,h1.h2,hi⟩ ⟨h2.h0,h2.h1,h2.h2,hk⟩ e
 exact⟨Yw h hp hq (Yx h si e0) e1 e2,e3⟩
def lZ(m:Mp)(j:Jb)(n:Nat):Bool:=if j.aa2=1 then decide (ao m n=j.fr) else decide (aF m.way m.R m.B m.M (ao m n)=j.fr)
def ig(m:Mp)(j:Jb)(n:Nat):Nat:=if j.aa2=1 then n%m.C else fu m n
theorem H0{m:Mp}(h:eC m){n:Nat}(hn:n<(m.R*m.B*m.M-m.res)*m.C)(t:Nat):iQ m t (fu m n)=bJ t (ed m.way m.R m.B m.M (ao m n)) (ec m.way m.R m.B m.M (ao m n)) (n%m.C):=by
 have hi:=qH h hn
 have hc:=Nat.mod_lt n h.abc.bd.c1
 have e1:fu m n/m.C=ed m.way m.R m.B m.M (ao m n)*m.M+ec m.way m.R m.B m.M (ao m n):=by unfold fu;rw[dZ,ir _ _ h.abc.bd.c1,jg hc,jm]
 have e2:fu m n%m.C=n%m.C:=by unfold fu;rw[dZ,eF,Nat.mod_mod]
 have e3:(ed m.way m.R m.B m.M (ao m n)*m.M+ec m.way m.R m.B m.M (ao m n))/m.M=ed m.way m.R m.B m.M (ao m n):=by rw[dZ,ir _ _ h.abc.bd.m1,jg hi.h2,jm]
 have e4:(ed m.way m.R m.B m.M (ao m n)*m.M+ec m.way m.R m.B m.M (ao m n))%m.M=ec m.way m.R m.B m.M (ao m n):=by rw[dZ,eF,Nat.mod_eq_of_lt hi.h2]
 unfold iQ
 rw[e1,e2,e3,e4]
theorem wX{m:Mp}(h:eC m){r t i k:Nat}(hr:r<m.R+m.S)(ht:t<m.R+m.S)(hi:i<m.B*m.M*m.C)(hk:k<m.B*m.M*m.C)(e:iQ m r i=iQ m t k):r=t∧i=k:=by
 obtain⟨e0,e1,e2,e3⟩:=wW h.abc.bd (oJ h hr hi) (oJ h ht hk) e
 exact⟨e0,AW (C:=m.C) (AW (C:=m.M) e1 e2) e3⟩
section
variable {r:Rp}
theorem tV(h:aN r){n:Nat}(hn:n<(r.m.R*r.m.B*r.m.M-r.m.res)*r.m.C):n/r.m.C<r.m.R*r.m.B*r.m.M-r.m.res:=zB h.m hn
theorem oX(h:aN r)(hb:r.j.aa2≠0)(n:Nat):aH r.m r.j n=if lZ r.m r.j n=true then(if ig r.m r.j n<r.j.nx then aQ r.m r.j.aa2 r.j.tg (ig r.m r.j n) else cQ r.m n) else cQ r.m n:=by
 unfold aH lZ ig
 rcases th h hb with e | e
 ·rw[e];simp only[if_true,decide_eq_true_eq]
 ·rw[e];simp only[show ¬(2:Nat)=1 by decide,if_false,decide_eq_true_eq]
theorem pZ(h:aN r)(hb:r.j.aa2≠0){n:Nat}(hn:n<(r.m.R*r.m.B*r.m.M-r.m.res)*r.m.C):ig r.m r.j n<eK r.j.aa2 r.m.B r.m.M r.m.C:=by
 unfold ig
 rcases th h hb with e | e
 ·rw[e,ALifp rfl];exact Nat.mod_lt _ h.m.abc.bd.c1
 ·rw[e,ALifn Dc];exact td h.m hn
theorem Yz{m:Mp}{p fr:Nat}(e:aF m.way m.R m.B m.M p=fr)(h:dM m fr=false):gO m p=fr:=by unfold gO;rw[e,h,ALcf]
theorem wY(h:aN r)(hb:r.j.aa2≠0){n:Nat}(hn:n<(r.m.R*r.m.B*r.m.M-r.m.res)*r.m.C)(ho:lZ r.m r.j n=true):cQ r.m n=aQ r.m r.j.aa2 r.j.fr (ig r.m r.j n):=by
 unfold lZ at ho
 unfold ig
 rcases h.j.k with e | ⟨e,hj⟩ | ⟨e,hj⟩
 ·rw[e] at hb;exact absurd rfl hb
 ·rw[e,ALifp rfl] at ho
  rw[e,ALifp rfl]
  have ho:=of_decide_eq_true ho
  unfold cQ;rw[ho];rfl
 ·rw[e,ALifn Dc] at ho
  rw[e,ALifn Dc]
  have ho:=of_decide_eq_true ho
  show _=iQ r.m r.j.fr (fu r.m n)
  rw[H0 h.m hn,pI,Yz ho hj.hs]
end
end Go.Proofs.YtbcodenfkijdnaaGreat.E
namespace Go.Proofs.YtbcodenfkijdnaaGreat.E
open Go Go.RowKit Go.Shelf
open List renaming getD_eq_getElem?_getD→dZ,replicate→ir,getElem?_eq_getElem→jg,range→jh,getElem?_replicate→jm
open Nat renaming noConfusion→eF,not_lt_zero→jw
section
variable {r:Rp}
structure fS (r r':Rp):Prop where
 i:eM r'
 e: ∀n,n<(r.m.R*r.m.B*r.m.M-r.m.res)*r.m.C→aH r'.m r'.j n=aH r.m r.j n
theorem fS.rfl'(h:eM r):fS r r:=⟨h,λ_ _=>rfl⟩
theorem fS.tr{a b c:Rp}(h:fS a b)(g:fS b c)(l:eQ a.m b.m):fS a c:=⟨g.i,λn hn=>(g.e n (by rw[l.R,l.B,l.M,l.C,l.res];exact hn)).trans (h.e n hn)⟩
theorem H3(hI:eM r)(hk:r.j.aa2=0)(a:Ak):fS r (dn r a):=by
 have h0: ∀n,aH r.m r.j n=cQ r.m n:=λn=>by unfold aH;simp only[hk]
 have hal: ∀p,p<r.m.R*r.m.B*r.m.M-r.m.res+r.m.aba→r.m.aa4.getD p false=false→∃i,i<r.m.R*r.m.B*r.m.M-r.m.res∧r.m.aa3.getD i 0=p:=λp hp hd=>(hI.al p hp hd).resolve_left λq=>by rw[hk] at q;exact absurd q.1 Dc
 unfold dn
 cases a.k==1
 ·rw[ALcf]
  cases hp:eh r.m
  ·exact fS.rfl' hI
  ·rw[ALct]
   have hne:r.m.abb≠r.m.S:=by unfold eh at hp;simpa using hp
   have hf:ft r.m=r.m.R+r.m.abb:=by unfold ft;rw[ALifn hne]
   refine⟨⟨hI.inj,hI.ld,hI.lt,λ_ _ e=>absurd e (show ¬(2:Nat)=1 by decide),λp hp hd=> .inr (hal p hp hd),hI.si,λa ha=>?_,λa ha _=>?_⟩,λn _=>?_⟩
   ·have:=hI.sl a ha
    show r.m.aa5.getD a 0<((r.m.R+(r.m.abb+1):Nat):Int)
    omega
   ·have:=hI.sl a ha
    show r.m.aa5.getD a 0≠((ft r.m:Nat):Int)
    omega
   ·rw[h0]
    show(if aF r.m.way r.m.R r.m.B r.m.M (ao r.m n)=a.w then(if fu r.m n<0 then _ else cQ r.m n) else cQ r.m n)=_
    rw[ALifn (jw _),ite_self]
 ·rw[ALct]
  cases hp:dD r.m
  ·exact fS.rfl' hI
  ·rw[ALct]
   have hne:r.m.aba≠r.m.res:=by unfold dD at hp;simpa using hp
   have hf:dN r.m=r.m.R*r.m.B*r.m.M-r.m.res+r.m.aba:=by unfold dN;rw[ALifn hne]
   refine⟨⟨hI.inj,hI.ld,λi hi=>Nat.lt_succ_of_lt (hI.lt i hi),λi hi _=>?_,λp hp hd=>?_,hI.si,hI.sl,λ_ _ e=>absurd e (show ¬(1:Nat)=2 by decide)⟩,λn _=>?_⟩
   ·have:=hI.lt i hi
    show r.m.aa3.getD i 0≠dN r.m
    omega
   ·have hp:p<r.m.R*r.m.B*r.m.M-r.m.res+(r.m.aba+1):=hp
    by_cases e:p=dN r.m
    ·exact .inl ⟨rfl,e⟩
    ·exact .inr (hal p Om hd)
   ·rw[h0]
    show(if ao r.m n=a.w then(if n%r.m.C<0 then _ else cQ r.m n) else cQ r.m n)=_
    rw[ALifn (jw _),ite_self]
theorem H4(hI:eM r)(a:Ak):fS r (bp r a):=by
 unfold bp
 cases dh r a
 ·cases hk:r.j.aa2==0
  ·exact⟨⟨hI.inj,hI.ld,hI.lt,hI.nt,hI.al,hI.si,hI.sl,hI.st⟩,λ_ _=>rfl⟩
  ·exact H3 hI (by simpa using hk) a
 ·exact fS.rfl' hI
theorem H5(hI:eM r):eM (aX r):=⟨hI.inj,hI.ld,hI.lt,hI.nt,hI.al,hI.si,hI.sl,hI.st⟩
theorem YC{s:Rp×List Ev}(hI:eM s.1)(hk:s.1.j.aa2=0):fS s.1 (gP s).1:=by
 unfold gP
 cases dh (aX s.1) (s.1.q.headD aJ)
 ·have:=H3 (r:=aX s.1) (H5 hI) hk (s.1.q.headD aJ)
  exact⟨this.i,this.e⟩
 ·exact⟨H5 hI,λ_ _=>rfl⟩
theorem H6: ∀(n:Nat) (s:Rp×List Ev),eM s.1→fS s.1 (fc n s).1
 | 0,s,h=>fS.rfl' h
 | n+1,s,h=>by
  unfold fc
  split
  ·rename_i hk
   have h1:=YC h hk
   exact h1.tr (H6 n (gP s) h1.i) (Ad s)
  ·exact fS.rfl' h
theorem YD{l:List Nat}{h t i:Nat}(hi:i<l.length):(dG l h t l.length).getD i 0=if l.getD i 0=h then t else l.getD i 0:=by
 rw[QT,dZ,List.getElem?_map,jg hi,dZ,jg hi]
 rfl
theorem AY{α:Type}{l:List α}{i:Nat}{x d:α}(h:i<l.length):(l.set i x).getD i d=x:=by rw[dZ,List.getElem?_set,ALifp rfl,ALifp h];rfl
theorem YE(hI:eM r)(h:aN r)(hb:r.j.aa2≠0)(hx:r.j.nx=eK r.j.aa2 r.m.B r.m.M r.m.C):fS r (hZ r):=by
 rcases h.j.k with e | ⟨e,hj⟩ | ⟨e,hj⟩
 ·rw[e] at hb;exact absurd rfl hb
 ·have he:hZ r={r with m:=ky r.m r.j.fr r.j.tg,j:=kz}:=by unfold hZ;rw[e];rfl
  rw[he]
  have hl:r.m.aa3.length=r.m.R*r.m.B*r.m.M-r.m.res:=h.m.ll
  have hL: ∀i,i<r.m.R*r.m.B*r.m.M-r.m.res→(ky r.m r.j.fr r.j.tg).aa3.getD i 0=if r.m.aa3.getD i 0=r.j.fr then r.j.tg else r.m.aa3.getD i 0:=λi hi=>YD Om
  refine⟨⟨λi k hi hk g=>?_,λi hi=>?_,λi hi=>?_,λ_ _ q=>eF (show(0:Nat)=_ from q),λp hp hd=> .inr ?_,hI.si,hI.sl,λ_ _ q=>eF (show(0:Nat)=_ from q)⟩,λn hn=>?_⟩
  ·have g:(ky r.m r.j.fr r.j.tg).aa3.getD i 0=(ky r.m r.j.fr r.j.tg).aa3.getD k 0:=g
   have hi:i<r.m.R*r.m.B*r.m.M-r.m.res:=hi
   have hk:k<r.m.R*r.m.B*r.m.M-r.m.res:=hk
   rw[hL i hi,hL k hk] at g
   split at g
   ·rename_i e1
    split at g
    ·rename_i e2
     exact hI.inj i k hi hk (e1.trans e2.symm)
    ·exact absurd g.symm (hI.nt k hk e)
   ·split at g
    ·exact absurd g (hI.nt i hi e)
    ·exact hI.inj i k hi hk g
  ·have hi:i<r.m.R*r.m.B*r.m.M-r.m.res:=hi
   show(r.m.aa4.set r.j.fr true).getD ((ky r.m r.j.fr r.j.tg).aa3.getD i 0) false=false
   rw[hL i hi]
   split
   ·rw[getD_set_ne hj.ne];exact hj.dt
   ·rename_i e1
    rw[getD_set_ne (λq=>e1 q.symm)];exact hI.ld i hi
  ·have hi:i<r.m.R*r.m.B*r.m.M-r.m.res:=hi
   show(ky r.m r.j.fr r.j.tg).aa3.getD i 0<_
   rw[hL i hi]
   split
   ·exact hj.t1
   ·exact hI.lt i hi
  ·have hp:p<r.m.R*r.m.B*r.m.M-r.m.res+r.m.aba:=hp
   have hd:(r.m.aa4.set r.j.fr true).getD p false=false:=hd
   have hne:p≠r.j.fr:=by
    intro q
    rw[q,AY (by rw[h.m.ld];exact hj.hf)] at hd
    cases hd
   rw[getD_set_ne (λq=>hne q.symm)] at hd
   show ∃i,i<r.m.R*r.m.B*r.m.M-r.m.res∧(ky r.m r.j.fr r.j.tg).aa3.getD i 0=p
   rcases hI.al p hp hd with⟨_,q⟩ | ⟨i,hi,q⟩
   ·rcases hI.al r.j.fr hj.f1 hj.df with⟨_,q2⟩ | ⟨i,hi,q2⟩
    ·exact absurd q2 hj.ne
    ·exact⟨i,hi,by rw[hL i hi,ALifp q2,q]⟩
   ·exact⟨i,hi,by rw[hL i hi,ALifn (by rw[q];exact hne),q]⟩
  ·have an:=pZ h hb hn
   rw[oX h hb]
   show cQ (ky r.m r.j.fr r.j.tg) n=_
   have hh:ao (ky r.m r.j.fr r.j.tg) n=if ao r.m n=r.j.fr then r.j.tg else ao r.m n:=hL _ (tV h hn)
   unfold lZ ig at*
   rw[e,ALifp rfl] at an
   rw[e,ALifp rfl,ALifp rfl,hx,e,ALifp an]
   unfold cQ
   rw[hh]
   by_cases q:ao r.m n=r.j.fr
   ·rw[ALifp q,ALifp (cC q)];rfl
   ·rw[ALifn q,ALifn (by simpa using q)];rfl
 ·have he:hZ r={r with m:=jz r.m r.j.fr r.j.tg,j:=kz}:=by unfold hZ;rw[e];rfl
  rw[he]
  have hl:r.m.aa5.length=r.m.R:=h.m.ls
  have hS: ∀a,(jz r.m r.j.fr r.j.tg).aa5.getD a 0=if a=r.j.fr then(r.j.tg:Int) else r.m.aa5.getD a 0:=λa=>by
   show(r.m.aa5.set r.j.fr (r.j.tg:Int)).getD a 0=_
   by_cases q:a=r.j.fr
   ·rw[ALifp q,q,AY (by rw[hl];exact hj.hf)]
   ·rw[ALifn q,getD_set_ne (λz=>q z.symm)]
  have h0:=hj.t0;have h1:=hj.t1
  refine⟨⟨hI.inj,hI.ld,hI.lt,λ_ _ q=>eF (show(0:Nat)=_ from q),λp hp hd=> .inr ((hI.al p hp hd).resolve_left λq=>by rw[e] at q;exact absurd q.1 Dc),λa b ha hb' hs g=>?_,λa ha=>?_,λ_ _ q=>eF (show(0:Nat)=_ from q)⟩,λn hn=>?_⟩
  ·have ha:a<r.m.R:=ha
   have hb':b<r.m.R:=hb'
   have g:(jz r.m r.j.fr r.j.tg).aa5.getD a 0=(jz r.m r.j.fr r.j.tg).aa5.getD b 0:=g
   rw[hS a,hS b] at g
   split at g
   ·rename_i e1
    split at g
    ·rename_i e2;rw[e1,e2]
    ·exact absurd g.symm (hI.st b hb' e)
   ·rename_i e1
    split at g
    ·exact absurd g (hI.st a ha e)
    ·refine hI.si a b ha hb' ?_ g
     have hs:(!((jz r.m r.j.fr r.j.tg).aa5.getD a 0== -1))=true:=hs
     rw[hS a,ALifn e1] at hs
     exact hs
  ·have ha:a<r.m.R:=ha
   show(jz r.m r.j.fr r.j.tg).aa5.getD a 0<((r.m.R+r.m.abb:Nat):Int)
   rw[hS a]
   split
   ·omega
   ·exact hI.sl a ha
  ·have an:=pZ h hb hn
   rw[oX h hb]
   show cQ (jz r.m r.j.fr r.j.tg) n=_
   have hR:gO (jz r.m r.j.fr r.j.tg) (ao r.m n)=if aF r.m.way r.m.R r.m.B r.m.M (ao r.m n)=r.j.fr then r.j.tg else gO r.m (ao r.m n):=by
    show(bif (!((jz r.m r.j.fr r.j.tg).aa5.getD (aF r.m.way r.m.R r.m.B r.m.M (ao r.m n)) 0== -1)) then((jz r.m r.j.fr r.j.tg).aa5.getD (aF r.m.way r.m.R r.m.B r.m.M (ao r.m n)) 0).toNat else aF r.m.way r.m.R r.m.B r.m.M (ao r.m n))=_
    rw[hS]
    split
    ·rw[show(((r.j.tg:Nat):Int)== -1)=false by rw[dp];omega];rfl
    ·rfl
   unfold lZ ig at*
   rw[e,ALifn (show ¬(2:Nat)=1 by decide)] at an
   rw[e,ALifn (show ¬(2:Nat)=1 by decide),ALifn (show ¬(2:Nat)=1 by decide),hx,e,ALifp an]
   rw[pI]
   show bJ (gO (jz r.m r.j.fr r.j.tg) (ao r.m n)) (ed r.m.way r.m.R r.m.B r.m.M (ao r.m n)) (ec r.m.way r.m.R r.m.B r.m.M (ao r.m n)) (n%r.m.C)=_
   rw[hR]
   by_cases q:aF r.m.way r.m.R r.m.B r.m.M (ao r.m n)=r.j.fr
   ·rw[ALifp q,ALifp (cC q)];exact(H0 h.m hn _).symm
   ·rw[ALifn q,ALifn (by simpa using q),pI]
theorem H7(hI:eM r):eM (bv r):=⟨hI.inj,hI.ld,hI.lt,hI.nt,hI.al,hI.si,hI.sl,hI.st⟩
theorem H8(hI:eM r)(h:aN r)(hb:r.j.aa2≠0)(hx:r.j.nx<eK r.j.aa2 r.m.B r.m.M r.m.C):fS (bv r) (eT r).1:=by
 have hn:=qL h hb hx
 unfold eT
 cases hd:kU r.m (bv r).j
 ·exact fS.rfl' (H7 hI)
 ·unfold kU at hd
  rw[Bool.and_eq_true] at hd
  have h2:=YE (H7 hI) hn hb (of_decide_eq_true hd.2)
  exact h2.tr (H6 _ (ae (bv r)) h2.i) (Ab (bv r))
end
theorem YG{s:Le}(hI:eM s.r)(rank home w:Nat)(x:Re):fS s.r (gy s rank home w x).r:=by
 unfold gy
 cases dH s.k.lp (dI s.k.t home).l w
 ·exact fS.rfl' hI
 ·exact H4 (r:=s.r) hI _
theorem H9{s:Le}(hI:eM s.r)(rank home w:Nat)(x:Re):fS s.r (fm s rank home w x).r:=by
 have h1:=YG hI rank home w x
 unfold fm
 cases dH s.k.lr (s.k.abb.getD rank bA).l w
 ·exact h1
 ·exact h1.tr (H4 (r:=(gy s rank home w x).r) h1.i _) (tq s rank home w x)
theorem Ia{s:Le}(hI:eM s.r)(heavy:Nat)(n:Nt):fS s.r (dE heavy s n).r:=by
 unfold dE
 split
 ·exact fS.rfl' hI
 split
 ·exact H9 hI _ _ _ _
 split
 ·exact fS.rfl' hI
 ·exact H9 hI _ _ _ _
theorem YH{R S B M C way res:Nat}(h:res<R*B*M):eM ⟨lO R S B M C way res,kz,[]⟩:=by
 have hl: ∀i,i<R*B*M-res→(jh (R*B*M-res)).getD i 0=i:=λi hi=>by rw[dZ,List.getElem?_range hi];rfl
 have hs: ∀a,a<R→(ir R (-1:Int)).getD a 0= -1:=λa ha=>by rw[dZ,jm,ALifp ha];rfl
 refine⟨λi k hi hk e=>?_,λi hi=>?_,λi hi=>?_,λ_ _ q=>eF (show(0:Nat)=_ from q),λp hp hd=> .inr ⟨p,hp,hl p hp⟩,λa b ha hb hsa _=>?_,λa ha=>?_,λ_ _ q=>eF (show(0:Nat)=_ from q)⟩
 ·have e:(jh (R*B*M-res)).getD i 0=(jh (R*B*M-res)).getD k 0:=e
  rwa [hl i hi,hl k hk] at e
 ·show(ir (R*B*M) false).getD _ false=false
  rw[dZ,jm]
  split<;>rfl
 ·show(jh (R*B*M-res)).getD i 0<R*B*M-res+0
  rw[hl i hi];exact hi
 ·exact absurd (hs a ha) (pY hsa)
 ·show(ir R (-1:Int)).getD a 0<((R+0:Nat):Int)
  rw[hs a ha];omega
end Go.Proofs.YtbcodenfkijdnaaGreat.E
namespace Go.Proofs.YtbcodenfkijdnaaGreat.E
open Go Go.RowKit Go.Shelf
structure wZ (a:Ac):Prop where
 s:lV a=false
 e:a.ex≤1
structure gA (c:Cf) (x:Ct) (id:Int→List UInt8):Prop where
 rp:eM x.s.r
 gh: ∀n,n<gR c→x.V.aa7 ((aA x n:Nat):Int)=fd c.mode (id (n:Int)) ((aA x n:Nat):Int) false
 mz: ∀n,n<gR c→x.V.aa9 ((aA x n:Nat):Int)=0
section
variable {c:Cf} {x:Ct} {K A:Nat} {id:Int→List UInt8}
theorem bC.ln(h:bC c x K A){n:Nat}(hn:n<gR c):n<(x.s.r.m.R*x.s.r.m.B*x.s.r.m.M-x.s.r.m.res)*x.s.r.m.C:=by rw[h.ly.R,h.ly.B,h.ly.M,h.ly.C,h.ly.res];exact hn
theorem YL{a:Ac}(h:lV a=false):a.dr=false∧a.wt=a.ix:=by
 unfold lV at h
 rw[Bool.or_eq_false_iff] at h
 exact⟨h.1,by simpa using h.2⟩
end
end Go.Proofs.YtbcodenfkijdnaaGreat.E
namespace Go.Proofs.YtbcodenfkijdnaaGreat.E
open Go Go.RowKit Go.Shelf
open Nat renaming div_add_mod'→dZ,add_comm→eF
structure CbA (a:Ac):Prop where
 s:lV a=false
 e:a.ex≤1
 m:a.mr=false
structure CtD (F:List Fa) (x:Ct):Prop where
 cl: ∀i,x.V.D.cells i=x.V.aa7 i
 la:x.V.D.aa8=F
 co:x.V.D.aa6=[]
section
variable {c:Cf} {F:List Fa} {x:Ct} {K A:Nat} {id:Int→List UInt8}
theorem aaH(h:bC c x K A)(hI:eM x.s.r)(hb:x.s.r.j.aa2≠0)(hu:mC x=true): ∃n,n<gR c∧aA x n=k9 x:=by
 have hr:=h.s.r
 have hx:=h.run hb
 have hC:=hr.m.abc.bd.c1
 unfold mC at hu
 rw[Bool.and_eq_true] at hu
 have h1:=of_decide_eq_true hu.1
 have h2:x.s.r.m.aa4.getD (cN x.s.r) false=false:=by simpa using hu.2
 obtain⟨i,hi,hl⟩: ∃i,i<x.s.r.m.R*x.s.r.m.B*x.s.r.m.M-x.s.r.m.res∧x.s.r.m.aa3.getD i 0=cN x.s.r:=by
  rcases hI.al _ h1 h2 with⟨k1,e⟩ | h3
  ·exfalso
   unfold cN at e
   rw[ALifp k1] at e
   rcases hr.j.k with e2 | ⟨_,hj⟩ | ⟨e2,hj⟩
   ·rw[e2] at hb;exact absurd rfl hb
   ·exact hj.ne e
   ·omega
  ·exact h3
 have hoff:x.s.r.j.nx%x.s.r.m.C<x.s.r.m.C:=Nat.mod_lt _ hC
 have hn:i*x.s.r.m.C+x.s.r.j.nx%x.s.r.m.C<(x.s.r.m.R*x.s.r.m.B*x.s.r.m.M-x.s.r.m.res)*x.s.r.m.C:=by
  have:(i+1)*x.s.r.m.C≤(x.s.r.m.R*x.s.r.m.B*x.s.r.m.M-x.s.r.m.res)*x.s.r.m.C:=Nat.mul_le_mul_right _ hi
  rw[Nat.add_mul] at this
  omega
 have e1:(i*x.s.r.m.C+x.s.r.j.nx%x.s.r.m.C)/x.s.r.m.C=i:=by rw[eF,Nat.add_mul_div_right _ _ hC,Nat.div_eq_of_lt hoff,Nat.zero_add]
 have e2:(i*x.s.r.m.C+x.s.r.j.nx%x.s.r.m.C)%x.s.r.m.C=x.s.r.j.nx%x.s.r.m.C:=by rw[eF,Nat.add_mul_mod_self_right,Nat.mod_mod]
 have e3:ao x.s.r.m (i*x.s.r.m.C+x.s.r.j.nx%x.s.r.m.C)=cN x.s.r:=by unfold ao;rw[e1];exact hl
 refine⟨i*x.s.r.m.C+x.s.r.j.nx%x.s.r.m.C,?_,?_⟩
 ·have:=hn
  rw[h.ly.R,h.ly.B,h.ly.M,h.ly.C,h.ly.res] at this
  rw[h.ly.C]
  exact this
 generalize hN:i*x.s.r.m.C+x.s.r.j.nx%x.s.r.m.C=n at hn e1 e2 e3
 have ho:lZ x.s.r.m x.s.r.j n=true∧ig x.s.r.m x.s.r.j n=x.s.r.j.nx:=by
  unfold lZ ig
  unfold cN at e3
  rcases hr.j.k with e4 | ⟨e4,hj⟩ | ⟨e4,hj⟩
  ·rw[e4] at hb;exact absurd rfl hb
  ·rw[ALifp e4] at e3⊢
   rw[e4] at hx
   have hx:x.s.r.j.nx<x.s.r.m.C:=hx
   rw[ALifp e4,e2,Nat.mod_eq_of_lt hx]
   exact⟨cC e3,rfl⟩
  ·have e5: ¬x.s.r.j.aa2=1:=by omega
   rw[ALifn e5] at e3⊢
   rw[ALifn e5]
   rw[e4] at hx
   have hg:=oJ hr.m (r:=x.s.r.j.fr) (i:=x.s.r.j.nx) (by have:=hj.hf;omega) hx
   have hp:=aad (way:=x.s.r.m.way) hr.m.abc hj.hf hg.h1 hg.h2
   unfold fu
   rw[e3,hp.1,hp.2.1,hp.2.2,e2]
   refine⟨cC rfl,?_⟩
   rw[dZ (x.s.r.j.nx/x.s.r.m.C) x.s.r.m.M,dZ x.s.r.j.nx x.s.r.m.C]
 show aH x.s.r.m x.s.r.j n=_
 rw[oX hr hb,ALifp ho.1,ho.2,ALifn (Nat.lt_irrefl _),wY hr hb hn ho.1,ho.2]
 rfl
end
end Go.Proofs.YtbcodenfkijdnaaGreat.E
namespace Go.Proofs.YtbcodenfkijdnaaGreat.E
open Go Go.RowKit Go.Shelf
open Nat renaming add_comm→dZ,add_mul_mod_self_right→eF,add_mul_div_right→ir,mul_le_mul_right→jg,div_eq_of_lt→jw,mod_eq_of_lt→ka,zero_add→kP
open List renaming append_assoc→jh,not_mem_nil→jm
def tK(m:Mp)(i:Nat):Prop:=(∃p k,p<m.R*m.B*m.M∧m.aa4.getD p false=true∧k<m.C∧i=bD m p*64+k)∨(∃r k,r<m.R∧dM m r=true∧k<m.B*m.M*m.C∧i=iQ m r k)
theorem ZK(m:Mp): ∀k,k≤m.R*m.B*m.M→∀i∈zK m k,tK m i
 | 0,_,i,hi=>absurd hi jm
 | k+1,hk,i,hi=>by
  rw[ZI] at hi
  cases e:m.aa4.getD k false
  ·rw[e,ALcf] at hi;exact ZK m k Om i hi
  ·rw[e,ALct] at hi
   rcases List.mem_append.1 hi with hi | hi
   ·exact ZK m k Om i hi
   ·obtain⟨z,hz,rfl⟩:=List.mem_map.1 hi
    exact .inl ⟨k,z,by omega,e,List.mem_range.1 hz,rfl⟩
theorem ZL(m:Mp): ∀k,k≤m.R→∀i∈gv m k,tK m i
 | 0,_,i,hi=>ZK m _ (Nat.le_refl _) i hi
 | k+1,hk,i,hi=>by
  rw[ZE] at hi
  cases e:dM m k
  ·rw[e,ALcf] at hi;exact ZL m k Om i hi
  ·rw[e,ALct] at hi
   rcases List.mem_append.1 hi with hi | hi
   ·exact ZL m k Om i hi
   ·obtain⟨z,hz,rfl⟩:=List.mem_map.1 hi
    exact .inr ⟨k,z,by omega,e,List.mem_range.1 hz,rfl⟩
section
variable {r:Rp}
theorem ZW(h:aN r)(p:Nat):(dM r.m (aF r.m.way r.m.R r.m.B r.m.M p)=false∧gO r.m p=aF r.m.way r.m.R r.m.B r.m.M p)∨(dM r.m (aF r.m.way r.m.R r.m.B r.m.M p)=true∧r.m.R≤gO r.m p∧(gO r.m p:Int)=r.m.aa5.getD (aF r.m.way r.m.R r.m.B r.m.M p) 0):=by
 unfold gO
 cases e:dM r.m (aF r.m.way r.m.R r.m.B r.m.M p)
 ·exact .inl ⟨rfl,rfl⟩
 ·have:=(h.m.sp _ (nP (p:=p) (way:=r.m.way) h.m.abc)).resolve_left (pY e)
  rw[ALct]
  exact .inr ⟨rfl,by omega,by omega⟩
theorem ZX(hI:eM r)(h:aN r){p k:Nat}(hp:p<r.m.R*r.m.B*r.m.M)(hd:r.m.aa4.getD p false=false)(hk:k<r.m.C): ¬tK r.m (bD r.m p*64+k):=by
 rintro (⟨q,k',hq,hqd,hk',e⟩ | ⟨a,k',ha,hs,hk',e⟩)
 ·obtain⟨rfl,_⟩:=rl h.m hI.si hp hq hk hk' e
  rw[hd] at hqd;cases hqd
 ·have h1:=qD h.m hp
  have h2:bJ _ _ _ _=bJ _ _ _ _:=(Av r.m p k).symm.trans e
  obtain⟨e0,_⟩:=wW h.m.abc.bd ⟨h1.h0,h1.h1,h1.h2,hk⟩ (oJ h.m (r:=a) (i:=k') Om hk') h2
  rcases ZW h p with⟨g1,g2⟩ | ⟨g1,g2,_⟩
  ·rw[←g2,e0,hs] at g1;cases g1
  ·omega
theorem ZY(hI:eM r)(h:aN r)(hb:r.j.aa2≠0){i:Nat}(hi:i<eK r.j.aa2 r.m.B r.m.M r.m.C): ¬tK r.m (aQ r.m r.j.aa2 r.j.tg i):=by
 rcases h.j.k with e | ⟨e,hj⟩ | ⟨e,hj⟩
 ·rw[e] at hb;exact absurd rfl hb
 ·rw[e] at hi⊢
  exact ZX hI h hj.ht hj.dt hi
 ·rw[e] at hi⊢
  have h1:=hj.t1;have h2:=h.m.rk;have h0:=hj.t0
  have hx:=oJ h.m (r:=r.j.tg) (i:=i) Om hi
  rintro (⟨q,k',hq,hqd,hk',e2⟩ | ⟨a,k',ha,hs,hk',e2⟩)
  ·have g:=qD h.m hq
   have e3:bJ _ _ _ _=bJ _ _ _ _:=(show iQ r.m r.j.tg i=_ from e2).trans (Av r.m q k')
   obtain⟨e0,_⟩:=wW h.m.abc.bd hx ⟨g.h0,g.h1,g.h2,hk'⟩ e3
   have hl:=nP (p:=q) (way:=r.m.way) h.m.abc
   rcases ZW h q with⟨g1,g2⟩ | ⟨g1,g2,g3⟩
   ·omega
   ·exact hI.st _ hl e Om
  ·have:=(wX h.m (r:=r.j.tg) (t:=a) Om Om hi hk' e2).1
   omega
theorem aaI(hI:eM r)(h:aN r){n:Nat}(hn:n<(r.m.R*r.m.B*r.m.M-r.m.res)*r.m.C): ¬tK r.m (aH r.m r.j n):=by
 have h0: ¬tK r.m (cQ r.m n):=ZX hI h (nR h.m hn) (hI.ld _ (tV h hn)) (Nat.mod_lt _ h.m.abc.bd.c1)
 by_cases hb:r.j.aa2=0
 ·unfold aH;rw[hb];exact h0
 ·rw[oX h hb]
  split
  ·split
   ·exact ZY hI h hb (pZ h hb hn)
   ·exact h0
  ·exact h0
theorem ZZ{a:Ak}{i:Nat}(hi:tK r.m i):tK (dn r a).m i:=by
 unfold dn
 cases a.k==1<;>cases dD r.m<;>cases eh r.m<;>exact hi
theorem Z0{a:Ak}{i:Nat}(hi:tK r.m i):tK (bp r a).m i:=by
 unfold bp
 cases dh r a
 ·cases r.j.aa2==0
  ·exact hi
  ·exact ZZ hi
 ·exact hi
theorem aaJ(h:aN r)(hb:r.j.aa2≠0){i:Nat}(hi:tK r.m i):tK (hZ r).m i:=by
 rcases h.j.k with e | ⟨e,hj⟩ | ⟨e,hj⟩
 ·rw[e] at hb;exact absurd rfl hb
 ·have he:(hZ r).m=ky r.m r.j.fr r.j.tg:=by unfold hZ;rw[e];rfl
  rw[he]
  rcases hi with⟨p,k,hp,hd,hk,rfl⟩ | ⟨a,k,ha,hs,hk,rfl⟩
  ·refine .inl ⟨p,k,hp,?_,hk,rfl⟩
   show(r.m.aa4.set r.j.fr true).getD p false=true
   by_cases q:r.j.fr=p
   ·rw[q,AY (by rw[h.m.ld];exact hp)]
   ·rw[getD_set_ne q];exact hd
  ·exact .inr ⟨a,k,ha,hs,hk,rfl⟩
 ·have he:(hZ r).m=jz r.m r.j.fr r.j.tg:=by unfold hZ;rw[e];rfl
  rw[he]
  have hl:r.m.aa5.length=r.m.R:=h.m.ls
  have hS: ∀a,a≠r.j.fr→(jz r.m r.j.fr r.j.tg).aa5.getD a 0=r.m.aa5.getD a 0:=λa q=>by
   show(r.m.aa5.set r.j.fr (r.j.tg:Int)).getD a 0=_
   rw[getD_set_ne (λz=>q z.symm)]
  have hF:dM (jz r.m r.j.fr r.j.tg) r.j.fr=true:=by
   show(!((r.m.aa5.set r.j.fr (r.j.tg:Int)).getD r.j.fr 0== -1))=true
   rw[AY (by rw[hl];exact hj.hf),show(((r.j.tg:Nat):Int)== -1)=false by rw[dp];omega];rfl
  rcases hi with⟨p,k,hp,hd,hk,rfl⟩ | ⟨a,k,ha,hs,hk,rfl⟩
  ·have hpi:=pG (way:=r.m.way) h.m.abc hp
   by_cases q:aF r.m.way r.m.R r.m.B r.m.M p=r.j.fr
   ·have hC:=h.m.abc.bd.c1;have hM:=h.m.abc.bd.m1
    have e1:ed r.m.way r.m.R r.m.B r.m.M p*r.m.M+ec r.m.way r.m.R r.m.B r.m.M p<r.m.B*r.m.M:=by
     have:(ed r.m.way r.m.R r.m.B r.m.M p+1)*r.m.M≤r.m.B*r.m.M:=jg _ hpi.h1
     rw[Nat.add_mul] at this
     have:=hpi.h2
     omega
    have e2:(ed r.m.way r.m.R r.m.B r.m.M p*r.m.M+ec r.m.way r.m.R r.m.B r.m.M p+1)*r.m.C≤r.m.B*r.m.M*r.m.C:=jg _ e1
    rw[Nat.add_mul] at e2
    refine .inr ⟨r.j.fr,(ed r.m.way r.m.R r.m.B r.m.M p*r.m.M+ec r.m.way r.m.R r.m.B r.m.M p)*r.m.C+k,hj.hf,hF,by show _<r.m.B*r.m.M*r.m.C;omega,?_⟩
    show bD r.m p*64+k=iQ r.m r.j.fr _
    have e3:((ed r.m.way r.m.R r.m.B r.m.M p*r.m.M+ec r.m.way r.m.R r.m.B r.m.M p)*r.m.C+k)/r.m.C=ed r.m.way r.m.R r.m.B r.m.M p*r.m.M+ec r.m.way r.m.R r.m.B r.m.M p:=by rw[dZ,ir _ _ hC,jw hk,kP]
    have e4:((ed r.m.way r.m.R r.m.B r.m.M p*r.m.M+ec r.m.way r.m.R r.m.B r.m.M p)*r.m.C+k)%r.m.C=k:=by rw[dZ,eF,ka hk]
    have e5:(ed r.m.way r.m.R r.m.B r.m.M p*r.m.M+ec r.m.way r.m.R r.m.B r.m.M p)/r.m.M=ed r.m.way r.m.R r.m.B r.m.M p:=by rw[dZ,ir _ _ hM,jw hpi.h2,kP]
    have e6:(ed r.m.way r.m.R r.m.B r.m.M p*r.m.M+ec r.m.way r.m.R r.m.B r.m.M p)%r.m.M=ec r.m.way r.m.R r.m.B r.m.M p:=by rw[dZ,eF,ka hpi.h2]
    unfold iQ
    rw[e3,e4,e5,e6,Av,Yz q hj.hs]
   ·refine .inl ⟨p,k,hp,hd,hk,?_⟩
    have e1:gO (jz r.m r.j.fr r.j.tg) p=gO r.m p:=by
     show(bif (!((jz r.m r.j.fr r.j.tg).aa5.getD (aF r.m.way r.m.R r.m.B r.m.M p) 0== -1)) then((jz r.m r.j.fr r.j.tg).aa5.getD (aF r.m.way r.m.R r.m.B r.m.M p) 0).toNat else aF r.m.way r.m.R r.m.B r.m.M p)=_
     rw[hS _ q];rfl
    show _=(gO (jz r.m r.j.fr r.j.tg) p*16384+ed r.m.way r.m.R r.m.B r.m.M p*1024+ec r.m.way r.m.R r.m.B r.m.M p)*64+k
    rw[e1];rfl
  ·refine .inr ⟨a,k,ha,?_,hk,rfl⟩
   by_cases q:a=r.j.fr
   ·rw[q];exact hF
   ·show(!((jz r.m r.j.fr r.j.tg).aa5.getD a 0== -1))=true
    rw[hS a q];exact hs
theorem aaK{s:Rp×List Ev}{i:Nat}(hi:tK s.1.m i):tK (gP s).1.m i:=by
 unfold gP
 cases dh (aX s.1) (s.1.q.headD aJ)
 ·exact ZZ (r:=aX s.1) hi
 ·exact hi
theorem Z1: ∀(n:Nat) (s:Rp×List Ev) {i:Nat},tK s.1.m i→tK (fc n s).1.m i
 | 0,s,i,h=>h
 | n+1,s,i,h=>by
  unfold fc
  split
  ·exact Z1 n (gP s) (aaK h)
  ·exact h
theorem aaL(h:aN r)(hb:r.j.aa2≠0)(hx:r.j.nx<eK r.j.aa2 r.m.B r.m.M r.m.C){i:Nat}(hi:tK r.m i):tK (eT r).1.m i:=by
 unfold eT
 cases kU r.m (bv r).j
 ·exact hi
 ·exact Z1 _ (ae (bv r)) (aaJ (r:=bv r) (qL h hb hx) hb hi)
end
theorem aaM{s:Le}(rank home w:Nat)(x:Re){i:Nat}(hi:tK s.r.m i):tK (gy s rank home w x).r.m i:=by
 unfold gy
 cases dH s.k.lp (dI s.k.t home).l w
 ·exact hi
 ·exact Z0 (r:=s.r) hi
theorem Z2{s:Le}(rank home w:Nat)(x:Re){i:Nat}(hi:tK s.r.m i):tK (fm s rank home w x).r.m i:=by
 have h1:=aaM rank home w x hi
 unfold fm
 cases dH s.k.lr (s.k.abb.getD rank bA).l w
 ·exact h1
 ·exact Z0 (r:=(gy s rank home w x).r) h1
theorem aaN{s:Le}(heavy:Nat)(n:Nt){i:Nat}(hi:tK s.r.m i):tK (dE heavy s n).r.m i:=by
 unfold dE
 split
 ·exact hi
 split
 ·exact Z2 _ _ _ _ hi
 split
 ·exact hi
 ·exact Z2 _ _ _ _ hi
def vv(p:Ac→Prop)(l l':List Ac):Prop:=∃m,l'=l++m∧∀a∈m,p a
theorem vv.rfl'(p:Ac→Prop)(l:List Ac):vv p l l:=⟨[],(List.append_nil l).symm,λa ha=>absurd ha jm⟩
theorem vv.one{p:Ac→Prop}{l l':List Ac}(h:vv p l l'){a:Ac}(ha:p a):vv p l (l'++[a]):=by
 obtain⟨m,e,hm⟩:=h
 exact⟨m++[a],by rw[e,jh],λb hb=>(List.mem_append.1 hb).elim (hm b) λe=>by rw[List.mem_singleton.1 e];exact ha⟩
theorem vv.tr{p:Ac→Prop}{a b c:List Ac}(h:vv p a b)(g:vv p b c):vv p a c:=by
 obtain⟨m,rfl,hm⟩:=h
 obtain⟨n,rfl,hn⟩:=g
 exact⟨m++n,jh ..,λx hx=>(List.mem_append.1 hx).elim (hm x) (hn x)⟩
structure zD (S:Nat→Prop) (x:Ct):Prop where
 rp:eM x.s.r
 gn: ∀i,S i→tK x.s.r.m i
def Zr(S:Nat→Prop)(a:Ac):Prop:=∀i:Nat,S i→a.ix≠(i:Int)
section
variable {S:Nat→Prop} {c:Cf} {x:Ct} {K A:Nat}
theorem zD.no(h:zD S x){i:Nat}(hi: ¬tK x.s.r.m i){a:Ac}(ha:a.ix=(i:Int)):Zr S a:=λk hk e=>hi (by
 have:i=k:=by omega
 rw[this];exact h.gn k hk)
theorem zD.tak(h:zD S x)(i hm r:Nat):zD S (bY c x i hm r):=⟨(Ia (s:=x.s) h.rp c.heavy (m9 c x i hm r)).i,λk hk=>aaN (s:=x.s) c.heavy _ (h.gn k hk)⟩
theorem zD.rt(h:zD S x)(hc:bC c x K A){n:Nat}(hn:n<gR c){a:Ac}(ha:a.ix=((aA x n:Nat):Int)):Zr S a:=h.no (aaI h.rp hc.s.r (hc.ln hn)) ha
theorem zD.rea(h:zD S x)(hc:bC c x K A){n:Nat}(hn:n<gR c)(b:Bool):zD S (cy c x n b)∧vv (Zr S) x.V.l (cy c x n b).V.l:=by
 have h1:=h.tak (c:=c) (aA x n) (kD x n) (kE x n)
 have h2:vv (Zr S) x.V.l (iC c x n).V.l:=(vv.rfl' _ _).one (h.rt hc hn rfl)
 unfold cy
 cases (((bq c x (aA x n):Nat):Int)==1)&&b
 ·exact⟨⟨h1.rp,h1.gn⟩,h2⟩
 ·exact⟨⟨h1.rp,h1.gn⟩,h2.one (h.rt hc hn rfl)⟩
theorem zD.msk(h:zD S x)(hc:bC c x K A){n:Nat}(hn:n<gR c)(l:List UInt8)(m:Nat):zD S (bF c x n l m)∧vv (Zr S) x.V.l (bF c x n l m).V.l:=by
 have h1:=h.tak (c:=c) (aA x n) (kD x n) (kE x n)
 have h2:vv (Zr S) x.V.l (iC c x n).V.l:=(vv.rfl' _ _).one (h.rt hc hn rfl)
 unfold bF
 cases (m:Int)==0
 ·cases decide (pc m=64)
  ·cases !(b6 (bq c x (aA x n))==0)
   ·exact⟨⟨h1.rp,h1.gn⟩,h2.one (h.rt hc hn rfl)⟩
   ·exact⟨⟨h1.rp,h1.gn⟩,h2.one (h.rt hc hn rfl)⟩
  ·exact⟨⟨h.rp,h.gn⟩,(vv.rfl' _ _).one (h.rt hc hn rfl)⟩
 ·exact⟨⟨h.rp,h.gn⟩,vv.rfl' _ _⟩
theorem zD.cpy(h:zD S x)(hc:bC c x K A)(hb:x.s.r.j.aa2≠0)(hK:K+260≤1000000000):zD S (ic c x)∧vv (Zr S) x.V.l (ic c x).V.l:=by
 have h0:=G5 hc hb Om
 have hto: ∀{a:Ac},a.ix=((oR x:Nat):Int)→Zr S a:=λha=>h.no (ZY h.rp hc.s.r hb (hc.run hb)) ha
 have key:zD S (fK c x)∧vv (Zr S) x.V.l (fK c x).V.l:=by
  unfold fK
  cases hu:mC x
  ·exact⟨⟨h.rp,h.gn⟩,(vv.rfl' _ _).one (hto rfl)⟩
  ·obtain⟨n,hn,e⟩:=aaH hc h.rp hb hu
   have h1:=h.tak (c:=c) (k9 x) (cN x.s.r) (dF x.s.r)
   have h2:vv (Zr S) x.V.l (wq c x).V.l:=(vv.rfl' _ _).one (h.rt hc hn (by rw[e];rfl))
   exact⟨⟨h1.rp,h1.gn⟩,h2.one (hto rfl)⟩
 have hb':(fK c x).s.r.j.aa2≠0:=by rw[h0.2.1];exact hb
 refine⟨⟨(H8 key.1.rp h0.1.s.r hb' (h0.1.run hb')).i,λi hi=>aaL h0.1.s.r hb' (h0.1.run hb') (key.1.gn i hi)⟩,key.2⟩
end
theorem Z3{S:Nat→Prop}{c:Cf}{x:Mc}{K A N:Nat}(h:d8 c x K A N)(s:St)(hK:K+260≤1000000000)(hg:zD S x.x):zD S (eY c x s).x∧vv (Zr S) x.x.V.l (eY c x s).x.V.l:=by
 have h00:=vv.rfl' (Zr S) x.x.V.l
 unfold eY
 by_cases hR:sR s=true
 ·rw[ALifp hR]
  by_cases h4:s.k=4
  ·rw[ALifp h4]
   exact zD.rea (x:=jP c x.x) ⟨hg.rp,hg.gn⟩ (AC h.ct) h.ct.cur true
  rw[ALifn h4]
  by_cases h5:s.k=5
  ·rw[ALifp h5]
   by_cases hb:x.x.s.r.j.aa2=0
   ·rw[ALifp hb];exact⟨hg,h00⟩
   ·rw[ALifn hb];exact hg.cpy h.ct hb hK
  rw[ALifn h5]
  by_cases h6:s.k=6
  ·rw[ALifp h6];exact⟨⟨hg.rp,hg.gn⟩,h00⟩
  rw[ALifn h6]
  by_cases h7:s.k=7
  ·rw[ALifp h7];exact⟨⟨hg.rp,hg.gn⟩,h00⟩
  rw[ALifn h7]
  by_cases h8:s.k=8
  ·rw[ALifp h8];exact⟨⟨hg.rp,hg.gn⟩,h00⟩
  rw[ALifn h8]
  unfold ie
  by_cases hb:bQ s.ln ((gR c:Nat):Int)=true
  ·rw[ALifp hb]
   have hn:s.ln.toNat<gR c:=Hm hb
   split
   ·exact hg.rea h.ct hn _
   ·split
    ·exact hg.msk h.ct hn _ _
    ·split<;>exact hg.msk h.ct hn _ _
  ·rw[ALifn hb];exact⟨hg,h00⟩
 ·rw[ALifn hR];exact⟨hg,h00⟩
theorem aaO{c:Cf}(hc:dd c):zD (λ_=>False) (dC c).x:=⟨YH hc.ly.rp,λi hi=>hi.elim⟩
theorem Z4{c:Cf}(hc:dd c){l:List St}(hs:oW l): ∀k,k≤900→zD (λ_=>False) (de c (dC c) l k).x
 | 0,_=>aaO hc
 | k+1,hk=>(Z3 (tS (GM.start hc) hs k Om).ok _ Om (Z4 hc hs k Om)).1
theorem Z5{S:Nat→Prop}{c:Cf}{x:Mc}{n:Nat}(h:GM c x n)(hx:zD S x.x){l:List St}(hs:oW l): ∀k,n+k≤900→zD S (tD c x l k).x∧vv (Zr S) x.x.V.l (tD c x l k).x.V.l
 | 0,_=>⟨hx,vv.rfl' _ _⟩
 | k+1,hk=>by
  have h1:=Z5 h hx hs k Om
  have hg:=ZG h hs k Om
  rw[ZF]
  cases ((l.getD k av).k==8)&&(((l.getD k av).f0==6)||((l.getD k av).f0==7))
  ·have h2:=Z3 hg.ok (l.getD k av) Om h1.1
   exact⟨h2.1,h1.2.tr h2.2⟩
  ·exact h1
theorem aaP{c:Cf}(hc:dd c){l ms:List St}(hs:oW l)(hms:oW ms)(hl:l.length≤80)(hm:ms.length≤40):Zw c (de c (dC c) l l.length) ms=true:=by
 have g1:=tS (GM.start hc) hs l.length Om
 have h1:=Z4 hc hs l.length Om
 generalize hX:de c (dC c) l l.length=X at g1 h1
 have h2:=Z5 (S:=λi=>i∈gv X.x.s.r.m X.x.s.r.m.R) g1 ⟨h1.rp,λi hi=>ZL _ _ (Nat.le_refl _) i hi⟩ hms ms.length Om
 obtain⟨m,e,hm2⟩:=h2.2
 unfold Zw
 cases ha:(tD c X ms ms.length).x.V.l.any lV
 ·rw[ALcf]
  refine List.all_eq_true.2 λi hi=>?_
  have hany:((tD c X ms ms.length).x.V.l.drop X.x.V.l.length).any (Zv (i:Int))=false:=by
   rw[e,List.drop_left]
   refine List.any_eq_false.2 λa hma=>?_
   have h3:lV a=false:=by
    have:=List.any_eq_false.1 ha a (by rw[e];exact List.mem_append_right _ hma)
    simpa using this
   obtain⟨h4,h5⟩:=YL h3
   have h6:(a.ix==(i:Int))=false:=by rw[dp];exact hm2 a hma i hi
   show ¬(((a.ix==(i:Int))||((!(a.dr))&&(a.wt==(i:Int))))=true)
   rw[h5,h6,h4];simp
  rw[hany];rfl
 ·rfl
end Go.Proofs.YtbcodenfkijdnaaGreat.E
namespace Go.Proofs.YtbcodenfkijdnaaGreat.E
open Go Go.ChangeShapes Go.WideShapes Go.RowKit Go.Shelf
open List renaming replicate→dZ,take_append_drop→eF,length_append→ir
theorem eq.split{l m:List iO}{cs:List Value}(h:eq (l++m) cs):eq l (cs.take l.length)∧eq m (cs.drop l.length):=by
 obtain⟨h1,h2⟩:=h
 rw[ir] at h1
 refine⟨⟨by rw[List.length_take];omega,λi lf hi=>?_⟩,⟨by rw[List.length_drop];omega,λi lf hi=>?_⟩⟩
 ·have hl:i<l.length:=(List.getElem?_eq_some_iff.1 hi).1
  obtain⟨v,e1,e2⟩:=h2 i lf (by rw[List.getElem?_append_left hl];exact hi)
  exact⟨v,by rw[List.getElem?_take_of_lt hl];exact e1,e2⟩
 ·obtain⟨v,e1,e2⟩:=h2 (l.length+i) lf (by rw[List.getElem?_append_right (Nat.le_add_right _ _),Nat.add_sub_cancel_left];exact hi)
  exact⟨v,by rw[List.getElem?_drop];exact e1,e2⟩
theorem eq.one{f:iO}{ls:List iO}{cs:List Value}(h:eq (f::ls) cs): ∃v vs,cs=v::vs∧ET f v∧eq ls vs:=by
 obtain⟨h1,h2⟩:=h
 cases cs with
 | nil=>simp at h1
 | cons v vs=>
  obtain⟨u,e1,e2⟩:=h2 0 f rfl
  obtain rfl:v=u:=by simpa using e1
  exact⟨v,vs,rfl,e2,by simpa using h1,λi lf hi=>by simpa using h2 (i+1) lf (by rw[List.getElem?_cons_succ];exact hi)⟩
theorem Io: ∀(n:Nat) (cs:List Value),eq (dZ n (.int .u8)) cs→∃d:List UInt8,d.length=n∧cs=d.map λb=>Value.int .u8 (b.toNat:Int)
 | 0,cs,h=>⟨[],rfl,by have:=h.1;simp at this;simpa using this⟩
 | n+1,cs,h=>by
  obtain⟨v,vs,rfl,⟨z,rfl,hz⟩,h2⟩:=eq.one (by rw[List.replicate_succ] at h;exact h)
  obtain⟨d,h3,rfl⟩:=Io n vs h2
  have hb:=bounds_u8 hz
  refine⟨UInt8.ofNat z.toNat::d,by rw[List.length_cons,h3],?_⟩
  rw[List.map_cons,show((UInt8.ofNat z.toNat).toNat:Int)=z by rw[UInt8.toNat_ofNat'];omega]
theorem Y3{l:List Int}(h:l.length=8): ∃a b c d e f g i,l=[a,b,c,d,e,f,g,i]:=by
 match l,h with
 | [a,b,c,d,e,f,g,i],_=>exact⟨a,b,c,d,e,f,g,i,rfl⟩
def stLs:List iO:=dZ 2 (.int .i64)++(dZ 64 (.int .u8)++(.int .u64::dZ 8 (.int .i64)))
theorem Y4{cs:List Value}(h:eq stLs cs): ∃s:St,cs=eSt s∧StOk s:=by
 obtain⟨h1,h2⟩:=eq.split h
 obtain⟨h3,h4⟩:=eq.split h2
 obtain⟨v,vs,e5,⟨m,e6,hm⟩,h7⟩:=eq.one h4
 obtain⟨zs,l1,e1,_⟩:=vE 2 _ h1
 obtain⟨d,l2,e2⟩:=Io 64 _ h3
 obtain⟨fs,l3,e3,_⟩:=vE 8 _ h7
 have hb:=bounds_u64 hm
 obtain⟨a,b,c,i,e,f,g,j,rfl⟩:=Y3 l3
 match zs,l1 with
 | [k,ln],_=>
  refine⟨⟨k,ln,d,m.toNat,a,b,c,i,e,f,g,j⟩,?_,⟨l2,by show m.toNat<_;omega⟩⟩
  have e8:cs=cs.take 2++cs.drop 2:=(eF 2 cs).symm
  have e9:cs.drop 2=(cs.drop 2).take 64++(cs.drop 2).drop 64:=(eF 64 _).symm
  have e1:cs.take 2=[i6 k,i6 ln]:=e1
  have e2:(cs.drop 2).take 64=d.map λb=>Value.int .u8 (b.toNat:Int):=e2
  have e5:(cs.drop 2).drop 64=v::vs:=e5
  rw[e8,e9,e1,e2,e5,e6,e3]
  show _=[i6 k,i6 ln]++rB 64 d++_
  rw[xC l2,show(m:Int)=((m.toNat:Nat):Int) by omega]
  rfl
theorem rows_st: ∀(rows:List (List Value)),(∀r∈rows,eq stLs r)→∃L:List St,rows=L.map eSt∧∀s∈L,StOk s
 | [],_=>⟨[],rfl,λs hs=>absurd hs List.not_mem_nil⟩
 | r::rows,h=>by
  obtain⟨L,e1,e2⟩:=rows_st rows λx hx=>h x (List.mem_cons_of_mem _ hx)
  obtain⟨s,e3,e4⟩:=Y4 (h r List.mem_cons_self)
  exact⟨s::L,by rw[e1,e3];rfl,λy hy=>(List.mem_cons.1 hy).elim (λe=>e▸e4) (e2 y)⟩
theorem sts_ok{l:List St}(h: ∀s∈l,StOk s):oW l:=⟨λk=>by
 rw[List.getD_eq_getElem?_getD]
 cases hk:l[k]? with
 | none=>exact⟨List.length_replicate,by show(0:Nat)<_;decide⟩
 | some a=>exact h a (List.mem_of_getElem? hk)⟩
def cfLs:List iO:=dZ 15 (.int .i64)++[.bool]
theorem cells_cfg{cs:List Value}(h:eq cfLs cs): ∃(r s b m c way res mode lr er lp ep room heavy log:Int) (back:Bool),cs=[i6 r,i6 s,i6 b,i6 m,i6 c,i6 way,i6 res,i6 mode,i6 lr,i6 er,i6 lp,i6 ep,i6 room,i6 heavy,i6 log,.bool back]:=by
 obtain⟨h1,h2⟩:=eq.split h
 obtain⟨v,vs,e1,⟨q,e2⟩,h3⟩:=eq.one h2
 obtain⟨zs,l1,e4,_⟩:=vE 15 _ h1
 have h5:vs=[]:=List.length_eq_zero_iff.1 h3.1
 match zs,l1 with
 | [r,s,b,m,c,way,res,mode,lr,er,lp,ep,room,heavy,log],_=>
  refine⟨r,s,b,m,c,way,res,mode,lr,er,lp,ep,room,heavy,log,q,?_⟩
  have e8:cs=cs.take 15++cs.drop 15:=(eF 15 cs).symm
  have e4:cs.take 15=_:=e4
  have e1:cs.drop 15=_:=e1
  rw[e8,e4,e1,e2,h5]
  rfl
theorem st_sq{A:Option Addr}{n k:Nat}{L:List St}{w:World}(hl:L.length=n)(hk:n≤k)(hr:pF 75 w A (L.map eSt)): ∃bs,Has bs w∧aK eSt (.slice A n k) L bs:=by
 obtain⟨bs,h1,h2⟩:=Qk (en:=eSt) (k:=75) (c:=k) (λs=>by unfold eSt;rw[ir,ir,Jw];rfl) Dc hr hl
 exact⟨bs,h1,h2,A,k-n,by rw[hl,Nat.add_sub_cancel' hk]⟩
theorem aa.belowT{P:Program}{f:FuncId}{args:Array Value}{u:Value}{T:aw→Prop}{bs:aw}(h:aa P f args [.p T,.p (λbs=>bs=[])] [] N0 (λ_=>u))(w:World)(hh:Has bs w)(ht:T bs):Calls P f args w λe w'=>e= .returned u∧Below w.heap.size w w':=by
 refine(callsIn_wide (n:=6)).1 ((callsIn_wide.2 (h.out w [bs,[]] ⟨ht,rfl,trivial⟩ (by simpa using hh))).mono ?_)
 rintro e w' ⟨E,ds,rfl,h1,h2⟩
 exact⟨rfl,h2.os,h2.tape,h2.output,h2.size,λb hb=>h2.far b hb (by simp)⟩
theorem gone_con(r s b m c way res mode lr er lp ep room heavy log:Int)(back:Bool)(v u:Value)(l ms:List St)(hls:oW l)(hms:oW ms):aa Tryz.prog 10 #[.agg #[i6 r,i6 s,i6 b,i6 m,i6 c,i6 way,i6 res,i6 mode,i6 lr,i6 er,i6 lp,i6 ep,i6 room,i6 heavy,i6 log,.bool back],v,u] [.p (λbs=>aK eSt v l bs∧aK eSt u ms bs),.p (λbs=>bs=[])] [] N0 (λ_=> .bool true):=by
 cases h:m0 r s b m c way res mode lr er lp ep room heavy log
 ·exact aay r s b m c way res mode lr er lp ep room heavy log back h v u l ms
 ·obtain⟨q,rfl,rfl,rfl,rfl,rfl,rfl,rfl,rfl,rfl,rfl,rfl,rfl,rfl,rfl,rfl,rfl,hq⟩:=Tw back h
  cases hs:oT q
  ·exact aaz q hq hs v u l ms
  ·by_cases hl:l.length≤80
   ·by_cases hm:ms.length≤40
    ·have h1:=aaF q hq hs v u l ms hl hm hls hms
     rwa [aaP hq hls hms hl hm] at h1
    ·exact aaB q hq hs v u l ms hl Om
   ·exact aaA q hq hs v u l ms Om
end Go.Proofs.YtbcodenfkijdnaaGreat.E
namespace Go.Proofs.YtbcodenfkijdnaaGreat
open Go Go.ChangeShapes Go.WideShapes Go.RowKit Go.Shelf
theorem WholeGone_any(r s b m c way res mode lr er lp ep room heavy log:Int)(back:Bool)(A:Option Addr)(n k:Nat)(L:List E.St)(hl:L.length=n)(hk:n≤k)(hs: ∀s∈L,E.StOk s)(A2:Option Addr)(n2 k2:Nat)(L2:List E.St)(hl2:L2.length=n2)(hk2:n2≤k2)(hs2: ∀s∈L2,E.StOk s)(w:World)(hr:pF 75 w A (L.map E.eSt))(hr2:pF 75 w A2 (L2.map E.eSt)):
  Calls Tryz.prog 10 #[.agg #[.int .i64 r,.int .i64 s,.int .i64 b,.int .i64 m,.int .i64 c,.int .i64 way,.int .i64 res,.int .i64 mode,.int .i64 lr,.int .i64 er,.int .i64 lp,.int .i64 ep,.int .i64 room,.int .i64 heavy,.int .i64 log,.bool back],.slice A n k,.slice A2 n2 k2] w
   λe w'=>e= .returned (.bool true)∧Below w.heap.size w w':=by
 obtain⟨bs,h1,h2⟩:=E.st_sq hl hk hr
 obtain⟨bs2,h3,h4⟩:=E.st_sq hl2 hk2 hr2
 obtain⟨cs,h5,h6,h7⟩:=E.Has.join h1 h3
 exact(E.gone_con r s b m c way res mode lr er lp ep room heavy log back _ _ L L2 (E.sts_ok hs) (E.sts_ok hs2)).belowT w h5 ⟨⟨E.SrE.mono h2.1 h6,h2.2⟩,⟨E.SrE.mono h4.1 h7,h4.2⟩⟩
end Go.Proofs.YtbcodenfkijdnaaGreat
