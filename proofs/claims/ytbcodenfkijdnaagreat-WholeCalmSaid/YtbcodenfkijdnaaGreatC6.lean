/- WholeCalm, in 7 texts: part 6. For every input; no condition. -/
import Derived.Test.YtbcodenfkijdnaaGreatC5
set_option linter.unusedVariables false
set_option linter.unusedSimpArgs false
set_option maxRecDepth 100000
namespace Go.Proofs.YtbcodenfkijdnaaGreat.E
open Go Go.RowKit Go.Shelf
open Go.Proofs.Tryz renaming prog→Zz
open Nat renaming le_mul_of_pos_right→ZA,le_trans→ZB
theorem Xp{j k:Nat}(hk:k≤j)(h:(((2^j:Nat):Int)==((2^k:Nat):Int))=false):k+1≤j:=by
 rcases Nat.lt_or_ge k j with h1 | h1
 ·exact h1
 ·obtain rfl:k=j:=Nat.le_antisymm hk h1
  simp at h
theorem Hv{j k most:Nat}(hk:k≤j)(h:2^j≤most):((2^k:Nat):Int)≤(most:Int):=by
 have:=Nat.pow_le_pow_right (n:=2) Dc hk
 omega
theorem Xq(j most:Nat)(h:2^j≤most)(hm:most≤1024):aa Zz 111 #[i6 ((2^j:Nat):Int),iN most] [] [] N0 (λ_=> .bool true):=by
 refine fG Tryz.func111 λw cs=>?_
 refine r0 [] [(4,.bool false)] [] (r0 [] [(5,i6 1)] [] ?_)
 refine lq (λk=>k≤j) (λk=>[(5,i6 ((2^k:Nat):Int))]) (λ_ L=>L) (λk=>j-k) 0 Om Kr Kr (λk hk3=>?_)
 have hkj:=hk3
 have hpl:=Hv hkj h
 refine rT [(2,.t (tk (show Value.bool (decide (((2^k:Nat):Int)≤(most:Int)))= .bool true from ALca Value.bool (by exact cC (Hv As h)))))] 8 (r0 [] [(13,.bool (((2^j:Nat):Int)==((2^k:Nat):Int)))] [] ?_)
 refine cZ ((2^j:Nat):Int) ((2^k:Nat):Int) (λh6 dh6=>?_) λh6 dh6=>?_
 ·refine r0 [] [(4,.bool true)] [] ?_
  exact lf ab.zero [] [] []
 refine r0 [(1,ml (2^k) 2)] [(5,i6 (((2^k)*2:Nat):Int))] [5] ?_
 have hst:k+1≤j:=Xp As As
 exact le (k+1) Om Om Kr [] Kr
theorem Xr{n most:Nat}(hm:most≤1024)(h:fJ (n:Int) (most:Int)=true): ∃j,n=2^j∧2^j≤most:=by
 have h1:=EY Om h
 have h2:=mT h
 simp only[List.mem_cons,List.not_mem_nil,or_false] at h1
 have key: ∀j,n=2^j→∃j,n=2^j∧2^j≤most:=λj e=>⟨j,e,by rw[←e];omega⟩
 rcases h1 with h | h | h | h | h | h | h | h | h | h | h
 ·exact key 0 h
 ·exact key 1 h
 ·exact key 2 h
 ·exact key 3 h
 ·exact key 4 h
 ·exact key 5 h
 ·exact key 6 h
 ·exact key 7 h
 ·exact key 8 h
 ·exact key 9 h
 ·exact key 10 h
theorem wQ(n most:Nat)(hm:most≤1024)(h:fJ (n:Int) (most:Int)=true):aa Zz 111 #[iN n,iN most] [] [] N0 (λ_=> .bool true):=by
 obtain⟨j,rfl,h2⟩:=Xr hm h
 exact Xq j most h2 hm
structure Xs (R S B M C:Nat):Prop where
 r:fJ (R:Int) 8=true
 b:fJ (B:Int) 16=true
 m:fJ (M:Int) 1024=true
 c:fJ (C:Int) 64=true
theorem cM.p{R S B M C:Nat}(h:cM R S B M C):Xs R S B M C:=by
 have h:=h.ok
 unfold jx at h
 simp only[Bool.and_eq_true,decide_eq_true_eq] at h
 obtain⟨⟨⟨⟨⟨⟨h1,h2⟩,h3⟩,h4⟩,h5⟩,h6⟩,h7⟩:=h
 exact⟨h1,h4,h5,h6⟩
theorem Xu(R S B M C:Nat)(hG:cM R S B M C):aa Zz 80 #[.agg #[iN R,iN S,iN B,iN M,iN C]] [] [] N0 (λ_=> .bool true):=by
 have hP:=hG.p
 have hb5:=hG.bd
 have h8:=hb5.r8
 have h16:=hb5.b16
 have h10:=hb5.m10
 have h64:=hb5.c64
 have hal:=hb5.all
 have hq2:(R+S)*B*M≤4096:=ZB (ZA _ hb5.c1) hal
 have hq1:(R+S)*B≤4096:=ZB (ZA _ hb5.m1) hq2
 refine fG Tryz.func80 λw cs=>?_
 refine ra (λq1=>[(1,pt (B0 q1) 0),(2,.bool false)]) (λq1=>[ob (B0 q1) #[iN R,iN S,iN B,iN M,iN C] 170]) λq1=>rF [(1,.m (ld 0 (iN R))),(2,.c [] [] (wQ R 8 Om (by exact hP.r))),(6,.m (ld 0 (iN B))),(7,.c [] [] (wQ B 16 Om (by exact hP.b))),(12,.m (ld 0 (iN M))),(13,.c [] [] (wQ M 1024 Om (by exact hP.m))),(18,.m (ld 0 (iN C))),(19,.c [] [] (wQ C 64 Om (by exact hP.c))),(24,.m (ld 0 (iN S))),(25,.t (tk (show Value.bool (decide ((S:Int)<0))= .bool false from ALca Value.bool (by exact bj Om)))),(29,.m (ld 0 (iN S))),(31,.m (ld 0 (iN R))),(32,sI 8 ((R:Int)) Om),(33,.t (tk (show Value.bool (decide ((8-(R:Int))<(S:Int)))= .bool false from ALca Value.bool (by exact bj Om))))] 37 (r0 [(1,.m (ld 0 (iN R))),(3,.m (ld 0 (iN S))),(4,ad R S),(6,.m (ld 0 (iN B))),(7,ml (R+S) B),(9,.m (ld 0 (iN M))),(10,ml ((R+S)*B) M),(12,.m (ld 0 (iN C))),(13,ml (((R+S)*B)*M) C),] [(2,.bool (decide ((((((R+S)*B)*M)*C:Nat):Int)≤4096)))] [2] ?_)
 exact am (.bool (decide ((((((R+S)*B)*M)*C:Nat):Int)≤4096))) ab.zero (by exact ALca Value.bool (cC Om)) [] [] []
theorem Xv(r s b m c way res mode lr er lp ep room heavy log:Int)(back:Bool)(h:m0 r s b m c way res mode lr er lp ep room heavy log=false):aa Zz 47 #[.agg #[i6 r,i6 s,i6 b,i6 m,i6 c,i6 way,i6 res,i6 mode,i6 lr,i6 er,i6 lp,i6 ep,i6 room,i6 heavy,i6 log,.bool back]] [] [] N0 (λ_=> .bool false):=by
 refine fG Tryz.func47 λw cs=>?_
 exact ra (λq1=>[(1,pt (B0 q1) 0),(2,.bool false)]) (λq1=>[ob (B0 q1) #[i6 r,i6 s,i6 b,i6 m,i6 c,i6 way,i6 res,i6 mode,i6 lr,i6 er,i6 lp,i6 ep,i6 room,i6 heavy,i6 log,.bool back] 31]) λq1=>rr (λ_=>[(2,.l 0),(4,.s 1)]) (λq2=>[(3,pt (B3 q2) 0)]) [] (λq2 L=>L++[ob (B3 q2) #[i6 r,i6 s,i6 b,i6 m,i6 c] 23]) λq2=>r0 [(0,.m (ls 0 ([i6 r,i6 s,i6 b,i6 m,i6 c,i6 way,i6 res,i6 mode,i6 lr,i6 er,i6 lp,i6 ep,i6 room,i6 heavy,i6 log,.bool back]))),(1,.c [] [] (aa.v ((F6 r s b m c way res mode lr er lp ep room heavy log back)) λ_=>ALca Value.bool (show(m0 r s b m c way res mode lr er lp ep room heavy log)=false from(by exact h)))),(3,.d),(4,.d),(7,.d),(8,.d),(9,.d),(10,.d),(11,.d),(12,.d),(13,.d),(14,.d),(15,.d),(16,.d),(17,.d),(18,.d),(19,.d),(20,.d),(21,.d)] [(2,.bool false)] [2] (lf ab.zero [] [] [])
theorem Hw(c:Cf)(hcf:dd c):aa Zz 47 #[.agg (cA c)] [] [] N0 (λ_=> .bool (decide ((((((c.R+c.S)*c.B)*c.M)*c.C:Nat):Int)≤100))):=by
 have hG:=hcf.ZJ
 have hb5:=hG.bd
 have h8:=hb5.r8
 have hal:=hb5.all
 have hq2:(c.R+c.S)*c.B*c.M≤4096:=ZB (ZA _ hb5.c1) hal
 have hq1:(c.R+c.S)*c.B≤4096:=ZB (ZA _ hb5.m1) hq2
 refine fG Tryz.func47 λw cs=>?_
 exact ra (λq1=>[(1,pt (B0 q1) 0),(2,.bool false)]) (λq1=>[ob (B0 q1) (cA c) 31]) λq1=>rr (λ_=>[(2,.l 0),(4,.s 1)]) (λq2=>[(3,pt (B3 q2) 0)]) [] (λq2 L=>L++[ob (B3 q2) #[iN c.R,iN c.S,iN c.B,iN c.M,iN c.C] 23]) λq2=>r0 [(0,.m (ls 0 ([iN c.R,iN c.S,iN c.B,iN c.M,iN c.C,iN c.way,iN c.res,iN c.mode,iN c.lr,iN c.er,iN c.lp,iN c.ep,iN c.room,iN c.heavy,iN c.log,.bool c.back]))),(1,.c [] [] (z4 c hcf)),(3,.m (ls 1 ([iN c.R,iN c.S,iN c.B,iN c.M,iN c.C]))),(4,.c [] [] (Xu c.R c.S c.B c.M c.C hG)),(8,.m (ld 1 (iN c.R))),(10,.m (ld 1 (iN c.S))),(11,ad c.R c.S),(13,.m (ld 1 (iN c.B))),(14,ml (c.R+c.S) c.B),(16,.m (ld 1 (iN c.M))),(17,ml ((c.R+c.S)*c.B) c.M),(19,.m (ld 1 (iN c.C))),(20,ml (((c.R+c.S)*c.B)*c.M) c.C),] [(2,.bool (decide ((((((c.R+c.S)*c.B)*c.M)*c.C:Nat):Int)≤100)))] [2] (lf ab.zero [] [] [])
def oT(c:Cf):Bool:=decide ((c.R+c.S)*c.B*c.M*c.C≤100)
theorem Xw(r s b m c way res mode lr er lp ep room heavy log:Int)(back:Bool)(h:m0 r s b m c way res mode lr er lp ep room heavy log=false):aa Zz 12 #[.agg #[i6 r,i6 s,i6 b,i6 m,i6 c,i6 way,i6 res,i6 mode,i6 lr,i6 er,i6 lp,i6 ep,i6 room,i6 heavy,i6 log,.bool back]] [] [] N0 (λ_=> .pointer none):=by
 refine fG Tryz.func12 λw cs=>?_
 exact ra (λq1=>[(1,pt (B0 q1) 0),(2,.pointer none)]) (λq1=>[ob (B0 q1) #[i6 r,i6 s,i6 b,i6 m,i6 c,i6 way,i6 res,i6 mode,i6 lr,i6 er,i6 lp,i6 ep,i6 room,i6 heavy,i6 log,.bool back] 31]) λq1=>rT [(0,.l 0),(1,.c [] [] (Xv r s b m c way res mode lr er lp ep room heavy log back h))] 7 (r0 [] [(2,.pointer none)] [2] (lf ab.zero [] [] []))
theorem Hx(x:Int):aa Zz 173 #[i6 x] [] [] N0 (λ_=> .agg (rB 3 ([aO x,aO (x/256),(aO (x/65536))&&& (127:UInt8)])).toArray):=by
 refine fG Tryz.func173 λw cs=>?_
 exact ra (λq1=>[(2,pt (B0 q1) 0)]) (λq1=>[ob (B0 q1) (rB 3 (List.replicate 3 0)).toArray 262]) λq1=>rs [(1,.t (tc (k:= .i64) (l:= .u8) (a:=i6 x) λ_ _ _ hS hT=>oY hS hT)),(3,.t (tv (ar .shr 3 (.tmp 5) (.const (u6 8)) (i6 x) (u6 8)) (λ_=>i8 8 Dc))),(4,.t (tc (k:= .i64) (l:= .u8) (a:=i6 (x/256)) λ_ _ _ hS hT=>oY hS hT)),(6,.t (tv (ar .shr 3 (.tmp 8) (.const (u6 16)) (i6 x) (u6 16)) (λ_=>i8 16 Dc))),(7,.t (tc (k:= .i64) (l:= .u8) (a:=i6 (x/65536)) λ_ _ _ hS hT=>oY hS hT)),(8,.t (tb (a:=u1 ((aO (x/65536)).toNat:Int)) (b:=u1 127) λ_ _ _ _=>xz (aO (x/65536)) ((127:UInt8)))),(10,.s 0)] 0 (ob (B0 q1) (rB 3 ([aO x,aO (x/256),(aO (x/65536))&&& (127:UInt8)])).toArray 262) (lf ab.zero [] [] [0])
def oV(mode:Nat)(a b:Int):Bool:=(bif (mode:Int)==1 then((pc ((a%8388608).toNat)%2:Nat):Int) != ((pc ((b%8388608).toNat)%2:Nat):Int) else !(decide ([aO a,aO (a/256),(aO (a/65536))&&& (127:UInt8)]=[aO b,aO (b/256),(aO (b/65536))&&& (127:UInt8)])))
theorem Xx(mode:Nat)(a b:Int):aa Zz 135 #[iN mode,i6 a,i6 b] [] [] N0 (λ_=> .bool (oV mode a b)):=by
 refine fG Tryz.func135 λw cs=>?_
 refine r0 [] [(6,.bool false)] [] (r0 [] [(8,.bool ((mode:Int)==1))] [] ?_)
 refine cZ (mode:Int) 1 (λh3 dh3=>?_) λh3 dh3=>?_
 ·refine r0 [(1,.c [] [] (vn a)),(3,.c [] [] (vn b))] [(6,.bool (((pc ((a%8388608).toNat)%2:Nat):Int) != ((pc ((b%8388608).toNat)%2:Nat):Int)))] [6] ?_
  exact am (.bool (((pc ((a%8388608).toNat)%2:Nat):Int) != ((pc ((b%8388608).toNat)%2:Nat):Int))) ab.zero (by((try simp only[oV]);(repeat (first | rw[h3] | rw[ALct])))<;>rfl) [] [] []
 refine r0 [(1,.c [] [] (Hx a)),(3,.c [] [] (Hx b)),(4,.t (i9 262 λ_ _ _=>jW (xs:=rB 3 ([aO a,aO (a/256),(aO (a/65536))&&& (127:UInt8)])) (ys:=rB 3 ([aO b,aO (b/256),(aO (b/65536))&&& (127:UInt8)])) Kr (jp (show([aO a,aO (a/256),(aO (a/65536))&&& (127:UInt8)]).length=3 by rfl) (show([aO b,aO (b/256),(aO (b/65536))&&& (127:UInt8)]).length=3 by rfl))))] [(6,.bool (!(decide ([aO a,aO (a/256),(aO (a/65536))&&& (127:UInt8)]=[aO b,aO (b/256),(aO (b/65536))&&& (127:UInt8)]))))] [6] ?_
 exact am (.bool (!(decide ([aO a,aO (a/256),(aO (a/65536))&&& (127:UInt8)]=[aO b,aO (b/256),(aO (b/65536))&&& (127:UInt8)])))) ab.zero (by((try simp only[oV]);(repeat (first | rw[h3] | rw[ALcf])))<;>rfl) [] [] []
def n2(ex:Int)(x:Ac):Int:=(bif !(lV x) then max ex (bif x.mr then(x.ex+1) else x.ex) else ex)
def n4(ast:Bool)(x:Ac):Bool:=(bif !(lV x) then ast else true)
def tJ(dr:Bool)(x:Ac):Bool:=(bif !(lV x) then dr else(dr||x.dr)||(decide (0<x.ex)))
def tL(tl:Bool)(mode:Nat)(x:Ac):Bool:=(bif !(lV x) then tl else(bif ((!x.wr)&&(!x.dr))&&(!(oV mode x.ix x.wt)) then false else tl))
theorem Xy(ex:Int)(ast dr tl:Bool)(mode:Nat)(x:Ac)(h0:0≤x.ex)(h1:x.ex≤1000000):aa Zz 108 #[.agg #[i6 ex,.bool ast,.bool dr,.bool tl],iN mode,.agg #[.bool x.wr,i6 x.ix,i6 x.wt,.bool x.dr,i6 x.ex,.bool x.mr]] [] [] N0 (λ_=> .agg #[i6 (n2 ex x),.bool (n4 ast x),.bool (tJ dr x),.bool (tL tl mode x)]):=by
 refine fG Tryz.func108 λw cs=>?_
 refine ra (λq1=>[(3,pt (B0 q1) 0),(5,pt (B1 q1) 0),(6,pt (B2 q1) 0)]) (λq1=>[ob (B0 q1) #[i6 ex,.bool ast,.bool dr,.bool tl] 166,ob (B1 q1) #[.bool x.wr,i6 x.ix,i6 x.wt,.bool x.dr,i6 x.ex,.bool x.mr] 90,ob (B2 q1) #[i6 0,.bool false,.bool false,.bool false] 166]) λq1=>r0 [(0,.l 1),(1,.c [] [] (U2 x))] [(10,.bool (!(lV x)))] [] ?_
 refine cB (!(lV x)) (λh3=>?_) λh3=>?_
 ·refine r0 [(1,.l 1)] [(7,i6 x.ex)] [] ?_
  refine r0 [(1,.l 1)] [(14,.bool x.mr)] [] ?_
  refine cJ (x.mr) (λc=>[(7,i6 (bif c then(x.ex+1) else x.ex))]) (λ_=>[ob (B0 q1) #[i6 ex,.bool ast,.bool dr,.bool tl] 166,ob (B1 q1) #[.bool x.wr,i6 x.ix,i6 x.wt,.bool x.dr,i6 x.ex,.bool x.mr] 90,ob (B2 q1) #[i6 0,.bool false,.bool false,.bool false] 166]) (λh6=>?_) (λh6=>?_) ?_
  ·refine r0 [(1,aI x.ex (1) Om)] [(7,i6 (x.ex+1))] [7] ?_
   exact cm Kr [0,1,2] Kr
  ·exact cm Kr [0,1,2] Kr
  refine rs [(1,.l 0),(3,.t (tv (Builtin.max_ #[3,3] 3 #[i6 ex,i6 (bif x.mr then(x.ex+1) else x.ex)]) (λ_=>r6 _ _ _ _))),(5,.s 0)] 0 (ob (B0 q1) #[i6 (max ex (bif x.mr then(x.ex+1) else x.ex)),.bool ast,.bool dr,.bool tl] 166) (rs [(0,.l 0),(1,.s 2)] 2 (ob (B2 q1) #[i6 (max ex (bif x.mr then(x.ex+1) else x.ex)),.bool ast,.bool dr,.bool tl] 166) ?_)
  exact am (.agg #[i6 (max ex (bif x.mr then(x.ex+1) else x.ex)),.bool ast,.bool dr,.bool tl]) ab.zero (by((try simp only[n2,n4,tJ,tL]);(repeat (first | rw[h3] | rw[ALct])))<;>rfl) [] [] [2]
 refine rs [(1,.s 0)] 0 (ob (B0 q1) #[i6 ex,.bool true,.bool dr,.bool tl] 166) (rs [(1,.m (ld 0 (.bool dr))),(5,.m (ld 1 (.bool x.dr))),(9,.m (ld 1 (i6 x.ex))),(13,.s 0)] 0 (ob (B0 q1) #[i6 ex,.bool true,.bool ((dr||x.dr)||(decide (0<x.ex))),.bool tl] 166) (r0 [(1,.m (ld 1 (.bool x.wr))),(6,.m (ld 1 (.bool x.dr))),(12,.m (ld 1 (i6 x.ix))),(15,.m (ld 1 (i6 x.wt))),(16,.c [] [] (Xx mode x.ix x.wt))] [(55,.bool (((!x.wr)&&(!x.dr))&&(!(oV mode x.ix x.wt))))] [] ?_))
 refine cJ (((!x.wr)&&(!x.dr))&&(!(oV mode x.ix x.wt))) N0 (λc=>[ob (B0 q1) #[i6 ex,.bool true,.bool ((dr||x.dr)||(decide (0<x.ex))),.bool (bif c then false else tl)] 166,ob (B1 q1) #[.bool x.wr,i6 x.ix,i6 x.wt,.bool x.dr,i6 x.ex,.bool x.mr] 90,ob (B2 q1) #[i6 0,.bool false,.bool false,.bool false] 166]) (λh13=>?_) (λh13=>?_) ?_
 ·refine rr (λ_=>[(1,.s 0)]) N0 [] (λ_ L=>L.set 0 (ob (B0 q1) #[i6 ex,.bool true,.bool ((dr||x.dr)||(decide (0<x.ex))),.bool false] 166)) λq14=>?_
  exact cm Kr [0,1,2] Kr
 ·exact cm Kr [0,1,2] Kr
 refine rs [(0,.l 0),(1,.s 2)] 2 (ob (B2 q1) #[i6 ex,.bool true,.bool ((dr||x.dr)||(decide (0<x.ex))),.bool (bif ((!x.wr)&&(!x.dr))&&(!(oV mode x.ix x.wt)) then false else tl)] 166) ?_
 exact am (.agg #[i6 ex,.bool true,.bool ((dr||x.dr)||(decide (0<x.ex))),.bool (bif ((!x.wr)&&(!x.dr))&&(!(oV mode x.ix x.wt)) then false else tl)]) ab.zero (by((try simp only[n2,n4,tJ,tL]);(repeat (first | rw[h3] | rw[ALcf])))<;>rfl) [] [] [2]
theorem Xz(x:Sv)(h1:x.l.length=64)(h2:x.w.length=64):aa Zz 62 #[.agg (([i6 x.k,i6 x.ln]:List Value)++rB 64 x.d++([u6 (x.m:Int),i6 x.f0,i6 x.f1,i6 x.f2,i6 x.f3,i6 x.f4,i6 x.f5,i6 x.f6,i6 x.f7,i6 x.e,i6 x.n]:List Value)++rB 64 x.l++rB 64 x.w++([iN x.fi,iN x.la]:List Value)).toArray] [] [] N0 (λ_=> .bool ((x.k != 1)||(decide (x.l=x.w)))):=by
 refine fG Tryz.func62 λw cs=>?_
 exact ra (λq1=>[(1,pt (B0 q1) 0),(2,.bool false)]) (λq1=>[ob (B0 q1) (([i6 x.k,i6 x.ln]:List Value)++rB 64 x.d++([u6 (x.m:Int),i6 x.f0,i6 x.f1,i6 x.f2,i6 x.f3,i6 x.f4,i6 x.f5,i6 x.f6,i6 x.f7,i6 x.e,i6 x.n]:List Value)++rB 64 x.l++rB 64 x.w++([iN x.fi,iN x.la]:List Value)).toArray 149]) λq1=>r0 [(2,.m (ld 0 (i6 x.k))),(7,.m (ls 0 (rB 64 x.l))),(9,.m (ls 0 (rB 64 x.w))),(10,.t (i9 43 λ_ _ _=>uu (xs:=rB 64 x.l) (ys:=rB 64 x.w) Kr (jp (show(x.l).length=64 by(simp only[LL,h1,h2];done)) (show(x.w).length=64 by(simp only[LL,h1,h2];done)))))] [(2,.bool ((x.k != 1)||(decide (x.l=x.w))))] [2] (lf ab.zero [] [] [])
section
variable {f:FuncId} {args:Array Value} {v:ab→Value} {g gc gl gr gm gq gk gt gg gd ge go:Nat} {c:Cf} {x:Mc} {y:Ct}
theorem tM(h:aa Zz f args [pk (aR gc gl gr gm gq gk gt gg gd ge go c x.x)] [0] (λ_=>[pk (aR gc gl gr gm gq gk gt gg gd ge go c x.x)]) v):aa Zz f args [pk (br g gc gl gr gm gq gk gt gg gd ge go c x)] [0] (λ_=>[pk (br g gc gl gr gm gq gk gt gg gd ge go c x)]) v:=
 aa.inW h λL ⟨gi,vj,vs,e⟩=>⟨1,by rw[e];rfl,gi,vj,vs,by rw[e];rfl⟩
theorem Zp(h:aa Zz f args [pk (aq gr gm gq y.s.r)] [0] (λ_=>[pk (aq gr gm gq y.s.r)]) v):aa Zz f args [pk (aR gc gl gr gm gq gk gt gg gd ge go c y)] [0] (λ_=>[pk (aR gc gl gr gm gq gk gt gg gd ge go c y)]) v:=
 aa.inW h λL ⟨u,e⟩=>⟨2,by rw[e];rfl,u,by rw[e];rfl⟩
theorem XA(h:aa Zz f args [pk (ay gg y.s.g)] [0] (λ_=>[pk (ay gg y.s.g)]) v):aa Zz f args [pk (aR gc gl gr gm gq gk gt gg gd ge go c y)] [0] (λ_=>[pk (aR gc gl gr gm gq gk gt gg gd ge go c y)]) v:=
 aa.inW h λL ⟨u,e⟩=>⟨4,by rw[e];rfl,u,by rw[e];rfl⟩
theorem Hy(h:aa Zz f args [pk (bl gd ge c y.V)] [0] (λ_=>[pk (bl gd ge c y.V)]) v):aa Zz f args [pk (aR gc gl gr gm gq gk gt gg gd ge go c y)] [0] (λ_=>[pk (aR gc gl gr gm gq gk gt gg gd ge go c y)]) v:=
 aa.inW h λL ⟨u,e⟩=>⟨6,by rw[e];rfl,u,by rw[e];rfl⟩
end
theorem XB(gc gl gr gm gq gk gt gg gd ge go:Nat)(c:Cf)(x:Ct):aa Zz 14 #[pt gc 0] [pk (aR gc gl gr gm gq gk gt gg gd ge go c x)] [0] (λ_=>[pk (aR gc gl gr gm gq gk gt gg gd ge go c x)]) (λ_=>pt gg 0):=aa.pkZ Tryz.func14 λL hL=>by
 obtain⟨v,rfl⟩:=hL
 refine⟨[2,3,4,5,6,7],λ_=>[pk (aq gr gm gq x.s.r),pk (aC gk gt x.s.k),pk (ay gg x.s.g),pk (dV go),pk (bl gd ge c x.V),ce v x.ns],?_,rfl,λE=>⟨rfl,rfl,⟨_,rfl⟩⟩⟩
 refine fG Tryz.func14 λw cs=>?_
 exact r0 [] [(2,.pointer none)] [] (r0 [(3,.l 0),(6,.l 1)] [(2,pt gg 0)] [2] (lf ab.zero [2,3,4,5,6,7] [(0,0),(1,1)] []))
theorem XC(g gc gl gr gm gq gk gt gg gd ge go:Nat)(c:Cf)(x:Mc):aa Zz 13 #[pt g 0] [pk (br g gc gl gr gm gq gk gt gg gd ge go c x)] [0] (λ_=>[pk (br g gc gl gr gm gq gk gt gg gd ge go c x)]) (λ_=>pt gc 0):=aa.pkZ Tryz.func13 λL hL=>by
 obtain⟨gi,vj,vs,rfl⟩:=hL
 refine⟨[1,2,3,4],λ_=>[pk (aR gc gl gr gm gq gk gt gg gd ge go c x.x),cY x.id gi,gz vj x.inj,db vs x.sv],?_,rfl,λE=>⟨rfl,rfl,⟨_,_,_,rfl⟩⟩⟩
 refine fG Tryz.func13 λw cs=>?_
 exact r0 [] [(2,.pointer none)] [] (r0 [(3,.l 0)] [(2,pt gc 0)] [2] (lf ab.zero [1,2,3,4] [(0,0)] []))
theorem AJ(g gc gl gr gm gq gk gt gg gd ge go:Nat)(c:Cf)(x:Mc):aa Zz 30 #[pt g 0] [pk (br g gc gl gr gm gq gk gt gg gd ge go c x)] [0] (λ_=>[pk (br g gc gl gr gm gq gk gt gg gd ge go c x)]) (λ_=>pt gd 0):=aa.pkZ Tryz.func30 λL hL=>by
 obtain⟨gi,vj,vs,rfl⟩:=hL
 refine⟨[1,2,3,4],λ_=>[pk (aR gc gl gr gm gq gk gt gg gd ge go c x.x),cY x.id gi,gz vj x.inj,db vs x.sv],?_,rfl,λE=>⟨rfl,rfl,⟨_,_,_,rfl⟩⟩⟩
 refine fG Tryz.func30 λw cs=>?_
 exact r0 [] [(2,.pointer none)] [] (r0 [(3,.l 0)] [(2,pt gd 0)] [2] (lf ab.zero [1,2,3,4] [(0,0)] []))
theorem XD(g gc gl gr gm gq gk gt gg gd ge go:Nat)(c:Cf)(x:Mc):aa Zz 14 #[pt gc 0] [pk (br g gc gl gr gm gq gk gt gg gd ge go c x)] [0] (λ_=>[pk (br g gc gl gr gm gq gk gt gg gd ge go c x)]) (λ_=>pt gg 0):=tM (XB gc gl gr gm gq gk gt gg gd ge go c x.x)
theorem XE(g gc gl gr gm gq gk gt gg gd ge go:Nat)(c:Cf)(x:Mc):aa Zz 20 #[pt gg 0] [pk (br g gc gl gr gm gq gk gt gg gd ge go c x)] [0] (λ_=>[pk (br g gc gl gr gm gq gk gt gg gd ge go c x)]) (λ_=>iN x.x.s.g.l.length):=tM (XA (FR gg x.x.s.g))
theorem XF(g gc gl gr gm gq gk gt gg gd ge go:Nat)(c:Cf)(x:Mc):aa Zz 42 #[pt gd 0] [pk (br g gc gl gr gm gq gk gt gg gd ge go c x)] [0] (λ_=>[pk (br g gc gl gr gm gq gk gt gg gd ge go c x)]) (λ_=>iN x.x.V.l.length):=tM (lX gc gl gr gm gq gk gt gg gd ge go c x.x)
theorem XG(g gc gl gr gm gq gk gt gg gd ge go:Nat)(c:Cf)(x:Mc):aa Zz 36 #[pt gd 0] [pk (br g gc gl gr gm gq gk gt gg gd ge go c x)] [0] (λ_=>[pk (br g gc gl gr gm gq gk gt gg gd ge go c x)]) (λ_=>pt ge 0):=tM (Hy (Au gd ge c x.x.V))
theorem XH(g gc gl gr gm gq gk gt gg gd ge go:Nat)(c:Cf)(x:Mc):aa Zz 107 #[pt ge 0] [pk (br g gc gl gr gm gq gk gt gg gd ge go c x)] [0] (λ_=>[pk (br g gc gl gr gm gq gk gt gg gd ge go c x)]) (λ_=>iN c.mode):=tM (Hy (Hr gd ge c x.x.V))
end Go.Proofs.YtbcodenfkijdnaaGreat.E
namespace Go.Proofs.YtbcodenfkijdnaaGreat.E
open Go Go.RowKit Go.Shelf
open List renaming sublist_append_right→Zz,sublist_append_left→ZA,flatten→ZB,length_range→ZC,length_map→ZD
theorem XI{α:Type}{a b f0 f1 f2 f3 f4 e0 e1 e2 e3 e4 e5 e7 d0 d2 d3 d4:List α}:(ZB [a,b,f0,f4]).Sublist (ZB [a,b,([d0,([e0,e1,e2,e3,e4,e5,([f0,f1,f2,f3,f4]:List (List α)).flatten,e7]:List (List α)).flatten,d2,d3,d4]:List (List α)).flatten]):=by
 simp only[List.flatten_cons,List.flatten_nil,List.append_nil]
 refine List.Sublist.append (List.Sublist.refl _) (List.Sublist.append (List.Sublist.refl _) ?_)
 have h1:(f0++f4).Sublist (f0++(f1++(f2++(f3++f4)))):=List.Sublist.append (List.Sublist.refl _) ((Zz f3 f4).trans ((Zz f2 _).trans (Zz f1 _)))
 have h2:(f0++(f1++(f2++(f3++f4)))).Sublist (f0++(f1++(f2++(f3++f4)))++e7):=ZA _ _
 have h3:(f0++(f1++(f2++(f3++f4)))++e7).Sublist (e0++(e1++(e2++(e3++(e4++(e5++(f0++(f1++(f2++(f3++f4)))++e7))))))):=
  (Zz e5 _).trans ((Zz e4 _).trans ((Zz e3 _).trans ((Zz e2 _).trans ((Zz e1 _).trans (Zz e0 _)))))
 exact(h1.trans (h2.trans h3)).trans ((ZA _ _).trans (Zz d0 _))
theorem XJ(b1 b2 n g gc gl gr gm gq gk gt gg gd ge go:Nat)(c:Cf)(x:Mc)(hl:x.x.V.l.length≤1000000)(hn5:n≤1000000)(bs:aw)(h:r7 (br g gc gl gr gm gq gk gt gg gd ge go c x) bs):fy 5 Tryz.prog 60 #[pt b1 0,pt b2 0] (λ(x:Nat×Ac)=>#[i6 (x.1:Int),.agg #[.bool (x.2.wr),i6 (x.2.ix),i6 (x.2.wt),.bool (x.2.dr),i6 (x.2.ex),.bool (x.2.mr)]]) ((List.range (x.x.V.l.length-n)).map λk=>(n+k,x.x.V.l.getD (n+k) dO)) (ZB [[(b1,.cells #[iN n] 3 (0,0))],[(b2,.cells #[pt gd 0] 84 (0,0))],bs]):=by
 obtain⟨L,ds,⟨gi,vj,vs,rfl⟩,hs,rfl⟩:=h
 obtain⟨d0,_,rfl,h0,hs⟩:=eG hs
 obtain⟨d1,_,rfl,h1,hs⟩:=eG hs
 obtain⟨d2,_,rfl,h2,hs⟩:=eG hs
 obtain⟨d3,_,rfl,h3,hs⟩:=eG hs
 obtain⟨d4,_,rfl,h4,hs⟩:=eG hs
 obtain rfl:=o0 hs
 obtain⟨L1,es,⟨v1,rfl⟩,he,rfl⟩:=h1
 obtain⟨e0,_,rfl,i0,he⟩:=eG he
 obtain⟨e1,_,rfl,i1,he⟩:=eG he
 obtain⟨e2,_,rfl,i2,he⟩:=eG he
 obtain⟨e3,_,rfl,i3,he⟩:=eG he
 obtain⟨e4,_,rfl,i4,he⟩:=eG he
 obtain⟨e5,_,rfl,i5,he⟩:=eG he
 obtain⟨e6,_,rfl,i6',he⟩:=eG he
 obtain⟨e7,_,rfl,i7,he⟩:=eG he
 obtain rfl:=o0 he
 obtain⟨L2,fs,⟨gm',gk',v,rfl⟩,hf,rfl⟩:=i6'
 obtain⟨f0,_,rfl,j0,hf⟩:=eG hf
 obtain⟨f1,_,rfl,j1,hf⟩:=eG hf
 obtain⟨f2,_,rfl,j2,hf⟩:=eG hf
 obtain⟨f3,_,rfl,j3,hf⟩:=eG hf
 obtain⟨f4,_,rfl,j4,hf⟩:=eG hf
 obtain rfl:=o0 hf
 obtain rfl:f0=_:=j0
 exact(U0 b1 b2 gd ge gm' gk' n v x.x.V.l f4 (ap.sq j4) hl hn5).mono XI
structure Lk where
 ex:Int
 ast:Bool
 dr:Bool
 tl:Bool
def XK:Lk:=⟨0,false,false,true⟩
def Hz(mode:Nat)(l:Lk)(x:Ac):Lk:=⟨n2 l.ex x,n4 l.ast x,tJ l.dr x,tL l.tl mode x⟩
def cq(mode:Nat)(l:List Ac):Nat→Lk
 | 0=>XK
 | k+1=>Hz mode (cq mode l k) (l.getD (0+k) dO)
theorem AK(mode:Nat)(l:List Ac)(k:Nat):cq mode l (k+1)=Hz mode (cq mode l k) (l.getD (0+k) dO):=rfl
theorem XL(mode:Nat)(l:List Ac):cq mode l 0=⟨0,false,false,true⟩:=rfl
attribute [local irreducible] cq
theorem XM(g gc gl gr gm gq gk gt gg gd ge go:Nat)(c:Cf)(x:Mc)(hl:x.x.V.l.length≤900000)(hx: ∀k,0≤(x.x.V.l.getD k dO).ex∧(x.x.V.l.getD k dO).ex≤1000000):aa Tryz.prog 77 #[pt g 0,i6 0,iN x.x.V.l.length] [pk (br g gc gl gr gm gq gk gt gg gd ge go c x)] [0] (λ_=>[pk (br g gc gl gr gm gq gk gt gg gd ge go c x)]) (λ_=> .agg #[i6 ((cq c.mode x.x.V.l (x.x.V.l.length-0)).ex),.bool ((cq c.mode x.x.V.l (x.x.V.l.length-0)).ast),.bool ((cq c.mode x.x.V.l (x.x.V.l.length-0)).dr),.bool ((cq c.mode x.x.V.l (x.x.V.l.length-0)).tl)]):=by
 refine fG Tryz.func77 λw cs=>?_
 refine ra (λq1=>[(5,pt (B0 q1) 0),(6,pt (B1 q1) 0)]) (λq1=>[ob (B0 q1) #[iN x.x.V.l.length] 3,ob (B1 q1) #[i6 0,.bool false,.bool false,.bool false] 166]) λq1=>rr (λ_=>[(2,.s 3)]) (λq2=>[(7,pt (B1 q2) 0)]) [] (λq2 L=>L++[ob (B1 q2) #[i6 0,.bool false,.bool false,.bool true] 166]) λq2=>rr (λ_=>[(1,.c [0] [0] (AJ g gc gl gr gm gq gk gt gg gd ge go c x)),(2,.c [0] [0] (XG g gc gl gr gm gq gk gt gg gd ge go c x)),(3,.c [0] [0] (XH g gc gl gr gm gq gk gt gg gd ge go c x)),(5,.s 4)]) (λq3=>[(8,pt (B4 q3) 0)]) [] (λq3 L=>L++[ob (B4 q3) #[iN c.mode] 3]) λq3=>rr (λ_=>[(1,.c [0] [0] (AJ g gc gl gr gm gq gk gt gg gd ge go c x)),(3,.c [] [5,6] (U1 gd 0))]) (λq4=>[(19,.func (.func 60) #[] #[pt ((B3 q4)) 0,pt (((q4 3).ZK 1)) 0])]) [] (λq4 L=>L++[ob (B3 q4) #[i6 ((0:Nat):Int)] 3,ob ((q4 3).ZK 1) #[pt gd 0] 84]) λq4=>?_
 refine ck 0 (r7 (br g gc gl gr gm gq gk gt gg gd ge go c x)) (λbK5 hK6=>?_)
 refine ph (encs:=λ(x:Nat×Ac)=>#[i6 (x.1:Int),.agg #[.bool (x.2.wr),i6 (x.2.ix),i6 (x.2.wt),.bool (x.2.dr),i6 (x.2.ex),.bool (x.2.mr)]]) (xs:=(List.range (x.x.V.l.length-0)).map (λk=>(0+k,x.x.V.l.getD (0+k) dO))) (KO:=[[((B3 q4),.cells #[i6 ((0:Nat):Int)] 3 (0,0))],[(((q4 3).ZK 1),.cells #[pt gd 0] 84 (0,0))],bK5]) (XJ (B3 q4) ((q4 3).ZK 1) 0 g gc gl gr gm gq gk gt gg gd ge go c x Om Om bK5 hK6) (enters_of Tryz.func60 Kr rfl) (λk=>k≤x.x.V.l.length-0) (λk L=>L.set 3 (ob (B1 q2) #[i6 ((cq c.mode x.x.V.l k).ex),.bool ((cq c.mode x.x.V.l k).ast),.bool ((cq c.mode x.x.V.l k).dr),.bool ((cq c.mode x.x.V.l k).tl)] 166)) [5,6,0] Om (by rw[XL];kernel_rfl) (λlR k xE R1 W1 hxE hk8=>?_) (λD7 hk8=>?_)
 ·obtain⟨hkb9,rfl⟩:=oh hxE
  have hkb0:=hkb9
  have hxk:=hx (0+k)
  refine r0 [] [(9,i6 ((0+k:Nat):Int))] [] (rr (λ_=>[(1,.s 7)]) (λq11=>[(10,pt (B0 q11) 0)]) [] (λq11 L=>L++[ob (B0 q11) #[.bool ((x.x.V.l.getD (0+k) dO).wr),i6 ((x.x.V.l.getD (0+k) dO).ix),i6 ((x.x.V.l.getD (0+k) dO).wt),.bool ((x.x.V.l.getD (0+k) dO).dr),i6 ((x.x.V.l.getD (0+k) dO).ex),.bool ((x.x.V.l.getD (0+k) dO).mr)] 90]) λq11=>?_)
  refine ag [5,6,0] (λR2 W2=>?_)
  refine rF [(1,.l 1),(2,.t (tk (show Value.bool (decide ((x.x.V.l.length:Int)≤((0+k:Nat):Int)))= .bool false from ALca Value.bool (by exact bj Om))))] 24 (rs [(0,.l 3),(1,.l 4),(2,.l 7),(3,.c [] [] (Xy ((cq c.mode x.x.V.l k).ex) ((cq c.mode x.x.V.l k).ast) ((cq c.mode x.x.V.l k).dr) ((cq c.mode x.x.V.l k).tl) c.mode (x.x.V.l.getD (0+k) dO) Om Om)),(4,.s 3)] 3 (ob (B1 q2) #[i6 (n2 ((cq c.mode x.x.V.l k).ex) (x.x.V.l.getD (0+k) dO)),.bool (n4 ((cq c.mode x.x.V.l k).ast) (x.x.V.l.getD (0+k) dO)),.bool (tJ ((cq c.mode x.x.V.l k).dr) (x.x.V.l.getD (0+k) dO)),.bool (tL ((cq c.mode x.x.V.l k).tl) c.mode (x.x.V.l.getD (0+k) dO))] 166) ?_)
  exact ne _ ⟨Om,rfl⟩ [0,1,2,3,4,5,6] (by rw[AK];kernel_rfl)
 refine cl [.c bK5,ob (B0 q1) #[iN x.x.V.l.length] 3,ob (B1 q1) #[i6 0,.bool false,.bool false,.bool false] 166,ob (B1 q2) #[i6 ((cq c.mode x.x.V.l (x.x.V.l.length-0)).ex),.bool ((cq c.mode x.x.V.l (x.x.V.l.length-0)).ast),.bool ((cq c.mode x.x.V.l (x.x.V.l.length-0)).dr),.bool ((cq c.mode x.x.V.l (x.x.V.l.length-0)).tl)] 166,ob (B4 q3) #[iN c.mode] 3,ob (B3 q4) #[i6 ((0:Nat):Int)] 3,ob ((q4 3).ZK 1) #[pt gd 0] 84] (by rw[ZD,ZC];kernel_rfl) ?_
 simp only[ZD,ZC] at hk8
 refine cw 0 (.c bK5) ((pk (br g gc gl gr gm gq gk gt gg gd ge go c x))) (cP hK6) ?_
 exact rs [(0,.l 3),(1,.s 2)] 2 (ob (B1 q1) #[i6 ((cq c.mode x.x.V.l (x.x.V.l.length-0)).ex),.bool ((cq c.mode x.x.V.l (x.x.V.l.length-0)).ast),.bool ((cq c.mode x.x.V.l (x.x.V.l.length-0)).dr),.bool ((cq c.mode x.x.V.l (x.x.V.l.length-0)).tl)] 166) (lf ab.zero [0] [] [2])
end Go.Proofs.YtbcodenfkijdnaaGreat.E
namespace Go.Proofs.YtbcodenfkijdnaaGreat.E
open Go Go.RowKit Go.Shelf
open List renaming length_replicate→Zz,getD_eq_getElem?_getD→ZB,replicate→ZC,getElem?_eq_getElem→ZD
open Go.Proofs.Tryz renaming prog→ZA
open Nat renaming le_trans→ZE,lt_of_le_of_lt→ZG
open Option renaming getD_some→ZF
theorem XN{α:Type}{l:List α}{p:α→Bool}{d:α}(h: ∀j,j<l.length→p (l.getD j d)=true):l.all p=true:=by
 rw[List.all_eq_true]
 intro a ha
 obtain⟨j,hj,rfl⟩:=List.getElem_of_mem ha
 have:=h j hj
 rwa [ZB,ZD hj,ZF] at this
theorem XP{α:Type}{l:List α}{j:Nat}{p:α→Bool}{d:α}(hj:j<l.length)(h:p (l.getD j d)=false):l.all p=false:=by
 rw[List.all_eq_false]
 rw[ZB,ZD hj,ZF] at h
 exact⟨_,List.getElem_mem hj,by rw[h];simp⟩
theorem XQ{p:Nat→Prop}{k:Nat}(h: ∀j,j<k→p j)(hk:p k): ∀j,j<k+1→p j:=λj hj=>by
 rcases Nat.lt_succ_iff_lt_or_eq.1 hj with h1 | rfl
 ·exact h j h1
 ·exact hk
def lc(mode:Nat)(l:List Ac):Bool:=(!(cq mode l (l.length-0)).ast)&&decide ((cq mode l (l.length-0)).ex≤1)
structure tN (l:List Ac):Prop where
 ex: ∀k,0≤(l.getD k dO).ex∧(l.getD k dO).ex≤1000000
theorem AM(g gc gl gr gm gq gk gt gg gd ge go:Nat)(c:Cf)(x:Mc)(hl:x.x.V.l.length≤900000)(hx:tN x.x.V.l):aa ZA 41 #[pt g 0] [pk (br g gc gl gr gm gq gk gt gg gd ge go c x)] [0] (λ_=>[pk (br g gc gl gr gm gq gk gt gg gd ge go c x)]) (λ_=> .bool (lc c.mode x.x.V.l)):=by
 refine fG Tryz.func41 λw cs=>?_
 refine r0 [] [(2,.bool false)] [] (rr (λ_=>[(2,.c [0] [0] (AJ g gc gl gr gm gq gk gt gg gd ge go c x)),(3,.c [0] [0] (XF g gc gl gr gm gq gk gt gg gd ge go c x)),(4,.c [0] [0] (XM g gc gl gr gm gq gk gt gg gd ge go c x hl hx.ex)),(6,.s 1)]) (λq2=>[(3,pt (B5 q2) 0)]) [] (λq2 L=>L++[ob (B5 q2) #[i6 ((cq c.mode x.x.V.l (x.x.V.l.length-0)).ex),.bool ((cq c.mode x.x.V.l (x.x.V.l.length-0)).ast),.bool ((cq c.mode x.x.V.l (x.x.V.l.length-0)).dr),.bool ((cq c.mode x.x.V.l (x.x.V.l.length-0)).tl)] 166]) λq2=>r0 [(1,.l 1),(5,.l 1)] [(2,.bool ((!((cq c.mode x.x.V.l (x.x.V.l.length-0)).ast))&&(decide (((cq c.mode x.x.V.l (x.x.V.l.length-0)).ex)≤1))))] [2] ?_)
 exact am (.bool ((!((cq c.mode x.x.V.l (x.x.V.l.length-0)).ast))&&(decide (((cq c.mode x.x.V.l (x.x.V.l.length-0)).ex)≤1)))) ab.zero bh [0] [] []
theorem XR(v:Value)(l:List Sv):aa ZA 98 #[v] [.p (aK rg v l)] [] (λE=>[ob (E.ZK 0) #[v] 112]) (λE=> .func (.func 133) #[] #[pt ((E.ZK 0)) 0]):=by
 refine fO Tryz.func98 0 rfl λbq0 hq0=>?_
 refine fG Tryz.func98 λw cs=>?_
 exact rr (λ_=>[(0,CO 1 0 (.c bq0) v (λ_ _=>aK.cells hq0))]) (λq1=>[(1,pt (B0 q1) 0),(2,.nilFunc)]) [] (λq1 L=>L++[ob (B0 q1) #[v] 112]) λq1=>r0 [] [(2,.func (.func 133) #[] #[pt (B0 q1) 0])] [2] (lf (.l [(q1 0).ZK 0] [] []) [1] [(0,0)] [])
theorem XS(g gd gc gi sc st:Nat)(vj vs:Value)(l:List Sv):aa ZA 61 #[pt g 0] [ob g #[pt gd 0,pt gc 0,.map (some gi),vj,vs,iN sc,iN st] 114,.p (aK rg vs l)] [] (λE=>[ob (E.ZK 0) #[vs] 112]) (λE=> .func (.func 133) #[] #[pt ((E.ZK 0)) 0]):=by
 refine fO Tryz.func61 1 rfl λbq1 hq1=>?_
 refine fG Tryz.func61 λw cs=>?_
 exact r0 [] [(2,.nilFunc)] [] (rr (λ_=>[(3,.l 0),(4,.c [1] [2] (aa.at (rd':=[.c bq1]) (XR vs l) (em hq1 (λ_ h=>h))))]) (λq2=>[(2,.func (.func 133) #[] #[pt ((B4 q2)) 0])]) [2] (λq2 L=>L++[ob (B4 q2) #[vs] 112]) λq2=>lf (.l [(B4 q2)] [] []) [2] [(0,0),(1,1)] [])
abbrev jm(s:Sv):Bool:=(s.e==0)&&((s.k != 1)||decide (s.l=s.w))
structure AN (q:List Sv):Prop where
 l: ∀k,(q.getD k aV).l.length=64
 w: ∀k,(q.getD k aV).w.length=64
theorem XT{s:Sv}(h:((s.e != 0)||(!((s.k != 1)||decide (s.l=s.w))))=false):jm s=true:=by
 unfold jm
 cases h1:s.e==0<;>cases h2:((s.k != 1)||decide (s.l=s.w))<;>simp_all
theorem XU{s:Sv}(h:((s.e != 0)||(!((s.k != 1)||decide (s.l=s.w))))=true):jm s=false:=by
 unfold jm
 cases h1:s.e==0<;>cases h2:((s.k != 1)||decide (s.l=s.w))<;>simp_all
theorem XV(g gc gl gr gm gq gk gt gg gd ge go:Nat)(c:Cf)(x:Mc)(hl:x.sv.length≤900000)(hs:AN x.sv):aa ZA 33 #[pt g 0] [pk (br g gc gl gr gm gq gk gt gg gd ge go c x)] [0] (λ_=>[pk (br g gc gl gr gm gq gk gt gg gd ge go c x)]) (λ_=> .bool (x.sv.all jm)):=aa.pkZ Tryz.func33 λL hL=>by
 obtain⟨gi,vj,vs,rfl⟩:=hL
 refine⟨[1,2,3,4],λ_=>[pk (aR gc gl gr gm gq gk gt gg gd ge go c x.x),cY x.id gi,gz vj x.inj,db vs x.sv],?_,rfl,λE=>⟨rfl,rfl,⟨_,_,_,rfl⟩⟩⟩
 refine fG Tryz.func33 λw cs=>?_
 refine ra (λq1=>[(2,pt (B0 q1) 0)]) (λq1=>[ob (B0 q1) #[.bool false] 4]) λq1=>rr (λ_=>[(1,.c [0,4] [6] (aa.at (rd':=[ob g #[pt gd 0,pt gc 0,.map (some gi),vj,vs,iN x.sc,iN x.st] 114,db vs x.sv]) (XS g gd gc gi x.sc x.st vj vs x.sv) (atS (bO (λ_ h=>ap.sq h) (λ_ h=>h)))))]) (λq2=>[(5,.func (.func 133) #[] #[pt ((B1 q2)) 0])]) [] (λq2 L=>L++[ob (B1 q2) #[vs] 112]) λq2=>?_
 refine ck 4 (ap rg ([i6 0,i6 0]++ZC 64 (u1 0)++[u6 0,i6 0,i6 0,i6 0,i6 0,i6 0,i6 0,i6 0,i6 0,i6 0,i6 0]++ZC 64 (u1 0)++ZC 64 (u1 0)++[i6 0,i6 0]) 149 vs x.sv) (λbK3 hK4=>?_)
 refine xY (encs:=λ(x:Sv)=>#[.agg ([i6 (x.k),i6 (x.ln)]++rB 64 (x.d)++[u6 ((x.m:Nat):Int),i6 (x.f0),i6 (x.f1),i6 (x.f2),i6 (x.f3),i6 (x.f4),i6 (x.f5),i6 (x.f6),i6 (x.f7),i6 (x.e),i6 (x.n)]++rB 64 (x.l)++rB 64 (x.w)++[iN x.fi,iN x.la]).toArray]) (xs:=x.sv) (KO:=[[((B1 q2),.cells #[vs] 112 (0,0))],bK3]) (WR (B1 q2) vs x.sv bK3 (ap.sq hK4) Om) (enters_of Tryz.func133 Kr rfl) (λk=>k≤x.sv.length∧(∀j,j<k→jm (x.sv.getD j aV)=true)) (λ_ L=>L) (λc k=>(c=Code.ret∧(∃j,j+1=k∧jm (x.sv.getD j aV)=false))) (λ_ _ L=>L) [6,4] ⟨by omega,(λ_ h=>absurd h (Nat.not_lt_zero _))⟩ Kr (λlR k xE R1 W1 hxE ⟨hk6,hw⟩=>?_) (λD5 ⟨hk6,hw⟩=>?_) λD5 c k hi hX=>?_
 ·obtain⟨hkb7,rfl⟩:=rP aV hxE
  have hsl:=hs.l k
  have hsw:=hs.w k
  refine rr (λ_=>[(1,.s 7)]) (λq8=>[(3,pt (B0 q8) 0)]) [] (λq8 L=>L++[ob (B0 q8) (([i6 ((x.sv.getD k aV).k),i6 ((x.sv.getD k aV).ln)]:List Value)++rB 64 ((x.sv.getD k aV).d)++([u6 (((x.sv.getD k aV).m:Nat):Int),i6 ((x.sv.getD k aV).f0),i6 ((x.sv.getD k aV).f1),i6 ((x.sv.getD k aV).f2),i6 ((x.sv.getD k aV).f3),i6 ((x.sv.getD k aV).f4),i6 ((x.sv.getD k aV).f5),i6 ((x.sv.getD k aV).f6),i6 ((x.sv.getD k aV).f7),i6 ((x.sv.getD k aV).e),i6 ((x.sv.getD k aV).n)]:List Value)++rB 64 ((x.sv.getD k aV).l)++rB 64 ((x.sv.getD k aV).w)++([i6 (((x.sv.getD k aV).fi:Nat):Int),i6 (((x.sv.getD k aV).la:Nat):Int)]:List Value)).toArray 149]) λq8=>?_
  refine ag [6,4] (λR2 W2=>?_)
  refine r0 [(2,.l 7),(5,.l 7),(6,.c [] [] (Xz (x.sv.getD k aV) Om Om))] [(15,.bool ((((x.sv.getD k aV).e) != 0)||(!(((x.sv.getD k aV).k != 1)||(decide ((x.sv.getD k aV).l=(x.sv.getD k aV).w))))))] [] ?_
  refine cB ((((x.sv.getD k aV).e) != 0)||(!(((x.sv.getD k aV).k != 1)||(decide ((x.sv.getD k aV).l=(x.sv.getD k aV).w))))) (λh10=>?_) λh10=>?_
  ·refine r0 [(0,.s 5)] [] [] ?_
   exact nr _ ⟨⟨rfl,⟨_,rfl,XU As⟩⟩,rfl⟩ [0,1,2,3,4,5,6] Kr
  exact ne _ ⟨⟨by omega,XQ hw (XT As)⟩,rfl⟩ [0,1,2,3,4,5,6] Kr
 ·refine cw 4 (.c bK3) (db vs x.sv) (cP hK4) ?_
  refine rs [(0,.s 5)] 5 (ob (B0 q1) #[.bool true] 4) ?_
  exact am (.bool true) ab.zero (by rw[XN hw]) [1,2,3,4] [(0,0)] [5]
 obtain⟨rfl,hx0⟩:=hX
 refine cw 4 (.c bK3) (db vs x.sv) (cP hK4) ?_
 exact am (.bool false) ab.zero (by(obtain⟨j,hj,hn⟩:=hx0;rw[XP (j:=j) Om hn])) [1,2,3,4] [(0,0)] [5]
theorem HA{c:Cf}{b:Bool}(h:oT c=b):decide ((((((c.R+c.S)*c.B)*c.M)*c.C:Nat):Int)≤100)=b:=by
 rw[←h]
 unfold oT
 exact decide_eq_decide.2 Om
theorem XW(c:Cf)(hcf:dd c)(hs:oT c=false):aa ZA 12 #[.agg (cA c)] [] [] N0 (λ_=> .pointer none):=by
 refine fG Tryz.func12 λw cs=>?_
 exact ra (λq1=>[(1,pt (B0 q1) 0),(2,.pointer none)]) (λq1=>[ob (B0 q1) (cA c) 31]) λq1=>rT [(0,.l 0),(1,.c [] [] (aa.v ((Hw c hcf)) λ_=>ALca Value.bool (show(decide ((((((c.R+c.S)*c.B)*c.M)*c.C:Nat):Int)≤100))=false from(by exact HA hs))))] 7 (r0 [] [(2,.pointer none)] [2] (lf ab.zero [] [] []))
theorem AO(c:Cf)(hcf:dd c)(hs:oT c=true):aa ZA 12 #[.agg (cA c)] [] [] (λE=>[pk (br (E.ZK 0) ((E.ZK 1)) ((E.ZK 2)) ((E.ZK 3)) ((E.ZK 4)) ((E.ZK 5)) ((E.ZK 6)) ((E.ZK 7)) ((E.ZK 8)) ((E.ZK 9)) ((E.ZK 10)) ((E.ZK 11)) c (dC c))]) (λE=>pt ((E.ZK 0)) 0):=by
 refine fG Tryz.func12 λw cs=>?_
 exact ra (λq1=>[(1,pt (B0 q1) 0),(2,.pointer none)]) (λq1=>[ob (B0 q1) (cA c) 31]) λq1=>rF [(0,.l 0),(1,.c [] [] (aa.v ((Hw c hcf)) λ_=>ALca Value.bool (show(decide ((((((c.R+c.S)*c.B)*c.M)*c.C:Nat):Int)≤100))=true from(by exact HA hs))))] 7 (rr (λ_=>[(0,.l 0),(1,.c [] [1] (Xo c hcf))]) (λq3=>[(3,pt ((B1 q3)) 0),(4,i6 0)]) [] (λq3 L=>L++[pk (br (B1 q3) ((q3 1).ZK 1) ((q3 1).ZK 3) ((q3 1).ZK 4) ((q3 1).ZK 5) ((q3 1).ZK 6) ((q3 1).ZK 7) ((q3 1).ZK 8) ((q3 1).ZK 9) ((q3 1).ZK 10) ((q3 1).ZK 11) ((q3 1).ZK 12) c (dC c))]) λq3=>rF [] 14 (r0 [] [(2,pt ((B1 q3)) 0)] [2] (lf (.l [(B1 q3),(q3 1).ZK 1,(q3 1).ZK 3,(q3 1).ZK 4,(q3 1).ZK 5,(q3 1).ZK 6,(q3 1).ZK 7,(q3 1).ZK 8,(q3 1).ZK 9,(q3 1).ZK 10,(q3 1).ZK 11,(q3 1).ZK 12] [] []) [1] [] [])))
theorem XX:aa ZA 45 #[] [] [] N0 (λ_=> .agg #[i6 1,i6 0,i6 1,i6 2,i6 2,i6 0,i6 0,i6 1,i6 9,i6 9,i6 9,i6 9,i6 2,i6 2,i6 4,.bool true]):=by
 refine fG Tryz.func45 λw cs=>?_
 exact ra (λq1=>[(0,pt (B0 q1) 0)]) (λq1=>[ob (B0 q1) #[i6 0,i6 0,i6 0,i6 0,i6 0,i6 0,i6 0,i6 0,i6 0,i6 0,i6 0,i6 0,i6 0,i6 0,i6 0,.bool false] 31]) λq1=>rr (λ_=>[(2,.s 1)]) (λq2=>[(1,pt (B1 q2) 0)]) [] (λq2 L=>L++[ob (B1 q2) #[i6 9,i6 9] 27]) λq2=>rs [(2,.l 1),(3,.l 1),(6,.s 0)] 0 (ob (B0 q1) #[i6 1,i6 0,i6 1,i6 2,i6 2,i6 0,i6 0,i6 1,i6 9,i6 9,i6 9,i6 9,i6 2,i6 2,i6 4,.bool true] 31) (lf ab.zero [] [] [0])
structure GM (c:Cf) (x:Mc) (n:Nat):Prop where
 ok:d8 c x (1+260*n) (4096+3*n) n
 t:x.x.s.time≤n
theorem GM.start{c:Cf}(h:dd c):GM c (dC c) 0:=⟨Hu h,Nat.le_refl _⟩
theorem GM.step{c:Cf}{x:Mc}{n:Nat}(h:GM c x n)(hn:n≤900){s:St}(hs:StOk s):GM c (eY c x s) (n+1):=
 ⟨(WJ h.ok hs Om (ZG h.t Om)).mono Om Om Om,ZE (WL c x s) (Nat.succ_le_succ h.t)⟩
theorem GM.vl{c:Cf}{x:Mc}{n:Nat}(h:GM c x n)(hn:n≤900):x.x.V.l.length≤7000:=ZE h.ok.ct.vl Om
theorem wR(g gc gl gr gm gq gk gt gg gd ge go:Nat)(c:Cf)(x:Mc)(n:Nat)(h:GM c x n)(hn:n≤900)(s:St)(hs:StOk s):aa ZA 16 #[pt g 0,.agg (eSt s).toArray] [pk (br g gc gl gr gm gq gk gt gg gd ge go c x)] [0] (λ_=>[pk (br g gc gl gr gm gq gk gt gg gd ge go c (eY c x s))]) (λ_=> .agg (wK (gS c x s)).toArray):=
 WF g gc gl gr gm gq gk gt gg gd ge go c x _ _ _ h.ok Om Om Om (ZG h.t Om) s hs
def dP:Cf:=⟨1,0,1,2,2,0,0,1,9,9,9,9,2,2,4,true⟩
def HD:St:=⟨2,1,fl 6 64,0,0,0,0,0,0,0,0,0⟩
def HE:St:=⟨8,0,ZC 64 0,0,1,0,0,0,1,0,40,0⟩
def tO:St:=⟨1,1,ZC 64 0,0,0,0,0,0,0,0,0,0⟩
def wS:Mc:=eY dP (eY dP (dC dP) HD) HE
def AP:Mc:=eY dP wS tO
abbrev AQ:St:=⟨2,1,(fl (6:UInt8) 64),0,0,0,0,0,0,0,0,0⟩
abbrev AR:St:=⟨8,0,z6,0,1,0,0,0,1,0,40,0⟩
abbrev wT:St:=⟨1,1,z6,0,0,0,0,0,0,0,0,0⟩
abbrev wU:Mc:=eY dP (dC dP) AQ
abbrev tQ:Mc:=eY dP wU AR
abbrev lh:Mc:=eY dP tQ wT
abbrev gT:An:=gS dP tQ wT
theorem XY:(gS dP wS tO).e=0:=by decide+kernel
theorem XZ:(gS dP wS tO).n=0:=by decide+kernel
theorem HF:(gS dP wS tO).l=fl 6 64:=by decide+kernel
theorem X0:AP.x.s.g.l.length=1:=by decide+kernel
theorem X1:lc 1 AP.x.V.l=true:=by decide+kernel
theorem X2:AP.x.V.l.all (λa=>decide (0≤a.ex)&&decide (a.ex≤1000000))=true:=by decide+kernel
theorem X3{l:List Ac}(h:l.all (λa=>decide (0≤a.ex)&&decide (a.ex≤1000000))=true):tN l:=⟨λk=>by
 rw[ZB]
 cases hk:l[k]? with
 | none=>exact⟨Int.le_refl _,by decide⟩
 | some a=>
  have h1:=List.all_eq_true.1 h a (List.mem_of_getElem? hk)
  simpa using h1⟩
theorem AS(x:UInt8):(fl x 64).length=64:=by unfold fl;rw[List.length_append,Zz,Zz]
theorem HI:dd dP:=⟨⟨⟨by decide⟩,by decide,by decide,by decide⟩,.inl rfl,⟨by decide,by decide,by decide,by decide⟩,⟨by decide,by decide,by decide,by decide⟩,by decide,by decide,by decide,by decide,by decide,by decide⟩
theorem HJ:StOk HD:=⟨AS 6,by decide⟩
theorem HL:StOk HE:=⟨Zz,by decide⟩
theorem HN:StOk tO:=⟨Zz,by decide⟩
theorem X4:aa ZA 12 #[.agg #[i6 1,i6 0,i6 1,i6 2,i6 2,i6 0,i6 0,i6 1,i6 9,i6 9,i6 9,i6 9,i6 2,i6 2,i6 4,.bool true]] [] [] (λE=>[pk (br (E.ZK 0) (E.ZK 1) (E.ZK 2) (E.ZK 3) (E.ZK 4) (E.ZK 5) (E.ZK 6) (E.ZK 7) (E.ZK 8) (E.ZK 9) (E.ZK 10) (E.ZK 11) dP (dC dP))]) (λE=>pt (E.ZK 0) 0):=AO dP HI Dc
attribute [local irreducible] eY gS dC lc
theorem X5:(((gT.e)==0&&((gT.n)==0&&true))&&decide (gT.l=fl (6:UInt8) 64))=true:=by
 have h1:gT.e=0:=XY
 have h2:gT.n=0:=XZ
 have h3:gT.l=fl (6:UInt8) 64:=HF
 rw[h1,h2,h3];simp
theorem X6:gT.l.length=64:=by
 have h3:gT.l=fl (6:UInt8) 64:=HF
 rw[h3];exact AS 6
theorem X7:(((lh.x.s.g.l.length:Nat):Int)==1)=true:=by
 have h1:lh.x.s.g.l.length=1:=X0
 rw[h1];rfl
theorem X8:lc dP.mode lh.x.V.l=true:=X1
theorem HO:GM dP (dC dP) 0:=GM.start HI
theorem HP:GM dP wU 1:=HO.step Dc HJ
theorem HQ:GM dP tQ 2:=HP.step Dc HL
theorem X9:GM dP lh 3:=HQ.step Dc HN
theorem Ya:lh.x.V.l.length≤900000:=ZE (X9.vl Dc) Dc
theorem Yb:tN lh.x.V.l:=X3 X2
theorem Yc:StOk AQ:=HJ
theorem Yd:StOk AR:=HL
theorem Ye:StOk wT:=HN
theorem wV:aa ZA 11 #[] [] [] N0 (λ_=> .bool true):=by
 have hz6:z6.length=64:=Zz
 have hf6:=AS 6
 have hal:=X6
 refine fG Tryz.func11 λw cs=>?_
 refine r0 [] [(0,.bool false)] [] (rr (λ_=>[(0,.c [] [] (XX)),(2,.s 0)]) (λq2=>[(1,pt (B1 q2) 0)]) [] (λq2 L=>L++[ob (B1 q2) #[i6 1,i6 0,i6 1,i6 2,i6 2,i6 0,i6 0,i6 1,i6 9,i6 9,i6 9,i6 9,i6 2,i6 2,i6 4,.bool true] 31]) λq2=>rr (λ_=>[(0,.l 0),(1,.c [] [1] (X4))]) (λq3=>[(2,pt ((B1 q3)) 0)]) [] (λq3 L=>L++[pk (br (B1 q3) ((q3 1).ZK 1) ((q3 1).ZK 2) ((q3 1).ZK 3) ((q3 1).ZK 4) ((q3 1).ZK 5) ((q3 1).ZK 6) ((q3 1).ZK 7) ((q3 1).ZK 8) ((q3 1).ZK 9) ((q3 1).ZK 10) ((q3 1).ZK 11) dP (dC dP))]) λq3=>rF [] 9 (rr (λ_=>[(0,.c [] [] (TL (6:UInt8))),(2,.s 2)]) (λq5=>[(3,pt (B1 q5) 0)]) [] (λq5 L=>L++[ob (B1 q5) (rB 64 (fl (6:UInt8) 64)).toArray 43]) λq5=>rs [(1,.l 2),(3,.c [1] [1] (wR (B1 q3) ((q3 1).ZK 1) ((q3 1).ZK 2) ((q3 1).ZK 3) ((q3 1).ZK 4) ((q3 1).ZK 5) ((q3 1).ZK 6) ((q3 1).ZK 7) ((q3 1).ZK 8) ((q3 1).ZK 9) ((q3 1).ZK 10) ((q3 1).ZK 11) dP (dC dP) _ (by with_reducible exact HO) Dc AQ (by with_reducible exact Yc)))] 1 ((pk (br (B1 q3) ((q3 1).ZK 1) ((q3 1).ZK 2) ((q3 1).ZK 3) ((q3 1).ZK 4) ((q3 1).ZK 5) ((q3 1).ZK 6) ((q3 1).ZK 7) ((q3 1).ZK 8) ((q3 1).ZK 9) ((q3 1).ZK 10) ((q3 1).ZK 11) dP wU))) ?_))
 exact rs [(4,.c [1] [1] (wR (B1 q3) ((q3 1).ZK 1) ((q3 1).ZK 2) ((q3 1).ZK 3) ((q3 1).ZK 4) ((q3 1).ZK 5) ((q3 1).ZK 6) ((q3 1).ZK 7) ((q3 1).ZK 8) ((q3 1).ZK 9) ((q3 1).ZK 10) ((q3 1).ZK 11) dP wU _ (by with_reducible exact HP) Dc AR (by with_reducible exact Yd)))] 1 ((pk (br (B1 q3) ((q3 1).ZK 1) ((q3 1).ZK 2) ((q3 1).ZK 3) ((q3 1).ZK 4) ((q3 1).ZK 5) ((q3 1).ZK 6) ((q3 1).ZK 7) ((q3 1).ZK 8) ((q3 1).ZK 9) ((q3 1).ZK 10) ((q3 1).ZK 11) dP tQ))) (rr (λ_=>[(2,.c [1] [1] (wR (B1 q3) ((q3 1).ZK 1) ((q3 1).ZK 2) ((q3 1).ZK 3) ((q3 1).ZK 4) ((q3 1).ZK 5) ((q3 1).ZK 6) ((q3 1).ZK 7) ((q3 1).ZK 8) ((q3 1).ZK 9) ((q3 1).ZK 10) ((q3 1).ZK 11) dP tQ _ (by with_reducible exact HQ) Dc wT (by with_reducible exact Ye))),(4,.s 3)]) (λq8=>[(4,pt (B3 q8) 0)]) [] (λq8 L=>L.set 1 ((pk (br (B1 q3) ((q3 1).ZK 1) ((q3 1).ZK 2) ((q3 1).ZK 3) ((q3 1).ZK 4) ((q3 1).ZK 5) ((q3 1).ZK 6) ((q3 1).ZK 7) ((q3 1).ZK 8) ((q3 1).ZK 9) ((q3 1).ZK 10) ((q3 1).ZK 11) dP lh)))++[ob (B3 q8) (([i6 (gT.e),i6 (gT.n)]:List Value)++rB 64 (gT.l)).toArray 53]) λq8=>r0 [(0,.m (ls 3 (([i6 (gT.e),i6 (gT.n)]:List Value)++rB 64 (gT.l)))),(1,.m (ls 2 (rB 64 (fl (6:UInt8) 64)))),(2,.v (.agg (([i6 0,i6 0]:List Value)++rB 64 (fl (6:UInt8) 64)).toArray)),(3,.t (TH.cast (i9 53 λ_ _ _=>uu (xs:=([i6 (gT.e),i6 (gT.n)]:List Value)++rB 64 (gT.l)) (ys:=([i6 0,i6 0]:List Value)++rB 64 (fl (6:UInt8) 64)) Kr (fz Kr Kr bh (jp (show(gT.l).length=64 by(simp only[LL,hf6,hal];done)) (show(fl (6:UInt8) 64).length=64 by rfl)))) (show Value.bool ((((gT.e)==0&&((gT.n)==0&&true))&&decide (gT.l=fl (6:UInt8) 64)))= .bool true from ALca Value.bool (by exact X5)))),(4,.v (.bool true)),(5,.v (pt ((B1 q3)) 0)),(6,.c [1] [1] (XC (B1 q3) ((q3 1).ZK 1) ((q3 1).ZK 2) ((q3 1).ZK 3) ((q3 1).ZK 4) ((q3 1).ZK 5) ((q3 1).ZK 6) ((q3 1).ZK 7) ((q3 1).ZK 8) ((q3 1).ZK 9) ((q3 1).ZK 10) ((q3 1).ZK 11) dP lh)),(7,.c [1] [1] (XD (B1 q3) ((q3 1).ZK 1) ((q3 1).ZK 2) ((q3 1).ZK 3) ((q3 1).ZK 4) ((q3 1).ZK 5) ((q3 1).ZK 6) ((q3 1).ZK 7) ((q3 1).ZK 8) ((q3 1).ZK 9) ((q3 1).ZK 10) ((q3 1).ZK 11) dP lh)),(8,.c [1] [1] (XE (B1 q3) ((q3 1).ZK 1) ((q3 1).ZK 2) ((q3 1).ZK 3) ((q3 1).ZK 4) ((q3 1).ZK 5) ((q3 1).ZK 6) ((q3 1).ZK 7) ((q3 1).ZK 8) ((q3 1).ZK 9) ((q3 1).ZK 10) ((q3 1).ZK 11) dP lh)),(9,.t (tk (show Value.bool (((lh.x.s.g.l.length:Nat):Int)==1)= .bool true from ALca Value.bool (by exact X7)))),(11,.v (.bool true)),(12,.v (pt ((B1 q3)) 0)),(13,.c [1] [1] (aa.v ((AM (B1 q3) ((q3 1).ZK 1) ((q3 1).ZK 2) ((q3 1).ZK 3) ((q3 1).ZK 4) ((q3 1).ZK 5) ((q3 1).ZK 6) ((q3 1).ZK 7) ((q3 1).ZK 8) ((q3 1).ZK 9) ((q3 1).ZK 10) ((q3 1).ZK 11) dP lh Ya Yb)) λ_=>ALca Value.bool (show(lc dP.mode lh.x.V.l)=true from(by exact X8)))),(15,.v (.bool true))] [(0,.bool true)] [0] (lf ab.zero [] [] []))
end Go.Proofs.YtbcodenfkijdnaaGreat.E
namespace Go.Proofs.YtbcodenfkijdnaaGreat.E
open Go Go.RowKit Go.Shelf
def de(c:Cf)(x:Mc)(l:List St):Nat→Mc
 | 0=>x
 | k+1=>eY c (de c x l k) (l.getD k av)
def mE(c:Cf)(x:Mc)(l:List St):Nat→List An
 | 0=>[]
 | k+1=>mE c x l k++[gS c (de c x l k) (l.getD k av)]
theorem Yf(c:Cf)(x:Mc)(l:List St):de c x l 0=x:=rfl
theorem Yg(c:Cf)(x:Mc)(l:List St)(k:Nat):de c x l (k+1)=eY c (de c x l k) (l.getD k av):=rfl
theorem Yh(c:Cf)(x:Mc)(l:List St):mE c x l 0=[]:=rfl
theorem HR(c:Cf)(x:Mc)(l:List St)(k:Nat):mE c x l (k+1)=mE c x l k++[gS c (de c x l k) (l.getD k av)]:=rfl
theorem HT(c:Cf)(x:Mc)(l:List St): ∀k,(mE c x l k).length=k
 | 0=>rfl
 | k+1=>by rw[HR,List.length_append,HT];rfl
structure oW (l:List St):Prop where
 a: ∀k,StOk (l.getD k av)
theorem tS{c:Cf}{x:Mc}{n:Nat}(h:GM c x n){l:List St}(hs:oW l): ∀k,n+k≤900→GM c (de c x l k) (n+k)
 | 0,_=>h
 | k+1,hk=>(tS h hs k Om).step Om (hs.a k)
attribute [local irreducible] de mE eY gS
theorem Yi(g gc gl gr gm gq gk gt gg gd ge go:Nat)(c:Cf)(x:Mc)(n:Nat)(h:GM c x n)(v:Value)(l:List St)(hl:n+l.length≤900)(hs:oW l):aa Tryz.prog 28 #[pt g 0,v] [pk (br g gc gl gr gm gq gk gt gg gd ge go c x),.p (aK eSt v l)] [0] (λE=>[pk (br g gc gl gr gm gq gk gt gg gd ge go c (de c x l l.length)),wL (E.val 0) (mE c x l l.length)]) (λE=>(E.val 0)):=by
 refine fO Tryz.func28 1 rfl λbq1 hq1=>?_
 refine fG Tryz.func28 λw cs=>?_
 refine r0 [] [(4,.slice none 0 0)] [] (r0 [] [(5,.slice none 0 0)] [] (r0 [(1,eR hq1.1 1)] [(8,v),(9,iN l.length),(10,i6 0)] [] ?_))
 refine cz Hk ?_
 refine mN (λk _=>k≤l.length) (λk vS5=>[(10,iN k),(5,vS5)]) (λk vS5 L=>(L.set 0 ((pk (br g gc gl gr gm gq gk gt gg gd ge go c (de c x l k))))).set 2 (wL vS5 (mE c x l k))) (λk _=>l.length-k) 0 (.slice none 0 0) Om Kr (by rw[Yf,Yh];kernel_rfl) (λk vS5 hk4=>?_)
 have hkk:=hk4
 have hgm:=tS h hs k Om
 have hnk:n+k≤900:=by omega
 have hsk:=hs.a k
 have hsd:=hsk.d
 have hal:=HT c x l k
 refine r0 [] [(11,.bool (decide ((k:Int)<(l.length:Int))))] [] ?_
 refine cj (k:Int) (l.length:Int) (λh6 dh6=>?_) λh6 dh6=>?_
 ·refine rr (λ_=>[(0,fF hq1.1 1 k 75),(1,nC VL hq1.1 1 k 0 75),(3,.s 3)]) (λq7=>[(7,pt (B2 q7) 0)]) [] (λq7 L=>L++[ob (B2 q7) (sV ((l.getD k av).k) ((l.getD k av).ln) ((l.getD k av).d) ((l.getD k av).m:Nat) ((l.getD k av).f0) ((l.getD k av).f1) ((l.getD k av).f2) ((l.getD k av).f3) ((l.getD k av).f4) ((l.getD k av).f5) ((l.getD k av).f6) ((l.getD k av).f7)) 50]) λq7=>?_
  refine rr (λ_=>[(2,.l 3),(3,.c [0] [0] (wR g gc gl gr gm gq gk gt gg gd ge go c (de c x l k) _ hgm hnk (⟨((l.getD k av).k),((l.getD k av).ln),((l.getD k av).d),((l.getD k av).m),((l.getD k av).f0),((l.getD k av).f1),((l.getD k av).f2),((l.getD k av).f3),((l.getD k av).f4),((l.getD k av).f5),((l.getD k av).f6),((l.getD k av).f7)⟩:St) hsk)),(4,.m (bs 4 1)),(5,fD Hk (vS5) (mE c x l k) 2 4 ([(⟨((gS c (de c x l k) (⟨((l.getD k av).k),((l.getD k av).ln),((l.getD k av).d),((l.getD k av).m),((l.getD k av).f0),((l.getD k av).f1),((l.getD k av).f2),((l.getD k av).f3),((l.getD k av).f4),((l.getD k av).f5),((l.getD k av).f6),((l.getD k av).f7)⟩:St)).e),((gS c (de c x l k) (⟨((l.getD k av).k),((l.getD k av).ln),((l.getD k av).d),((l.getD k av).m),((l.getD k av).f0),((l.getD k av).f1),((l.getD k av).f2),((l.getD k av).f3),((l.getD k av).f4),((l.getD k av).f5),((l.getD k av).f6),((l.getD k av).f7)⟩:St)).n),(gS c (de c x l k) (⟨((l.getD k av).k),((l.getD k av).ln),((l.getD k av).d),((l.getD k av).m),((l.getD k av).f0),((l.getD k av).f1),((l.getD k av).f2),((l.getD k av).f3),((l.getD k av).f4),((l.getD k av).f5),((l.getD k av).f6),((l.getD k av).f7)⟩:St)).l⟩:An)]))]) (λq8=>[(5,(q8 5).val 0)]) [5] (λq8 L=>(L.set 0 ((pk (br g gc gl gr gm gq gk gt gg gd ge go c (eY c (de c x l k) (⟨((l.getD k av).k),((l.getD k av).ln),((l.getD k av).d),((l.getD k av).m),((l.getD k av).f0),((l.getD k av).f1),((l.getD k av).f2),((l.getD k av).f3),((l.getD k av).f4),((l.getD k av).f5),((l.getD k av).f6),((l.getD k av).f7)⟩:St)))))).set 2 (wL ((q8 5).val 0) ((mE c x l k)++([(⟨((gS c (de c x l k) (⟨((l.getD k av).k),((l.getD k av).ln),((l.getD k av).d),((l.getD k av).m),((l.getD k av).f0),((l.getD k av).f1),((l.getD k av).f2),((l.getD k av).f3),((l.getD k av).f4),((l.getD k av).f5),((l.getD k av).f6),((l.getD k av).f7)⟩:St)).e),((gS c (de c x l k) (⟨((l.getD k av).k),((l.getD k av).ln),((l.getD k av).d),((l.getD k av).m),((l.getD k av).f0),((l.getD k av).f1),((l.getD k av).f2),((l.getD k av).f3),((l.getD k av).f4),((l.getD k av).f5),((l.getD k av).f6),((l.getD k av).f7)⟩:St)).n),(gS c (de c x l k) (⟨((l.getD k av).k),((l.getD k av).ln),((l.getD k av).d),((l.getD k av).m),((l.getD k av).f0),((l.getD k av).f1),((l.getD k av).f2),((l.getD k av).f3),((l.getD k av).f4),((l.getD k av).f5),((l.getD k av).f6),((l.getD k av).f7)⟩:St)).l⟩:An)])))++[ob (B4 q8) (([i6 ((gS c (de c x l k) (⟨((l.getD k av).k),((l.getD k av).ln),((l.getD k av).d),((l.getD k av).m),((l.getD k av).f0),((l.getD k av).f1),((l.getD k av).f2),((l.getD k av).f3),((l.getD k av).f4),((l.getD k av).f5),((l.getD k av).f6),((l.getD k av).f7)⟩:St)).e),i6 ((gS c (de c x l k) (⟨((l.getD k av).k),((l.getD k av).ln),((l.getD k av).d),((l.getD k av).m),((l.getD k av).f0),((l.getD k av).f1),((l.getD k av).f2),((l.getD k av).f3),((l.getD k av).f4),((l.getD k av).f5),((l.getD k av).f6),((l.getD k av).f7)⟩:St)).n)]:List Value)++rB 64 ((gS c (de c x l k) (⟨((l.getD k av).k),((l.getD k av).ln),((l.getD k av).d),((l.getD k av).m),((l.getD k av).f0),((l.getD k av).f1),((l.getD k av).f2),((l.getD k av).f3),((l.getD k av).f4),((l.getD k av).f5),((l.getD k av).f6),((l.getD k av).f7)⟩:St)).l)).toArray 53]) λq8=>r0 [(0,ad k 1)] [(10,i6 ((k+1:Nat):Int))] [10] ?_
  exact lE (k+1) ((q8 5).val 0) Om Om Kr [0,1,2] (by rw[Yg,HR];kernel_rfl)
 obtain rfl:l.length=k:=by omega
 refine lF ?_
 exact r0 [] [(4,vS5)] [4] (lf (.l [] [] [vS5]) [0,2] [(1,1)] [])
end Go.Proofs.YtbcodenfkijdnaaGreat.E
namespace Go.Proofs.YtbcodenfkijdnaaGreat.E
open Go Go.RowKit Go.Shelf
open Go.Proofs.Tryz renaming prog→Zz
open Nat renaming le_trans→ZA
theorem Yj(r s b m c way res mode lr er lp ep room heavy log:Int)(back:Bool)(h:m0 r s b m c way res mode lr er lp ep room heavy log=false)(v:Value)(l:List St):aa Zz 9 #[.agg #[i6 r,i6 s,i6 b,i6 m,i6 c,i6 way,i6 res,i6 mode,i6 lr,i6 er,i6 lp,i6 ep,i6 room,i6 heavy,i6 log,.bool back],v] [.p (aK eSt v l)] [] N0 (λ_=> .bool true):=by
 refine fO Tryz.func9 0 rfl λbq0 hq0=>?_
 refine fG Tryz.func9 λw cs=>?_
 exact ra (λq1=>[(2,pt (B0 q1) 0),(4,.bool false)]) (λq1=>[ob (B0 q1) #[i6 r,i6 s,i6 b,i6 m,i6 c,i6 way,i6 res,i6 mode,i6 lr,i6 er,i6 lp,i6 ep,i6 room,i6 heavy,i6 log,.bool back] 31]) λq1=>rF [(0,.c [] [] (wV))] 7 (r0 [(0,.l 1),(1,.c [] [] (Xw r s b m c way res mode lr er lp ep room heavy log back h))] [(5,.pointer none)] [] (rT [(3,.d),(4,.d),(5,.d)] 16 (r0 [] [(4,.bool true)] [4] (lf ab.zero [] [(0,0)] []))))
theorem Yk(c:Cf)(hcf:dd c)(hs:oT c=false)(v:Value)(l:List St):aa Zz 9 #[.agg (cA c),v] [.p (aK eSt v l)] [] N0 (λ_=> .bool true):=by
 refine fO Tryz.func9 0 rfl λbq0 hq0=>?_
 refine fG Tryz.func9 λw cs=>?_
 exact ra (λq1=>[(2,pt (B0 q1) 0),(4,.bool false)]) (λq1=>[ob (B0 q1) (cA c) 31]) λq1=>rF [(0,.c [] [] (wV))] 7 (r0 [(0,.l 1),(1,.c [] [] (XW c hcf hs))] [(5,.pointer none)] [] (rT [(3,.d),(4,.d),(5,.d)] 16 (r0 [] [(4,.bool true)] [4] (lf ab.zero [] [(0,0)] []))))
theorem Yl(c:Cf)(hcf:dd c)(hs:oT c=true)(v:Value)(l:List St)(hl:80<l.length):aa Zz 9 #[.agg (cA c),v] [.p (aK eSt v l)] [] N0 (λ_=> .bool true):=by
 refine fO Tryz.func9 0 rfl λbq0 hq0=>?_
 refine fG Tryz.func9 λw cs=>?_
 exact ra (λq1=>[(2,pt (B0 q1) 0),(4,.bool false)]) (λq1=>[ob (B0 q1) (cA c) 31]) λq1=>rF [(0,.c [] [] (wV))] 7 (rr (λ_=>[(0,.l 1),(1,.c [] [2] (AO c hcf hs))]) (λq3=>[(5,pt ((B1 q3)) 0)]) [] (λq3 L=>L++[pk (br (B1 q3) (((q3 1).ZK 1)) (((q3 1).ZK 2)) (((q3 1).ZK 3)) (((q3 1).ZK 4)) (((q3 1).ZK 5)) (((q3 1).ZK 6)) (((q3 1).ZK 7)) (((q3 1).ZK 8)) (((q3 1).ZK 9)) (((q3 1).ZK 10)) (((q3 1).ZK 11)) c (dC c))]) λq3=>rT [(4,eR hq0.1 0),(5,.t (tk (show Value.bool (decide (80<(l.length:Int)))= .bool true from ALca Value.bool (by exact cC Om))))] 16 (r0 [] [(4,.bool true)] [4] (lf ab.zero [] [(0,0)] [])))
def tT(c:Cf)(l:List St):Bool:=(bif lc c.mode (de c (dC c) l l.length).x.V.l then(de c (dC c) l l.length).sv.all jm else true)
theorem Ym(c:Cf)(hcf:dd c)(hs:oT c=true)(v:Value)(l:List St)(hl:l.length≤80)(hls:oW l)(hx:tN (de c (dC c) l l.length).x.V.l)(hy:AN (de c (dC c) l l.length).sv):aa Zz 9 #[.agg (cA c),v] [.p (aK eSt v l)] [] N0 (λ_=> .bool (tT c l)):=by
 have g0:=GM.start hcf
 have g1:=tS g0 hls l.length Om
 have gv:(de c (dC c) l l.length).x.V.l.length≤900000:=ZA (g1.vl Om) Dc
 have gs:(de c (dC c) l l.length).sv.length≤900000:=ZA g1.ok.sl Om
 have hl0:0+l.length≤900:=by omega
 refine fO Tryz.func9 0 rfl λbq0 hq0=>?_
 refine fG Tryz.func9 λw cs=>?_
 refine ra (λq1=>[(2,pt (B0 q1) 0),(4,.bool false)]) (λq1=>[ob (B0 q1) (cA c) 31]) λq1=>rF [(0,.c [] [] (wV))] 7 (rr (λ_=>[(0,.l 1),(1,.c [] [2] (AO c hcf hs))]) (λq3=>[(5,pt ((B1 q3)) 0)]) [] (λq3 L=>L++[pk (br (B1 q3) (((q3 1).ZK 1)) (((q3 1).ZK 2)) (((q3 1).ZK 3)) (((q3 1).ZK 4)) (((q3 1).ZK 5)) (((q3 1).ZK 6)) (((q3 1).ZK 7)) (((q3 1).ZK 8)) (((q3 1).ZK 9)) (((q3 1).ZK 10)) (((q3 1).ZK 11)) c (dC c))]) λq3=>rF [(4,eR hq0.1 0),(5,.t (tk (show Value.bool (decide (80<(l.length:Int)))= .bool false from ALca Value.bool (by exact bj Om))))] 16 (rr (λ_=>[(2,.c [2,0] [2,3] (aa.at (rd':=[pk (br (B1 q3) (((q3 1).ZK 1)) (((q3 1).ZK 2)) (((q3 1).ZK 3)) (((q3 1).ZK 4)) (((q3 1).ZK 5)) (((q3 1).ZK 6)) (((q3 1).ZK 7)) (((q3 1).ZK 8)) (((q3 1).ZK 9)) (((q3 1).ZK 10)) (((q3 1).ZK 11)) c (dC c)),.c bq0]) (Yi (B1 q3) ((q3 1).ZK 1) ((q3 1).ZK 2) ((q3 1).ZK 3) ((q3 1).ZK 4) ((q3 1).ZK 5) ((q3 1).ZK 6) ((q3 1).ZK 7) ((q3 1).ZK 8) ((q3 1).ZK 9) ((q3 1).ZK 10) ((q3 1).ZK 11) c (dC c) _ g0 v l hl0 hls) (atS (em hq0 (λ_ h=>h)))))]) N0 [] (λq5 L=>L.set 2 ((pk (br (B1 q3) ((q3 1).ZK 1) ((q3 1).ZK 2) ((q3 1).ZK 3) ((q3 1).ZK 4) ((q3 1).ZK 5) ((q3 1).ZK 6) ((q3 1).ZK 7) ((q3 1).ZK 8) ((q3 1).ZK 9) ((q3 1).ZK 10) ((q3 1).ZK 11) c (de c (dC c) l l.length))))++[wL ((q5 2).val 0) (mE c (dC c) l l.length)]) λq5=>?_))
 cases h6:(lc c.mode (de c (dC c) l l.length).x.V.l)
 case true=>
  refine r0 [(1,.c [2] [2] (aa.v ((AM (B1 q3) ((q3 1).ZK 1) ((q3 1).ZK 2) ((q3 1).ZK 3) ((q3 1).ZK 4) ((q3 1).ZK 5) ((q3 1).ZK 6) ((q3 1).ZK 7) ((q3 1).ZK 8) ((q3 1).ZK 9) ((q3 1).ZK 10) ((q3 1).ZK 11) c (de c (dC c) l l.length) gv hx)) λ_=>ALca Value.bool (show(lc c.mode (de c (dC c) l l.length).x.V.l)=true from h6))),(5,.c [2] [2] (XV (B1 q3) ((q3 1).ZK 1) ((q3 1).ZK 2) ((q3 1).ZK 3) ((q3 1).ZK 4) ((q3 1).ZK 5) ((q3 1).ZK 6) ((q3 1).ZK 7) ((q3 1).ZK 8) ((q3 1).ZK 9) ((q3 1).ZK 10) ((q3 1).ZK 11) c (de c (dC c) l l.length) gs hy))] [(4,.bool ((de c (dC c) l l.length).sv.all jm))] [4] ?_
  exact am (.bool ((de c (dC c) l l.length).sv.all jm)) ab.zero (by((try simp only[tT]);(repeat (first | rw[h6] | rw[ALct])))<;>rfl) [] [(0,0)] []
 refine r0 [(1,.c [2] [2] (aa.v ((AM (B1 q3) ((q3 1).ZK 1) ((q3 1).ZK 2) ((q3 1).ZK 3) ((q3 1).ZK 4) ((q3 1).ZK 5) ((q3 1).ZK 6) ((q3 1).ZK 7) ((q3 1).ZK 8) ((q3 1).ZK 9) ((q3 1).ZK 10) ((q3 1).ZK 11) c (de c (dC c) l l.length) gv hx)) λ_=>ALca Value.bool (show(lc c.mode (de c (dC c) l l.length).x.V.l)=false from h6))),(4,.d),(5,.d)] [(4,.bool true)] [4] ?_
 exact am (.bool true) ab.zero (by((try simp only[tT]);(repeat (first | rw[h6] | rw[ALcf])))<;>rfl) [] [(0,0)] []
structure na (c:Cf) (p:Ac→Prop):Prop where
 w: ∀i (t:Int) d,p ⟨true,i,t,d,0,false⟩
 r: ∀V i,p (nY c V i)
section
variable {c:Cf} {p:Ac→Prop} {x:Ct}
theorem AT{l:List Ac}{a:Ac}(h: ∀a∈l,p a)(ha:p a): ∀b∈l++[a],p b:=λb hb=>(List.mem_append.1 hb).elim (h b) λe=>by rw[List.mem_singleton.1 e];exact ha
theorem rj(hp:na c p)(h: ∀a∈x.V.l,p a)(i:Nat)(l:List UInt8)(q:Bool): ∀a∈(m8 c x i l q).V.l,p a:=AT h (hp.w _ _ _)
theorem AU(hp:na c p)(h: ∀a∈x.V.l,p a)(i hm r:Nat): ∀a∈(bY c x i hm r).V.l,p a:=AT h (hp.r _ _)
theorem HU(hp:na c p)(h: ∀a∈x.V.l,p a)(n:Nat)(b:Bool): ∀a∈(cy c x n b).V.l,p a:=by
 have h1:=AU hp h (aA x n) (kD x n) (kE x n)
 unfold cy
 cases (((bq c x (aA x n):Nat):Int)==1)&&b
 ·exact h1
 ·exact rj (x:=iC c x n) hp h1 _ _ _
theorem HW(hp:na c p)(h: ∀a∈x.V.l,p a)(n:Nat)(l:List UInt8)(m:Nat): ∀a∈(bF c x n l m).V.l,p a:=by
 have h1:=AU hp h (aA x n) (kD x n) (kE x n)
 unfold bF
 cases (m:Int)==0
 ·cases decide (pc m=64)
  ·cases !(b6 (bq c x (aA x n))==0)
   ·exact rj (x:=iC c x n) hp h1 _ _ _
   ·exact rj (x:=iC c x n) hp h1 _ _ _
  ·exact rj hp h _ _ _
 ·exact h
theorem Yn(hp:na c p)(h: ∀a∈x.V.l,p a): ∀a∈(ic c x).V.l,p a:=by
 show ∀a∈(fK c x).V.l,p a
 unfold fK
 cases mC x
 ·exact rj hp h _ _ _
 ·exact rj (x:=wq c x) hp (AU hp h _ _ _) _ _ _
end
theorem Yo{c:Cf}{p:Ac→Prop}{x:Mc}(hp:na c p)(h: ∀a∈x.x.V.l,p a)(s:St): ∀a∈(ie c x s).x.V.l,p a:=by
 unfold ie
 split
 ·split
  ·exact HU hp h _ _
  ·split
   ·exact HW hp h _ _ _
   ·split<;>exact HW hp h _ _ _
 ·exact h
theorem Yp{c:Cf}{p:Ac→Prop}{x:Mc}(hp:na c p)(h: ∀a∈x.x.V.l,p a)(s:St): ∀a∈(eY c x s).x.V.l,p a:=by
 unfold eY
 split
 ·split
  ·exact HU (x:=jP c x.x) hp h _ _
  ·split
   ·split
    ·exact h
    ·exact Yn hp h
   ·split
    ·exact h
    ·split
     ·exact h
     ·split
      ·exact h
      ·exact Yo (x:={x with st:=x.st+1}) hp h s
 ·exact h
theorem HX{c:Cf}{p:Ac→Prop}(hp:na c p): ∀k,∀a∈(fx c k).l,p a
 | 0=>λa ha=>absurd ha List.not_mem_nil
 | k+1=>AT (HX hp k) (hp.w _ _ _)
theorem HY{c:Cf}{p:Ac→Prop}(hp:na c p)(l:List St): ∀k,∀a∈(de c (dC c) l k).x.V.l,p a
 | 0=>HX hp _
 | k+1=>Yp hp (HY hp l k) _
theorem Yq(m:Int)(xs ys:List UInt8):dm m xs ys≤288:=by
 unfold dm
 rw[vz]
 intro i _
 have h1:=Aj (m:=m) (xs:=xs) (ys:=ys) (aU m*i) (aU m)
 have h2:=wi m
 have h3:wC m xs ys i≤8*aU m:=h1
 omega
theorem Yr(c:Cf):na c λa=>0≤a.ex∧a.ex≤1000000:=⟨λ_ _ _=>⟨Int.le_refl _,by show(0:Int)≤1000000;decide⟩,λV i=>by
 have h:=Yq (c.mode:Int) (cd c V.D i) (V.ZE (a8 V.D i))
 show 0≤((dm _ _ _:Nat):Int)∧((dm _ _ _:Nat):Int)≤1000000
 omega⟩
theorem Ys{l:List Ac}(h: ∀a∈l,0≤a.ex∧a.ex≤1000000):tN l:=⟨λk=>by
 rw[List.getD_eq_getElem?_getD]
 cases hk:l[k]? with
 | none=>exact⟨Int.le_refl _,by decide⟩
 | some a=>exact h a (List.mem_of_getElem? hk)⟩
end Go.Proofs.YtbcodenfkijdnaaGreat.E
namespace Go.Proofs.YtbcodenfkijdnaaGreat.E
open Go Go.RowKit Go.Shelf
open List renaming length_replicate→Zz
open Nat renaming mod_lt→ZA,le_succ_of_le→ZB,add_comm→ZC,add_mul_mod_self_right→ZD,add_mul_div_right→ZE,div_eq_of_lt→ZF,div_add_mod→ZG,zero_add→ZH
def n7(l:List Sv):Prop:=∀y∈l,y.l.length=64∧y.w.length=64
theorem AV{l:List Sv}{a:Sv}(h:n7 l)(h1:a.l.length=64)(h2:a.w.length=64):n7 (l++[a]):=λb hb=>(List.mem_append.1 hb).elim (h b) λe=>by rw[List.mem_singleton.1 e];exact⟨h1,h2⟩
theorem Yt{c:Cf}{x:Mc}{K A N:Nat}(h:d8 c x K A N)(hs:n7 x.sv)(s:St):n7 (ie c x s).sv:=by
 unfold ie
 split
 ·split
  ·exact AV hs (oQ _ (m6 h.ct.D _) _) (h.il _)
  ·split
   ·exact AV hs Zz (h.il _)
   ·split
    ·exact hs
    ·exact AV hs Zz (h.il _)
 ·exact hs
theorem Yu{c:Cf}{x:Mc}{K A N:Nat}(h:d8 c x K A N)(hs:n7 x.sv)(s:St):n7 (eY c x s).sv:=by
 unfold eY
 split
 ·split
  ·exact hs
  ·split
   ·split<;>exact hs
   ·split
    ·exact hs
    ·split
     ·exact hs
     ·split
      ·exact hs
      ·have g:d8 c {x with st:=x.st+1} K A (N+1):=⟨h.ct,h.il,ZB h.jl,ZB h.sl,ZB h.sc,Nat.succ_le_succ h.st⟩
       exact Yt (x:={x with st:=x.st+1}) g hs s
 ·exact hs
theorem HZ{c:Cf}{x:Mc}{n:Nat}(h:GM c x n)(hx:n7 x.sv){l:List St}(hs:oW l): ∀k,n+k≤900→n7 (de c x l k).sv
 | 0,_=>hx
 | k+1,hk=>Yu (tS h hs k Om).ok (HZ h hx hs k Om) _
theorem Yv{l:List Sv}(h:n7 l):AN l:=by
 have key: ∀k,(l.getD k aV).l.length=64∧(l.getD k aV).w.length=64:=λk=>by
  rw[List.getD_eq_getElem?_getD]
  cases hk:l[k]? with
  | none=>exact⟨Zz,Zz⟩
  | some a=>exact h a (List.mem_of_getElem? hk)
 exact⟨λk=>(key k).1,λk=>(key k).2⟩
structure eM (r:Rp):Prop where
 inj: ∀i k,i<r.m.R*r.m.B*r.m.M-r.m.res→k<r.m.R*r.m.B*r.m.M-r.m.res→r.m.ZA.getD i 0=r.m.ZA.getD k 0→i=k
 ld: ∀i,i<r.m.R*r.m.B*r.m.M-r.m.res→r.m.ZB.getD (r.m.ZA.getD i 0) false=false
 lt: ∀i,i<r.m.R*r.m.B*r.m.M-r.m.res→r.m.ZA.getD i 0<r.m.R*r.m.B*r.m.M-r.m.res+r.m.ZH
 nt: ∀i,i<r.m.R*r.m.B*r.m.M-r.m.res→r.j.Zz=1→r.m.ZA.getD i 0≠r.j.tg
 al: ∀p,p<r.m.R*r.m.B*r.m.M-r.m.res+r.m.ZH→r.m.ZB.getD p false=false→(r.j.Zz=1∧p=r.j.tg)∨∃i,i<r.m.R*r.m.B*r.m.M-r.m.res∧r.m.ZA.getD i 0=p
 si: ∀a b,a<r.m.R→b<r.m.R→dM r.m a=true→r.m.ZC.getD a 0=r.m.ZC.getD b 0→a=b
 sl: ∀a,a<r.m.R→r.m.ZC.getD a 0<((r.m.R+r.m.ZI:Nat):Int)
 st: ∀a,a<r.m.R→r.j.Zz=2→r.m.ZC.getD a 0≠(r.j.tg:Int)
theorem pY{m:Mp}{a:Nat}(h:dM m a=true):m.ZC.getD a 0≠ -1:=by unfold dM at h;simpa using h
theorem wW{R S B M C p0 p1 p2 p3 q0 q1 q2 q3:Nat}(hG:Zs R S B M C)(hp:gZ R S B M C p0 p1 p2 p3)(hq:gZ R S B M C q0 q1 q2 q3)(e:bJ p0 p1 p2 p3=bJ q0 q1 q2 q3):p0=q0∧p1=q1∧p2=q2∧p3=q3:=by
 have h1:=zw hG hp
 have h2:=zw hG hq
 rw[e] at h1
 exact⟨h1.1.symm.trans h2.1,h1.2.1.symm.trans h2.2.1,h1.2.2.1.symm.trans h2.2.2.1,h1.2.2.2.symm.trans h2.2.2.2⟩
theorem Yw{m:Mp}(h:Zr m){p q:Nat}(hp:p<m.R*m.B*m.M)(hq:q<m.R*m.B*m.M)(e0:aF m.way m.R m.B m.M p=aF m.way m.R m.B m.M q)(e1:ed m.way m.R m.B m.M p=ed m.way m.R m.B m.M q)(e2:ec m.way m.R m.B m.M p=ec m.way m.R m.B m.M q):p=q:=by
 rw[←zx (way:=m.way) h.ZJ hp,←zx (way:=m.way) h.ZJ hq,e0,e1,e2]
theorem Yx{m:Mp}(h:Zr m)(si: ∀a b,a<m.R→b<m.R→dM m a=true→m.ZC.getD a 0=m.ZC.getD b 0→a=b){p q:Nat}(e:gO m p=gO m q):aF m.way m.R m.B m.M p=aF m.way m.R m.B m.M q:=by
 have h1:=nP (p:=p) (way:=m.way) h.ZJ
 have h2:=nP (p:=q) (way:=m.way) h.ZJ
 unfold gO at e
 cases ha:dM m (aF m.way m.R m.B m.M p)
 ·cases hb:dM m (aF m.way m.R m.B m.M q)
  ·rw[ha,hb] at e;exact e
  ·rw[ha,hb,ALcf,ALct] at e
   have:=(h.sp _ h2).resolve_left (pY hb)
   omega
 ·cases hb:dM m (aF m.way m.R m.B m.M q)
  ·rw[ha,hb,ALcf,ALct] at e
   have:=(h.sp _ h1).resolve_left (pY ha)
   omega
  ·rw[ha,hb,ALct,ALct] at e
   have h3:=(h.sp _ h1).resolve_left (pY ha)
   have h4:=(h.sp _ h2).resolve_left (pY hb)
   exact si _ _ h1 h2 ha Om
theorem AW{C n k:Nat}(h:n/C=k/C)(g:n%C=k%C):n=k:=by rw[←ZG n C,←ZG k C,h,g]
theorem rl{m:Mp}(h:Zr m)(si: ∀a b,a<m.R→b<m.R→dM m a=true→m.ZC.getD a 0=m.ZC.getD b 0→a=b){p q i k:Nat}(hp:p<m.R*m.B*m.M)(hq:q<m.R*m.B*m.M)(hi:i<m.C)(hk:k<m.C)(e:bD m p*64+i=bD m q*64+k):p=q∧i=k:=by
 rw[Av,Av] at e
 have h1:=qD h hp
 have h2:=qD h hq
 obtain⟨e0,e1,e2,e3⟩:=wW h.ZJ.bd ⟨h1.h0,h1.h1,h1.h2,hi⟩ ⟨h2.h0,h2.h1,h2.h2,hk⟩ e
 exact⟨Yw h hp hq (Yx h si e0) e1 e2,e3⟩
def lZ(m:Mp)(j:Jb)(n:Nat):Bool:=if j.Zz=1 then decide (ao m n=j.fr) else decide (aF m.way m.R m.B m.M (ao m n)=j.fr)
def ig(m:Mp)(j:Jb)(n:Nat):Nat:=if j.Zz=1 then n%m.C else fu m n
theorem H0{m:Mp}(h:Zr m){n:Nat}(hn:n<(m.R*m.B*m.M-m.res)*m.C)(t:Nat):iQ m t (fu m n)=bJ t (ed m.way m.R m.B m.M (ao m n)) (ec m.way m.R m.B m.M (ao m n)) (n%m.C):=by
 have hi:=qH h hn
 have hc:=ZA n h.ZJ.bd.c1
 have e1:fu m n/m.C=ed m.way m.R m.B m.M (ao m n)*m.M+ec m.way m.R m.B m.M (ao m n):=by unfold fu;rw[ZC,ZE _ _ h.ZJ.bd.c1,ZF hc,ZH]
 have e2:fu m n%m.C=n%m.C:=by unfold fu;rw[ZC,ZD,Nat.mod_mod]
 have e3:(ed m.way m.R m.B m.M (ao m n)*m.M+ec m.way m.R m.B m.M (ao m n))/m.M=ed m.way m.R m.B m.M (ao m n):=by rw[ZC,ZE _ _ h.ZJ.bd.m1,ZF hi.h2,ZH]
 have e4:(ed m.way m.R m.B m.M (ao m n)*m.M+ec m.way m.R m.B m.M (ao m n))%m.M=ec m.way m.R m.B m.M (ao m n):=by rw[ZC,ZD,Nat.mod_eq_of_lt hi.h2]
 unfold iQ
 rw[e1,e2,e3,e4]
theorem wX{m:Mp}(h:Zr m){r t i k:Nat}(hr:r<m.R+m.S)(ht:t<m.R+m.S)(hi:i<m.B*m.M*m.C)(hk:k<m.B*m.M*m.C)(e:iQ m r i=iQ m t k):r=t∧i=k:=by
 obtain⟨e0,e1,e2,e3⟩:=wW h.ZJ.bd (oJ h hr hi) (oJ h ht hk) e
 exact⟨e0,AW (C:=m.C) (AW (C:=m.M) e1 e2) e3⟩
section
variable {r:Rp}
theorem tV(h:aN r){n:Nat}(hn:n<(r.m.R*r.m.B*r.m.M-r.m.res)*r.m.C):n/r.m.C<r.m.R*r.m.B*r.m.M-r.m.res:=zB h.m hn
theorem Yy(hI:eM r)(h:aN r){n k:Nat}(hn:n<(r.m.R*r.m.B*r.m.M-r.m.res)*r.m.C)(hk:k<(r.m.R*r.m.B*r.m.M-r.m.res)*r.m.C)(e:ao r.m n=ao r.m k)(g:n%r.m.C=k%r.m.C):n=k:=AW (hI.inj _ _ (tV h hn) (tV h hk) e) g
theorem rm(hI:eM r)(h:aN r){n k:Nat}(hn:n<(r.m.R*r.m.B*r.m.M-r.m.res)*r.m.C)(hk:k<(r.m.R*r.m.B*r.m.M-r.m.res)*r.m.C)(e:cQ r.m n=cQ r.m k):n=k:=by
 have hc:=h.m.ZJ.bd.c1
 obtain⟨e1,e2⟩:=rl h.m hI.si (nR h.m hn) (nR h.m hk) (ZA _ hc) (ZA _ hc) e
 exact Yy hI h hn hk e1 e2
theorem oX(h:aN r)(hb:r.j.Zz≠0)(n:Nat):aH r.m r.j n=if lZ r.m r.j n=true then(if ig r.m r.j n<r.j.nx then aQ r.m r.j.Zz r.j.tg (ig r.m r.j n) else cQ r.m n) else cQ r.m n:=by
 unfold aH lZ ig
 rcases th h hb with e | e
 ·rw[e];simp only[if_true,decide_eq_true_eq]
 ·rw[e];simp only[show ¬(2:Nat)=1 by decide,if_false,decide_eq_true_eq]
theorem pZ(h:aN r)(hb:r.j.Zz≠0){n:Nat}(hn:n<(r.m.R*r.m.B*r.m.M-r.m.res)*r.m.C):ig r.m r.j n<eK r.j.Zz r.m.B r.m.M r.m.C:=by
 unfold ig
 rcases th h hb with e | e
 ·rw[e,ALifp rfl];exact ZA _ h.m.ZJ.bd.c1
 ·rw[e,ALifn Dc];exact td h.m hn
theorem Yz{m:Mp}{p fr:Nat}(e:aF m.way m.R m.B m.M p=fr)(h:dM m fr=false):gO m p=fr:=by unfold gO;rw[e,h,ALcf]
theorem wY(h:aN r)(hb:r.j.Zz≠0){n:Nat}(hn:n<(r.m.R*r.m.B*r.m.M-r.m.res)*r.m.C)(ho:lZ r.m r.j n=true):cQ r.m n=aQ r.m r.j.Zz r.j.fr (ig r.m r.j n):=by
 unfold lZ at ho
 unfold ig
 rcases h.j.k with e | ⟨e,hj⟩ | ⟨e,hj⟩
 ·rw[e] at hb;exact absurd rfl hb
 ·rw[e,ALifp rfl] at ho
  rw[e,ALifp rfl]
  have ho:=of_decide_eq_true ho
  unfold cQ;rw[ho];rfl
 ·rw[e,ALifn Dc] at ho
  rw[e,ALifn Dc]
  have ho:=of_decide_eq_true ho
  show _=iQ r.m r.j.fr (fu r.m n)
  rw[H0 h.m hn,pI,Yz ho hj.hs]
theorem AX(hI:eM r)(h:aN r)(hb:r.j.Zz≠0){n i:Nat}(hn:n<(r.m.R*r.m.B*r.m.M-r.m.res)*r.m.C)(hi:i<eK r.j.Zz r.m.B r.m.M r.m.C)(he:cQ r.m n=aQ r.m r.j.Zz r.j.fr i):lZ r.m r.j n=true∧ig r.m r.j n=i:=by
 have hc:=h.m.ZJ.bd.c1
 rcases h.j.k with e | ⟨e,hj⟩ | ⟨e,hj⟩
 ·rw[e] at hb;exact absurd rfl hb
 ·unfold lZ ig
  rw[e] at he hi
  rw[e,ALifp rfl,ALifp rfl]
  obtain⟨e1,e2⟩:=rl h.m hI.si (nR h.m hn) hj.hf (ZA _ hc) hi he
  exact⟨cC e1,e2⟩
 ·have ho:=wY h hb hn (r:=r)
  unfold lZ ig at ho⊢
  rw[e] at he hi ho
  rw[ALifn Dc] at ho
  rw[e,ALifn Dc,ALifn Dc]
  have hh:=qH h.m hn
  have hf:=hj.hf
  have hx:=oJ h.m (r:=r.j.fr) (i:=i) Om hi
  have he2:bJ _ _ _ _=bJ _ _ _ _:=(pI r.m n).symm.trans he
  obtain⟨e0,_,_,_⟩:=wW h.m.ZJ.bd hh hx he2
  have hR:aF r.m.way r.m.R r.m.B r.m.M (ao r.m n)=r.j.fr:=by
   unfold gO at e0
   cases hs:dM r.m (aF r.m.way r.m.R r.m.B r.m.M (ao r.m n))
   ·rw[hs] at e0;exact e0
   ·rw[hs,ALct] at e0
    have:=(h.m.sp _ (nP (p:=ao r.m n) (way:=r.m.way) h.m.ZJ)).resolve_left (pY hs)
    omega
  refine⟨cC hR,?_⟩
  have h3:=ho (cC hR)
  rw[ALifn Dc] at h3
  exact(wX h.m Om Om (td h.m hn) hi (h3.symm.trans he)).2
theorem rn(hI:eM r)(h:aN r)(hb:r.j.Zz≠0){n i:Nat}(hn:n<(r.m.R*r.m.B*r.m.M-r.m.res)*r.m.C)(hi:i<eK r.j.Zz r.m.B r.m.M r.m.C):aQ r.m r.j.Zz r.j.tg i≠cQ r.m n:=by
 have hc:=h.m.ZJ.bd.c1
 intro he
 rcases h.j.k with e | ⟨e,hj⟩ | ⟨e,hj⟩
 ·rw[e] at hb;exact absurd rfl hb
 ·rw[e] at he hi
  obtain⟨e1,e2⟩:=rl h.m hI.si hj.ht (nR h.m hn) hi (ZA _ hc) he
  exact hI.nt _ (tV h hn) e e1.symm
 ·rw[e] at he hi
  have h1:=hj.t1;have h2:=h.m.rk;have h0:=hj.t0
  have hx:=oJ h.m (r:=r.j.tg) (i:=i) Om hi
  have he2:bJ _ _ _ _=bJ _ _ _ _:=he.trans (pI r.m n)
  obtain⟨e0,_,_,_⟩:=wW h.m.ZJ.bd hx (qH h.m hn) he2
  have hl:=nP (p:=ao r.m n) (way:=r.m.way) h.m.ZJ
  unfold gO at e0
  cases hs:dM r.m (aF r.m.way r.m.R r.m.B r.m.M (ao r.m n))
  ·rw[hs,ALcf] at e0;omega
  ·rw[hs,ALct] at e0
   have:=(h.m.sp _ hl).resolve_left (pY hs)
   exact hI.st _ hl e Om
theorem H1(hI:eM r)(h:aN r)(hb:r.j.Zz≠0){i k:Nat}(hi:i<eK r.j.Zz r.m.B r.m.M r.m.C)(hk:k<eK r.j.Zz r.m.B r.m.M r.m.C)(he:aQ r.m r.j.Zz r.j.tg i=aQ r.m r.j.Zz r.j.tg k):i=k:=by
 rcases h.j.k with e | ⟨e,hj⟩ | ⟨e,hj⟩
 ·rw[e] at hb;exact absurd rfl hb
 ·rw[e] at he hi hk
  exact(rl h.m hI.si hj.ht hj.ht hi hk he).2
 ·rw[e] at he hi hk
  have h1:=hj.t1;have h2:=h.m.rk
  exact(wX h.m Om Om hi hk he).2
theorem YA(hI:eM r)(h:aN r){n k:Nat}(hn:n<(r.m.R*r.m.B*r.m.M-r.m.res)*r.m.C)(hk:k<(r.m.R*r.m.B*r.m.M-r.m.res)*r.m.C)(e:aH r.m r.j n=aH r.m r.j k):n=k:=by
 by_cases hb:r.j.Zz=0
 ·unfold aH at e
  rw[hb] at e
  exact rm hI h hn hk e
 rw[oX h hb,oX h hb] at e
 have an:=pZ h hb hn
 have ak:=pZ h hb hk
 split at e
 ·rename_i on
  split at e
  ·split at e
   ·rename_i ok
    split at e
    ·have:=H1 hI h hb an ak e
     refine rm hI h hn hk ?_
     rw[wY h hb hn on,wY h hb hk ok,this]
    ·exact absurd e (rn hI h hb hk an)
   ·exact absurd e (rn hI h hb hk an)
  ·split at e
   ·split at e
    ·exact absurd e.symm (rn hI h hb hn ak)
    ·exact rm hI h hn hk e
   ·exact rm hI h hn hk e
 ·split at e
  ·split at e
   ·exact absurd e.symm (rn hI h hb hn ak)
   ·exact rm hI h hn hk e
  ·exact rm hI h hn hk e
theorem H2(hI:eM r)(h:aN r)(hb:r.j.Zz≠0)(hx:r.j.nx<eK r.j.Zz r.m.B r.m.M r.m.C){n:Nat}(hn:n<(r.m.R*r.m.B*r.m.M-r.m.res)*r.m.C):aH r.m r.j n≠aQ r.m r.j.Zz r.j.tg r.j.nx:=by
 intro e
 have an:=pZ h hb hn
 rw[oX h hb] at e
 split at e
 ·split at e
  ·have:=H1 hI h hb an hx e
   omega
  ·exact rn hI h hb hn hx e.symm
 ·exact rn hI h hb hn hx e.symm
theorem YB(hI:eM r)(h:aN r)(hb:r.j.Zz≠0)(hx:r.j.nx<eK r.j.Zz r.m.B r.m.M r.m.C){n:Nat}(hn:n<(r.m.R*r.m.B*r.m.M-r.m.res)*r.m.C):aH r.m (bv r).j n=if aH r.m r.j n=aQ r.m r.j.Zz r.j.fr r.j.nx then aQ r.m r.j.Zz r.j.tg r.j.nx else aH r.m r.j n:=by
 have an:=pZ h hb hn
 have e1:aH r.m (bv r).j n=if lZ r.m r.j n=true then(if ig r.m r.j n<r.j.nx+1 then aQ r.m r.j.Zz r.j.tg (ig r.m r.j n) else cQ r.m n) else cQ r.m n:=oX (r:=bv r) (qL h hb hx) hb n
 rw[e1,oX h hb]
 by_cases ho:lZ r.m r.j n=true
 ·rw[ALifp ho,ALifp ho]
  have hs:=wY h hb hn ho
  by_cases h1:ig r.m r.j n<r.j.nx
  ·rw[ALifp (show ig r.m r.j n<r.j.nx+1 by omega),ALifp h1,ALifn]
   intro e
   obtain⟨m',_,e'⟩: ∃k,k<(r.m.R*r.m.B*r.m.M-r.m.res)*r.m.C∧True:=⟨n,hn,trivial⟩
   rcases h.j.k with e2 | ⟨e2,hj⟩ | ⟨e2,hj⟩
   ·rw[e2] at hb;exact absurd rfl hb
   ·rw[e2] at e hx an
    have:=(rl h.m hI.si hj.ht hj.hf an hx e).2
    omega
   ·rw[e2] at e hx an
    have h3:=hj.t1;have h2:=h.m.rk;have h4:=hj.hf
    have:=(wX h.m Om Om an hx e).2
    omega
  ·rw[ALifn h1]
   by_cases h2:ig r.m r.j n=r.j.nx
   ·rw[ALifp (show ig r.m r.j n<r.j.nx+1 by omega),ALifp (by rw[hs,h2]),h2]
   ·rw[ALifn (show ¬ig r.m r.j n<r.j.nx+1 by omega),ALifn]
    intro e
    exact h2 (AX hI h hb hn hx e).2
 ·rw[ALifn ho,ALifn ho,ALifn]
  intro e
  exact ho (AX hI h hb hn hx e).1
end
end Go.Proofs.YtbcodenfkijdnaaGreat.E
namespace Go.Proofs.YtbcodenfkijdnaaGreat.E
open Go Go.RowKit Go.Shelf
open List renaming getD_eq_getElem?_getD→Zz,replicate→ZB,getElem?_eq_getElem→ZC,range→ZD,getElem?_replicate→ZE
open Nat renaming noConfusion→ZA,not_lt_zero→ZF
section
variable {r:Rp}
structure fS (r r':Rp):Prop where
 i:eM r'
 e: ∀n,n<(r.m.R*r.m.B*r.m.M-r.m.res)*r.m.C→aH r'.m r'.j n=aH r.m r.j n
theorem fS.rfl'(h:eM r):fS r r:=⟨h,λ_ _=>rfl⟩
theorem fS.tr{a b c:Rp}(h:fS a b)(g:fS b c)(l:eQ a.m b.m):fS a c:=⟨g.i,λn hn=>(g.e n (by rw[l.R,l.B,l.M,l.C,l.res];exact hn)).trans (h.e n hn)⟩
theorem H3(hI:eM r)(hk:r.j.Zz=0)(a:Ak):fS r (dn r a):=by
 have h0: ∀n,aH r.m r.j n=cQ r.m n:=λn=>by unfold aH;simp only[hk]
 have hal: ∀p,p<r.m.R*r.m.B*r.m.M-r.m.res+r.m.ZH→r.m.ZB.getD p false=false→∃i,i<r.m.R*r.m.B*r.m.M-r.m.res∧r.m.ZA.getD i 0=p:=λp hp hd=>(hI.al p hp hd).resolve_left λq=>by rw[hk] at q;exact absurd q.1 Dc
 unfold dn
 cases a.k==1
 ·rw[ALcf]
  cases hp:eh r.m
  ·exact fS.rfl' hI
  ·rw[ALct]
   have hne:r.m.ZI≠r.m.S:=by unfold eh at hp;simpa using hp
   have hf:ft r.m=r.m.R+r.m.ZI:=by unfold ft;rw[ALifn hne]
   refine⟨⟨hI.inj,hI.ld,hI.lt,λ_ _ e=>absurd e (show ¬(2:Nat)=1 by decide),λp hp hd=> .inr (hal p hp hd),hI.si,λa ha=>?_,λa ha _=>?_⟩,λn _=>?_⟩
   ·have:=hI.sl a ha
    show r.m.ZC.getD a 0<((r.m.R+(r.m.ZI+1):Nat):Int)
    omega
   ·have:=hI.sl a ha
    show r.m.ZC.getD a 0≠((ft r.m:Nat):Int)
    omega
   ·rw[h0]
    show(if aF r.m.way r.m.R r.m.B r.m.M (ao r.m n)=a.w then(if fu r.m n<0 then _ else cQ r.m n) else cQ r.m n)=_
    rw[ALifn (ZF _),ite_self]
 ·rw[ALct]
  cases hp:dD r.m
  ·exact fS.rfl' hI
  ·rw[ALct]
   have hne:r.m.ZH≠r.m.res:=by unfold dD at hp;simpa using hp
   have hf:dN r.m=r.m.R*r.m.B*r.m.M-r.m.res+r.m.ZH:=by unfold dN;rw[ALifn hne]
   refine⟨⟨hI.inj,hI.ld,λi hi=>Nat.lt_succ_of_lt (hI.lt i hi),λi hi _=>?_,λp hp hd=>?_,hI.si,hI.sl,λ_ _ e=>absurd e (show ¬(1:Nat)=2 by decide)⟩,λn _=>?_⟩
   ·have:=hI.lt i hi
    show r.m.ZA.getD i 0≠dN r.m
    omega
   ·have hp:p<r.m.R*r.m.B*r.m.M-r.m.res+(r.m.ZH+1):=hp
    by_cases e:p=dN r.m
    ·exact .inl ⟨rfl,e⟩
    ·exact .inr (hal p Om hd)
   ·rw[h0]
    show(if ao r.m n=a.w then(if n%r.m.C<0 then _ else cQ r.m n) else cQ r.m n)=_
    rw[ALifn (ZF _),ite_self]
theorem H4(hI:eM r)(a:Ak):fS r (bp r a):=by
 unfold bp
 cases dh r a
 ·cases hk:r.j.Zz==0
  ·exact⟨⟨hI.inj,hI.ld,hI.lt,hI.nt,hI.al,hI.si,hI.sl,hI.st⟩,λ_ _=>rfl⟩
  ·exact H3 hI (by simpa using hk) a
 ·exact fS.rfl' hI
theorem H5(hI:eM r):eM (aX r):=⟨hI.inj,hI.ld,hI.lt,hI.nt,hI.al,hI.si,hI.sl,hI.st⟩
theorem YC{s:Rp×List Ev}(hI:eM s.1)(hk:s.1.j.Zz=0):fS s.1 (gP s).1:=by
 unfold gP
 cases dh (aX s.1) (s.1.q.headD aJ)
 ·have:=H3 (r:=aX s.1) (H5 hI) hk (s.1.q.headD aJ)
  exact⟨this.i,this.e⟩
 ·exact⟨H5 hI,λ_ _=>rfl⟩
theorem H6: ∀(n:Nat) (s:Rp×List Ev),eM s.1→fS s.1 (fc n s).1
 | 0,s,h=>fS.rfl' h
 | n+1,s,h=>by
  unfold fc
  split
  ·rename_i hk
   have h1:=YC h hk
   exact h1.tr (H6 n (gP s) h1.i) (Ad s)
  ·exact fS.rfl' h
theorem YD{l:List Nat}{h t i:Nat}(hi:i<l.length):(dG l h t l.length).getD i 0=if l.getD i 0=h then t else l.getD i 0:=by
 rw[QT,Zz,List.getElem?_map,ZC hi,Zz,ZC hi]
 rfl
theorem AY{α:Type}{l:List α}{i:Nat}{x d:α}(h:i<l.length):(l.set i x).getD i d=x:=by rw[Zz,List.getElem?_set,ALifp rfl,ALifp h];rfl
theorem YE(hI:eM r)(h:aN r)(hb:r.j.Zz≠0)(hx:r.j.nx=eK r.j.Zz r.m.B r.m.M r.m.C):fS r (hZ r):=by
 rcases h.j.k with e | ⟨e,hj⟩ | ⟨e,hj⟩
 ·rw[e] at hb;exact absurd rfl hb
 ·have he:hZ r={r with m:=ky r.m r.j.fr r.j.tg,j:=kz}:=by unfold hZ;rw[e];rfl
  rw[he]
  have hl:r.m.ZA.length=r.m.R*r.m.B*r.m.M-r.m.res:=h.m.ll
  have hL: ∀i,i<r.m.R*r.m.B*r.m.M-r.m.res→(ky r.m r.j.fr r.j.tg).ZA.getD i 0=if r.m.ZA.getD i 0=r.j.fr then r.j.tg else r.m.ZA.getD i 0:=λi hi=>YD Om
  refine⟨⟨λi k hi hk g=>?_,λi hi=>?_,λi hi=>?_,λ_ _ q=>ZA (show(0:Nat)=_ from q),λp hp hd=> .inr ?_,hI.si,hI.sl,λ_ _ q=>ZA (show(0:Nat)=_ from q)⟩,λn hn=>?_⟩
  ·have g:(ky r.m r.j.fr r.j.tg).ZA.getD i 0=(ky r.m r.j.fr r.j.tg).ZA.getD k 0:=g
   have hi:i<r.m.R*r.m.B*r.m.M-r.m.res:=hi
   have hk:k<r.m.R*r.m.B*r.m.M-r.m.res:=hk
   rw[hL i hi,hL k hk] at g
   split at g
   ·rename_i e1
    split at g
    ·rename_i e2
     exact hI.inj i k hi hk (e1.trans e2.symm)
    ·exact absurd g.symm (hI.nt k hk e)
   ·split at g
    ·exact absurd g (hI.nt i hi e)
    ·exact hI.inj i k hi hk g
  ·have hi:i<r.m.R*r.m.B*r.m.M-r.m.res:=hi
   show(r.m.ZB.set r.j.fr true).getD ((ky r.m r.j.fr r.j.tg).ZA.getD i 0) false=false
   rw[hL i hi]
   split
   ·rw[getD_set_ne hj.ne];exact hj.dt
   ·rename_i e1
    rw[getD_set_ne (λq=>e1 q.symm)];exact hI.ld i hi
  ·have hi:i<r.m.R*r.m.B*r.m.M-r.m.res:=hi
   show(ky r.m r.j.fr r.j.tg).ZA.getD i 0<_
   rw[hL i hi]
   split
   ·exact hj.t1
   ·exact hI.lt i hi
  ·have hp:p<r.m.R*r.m.B*r.m.M-r.m.res+r.m.ZH:=hp
   have hd:(r.m.ZB.set r.j.fr true).getD p false=false:=hd
   have hne:p≠r.j.fr:=by
    intro q
    rw[q,AY (by rw[h.m.ld];exact hj.hf)] at hd
    cases hd
   rw[getD_set_ne (λq=>hne q.symm)] at hd
   show ∃i,i<r.m.R*r.m.B*r.m.M-r.m.res∧(ky r.m r.j.fr r.j.tg).ZA.getD i 0=p
   rcases hI.al p hp hd with⟨_,q⟩ | ⟨i,hi,q⟩
   ·rcases hI.al r.j.fr hj.f1 hj.df with⟨_,q2⟩ | ⟨i,hi,q2⟩
    ·exact absurd q2 hj.ne
    ·exact⟨i,hi,by rw[hL i hi,ALifp q2,q]⟩
   ·exact⟨i,hi,by rw[hL i hi,ALifn (by rw[q];exact hne),q]⟩
  ·have an:=pZ h hb hn
   rw[oX h hb]
   show cQ (ky r.m r.j.fr r.j.tg) n=_
   have hh:ao (ky r.m r.j.fr r.j.tg) n=if ao r.m n=r.j.fr then r.j.tg else ao r.m n:=hL _ (tV h hn)
   unfold lZ ig at*
   rw[e,ALifp rfl] at an
   rw[e,ALifp rfl,ALifp rfl,hx,e,ALifp an]
   unfold cQ
   rw[hh]
   by_cases q:ao r.m n=r.j.fr
   ·rw[ALifp q,ALifp (cC q)];rfl
   ·rw[ALifn q,ALifn (by simpa using q)];rfl
 ·have he:hZ r={r with m:=jz r.m r.j.fr r.j.tg,j:=kz}:=by unfold hZ;rw[e];rfl
  rw[he]
  have hl:r.m.ZC.length=r.m.R:=h.m.ls
  have hS: ∀a,(jz r.m r.j.fr r.j.tg).ZC.getD a 0=if a=r.j.fr then(r.j.tg:Int) else r.m.ZC.getD a 0:=λa=>by
   show(r.m.ZC.set r.j.fr (r.j.tg:Int)).getD a 0=_
   by_cases q:a=r.j.fr
   ·rw[ALifp q,q,AY (by rw[hl];exact hj.hf)]
   ·rw[ALifn q,getD_set_ne (λz=>q z.symm)]
  have h0:=hj.t0;have h1:=hj.t1
  refine⟨⟨hI.inj,hI.ld,hI.lt,λ_ _ q=>ZA (show(0:Nat)=_ from q),λp hp hd=> .inr ((hI.al p hp hd).resolve_left λq=>by rw[e] at q;exact absurd q.1 Dc),λa b ha hb' hs g=>?_,λa ha=>?_,λ_ _ q=>ZA (show(0:Nat)=_ from q)⟩,λn hn=>?_⟩
  ·have ha:a<r.m.R:=ha
   have hb':b<r.m.R:=hb'
   have g:(jz r.m r.j.fr r.j.tg).ZC.getD a 0=(jz r.m r.j.fr r.j.tg).ZC.getD b 0:=g
   rw[hS a,hS b] at g
   split at g
   ·rename_i e1
    split at g
    ·rename_i e2;rw[e1,e2]
    ·exact absurd g.symm (hI.st b hb' e)
   ·rename_i e1
    split at g
    ·exact absurd g (hI.st a ha e)
    ·refine hI.si a b ha hb' ?_ g
     have hs:(!((jz r.m r.j.fr r.j.tg).ZC.getD a 0== -1))=true:=hs
     rw[hS a,ALifn e1] at hs
     exact hs
  ·have ha:a<r.m.R:=ha
   show(jz r.m r.j.fr r.j.tg).ZC.getD a 0<((r.m.R+r.m.ZI:Nat):Int)
   rw[hS a]
   split
   ·omega
   ·exact hI.sl a ha
  ·have an:=pZ h hb hn
   rw[oX h hb]
   show cQ (jz r.m r.j.fr r.j.tg) n=_
   have hR:gO (jz r.m r.j.fr r.j.tg) (ao r.m n)=if aF r.m.way r.m.R r.m.B r.m.M (ao r.m n)=r.j.fr then r.j.tg else gO r.m (ao r.m n):=by
    show(bif (!((jz r.m r.j.fr r.j.tg).ZC.getD (aF r.m.way r.m.R r.m.B r.m.M (ao r.m n)) 0== -1)) then((jz r.m r.j.fr r.j.tg).ZC.getD (aF r.m.way r.m.R r.m.B r.m.M (ao r.m n)) 0).toNat else aF r.m.way r.m.R r.m.B r.m.M (ao r.m n))=_
    rw[hS]
    split
    ·rw[show(((r.j.tg:Nat):Int)== -1)=false by rw[dp];omega];rfl
    ·rfl
   unfold lZ ig at*
   rw[e,ALifn (show ¬(2:Nat)=1 by decide)] at an
   rw[e,ALifn (show ¬(2:Nat)=1 by decide),ALifn (show ¬(2:Nat)=1 by decide),hx,e,ALifp an]
   rw[pI]
   show bJ (gO (jz r.m r.j.fr r.j.tg) (ao r.m n)) (ed r.m.way r.m.R r.m.B r.m.M (ao r.m n)) (ec r.m.way r.m.R r.m.B r.m.M (ao r.m n)) (n%r.m.C)=_
   rw[hR]
   by_cases q:aF r.m.way r.m.R r.m.B r.m.M (ao r.m n)=r.j.fr
   ·rw[ALifp q,ALifp (cC q)];exact(H0 h.m hn _).symm
   ·rw[ALifn q,ALifn (by simpa using q),pI]
theorem H7(hI:eM r):eM (bv r):=⟨hI.inj,hI.ld,hI.lt,hI.nt,hI.al,hI.si,hI.sl,hI.st⟩
theorem H8(hI:eM r)(h:aN r)(hb:r.j.Zz≠0)(hx:r.j.nx<eK r.j.Zz r.m.B r.m.M r.m.C):fS (bv r) (eT r).1:=by
 have hn:=qL h hb hx
 unfold eT
 cases hd:kU r.m (bv r).j
 ·exact fS.rfl' (H7 hI)
 ·unfold kU at hd
  rw[Bool.and_eq_true] at hd
  have h2:=YE (H7 hI) hn hb (of_decide_eq_true hd.2)
  exact h2.tr (H6 _ (ae (bv r)) h2.i) (Ab (bv r))
theorem YF(hI:eM r)(h:aN r)(hb:r.j.Zz≠0)(hx:r.j.nx<eK r.j.Zz r.m.B r.m.M r.m.C){n:Nat}(hn:n<(r.m.R*r.m.B*r.m.M-r.m.res)*r.m.C):aH (eT r).1.m (eT r).1.j n=if aH r.m r.j n=aQ r.m r.j.Zz r.j.fr r.j.nx then aQ r.m r.j.Zz r.j.tg r.j.nx else aH r.m r.j n:=
 ((H8 hI h hb hx).e n hn).trans (YB hI h hb hx hn)
end
theorem YG{s:Le}(hI:eM s.r)(rank home w:Nat)(x:Re):fS s.r (gy s rank home w x).r:=by
 unfold gy
 cases dH s.k.lp (dI s.k.t home).l w
 ·exact fS.rfl' hI
 ·exact H4 (r:=s.r) hI _
theorem H9{s:Le}(hI:eM s.r)(rank home w:Nat)(x:Re):fS s.r (fm s rank home w x).r:=by
 have h1:=YG hI rank home w x
 unfold fm
 cases dH s.k.lr (s.k.ZI.getD rank bA).l w
 ·exact h1
 ·exact h1.tr (H4 (r:=(gy s rank home w x).r) h1.i _) (tq s rank home w x)
theorem Ia{s:Le}(hI:eM s.r)(heavy:Nat)(n:Nt):fS s.r (dE heavy s n).r:=by
 unfold dE
 split
 ·exact fS.rfl' hI
 split
 ·exact H9 hI _ _ _ _
 split
 ·exact fS.rfl' hI
 ·exact H9 hI _ _ _ _
theorem YH{R S B M C way res:Nat}(h:res<R*B*M):eM ⟨lO R S B M C way res,kz,[]⟩:=by
 have hl: ∀i,i<R*B*M-res→(ZD (R*B*M-res)).getD i 0=i:=λi hi=>by rw[Zz,List.getElem?_range hi];rfl
 have hs: ∀a,a<R→(ZB R (-1:Int)).getD a 0= -1:=λa ha=>by rw[Zz,ZE,ALifp ha];rfl
 refine⟨λi k hi hk e=>?_,λi hi=>?_,λi hi=>?_,λ_ _ q=>ZA (show(0:Nat)=_ from q),λp hp hd=> .inr ⟨p,hp,hl p hp⟩,λa b ha hb hsa _=>?_,λa ha=>?_,λ_ _ q=>ZA (show(0:Nat)=_ from q)⟩
 ·have e:(ZD (R*B*M-res)).getD i 0=(ZD (R*B*M-res)).getD k 0:=e
  rwa [hl i hi,hl k hk] at e
 ·show(ZB (R*B*M) false).getD _ false=false
  rw[Zz,ZE]
  split<;>rfl
 ·show(ZD (R*B*M-res)).getD i 0<R*B*M-res+0
  rw[hl i hi];exact hi
 ·exact absurd (hs a ha) (pY hsa)
 ·show(ZB R (-1:Int)).getD a 0<((R+0:Nat):Int)
  rw[hs a ha];omega
end Go.Proofs.YtbcodenfkijdnaaGreat.E
namespace Go.Proofs.YtbcodenfkijdnaaGreat.E
open Go Go.RowKit Go.Shelf
open List renaming mem_append_left→Zz,mem_cons_self→ZA,mem_append_right→ZB,getD_eq_getElem?_getD→ZC,getElem?_eq_getElem→ZD,range→ZF
open Nat renaming add_mul_div_right→ZE,div_eq_of_lt→ZG,add_comm→ZH,zero_add→ZI
theorem Ib(o:List UInt8)(j:Nat): ∀(is:List Nat) (l:List UInt8),j<l.length→(jD l o is).getD j 0=if j∈is then o.getD j 0 else l.getD j 0
 | [],_,_=>by rw[ALifn List.not_mem_nil];rfl
 | i::is,l,h=>by
  show(jD (l.set i (o.getD i 0)) o is).getD j 0=_
  rw[Ib o j is _ (by rw[List.length_set];exact h)]
  by_cases h1:j∈is
  ·rw[ALifp h1,ALifp (List.mem_cons_of_mem _ h1)]
  ·rw[ALifn h1]
   by_cases h2:i=j
   ·rw[h2,AY h,ALifp ZA]
   ·rw[getD_set_ne h2,ALifn λq=>(List.mem_cons.1 q).elim (λz=>h2 z.symm) h1]
theorem YI{m:Nat}(h:pc m=64){i:Nat}(hi:i<64):i∈bk m:=by
 have hl:(bk m).length=64:=(Iw 64 0 m).trans h
 have hn:(bk m).Nodup:=(Iy 64 0 m).imp λh=>Nat.ne_of_lt h
 refine Classical.byContradiction λhc=>?_
 have h1:(bk m).length≤((ZF 64).erase i).length:=PP hn λx hx=>(List.mem_erase_of_ne (λq=>hc (by rw[←q];exact hx))).2 (List.mem_range.2 (by have:=(w7 64 0 m x hx).2.1;omega))
 rw[List.length_erase_of_mem (List.mem_range.2 hi),List.length_range] at h1
 omega
theorem YJ{l o:List UInt8}{m:Nat}(h:pc m=64)(hl:l.length=64)(ho:o.length=64):gH l o m=o:=by
 have hL:(gH l o m).length=64:=(wn ..).trans hl
 refine List.ext_getElem (hL.trans ho.symm) λj h1 h2=>?_
 have:=Ib o j (bk m) l Om
 rw[ALifp (YI h Om)] at this
 have h3:(gH l o m).getD j 0=o.getD j 0:=this
 rwa [ZC,ZC,ZD h1,ZD h2] at h3
structure wZ (a:Ac):Prop where
 s:lV a=false
 e:a.ex≤1
def p4(l:List Ac):Prop:=∀a∈l,wZ a
theorem YK{c:Cf}(hm:c.mode=1∨c.mode=2){l r:List UInt8}(hl:l.length=64)(hr:r.length=72){i:Int}(h:dm (c.mode:Int) r (fd c.mode l i false)≤1):m7 c.mode r i=l∧kb c.mode r i=dm (c.mode:Int) r (fd c.mode l i false):=by
 rw[O8 hr (qX _ hl _ _)] at h⊢
 unfold m7 kb n0
 rcases hm with e | e
 ·rw[e] at h⊢
  have:=PO hl hr h
  refine⟨this.1,?_⟩
  show(jK ((ZF 8).map (dK r i))).toNat=dm 1 (bU 9 (fb l i false) 8) r
  rw[this.2.1];rfl
 ·rw[e] at h⊢
  have:=Qd hl hr h
  refine⟨this.1,?_⟩
  show(jK ((ZF 2).map (cK r i))).toNat=dm 2 (bU 36 (eJ l i false) 2) r
  rw[this.2.1];rfl
theorem Ic{k:Nat}(h:k≤1):b6 k=0:=by
 unfold b6
 rw[show(((k:Nat):Int)==3)=false by rw[dp];omega,show(((k:Nat):Int)==2)=false by rw[dp];omega]
 rfl
structure gA (c:Cf) (x:Ct) (id:Int→List UInt8):Prop where
 rp:eM x.s.r
 gh: ∀n,n<gR c→x.V.ZE ((aA x n:Nat):Int)=fd c.mode (id (n:Int)) ((aA x n:Nat):Int) false
 mz: ∀n,n<gR c→x.V.ZG ((aA x n:Nat):Int)=0
section
variable {c:Cf} {x:Ct} {K A:Nat} {id:Int→List UInt8}
theorem bC.ln(h:bC c x K A){n:Nat}(hn:n<gR c):n<(x.s.r.m.R*x.s.r.m.B*x.s.r.m.M-x.s.r.m.res)*x.s.r.m.C:=by rw[h.ly.R,h.ly.B,h.ly.M,h.ly.C,h.ly.res];exact hn
theorem YL{a:Ac}(h:lV a=false):a.dr=false∧a.wt=a.ix:=by
 unfold lV at h
 rw[Bool.or_eq_false_iff] at h
 exact⟨h.1,by simpa using h.2⟩
theorem tX(h:bC c x K A)(hI:gA c x id){n:Nat}(hn:n<gR c)(hl:(id (n:Int)).length=64)(ha:wZ (nY c x.V ((aA x n:Nat):Int))):cH c x (aA x n)=id (n:Int)∧bq c x (aA x n)≤1:=by
 have h1:=YL ha.s
 have h2:a8 x.V.D ((aA x n:Nat):Int)=((aA x n:Nat):Int):=h1.2
 have h3:((dm (c.mode:Int) (cd c x.V.D ((aA x n:Nat):Int)) (x.V.ZE (a8 x.V.D ((aA x n:Nat):Int))):Nat):Int)≤1:=ha.e
 rw[h2,hI.gh n hn] at h3
 have h4:=YK h.cf.mode hl (m6 h.D _) (show dm (c.mode:Int) (cd c x.V.D ((aA x n:Nat):Int)) (fd c.mode (id (n:Int)) ((aA x n:Nat):Int) false)≤1 by omega)
 exact⟨h4.1,Nat.le_trans (Nat.le_of_eq h4.2) Om⟩
theorem AZ(h:bC c x K A)(hI:gA c x id){n:Nat}(hn:n<gR c)(l:List UInt8):gA c (m8 c x (aA x n) l false) (cI id (n:Int) l):=by
 refine⟨hI.rp,λk hk=>?_,λk hk=>?_⟩
 rotate_left
 ·show cI x.V.ZG ((aA x n:Nat):Int) 0 ((aA x k:Nat):Int)=0
  unfold cI
  split
  ·rfl
  ·exact hI.mz k hk
 show cI x.V.ZE ((aA x n:Nat):Int) (fd c.mode l ((aA x n:Nat):Int) false) ((aA x k:Nat):Int)=fd c.mode (cI id (n:Int) l (k:Int)) ((aA x k:Nat):Int) false
 unfold cI
 by_cases e:k=n
 ·rw[e,ALifp rfl,ALifp rfl]
 ·rw[ALifn (λq=>e (YA hI.rp h.s.r (h.ln hk) (h.ln hn) (by unfold aA at q;omega))),ALifn Om]
  exact hI.gh k hk
theorem gA.cg{id':Int→List UInt8}(hI:gA c x id)(h: ∀n:Nat,n<gR c→id (n:Int)=id' (n:Int)):gA c x id':=⟨hI.rp,λn hn=>by rw[←h n hn];exact hI.gh n hn,hI.mz⟩
theorem gA.same(hI:gA c x id){y:Ct}(hr:eM y.s.r)(h: ∀n,n<gR c→aA y n=aA x n)(hg:y.V.ZE=x.V.ZE)(hm:y.V.ZG=x.V.ZG):gA c y id:=⟨hr,λn hn=>by rw[h n hn,hg];exact hI.gh n hn,λn hn=>by rw[h n hn,hm];exact hI.mz n hn⟩
theorem A0(h:bC c x K A)(hI:gA c x id)(i hm r:Nat):gA c (bY c x i hm r) id:=by
 have h1:=Ia (s:=x.s) hI.rp c.heavy (m9 c x i hm r)
 exact hI.same (y:=bY c x i hm r) h1.i (λn hn=>h1.e n (h.ln hn)) rfl rfl
theorem Id(h:bC c x K A)(hI:gA c x id)(i hm r:Nat){n:Nat}(hn:n<gR c):aA (bY c x i hm r) n=aA x n:=(Ia (s:=x.s) hI.rp c.heavy (m9 c x i hm r)).e n (h.ln hn)
theorem YM{n:Nat}{l:List UInt8}(h:l=id (n:Int))(k:Nat):cI id (n:Int) l (k:Int)=id (k:Int):=by
 unfold cI
 split
 ·rename_i e;rw[h,e]
 ·rfl
theorem A1{y:Ct}(hI:gA c y id):gA c (kZ x y) id:=⟨hI.rp,hI.gh,hI.mz⟩
theorem Ie(h:bC c x K A)(hI:gA c x id){n:Nat}(hn:n<gR c)(hl:(id (n:Int)).length=64)(hK:K+3≤1000000000)(b:Bool)(ha:wZ (nY c x.V ((aA x n:Nat):Int))):gA c (cy c x n b) id:=by
 have h1:=qZ h hn hK
 have h2:=A0 h hI (aA x n) (kD x n) (kE x n)
 have hr:=tX h hI hn hl ha
 unfold cy
 refine A1 ?_
 cases (((bq c x (aA x n):Nat):Int)==1)&&b
 ·exact h2
 ·rw[ALct,hr.1,←Id h hI (aA x n) (kD x n) (kE x n) hn]
  exact(AZ h1 h2 hn (id (n:Int))).cg λk hk=>YM rfl k
theorem If(n:Nat)(b:Bool):nY c x.V ((aA x n:Nat):Int)∈(cy c x n b).V.l:=by
 have h0:nY c x.V ((aA x n:Nat):Int)∈(iC c x n).V.l:=ZB _ ZA
 unfold cy
 cases (((bq c x (aA x n):Nat):Int)==1)&&b
 ·exact h0
 ·exact Zz _ h0
theorem YN(h:bC c x K A)(hI:gA c x id){n:Nat}(hn:n<gR c)(hl:(id (n:Int)).length=64)(hK:K+3≤1000000000){l:List UInt8}(hl2:l.length=64){m:Nat}(hm:m≠0)(ha:p4 (bF c x n l m).V.l):gA c (bF c x n l m) (cI id (n:Int) (gH (id (n:Int)) l m))∧cv c x n m=0:=by
 have hm0:((m:Int)==0)=false:=by rw[dp];omega
 unfold bF at ha⊢
 unfold cv
 rw[hm0,ALcf] at ha⊢
 rw[ALcf]
 cases hp:decide (pc m=64)
 ·rw[hp,ALcf] at ha
  rw[ALcf,ALcf]
  have hr:cH c x (aA x n)=id (n:Int)∧bq c x (aA x n)≤1:=by
   refine tX h hI hn hl ?_
   have h0:nY c x.V ((aA x n:Nat):Int)∈(iC c x n).V.l:=ZB _ ZA
   cases hv: !(b6 (bq c x (aA x n))==0)
   ·rw[hv] at ha;exact ha _ (Zz _ h0)
   ·rw[hv] at ha;exact ha _ (Zz _ h0)
  have h1:=qZ h hn hK
  have h2:=A0 h hI (aA x n) (kD x n) (kE x n)
  rw[Ic hr.2,hr.1]
  refine⟨A1 ?_,rfl⟩
  show gA c (m8 c (iC c x n) (aA x n) (gH (id (n:Int)) l m) false) _
  rw[←Id h hI (aA x n) (kD x n) (kE x n) hn]
  exact AZ h1 h2 hn _
 ·rw[YJ (of_decide_eq_true hp) hl hl2]
  exact⟨A1 (AZ h hI hn l),rfl⟩
theorem YO{r:Rp}(hI:eM r)(h:aN r)(hb:r.j.Zz≠0)(hx:r.j.nx<eK r.j.Zz r.m.B r.m.M r.m.C){n:Nat}(hn:n<(r.m.R*r.m.B*r.m.M-r.m.res)*r.m.C)(he:aH r.m r.j n=aQ r.m r.j.Zz r.j.fr r.j.nx):cN r=ao r.m n:=by
 have an:=pZ h hb hn
 have hs:cQ r.m n=aQ r.m r.j.Zz r.j.fr r.j.nx:=by
  rw[oX h hb] at he
  split at he
  ·split at he
   ·rename_i hlt
    rcases h.j.k with e2 | ⟨e2,hj⟩ | ⟨e2,hj⟩
    ·rw[e2] at hb;exact absurd rfl hb
    ·rw[e2] at he hx an
     have:=(rl h.m hI.si hj.ht hj.hf an hx he).2
     omega
    ·rw[e2] at he hx an
     have h3:=hj.t1;have h2:=h.m.rk;have h4:=hj.hf
     have:=(wX h.m Om Om an hx he).2
     omega
   ·exact he
  ·exact he
 obtain⟨h1,h2⟩:=AX hI h hb hn hx hs
 unfold cN
 unfold lZ at h1
 unfold ig at h2
 rcases th h hb with e | e
 ·rw[ALifp e] at h1⊢
  exact(of_decide_eq_true h1).symm
 ·have e1: ¬r.j.Zz=1:=by omega
  rw[ALifn e1] at h1 h2⊢
  have h1:=of_decide_eq_true h1
  have hi:=qH h.m hn
  have hc:=Nat.mod_lt n h.m.ZJ.bd.c1
  have e3:fu r.m n/r.m.C=ed r.m.way r.m.R r.m.B r.m.M (ao r.m n)*r.m.M+ec r.m.way r.m.R r.m.B r.m.M (ao r.m n):=by unfold fu;rw[ZH,ZE _ _ h.m.ZJ.bd.c1,ZG hc,ZI]
  rw[←h2,e3,ZH,ZE _ _ h.m.ZJ.bd.m1,ZG hi.h2,ZI,Nat.add_mul_mod_self_right,Nat.mod_eq_of_lt hi.h2,←h1]
  exact zx h.m.ZJ (nR h.m hn)
theorem Ig(h:bC c x K A)(hI:eM x.s.r)(hb:x.s.r.j.Zz≠0){n:Nat}(hn:n<gR c)(he:aA x n=k9 x):mC x=true:=by
 have h1:=YO hI h.s.r hb (h.run hb) (h.ln hn) he
 have h2:=tV h.s.r (h.ln hn)
 unfold mC
 have h3:ao x.s.r.m n<x.s.r.m.R*x.s.r.m.B*x.s.r.m.M-x.s.r.m.res+x.s.r.m.ZH:=hI.lt _ h2
 rw[h1,cC h3]
 show(true&& !x.s.r.m.ZB.getD (x.s.r.m.ZA.getD _ 0) false)=true
 rw[hI.ld _ h2];rfl
theorem YP(h:bC c x K A)(hI:gA c x id)(hid: ∀n:Nat,(id (n:Int)).length=64)(hb:x.s.r.j.Zz≠0)(hK:K+260≤1000000000)(ha:p4 (ic c x).V.l):gA c (ic c x) id:=by
 have h0:=G5 h hb Om
 have hx:=h.run hb
 have hy:eM (fK c x).s.r:=by
  unfold fK
  cases mC x
  ·exact hI.rp
  ·exact(A0 h hI (k9 x) (cN x.s.r) (dF x.s.r)).rp
 have hrt: ∀n,n<gR c→aA (ic c x) n=if aA x n=k9 x then oR x else aA x n:=λn hn=>by
  have h1:=YF hy h0.1.s.r (by rw[h0.2.1];exact hb) (h0.1.run (by rw[h0.2.1];exact hb)) (h0.1.ln hn)
  rw[h0.2.1,h0.2.2] at h1
  exact h1
 have hri:eM (ic c x).s.r:=(H8 hy h0.1.s.r (by rw[h0.2.1];exact hb) (h0.1.run (by rw[h0.2.1];exact hb))).i
 refine⟨hri,λn hn=>?_,λn hn=>?_⟩
 all_goals rw[hrt n hn]
 rotate_left
 ·show(fK c x).V.ZG _=_
  have h1: ∀i:Int,i≠((oR x:Nat):Int)→(fK c x).V.ZG i=x.V.ZG i:=λi hi=>by
   unfold fK
   cases mC x
   ·exact ALifn hi
   ·exact ALifn hi
  by_cases e:aA x n=k9 x
  ·rw[ALifp e]
   have hu:=Ig h hI.rp hb hn e
   have hr:cH c x (aA x n)=id (n:Int)∧bq c x (aA x n)≤1:=by
    refine tX h hI hn (hid n) (ha _ ?_)
    show _∈(fK c x).V.l
    unfold fK
    rw[hu,e]
    exact Zz _ (ZB _ ZA)
   unfold fK
   rw[hu,ALct]
   rw[e] at hr
   rw[bj (show ¬(2:Int)≤((bq c x (k9 x):Nat):Int) by omega)]
   exact ALifp rfl
  ·rw[ALifn e]
   have hne:=H2 hI.rp h.s.r hb hx (h.ln hn)
   have hne:aA x n≠oR x:=hne
   rw[h1 _ Om]
   exact hI.mz n hn
 show(fK c x).V.ZE _=_
 have hne:=H2 hI.rp h.s.r hb hx (h.ln hn)
 have hne:aA x n≠oR x:=hne
 by_cases e:aA x n=k9 x
 ·rw[ALifp e]
  have hu:=Ig h hI.rp hb hn e
  have hr:cH c x (aA x n)=id (n:Int)∧bq c x (aA x n)≤1:=by
   refine tX h hI hn (hid n) (ha _ ?_)
   show _∈(fK c x).V.l
   unfold fK
   rw[hu,e]
   exact Zz _ (ZB _ ZA)
  unfold fK
  rw[hu,ALct]
  rw[e] at hr
  rw[hr.1,bj (show ¬(2:Int)≤((bq c x (k9 x):Nat):Int) by omega)]
  exact ALifp rfl
 ·rw[ALifn e]
  have hg:(fK c x).V.ZE ((aA x n:Nat):Int)=x.V.ZE ((aA x n:Nat):Int):=by
   unfold fK
   cases mC x
   ·exact ALifn Om
   ·exact ALifn Om
  rw[hg]
  exact hI.gh n hn
end
end Go.Proofs.YtbcodenfkijdnaaGreat.E
namespace Go.Proofs.YtbcodenfkijdnaaGreat.E
open Go Go.RowKit Go.Shelf
open List renaming mem_append_left→Zz
open Nat renaming add_mul_mod_self_right→ZA,add_comm→ZB,add_mul_div_right→ZC,mul_le_mul_right→ZD,le_succ_of_le→ZE,zero_add→ZF,div_eq_of_lt→ZG,mod_eq_of_lt→ZH,add_mul→ZI,not_lt_zero→ZJ
theorem Ih{c:Cf}{x:Ct}{n:Nat}{b:Bool}{a:Ac}(h:a∈x.V.l):a∈(cy c x n b).V.l:=by
 have h0:a∈(iC c x n).V.l:=Zz _ h
 unfold cy
 cases (((bq c x (aA x n):Nat):Int)==1)&&b
 ·exact h0
 ·exact Zz _ h0
theorem Ii{c:Cf}{x:Ct}{n m:Nat}{l:List UInt8}{a:Ac}(h:a∈x.V.l):a∈(bF c x n l m).V.l:=by
 have h0:a∈(iC c x n).V.l:=Zz _ h
 unfold bF
 cases (m:Int)==0
 ·cases decide (pc m=64)
  ·cases !(b6 (bq c x (aA x n))==0)
   ·exact Zz _ h0
   ·exact Zz _ h0
  ·exact Zz _ h
 ·exact h
theorem YQ{c:Cf}{x:Ct}{a:Ac}(h:a∈x.V.l):a∈(ic c x).V.l:=by
 show a∈(fK c x).V.l
 unfold fK
 cases mC x
 ·exact Zz _ h
 ·exact Zz _ (Zz _ h)
theorem YR{c:Cf}{x:Mc}{s:St}{a:Ac}(h:a∈x.x.V.l):a∈(ie c x s).x.V.l:=by
 unfold ie
 split
 ·split
  ·exact Ih h
  ·split
   ·exact Ii h
   ·split<;>exact Ii h
 ·exact h
theorem YS{c:Cf}{x:Mc}{s:St}{a:Ac}(h:a∈x.x.V.l):a∈(eY c x s).x.V.l:=by
 unfold eY
 split
 ·split
  ·exact Ih (x:=jP c x.x) h
  ·split
   ·split
    ·exact h
    ·exact YQ h
   ·split
    ·exact h
    ·split
     ·exact h
     ·split
      ·exact h
      ·exact YR (x:={x with st:=x.st+1}) h
 ·exact h
structure p6 (c:Cf) (x:Mc):Prop where
 ct:gA c x.x x.id
 sv: ∀y∈x.sv,jm y=true
theorem Ik{l:List Sv}{y:Sv}(h: ∀y∈l,jm y=true)(hy:jm y=true): ∀z∈l++[y],jm z=true:=λz hz=>(List.mem_append.1 hz).elim (h z) λe=>by rw[List.mem_singleton.1 e];exact hy
theorem YT{c:Cf}{x:Mc}{K A N:Nat}(h:d8 c x K A N){s:St}(hs:StOk s)(hK:K+3≤1000000000)(hI:p6 c x)(ha:p4 (ie c x s).x.V.l):p6 c (ie c x s):=by
 have hd:=hs.d
 unfold ie at ha⊢
 by_cases hb:bQ s.ln ((gR c:Nat):Int)=true
 ·rw[ALifp hb] at ha⊢
  have hn:s.ln.toNat<gR c:=Hm hb
  have hl:=h.il ((s.ln.toNat:Nat):Int)
  by_cases h1:s.k=1
  ·rw[ALifp h1] at ha⊢
   have hm:=ha _ (If s.ln.toNat c.back)
   have hr:=tX h.ct hI.ct hn hl hm
   refine⟨Ie h.ct hI.ct hn hl hK c.back hm,Ik hI.sv ?_⟩
   unfold jm
   show((b6 (bq c x.x (aA x.x s.ln.toNat))==0)&&((s.k != 1)||decide (cH c x.x (aA x.x s.ln.toNat)=x.id ((s.ln.toNat:Nat):Int))))=true
   rw[Ic hr.2,cC hr.1,Bool.or_true];rfl
  ·have hk:(s.k != 1)=true:=by simpa using h1
   have key: ∀m,m≠0→p4 (rh c x s.ln.toNat m s).x.V.l→p6 c (rh c x s.ln.toNat m s):=λm hm ha=>by
    have hr:=YN h.ct hI.ct hn hl hK hd hm ha
    refine⟨hr.1,Ik hI.sv ?_⟩
    unfold jm
    show((cv c x.x s.ln.toNat m==0)&&((s.k != 1)||decide (List.replicate 64 0=x.id ((s.ln.toNat:Nat):Int))))=true
    rw[hr.2,hk,Bool.true_or];rfl
   rw[ALifn h1] at ha⊢
   by_cases h2:s.k=2
   ·rw[ALifp h2] at ha⊢
    exact key _ Dc ha
   ·rw[ALifn h2] at ha⊢
    by_cases h3:s.m=0
    ·rw[ALifp h3]
     exact⟨⟨hI.ct.rp,hI.ct.gh,hI.ct.mz⟩,hI.sv⟩
    ·rw[ALifn h3] at ha⊢
     exact key _ h3 ha
 ·rw[ALifn hb];exact hI
theorem YU{c:Cf}{x:Mc}{K A N:Nat}(h:d8 c x K A N){s:St}(hs:StOk s)(hK:K+260≤1000000000)(hI:p6 c x)(ha:p4 (eY c x s).x.V.l):p6 c (eY c x s):=by
 unfold eY at ha⊢
 by_cases hR:sR s=true
 ·rw[ALifp hR] at ha⊢
  by_cases h4:s.k=4
  ·rw[ALifp h4] at ha⊢
   have hc:gA c (jP c x.x) x.id:=⟨hI.ct.rp,hI.ct.gh,hI.ct.mz⟩
   exact⟨Ie (AC h.ct) hc h.ct.cur (h.il _) Om true (ha _ (If (x:=jP c x.x) x.x.cur true)),hI.sv⟩
  rw[ALifn h4] at ha⊢
  by_cases h5:s.k=5
  ·rw[ALifp h5] at ha⊢
   by_cases hb:x.x.s.r.j.Zz=0
   ·rw[ALifp hb];exact⟨hI.ct,hI.sv⟩
   ·rw[ALifn hb] at ha⊢
    exact⟨YP h.ct hI.ct (λn=>h.il _) hb hK ha,hI.sv⟩
  rw[ALifn h5] at ha⊢
  by_cases h6:s.k=6
  ·rw[ALifp h6];exact⟨⟨hI.ct.rp,hI.ct.gh,hI.ct.mz⟩,hI.sv⟩
  rw[ALifn h6] at ha⊢
  by_cases h7:s.k=7
  ·rw[ALifp h7];exact⟨⟨hI.ct.rp,hI.ct.gh,hI.ct.mz⟩,hI.sv⟩
  rw[ALifn h7] at ha⊢
  by_cases h8:s.k=8
  ·rw[ALifp h8];exact⟨⟨hI.ct.rp,hI.ct.gh,hI.ct.mz⟩,hI.sv⟩
  rw[ALifn h8] at ha⊢
  have g:d8 c {x with st:=x.st+1} K A (N+1):=⟨h.ct,h.il,ZE h.jl,ZE h.sl,ZE h.sc,Nat.succ_le_succ h.st⟩
  exact YT (x:={x with st:=x.st+1}) g hs Om ⟨hI.ct,hI.sv⟩ ha
 ·rw[ALifn hR];exact hI
theorem YV{f:Int→List UInt8}{i j:Int}{a b:List UInt8}(h:j=i→a=b)(g:j≠i→f j=b):cI f i a j=b:=by
 unfold cI
 split
 ·rename_i e;exact h e
 ·rename_i e;exact g e
theorem YW(c:Cf)(n:Nat):(fx c (n+1)).ZE=cI (fx c n).ZE ((iD c.B c.M c.C n:Nat):Int) (fd c.mode z6 ((iD c.B c.M c.C n:Nat):Int) false):=rfl
theorem YX{c:Cf}{i:Nat}(n:Nat): ∀k,k<n→i=iD c.B c.M c.C k→(fx c n).ZE ((i:Nat):Int)=fd c.mode z6 ((i:Nat):Int) false:=by
 induction n with
 | zero=>exact λk hk=>absurd hk (ZJ k)
 | succ n ih=>
  intro k hk e
  rw[YW]
  refine YV (λq=>?_) λq=>?_
  ·rw[q]
  ·refine ih k ?_ e
   rcases Nat.lt_succ_iff_lt_or_eq.1 hk with h | h
   ·exact h
   ·exact absurd (by rw[e,h]) q
theorem Il(c:Cf): ∀n i,(fx c n).ZG i=0
 | 0,_=>rfl
 | n+1,i=>by
  show cI (fx c n).ZG ((iD c.B c.M c.C n:Nat):Int) 0 i=0
  unfold cI
  split
  ·rfl
  ·exact Il c n i
theorem YY{c:Cf}(hc:dd c){i:Nat}(h:jO c.R c.S c.B c.M c.C i): ∃k,k<(c.R+c.S)*(c.B*c.M*c.C)∧i=iD c.B c.M c.C k:=by
 obtain⟨p0,p1,p2,p3,rfl,hi⟩:=h.ex
 have hb:=hc.ZJ.bd
 have hC:=hb.c1;have hM:=hb.m1;have hB:=hb.b1
 have e1:(p1*c.M+p2)*c.C+p3<c.B*c.M*c.C:=by
  have h1:p1*c.M+p2<c.B*c.M:=by
   have:(p1+1)*c.M≤c.B*c.M:=ZD _ hi.h1
   rw[ZI] at this
   have:=hi.h2
   omega
  have h2:(p1*c.M+p2+1)*c.C≤c.B*c.M*c.C:=ZD _ h1
  rw[ZI] at h2
  have:=hi.h3
  omega
 refine⟨p0*(c.B*c.M*c.C)+((p1*c.M+p2)*c.C+p3),?_,?_⟩
 ·have h2:(p0+1)*(c.B*c.M*c.C)≤(c.R+c.S)*(c.B*c.M*c.C):=ZD _ hi.h0
  rw[ZI] at h2
  omega
 ·unfold iD ri
  have hp:0<c.B*c.M*c.C:=by omega
  rw[ZB,ZC _ _ hp,ZG e1,ZF,ZA,ZH e1]
  have e2:((p1*c.M+p2)*c.C+p3)/c.C=p1*c.M+p2:=by rw[ZB,ZC _ _ hC,ZG hi.h3,ZF]
  have e3:((p1*c.M+p2)*c.C+p3)%c.C=p3:=by rw[ZB,ZA,ZH hi.h3]
  have e4:(p1*c.M+p2)/c.M=p1:=by rw[ZB,ZC _ _ hM,ZG hi.h2,ZF]
  have e5:(p1*c.M+p2)%c.M=p2:=by rw[ZB,ZA,ZH hi.h2]
  rw[e2,e3,e4,e5]
theorem YZ{c:Cf}(hc:dd c):p6 c (dC c):=by
 have h0:=Hu hc
 refine⟨⟨YH hc.ly.rp,λn hn=>?_,λn hn=>Il c _ _⟩,λy hy=>absurd hy List.not_mem_nil⟩
 have hi:=(GU h0.ct.s.r.m h0.ct.s.r.j (h0.ct.ln hn)).lay h0.ct.ly
 obtain⟨k,hk,e⟩:=YY hc hi
 exact YX _ k hk e
theorem Im{c:Cf}(hc:dd c){l:List St}(hs:oW l): ∀k,k≤900→p4 (de c (dC c) l k).x.V.l→p6 c (de c (dC c) l k)
 | 0,_,_=>YZ hc
 | k+1,hk,ha=>by
  have hg:=tS (GM.start hc) hs k Om
  exact YU hg.ok (hs.a k) Om (Im hc hs k Om λa h=>ha a (YS h)) ha
theorem Y0(mode:Nat)(l:List Ac): ∀k,((cq mode l k).ast=true→(cq mode l (k+1)).ast=true)∧(cq mode l k).ex≤(cq mode l (k+1)).ex:=λk=>by
 rw[AK]
 show(_→n4 _ _=true)∧_≤n2 _ _
 unfold n4 n2
 cases !lV (l.getD (0+k) dO)
 ·exact⟨λ_=>rfl,Int.le_refl _⟩
 ·exact⟨λh=>h,Int.le_max_left _ _⟩
theorem In(mode:Nat)(l:List Ac): ∀n,(cq mode l n).ast=false→(cq mode l n).ex≤1→∀k,k<n→wZ (l.getD k dO)
 | 0,_,_,_,hk=>absurd hk (ZJ _)
 | n+1,h1,h2,k,hk=>by
  have hm:=Y0 mode l n
  have h3:(cq mode l n).ast=false:=by
   cases e:(cq mode l n).ast
   ·rfl
   ·rw[hm.1 e] at h1;cases h1
  rcases Nat.lt_succ_iff_lt_or_eq.1 hk with h | h
  ·exact In mode l n h3 (Int.le_trans hm.2 h2) k h
  ·subst h
   rw[AK,ZF] at h1 h2
   have h1:n4 (cq mode l k).ast (l.getD k dO)=false:=h1
   have h2:n2 (cq mode l k).ex (l.getD k dO)≤1:=h2
   unfold n4 at h1
   unfold n2 at h2
   cases ha:lV (l.getD k dO)
   ·refine⟨ha,?_⟩
    rw[ha] at h2
    have h2:max (cq mode l k).ex (bif (l.getD k dO).mr then(l.getD k dO).ex+1 else(l.getD k dO).ex)≤1:=h2
    cases hm:(l.getD k dO).mr
    ·rw[hm,ALcf] at h2;omega
    ·rw[hm,ALct] at h2;omega
   ·rw[ha] at h1;cases h1
theorem Y1{mode:Nat}{l:List Ac}(h:lc mode l=true):p4 l:=by
 unfold lc at h
 rw[Bool.and_eq_true] at h
 have h1:(cq mode l l.length).ast=false:=by simpa using h.1
 intro a ha
 obtain⟨k,hk,rfl⟩:=List.getElem_of_mem ha
 have:=In mode l l.length h1 (of_decide_eq_true h.2) k hk
 rwa [List.getD_eq_getElem?_getD,List.getElem?_eq_getElem hk] at this
theorem Y2{c:Cf}(hc:dd c){l:List St}(hs:oW l)(hl:l.length≤80)(h:lc c.mode (de c (dC c) l l.length).x.V.l=true):(de c (dC c) l l.length).sv.all jm=true:=
 List.all_eq_true.2 (Im hc hs l.length Om (Y1 h)).sv
end Go.Proofs.YtbcodenfkijdnaaGreat.E
namespace Go.Proofs.YtbcodenfkijdnaaGreat.E
open Go Go.ChangeShapes Go.WideShapes Go.RowKit Go.Shelf
open List renaming replicate→Zz,take_append_drop→ZA,length_append→ZB,not_mem_nil→ZC
theorem eq.split{l m:List iO}{cs:List Value}(h:eq (l++m) cs):eq l (cs.take l.length)∧eq m (cs.drop l.length):=by
 obtain⟨h1,h2⟩:=h
 rw[ZB] at h1
 refine⟨⟨by rw[List.length_take];omega,λi lf hi=>?_⟩,⟨by rw[List.length_drop];omega,λi lf hi=>?_⟩⟩
 ·have hl:i<l.length:=(List.getElem?_eq_some_iff.1 hi).1
  obtain⟨v,e1,e2⟩:=h2 i lf (by rw[List.getElem?_append_left hl];exact hi)
  exact⟨v,by rw[List.getElem?_take_of_lt hl];exact e1,e2⟩
 ·obtain⟨v,e1,e2⟩:=h2 (l.length+i) lf (by rw[List.getElem?_append_right (Nat.le_add_right _ _),Nat.add_sub_cancel_left];exact hi)
  exact⟨v,by rw[List.getElem?_drop];exact e1,e2⟩
theorem eq.one{f:iO}{ls:List iO}{cs:List Value}(h:eq (f::ls) cs): ∃v vs,cs=v::vs∧ET f v∧eq ls vs:=by
 obtain⟨h1,h2⟩:=h
 cases cs with
 | nil=>simp at h1
 | cons v vs=>
  obtain⟨u,e1,e2⟩:=h2 0 f rfl
  obtain rfl:v=u:=by simpa using e1
  exact⟨v,vs,rfl,e2,by simpa using h1,λi lf hi=>by simpa using h2 (i+1) lf (by rw[List.getElem?_cons_succ];exact hi)⟩
theorem Io: ∀(n:Nat) (cs:List Value),eq (Zz n (.int .u8)) cs→∃d:List UInt8,d.length=n∧cs=d.map λb=>Value.int .u8 (b.toNat:Int)
 | 0,cs,h=>⟨[],rfl,by have:=h.1;simp at this;simpa using this⟩
 | n+1,cs,h=>by
  obtain⟨v,vs,rfl,⟨z,rfl,hz⟩,h2⟩:=eq.one (by rw[List.replicate_succ] at h;exact h)
  obtain⟨d,h3,rfl⟩:=Io n vs h2
  have hb:=bounds_u8 hz
  refine⟨UInt8.ofNat z.toNat::d,by rw[List.length_cons,h3],?_⟩
  rw[List.map_cons,show((UInt8.ofNat z.toNat).toNat:Int)=z by rw[UInt8.toNat_ofNat'];omega]
theorem Y3{l:List Int}(h:l.length=8): ∃a b c d e f g i,l=[a,b,c,d,e,f,g,i]:=by
 match l,h with
 | [a,b,c,d,e,f,g,i],_=>exact⟨a,b,c,d,e,f,g,i,rfl⟩
def stLs:List iO:=Zz 2 (.int .i64)++(Zz 64 (.int .u8)++(.int .u64::Zz 8 (.int .i64)))
theorem Y4{cs:List Value}(h:eq stLs cs): ∃s:St,cs=eSt s∧StOk s:=by
 obtain⟨h1,h2⟩:=eq.split h
 obtain⟨h3,h4⟩:=eq.split h2
 obtain⟨v,vs,e5,⟨m,e6,hm⟩,h7⟩:=eq.one h4
 obtain⟨zs,l1,e1,_⟩:=vE 2 _ h1
 obtain⟨d,l2,e2⟩:=Io 64 _ h3
 obtain⟨fs,l3,e3,_⟩:=vE 8 _ h7
 have hb:=bounds_u64 hm
 obtain⟨a,b,c,i,e,f,g,j,rfl⟩:=Y3 l3
 match zs,l1 with
 | [k,ln],_=>
  refine⟨⟨k,ln,d,m.toNat,a,b,c,i,e,f,g,j⟩,?_,⟨l2,by show m.toNat<_;omega⟩⟩
  have e8:cs=cs.take 2++cs.drop 2:=(ZA 2 cs).symm
  have e9:cs.drop 2=(cs.drop 2).take 64++(cs.drop 2).drop 64:=(ZA 64 _).symm
  have e1:cs.take 2=[i6 k,i6 ln]:=e1
  have e2:(cs.drop 2).take 64=d.map λb=>Value.int .u8 (b.toNat:Int):=e2
  have e5:(cs.drop 2).drop 64=v::vs:=e5
  rw[e8,e9,e1,e2,e5,e6,e3]
  show _=[i6 k,i6 ln]++rB 64 d++_
  rw[xC l2,show(m:Int)=((m.toNat:Nat):Int) by omega]
  rfl
theorem rows_st: ∀(rows:List (List Value)),(∀r∈rows,eq stLs r)→∃L:List St,rows=L.map eSt∧∀s∈L,StOk s
 | [],_=>⟨[],rfl,λs hs=>absurd hs ZC⟩
 | r::rows,h=>by
  obtain⟨L,e1,e2⟩:=rows_st rows λx hx=>h x (List.mem_cons_of_mem _ hx)
  obtain⟨s,e3,e4⟩:=Y4 (h r List.mem_cons_self)
  exact⟨s::L,by rw[e1,e3];rfl,λy hy=>(List.mem_cons.1 hy).elim (λe=>e▸e4) (e2 y)⟩
theorem sts_ok{l:List St}(h: ∀s∈l,StOk s):oW l:=⟨λk=>by
 rw[List.getD_eq_getElem?_getD]
 cases hk:l[k]? with
 | none=>exact⟨List.length_replicate,by show(0:Nat)<_;decide⟩
 | some a=>exact h a (List.mem_of_getElem? hk)⟩
def cfLs:List iO:=Zz 15 (.int .i64)++[.bool]
theorem cells_cfg{cs:List Value}(h:eq cfLs cs): ∃(r s b m c way res mode lr er lp ep room heavy log:Int) (back:Bool),cs=[i6 r,i6 s,i6 b,i6 m,i6 c,i6 way,i6 res,i6 mode,i6 lr,i6 er,i6 lp,i6 ep,i6 room,i6 heavy,i6 log,.bool back]:=by
 obtain⟨h1,h2⟩:=eq.split h
 obtain⟨v,vs,e1,⟨q,e2⟩,h3⟩:=eq.one h2
 obtain⟨zs,l1,e4,_⟩:=vE 15 _ h1
 have h5:vs=[]:=List.length_eq_zero_iff.1 h3.1
 match zs,l1 with
 | [r,s,b,m,c,way,res,mode,lr,er,lp,ep,room,heavy,log],_=>
  refine⟨r,s,b,m,c,way,res,mode,lr,er,lp,ep,room,heavy,log,q,?_⟩
  have e8:cs=cs.take 15++cs.drop 15:=(ZA 15 cs).symm
  have e4:cs.take 15=_:=e4
  have e1:cs.drop 15=_:=e1
  rw[e8,e4,e1,e2,h5]
  rfl
theorem aa.belowQ{P:Program}{f:FuncId}{args:Array Value}{u:Value}{T:aw→Prop}{bs:aw}(h:aa P f args [.p T] [] N0 (λ_=>u))(w:World)(hh:eF bs w)(ht:T bs):Calls P f args w λe w'=>e= .returned u∧Below w.heap.size w w':=by
 refine(callsIn_wide (n:=6)).1 ((callsIn_wide.2 (h.out w [bs] ⟨ht,trivial⟩ (by simpa using hh))).mono ?_)
 rintro e w' ⟨E,ds,rfl,h1,h2⟩
 exact⟨rfl,h2.os,h2.tape,h2.output,h2.size,λb hb=>h2.far b hb (by simp)⟩
theorem st_sq{A:Option Addr}{n k:Nat}{L:List St}{w:World}(hl:L.length=n)(hk:n≤k)(hr:pF 75 w A (L.map eSt)): ∃bs,eF bs w∧aK eSt (.slice A n k) L bs:=by
 obtain⟨bs,h1,h2⟩:=Qk (en:=eSt) (k:=75) (c:=k) (λs=>by unfold eSt;rw[ZB,ZB,Jw];rfl) Dc hr hl
 exact⟨bs,h1,h2,A,k-n,by rw[hl,Nat.add_sub_cancel' hk]⟩
theorem calm_con(r s b m c way res mode lr er lp ep room heavy log:Int)(back:Bool)(v:Value)(l:List St)(hls:oW l):aa Tryz.prog 9 #[.agg #[i6 r,i6 s,i6 b,i6 m,i6 c,i6 way,i6 res,i6 mode,i6 lr,i6 er,i6 lp,i6 ep,i6 room,i6 heavy,i6 log,.bool back],v] [.p (aK eSt v l)] [] N0 (λ_=> .bool true):=by
 cases h:m0 r s b m c way res mode lr er lp ep room heavy log
 ·exact Yj r s b m c way res mode lr er lp ep room heavy log back h v l
 ·obtain⟨q,rfl,rfl,rfl,rfl,rfl,rfl,rfl,rfl,rfl,rfl,rfl,rfl,rfl,rfl,rfl,rfl,hq⟩:=Tw back h
  cases hs:oT q
  ·exact Yk q hq hs v l
  ·by_cases hl:l.length≤80
   ·have h1:=Ym q hq hs v l hl hls (Ys (HY (Yr q) l _)) (Yv (HZ (GM.start hq) (λy hy=>absurd hy ZC) hls _ Om))
    have h2:tT q l=true:=by
     unfold tT
     cases e:lc q.mode (de q (dC q) l l.length).x.V.l
     ·rfl
     ·exact Y2 hq hls hl e
    rwa [h2] at h1
   ·exact Yl q hq hs v l Om
end Go.Proofs.YtbcodenfkijdnaaGreat.E
namespace Go.Proofs.YtbcodenfkijdnaaGreat
open Go Go.ChangeShapes Go.WideShapes Go.RowKit Go.Shelf
theorem WholeCalm_any(r s b m c way res mode lr er lp ep room heavy log:Int)(back:Bool)(A:Option Addr)(n k:Nat)(L:List E.St)(hl:L.length=n)(hk:n≤k)(hs: ∀s∈L,E.StOk s)(w:World)(hr:pF 75 w A (L.map E.eSt)):
  Calls Tryz.prog 9 #[.agg #[.int .i64 r,.int .i64 s,.int .i64 b,.int .i64 m,.int .i64 c,.int .i64 way,.int .i64 res,.int .i64 mode,.int .i64 lr,.int .i64 er,.int .i64 lp,.int .i64 ep,.int .i64 room,.int .i64 heavy,.int .i64 log,.bool back],.slice A n k] w
   λe w'=>e= .returned (.bool true)∧Below w.heap.size w w':=by
 obtain⟨bs,h1,h2⟩:=E.st_sq hl hk hr
 exact(E.calm_con r s b m c way res mode lr er lp ep room heavy log back _ L (E.sts_ok hs)).belowQ w h1 h2
end Go.Proofs.YtbcodenfkijdnaaGreat
