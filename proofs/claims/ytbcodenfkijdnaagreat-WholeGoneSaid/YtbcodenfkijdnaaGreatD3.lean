/- WholeGone, in 7 texts: part 3. For every input; no condition. -/
import Derived.Test.YtbcodenfkijdnaaGreatD2
import Derived.WideShapes
import Derived.OpenShut
import Derived.WideOpen
import Derived.Deep.Slices
import Derived.IntWalk
set_option linter.unusedVariables false
set_option linter.unusedSimpArgs false
set_option maxRecDepth 100000
namespace Go.Proofs.YtbcodenfkijdnaaGreat.E
open Go Go.RowKit Go.Shelf
open Go.Proofs.Tryz renaming prog→dZ
open List renaming replicate→eF
attribute [local irreducible] pc bk
def eo(b:Bool):Int:=(bif b then 1 else 0)
theorem DX(b:Bool):aa dZ 158 #[.bool b] [] [] N0 (λ_=>i6 (eo b)):=by
 refine fG Tryz.func158 λw cs=>?_
 refine r0 [] [(2,i6 0)] [] (r0 [] [(3,.bool b)] [] ?_)
 refine cB (b) (λh3=>?_) λh3=>?_
 ·refine r0 [] [(2,i6 1)] [2] ?_
  exact am (i6 1) ab.zero (by((try simp only[eo]);(repeat (first | rw[h3] | rw[ALct])))<;>rfl) [] [] []
 refine r0 [] [(2,i6 0)] [2] ?_
 exact am (i6 0) ab.zero (by((try simp only[eo]);(repeat (first | rw[h3] | rw[ALcf])))<;>rfl) [] [] []
theorem NW(x:Int)(h0: -9223372036854775808≤x)(h1:x≤9223372036854775807):aa dZ 173 #[i6 x] [] [] N0 (λ_=> .agg (rB 3 ([aO x,aO (x/256),(aO (x/65536))&&& (127:UInt8)])).toArray):=by
 refine fG Tryz.func173 λw cs=>?_
 exact ra (λq1=>[(2,pt (B0 q1) 0)]) (λq1=>[ob (B0 q1) (rB 3 (eF 3 0)).toArray 262]) λq1=>rs [(1,.t (tc (k:= .i64) (l:= .u8) (a:=i6 x) λ_ _ _ hS hT=>oY hS hT)),(3,.t (tv (ar .shr 3 (.tmp 5) (.const (u6 8)) (i6 x) (u6 8)) (λ_=>i8 8 Dc))),(4,.t (tc (k:= .i64) (l:= .u8) (a:=i6 (x/256)) λ_ _ _ hS hT=>oY hS hT)),(6,.t (tv (ar .shr 3 (.tmp 8) (.const (u6 16)) (i6 x) (u6 16)) (λ_=>i8 16 Dc))),(7,.t (tc (k:= .i64) (l:= .u8) (a:=i6 (x/65536)) λ_ _ _ hS hT=>oY hS hT)),(8,.t (tb (a:=u1 ((aO (x/65536)).toNat:Int)) (b:=u1 127) λ_ _ _ _=>xz (aO (x/65536)) ((127:UInt8)))),(10,.s 0)] 0 (ob (B0 q1) (rB 3 ([aO x,aO (x/256),(aO (x/65536))&&& (127:UInt8)])).toArray 262) (lf ab.zero [] [] [0])
def ci(x:Int)(b:Bool):List UInt8:=(bif b then([aO x,aO (x/256),(aO (x/65536))&&& (127:UInt8)]).set 2 (((aO (x/65536))&&& (127:UInt8))||| (128:UInt8)) else[aO x,aO (x/256),(aO (x/65536))&&& (127:UInt8)])
theorem DY(x:Int)(h0: -9223372036854775808≤x)(h1:x≤9223372036854775807)(b:Bool):aa dZ 159 #[i6 x,.bool b] [] [] N0 (λ_=> .agg (rB 3 (ci x b)).toArray):=by
 refine fG Tryz.func159 λw cs=>?_
 refine ra (λq1=>[(4,pt (B0 q1) 0)]) (λq1=>[ob (B0 q1) (rB 3 (eF 3 0)).toArray 262]) λq1=>rr (λ_=>[(1,.c [] [] (NW x Om Om)),(3,.s 1)]) (λq2=>[(5,pt (B2 q2) 0)]) [] (λq2 L=>L++[ob (B2 q2) (rB 3 ([aO x,aO (x/256),(aO (x/65536))&&& (127:UInt8)])).toArray 262]) λq2=>r0 [] [(8,.bool b)] [] ?_
 refine cJ (b) N0 (λc=>[ob (B0 q1) (rB 3 (eF 3 0)).toArray 262,ob (B2 q2) (rB 3 (bif c then([aO x,aO (x/256),(aO (x/65536))&&& (127:UInt8)]).set 2 (((aO (x/65536))&&& (127:UInt8))||| (128:UInt8)) else[aO x,aO (x/256),(aO (x/65536))&&& (127:UInt8)])).toArray 262]) (λh4=>?_) (λh4=>?_) ?_
 ·refine rr (λ_=>[(1,.l 1),(2,.t (tb (a:=u1 (((aO (x/65536))&&& (127:UInt8)).toNat:Int)) (b:=u1 128) λ_ _ _ _=>Jj ((aO (x/65536))&&& (127:UInt8)) ((128:UInt8)))),(4,.m (sw 1 (B2 q2) 2 262 (u1 ((((aO (x/65536))&&& (127:UInt8))||| (128:UInt8)).toNat:Int)) (rB 3 ([aO x,aO (x/256),(aO (x/65536))&&& (127:UInt8)])).toArray (rB 3 (([aO x,aO (x/256),(aO (x/65536))&&& (127:UInt8)]).set 2 (((aO (x/65536))&&& (127:UInt8))||| (128:UInt8)))).toArray (mJ (show([aO x,aO (x/256),(aO (x/65536))&&& (127:UInt8)]).length=3 by rfl)) (kg Dc)))]) N0 [] (λ_ L=>L.set 1 (ob (B2 q2) (rB 3 (([aO x,aO (x/256),(aO (x/65536))&&& (127:UInt8)]).set 2 (((aO (x/65536))&&& (127:UInt8))||| (128:UInt8)))).toArray 262)) λq5=>?_
  exact cm Kr [0,1] Kr
 ·exact cm Kr [0,1] Kr
 exact rs [(0,.l 1),(1,.s 0)] 0 (ob (B0 q1) (rB 3 (bif b then([aO x,aO (x/256),(aO (x/65536))&&& (127:UInt8)]).set 2 (((aO (x/65536))&&& (127:UInt8))||| (128:UInt8)) else[aO x,aO (x/256),(aO (x/65536))&&& (127:UInt8)])).toArray 262) (lf ab.zero [] [] [0])
theorem NX{P:Program}{w:World}{S T:TypeId}(hS:P.underlying S=some (.int .i64))(hT:P.underlying T=some (.int .u32)){c:Nat}(hc:c<4294967296):(convert S T (.int .i64 (c:Int))).run P w= .ok (.int .u32 (c:Int)) w:=by
 have h:IntKind.u32.wrap (c:Int)=(c:Int):=by rw[IntKind.wrap_u32];omega
 simp only[convert,Sem.run_bind,run_underlying hS,run_underlying hT,Result.andThen_ok,Conv.intToInt,h,Sem.run_pure]
theorem NY{P:Program}{T:TypeId}{y z:Operand}{w:World}(x:Int):(ar .and T y z (.int .i64 x) (.int .i64 8388607)).run P w= .ok (.int .i64 (((x%8388608).toNat:Nat):Int)) w:=by
 have h:=mO (P:=P) (T:=T) (y:=y) (z:=z) (w:=w) x 23 8388608 Dc Dc Dc Dc
 rw[show(((x%8388608).toNat:Nat):Int)=x%((8388608:Nat):Int) by omega]
 exact h
theorem vn(x:Int):aa dZ 153 #[i6 x] [] [] N0 (λ_=>i6 ((pc ((x%8388608).toNat)%2:Nat):Int)):=by
 refine fG Tryz.func153 λw cs=>?_
 exact r0 [] [(2,i6 0)] [] (r0 [(1,.t (tv (ar .and 3 (.tmp 3) (.const (i6 8388607)) (i6 x) (i6 8388607)) (λ_=>NY x))),(2,.t (tv (convert 3 329 (i6 (((x%8388608).toNat:Nat):Int))) (λ_=>NX Tryz.underlying3 Tryz.underlying329 Om))),(3,.c [] [] (Lt ((x%8388608).toNat) Om))] [(2,i6 ((pc ((x%8388608).toNat)%2:Nat):Int))] [2] (lf ab.zero [] [] []))
def iK(x:Nat):Nat→List UInt8
 | 0=>[]
 | k+1=>iK x k++[UInt8.ofNat (x/256^k)]
theorem j9(x k:Nat):(iK x k).length=k:=by
 induction k with
 | zero=>rfl
 | succ k ih=>rw[iK,List.length_append,ih];rfl
theorem NZ(x k:Nat):x/256^(k+1)=x/256^k/2^8:=by rw[Nat.pow_succ,Nat.div_div_eq_div_mul]
theorem N1(x:Nat)(hx:x<18446744073709551616):aa dZ 156 #[u6 (x:Int)] [] [] (λE=>[bE (E.val 0) (iK x 8)]) (λE=>(E.val 0)):=by
 refine fG Tryz.func156 λw cs=>?_
 refine r0 [] [(2,.slice none 0 0)] [] (r0 [] [(3,.slice none 0 0)] [] (r0 [] [(4,i6 0)] [] ?_))
 refine cz kB ?_
 refine mN (λk _=>k≤8) (λk vS3=>[(0,u6 ((x/256^k:Nat):Int)),(4,iN k),(3,vS3)]) (λk vS3 L=>L.set 0 (bE vS3 (iK x k))) (λk _=>8-k) 0 (.slice none 0 0) Om (by rw[Nat.pow_zero,Nat.div_one];kernel_rfl) Kr (λk vS3 hk4=>?_)
 have hll:=j9 x k
 refine r0 [] [(5,.bool (decide ((k:Int)<8)))] [] ?_
 refine cj (k:Int) 8 (λh6 dh6=>?_) λh6 dh6=>?_
 ·refine rr (λ_=>[(2,.t (tc (k:= .u64) (l:= .u8) (a:=u6 ((x/256^k:Nat):Int)) λ_ _ _ hS hT=>um hS hT)),(3,.m (bs 1 1)),(4,fD kB (vS3) (iK x k) 0 1 ([UInt8.ofNat (x/256^k)]))]) (λq7=>[(3,(q7 4).val 0)]) [3] (λq7 L=>L.set 0 (bE ((q7 4).val 0) ((iK x k)++([UInt8.ofNat (x/256^k)])))++[ob (B3 q7) #[u1 ((UInt8.ofNat (x/256^k)).toNat:Int)] 5]) λq7=>?_
  refine r0 [(1,.t (tv (ar .shr 44 (.tmp 11) (.const (u6 8)) (u6 ((x/256^k:Nat):Int)) (u6 8)) (λ_=>uj 8 Dc)))] [(0,u6 ((x/256^k/2^8:Nat):Int))] [0] (r0 [(0,ad k 1)] [(4,i6 ((k+1:Nat):Int))] [4] ?_)
  exact lE (k+1) ((q7 4).val 0) Om Om (by rw[NZ x k];kernel_rfl) [0] Kr
 obtain rfl:k=8:=by omega
 refine lF ?_
 exact r0 [] [(2,vS3)] [2] (lf (.l [] [] [vS3]) [0] [] [])
end Go.Proofs.YtbcodenfkijdnaaGreat.E
namespace Go.Proofs.YtbcodenfkijdnaaGreat
open Go Go.RowKit Go.Shelf
open List renaming getElem?_eq_none→dZ,length_range→ir,ext_getElem?→jg,length_map→jh
open Nat renaming pow_le_pow_right→eF,lt_or_ge→jm
def aB(xs:List UInt8)(off:Nat):Nat→Nat
 | 0=>0
 | k+1=>aB xs off k||| (xs.getD (off+k) 0).toNat*2^(8*k)
theorem vp{b:UInt8}{k:Nat}(hk:k<8):b.toNat*2^(8*k)<18446744073709551616:=by
 have h1:=b.toNat_lt
 have h2:2^(8*k)≤2^56:=eF Dc Om
 calc b.toNat*2^(8*k)≤255*2^56:=Nat.mul_le_mul Om h2
  _<18446744073709551616:=by decide
theorem qw(xs:List UInt8)(off k:Nat):aB xs off k<2^(8*k):=by
 induction k with
 | zero=>simp [aB]
 | succ k ih=>
  have h1:=(xs.getD (off+k) 0).toNat_lt
  unfold aB
  refine Nat.or_lt_two_pow (Nat.lt_of_lt_of_le ih (eF Dc Om)) ?_
  rw[show 8*(k+1)=8+8*k by omega,Nat.pow_add]
  exact Nat.mul_lt_mul_of_pos_right Om (Nat.pow_pos Dc)
theorem qy(xs:List UInt8)(off:Nat){k:Nat}(hk:k≤8):aB xs off k<18446744073709551616:=by
 have h1:=qw xs off k
 have h2:2^(8*k)≤2^64:=eF Dc Om
 have:(2:Nat)^64=18446744073709551616:=by decide
 omega
def b8(N:Nat)(f:Nat→UInt8)(n:Nat):List UInt8:=(List.range N).map λi=>if i<n then f i else 0
theorem lL(N:Nat)(f:Nat→UInt8)(n:Nat):(b8 N f n).length=N:=by unfold b8;rw[jh,ir]
theorem N3{N:Nat}{f:Nat→UInt8}{n:Nat}(h:n<N):(b8 N f n).set n (f n)=b8 N f (n+1):=by
 apply jg
 intro i
 rw[List.getElem?_set]
 rcases jm i N with hi | hi
 ·unfold b8
  simp only[jh,ir,List.getElem?_map,List.getElem?_range hi,Option.map_some]
  by_cases e:n=i
  ·subst e;rw[ALifp rfl,ALifp h,ALifp Om]
  ·rw[ALifn e]
   by_cases e2:i<n
   ·rw[ALifp e2,ALifp Om]
   ·rw[ALifn e2,ALifn Om]
 ·rw[dZ (l:=b8 N f (n+1)) (by rw[lL];exact hi),dZ (l:=b8 N f n) (by rw[lL];exact hi),lL]
  rw[ALifn Om]
theorem N4(N:Nat)(f:Nat→UInt8):b8 N f 0=List.replicate N 0:=by
 apply jg
 intro i
 rcases jm i N with hi | hi
 ·unfold b8
  simp [hi]
 ·rw[dZ (by rw[lL];exact hi),dZ (by simpa using hi)]
end Go.Proofs.YtbcodenfkijdnaaGreat
namespace Go.Proofs.YtbcodenfkijdnaaGreat.E
open Go Go.RowKit Go.Shelf
open Go.Proofs.Tryz renaming prog→dZ
open List renaming flatten→eF
theorem yM(ys:List UInt8)(k:Nat):aB ys 0 (k+1)=aB ys 0 k||| (ys.getD k 0).toNat*2^(8*k):=by rw[aB,Nat.zero_add]
theorem N5(ys:List UInt8)(o k:Nat):aB ys o (k+1)=aB ys o k||| (ys.getD (o+k) 0).toNat*2^(8*k):=rfl
theorem DZ(ys:List UInt8)(o:Nat):aB ys o 0=0:=rfl
theorem N6{P:Program}{T:TypeId}{x y:Operand}{w:World}{ys:List UInt8}{k:Nat}(hk:k<8):(ar .or T x y (.int .u64 ((aB ys 0 k:Nat):Int)) (.int .u64 (((ys.getD k 0).toNat*2^(8*k):Nat):Int))).run P w= .ok (.int .u64 ((aB ys 0 (k+1):Nat):Int)) w:=by
 rw[yM];exact BI (qy _ _ Om) (vp hk)
theorem N7{P:Program}{T:TypeId}{x y:Operand}{w:World}{ys:List UInt8}{o k:Nat}(hk:k<8):(ar .or T x y (.int .u64 ((aB ys o k:Nat):Int)) (.int .u64 (((ys.getD (o+k) 0).toNat*2^(8*k):Nat):Int))).run P w= .ok (.int .u64 ((aB ys o (k+1):Nat):Int)) w:=by
 rw[N5];exact BI (qy _ _ Om) (vp hk)
attribute [local irreducible] aB
theorem N8(v:Value)(ys:List UInt8)(hy:ys.length=8):aa dZ 228 #[v] [.p (aK eB v ys)] [] N0 (λ_=>u6 ((aB ys 0 8:Nat):Int)):=by
 refine fO Tryz.func228 0 rfl λbq0 hq0=>?_
 refine fG Tryz.func228 λw cs=>?_
 refine r0 [] [(2,u6 0)] [] (r0 [] [(3,u6 0)] [] (r0 [(1,eR hq0.1 0)] [(6,v),(7,iN ys.length),(8,i6 0)] [] ?_))
 refine lq (λk=>k≤8) (λk=>[(3,u6 ((aB ys 0 k:Nat):Int)),(8,iN k)]) (λ_ L=>L) (λk=>8-k) 0 Om (by rw[DZ];kernel_rfl) Kr (λk hk4=>?_)
 refine r0 [] [(9,.bool (decide ((k:Int)<(ys.length:Int))))] [] ?_
 refine cj (k:Int) (ys.length:Int) (λh6 dh6=>?_) λh6 dh6=>?_
 ·refine r0 [(1,fF hq0.1 0 k 1),(2,jr kB hq0.1 0 k 0)] [(4,iN k),(5,u1 ((ys.getD k 0).toNat:Int))] [] ?_
  refine r0 [(2,.t (tc (k:= .u8) (l:= .u64) (a:=u1 ((ys.getD k 0).toNat:Int)) λ_ _ _ hS hT=>BJ hS hT)),(4,ml 8 k),(5,.t (tv (convert 3 201 (i6 ((8*k:Nat):Int))) (λ_=>Zu Tryz.underlying3 Tryz.underlying201 Om))),(6,.t (tv (ar .shl 44 (.tmp 15) (.tmp 18) (u6 ((ys.getD k 0).toNat:Int)) (u6 ((8*k:Nat):Int))) (λ_=>uk (8*k) Om (vp Om)))),(7,.t (tv (ar .or 44 (.tmp 13) (.tmp 19) (u6 ((aB ys 0 k:Nat):Int)) (u6 (((ys.getD k 0).toNat*2^(8*k):Nat):Int))) (λ_=>N6 Om)))] [(3,u6 ((aB ys 0 (k+1):Nat):Int))] [3] (r0 [(0,ad k 1)] [(8,i6 ((k+1:Nat):Int))] [8] ?_)
  exact le (k+1) Om Om Kr [0] Kr
 obtain rfl:k=8:=by omega
 refine lx ?_
 exact r0 [] [(2,u6 ((aB ys 0 8:Nat):Int))] [2] (lf ab.zero [] [(0,0)] [])
theorem N9(l:List UInt8)(hl:l.length=64)(q:Nat)(hq:q<8):aa dZ 201 #[.agg (rB 64 l).toArray,iN q] [] [] N0 (λ_=>u6 ((aB l (8*q) 8:Nat):Int)):=by
 refine fG Tryz.func201 λw cs=>?_
 refine ra (λq1=>[(2,pt (B0 q1) 0),(4,u6 0)]) (λq1=>[ob (B0 q1) (rB 64 l).toArray 43]) λq1=>r0 [] [(5,u6 0)] [] (r0 [] [(7,i6 0)] [] ?_)
 refine lq (λk=>k≤8) (λk=>[(5,u6 ((aB l (8*q) k:Nat):Int)),(7,iN k)]) (λ_ L=>L) (λk=>8-k) 0 Om (by rw[DZ];kernel_rfl) Kr (λk hk4=>?_)
 refine r0 [] [(8,.bool (decide ((k:Int)<8)))] [] ?_
 refine cj (k:Int) 8 (λh6 dh6=>?_) λh6 dh6=>?_
 ·refine r0 [] [(6,iN k)] [] ?_
  refine r0 [(0,.v (u6 ((aB l (8*q) k:Nat):Int))),(1,.v (iN q)),(2,ml 8 q),(3,.v (iN k)),(4,ad (8*q) k),(5,iA 43 .i64 (B0 q1) 0 64 1 ((8*q)+k)),(6,rD 0 (B0 q1) ((8*q)+k) 43 (rB 64 l) (ol Om)),(7,.t (tc (k:= .u8) (l:= .u64) (a:=u1 ((l.getD ((8*q)+k) 0).toNat:Int)) λ_ _ _ hS hT=>BJ hS hT)),(8,.v (iN k)),(9,ml 8 k),(10,.t (tv (convert 3 201 (i6 ((8*k:Nat):Int))) (λ_=>Zu Tryz.underlying3 Tryz.underlying201 Om))),(11,.t (tv (ar .shl 44 (.tmp 17) (.tmp 20) (u6 ((l.getD ((8*q)+k) 0).toNat:Int)) (u6 ((8*k:Nat):Int))) (λ_=>uk (8*k) Om (vp Om)))),(12,.t (tv (ar .or 44 (.tmp 10) (.tmp 21) (u6 ((aB l (8*q) k:Nat):Int)) (u6 (((l.getD (8*q+k) 0).toNat*2^(8*k):Nat):Int))) (λ_=>N7 Om))),(13,.v (u6 ((aB l (8*q) (k+1):Nat):Int)))] [(5,u6 ((aB l (8*q) (k+1):Nat):Int))] [5] (r0 [(0,ad k 1)] [(7,i6 ((k+1:Nat):Int))] [7] ?_)
  exact le (k+1) Om Om Kr [0] Kr
 obtain rfl:k=8:=by omega
 refine lx ?_
 exact r0 [] [(4,u6 ((aB l (8*q) 8:Nat):Int))] [4] (lf ab.zero [] [] [])
theorem Ob(b:Nat)(l:List UInt8)(hl:l.length=64):fy 5 dZ 200 #[pt b 0] (λ(x:Nat×Nat)=>#[i6 (x.1:Int),u6 (x.2:Int)]) ((List.range 8).map λk=>(k,aB l (8*k) 8)) (eF [[(b,.cells (rB 64 l).toArray 43 (0,0))]]):=by
 refine gi (KO:=[[(b,.cells (rB 64 l).toArray 43 (0,0))]]) Tryz.func200 (λlY JY JX WI RI hJ hY hI=>?_)
 refine r0 [] [(4,i6 0)] [] ?_
 refine kk (λk=>k≤8) (λk=>[(4,iN k)]) (λ_ L=>L) (λk=>8-k) (λk=>k) 0 Om hI Kr Kr (λk R4 W5 hk2 hI3=>?_)
 refine r0 [] [(5,.bool (decide ((k:Int)<8)))] [] ?_
 refine cj (k:Int) 8 (λh7 dh7=>?_) λh7 dh7=>?_
 ·refine r0 [] [(3,iN k)] [] ?_
  refine iy hJ hY hI3 5 (λ_=>[(2,.l 0),(4,.c [] [] (N9 l (by(simp only[LL,hl];done)) k Om))]) (λ_=>[(7,.func (.yield lY) #[] #[]),(8,iN k),(11,u6 ((aB l (8*k) 8:Nat):Int))]) [] (λ_ L=>L) N0 [0] (o4 Om) (λq9 R10 W11 hI12=>?_)
  refine cF _ rfl (r0 [(0,ad k 1)] [(4,i6 ((k+1:Nat):Int))] [4] ?_)
  exact jc (k+1) Om hI12 Om Kr [0] Kr
 obtain rfl:k=8:=by omega
 refine km ?_
 exact lH hJ hI3 bh [] [0]
theorem Od(l:List UInt8)(hl:l.length=64):aa dZ 154 #[.agg (rB 64 l).toArray] [] [] (λE=>[ob (E.abd 0) (rB 64 l).toArray 43]) (λE=> .func (.func 200) #[] #[pt ((E.abd 0)) 0]):=by
 refine fG Tryz.func154 λw cs=>?_
 exact ra (λq1=>[(1,pt (B0 q1) 0),(2,.nilFunc)]) (λq1=>[ob (B0 q1) (rB 64 l).toArray 43]) λq1=>r0 [] [(2,.func (.func 200) #[] #[pt (B0 q1) 0])] [2] (lf (.l [(q1 0).abd 0] [] []) [0] [] [])
theorem Oe(l:List UInt8)(hl:l.length=64):aa dZ 160 #[.agg (rB 64 l).toArray] [] [] (λE=>[ob (E.abd 0) (rB 64 l).toArray 43]) (λE=> .func (.func 202) #[] #[pt ((E.abd 0)) 0]):=by
 refine fG Tryz.func160 λw cs=>?_
 exact ra (λq1=>[(1,pt (B0 q1) 0),(2,.nilFunc)]) (λq1=>[ob (B0 q1) (rB 64 l).toArray 43]) λq1=>r0 [] [(2,.func (.func 202) #[] #[pt (B0 q1) 0])] [2] (lf (.l [(q1 0).abd 0] [] []) [0] [] [])
theorem Of(b:Nat)(l:List UInt8)(hl:l.length=64):fy 5 dZ 202 #[pt b 0] (λ(x:Nat×List UInt8)=>#[i6 (x.1:Int),.agg (rB 32 x.2).toArray]) ((List.range 2).map λk=>(k,(l.drop (32*k)).take 32)) (eF [[(b,.cells (rB 64 l).toArray 43 (0,0))]]):=by
 refine gi (KO:=[[(b,.cells (rB 64 l).toArray 43 (0,0))]]) Tryz.func202 (λlY JY JX WI RI hJ hY hI=>?_)
 refine r0 [] [(4,i6 0)] [] ?_
 refine kk (λk=>k≤2) (λk=>[(4,iN k)]) (λ_ L=>L) (λk=>2-k) (λk=>k) 0 Om hI Kr Kr (λk R4 W5 hk2 hI3=>?_)
 refine r0 [] [(5,.bool (decide ((k:Int)<2)))] [] ?_
 refine cj (k:Int) 2 (λh7 dh7=>?_) λh7 dh7=>?_
 ·refine r0 [] [(3,iN k)] [] ?_
  refine iy hJ hY hI3 7 (λ_=>[(3,ml 32 k),(4,aL 43 b 64 1 (32*k)),(5,.t (tv (Instr.arrayAt 267 (.slice (some ⟨b,(32*k)*1,none⟩) (64-(32*k)) (64-(32*k)))) (λ_=>run_arrayAt _ 267 5 32 _ _ _ Tryz.underlying267 Om))),(6,.m (lg 0 b ((32*k)*1) (rB 64 l).toArray 43 (rB 32 ((l.drop (32*k)).take 32)) (xF (λ_=>rfl) hl Om)))]) (λ_=>[(7,.func (.yield lY) #[] #[]),(8,iN k),(13,.agg (rB 32 ((l.drop (32*k)).take 32)).toArray)]) [] (λ_ L=>L) N0 [0] (o4 Om) (λq9 R10 W11 hI12=>?_)
  refine cF _ rfl (r0 [(0,ad k 1)] [(4,i6 ((k+1:Nat):Int))] [4] ?_)
  exact jc (k+1) Om hI12 Om Kr [0] Kr
 obtain rfl:k=2:=by omega
 refine km ?_
 exact lH hJ hI3 bh [] [0]
end Go.Proofs.YtbcodenfkijdnaaGreat.E
namespace Go.Proofs.YtbcodenfkijdnaaGreat.E
open Go Go.RowKit Go.Shelf
open Go.Proofs.Tryz renaming prog→dZ
open List renaming size_toArray→eF,replicate→ir,toArray→jg
theorem py(m:Int):aa dZ 71 #[i6 m] [] [] N0 (λ_=> .bool ((m==1)||(m==2))):=by
 refine fG Tryz.func71 λw cs=>?_
 exact r0 [] [(2,.bool false)] [] (r0 [] [(2,.bool ((m==1)||(m==2)))] [2] (lf ab.zero [] [] []))
theorem vq:aa dZ 75 #[i6 1] [] [] N0 (λ_=>i6 9):=by
 refine fG Tryz.func75 λw cs=>?_
 refine r0 [] [(2,i6 0)] [] (r0 [] [(3,i6 1)] [] (rT [] 4 (r0 [] [(2,i6 9)] [2] ?_)))
 exact am (i6 9) ab.zero bh [] [] []
theorem vr:aa dZ 75 #[i6 2] [] [] N0 (λ_=>i6 36):=by
 refine fG Tryz.func75 λw cs=>?_
 refine r0 [] [(2,i6 0)] [] (r0 [] [(3,i6 2)] [] (rF [] 4 (rT [] 6 (r0 [] [(2,i6 36)] [2] ?_))))
 exact am (i6 36) ab.zero bh [] [] []
theorem yN:aa dZ 192 #[i6 1] [] [] N0 (λ_=>i6 8):=by
 refine fG Tryz.func192 λw cs=>?_
 refine r0 [] [(2,i6 0)] [] (r0 [(1,.c [] [] (py 1))] [(5,.bool (!((1==1)||(1==2))))] [] ?_)
 have h3:(!((1==1)||(1==2)))=false:=by decide
 refine cF (!((1==1)||(1==2))) h3 (r0 [(1,.c [] [] (vq)),(2,.t (tb (a:=i6 72) (b:=i6 9) λ_ _ _ _=>o8 (a:=72) (d:=9) Dc Om))] [(2,i6 ((72/9:Nat):Int))] [2] ?_)
 exact am (i6 ((72/9:Nat):Int)) ab.zero bh [] [] []
theorem yO:aa dZ 192 #[i6 2] [] [] N0 (λ_=>i6 2):=by
 refine fG Tryz.func192 λw cs=>?_
 refine r0 [] [(2,i6 0)] [] (r0 [(1,.c [] [] (py 2))] [(5,.bool (!((2==1)||(2==2))))] [] ?_)
 have h3:(!((2==1)||(2==2)))=false:=by decide
 refine cF (!((2==1)||(2==2))) h3 (r0 [(1,.c [] [] (vr)),(2,.t (tb (a:=i6 72) (b:=i6 36) λ_ _ _ _=>o8 (a:=72) (d:=36) Dc Om))] [(2,i6 ((72/36:Nat):Int))] [2] ?_)
 exact am (i6 ((72/36:Nat):Int)) ab.zero bh [] [] []
theorem D0{α:Type}{en:α→List Value}{d:α}{a l m c N:Nat}{ys:List α}{t:TypeId}(h1: ∀x,(en x).length=1)(h:ys.length=N)(hl:l+m≤N):SrE en (.slice (some ⟨a,l*1,none⟩) m c) ((ys.drop l).take m) [(a,.cells ((cR en d N ys).toArray) t (0,0))]:=
 .inr ⟨a,l*1,_,t,(0,0),c,by rw[show((ys.drop l).take m).length=m by rw[List.length_take,List.length_drop];omega],by simp,BW (d:=d) h1 h hl⟩
theorem D1(xs:List UInt8)(hx:xs.length=72)(q:Nat)(hq:q<8):aa dZ 194 #[.agg (rB 72 xs).toArray,i6 1,iN q] [] [] (λE=>[bE (E.val 0) ((xs.drop (9*q)).take 9)]) (λE=>(E.val 0)):=by
 refine fG Tryz.func194 λw cs=>?_
 refine ra (λq1=>[(3,pt (B0 q1) 0),(6,.slice none 0 0)]) (λq1=>[ob (B0 q1) (rB 72 xs).toArray 217]) λq1=>r0 [(5,.c [] [] (yN))] [(15,.bool ((decide ((q:Int)<0))||(decide (8≤(q:Int)))))] [] ?_
 have h3:((decide ((q:Int)<0))||(decide (8≤(q:Int))))=false:=by rw[bj Om,bj Om];rfl
 exact cF ((decide ((q:Int)<0))||(decide (8≤(q:Int)))) h3 (r0 [(1,.c [] [] (vq))] [(7,i6 9)] [] (rr (λq5=>[(0,.m (sa 1 eB ([u1 0]) 5)),(3,ml 9 q),(6,ml 9 q),(8,ad (9*q) 9),(9,aM 217 (B0 q1) 72 1 (9*q) 9),(10,.m (mK 1 0 pa (.slice (some ⟨(q5 0).abd 0,0,none⟩) 0 0) (.slice (some ⟨(q1 0).abd 0,(9*q)*1,none⟩) 9 (72-(9*q))) (xs:=[]) (ys:=(xs.drop (9*q)).take 9) (ob (B0 q1) (rB 72 xs).toArray 217) (λ_ h=>by rw[show _=_ from h];exact D0 (λ_=>rfl) hx Om) o9 (λ_=>rfl) (by simp only[LL,hx];omega)))]) (λq5=>[(6,(q5 10).val 0)]) [6] (λq5 L=>L++[bE ((q5 10).val 0) ([]++((xs.drop (9*q)).take 9))]) λq5=>lf (.l [] [] [(q5 10).val 0]) [1] [] [] (hf:=by kernel_rfl)))
theorem D2(xs:List UInt8)(hx:xs.length=72)(q:Nat)(hq:q<2):aa dZ 194 #[.agg (rB 72 xs).toArray,i6 2,iN q] [] [] (λE=>[bE (E.val 0) ((xs.drop (36*q)).take 36)]) (λE=>(E.val 0)):=by
 refine fG Tryz.func194 λw cs=>?_
 refine ra (λq1=>[(3,pt (B0 q1) 0),(6,.slice none 0 0)]) (λq1=>[ob (B0 q1) (rB 72 xs).toArray 217]) λq1=>r0 [(5,.c [] [] (yO))] [(15,.bool ((decide ((q:Int)<0))||(decide (2≤(q:Int)))))] [] ?_
 have h3:((decide ((q:Int)<0))||(decide (2≤(q:Int))))=false:=by rw[bj Om,bj Om];rfl
 exact cF ((decide ((q:Int)<0))||(decide (2≤(q:Int)))) h3 (r0 [(1,.c [] [] (vr))] [(7,i6 36)] [] (rr (λq5=>[(0,.m (sa 1 eB ([u1 0]) 5)),(3,ml 36 q),(6,ml 36 q),(8,ad (36*q) 36),(9,aM 217 (B0 q1) 72 1 (36*q) 36),(10,.m (mK 1 0 pa (.slice (some ⟨(q5 0).abd 0,0,none⟩) 0 0) (.slice (some ⟨(q1 0).abd 0,(36*q)*1,none⟩) 36 (72-(36*q))) (xs:=[]) (ys:=(xs.drop (36*q)).take 36) (ob (B0 q1) (rB 72 xs).toArray 217) (λ_ h=>by rw[show _=_ from h];exact D0 (λ_=>rfl) hx Om) o9 (λ_=>rfl) (by simp only[LL,hx];omega)))]) (λq5=>[(6,(q5 10).val 0)]) [6] (λq5 L=>L++[bE ((q5 10).val 0) ([]++((xs.drop (36*q)).take 36))]) λq5=>lf (.l [] [] [(q5 10).val 0]) [1] [] [] (hf:=by kernel_rfl)))
theorem Og(xs ys:List UInt8)(v:Value)(hx:xs.length=72)(q:Nat)(hq:q<8)(hy:ys.length=9):aa dZ 155 #[.agg (rB 72 xs).toArray,i6 1,iN q,v] [.p (aK eB v ys)] [] N0 (λ_=> .agg (rB 72 (xs.take (9*q)++ys++xs.drop ((9*q)+ys.length))).toArray):=by
 refine fO Tryz.func155 0 rfl λbq0 hq0=>?_
 refine fG Tryz.func155 λw cs=>?_
 refine ra (λq1=>[(4,pt (B0 q1) 0),(8,pt (B1 q1) 0)]) (λq1=>[ob (B0 q1) (rB 72 xs).toArray 217,ob (B1 q1) (rB 72 (ir 72 0)).toArray 217]) λq1=>r0 [(1,.c [] [] (vq))] [(9,i6 9)] [] (r0 [(5,.c [] [] (yN)),(10,eR hq0.1 0),] [(25,.bool (((decide (0≤(q:Int)))&&(decide ((q:Int)<8)))&&((ys.length:Int)==9)))] [] ?_)
 have h4:(((decide (0≤(q:Int)))&&(decide ((q:Int)<8)))&&((ys.length:Int)==9))=true:=by rw[cC Om,cC Om];simp [hy]
 exact cT (((decide (0≤(q:Int)))&&(decide ((q:Int)<8)))&&((ys.length:Int)==9)) h4 (rs [(2,ml 9 q),(3,aL 217 (B0 q1) 72 1 (9*q)),(5,.m (uW kB 1 (B0 q1) ((9*q)*1) (72-(9*q)) (72-(9*q)) (rB 72 xs).toArray (rB 72 (xs.take (9*q)++ys++xs.drop ((9*q)+ys.length))).toArray 217 191 191 0 (.c bq0) v ys (cP hq0.1) Om (by rw[eF,kL];omega) (by rw[Nat.mul_one];exact ALca jg (r5 (d:=0) (λ_=>rfl) hx rfl Om))))] 1 (ob (B0 q1) (rB 72 (xs.take (9*q)++ys++xs.drop ((9*q)+ys.length))).toArray 217) (rs [(0,.l 1),(1,.s 2)] 2 (ob (B1 q1) (rB 72 (xs.take (9*q)++ys++xs.drop ((9*q)+ys.length))).toArray 217) (lf ab.zero [] [(0,0)] [2])))
theorem Oh(xs ys:List UInt8)(v:Value)(hx:xs.length=72)(q:Nat)(hq:q<2)(hy:ys.length=36):aa dZ 155 #[.agg (rB 72 xs).toArray,i6 2,iN q,v] [.p (aK eB v ys)] [] N0 (λ_=> .agg (rB 72 (xs.take (36*q)++ys++xs.drop ((36*q)+ys.length))).toArray):=by
 refine fO Tryz.func155 0 rfl λbq0 hq0=>?_
 refine fG Tryz.func155 λw cs=>?_
 refine ra (λq1=>[(4,pt (B0 q1) 0),(8,pt (B1 q1) 0)]) (λq1=>[ob (B0 q1) (rB 72 xs).toArray 217,ob (B1 q1) (rB 72 (ir 72 0)).toArray 217]) λq1=>r0 [(1,.c [] [] (vr))] [(9,i6 36)] [] (r0 [(5,.c [] [] (yO)),(10,eR hq0.1 0),] [(25,.bool (((decide (0≤(q:Int)))&&(decide ((q:Int)<2)))&&((ys.length:Int)==36)))] [] ?_)
 have h4:(((decide (0≤(q:Int)))&&(decide ((q:Int)<2)))&&((ys.length:Int)==36))=true:=by rw[cC Om,cC Om];simp [hy]
 exact cT (((decide (0≤(q:Int)))&&(decide ((q:Int)<2)))&&((ys.length:Int)==36)) h4 (rs [(2,ml 36 q),(3,aL 217 (B0 q1) 72 1 (36*q)),(5,.m (uW kB 1 (B0 q1) ((36*q)*1) (72-(36*q)) (72-(36*q)) (rB 72 xs).toArray (rB 72 (xs.take (36*q)++ys++xs.drop ((36*q)+ys.length))).toArray 217 191 191 0 (.c bq0) v ys (cP hq0.1) Om (by rw[eF,kL];omega) (by rw[Nat.mul_one];exact ALca jg (r5 (d:=0) (λ_=>rfl) hx rfl Om))))] 1 (ob (B0 q1) (rB 72 (xs.take (36*q)++ys++xs.drop ((36*q)+ys.length))).toArray 217) (rs [(0,.l 1),(1,.s 2)] 2 (ob (B1 q1) (rB 72 (xs.take (36*q)++ys++xs.drop ((36*q)+ys.length))).toArray 217) (lf ab.zero [] [(0,0)] [2])))
def iL(ws:List Nat)(i:Nat):UInt8:=UInt8.ofNat (ws.getD (i/8) 0/2^(8*(i%8)))
theorem Oi{ws:List Nat}{k j:Nat}(hj:j<8):iL ws (8*k+j)=UInt8.ofNat (ws.getD k 0/2^(8*j)):=by
 unfold iL
 rw[show(8*k+j)/8=k by omega,show(8*k+j)%8=j by omega]
attribute [local irreducible] b8
theorem Oj(ws:List Nat)(hw:ws.length=8)(hb: ∀i,ws.getD i 0<18446744073709551616):aa dZ 196 #[.agg (rW 8 ws).toArray] [] [] N0 (λ_=> .agg (rB 64 (b8 64 (iL ws) (8*8))).toArray):=by
 refine fG Tryz.func196 λw cs=>?_
 refine ra (λq1=>[(1,pt (B0 q1) 0),(2,pt (B1 q1) 0)]) (λq1=>[ob (B0 q1) (rW 8 ws).toArray 320,ob (B1 q1) (rB 64 z6).toArray 43]) λq1=>ra (λq2=>[(3,pt (B0 q2) 0)]) (λq2=>[ob (B0 q2) (rB 64 z6).toArray 43]) λq2=>r0 [(0,.l 0)] [(7,.agg (rW 8 ws).toArray),(8,i6 0)] [] ?_
 refine lq (λk=>k≤8) (λk=>[(8,iN k)]) (λk L=>L.set 2 (ob (B0 q2) (rB 64 (b8 64 (iL ws) (8*k))).toArray 43)) (λk=>8-k) 0 Om Kr (by rw[Nat.mul_zero,N4];kernel_rfl) (λk hk4=>?_)
 refine r0 [] [(9,.bool (decide ((k:Int)<8)))] [] ?_
 refine cj (k:Int) 8 (λh6 dh6=>?_) λh6 dh6=>?_
 ·refine r0 [(1,.t (tv (Instr.index 320 (.agg (rW 8 ws).toArray) (iN k)) (λ_=>IF (n:=8) (e:=44) Tryz.underlying320 Om (λ_=>by kernel_rfl) Kr (Js Om))))] [(4,iN k),(5,u6 ((ws.getD k 0:Nat):Int))] [] ?_
  refine r0 [] [(12,i6 0)] [] ?_
  refine lq (λj=>j≤8) (λj=>[(12,iN j)]) (λj L=>L.set 2 (ob (B0 q2) (rB 64 (b8 64 (iL ws) (8*k+j))).toArray 43)) (λj=>8-j) 0 Om Kr Kr (λj hk9=>?_)
  refine r0 [] [(13,.bool (decide ((j:Int)<8)))] [] ?_
  refine cj (j:Int) 8 (λh11 dh11=>?_) λh11 dh11=>?_
  ·refine r0 [] [(6,iN j)] [] ?_
   refine rs [(1,ml 8 k),(3,ad (8*k) j),(6,ml 8 j),(7,.t (tv (convert 3 201 (i6 ((8*j:Nat):Int))) (λ_=>Zu Tryz.underlying3 Tryz.underlying201 Om))),(8,.t (tv (ar .shr 44 (.tmp 19) (.tmp 22) (u6 ((ws.getD k 0:Nat):Int)) (u6 ((8*j:Nat):Int))) (λ_=>uj (8*j) Om))),(9,.t (tc (k:= .u64) (l:= .u8) (a:=u6 ((ws.getD k 0/2^(8*j):Nat):Int)) λ_ _ _ hS hT=>um hS hT)),(10,iA 43 .i64 (B0 q2) 0 64 1 ((8*k)+j)),(11,wD 2 (B0 q2) ((8*k)+j) 43 (u1 ((UInt8.ofNat (ws.getD k 0/2^(8*j))).toNat:Int)) (rB 64 (b8 64 (iL ws) (8*k+j))) (rB 64 ((b8 64 (iL ws) (8*k+j)).set ((8*k)+j) (UInt8.ofNat (ws.getD k 0/2^(8*j))))) (kg Om) (mJ (lL ..)))] 2 (ob (B0 q2) (rB 64 ((b8 64 (iL ws) (8*k+j)).set ((8*k)+j) (UInt8.ofNat (ws.getD k 0/2^(8*j))))).toArray 43) (r0 [(0,ad j 1)] [(12,i6 ((j+1:Nat):Int))] [12] ?_)
   exact le (j+1) Om Om Kr [0,1,2] (by rw[←Nat.add_assoc,←N3 Om,Oi Om];kernel_rfl)
  obtain rfl:j=8:=by omega
  refine lx ?_
  refine r0 [(0,ad k 1)] [(8,i6 ((k+1:Nat):Int))] [8] ?_
  exact le (k+1) Om Om Kr [0,1,2] Kr
 obtain rfl:k=8:=by omega
 refine lx ?_
 exact rs [(0,.l 2),(1,.s 1)] 1 (ob (B1 q1) (rB 64 (b8 64 (iL ws) (8*8))).toArray 43) (lf ab.zero [] [] [1])
end Go.Proofs.YtbcodenfkijdnaaGreat.E
namespace Go.Proofs.YtbcodenfkijdnaaGreat.E
open Go Go.RowKit Go.Shelf
attribute [local irreducible] a9 bL cE aP aW
theorem Ok:aa Tryz.prog 115 #[] [] [] (λE=>[ob (E.abd 0) #[pt ((E.abd 1)) 0,pt ((E.abd 2)) 0] 242,ob (E.abd 1) (rB 74 (a9 10)++rI 256 (bL 10)).toArray 298,ob (E.abd 2) #[pt ((E.abd 3)) 0,(E.val 0)] 309,ob (E.abd 3) (rB 255 aP++rN 256 aW).toArray 312,bE (E.val 0) cE]) (λE=>pt ((E.abd 0)) 0):=by
 refine fG Tryz.func115 λw cs=>?_
 exact r0 [] [(0,.pointer none)] [] (rr (λq2=>[(0,.c [] [0] (NV)),(1,.c [] [1] (L6)),(2,.c [1] [2,3] (Nr (B1 q2)))]) (λq2=>[(0,pt (B4 q2) 0)]) [0] (λq2 L=>L++[ob (B0 q2) (rB 74 (a9 10)++rI 256 (bL 10)).toArray 298,ob (B1 q2) (rB 255 aP++rN 256 aW).toArray 312,ob (B2 q2) #[pt ((B1 q2)) 0,((q2 2).val 0)] 309,bE ((q2 2).val 0) cE,ob (B4 q2) #[pt ((B0 q2)) 0,pt ((B2 q2)) 0] 242]) λq2=>lf (.l [(q2 4).abd 0,(B0 q2),(B2 q2),(B1 q2)] [] [((q2 2).val 0)]) [4,0,2,1,3] [] [])
end Go.Proofs.YtbcodenfkijdnaaGreat.E
namespace Go.Proofs.YtbcodenfkijdnaaGreat.E
open Go Go.RowKit Go.Shelf
open List renaming length_take→dZ,getD_eq_getElem?_getD→eF,length_drop→ir,getElem?_eq_getElem→jh,foldl_append→jm,replicate→jw
open Go.Proofs.Tryz renaming prog→jg
def kI:Kd jg Int:=⟨eI,[i6 0],74,3,0,1,λ_=>rfl,rfl,λ_=>rfl,d9.mk' Kr Kr rfl⟩
def jK(l:List Int):Int:=l.foldl max 0
def jF(l:List Int):Int:=l.foldl (λa k=>a+eo (k==1)) 0
theorem D6{l:List Int}{k:Nat}(h:k<l.length):l.take (k+1)=l.take k++[l.getD k 0]:=by
 rw[List.take_add_one,jh h,eF,jh h]
 rfl
theorem Ol(l:List Int)(x:Int):jK (l++[x])=max (jK l) x:=by unfold jK;rw[jm];rfl
theorem On(l:List Int)(x:Int):jF (l++[x])=jF l+eo (x==1):=by unfold jF;rw[jm];rfl
theorem yP(b:Bool):0≤eo b∧eo b≤1:=by cases b<;>decide
theorem Ea(l:List Int):0≤jF l∧jF l≤l.length:=by
 suffices h: ∀(l:List Int) (a:Int),a≤l.foldl (λa k=>a+eo (k==1)) a∧l.foldl (λa k=>a+eo (k==1)) a≤a+l.length by
  have:=h l 0
  unfold jF
  omega
 intro l
 induction l with
 | nil=>intro a;simp
 | cons x l ih=>
  intro a
  have h1:=ih (a+eo (x==1))
  have h2:=yP (x==1)
  rw[List.foldl_cons,List.length_cons]
  push_cast
  omega
theorem Oo{l:List Int}{k:Nat}(h:k<l.length):jK (l.take (k+1))=max (jK (l.take k)) (l.getD k 0):=by rw[D6 h,Ol]
theorem Oq{l:List Int}{k:Nat}(h:k<l.length):jF (l.take (k+1))=jF (l.take k)+eo (l.getD k 0==1):=by rw[D6 h,On]
attribute [local irreducible] jK jF eo
def gN(ks:List Int):Int:=(bif (jK ks) != 1 then 0 else(jF ks))
theorem Eb(v:Value)(ks:List Int)(hk:ks.length≤1000):aa jg 152 #[v] [.p (aK eI v ks)] [] N0 (λ_=> .agg #[i6 (jK ks),i6 (gN ks)]):=by
 refine fO Tryz.func152 0 rfl λbq0 hq0=>?_
 refine fG Tryz.func152 λw cs=>?_
 refine ra (λq1=>[(2,pt (B0 q1) 0)]) (λq1=>[ob (B0 q1) #[i6 0,i6 0] 79]) λq1=>ra (λq2=>[(3,pt (B0 q2) 0)]) (λq2=>[ob (B0 q2) #[i6 0,i6 0] 79]) λq2=>r0 [(1,eR hq0.1 0)] [(6,v),(7,iN ks.length),(8,i6 0)] [] ?_
 refine lq (λk=>k≤ks.length) (λk=>[(8,iN k)]) (λk L=>L.set 2 (ob (B0 q2) #[i6 (jK (ks.take k)),i6 (jF (ks.take k))] 79)) (λk=>ks.length-k) 0 Om Kr (by rw[List.take_zero,show jK []=0 by unfold jK;rfl,show jF []=0 by unfold jF;rfl];kernel_rfl) (λk hk4=>?_)
 have hjf:=Ea (ks.take k)
 have hjl:(ks.take k).length≤k:=by rw[dZ];omega
 have hjx:=yP (ks.getD k 0==1)
 refine r0 [] [(9,.bool (decide ((k:Int)<(ks.length:Int))))] [] ?_
 refine cj (k:Int) (ks.length:Int) (λh6 dh6=>?_) λh6 dh6=>?_
 ·refine r0 [(0,fF hq0.1 0 k 1),(1,jr kI hq0.1 0 k 0)] [(5,i6 (ks.getD k 0))] [] ?_
  refine rs [(1,.l 2),(3,.t (tv (Builtin.max_ #[3,3] 3 #[i6 (jK (ks.take k)),i6 (ks.getD k 0)]) (λ_=>r6 _ _ _ _))),(5,.s 2)] 2 (ob (B0 q2) #[i6 (max (jK (ks.take k)) (ks.getD k 0)),i6 (jF (ks.take k))] 79) (rs [(1,.l 2),(4,.c [] [] (DX ((ks.getD k 0)==1))),(5,aI (jF (ks.take k)) ((eo ((ks.getD k 0)==1))) Om),(7,.s 2)] 2 (ob (B0 q2) #[i6 (max (jK (ks.take k)) (ks.getD k 0)),i6 ((jF (ks.take k))+(eo ((ks.getD k 0)==1)))] 79) (r0 [(0,ad k 1)] [(8,i6 ((k+1:Nat):Int))] [8] ?_))
  exact le (k+1) Om Om Kr [0,1,2] (by rw[Oo Om,Oq Om];kernel_rfl)
 obtain rfl:k=ks.length:=by omega
 refine cl [.c bq0,ob (B0 q1) #[i6 0,i6 0] 79,ob (B0 q2) #[i6 (jK ks),i6 (jF ks)] 79] (by rw[List.take_length];kernel_rfl) ?_
 refine lx ?_
 refine r0 [(1,.l 2)] [(27,.bool ((jK ks) != 1))] [] ?_
 refine cJ ((jK ks) != 1) N0 (λc=>[.c bq0,ob (B0 q1) #[i6 0,i6 0] 79,ob (B0 q2) #[i6 (jK ks),i6 (bif c then 0 else(jF ks))] 79]) (λh12=>?_) (λh12=>?_) ?_
 ·have dh12:=bne_iff_ne.1 h12
  refine rs [(1,.s 2)] 2 (ob (B0 q2) #[i6 (jK ks),i6 0] 79) ?_
  exact cm Kr [0,1,2] Kr
 ·have dh12:=BX h12
  exact cm Kr [0,1,2] Kr
 exact rs [(0,.l 2),(1,.s 1)] 1 (ob (B0 q1) #[i6 (jK ks),i6 (bif (jK ks) != 1 then 0 else(jF ks))] 79) (lf ab.zero [] [(0,0)] [1])
def iM(h:List UInt8)(k:Nat):List UInt8:=h.take (32*k)++jw (64-32*k) 0
theorem Ot{h:List UInt8}(hh:h.length=64){k:Nat}(hk:k≤2):(iM h k).length=64:=by unfold iM;rw[List.length_append,dZ,List.length_replicate,hh];omega
theorem Ou(h:List UInt8):iM h 0=jw 64 0:=rfl
theorem yQ{h:List UInt8}(hh:h.length=64):iM h 2=h:=by unfold iM;rw[List.take_of_length_le Om,show 64-32*2=0 from rfl,List.replicate_zero,List.append_nil]
theorem Ov{h:List UInt8}(hh:h.length=64){k:Nat}(hk:k<2):(iM h k).take (32*k)++(h.drop (k*32)).take 32++(iM h k).drop (32*k+32)=iM h (k+1):=by
 unfold iM
 have h1:(h.take (32*k)).length=32*k:=by rw[dZ];omega
 rw[List.take_left' h1,←List.drop_drop,List.drop_left' h1,List.drop_replicate,Nat.mul_comm k 32,←List.take_add,show 32*k+32=32*(k+1) by omega,show 64-32*k-32=64-32*(k+1) by omega]
attribute [local irreducible] iM
theorem Ow(h:List UInt8)(hh:h.length=64):aa jg 198 #[.agg (rB 64 h).toArray] [] [] N0 (λ_=> .agg (rB 64 h).toArray):=by
 refine fG Tryz.func198 λw cs=>?_
 refine ra (λq1=>[(1,pt (B0 q1) 0),(2,pt (B1 q1) 0)]) (λq1=>[ob (B0 q1) (rB 64 h).toArray 324,ob (B1 q1) (rB 64 z6).toArray 43]) λq1=>ra (λq2=>[(3,pt (B0 q2) 0)]) (λq2=>[ob (B0 q2) (rB 64 z6).toArray 43]) λq2=>r0 [(0,.l 0)] [(6,.agg (rB 64 h).toArray),(7,i6 0)] [] ?_
 refine lq (λk=>k≤2) (λk=>[(7,iN k)]) (λk L=>L.set 2 (ob (B0 q2) (rB 64 (iM h k)).toArray 43)) (λk=>2-k) 0 Om Kr (by rw[Ou];kernel_rfl) (λk hk4=>?_)
 have HTL:=Ot hh hk4
 refine r0 [] [(8,.bool (decide ((k:Int)<2)))] [] ?_
 refine cj (k:Int) 2 (λh6 dh6=>?_) λh6 dh6=>?_
 ·refine rr (λ_=>[(1,.t (tv (Instr.index 324 (.agg (rB 64 h).toArray) (iN k)) (λ_=>JI (n:=2) (m:=32) (N:=64) (e:=267) Kr (λ_=>rfl) Om rfl hh))),(4,.s 3)]) (λq7=>[(5,pt (B2 q7) 0),(4,iN k)]) [] (λq7 L=>L++[ob (B2 q7) (rB 32 ((h.drop (k*32)).take 32)).toArray 267]) λq7=>?_
  refine rs [(1,ml 32 k),(2,aL 43 (B0 q2) 64 1 (32*k)),(3,aS 267 (B2 q7) 32 1),(4,.m (uW kB 2 (B0 q2) ((32*k)*1) (64-(32*k)) (64-(32*k)) (rB 64 (iM h k)).toArray (rB 64 ((iM h k).take (32*k)++((h.drop (k*32)).take 32)++(iM h k).drop ((32*k)+32))).toArray 43 191 191 3 (ob (B2 q7) (rB 32 ((h.drop (k*32)).take 32)).toArray 267) (.slice (some ⟨(q7 2).abd 0,0,none⟩) 32 32) ((h.drop (k*32)).take 32) (λ_ h=>by rw[show _=_ from h];exact pj (λ_=>rfl) (by rw[dZ,ir,hh];omega)) (by rw[(show((h.drop (k*32)).take 32).length=32 from(by rw[dZ,ir,hh];omega))];omega) (by rw[List.size_toArray,kL];rw[(show((h.drop (k*32)).take 32).length=32 from(by rw[dZ,ir,hh];omega))];omega) (by rw[Nat.mul_one];exact ALca List.toArray (r5 (d:=0) (λ_=>rfl) (show(iM h k).length=64 by(simp only[LL,HTL,hh];done)) (show((h.drop (k*32)).take 32).length=32 from(by rw[dZ,ir,hh];omega)) Om))))] 2 (ob (B0 q2) (rB 64 ((iM h k).take (32*k)++((h.drop (k*32)).take 32)++(iM h k).drop ((32*k)+32))).toArray 43) (r0 [(0,ad k 1)] [(7,i6 ((k+1:Nat):Int))] [7] ?_)
  exact le (k+1) Om Om Kr [0,1,2] (by rw[←Ov hh Om];kernel_rfl)
 obtain rfl:k=2:=by omega
 refine cl [ob (B0 q1) (rB 64 h).toArray 324,ob (B1 q1) (rB 64 z6).toArray 43,ob (B0 q2) (rB 64 h).toArray 43] (by rw[yQ hh];kernel_rfl) ?_
 refine lx ?_
 exact rs [(0,.l 2),(1,.s 1)] 1 (ob (B1 q1) (rB 64 h).toArray 43) (lf ab.zero [] [] [1])
theorem Ec(ys:List UInt8): ∀k,k≤8→aB (ys.take 8) 0 k=aB ys 0 k
 | 0,_=>rfl
 | k+1,h=>by
  rw[yM,yM,Ec ys k Om]
  rw[show(ys.take 8).getD k 0=ys.getD k 0 by rw[eF,eF,List.getElem?_take_of_lt Om]]
theorem Ox(v:Value)(ys:List UInt8)(hy:8≤ys.length):aa jg 228 #[im v 0 8 1] [.p (aK eB v ys)] [] N0 (λ_=> .int .u64 ((aB ys 0 8:Nat):Int)):=by
 rw[←Ec ys 8 (Nat.le_refl _)]
 exact aa.at (N8 (im v 0 8 1) (ys.take 8) (by rw[dZ];omega)) (bO (λ_ h=>aK.take (en:=eB) (k:=1) (λ_=>rfl) h hy) λ_ h=>h)
attribute [local irreducible] dw dj bo gp aB Hs aT
def kv:List Int:=[-1,64,65, -1,66, -1, -1,0,67, -1, -1,1, -1,2,3, -1,68, -1, -1,4, -1,5,6, -1, -1,7,8, -1,9, -1, -1,56,69, -1, -1,10, -1,11,12, -1, -1,13,14, -1,15, -1, -1,57, -1,16,17, -1,18, -1, -1,58,19, -1, -1,59, -1,60,61, -1,70, -1, -1,20, -1,21,22, -1, -1,23,24, -1,25, -1, -1,62, -1,26,27, -1,28, -1, -1,63,29, -1, -1,72, -1,73, -1, -1, -1,30,31, -1,32, -1, -1, -1,33, -1, -1, -1, -1, -1, -1, -1,34, -1, -1, -1, -1, -1, -1, -1, -1, -1, -1, -1, -1, -1, -1, -1,71, -1, -1,35, -1,36,37, -1, -1,38,39, -1,40, -1, -1, -1, -1,41,42, -1,43, -1, -1, -1,44, -1, -1, -1, -1, -1, -1, -1, -1,45,46, -1,47, -1, -1, -1,48, -1, -1, -1, -1, -1, -1, -1,49, -1, -1, -1, -1, -1, -1, -1, -1, -1, -1, -1, -1, -1, -1, -1, -1,50,51, -1,52, -1, -1, -1,53, -1, -1, -1, -1, -1, -1, -1,54, -1, -1, -1, -1, -1, -1, -1, -1, -1, -1, -1, -1, -1, -1, -1,55, -1, -1, -1, -1, -1, -1, -1, -1, -1, -1, -1, -1, -1, -1, -1, -1, -1, -1, -1, -1, -1, -1, -1, -1, -1, -1, -1, -1, -1, -1, -1]
theorem Ed:bL 10=kv:=by decide+kernel
theorem hp: ∀k:UInt8,(dw k (bL 10)==1)=true→0≤dj k (bL 10):=by
 have h: ∀n:Nat,n<256→(dw (UInt8.ofNat n) kv==1)=true→0≤dj (UInt8.ofNat n) kv:=by decide+kernel
 intro k
 have:=h k.toNat k.toNat_lt
 rw[Ed]
 rwa [UInt8.ofNat_toNat] at this
theorem lM(x:Int)(b:Bool):(ci x b).length=3:=by cases b<;>rfl
theorem Oy{b:Bool}{X Y:List UInt8}(hX:X.length=36)(hY:Y.length=36):(bif b then X.drop 4 else Y.drop 4).length=32:=by cases b<;>simp [hX,hY]
theorem yR{d v:List UInt8}(hd:d.length=36):(Hs d v).length=32:=by unfold Hs;exact Oy (by rw[List.length_set];exact hd) hd
attribute [local irreducible] a9 bL cE aP aW ci fI c6 fa
def kw(ys:List UInt8)(x:Int):Int:=(bif (dw ((bo (aB ys 0 8) ((pc ((x%8388608).toNat)%2:Nat):Int) 0 (a9 10))^^^(ys.getD 8 0)) (bL 10))==0 then 0 else(bif (dw ((bo (aB ys 0 8) ((pc ((x%8388608).toNat)%2:Nat):Int) 0 (a9 10))^^^(ys.getD 8 0)) (bL 10))==1 then 1 else(bif (dw ((bo (aB ys 0 8) ((pc ((x%8388608).toNat)%2:Nat):Int) 0 (a9 10))^^^(ys.getD 8 0)) (bL 10))==2 then 2 else 3)))
theorem Oz(cc hb cb:Nat)(v:Value)(ys:List UInt8)(hy:ys.length=9)(x:Int):aa jg 195 #[pt cc 0,v,i6 x] [ob cc #[pt hb 0,pt cb 0] 242,ob hb (rB 74 (a9 10)++rI 256 (bL 10)).toArray 298,.p (aK eB v ys)] [] N0 (λ_=> .tuple #[u6 (((gp (aB ys 0 8) (ys.getD 8 0) ((pc ((x%8388608).toNat)%2:Nat):Int) (a9 10) (bL 10)):Nat):Int),i6 (kw ys x)]):=by
 refine fO Tryz.func195 2 rfl λbq2 hq2=>?_
 refine fG Tryz.func195 λw cs=>?_
 refine r0 [] [(6,u6 0),(7,i6 0)] [] (rr (λq2=>[(3,.m (ld 0 (pt hb 0))),(5,.m (CM 2 (.c bq2) 8 1 (cP hq2) Om)),(6,.c [2] [] (aa.at (rd':=[.c bq2]) (Ox v ys Om) (em hq2 (λ_ h=>h)))),(8,fF hq2.1 2 8 1),(9,jr kB hq2.1 2 8 0),(11,.c [] [] (vn x)),(12,.c [1] [] (NQ hb (aB ys 0 8) (ys.getD 8 0) ((pc ((x%8388608).toNat)%2:Nat):Int) (a9 10) (bL 10) (qy ys 0 (Nat.le_refl 8)) (by(simp only[LL,jv,j8,hy];done)) (by(simp only[LL,jv,j8,hy];done)) hp)),]) (λ_=>[(8,u6 (((gp (aB ys 0 8) (ys.getD 8 0) ((pc ((x%8388608).toNat)%2:Nat):Int) (a9 10) (bL 10)):Nat):Int)),(9,i6 (dw ((bo (aB ys 0 8) ((pc ((x%8388608).toNat)%2:Nat):Int) 0 (a9 10))^^^(ys.getD 8 0)) (bL 10)))]) [] (λ_ L=>L) λq2=>r0 [] [(28,i6 (dw ((bo (aB ys 0 8) ((pc ((x%8388608).toNat)%2:Nat):Int) 0 (a9 10))^^^(ys.getD 8 0)) (bL 10)))] [] (r0 [] [(29,.bool ((dw ((bo (aB ys 0 8) ((pc ((x%8388608).toNat)%2:Nat):Int) 0 (a9 10))^^^(ys.getD 8 0)) (bL 10))==0))] [] ?_))
 refine cZ (dw ((bo (aB ys 0 8) ((pc ((x%8388608).toNat)%2:Nat):Int) 0 (a9 10))^^^(ys.getD 8 0)) (bL 10)) 0 (λh5 dh5=>?_) λh5 dh5=>?_
 ·refine r0 [] [(6,u6 (((gp (aB ys 0 8) (ys.getD 8 0) ((pc ((x%8388608).toNat)%2:Nat):Int) (a9 10) (bL 10)):Nat):Int)),(7,i6 0)] [6,7] ?_
  exact am (.tuple #[u6 (((gp (aB ys 0 8) (ys.getD 8 0) ((pc ((x%8388608).toNat)%2:Nat):Int) (a9 10) (bL 10)):Nat):Int),i6 0]) ab.zero (by((try simp only[kw]);(repeat (first | rw[h5] | rw[ALct])))<;>rfl) [] [(0,0),(1,1),(2,2)] []
 refine r0 [] [(32,.bool ((dw ((bo (aB ys 0 8) ((pc ((x%8388608).toNat)%2:Nat):Int) 0 (a9 10))^^^(ys.getD 8 0)) (bL 10))==1))] [] ?_
 refine cZ (dw ((bo (aB ys 0 8) ((pc ((x%8388608).toNat)%2:Nat):Int) 0 (a9 10))^^^(ys.getD 8 0)) (bL 10)) 1 (λh8 dh8=>?_) λh8 dh8=>?_
 ·refine r0 [] [(6,u6 (((gp (aB ys 0 8) (ys.getD 8 0) ((pc ((x%8388608).toNat)%2:Nat):Int) (a9 10) (bL 10)):Nat):Int)),(7,i6 1)] [6,7] ?_
  exact am (.tuple #[u6 (((gp (aB ys 0 8) (ys.getD 8 0) ((pc ((x%8388608).toNat)%2:Nat):Int) (a9 10) (bL 10)):Nat):Int),i6 1]) ab.zero (by((try simp only[kw]);(repeat (first | rw[h5] | rw[h8] | rw[ALct] | rw[ALcf])))<;>rfl) [] [(0,0),(1,1),(2,2)] []
 refine r0 [] [(35,.bool ((dw ((bo (aB ys 0 8) ((pc ((x%8388608).toNat)%2:Nat):Int) 0 (a9 10))^^^(ys.getD 8 0)) (bL 10))==2))] [] ?_
 refine cZ (dw ((bo (aB ys 0 8) ((pc ((x%8388608).toNat)%2:Nat):Int) 0 (a9 10))^^^(ys.getD 8 0)) (bL 10)) 2 (λh11 dh11=>?_) λh11 dh11=>?_
 ·refine r0 [] [(6,u6 (((gp (aB ys 0 8) (ys.getD 8 0) ((pc ((x%8388608).toNat)%2:Nat):Int) (a9 10) (bL 10)):Nat):Int)),(7,i6 2)] [6,7] ?_
  exact am (.tuple #[u6 (((gp (aB ys 0 8) (ys.getD 8 0) ((pc ((x%8388608).toNat)%2:Nat):Int) (a9 10) (bL 10)):Nat):Int),i6 2]) ab.zero (by((try simp only[kw]);(repeat (first | rw[h5] | rw[h8] | rw[h11] | rw[ALct] | rw[ALcf])))<;>rfl) [] [(0,0),(1,1),(2,2)] []
 refine r0 [] [(6,u6 (((gp (aB ys 0 8) (ys.getD 8 0) ((pc ((x%8388608).toNat)%2:Nat):Int) (a9 10) (bL 10)):Nat):Int)),(7,i6 3)] [6,7] ?_
 exact am (.tuple #[u6 (((gp (aB ys 0 8) (ys.getD 8 0) ((pc ((x%8388608).toNat)%2:Nat):Int) (a9 10) (bL 10)):Nat):Int),i6 3]) ab.zero (by((try simp only[kw]);(repeat (first | rw[h5] | rw[h8] | rw[h11] | rw[ALcf])))<;>rfl) [] [(0,0),(1,1),(2,2)] []
end Go.Proofs.YtbcodenfkijdnaaGreat.E
namespace Go.Proofs.YtbcodenfkijdnaaGreat.E
open Go Go.RowKit Go.Shelf
open List renaming range→dZ,replicate→eF,getElem?_eq_none→ir,length_range→jg,length_map→jh,range_succ→jw,getD_eq_getElem?_getD→ka,flatMap_singleton→kP,getElem?_range→nN,flatMap_append→n7,length_append→oG,getElem?_map→po,ext_getElem?→pD,map_append→p4
open Go.Proofs.Tryz renaming prog→jm
open Nat renaming lt_or_ge→na,mul_succ→p6
theorem OA(cb g:Nat)(u:Value)(d v:List UInt8)(hd:d.length=36)(hv:v.length=3)(D:List UInt8)(hD:Hs d v=D)(k:Nat)(hk:fI (aT d v)=k)(p:Int)(hp:c6 (aT d v)=p)(q:UInt8)(hq:fa (aT d v)=q):aa jm 229 #[pt cb 0,.agg (rB 36 d).toArray,.agg (rB 3 v).toArray] [ob cb #[pt g 0,u] 309,ob g (rB 255 aP++rN 256 aW).toArray 312,.p (aK eB u cE)] [] N0 (λ_=> .tuple #[.agg (rB 32 D).toArray,.agg #[i6 ((k:Nat):Int),i6 p,u1 (q.toNat:Int)]]):=by
 subst hD hk hp hq
 exact NM cb g u d v hd hv
def pz(kd:Nat)(pl:Int)(vl:UInt8):Int:=(bif (kd:Int)==0 then 0 else(bif (kd:Int)==1 then 1 else(bif (((kd:Int)==2)&&(pl==38))&&((vl.toNat:Int)==128) then 2 else 3)))
theorem OB(cc hb cb g:Nat)(u v:Value)(ys:List UInt8)(hy:ys.length=36)(x:Int)(h0: -9223372036854775808≤x)(h1:x≤9223372036854775807)(D:List UInt8)(hD:Hs ys (ci x false)=D)(hDl:D.length=32)(kd:Nat)(hkd:fI (aT ys (ci x false))=kd)(pl:Int)(hpl:c6 (aT ys (ci x false))=pl)(vl:UInt8)(hvl:fa (aT ys (ci x false))=vl):aa jm 197 #[pt cc 0,v,i6 x] [ob cc #[pt hb 0,pt cb 0] 242,ob cb #[pt g 0,u] 309,ob g (rB 255 aP++rN 256 aW).toArray 312,.p (aK eB u cE),.p (aK eB v ys)] [] N0 (λ_=> .tuple #[.agg (rB 32 D).toArray,i6 (pz kd pl vl)]):=by
 refine fO Tryz.func197 3 rfl λbq3 hq3=>?_
 refine fO Tryz.func197 4 rfl λbq4 hq4=>?_
 refine fG Tryz.func197 λw cs=>?_
 refine ra (λq1=>[(6,pt (B0 q1) 0),(7,i6 0)]) (λq1=>[ob (B0 q1) (rB 32 (eF 32 0)).toArray 267]) λq1=>rr (λ_=>[(3,.m (ld 0 (pt cb 0))),(5,.m (CP 4 (.c bq4) 36 (cP hq4.1) Dc Om)),(6,.m (CQ 4 (.c bq4) 36 (rB 36 ys) (cP hq4.1) (lw hy).symm Om (CR (λ_=>rfl) hy))),(8,.c [] [] (DY x Om Om false)),(9,.c [1,2,3] [] (aa.at (rd':=[ob cb #[pt g 0,u] 309,ob g (rB 255 aP++rN 256 aW).toArray 312,.c bq3]) (OA cb g u ys (ci x false) (by(simp only[LL,lM,hy,hDl];done)) bh D hD kd hkd pl hpl vl hvl) (ak (ak (em hq3 (λ_ h=>h)))))),(13,.m (al 6)),(14,.m (al 7)),(15,.s 6),(16,.s 7)]) (λq2=>[(8,pt ((q2 13).abd 0) 0),(9,pt ((q2 14).abd 0) 0)]) [] (λq2 L=>L++[ob ((q2 13).abd 0) (rB 32 D).toArray 267,ob ((q2 14).abd 0) #[iN kd,i6 pl,u1 (vl.toNat:Int)] 368]) λq2=>r0 [(1,.l 7)] [(23,.bool ((kd:Int)==0))] [] ?_
 refine cZ (kd:Int) 0 (λh4 dh4=>?_) λh4 dh4=>?_
 ·refine rr (λ_=>[(0,.l 6),(1,.s 5)]) (λ_=>[(7,i6 0)]) [7] (λ_ L=>L.set 5 (ob (B0 q1) (rB 32 D).toArray 267)) λq5=>?_
  exact am (.tuple #[.agg (rB 32 D).toArray,i6 0]) ab.zero (by((try simp only[pz]);(repeat (first | rw[h4] | rw[ALct])))<;>rfl) [] [(0,0),(1,1),(2,2),(3,3),(4,4)] [5]
 refine r0 [(1,.l 7)] [(28,.bool ((kd:Int)==1))] [] ?_
 refine cZ (kd:Int) 1 (λh7 dh7=>?_) λh7 dh7=>?_
 ·refine rr (λ_=>[(0,.l 6),(1,.s 5)]) (λ_=>[(7,i6 1)]) [7] (λ_ L=>L.set 5 (ob (B0 q1) (rB 32 D).toArray 267)) λq8=>?_
  exact am (.tuple #[.agg (rB 32 D).toArray,i6 1]) ab.zero (by((try simp only[pz]);(repeat (first | rw[h4] | rw[h7] | rw[ALct] | rw[ALcf])))<;>rfl) [] [(0,0),(1,1),(2,2),(3,3),(4,4)] [5]
 refine r0 [(1,.m (ld 7 (iN kd))),(5,.m (ld 7 (i6 pl))),(10,.m (ld 7 (u1 (vl.toNat:Int)))),] [(33,.bool ((((kd:Int)==2)&&(pl==38))&&((vl.toNat:Int)==128)))] [] ?_
 refine cB ((((kd:Int)==2)&&(pl==38))&&((vl.toNat:Int)==128)) (λh10=>?_) λh10=>?_
 ·refine rr (λ_=>[(0,.l 6),(1,.s 5)]) (λ_=>[(7,i6 2)]) [7] (λ_ L=>L.set 5 (ob (B0 q1) (rB 32 D).toArray 267)) λq11=>?_
  exact am (.tuple #[.agg (rB 32 D).toArray,i6 2]) ab.zero (by((try simp only[pz]);(repeat (first | rw[h4] | rw[h7] | rw[h10] | rw[ALct] | rw[ALcf])))<;>rfl) [] [(0,0),(1,1),(2,2),(3,3),(4,4)] [5]
 refine rr (λ_=>[(0,.l 6),(1,.s 5)]) (λ_=>[(7,i6 3)]) [7] (λ_ L=>L.set 5 (ob (B0 q1) (rB 32 D).toArray 267)) λq12=>?_
 exact am (.tuple #[.agg (rB 32 D).toArray,i6 3]) ab.zero (by((try simp only[pz]);(repeat (first | rw[h4] | rw[h7] | rw[h10] | rw[ALcf])))<;>rfl) [] [(0,0),(1,1),(2,2),(3,3),(4,4)] [5]
def nJ(ys:List UInt8)(x:Int):Int:=pz (fI (aT ys (ci x false))) (c6 (aT ys (ci x false))) (fa (aT ys (ci x false)))
theorem OD(cc hb cb g:Nat)(u v:Value)(ys:List UInt8)(hy:ys.length=36)(x:Int)(h0: -9223372036854775808≤x)(h1:x≤9223372036854775807):aa jm 197 #[pt cc 0,v,i6 x] [ob cc #[pt hb 0,pt cb 0] 242,ob cb #[pt g 0,u] 309,ob g (rB 255 aP++rN 256 aW).toArray 312,.p (aK eB u cE),.p (aK eB v ys)] [] N0 (λ_=> .tuple #[.agg (rB 32 (Hs ys (ci x false))).toArray,i6 (nJ ys x)]):=
 OB cc hb cb g u v ys hy x h0 h1 _ rfl (yR hy) _ rfl _ rfl _ rfl
def fh{α:Type}(d:α)(N:Nat)(f:Nat→α)(n:Nat):List α:=(dZ N).map λi=>if i<n then f i else d
theorem nK{α:Type}(d:α)(N:Nat)(f:Nat→α)(n:Nat):(fh d N f n).length=N:=by unfold fh;rw[jh,jg]
theorem Ee{α:Type}{d:α}{N:Nat}{f:Nat→α}{n i:Nat}(h:i<N):(fh d N f n).getD i d=if i<n then f i else d:=by
 unfold fh
 rw[ka,po,nN h]
 rfl
theorem OE{α:Type}{d:α}{N:Nat}{f:Nat→α}{n:Nat}(h:n<N):(fh d N f n).set n (f n)=fh d N f (n+1):=by
 apply pD
 intro i
 rw[List.getElem?_set]
 rcases na i N with hi | hi
 ·unfold fh
  simp only[jh,jg,po,nN hi,Option.map_some]
  by_cases e:n=i
  ·subst e;rw[ALifp rfl,ALifp h,ALifp Om]
  ·rw[ALifn e]
   by_cases e2:i<n
   ·rw[ALifp e2,ALifp Om]
   ·rw[ALifn e2,ALifn Om]
 ·rw[ir (l:=fh d N f (n+1)) (by rw[nK];exact hi),ir (l:=fh d N f n) (by rw[nK];exact hi),nK]
  rw[ALifn Om]
theorem OF{α:Type}(d:α)(N:Nat)(f:Nat→α):fh d N f 0=eF N d:=by
 apply pD
 intro i
 rcases na i N with hi | hi
 ·unfold fh
  simp [hi]
 ·rw[ir (by rw[nK];exact hi),ir (by simpa using hi)]
def w9(xs:List UInt8)(k:Nat):List UInt8:=(xs.drop (9*k)).take 9
def je(xs:List UInt8)(k:Nat):List UInt8:=(xs.drop (36*k)).take 36
def dW(xs:List UInt8)(x:Int)(k:Nat):Nat:=gp (aB (w9 xs k) 0 8) ((w9 xs k).getD 8 0) ((pc ((x%8388608).toNat)%2:Nat):Int) (a9 10) (bL 10)
def dK(xs:List UInt8)(x:Int)(k:Nat):Int:=kw (w9 xs k) x
def cW(xs:List UInt8)(x:Int)(k:Nat):List UInt8:=Hs (je xs k) (ci x false)
def cK(xs:List UInt8)(x:Int)(k:Nat):Int:=nJ (je xs k) x
theorem OG{d:Nat}{k:UInt8}{a:Int}{cl:List UInt8}{ts:List Int}(h:d<18446744073709551616):gp d k a cl ts<18446744073709551616:=by
 unfold gp
 cases e:((dw ((bo d a 0 cl)^^^k) ts)==1)&&(decide ((dj ((bo d a 0 cl)^^^k) ts)<64)) with
 | false=>exact h
 | true=>
  rw[Bool.and_eq_true] at e
  have h2:=of_decide_eq_true e.2
  rw[ALct,Nat.one_mul]
  exact Nat.xor_lt_two_pow (n:=64) h (Nat.pow_lt_pow_right Dc Om)
theorem OH(xs:List UInt8)(x:Int)(k:Nat):dW xs x k<18446744073709551616:=OG (qy _ _ Dc)
theorem OI{N:Nat}{f:Nat→Nat}{n B:Nat}(hB:0<B)(h: ∀i,f i<B)(i:Nat):(fh 0 N f n).getD i 0<B:=by
 rcases na i N with hi | hi
 ·rw[Ee hi];split
  ·exact h i
  ·exact hB
 ·rw[ka,ir (by rw[nK];exact hi)];exact hB
theorem ZO{xs:List UInt8}{k:Nat}(hx:xs.length=72)(hk:k<2):(je xs k).length=36:=by unfold je;rw[List.length_take,List.length_drop];omega
theorem vu{f:Nat→List UInt8}{m:Nat}(h: ∀i,(f i).length=m)(k:Nat):((dZ k).flatMap f).length=m*k:=by
 induction k with
 | zero=>rfl
 | succ k ih=>rw[jw,n7,oG,ih,kP,h,p6]
theorem Ef{f:Nat→List UInt8}{m N:Nat}(h: ∀i,(f i).length=m){k:Nat}:
  ((dZ k).flatMap f++eF (N-m*k) (0:UInt8)).take (m*k)++f k++((dZ k).flatMap f++eF (N-m*k) (0:UInt8)).drop (m*k+m)=(dZ (k+1)).flatMap f++eF (N-m*(k+1)) 0:=by
 have h1:=vu h k
 rw[List.take_left' h1,←List.drop_drop,List.drop_left' h1,List.drop_replicate,jw,n7,kP,show N-m*k-m=N-m*(k+1) by rw[p6];omega]
def fM(f:Nat→List UInt8)(k:Nat):List UInt8:=(dZ k).flatMap f++eF (64-32*k) 0
theorem vw{f:Nat→List UInt8}(h: ∀i,(f i).length=32){k:Nat}(hk:k≤2):(fM f k).length=64:=by
 unfold fM
 rw[oG,vu h,List.length_replicate]
 omega
theorem OJ{f:Nat→List UInt8}(h: ∀i,(f i).length=32){k:Nat}:(fM f k).take (0+k*32)++f k++(fM f k).drop (0+k*32+32)=fM f (k+1):=by
 have:=Ef (N:=64) h (k:=k)
 rw[Nat.zero_add,Nat.mul_comm k 32]
 exact this
theorem OK(f:Nat→List UInt8):fM f 0=eF 64 0:=rfl
theorem OL{xs:List UInt8}{x:Int}{k:Nat}(h:(je xs k).length=36):(cW xs x k).length=32:=yR h
def jf(xs:List UInt8)(x:Int)(k:Nat):List UInt8:=if k<2 then cW xs x k else eF 32 0
theorem Eg{xs:List UInt8}{x:Int}{k:Nat}(h:k<2):jf xs x k=cW xs x k:=ALifp h
theorem sJ{xs:List UInt8}(hx:xs.length=72)(x:Int)(k:Nat):(jf xs x k).length=32:=by
 unfold jf
 split
 ·rename_i h;exact OL (ZO hx h)
 ·rfl
attribute [local irreducible] dw dj bo gp aB Hs aT a9 bL cE aP aW ci fI c6 fa kw nJ fh fM b8 jK jF eo
theorem OM(cc hb cb:Nat)(xs:List UInt8)(hx:xs.length=72)(x:Int):aa jm 151 #[pt cc 0,i6 1,.agg (rB 72 xs).toArray,i6 x] [ob cc #[pt hb 0,pt cb 0] 242,ob hb (rB 74 (a9 10)++rI 256 (bL 10)).toArray 298] [] (λE=>[dy (E.val 0) ((dZ 8).map (dK xs x))]) (λE=> .tuple #[.agg (rB 64 (b8 64 (iL (fh 0 8 (dW xs x) 8)) (8*8))).toArray,(E.val 0)]):=by
 refine fG Tryz.func151 λw cs=>?_
 refine ra (λq1=>[(6,pt (B0 q1) 0),(8,pt (B1 q1) 0),(9,.slice none 0 0)]) (λq1=>[ob (B0 q1) (rB 72 xs).toArray 217,ob (B1 q1) (rB 64 z6).toArray 43]) λq1=>r0 [] [(10,.slice none 0 0)] [] (rT [] 20 (ra (λq4=>[(11,pt (B0 q4) 0)]) (λq4=>[ob (B0 q4) (rW 8 (eF 8 0)).toArray 320]) λq4=>r0 [] [(21,i6 0)] [] ?_))
 refine cz kI ?_
 refine mN (λk _=>k≤8) (λk vS10=>[(21,iN k),(10,vS10)]) (λk vS10 L=>(L.set 4 (ob (B0 q4) (rW 8 (fh 0 8 (dW xs x) k)).toArray 320)).set 5 (dy vS10 ((dZ k).map (dK xs x)))) (λk _=>8-k) 0 (.slice none 0 0) Om Kr (by rw[OF];kernel_rfl) (λk vS10 hk6=>?_)
 have hkl:((dZ k).map (dK xs x)).length=k:=by rw[jh,jg]
 refine r0 [] [(22,.bool (decide ((k:Int)<8)))] [] ?_
 refine cj (k:Int) 8 (λh8 dh8=>?_) λh8 dh8=>?_
 ·refine r0 [] [(12,iN k)] [] ?_
  refine rr (λq10=>[(1,.m (ls 2 (rB 72 xs))),(4,.c [] [6] (D1 xs (by(simp only[LL,nK,lL,hx];done)) k Om)),(6,.c [0,1,6] [] (aa.at (rd':=[ob cc #[pt hb 0,pt cb 0] 242,ob hb (rB 74 (a9 10)++rI 256 (bL 10)).toArray 298,bE ((q10 4).val 0) ((xs.drop (9*k)).take 9)]) (Oz cc hb cb ((q10 4).val 0) ((xs.drop (9*k)).take 9) (by(simp only[LL,nK,lL,hx];omega)) x) (ak (ak (bO (λ_ h=>ap.sq h) (λ_ h=>h)))))),]) (λ_=>[(13,u6 (((gp (aB ((xs.drop (9*k)).take 9) 0 8) (((xs.drop (9*k)).take 9).getD 8 0) ((pc ((x%8388608).toNat)%2:Nat):Int) (a9 10) (bL 10)):Nat):Int)),(14,i6 (kw ((xs.drop (9*k)).take 9) x))]) [] (λq10 L=>L++[bE ((q10 4).val 0) ((xs.drop (9*k)).take 9)]) λq10=>rs [(2,iA 320 .i64 (B0 q4) 0 8 1 k),(3,wD 4 (B0 q4) k 320 (u6 (((gp (aB ((xs.drop (9*k)).take 9) 0 8) (((xs.drop (9*k)).take 9).getD 8 0) ((pc ((x%8388608).toNat)%2:Nat):Int) (a9 10) (bL 10)):Nat):Int)) (rW 8 (fh 0 8 (dW xs x) k)) (rW 8 ((fh 0 8 (dW xs x) k).set k (gp (aB ((xs.drop (9*k)).take 9) 0 8) (((xs.drop (9*k)).take 9).getD 8 0) ((pc ((x%8388608).toNat)%2:Nat):Int) (a9 10) (bL 10)))) (kg Om) (Ju (nK ..)))] 4 (ob (B0 q4) (rW 8 ((fh 0 8 (dW xs x) k).set k (gp (aB ((xs.drop (9*k)).take 9) 0 8) (((xs.drop (9*k)).take 9).getD 8 0) ((pc ((x%8388608).toNat)%2:Nat):Int) (a9 10) (bL 10)))).toArray 320) (rr (λ_=>[(2,.m (bs 7 1)),(3,fD kI (vS10) ((dZ k).map (dK xs x)) 5 7 ([(kw ((xs.drop (9*k)).take 9) x)]))]) (λq12=>[(10,(q12 3).val 0)]) [10] (λq12 L=>L.set 5 (dy ((q12 3).val 0) (((dZ k).map (dK xs x))++([(kw ((xs.drop (9*k)).take 9) x)])))++[ob (B2 q12) #[i6 (kw ((xs.drop (9*k)).take 9) x)] 3]) λq12=>r0 [(0,ad k 1)] [(21,i6 ((k+1:Nat):Int))] [21] ?_)
  exact lE (k+1) ((q12 3).val 0) Om Om Kr [0,1,2,3,4,5] (by rw[←OE Om,jw,p4];kernel_rfl)
 obtain rfl:k=8:=by omega
 refine lF ?_
 exact rr (λ_=>[(0,.l 4),(1,.c [] [] (Oj (fh 0 8 (dW xs x) 8) (by(simp only[LL,nK,lL,hx];done)) (OI Dc (OH xs x)))),(3,.s 3)]) (λ_=>[(9,vS10)]) [9] (λ_ L=>L.set 3 (ob (B1 q1) (rB 64 (b8 64 (iL (fh 0 8 (dW xs x) 8)) (8*8))).toArray 43)) λq14=>lf (.l [] [] [vS10]) [5] [(0,0),(1,1)] [3]
theorem ON(cc hb cb g:Nat)(u:Value)(xs:List UInt8)(hx:xs.length=72)(x:Int)(h0: -9223372036854775808≤x)(h1:x≤9223372036854775807):aa jm 151 #[pt cc 0,i6 2,.agg (rB 72 xs).toArray,i6 x] [ob cc #[pt hb 0,pt cb 0] 242,ob cb #[pt g 0,u] 309,ob g (rB 255 aP++rN 256 aW).toArray 312,.p (aK eB u cE)] [] (λE=>[dy (E.val 0) ((dZ 2).map (cK xs x))]) (λE=> .tuple #[.agg (rB 64 (fM (jf xs x) 2)).toArray,(E.val 0)]):=by
 refine fO Tryz.func151 3 rfl λbq3 hq3=>?_
 refine fG Tryz.func151 λw cs=>?_
 refine ra (λq1=>[(6,pt (B0 q1) 0),(8,pt (B1 q1) 0),(9,.slice none 0 0)]) (λq1=>[ob (B0 q1) (rB 72 xs).toArray 217,ob (B1 q1) (rB 64 z6).toArray 43]) λq1=>r0 [] [(10,.slice none 0 0)] [] (rF [] 20 (ra (λq4=>[(15,pt (B0 q4) 0)]) (λq4=>[ob (B0 q4) (rB 64 z6).toArray 324]) λq4=>r0 [] [(45,i6 0)] [] ?_))
 refine cz kI ?_
 refine mN (λk _=>k≤2) (λk vS10=>[(45,iN k),(10,vS10)]) (λk vS10 L=>(L.set 6 (ob (B0 q4) (rB 64 (fM (jf xs x) k)).toArray 324)).set 7 (dy vS10 ((dZ k).map (cK xs x)))) (λk _=>2-k) 0 (.slice none 0 0) Om Kr (by rw[OK];kernel_rfl) (λk vS10 hk6=>?_)
 have hkl:((dZ k).map (cK xs x)).length=k:=by rw[jh,jg]
 have HHL:=vw (sJ hx x) hk6
 refine r0 [] [(46,.bool (decide ((k:Int)<2)))] [] ?_
 refine cj (k:Int) 2 (λh8 dh8=>?_) λh8 dh8=>?_
 ·refine r0 [] [(16,iN k)] [] ?_
  have HDL:(Hs ((xs.drop (36*k)).take 36) (ci x false)).length=32:=yR (ZO hx Om)
  refine rr (λq10=>[(1,.m (ls 4 (rB 72 xs))),(4,.c [] [8] (D2 xs (by(simp only[LL,HDL,HHL,hx];done)) k Om)),(6,.c [0,1,2,3,8] [] (aa.at (rd':=[ob cc #[pt hb 0,pt cb 0] 242,ob cb #[pt g 0,u] 309,ob g (rB 255 aP++rN 256 aW).toArray 312,.c bq3,bE ((q10 4).val 0) ((xs.drop (36*k)).take 36)]) (OD cc hb cb g u ((q10 4).val 0) ((xs.drop (36*k)).take 36) (by(simp only[LL,HDL,HHL,hx];omega)) x Om Om) (ak (ak (ak (em hq3 (bO (λ_ h=>ap.sq h) (λ_ h=>h)))))))),(10,.m (al 9)),(11,.s 9)]) (λq10=>[(17,pt ((q10 10).abd 0) 0),(18,i6 (nJ ((xs.drop (36*k)).take 36) x))]) [] (λq10 L=>L++[bE ((q10 4).val 0) ((xs.drop (36*k)).take 36),ob ((q10 10).abd 0) (rB 32 (Hs ((xs.drop (36*k)).take 36) (ci x false))).toArray 267]) λq10=>rs [(1,.l 9),(2,iA 324 .i64 (B0 q4) 0 2 32 k),(3,.m (sg 6 (B0 q4) (0+k*32) 324 (rB 32 (Hs ((xs.drop (36*k)).take 36) (ci x false))) (rB 64 (fM (jf xs x) k)).toArray (rB 64 ((fM (jf xs x) k).take (0+k*32)++(Hs ((xs.drop (36*k)).take 36) (ci x false))++(fM (jf xs x) k).drop (0+k*32+32))).toArray (JK (λ_=>rfl) (show(fM (jf xs x) k).length=64 by(simp only[LL,HDL,HHL,hx];done)) (show(Hs ((xs.drop (36*k)).take 36) (ci x false)).length=32 by(simp only[LL,HDL,HHL,hx];done)) Om) (JL (λ_=>rfl) Om) (JM (λ_=>rfl) (show(Hs ((xs.drop (36*k)).take 36) (ci x false)).length=32 by(simp only[LL,HDL,HHL,hx];done)))))] 6 (ob (B0 q4) (rB 64 ((fM (jf xs x) k).take (0+k*32)++(Hs ((xs.drop (36*k)).take 36) (ci x false))++(fM (jf xs x) k).drop (0+k*32+32))).toArray 324) (rr (λ_=>[(2,.m (bs 10 1)),(3,fD kI (vS10) ((dZ k).map (cK xs x)) 7 10 ([(nJ ((xs.drop (36*k)).take 36) x)]))]) (λq12=>[(10,(q12 3).val 0)]) [10] (λq12 L=>L.set 7 (dy ((q12 3).val 0) (((dZ k).map (cK xs x))++([(nJ ((xs.drop (36*k)).take 36) x)])))++[ob (B2 q12) #[i6 (nJ ((xs.drop (36*k)).take 36) x)] 3]) λq12=>r0 [(0,ad k 1)] [(45,i6 ((k+1:Nat):Int))] [45] ?_)
  exact lE (k+1) ((q12 3).val 0) Om Om Kr [0,1,2,3,4,5,6,7] (by rw[←OJ (sJ hx x),Eg Om,jw,p4];kernel_rfl)
 obtain rfl:k=2:=by omega
 refine lF ?_
 have HDL:=trivial
 exact rr (λ_=>[(0,.l 6),(1,.c [] [] (Ow (fM (jf xs x) 2) (by(simp only[LL,HDL,HHL,hx];done)))),(3,.s 5)]) (λ_=>[(9,vS10)]) [9] (λ_ L=>L.set 5 (ob (B1 q1) (rB 64 (fM (jf xs x) 2)).toArray 43)) λq14=>lf (.l [] [] [vS10]) [7] [(0,0),(1,1),(2,2),(3,3)] [5]
def pA(xs:List UInt8)(x:Int):List UInt8:=(bif decide (2≤(jK ((dZ 8).map (dK xs x)))) then eF 64 0 else b8 64 (iL (fh 0 8 (dW xs x) 8)) (8*8))
theorem OO(cc hb cb:Nat)(xs:List UInt8)(hx:xs.length=72)(x:Int):aa jm 124 #[pt cc 0,i6 1,.agg (rB 72 xs).toArray,i6 x] [ob cc #[pt hb 0,pt cb 0] 242,ob hb (rB 74 (a9 10)++rI 256 (bL 10)).toArray 298] [] N0 (λ_=> .tuple #[.agg (rB 64 (pA xs x)).toArray,.agg #[i6 (jK ((dZ 8).map (dK xs x))),i6 (gN ((dZ 8).map (dK xs x)))]]):=by
 refine fG Tryz.func124 λw cs=>?_
 refine ra (λq1=>[(6,pt (B0 q1) 0),(8,pt (B1 q1) 0),(9,pt (B2 q1) 0)]) (λq1=>[ob (B0 q1) (rB 72 xs).toArray 217,ob (B1 q1) (rB 64 z6).toArray 43,ob (B2 q1) #[i6 0,i6 0] 79]) λq1=>r0 [(1,.c [] [] (py 1))] [(15,.bool (!((1==1)||(1==2))))] [] ?_
 have h3:(!((1==1)||(1==2)))=false:=by decide
 refine cF (!((1==1)||(1==2))) h3 (rr (λ_=>[(2,.l 2),(4,.c [0,1] [5] (OM cc hb cb xs (by(simp only[LL,lL,hx];done)) x)),(9,.s 6)]) (λq4=>[(10,pt ((q4 8).abd 0) 0),(11,((q4 4).val 0))]) [] (λq4 L=>L++[dy ((q4 4).val 0) ((dZ 8).map (dK xs x)),ob ((q4 8).abd 0) (rB 64 (b8 64 (iL (fh 0 8 (dW xs x) 8)) (8*8))).toArray 43]) λq4=>rr (λ_=>[(1,.c [5] [] (aa.at (rd':=[dy ((q4 4).val 0) ((dZ 8).map (dK xs x))]) (Eb ((q4 4).val 0) ((dZ 8).map (dK xs x)) (by rw[jh,jg];omega)) (bO (λ_ h=>ap.sq h) (λ_ h=>h)))),(3,.s 7)]) (λq5=>[(12,pt (B2 q5) 0)]) [] (λq5 L=>L++[ob (B2 q5) #[i6 (jK ((dZ 8).map (dK xs x))),i6 (gN ((dZ 8).map (dK xs x)))] 79]) λq5=>r0 [(1,.l 7)] [(30,.bool (decide (2≤(jK ((dZ 8).map (dK xs x))))))] [] ?_)
 refine pd 2 (jK ((dZ 8).map (dK xs x))) (λh7 dh7=>?_) λh7 dh7=>?_
 ·refine rr (λ_=>[(1,.l 7),(2,.s 3),(3,.s 4)]) N0 [] (λ_ L=>L.set 4 (ob (B2 q1) #[i6 (jK ((dZ 8).map (dK xs x))),i6 (gN ((dZ 8).map (dK xs x)))] 79)) λq8=>?_
  exact am (.tuple #[.agg (rB 64 z6).toArray,.agg #[i6 (jK ((dZ 8).map (dK xs x))),i6 (gN ((dZ 8).map (dK xs x)))]]) ab.zero (by((try simp only[pA]);(repeat (first | rw[h7] | rw[ALct])))<;>rfl) [] [(0,0),(1,1)] [3,4]
 refine rr (λ_=>[(0,.l 6),(1,.l 7),(2,.s 3),(3,.s 4)]) N0 [] (λ_ L=>(L.set 3 (ob (B1 q1) (rB 64 (b8 64 (iL (fh 0 8 (dW xs x) 8)) (8*8))).toArray 43)).set 4 (ob (B2 q1) #[i6 (jK ((dZ 8).map (dK xs x))),i6 (gN ((dZ 8).map (dK xs x)))] 79)) λq9=>?_
 exact am (.tuple #[.agg (rB 64 (b8 64 (iL (fh 0 8 (dW xs x) 8)) (8*8))).toArray,.agg #[i6 (jK ((dZ 8).map (dK xs x))),i6 (gN ((dZ 8).map (dK xs x)))]]) ab.zero (by((try simp only[pA]);(repeat (first | rw[h7] | rw[ALcf])))<;>rfl) [] [(0,0),(1,1)] [3,4]
def pB(xs:List UInt8)(x:Int):List UInt8:=(bif decide (2≤(jK ((dZ 2).map (cK xs x)))) then eF 64 0 else fM (jf xs x) 2)
theorem OP(cc hb cb g:Nat)(u:Value)(xs:List UInt8)(hx:xs.length=72)(x:Int)(h0: -9223372036854775808≤x)(h1:x≤9223372036854775807):aa jm 124 #[pt cc 0,i6 2,.agg (rB 72 xs).toArray,i6 x] [ob cc #[pt hb 0,pt cb 0] 242,ob cb #[pt g 0,u] 309,ob g (rB 255 aP++rN 256 aW).toArray 312,.p (aK eB u cE)] [] N0 (λ_=> .tuple #[.agg (rB 64 (pB xs x)).toArray,.agg #[i6 (jK ((dZ 2).map (cK xs x))),i6 (gN ((dZ 2).map (cK xs x)))]]):=by
 have HHT:=vw (sJ hx x) (Nat.le_refl 2)
 refine fO Tryz.func124 3 rfl λbq3 hq3=>?_
 refine fG Tryz.func124 λw cs=>?_
 refine ra (λq1=>[(6,pt (B0 q1) 0),(8,pt (B1 q1) 0),(9,pt (B2 q1) 0)]) (λq1=>[ob (B0 q1) (rB 72 xs).toArray 217,ob (B1 q1) (rB 64 z6).toArray 43,ob (B2 q1) #[i6 0,i6 0] 79]) λq1=>r0 [(1,.c [] [] (py 2))] [(15,.bool (!((2==1)||(2==2))))] [] ?_
 have h3:(!((2==1)||(2==2)))=false:=by decide
 refine cF (!((2==1)||(2==2))) h3 (rr (λ_=>[(2,.l 4),(4,.c [0,1,2,3] [7] (aa.at (rd':=[ob cc #[pt hb 0,pt cb 0] 242,ob cb #[pt g 0,u] 309,ob g (rB 255 aP++rN 256 aW).toArray 312,.c bq3]) (ON cc hb cb g u xs (by(simp only[LL,HHT,hx];done)) x Om Om) (ak (ak (ak (em hq3 (λ_ h=>h))))))),(9,.s 8)]) (λq4=>[(10,pt ((q4 8).abd 0) 0),(11,((q4 4).val 0))]) [] (λq4 L=>L++[dy ((q4 4).val 0) ((dZ 2).map (cK xs x)),ob ((q4 8).abd 0) (rB 64 (fM (jf xs x) 2)).toArray 43]) λq4=>rr (λ_=>[(1,.c [7] [] (aa.at (rd':=[dy ((q4 4).val 0) ((dZ 2).map (cK xs x))]) (Eb ((q4 4).val 0) ((dZ 2).map (cK xs x)) (by rw[jh,jg];omega)) (bO (λ_ h=>ap.sq h) (λ_ h=>h)))),(3,.s 9)]) (λq5=>[(12,pt (B2 q5) 0)]) [] (λq5 L=>L++[ob (B2 q5) #[i6 (jK ((dZ 2).map (cK xs x))),i6 (gN ((dZ 2).map (cK xs x)))] 79]) λq5=>r0 [(1,.l 9)] [(30,.bool (decide (2≤(jK ((dZ 2).map (cK xs x))))))] [] ?_)
 refine pd 2 (jK ((dZ 2).map (cK xs x))) (λh7 dh7=>?_) λh7 dh7=>?_
 ·refine rr (λ_=>[(1,.l 9),(2,.s 5),(3,.s 6)]) N0 [] (λ_ L=>L.set 6 (ob (B2 q1) #[i6 (jK ((dZ 2).map (cK xs x))),i6 (gN ((dZ 2).map (cK xs x)))] 79)) λq8=>?_
  exact am (.tuple #[.agg (rB 64 z6).toArray,.agg #[i6 (jK ((dZ 2).map (cK xs x))),i6 (gN ((dZ 2).map (cK xs x)))]]) ab.zero (by((try simp only[pB]);(repeat (first | rw[h7] | rw[ALct])))<;>rfl) [] [(0,0),(1,1),(2,2),(3,3)] [5,6]
 refine rr (λ_=>[(0,.l 8),(1,.l 9),(2,.s 5),(3,.s 6)]) N0 [] (λ_ L=>(L.set 5 (ob (B1 q1) (rB 64 (fM (jf xs x) 2)).toArray 43)).set 6 (ob (B2 q1) #[i6 (jK ((dZ 2).map (cK xs x))),i6 (gN ((dZ 2).map (cK xs x)))] 79)) λq9=>?_
 exact am (.tuple #[.agg (rB 64 (fM (jf xs x) 2)).toArray,.agg #[i6 (jK ((dZ 2).map (cK xs x))),i6 (gN ((dZ 2).map (cK xs x)))]]) ab.zero (by((try simp only[pB]);(repeat (first | rw[h7] | rw[ALcf])))<;>rfl) [] [(0,0),(1,1),(2,2),(3,3)] [5,6]
end Go.Proofs.YtbcodenfkijdnaaGreat.E
namespace Go.Proofs.YtbcodenfkijdnaaGreat.E
open Go Go.RowKit Go.Shelf
open List renaming replicate→dZ,length_append→eF,range→ir,length_take→jg,length_drop→jh
def bU(n:Nat)(f:Nat→List UInt8)(k:Nat):List UInt8:=(ir k).flatMap f++dZ (72-n*k) 0
theorem oE{n:Nat}{f:Nat→List UInt8}(h: ∀i,(f i).length=n){k:Nat}(hk:n*k≤72):(bU n f k).length=72:=by
 unfold bU
 rw[eF,vu h,List.length_replicate]
 omega
theorem Eh{n:Nat}{f:Nat→List UInt8}(h: ∀i,(f i).length=n){k m:Nat}(hm:m=n):(bU n f k).take (n*k)++f k++(bU n f k).drop (n*k+m)=bU n f (k+1):=by subst hm;exact Ef h
theorem Ei(n:Nat)(f:Nat→List UInt8):bU n f 0=dZ 72 0:=rfl
def fb(l:List UInt8)(x:Int)(p:Bool)(k:Nat):List UInt8:=iK (aB l (8*k) 8) 8++[bo (aB l (8*k) 8) ((pc ((x%8388608).toNat)%2:Nat):Int) (eo p) (a9 10)]
theorem oF(l:List UInt8)(x:Int)(p:Bool)(k:Nat):(fb l x p k).length=9:=by unfold fb;rw[eF,j9];rfl
def eJ(l:List UInt8)(x:Int)(p:Bool)(k:Nat):List UInt8:=if k<2 then iq ((l.drop (32*k)).take 32) (ci x p)++(l.drop (32*k)).take 32 else dZ 36 0
theorem pC{l:List UInt8}(hl:l.length=64)(x:Int)(p:Bool)(k:Nat):(eJ l x p k).length=36:=by
 unfold eJ
 split
 ·rw[eF,iJ,jg,jh];omega
 ·rfl
theorem Ej{l:List UInt8}{x:Int}{p:Bool}{k:Nat}(h:k<2):eJ l x p k=iq ((l.drop (32*k)).take 32) (ci x p)++(l.drop (32*k)).take 32:=ALifp h
attribute [local irreducible] dw dj bo gp aB iK Hs aT iq a9 bL cE aP aW ci fI c6 fa kw nJ fh fM b8 jK jF eo bU
theorem OQ(cc hb cb:Nat)(l:List UInt8)(hl:l.length=64)(x:Int)(p:Bool):aa Tryz.prog 125 #[pt cc 0,i6 1,.agg (rB 64 l).toArray,i6 x,.bool p] [ob cc #[pt hb 0,pt cb 0] 242,ob hb (rB 74 (a9 10)++rI 256 (bL 10)).toArray 298] [] N0 (λ_=> .agg (rB 72 (bU 9 (fb l x p) 8)).toArray):=by
 have HEL:=True.intro
 refine fG Tryz.func125 λw cs=>?_
 refine ra (λq1=>[(5,pt (B0 q1) 0),(6,pt (B1 q1) 0),(7,pt (B2 q1) 0),(9,pt (B3 q1) 0),(10,pt (B4 q1) 0)]) (λq1=>[ob (B0 q1) #[pt cc 0] 116,ob (B1 q1) #[i6 1] 3,ob (B2 q1) (rB 64 l).toArray 43,ob (B3 q1) #[.bool p] 4,ob (B4 q1) (rB 72 (dZ 72 0)).toArray 217]) λq1=>ra (λq2=>[(11,pt (B0 q2) 0)]) (λq2=>[ob (B0 q2) (rB 72 (dZ 72 0)).toArray 217]) λq2=>r0 [(0,.l 3)] [(19,i6 1)] [] (rT [] 20 (rr (λ_=>[(1,.c [] [] (vn x)),(3,.s 8)]) (λq5=>[(12,pt (B2 q5) 0)]) [] (λq5 L=>L++[ob (B2 q5) #[i6 ((pc ((x%8388608).toNat)%2:Nat):Int)] 3]) λq5=>rr (λ_=>[(0,.l 4),(1,.c [] [9] (Od l (by(simp only[LL,j9,jv,j8,HEL,hl];done))))]) (λq6=>[(25,.func (.func 200) #[] #[pt ((B1 q6)) 0])]) [] (λq6 L=>L++[ob (B1 q6) (rB 64 l).toArray 43]) λq6=>?_))
 refine ph (encs:=λ(x:Nat×Nat)=>#[i6 (x.1:Int),u6 (x.2:Int)]) (xs:=(ir 8).map λk=>(k,aB l (8*k) 8)) (KO:=[[((B1 q6),.cells (rB 64 l).toArray 43 (0,0))]]) (Ob (B1 q6) l (by(simp only[LL,j9,jv,j8,HEL,hl];done))) (enters_of Tryz.func200 Kr rfl) (λk=>k≤8) (λk L=>L.set 7 (ob (B0 q2) (rB 72 (bU 9 (fb l x p) k)).toArray 217)) [9] Om (by rw[Ei];kernel_rfl) (λlR k xE R1 W1 hxE hk8=>?_) (λD7 hk8=>?_)
 ·obtain⟨hkb9,rfl⟩:=oh hxE
  have HNL:=qy l (8*k) (k:=8) Dc
  have hlw:=j9 (aB l (8*k) 8) 8
  have HEL:=oE (n:=9) (oF l x p) (k:=k) Om
  refine r0 [] [(13,iN k)] [] (r0 [] [(14,u6 ((aB l (8*k) 8:Nat):Int))] [] ?_)
  refine ag [9] (λR2 W2=>?_)
  refine rr (λq12=>[(0,.m (ls 7 (rB 72 (bU 9 (fb l x p) k)))),(1,.m (ld 3 (i6 1))),(2,.v (iN k)),(3,.v (u6 ((aB l (8*k) 8:Nat):Int))),(4,.c [] [10] (N1 (aB l (8*k) 8) Om)),(5,.m (ld 2 (pt cc 0))),(6,.v (pt cc 0)),(7,.v (pt cc 0)),(8,.m (ld 0 (pt hb 0))),(9,.v (u6 ((aB l (8*k) 8:Nat):Int))),(10,.m (ld 8 (i6 ((pc ((x%8388608).toNat)%2:Nat):Int)))),(11,.m (ld 5 (.bool p))),(12,.c [] [] (DX p)),(13,.c [1] [] (DW hb (aB l (8*k) 8) ((pc ((x%8388608).toNat)%2:Nat):Int) (eo p) (a9 10) (bL 10) HNL (by(simp only[LL,j9,jv,j8,HEL,hl];done)) (by(simp only[LL,j9,jv,j8,HEL,hl];done)))),(14,.m (bs 11 1)),(15,fD kB (((q12 4).val 0)) (iK (aB l (8*k) 8) 8) 10 11 ([(bo (aB l (8*k) 8) ((pc ((x%8388608).toNat)%2:Nat):Int) (eo p) (a9 10))])),(16,.c [10] [] (aa.at (rd':=[bE ((q12 15).val 0) ((iK (aB l (8*k) 8) 8)++([(bo (aB l (8*k) 8) ((pc ((x%8388608).toNat)%2:Nat):Int) (eo p) (a9 10))]))]) (Og (bU 9 (fb l x p) k) ((iK (aB l (8*k) 8) 8)++([(bo (aB l (8*k) 8) ((pc ((x%8388608).toNat)%2:Nat):Int) (eo p) (a9 10))])) ((q12 15).val 0) (by(simp only[LL,j9,jv,j8,HEL,hl];done)) k Om (by(simp only[LL,j9,jv,j8,HEL,hl];done))) (bO (λ_ h=>ap.sq h) (λ_ h=>h)))),(17,.s 7)]) N0 [] (λq12 L=>L.set 7 (ob (B0 q2) (rB 72 ((bU 9 (fb l x p) k).take (9*k)++((iK (aB l (8*k) 8) 8)++([(bo (aB l (8*k) 8) ((pc ((x%8388608).toNat)%2:Nat):Int) (eo p) (a9 10))]))++(bU 9 (fb l x p) k).drop ((9*k)+((iK (aB l (8*k) 8) 8)++([(bo (aB l (8*k) 8) ((pc ((x%8388608).toNat)%2:Nat):Int) (eo p) (a9 10))])).length))).toArray 217)++[bE ((q12 15).val 0) ((iK (aB l (8*k) 8) 8)++([(bo (aB l (8*k) 8) ((pc ((x%8388608).toNat)%2:Nat):Int) (eo p) (a9 10))])),ob ((q12 14).abd 0) #[u1 ((bo (aB l (8*k) 8) ((pc ((x%8388608).toNat)%2:Nat):Int) (eo p) (a9 10)).toNat:Int)] 5]) λq12=>?_
  exact ne _ ⟨Om,rfl⟩ [0,1,2,3,4,5,6,7,8,9] (by rw[←Eh (oF l x p) (oF l x p k)];unfold fb;kernel_rfl)
 have HEL:=oE (n:=9) (oF l x p) (k:=8) Om
 exact rs [(0,.l 7),(1,.s 6)] 6 (ob (B4 q1) (rB 72 (bU 9 (fb l x p) 8)).toArray 217) (lf ab.zero [] [(0,0),(1,1)] [6])
theorem OR(cc hb cb g:Nat)(u:Value)(l:List UInt8)(hl:l.length=64)(x:Int)(h0: -9223372036854775808≤x)(h1:x≤9223372036854775807)(p:Bool):aa Tryz.prog 125 #[pt cc 0,i6 2,.agg (rB 64 l).toArray,i6 x,.bool p] [ob cc #[pt hb 0,pt cb 0] 242,ob cb #[pt g 0,u] 309,ob g (rB 255 aP++rN 256 aW).toArray 312,.p (aK eB u cE)] [] N0 (λ_=> .agg (rB 72 (bU 36 (eJ l x p) 2)).toArray):=by
 have HEL:=True.intro
 have HDR:=True.intro
 refine fO Tryz.func125 3 rfl λbq3 hq3=>?_
 refine fG Tryz.func125 λw cs=>?_
 refine ra (λq1=>[(5,pt (B0 q1) 0),(6,pt (B1 q1) 0),(7,pt (B2 q1) 0),(9,pt (B3 q1) 0),(10,pt (B4 q1) 0)]) (λq1=>[ob (B0 q1) #[pt cc 0] 116,ob (B1 q1) #[i6 2] 3,ob (B2 q1) (rB 64 l).toArray 43,ob (B3 q1) #[.bool p] 4,ob (B4 q1) (rB 72 (dZ 72 0)).toArray 217]) λq1=>ra (λq2=>[(11,pt (B0 q2) 0)]) (λq2=>[ob (B0 q2) (rB 72 (dZ 72 0)).toArray 217]) λq2=>r0 [(0,.l 5)] [(19,i6 2)] [] (rF [] 20 (rT [] 45 (rr (λ_=>[(1,.l 7),(2,.c [] [] (DY x Om Om p)),(4,.s 10)]) (λq6=>[(15,pt (B3 q6) 0)]) [] (λq6 L=>L++[ob (B3 q6) (rB 3 (ci x p)).toArray 262]) λq6=>?_)))
 refine rr (λ_=>[(0,.l 6),(1,.c [] [11] (Oe l (by(simp only[LL,HEL,iJ,lM,HDR,hl];done))))]) (λq7=>[(51,.func (.func 202) #[] #[pt ((B1 q7)) 0])]) [] (λq7 L=>L++[ob (B1 q7) (rB 64 l).toArray 43]) λq7=>?_
 refine ph (encs:=λ(x:Nat×List UInt8)=>#[i6 (x.1:Int),.agg (rB 32 x.2).toArray]) (xs:=(ir 2).map λk=>(k,(l.drop (32*k)).take 32)) (KO:=[[((B1 q7),.cells (rB 64 l).toArray 43 (0,0))]]) (Of (B1 q7) l (by(simp only[LL,HEL,iJ,lM,HDR,hl];done))) (enters_of Tryz.func202 Kr rfl) (λk=>k≤2) (λk L=>L.set 9 (ob (B0 q2) (rB 72 (bU 36 (eJ l x p) k)).toArray 217)) [11] Om (by rw[Ei];kernel_rfl) (λlR k xE R1 W1 hxE hk9=>?_) (λD8 hk9=>?_)
 ·obtain⟨hkb10,rfl⟩:=oh hxE
  have HEL:=oE (n:=36) (pC hl x p) (k:=k) Om
  have HDR:((l.drop (32*k)).take 32).length=32:=by rw[jg,jh];omega
  refine r0 [] [(16,iN k)] [] (rr (λ_=>[(1,.s 12)]) (λq12=>[(17,pt (B0 q12) 0)]) [] (λq12 L=>L++[ob (B0 q12) (rB 32 ((l.drop (32*k)).take 32)).toArray 267]) λq12=>?_)
  refine ag [11] (λR2 W2=>?_)
  refine rr (λ_=>[(0,.l 4),(3,.l 0),(4,.l 12),(5,.l 10),(6,.c [1,2,3] [] (aa.at (rd':=[ob cb #[pt g 0,u] 309,ob g (rB 255 aP++rN 256 aW).toArray 312,.c bq3]) (NB cb g u ((l.drop (32*k)).take 32) (ci x p) (by(simp only[LL,HEL,iJ,lM,HDR,hl];done)) (by(simp only[LL,HEL,iJ,lM,HDR,hl];done))) (ak (ak (em hq3 (λ_ h=>h)))))),(8,.s 13)]) (λq13=>[(18,pt (B7 q13) 0)]) [] (λq13 L=>L++[ob (B7 q13) (rB 4 (iq (((l.drop (32*k)).take 32)) ((ci x p)))).toArray 268]) λq13=>rr (λq14=>[(0,.l 9),(1,.l 5),(3,aS 268 (B7 q13) 4 1),(4,aS 267 (B0 q12) 32 1),(5,.m (Lr kB 14 13 12 (B7 q13) 4 (rB 4 (iq (((l.drop (32*k)).take 32)) ((ci x p)))).toArray 268 (iq (((l.drop (32*k)).take 32)) ((ci x p))) ((l.drop (32*k)).take 32) (.slice (some ⟨(q12 0).abd 0,0,none⟩) 32 32) (ob (B0 q12) (rB 32 ((l.drop (32*k)).take 32)).toArray 267) (λ_ h=>by rw[show _=_ from h];exact pj (λ_=>rfl) (show((l.drop (32*k)).take 32).length=32 by(simp only[LL,HEL,iJ,lM,HDR,hl];done))) (iJ ..) (BT (iJ ..)) (by rw[(show((l.drop (32*k)).take 32).length=32 by(simp only[LL,HEL,iJ,lM,HDR,hl];done))];omega) (by rw[(iJ ..),(show((l.drop (32*k)).take 32).length=32 by(simp only[LL,HEL,iJ,lM,HDR,hl];done))];omega))),(6,.c [14] [] (aa.at (rd':=[bE ((q14 5).val 0) ((iq (((l.drop (32*k)).take 32)) ((ci x p)))++((l.drop (32*k)).take 32))]) (Oh (bU 36 (eJ l x p) k) ((iq (((l.drop (32*k)).take 32)) ((ci x p)))++((l.drop (32*k)).take 32)) ((q14 5).val 0) (by(simp only[LL,HEL,iJ,lM,HDR,hl];done)) k Om (by(simp only[LL,HEL,iJ,lM,HDR,hl];done))) (bO (λ_ h=>ap.sq h) (λ_ h=>h)))),(7,.s 9)]) N0 [] (λq14 L=>L.set 9 (ob (B0 q2) (rB 72 ((bU 36 (eJ l x p) k).take (36*k)++((iq (((l.drop (32*k)).take 32)) ((ci x p)))++((l.drop (32*k)).take 32))++(bU 36 (eJ l x p) k).drop ((36*k)+((iq (((l.drop (32*k)).take 32)) ((ci x p)))++((l.drop (32*k)).take 32)).length))).toArray 217)++[bE ((q14 5).val 0) ((iq (((l.drop (32*k)).take 32)) ((ci x p)))++((l.drop (32*k)).take 32))]) λq14=>?_
  exact ne _ ⟨Om,rfl⟩ [0,1,2,3,4,5,6,7,8,9,10,11] (by rw[←Eh (pC hl x p) (pC hl x p k),Ej Om];kernel_rfl)
 have HEL:=oE (n:=36) (pC hl x p) (k:=2) Om
 exact rs [(0,.l 9),(1,.s 8)] 8 (ob (B4 q1) (rB 72 (bU 36 (eJ l x p) 2)).toArray 217) (lf ab.zero [] [(0,0),(1,1),(2,2),(3,3)] [8])
end Go.Proofs.YtbcodenfkijdnaaGreat.E
namespace Go.Proofs.YtbcodenfkijdnaaGreat.E
open Go Go.RowKit
def aU(mode:Int):Nat:=if mode=1 then 9 else if mode=2 then 36 else 0
def dL(mode:Int):Nat:=if mode=1 then 8 else if mode=2 then 2 else 0
def dk(mode:Int)(a b:UInt8):Nat:=if mode=1 then pc (a^^^b).toNat else if a=b then 0 else 1
theorem Em{n:Nat}(h:n<256):pc n≤8:=by
 have h1:pc n=eE 8 n:=(tY 8 n Om Om).symm
 rw[h1];exact A4 8 n
theorem O7(mode:Int)(a b:UInt8):dk mode a b≤if mode=1 then 8 else 1:=by
 unfold dk
 split
 ·exact Em (a^^^b).toNat_lt
 ·split<;>omega
def cp(f:Nat→Nat):Nat→Nat
 | 0=>0
 | k+1=>cp f k+f k
def wC(mode:Int)(xs ys:List UInt8)(k:Nat):Nat:=cp (λj=>dk mode (xs.getD (aU mode*k+j) 0) (ys.getD (aU mode*k+j) 0)) (aU mode)
def kx(mode:Int)(xs ys:List UInt8):Nat→Nat
 | 0=>0
 | k+1=>max (kx mode xs ys k) (wC mode xs ys k)
def dm(mode:Int)(xs ys:List UInt8):Nat:=kx mode xs ys (dL mode)
end Go.Proofs.YtbcodenfkijdnaaGreat.E
namespace Go.Proofs.YtbcodenfkijdnaaGreat.E
open Go Go.RowKit Go.Shelf


theorem y0(l:List Int): ∀a:Int,(a≤l.foldl max a∧(∀x,x∈l→x≤l.foldl max a))∧∀m,a≤m→(∀x,x∈l→x≤m)→l.foldl max a≤m:=by
 induction l with
 | nil=>intro a;exact⟨⟨Int.le_refl _,λx h=>absurd h List.not_mem_nil⟩,λm h _=>h⟩
 | cons y l ih=>
  intro a
  obtain⟨⟨h1,h2⟩,h3⟩:=ih (max a y)
  rw[List.foldl_cons]
  refine⟨⟨by omega,λx hx=>?_⟩,λm hm hx=>h3 m (by have:=hx y List.mem_cons_self;omega) λx h=>hx x (List.mem_cons_of_mem _ h)⟩
  rcases List.mem_cons.1 hx with rfl | h
  ·omega
  ·exact h2 x h
theorem EH(l:List Int):0≤jK l:=(y0 l 0).1.1
theorem EI{l:List Int}{m:Int}(h0:0≤m)(h: ∀x,x∈l→x≤m):jK l≤m:=(y0 l 0).2 m h0 h
end Go.Proofs.YtbcodenfkijdnaaGreat.E
namespace Go.Proofs.YtbcodenfkijdnaaGreat
open Go Go.RowKit Go.Shelf

end Go.Proofs.YtbcodenfkijdnaaGreat
namespace Go.Proofs.YtbcodenfkijdnaaGreat.E
open Go Go.RowKit Go.Shelf
open Bool renaming and_eq_true→dZ
theorem y9{r:List UInt8}{y:Int}{k kd:Nat}{pl:Int}{a:UInt8}(h:eb (Go.Proofs.YtbcodenfkijdnaaGreat.co (aT (je r k) (ci y false)))=⟨kd,pl,a⟩):cK r y k=if kd=0 then 0 else if kd=1 then 1 else if kd=2∧pl=38∧a=128 then 2 else 3:=by
 unfold cK nJ pz fI c6 fa
 rw[h]
 show(bif ((kd:Nat):Int)==0 then 0 else(bif ((kd:Nat):Int)==1 then 1 else(bif ((((kd:Nat):Int)==2)&&(pl==38))&&((a.toNat:Int)==128) then 2 else 3)))=(_:Int)
 by_cases h0:kd=0
 ·subst h0;rfl
 by_cases h1:kd=1
 ·subst h1;rfl
 rw[ALifn h0,ALifn h1]
 have c0:(((kd:Nat):Int)==0)=false:=by rw[dp];omega
 have c1:(((kd:Nat):Int)==1)=false:=by rw[dp];omega
 rw[c0,c1,ALcf,ALcf]
 by_cases h2:kd=2∧pl=38∧a=128
 ·obtain⟨rfl,rfl,rfl⟩:=h2;rfl
 ·rw[ALifn h2]
  have c2:((((kd:Nat):Int)==2)&&(pl==38)&&((a.toNat:Int)==128))=false:=by
   apply Bool.eq_false_iff.2
   intro hc
   rw[dZ,dZ,beq_iff_eq,beq_iff_eq,beq_iff_eq] at hc
   exact h2 ⟨by omega,hc.1.2,UInt8.toNat_inj.1 (by show a.toNat=128;omega)⟩
  rw[c2,ALcf]
theorem P6(r:List UInt8)(y:Int)(k:Nat):cK r y k≤3:=by
 obtain⟨⟨kd,pl,a⟩,h⟩: ∃V,eb (Go.Proofs.YtbcodenfkijdnaaGreat.co (aT (je r k) (ci y false)))=V:=⟨_,rfl⟩
 rw[y9 h]
 split
 ·decide
 ·split
  ·decide
  ·split<;>decide

end Go.Proofs.YtbcodenfkijdnaaGreat.E
namespace Go.Proofs.YtbcodenfkijdnaaGreat
open Go Go.ChangeShapes Go.WideShapes Go.RowKit Go.Deep
open List renaming getElem?_cons_zero→dZ,replicate→eF,getElem?_eq_getElem→ir,replicate_succ→jg,length_append→jh,length_drop→jm,drop_drop→ka
open Bool renaming and_eq_true→jw
open Nat renaming succ_mul→kP
inductive iO where
 | int (k:IntKind)
 | bool
def ET:iO→Value→Prop
 | .int k,v=>∃z:Int,v= .int k z∧(Lit.int k z).wf=true
 | .bool,v=>∃b:Bool,v= .bool b
def pE(P:Program)(r:TypeId→Option (List iO)):Nat→List Field→Option (List iO)
 | _,[]=>some []
 | off,f::fs=>match r f.type with
  | none=>none
  | some l=>if f.offset==off&&P.cellsOf f.type==l.length then(pE P r (off+l.length) fs).map λm=>l++m else none
def nO(P:Program):Nat→TypeId→Option (List iO)
 | 0,_=>none
 | n+1,t=>match P.underlying t with
  | some .bool=>some [.bool]
  | some (.int k)=>some [.int k]
  | some (.struct fs)=>match pE P (nO P n) 0 fs.toList with
   | some l=>if P.cellsOf t==l.length then some l else none
   | none=>none
  | some (.array m e)=>match nO P n e with
   | some l=>if P.cellsOf e==l.length&&P.cellsOf t==m*l.length then some (eF m l).flatten else none
   | none=>none
  | _=>none
def eq(ls:List iO)(cs:List Value):Prop:=cs.length=ls.length∧∀(i:Nat) (lf:iO),ls[i]? =some lf→∃v,cs[i]? =some v∧ET lf v
theorem eq.append{l m:List iO}{cs:List Value}{k:Nat}(hk:k=l.length)(h1:eq l (cs.take k))(h2:eq m (cs.drop k)):eq (l++m) cs:=by
 subst hk
 obtain⟨a1,a2⟩:=h1
 obtain⟨b1,b2⟩:=h2
 rw[List.length_take] at a1
 rw[jm] at b1
 refine⟨by rw[jh];omega,λi lf h=>?_⟩
 rcases Nat.lt_or_ge i l.length with hi | hi
 ·rw[List.getElem?_append_left hi] at h
  obtain⟨v,e1,e2⟩:=a2 i lf h
  rw[List.getElem?_take_of_lt hi] at e1
  exact⟨v,e1,e2⟩
 ·rw[List.getElem?_append_right hi] at h
  obtain⟨v,e1,e2⟩:=b2 _ lf h
  rw[List.getElem?_drop,show l.length+(i-l.length)=i by omega] at e1
  exact⟨v,e1,e2⟩
section
variable {H:Type} {enc:TypeId×Value→H} {P:Program} {w:World} {base:Nat} {spare:Nat→Bool} {held:Bool}
theorem EU{r:TypeId→Option (List iO)}{m:Nat}(hr: ∀t ls cs x,r t=some ls→DataW.trod enc P w base spare held m t cs=some x→eq ls cs):
  ∀(fs:List Field) (off:Nat) (ls:List iO) (cs:List Value),pE P r off fs=some ls→off+ls.length=cs.length→
   (∀(i:Nat) (f:Field),fs[i]? =some f→∃x,DataW.trod enc P w base spare held m f.type ((cs.drop f.offset).take (P.cellsOf f.type))=some x)→eq ls (cs.drop off)
 | [],off,ls,cs,h,hl,_=>by
  simp only[pE,Option.some.injEq] at h
  subst h
  exact⟨by simp at hl⊢;omega,λi lf h=>by simp at h⟩
 | f::fs,off,ls,cs,h,hl,hf=>by
  unfold pE at h
  cases hrf:r f.type with
  | none=>rw[hrf] at h;cases h
  | some l=>
   rw[hrf] at h
   simp only at h
   split at h
   ·rename_i hc
    simp only[jw,beq_iff_eq] at hc
    cases hs:pE P r (off+l.length) fs with
    | none=>rw[hs] at h;cases h
    | some m'=>
     rw[hs] at h
     simp only[Option.map_some,Option.some.injEq] at h
     subst h
     rw[jh] at hl
     obtain⟨x,hx⟩:=hf 0 f rfl
     rw[hc.1,hc.2] at hx
     have h1:=hr _ _ _ _ hrf hx
     have h2:=EU hr fs (off+l.length) m' cs hs Om λi g hg=>hf (i+1) g (by simpa using hg)
     exact eq.append rfl h1 (by rw[ka];exact h2)
   ·cases h
theorem EV{r:List Value→Prop}{l:List iO}(hr: ∀cs,r cs→eq l cs): ∀(m:Nat) (cs:List Value),cs.length=m*l.length→(∀i,i<m→r ((cs.drop (i*l.length)).take l.length))→eq (eF m l).flatten cs
 | 0,cs,h,_=>by
  have:cs=[]:=List.eq_nil_of_length_eq_zero Om
  subst this
  exact⟨rfl,λi lf h=>by simp at h⟩
 | m+1,cs,h,hi=>by
  rw[jg,List.flatten_cons]
  have h1:=hr _ (hi 0 Om)
  rw[Nat.zero_mul,List.drop_zero] at h1
  refine eq.append rfl h1 (EV hr m _ (by rw[jm,h,kP];omega) λi h2=>?_)
  have h3:=hi (i+1) Om
  rw[ka]
  rwa [show(i+1)*l.length=l.length+i*l.length by rw[kP];omega] at h3
theorem vD: ∀(n:Nat) (t:TypeId) (ls:List iO) (fuel:Nat) (cs:List Value) (x:DataW H×List MemPlace),nO P n t=some ls→DataW.trod enc P w base spare held fuel t cs=some x→eq ls cs
 | 0,_,_,_,_,_,h,_=>by simp [nO] at h
 | n+1,t,ls,fuel,cs,x,h,hx=>by
  unfold nO at h
  cases hu:P.underlying t with
  | none=>rw[hu] at h;cases h
  | some d=>
   rw[hu] at h
   cases d with
   | bool=>
    simp only[Option.some.injEq] at h
    subst h
    obtain⟨b,rfl,_⟩:=DataW.trod_bool hu hx
    exact⟨rfl,λi lf h=>by
     cases i with
     | zero=>simp only[dZ,Option.some.injEq] at h;subst h;exact⟨_,rfl,b,rfl⟩
     | succ i=>simp at h⟩
   | int k=>
    simp only[Option.some.injEq] at h
    subst h
    obtain⟨z,rfl,_,hz⟩:=DataW.trod_int hu hx
    exact⟨rfl,λi lf h=>by
     cases i with
     | zero=>simp only[dZ,Option.some.injEq] at h;subst h;exact⟨_,rfl,z,rfl,hz⟩
     | succ i=>simp at h⟩
   | struct fs=>
    simp only at h
    cases hs:pE P (nO P n) 0 fs.toList with
    | none=>rw[hs] at h;cases h
    | some l=>
     rw[hs] at h
     simp only at h
     split at h
     ·rename_i hc
      rw[beq_iff_eq] at hc
      cases h
      obtain⟨xs,m,_,_,hl,hxl,hel⟩:=DataW.trod_struct hu hx
      have:=EU (m:=m) (λt ls cs x h1 h2=>vD n t ls m cs x h1 h2) fs.toList 0 ls cs hs Om λi f hf=>by
       have h1:=hel i f (by simpa using hf)
       have hi:i<xs.length:=by rw[hxl];have:=(List.getElem?_eq_some_iff.1 hf).1;simpa using this
       exact⟨xs[i],by rw[h1,ir hi]⟩
      simpa using this
     ·cases h
   | array m e=>
    simp only at h
    cases hs:nO P n e with
    | none=>rw[hs] at h;cases h
    | some l=>
     rw[hs] at h
     simp only at h
     split at h
     ·rename_i hc
      simp only[jw,beq_iff_eq] at hc
      cases h
      obtain⟨xs,m',_,_,hl,hxl,hel⟩:=DataW.trod_array hu hx
      refine EV (r:=λcs=>∃x,DataW.trod enc P w base spare held m' e cs=some x) (λcs ⟨x,h⟩=>vD n e l m' cs x hs h) m cs Om λi hi=>?_
      have h1:=hel i hi
      rw[hc.1] at h1
      exact⟨xs[i]'Om,by rw[h1,ir Om]⟩
     ·cases h
   | _=>simp at h
theorem Qe{t:TypeId}{v:Value}{d:DataW H}{p:List MemPlace}(n:Nat){ls:List iO}(hl:nO P n t=some ls)(hag: ∃cs,v= .agg cs)(h:DataW.Trod enc P w base spare held t v d p): ∃cs:List Value,v= .agg cs.toArray∧eq ls cs:=by
 obtain⟨cs,rfl⟩:=hag
 obtain⟨fuel,hf⟩:=h
 exact⟨cs.toList,by simp,vD n t ls fuel _ _ hl hf⟩
theorem Qf{r:Reach}{b0:Nat}{t:TypeId}{v:Value}{d:TypeDesc}(ht:P.underlying t=some d)(hd:(match d with | .struct _ | .array _ _=>true | _=>false)=true)(h:Value.okWide P w r b0 t v): ∃cs,v= .agg cs:=by
 simp only[Value.okWide,ht] at h
 cases d<;>simp at hd
 ·obtain⟨cs,h1,_⟩:=h;exact⟨cs,h1⟩
 ·obtain⟨cs,h1,_⟩:=h;exact⟨cs,h1⟩
end
theorem Qg{z:Int}(h:(Lit.int .i64 z).wf=true): -9223372036854775808≤z∧z≤9223372036854775807:=by
 have:=bounds_i64 h
 omega
theorem vE: ∀(n:Nat) (cs:List Value),eq (eF n (.int .i64)) cs→∃zs:List Int,zs.length=n∧cs=zs.map (λz=>Value.int .i64 z)∧∀z∈zs, -9223372036854775808≤z∧z≤9223372036854775807
 | 0,cs,h=>⟨[],rfl,by have:=h.1;simp at this;simpa using this,by simp⟩
 | n+1,cs,h=>by
  obtain⟨h1,h2⟩:=h
  cases cs with
  | nil=>simp at h1
  | cons c cs=>
   obtain⟨v,e1,z,e2,e3⟩:=h2 0 (.int .i64) (by simp)
   obtain⟨zs,e4,e5,e6⟩:=vE n cs ⟨by simpa using h1,λi lf hi=>by simpa using h2 (i+1) lf (by rw[jg,List.getElem?_cons_succ];exact hi)⟩
   simp only[dZ,Option.some.injEq] at e1
   subst e1
   subst e2
   refine⟨z::zs,by simp [e4],by simp [e5],λy hy=>?_⟩
   rcases List.mem_cons.1 hy with rfl | hy
   ·exact Qg e3
   ·exact e6 y hy
end Go.Proofs.YtbcodenfkijdnaaGreat
namespace Go.Proofs.YtbcodenfkijdnaaGreat
open Go Go.ChangeShapes Go.WideShapes Go.RowKit Go.Deep
open List renaming getElem?_eq_getElem→dZ
open Go.World renaming cells?_some→eF
def pF(n:Nat)(w:World)(A:Option Addr)(rows:List (List Value)):Prop:=
 ∀(i:Nat) (r:List Value),rows[i]? =some r→r.length=n∧∃b o,A=some ⟨b,o,none⟩∧b<w.heap.size∧∀(j:Nat) (v:Value),r[j]? =some v→w.cell? ⟨b,o+i*n+j,none⟩=some v
section
variable {n:Nat} {w w':World} {A:Option Addr} {rows:List (List Value)}
theorem pF.nil:pF n w A []:=λi r h=>by simp at h
end
section
variable {P:Program} {w:World} {b off:Nat}
end
section
variable {P:Program} {w:World} {o:Oper} {ρ:Operand→Value}
end
section
variable {H:Type} {enc:TypeId×Value→H} {P:Program} {w:World} {base:Nat} {spare:Nat→Bool} {held:Bool}
theorem Qh{t e:TypeId}{A:Option Addr}{len cap:Nat}{d:DataW H}{p:List MemPlace}(n:Nat){ls:List iO}(hl:nO P n e=some ls)(hn:P.cellsOf e=ls.length)(h0:0<ls.length)(ht:P.underlying t=some (.slice e))
  (h:DataW.Trod enc P w base spare held t (.slice A len cap) d p): ∃rows:List (List Value),rows.length=len∧(∀r∈rows,eq ls r)∧pF ls.length w A rows∧len≤cap∧cap≤maxLen:=by
 obtain⟨fuel,hf⟩:=h
 rcases open_slice ht hf with⟨hcs,_⟩ | ⟨a,l,c,m,n',D,Pl,hcs,_,hl1,hm,hmm,_,hx⟩
 ·simp [Value.cells] at hcs
  obtain⟨rfl,rfl,rfl⟩:=hcs
  exact⟨[],rfl,by simp,pF.nil,Nat.le_refl _,Nat.zero_le _⟩
 ·simp [Value.cells] at hcs
  obtain⟨rfl,rfl,rfl⟩:=hcs
  have hlm:len≤m:=by rw[hmm];split<;>omega
  obtain⟨f,hfx⟩:=choose_lt (α:=List Value) (n:=len) (p:=λi cs=>w.cells? base (a.add (i*P.cellsOf e)) (P.cellsOf e)=some cs∧eq ls cs) λi hi=>by
   obtain⟨cs',h1,h2⟩:=hx i Om
   exact⟨cs',h1,vD n e ls n' cs' _ hl h2⟩
  refine⟨(List.range len).map f,by simp,λr hr=>?_,λi r hr=>?_,hl1,hm⟩
  ·obtain⟨i,hi,rfl⟩:=List.mem_map.1 hr
   exact(hfx i (List.mem_range.1 hi)).2
  ·have hi:i<len:=by have:=(List.getElem?_eq_some_iff.1 hr).1;simpa using this
   rw[List.getElem?_map,List.getElem?_range hi] at hr
   simp only[Option.map_some,Option.some.injEq] at hr
   subst hr
   obtain⟨h1,h2⟩:=hfx i hi
   obtain⟨_,h3,h4⟩:=eF h1
   refine⟨h2.1,?_⟩
   obtain⟨b,o,spot⟩:=a
   have hc0:=h4 0 Om
   have hf0:(f i)[0]? =some ((f i)[0]'Om):=dZ Om
   rw[hf0] at hc0
   have hspot:spot=none:=by
    obtain⟨z1,z2⟩:=hfx 0 Om
    have hz0:=(eF z1).2.2 0 Om
    have hzl:=z2.1
    rw[dZ (show 0<(f 0).length by omega)] at hz0
    have:=World.cell?_spot hz0
    simpa [Addr.add] using this
   subst hspot
   have hadd: ∀(x y:Nat),((⟨b,o,none⟩:Addr).add x).add y=⟨b,o+x+y,none⟩:=λx y=>by
    unfold Addr.add
    split<;>split<;>simp_all
   refine⟨b,o,rfl,?_,λj v hv=>?_⟩
   ·rcases Nat.lt_or_ge b w.heap.size with hlt | hge
    ·exact hlt
    ·exfalso
     rw[hadd] at hc0
     simp [World.cell?,Array.getElem?_eq_none hge] at hc0
   ·have hj:j<P.cellsOf e:=by have:=(List.getElem?_eq_some_iff.1 hv).1;omega
    have:=h4 j hj
    rw[hadd,hn] at this
    rw[this,hv]
end
end Go.Proofs.YtbcodenfkijdnaaGreat
namespace Go.Proofs.YtbcodenfkijdnaaGreat.E
open Go Go.RowKit Go.Shelf
open Bool renaming and_eq_true→dZ
open Nat renaming mul_le_mul_right→eF,le_trans→jh,mul_le_mul→jw,mul_assoc→na,le_mul_of_pos_left→n7,le_add_right→pD
open Int renaming toNat_of_nonneg→ir,natCast_mul→ka
open List renaming getElem?_eq_getElem→jg,mem_cons_of_mem→jm,getElem?_take_of_lt→kP,getElem?_eq_none→nN,getElem?_drop→oG,mem_cons_self→po
theorem Qi{w:World}{b o:Nat}{v:Value}(h:w.cell? ⟨b,o,none⟩=some v): ∃cs t fr,w.heap[b]? =some (.cells cs t fr):=by
 unfold World.cell? at h
 cases hb:w.heap[b]? with
 | none=>simp [hb] at h
 | some x=>
  cases x with
  | cells cs t fr=>exact⟨cs,t,fr,rfl⟩
  | _=>simp [hb] at h
theorem Qj{α:Type}{en:α→List Value}{k:Nat}(hk: ∀y,(en y).length=k){xs:List α}{i r:Nat}(hi:i<xs.length)(hr:r<k)(d:α):(aj en xs)[i*k+r]? =(en (xs.getD i d))[r]? :=by
 have h:=ALca (λl=>l[r]?) (uv (d:=d) hk hi)
 simp only[kP hr,oG] at h
 exact h
theorem Qk{α:Type}{en:α→List Value}{k:Nat}{w:World}{A:Option Addr}{n c:Nat}{xs:List α}(hk: ∀y,(en y).length=k)(h0:0<k)(h:pF k w A (xs.map en))(hn:xs.length=n): ∃bs,Has bs w∧SrE en (.slice A n c) xs bs:=by
 subst hn
 cases hx:xs with
 | nil=>exact⟨[],⟨λ_ h=>by simp at h,List.Pairwise.nil⟩,.inl ⟨rfl,A,c,rfl⟩⟩
 | cons x0 ys=>
  rw[←hx]
  have hpos:0<xs.length:=by rw[hx];exact Nat.zero_lt_succ _
  obtain⟨_,b,o,rfl,hlt,hc⟩:=h 0 (en x0) (by rw[hx];rfl)
  have hj: ∃v,(en x0)[0]? =some v:=⟨(en x0)[0]'(by rw[hk];exact h0),jg _⟩
  obtain⟨v0,hv0⟩:=hj
  obtain⟨cs,t,fr,hb⟩:=Qi (hc 0 v0 hv0)
  refine⟨[(b,.cells cs t fr)],⟨λz hz=>by rw[List.mem_singleton.1 hz];exact hb,List.pairwise_singleton _ _⟩,.inr ⟨b,o,cs,t,fr,c,rfl,List.mem_singleton.2 rfl,?_⟩⟩
  have hL:(aj en xs).length=xs.length*k:=fY hk rfl
  have key: ∀j,j<xs.length*k→cs.toList[o+j]? =(aj en xs)[j]? :=by
   intro j hj
   have hi:j/k<xs.length:=Nat.div_lt_of_lt_mul (by rw[Nat.mul_comm];exact hj)
   have hr:j%k<k:=Nat.mod_lt _ h0
   have hd:j=j/k*k+j%k:=(Nat.div_add_mod' j k).symm
   obtain⟨_,b',o',he,_,hc'⟩:=h (j/k) (en (xs.getD (j/k) x0)) (by rw[List.getElem?_map,List.getD_eq_getElem?_getD,jg hi];rfl)
   cases he
   have hv:(en (xs.getD (j/k) x0))[j%k]? =some ((en (xs.getD (j/k) x0))[j%k]'(by rw[hk];exact hr)):=jg _
   have h1:=hc' (j%k) _ hv
   rw[cell_of_row w b _ cs t fr hb,←Array.getElem?_toList] at h1
   have h2:=Qj hk hi hr x0
   rw[←hd] at h2
   rw[h2,hv,←h1]
   congr 1
   omega
  rw[hL]
  apply List.ext_getElem?
  intro j
  by_cases hj:j<xs.length*k
  ·rw[kP hj,oG]
   exact key j hj
  ·rw[nN (by rw[List.length_take];omega),nN Om]
theorem SrE.mono{α:Type}{en:α→List Value}{v:Value}{xs:List α}{bs bs':aw}(h:SrE en v xs bs)(hs: ∀x∈bs,x∈bs'):SrE en v xs bs':=by
 rcases h with h | ⟨g,off,cs,t,fr,c,h1,h2,h3⟩
 ·exact .inl h
 ·exact .inr ⟨g,off,cs,t,fr,c,h1,hs _ h2,h3⟩
theorem Has.join{w:World}: ∀{a b:aw},Has a w→Has b w→∃c,Has c w∧(∀x∈a,x∈c)∧∀x∈b,x∈c
 | [],b,_,hb=>⟨b,hb,λx h=>by simp at h,λ_ h=>h⟩
 | y::a,b,ha,hb=>by
  have ha':Has a w:=⟨λx hx=>ha.obj x (jm _ hx),(List.pairwise_cons.1 ha.nd).2⟩
  obtain⟨c,hc,h1,h2⟩:=Has.join ha' hb
  have hy:=ha.obj y (po ..)
  by_cases he: ∃z∈c,z.1=y.1
  ·obtain⟨z,hz,e⟩:=he
   have hzy:z=y:=by
    have:=hc.obj z hz
    rw[e,hy] at this
    exact Prod.ext e (Option.some.inj this).symm
   exact⟨c,hc,λx hx=>by
    rcases List.mem_cons.1 hx with rfl | hx
    ·rw[←hzy];exact hz
    ·exact h1 x hx,h2⟩
  ·refine⟨y::c,⟨λx hx=>?_,List.pairwise_cons.2 ⟨λz hz e=>he ⟨z,hz,e.symm⟩,hc.nd⟩⟩,λx hx=>?_,λx hx=>jm _ (h2 x hx)⟩
   ·rcases List.mem_cons.1 hx with rfl | hx
    ·exact hy
    ·exact hc.obj x hx
   ·rcases List.mem_cons.1 hx with rfl | hx
    ·exact po ..
    ·exact jm _ (h1 x hx)
def dT(x:Int):Int:=IntKind.i64.wrap x
theorem EW{x:Int}(h0: -9223372036854775808≤x)(h1:x≤9223372036854775807):dT x=x:=IntWalk.i64_in _ Om
section
variable {P:Program} {T:TypeId} {x y:Operand} {w:World}
theorem Ql(a b:Int):(ar .and T x y (.int .i64 a) (.int .i64 b)).run P w= .ok (.int .i64 (bits .and .i64 a b)) w:=rfl
theorem Qm(a b:Int):(ar .add T x y (.int .i64 a) (.int .i64 b)).run P w= .ok (.int .i64 (dT (a+b))) w:=rfl
theorem EX(a b:Int):(ar .sub T x y (.int .i64 a) (.int .i64 b)).run P w= .ok (.int .i64 (dT (a-b))) w:=rfl
theorem zp(a b:Int):(ar .mul T x y (.int .i64 a) (.int .i64 b)).run P w= .ok (.int .i64 (dT (a*b))) w:=rfl
end
def fJ(n most:Int):Bool:=((decide (1≤n))&&(decide (n≤most)))&&((bits .and .i64 n (dT (n-1)))==0)
theorem mT{n most:Int}(h:fJ n most=true):1≤n∧n≤most:=by
 unfold fJ at h
 simp only[dZ,decide_eq_true_eq] at h
 exact h.1
theorem Qn: ∀n:Nat,n<1025→fJ (n:Int) 1024=true→n∈[1,2,4,8,16,32,64,128,256,512,1024]:=by decide+kernel
theorem EY{n:Nat}{most:Int}(hm:most≤1024)(h:fJ (n:Int) most=true):n∈[1,2,4,8,16,32,64,128,256,512,1024]:=by
 have h1:=mT h
 refine Qn n Om ?_
 unfold fJ at h⊢
 simp only[dZ,decide_eq_true_eq] at h⊢
 exact⟨⟨h.1.1,by omega⟩,h.2⟩
def jx(r s b m c:Int):Bool:=((((((fJ r 8)&&(decide (0≤s)))&&(decide (s≤(dT (8-r)))))&&(fJ b 16))&&(fJ m 1024))&&(fJ c 64))&&(decide ((dT (dT (dT (dT (r+s)*b)*m)*c))≤4096))
structure f9 (R S B M C:Nat):Prop where
 ok:jx R S B M C=true
structure Sy (R S B M C:Nat):Prop where
 r1:1≤R
 r8:R+S≤8
 b1:1≤B
 b16:B≤16
 m1:1≤M
 m10:M≤1024
 c1:1≤C
 c64:C≤64
 all:(R+S)*B*M*C≤4096
theorem EZ{r s b m c:Int}(h:jx r s b m c=true): ∃R S B M C:Nat,r=R∧s=S∧b=B∧m=M∧c=C∧f9 R S B M C:=by
 have h0:=h
 unfold jx at h
 simp only[dZ,decide_eq_true_eq] at h
 obtain⟨⟨⟨⟨⟨⟨h1,h2⟩,h3⟩,h4⟩,h5⟩,h6⟩,h7⟩:=h
 have:=mT h1;have:=mT h4;have:=mT h5;have:=mT h6
 refine⟨r.toNat,s.toNat,b.toNat,m.toNat,c.toNat,by omega,by omega,by omega,by omega,by omega,⟨?_⟩⟩
 rw[ir Om,ir Om,ir Om,ir Om,ir Om]
 exact h0
theorem f9.bd{R S B M C:Nat}(h:f9 R S B M C):Sy R S B M C:=by
 have h:=h.ok
 unfold jx at h
 simp only[dZ,decide_eq_true_eq] at h
 obtain⟨⟨⟨⟨⟨⟨h1,h2⟩,h3⟩,h4⟩,h5⟩,h6⟩,h7⟩:=h
 have a1:=mT h1;have a2:=mT h4;have a3:=mT h5;have a4:=mT h6
 rw[EW Om Om] at h3
 have e8:R+S≤8:=by omega
 have e1:(R+S)*B≤8*16:=jw e8 Om
 have e2:(R+S)*B*M≤128*1024:=jw e1 Om
 have e3:(R+S)*B*M*C≤131072*64:=jw e2 Om
 have nw: ∀x:Nat,x≤8388608→dT (x:Int)=(x:Int):=λx hx=>EW Om Om
 have w1:dT ((R:Int)+(S:Int))=((R+S:Nat):Int):=(nw (R+S) Om)
 have w2:dT (((R+S:Nat):Int)*(B:Int))=(((R+S)*B:Nat):Int):=by rw[←ka];exact nw _ Om
 have w3:dT ((((R+S)*B:Nat):Int)*(M:Int))=(((R+S)*B*M:Nat):Int):=by rw[←ka];exact nw _ Om
 have w4:dT ((((R+S)*B*M:Nat):Int)*(C:Int))=(((R+S)*B*M*C:Nat):Int):=by rw[←ka];exact nw _ Om
 rw[w1,w2,w3,w4] at h7
 exact⟨by omega,e8,by omega,by omega,by omega,by omega,by omega,by omega,by omega⟩
theorem f9.pow{R S B M C:Nat}(h:f9 R S B M C):B∈[1,2,4,8,16,32,64,128,256,512,1024]:=by
 have h:=h.ok
 unfold jx at h
 simp only[dZ,decide_eq_true_eq] at h
 obtain⟨⟨⟨⟨⟨⟨h1,h2⟩,h3⟩,h4⟩,h5⟩,h6⟩,h7⟩:=h
 exact EY Dc h4
section
variable {R S B M C:Nat} (h:Sy R S B M C)
theorem Sy.rb(h:Sy R S B M C):R*B≤128:=jw (show R≤8 by have:=h.r8;omega) h.b16
theorem Sy.sbm(h:Sy R S B M C):(R+S)*B*M≤4096:=jh (Nat.le_mul_of_pos_right _ h.c1) h.all
theorem Sy.rbm(h:Sy R S B M C):R*B*M≤4096:=jh (eF M (eF B (pD R S))) h.sbm
theorem Sy.rbmc(h:Sy R S B M C):R*B*M*C≤4096:=jh (eF C (eF M (eF B (pD R S)))) h.all
theorem Sy.bm(h:Sy R S B M C):B*M≤4096:=by
 have h1:B*M≤R*(B*M):=n7 _ h.r1
 rw[←na] at h1
 exact jh h1 h.rbm
theorem Sy.bmc(h:Sy R S B M C):B*M*C≤4096:=by
 have h1:B*M*C≤R*(B*M*C):=n7 _ h.r1
 rw[←na,←na] at h1
 exact jh h1 h.rbmc
end
def bQ(i n:Int):Bool:=(decide (0≤i))&&(decide (i<n))
theorem mq{i n:Int}:bQ i n=true↔0≤i∧i<n:=by unfold bQ;simp
def hold(R S B M C:Nat)(p0 p1 p2 p3:Int):Bool:=(((bQ p0 ((R+S:Nat):Int))&&(bQ p1 (B:Int)))&&(bQ p2 (M:Int)))&&(bQ p3 (C:Int))
theorem vF{R S B M C:Nat}{p0 p1 p2 p3:Int}:hold R S B M C p0 p1 p2 p3=true↔(0≤p0∧p0<((R+S:Nat):Int))∧(0≤p1∧p1<(B:Int))∧(0≤p2∧p2<(M:Int))∧(0≤p3∧p3<(C:Int)):=by
 unfold hold
 rw[dZ,dZ,dZ,mq,mq,mq,mq]
 constructor
 ·rintro ⟨⟨⟨a,b⟩,c⟩,d⟩;exact⟨a,b,c,d⟩
 ·rintro ⟨a,b,c,d⟩;exact⟨⟨⟨a,b⟩,c⟩,d⟩
def dA(p0 p1 p2 p3:Int):Int:=p0*1048576+p1*65536+p2*64+p3
def gF(R S B M C:Nat)(i:Int):Bool:= !(decide (i<0)|| !(hold R S B M C (i/1048576) (i/65536%16) (i/64%1024) (i%64)))
theorem Qo{R S B M C:Nat}(hb:Sy R S B M C){p0 p1 p2 p3:Int}(h:hold R S B M C p0 p1 p2 p3=true):dA p0 p1 p2 p3/1048576=p0∧dA p0 p1 p2 p3/65536%16=p1∧dA p0 p1 p2 p3/64%1024=p2∧dA p0 p1 p2 p3%64=p3∧0≤dA p0 p1 p2 p3∧dA p0 p1 p2 p3<8388608:=by
 obtain⟨h0,h1,h2,h3⟩:=vF.1 h
 have:=hb.b16;have:=hb.m10;have:=hb.c64;have:=hb.r8
 unfold dA
 omega
end Go.Proofs.YtbcodenfkijdnaaGreat.E
namespace Go.Proofs.YtbcodenfkijdnaaGreat.E
open Go Go.RowKit Go.Shelf
open Go.Proofs.Tryz renaming prog→dZ
theorem vG(n most:Int):aa dZ 97 #[i6 n,i6 most] [] [] N0 (λ_=> .bool (fJ n most)):=by
 refine fG Tryz.func97 λw cs=>?_
 refine r0 [] [(4,.bool false)] [] (r0 [(10,.t (tv (ar .sub 3 (.tmp 14) (.const (i6 1)) (i6 n) (i6 1)) (λ_=>EX n 1))),(11,.t (tv (ar .and 3 (.tmp 13) (.tmp 15) (i6 n) (i6 (dT (n-1)))) (λ_=>Ql n _))),] [(4,.bool (((decide (1≤n))&&(decide (n≤most)))&&((bits .and .i64 n (dT (n-1)))==0)))] [4] ?_)
 exact am (.bool (((decide (1≤n))&&(decide (n≤most)))&&((bits .and .i64 n (dT (n-1)))==0))) ab.zero bh [] [] []
theorem vH(i n:Int):aa dZ 105 #[i6 i,i6 n] [] [] N0 (λ_=> .bool (bQ i n)):=by
 refine fG Tryz.func105 λw cs=>?_
 refine r0 [] [(4,.bool false)] [] (r0 [] [(4,.bool ((decide (0≤i))&&(decide (i<n))))] [4] ?_)
 exact am (.bool ((decide (0≤i))&&(decide (i<n)))) ab.zero bh [] [] []
theorem ZP(r s b m c:Int):aa dZ 57 #[.agg #[i6 r,i6 s,i6 b,i6 m,i6 c]] [] [] N0 (λ_=> .bool (jx r s b m c)):=by
 refine fG Tryz.func57 λw cs=>?_
 refine ra (λq1=>[(1,pt (B0 q1) 0),(2,.bool false)]) (λq1=>[ob (B0 q1) #[i6 r,i6 s,i6 b,i6 m,i6 c] 23]) λq1=>r0 [(1,.m (ld 0 (i6 r))),(2,.c [] [] (vG r 8)),(5,.m (ld 0 (i6 s))),(10,.m (ld 0 (i6 s))),(12,.m (ld 0 (i6 r))),(13,.t (tv (ar .sub 3 (.const (i6 8)) (.tmp 15) (i6 8) (i6 r)) (λ_=>EX 8 r))),(18,.m (ld 0 (i6 b))),(19,.c [] [] (vG b 16)),(23,.m (ld 0 (i6 m))),(24,.c [] [] (vG m 1024)),(28,.m (ld 0 (i6 c))),(29,.c [] [] (vG c 64)),(33,.m (ld 0 (i6 r))),(35,.m (ld 0 (i6 s))),(36,.t (tv (ar .add 3 (.tmp 36) (.tmp 38) (i6 r) (i6 s)) (λ_=>Qm r s))),(38,.m (ld 0 (i6 b))),(39,.t (tv (ar .mul 3 (.tmp 39) (.tmp 41) (i6 (dT (r+s))) (i6 b)) (λ_=>zp _ _))),(41,.m (ld 0 (i6 m))),(42,.t (tv (ar .mul 3 (.tmp 42) (.tmp 44) (i6 (dT (dT (r+s)*b))) (i6 m)) (λ_=>zp _ _))),(44,.m (ld 0 (i6 c))),(45,.t (tv (ar .mul 3 (.tmp 45) (.tmp 47) (i6 (dT (dT (dT (r+s)*b)*m))) (i6 c)) (λ_=>zp _ _))),] [(2,.bool (((((((fJ r 8)&&(decide (0≤s)))&&(decide (s≤(dT (8-r)))))&&(fJ b 16))&&(fJ m 1024))&&(fJ c 64))&&(decide ((dT (dT (dT (dT (r+s)*b)*m)*c))≤4096))))] [2] ?_
 exact am (.bool (((((((fJ r 8)&&(decide (0≤s)))&&(decide (s≤(dT (8-r)))))&&(fJ b 16))&&(fJ m 1024))&&(fJ c 64))&&(decide ((dT (dT (dT (dT (r+s)*b)*m)*c))≤4096)))) ab.zero bh [] [] []
theorem vJ(R S B M C:Nat)(hG:f9 R S B M C):aa dZ 57 #[.agg #[iN R,iN S,iN B,iN M,iN C]] [] [] N0 (λ_=> .bool true):=by
 have h:=ZP R S B M C
 rwa [hG.ok] at h
attribute [local irreducible] bQ fJ dT
theorem sP(R S B M C:Nat)(hG:f9 R S B M C)(p0 p1 p2 p3:Int):aa dZ 73 #[.agg #[iN R,iN S,iN B,iN M,iN C],.agg #[i6 p0,i6 p1,i6 p2,i6 p3]] [] [] N0 (λ_=> .bool (hold R S B M C p0 p1 p2 p3)):=by
 have hB:=hG.bd
 have hr8:=hB.r8
 refine fG Tryz.func73 λw cs=>?_
 refine ra (λq1=>[(2,pt (B0 q1) 0),(3,pt (B1 q1) 0),(4,.bool false)]) (λq1=>[ob (B0 q1) #[iN R,iN S,iN B,iN M,iN C] 23,ob (B1 q1) #[i6 p0,i6 p1,i6 p2,i6 p3] 46]) λq1=>r0 [(0,.m (ls 0 ([iN R,iN S,iN B,iN M,iN C]))),(1,.c [] [] (vJ R S B M C hG)),(4,.m (ld 1 (i6 p0))),(6,.m (ld 0 (iN R))),(8,.m (ld 0 (iN S))),(9,ad R S),(10,.c [] [] (vH p0 ((R+S:Nat):Int))),(14,.m (ld 1 (i6 p1))),(16,.m (ld 0 (iN B))),(17,.c [] [] (vH p1 (B:Int))),(21,.m (ld 1 (i6 p2))),(23,.m (ld 0 (iN M))),(24,.c [] [] (vH p2 (M:Int))),(28,.m (ld 1 (i6 p3))),(30,.m (ld 0 (iN C))),(31,.c [] [] (vH p3 (C:Int)))] [(4,.bool ((((bQ p0 ((R+S:Nat):Int))&&(bQ p1 (B:Int)))&&(bQ p2 (M:Int)))&&(bQ p3 (C:Int))))] [4] ?_
 exact am (.bool ((((bQ p0 ((R+S:Nat):Int))&&(bQ p1 (B:Int)))&&(bQ p2 (M:Int)))&&(bQ p3 (C:Int)))) ab.zero bh [] [] []
theorem E1(p0 p1 p2 p3:Int)(a0:0≤p0)(b0:p0<8)(a1:0≤p1)(b1:p1<16)(a2:0≤p2)(b2:p2<1024)(a3:0≤p3)(b3:p3<64):aa dZ 102 #[.agg #[i6 p0,i6 p1,i6 p2,i6 p3]] [] [] N0 (λ_=>i6 (dA p0 p1 p2 p3)):=by
 refine fG Tryz.func102 λw cs=>?_
 refine ra (λq1=>[(1,pt (B0 q1) 0),(2,i6 0)]) (λq1=>[ob (B0 q1) #[i6 p0,i6 p1,i6 p2,i6 p3] 46]) λq1=>r0 [(1,.m (ld 0 (i6 p0))),(2,.t (tv (ar .shl 3 (.tmp 4) (.const (u6 20)) (i6 p0) (u6 20)) (λ_=>gb 20 Dc Om Om))),(4,.m (ld 0 (i6 p1))),(5,.t (tv (ar .shl 3 (.tmp 7) (.const (u6 16)) (i6 p1) (u6 16)) (λ_=>gb 16 Dc Om Om))),(6,.t (tv (ar .or 3 (.tmp 5) (.tmp 8) (i6 (p0*2^20)) (i6 (p1*2^16))) (λ_=>sr 20 1048576 rfl Om Om Om Om Om))),(8,.m (ld 0 (i6 p2))),(9,.t (tv (ar .shl 3 (.tmp 11) (.const (u6 6)) (i6 p2) (u6 6)) (λ_=>gb 6 Dc Om Om))),(10,.t (tv (ar .or 3 (.tmp 9) (.tmp 12) (i6 (p0*2^20+p1*2^16)) (i6 (p2*2^6))) (λ_=>sr 16 65536 rfl Om Om Om Om Om))),(12,.m (ld 0 (i6 p3))),(13,.t (tv (ar .or 3 (.tmp 13) (.tmp 15) (i6 (p0*2^20+p1*2^16+p2*2^6)) (i6 p3)) (λ_=>sr 6 64 rfl Om Om Om Om Om)))] [(2,i6 (p0*2^20+p1*2^16+p2*2^6+p3))] [2] ?_
 exact am (i6 (p0*2^20+p1*2^16+p2*2^6+p3)) ab.zero (by exact ALca (Value.int .i64) (by unfold dA;omega)) [] [] []
theorem Qp{R S B M C:Nat}(hb:Sy R S B M C){p0 p1 p2 p3:Int}(h:hold R S B M C p0 p1 p2 p3=true):(0≤p0∧p0<8)∧(0≤p1∧p1<16)∧(0≤p2∧p2<1024)∧0≤p3∧p3<64:=by
 obtain⟨h0,h1,h2,h3⟩:=vF.1 h
 have:=hb.b16;have:=hb.m10;have:=hb.c64;have:=hb.r8
 omega
def sQ(R S B M C:Nat)(p0 p1 p2 p3:Int):Int:=(bif !(hold R S B M C p0 p1 p2 p3) then 0 else(dA p0 p1 p2 p3))
def sS(R S B M C:Nat)(p0 p1 p2 p3:Int):Int:=(bif !(hold R S B M C p0 p1 p2 p3) then 12 else 0)
theorem E2(R S B M C:Nat)(hG:f9 R S B M C)(p0 p1 p2 p3:Int):aa dZ 147 #[.agg #[iN R,iN S,iN B,iN M,iN C],.agg #[i6 p0,i6 p1,i6 p2,i6 p3]] [] [] N0 (λ_=> .tuple #[i6 (sQ R S B M C p0 p1 p2 p3),i6 (sS R S B M C p0 p1 p2 p3)]):=by
 refine fG Tryz.func147 λw cs=>?_
 refine ra (λq1=>[(2,pt (B0 q1) 0),(3,pt (B1 q1) 0),(4,i6 0),(5,i6 0)]) (λq1=>[ob (B0 q1) #[iN R,iN S,iN B,iN M,iN C] 23,ob (B1 q1) #[i6 p0,i6 p1,i6 p2,i6 p3] 46]) λq1=>r0 [(0,.l 0),(1,.l 1),(2,.c [] [] (sP R S B M C hG p0 p1 p2 p3))] [(9,.bool (!(hold R S B M C p0 p1 p2 p3)))] [] ?_
 refine cB (!(hold R S B M C p0 p1 p2 p3)) (λh3=>?_) λh3=>?_
 ·refine r0 [] [(4,i6 0),(5,i6 12)] [4,5] ?_
  exact am (.tuple #[i6 0,i6 12]) ab.zero (by((try simp only[sQ,sS]);(repeat (first | rw[h3] | rw[ALct])))<;>rfl) [] [] []
 obtain⟨⟨i0,j0⟩,⟨i1,j1⟩,⟨i2,j2⟩,i3,j3⟩:=Qp hG.bd (by simpa using h3)
 refine r0 [(0,.l 1),(1,.c [] [] (E1 p0 p1 p2 p3 Om Om Om Om Om Om Om Om))] [(4,i6 (dA p0 p1 p2 p3)),(5,i6 0)] [4,5] ?_
 exact am (.tuple #[i6 (dA p0 p1 p2 p3),i6 0]) ab.zero (by((try simp only[sQ,sS]);(repeat (first | rw[h3] | rw[ALcf])))<;>rfl) [] [] []
theorem Qq(i:Int):aa dZ 104 #[i6 i] [] [] N0 (λ_=> .agg #[i6 (i/1048576),i6 (i/65536%16),i6 (i/64%1024),i6 (i%64)]):=by
 refine fG Tryz.func104 λw cs=>?_
 exact ra (λq1=>[(2,pt (B0 q1) 0)]) (λq1=>[ob (B0 q1) #[i6 0,i6 0,i6 0,i6 0] 46]) λq1=>rs [(1,.t (tv (ar .shr 3 (.tmp 3) (.const (u6 20)) (i6 i) (u6 20)) (λ_=>i8 20 Dc))),(3,.t (tv (ar .shr 3 (.tmp 5) (.const (u6 16)) (i6 i) (u6 16)) (λ_=>i8 16 Dc))),(4,.t (tv (ar .and 3 (.tmp 6) (.const (i6 15)) (i6 (i/65536)) (i6 15)) (λ_=>mO _ 4 16 Dc Dc Dc Dc))),(6,.t (tv (ar .shr 3 (.tmp 8) (.const (u6 6)) (i6 i) (u6 6)) (λ_=>i8 6 Dc))),(7,.t (tv (ar .and 3 (.tmp 9) (.const (i6 1023)) (i6 (i/64)) (i6 1023)) (λ_=>mO _ 10 1024 Dc Dc Dc Dc))),(9,.t (tv (ar .and 3 (.tmp 11) (.const (i6 63)) (i6 i) (i6 63)) (λ_=>mO _ 6 64 Dc Dc Dc Dc))),(11,.s 0)] 0 (ob (B0 q1) #[i6 (i/1048576),i6 (i/65536%16),i6 (i/64%1024),i6 (i%64)] 46) (lf ab.zero [] [] [0])
attribute [local irreducible] hold
def sT(R S B M C:Nat)(i:Int):Int:=(bif (decide (i<0))||(!(hold R S B M C (i/1048576) (i/65536%16) (i/64%1024) (i%64))) then 0 else(i/1048576))
def sU(R S B M C:Nat)(i:Int):Int:=(bif (decide (i<0))||(!(hold R S B M C (i/1048576) (i/65536%16) (i/64%1024) (i%64))) then 0 else(i/65536%16))
def sX(R S B M C:Nat)(i:Int):Int:=(bif (decide (i<0))||(!(hold R S B M C (i/1048576) (i/65536%16) (i/64%1024) (i%64))) then 0 else(i/64%1024))
def sY(R S B M C:Nat)(i:Int):Int:=(bif (decide (i<0))||(!(hold R S B M C (i/1048576) (i/65536%16) (i/64%1024) (i%64))) then 0 else(i%64))
def sZ(R S B M C:Nat)(i:Int):Int:=(bif (decide (i<0))||(!(hold R S B M C (i/1048576) (i/65536%16) (i/64%1024) (i%64))) then 12 else 0)
theorem E3(R S B M C:Nat)(hG:f9 R S B M C)(i:Int):aa dZ 68 #[.agg #[iN R,iN S,iN B,iN M,iN C],i6 i] [] [] N0 (λ_=> .tuple #[.agg #[i6 (sT R S B M C i),i6 (sU R S B M C i),i6 (sX R S B M C i),i6 (sY R S B M C i)],i6 (sZ R S B M C i)]):=by
 refine fG Tryz.func68 λw cs=>?_
 refine ra (λq1=>[(2,pt (B0 q1) 0),(4,pt (B1 q1) 0),(5,i6 0)]) (λq1=>[ob (B0 q1) #[iN R,iN S,iN B,iN M,iN C] 23,ob (B1 q1) #[i6 0,i6 0,i6 0,i6 0] 46]) λq1=>rr (λ_=>[(1,.c [] [] (Qq i)),(3,.s 2)]) (λq2=>[(6,pt (B2 q2) 0)]) [] (λq2 L=>L++[ob (B2 q2) #[i6 (i/1048576),i6 (i/65536%16),i6 (i/64%1024),i6 (i%64)] 46]) λq2=>r0 [(3,.l 0),(4,.l 2),(5,.c [] [] (sP R S B M C hG (i/1048576) (i/65536%16) (i/64%1024) (i%64)))] [(16,.bool ((decide (i<0))||(!(hold R S B M C (i/1048576) (i/65536%16) (i/64%1024) (i%64)))))] [] ?_
 refine cB ((decide (i<0))||(!(hold R S B M C (i/1048576) (i/65536%16) (i/64%1024) (i%64)))) (λh4=>?_) λh4=>?_
 ·refine r0 [(1,.s 1)] [(5,i6 12)] [5] ?_
  exact am (.tuple #[.agg #[i6 0,i6 0,i6 0,i6 0],i6 12]) ab.zero (by((try simp only[sT,sU,sX,sY,sZ]);(repeat (first | rw[h4] | rw[ALct])))<;>rfl) [] [] [1]
 refine rr (λ_=>[(0,.l 2),(1,.s 1)]) (λ_=>[(5,i6 0)]) [5] (λ_ L=>L.set 1 (ob (B1 q1) #[i6 (i/1048576),i6 (i/65536%16),i6 (i/64%1024),i6 (i%64)] 46)) λq6=>?_
 exact am (.tuple #[.agg #[i6 (i/1048576),i6 (i/65536%16),i6 (i/64%1024),i6 (i%64)],i6 0]) ab.zero (by((try simp only[sT,sU,sX,sY,sZ]);(repeat (first | rw[h4] | rw[ALcf])))<;>rfl) [] [] [1]
theorem Qr(R S B M C:Nat)(hG:f9 R S B M C):aa dZ 224 #[.agg #[iN R,iN S,iN B,iN M,iN C]] [] [] N0 (λ_=>i6 (((B*M)*C:Nat):Int)):=by
 have hB:=hG.bd
 have h1:=hB.bm
 have h2:=hB.bmc
 refine fG Tryz.func224 λw cs=>?_
 exact ra (λq1=>[(1,pt (B0 q1) 0),(2,i6 0)]) (λq1=>[ob (B0 q1) #[iN R,iN S,iN B,iN M,iN C] 23]) λq1=>rF [(0,.l 0),(1,.c [] [] (vJ R S B M C hG))] 5 (r0 [(1,.l 0),(3,.l 0),(4,ml B M),(6,.l 0),(7,ml (B*M) C)] [(2,i6 (((B*M)*C:Nat):Int))] [2] (lf ab.zero [] [] []))
theorem mU(R S B M C:Nat)(hG:f9 R S B M C):aa dZ 24 #[.agg #[iN R,iN S,iN B,iN M,iN C]] [] [] N0 (λ_=>i6 (((R*B)*M:Nat):Int)):=by
 have hB:=hG.bd
 have h1:=hB.rb
 have h2:=hB.rbm
 refine fG Tryz.func24 λw cs=>?_
 exact ra (λq1=>[(1,pt (B0 q1) 0),(2,i6 0)]) (λq1=>[ob (B0 q1) #[iN R,iN S,iN B,iN M,iN C] 23]) λq1=>rF [(0,.l 0),(1,.c [] [] (vJ R S B M C hG))] 5 (r0 [(1,.l 0),(3,.l 0),(4,ml R B),(6,.l 0),(7,ml (R*B) M)] [(2,i6 (((R*B)*M:Nat):Int))] [2] (lf ab.zero [] [] []))
end Go.Proofs.YtbcodenfkijdnaaGreat.E
namespace Go.Proofs.YtbcodenfkijdnaaGreat.E
open Go Go.RowKit Go.Shelf
open List renaming getElem?_append_left→dZ,flatten_append→eF,length_append→ir,flatten_cons→jg,getD_eq_getElem?_getD→jh,getElem?_eq_getElem→jm,getElem?_cons_succ→jw,append_nil→ka,range→kP,length_cons→na,range'→nN,mem_append_left→n7,range'_succ→oG,flatten_nil→po,length_map→pD
open Nat renaming zero_add→p4
def lN(v:Wr):Nat→ah→ah
 | _,[]=>[]
 | k,x::xs=>((cO v k).getD x)::lN v (k+1) xs
theorem s0(v:Wr): ∀(k:Nat) (L:ah),(lN v k L).length=L.length
 | _,[]=>rfl
 | k,x::xs=>by unfold lN;rw[na,na,s0 v (k+1) xs]
theorem zr(v:Wr): ∀(k:Nat) (L:ah) (p:Nat),(lN v k L)[p]? =L[p]?.map λx=>(cO v (k+p)).getD x
 | _,[],_=>by unfold lN;simp
 | k,x::xs,0=>by unfold lN;simp
 | k,x::xs,p+1=>by unfold lN;rw[jw,jw,zr v (k+1) xs p,show k+1+p=k+(p+1) by omega]
section
variable {P:Program} {f:FuncId} {args:Array Value} {rest:ah} {wt:ab→ah} {v:ab→Value} {S S':ah→Prop}
theorem Qs{L:ah}{w:World}{cs:List aw}(hs:bu L cs)(hh:Has cs.flatten w):li (bN cs.flatten) w L.length (λp=>L[p]?) (λi=>cs.getD i []) w:=by
 have ha:=rK hh.nd
 have hl:=jS hs
 have hm: ∀i,∀z∈cs.getD i [],z∈cs.flatten:=λi z hz=>by
  by_cases hi:i<cs.length
  ·exact List.mem_flatten.2 ⟨_,oc hi,hz⟩
  ·rw[qb hi] at hz;simp at hz
 exact⟨λp hp x hx=>nn hs hx,λp hp hx=>by rw[List.getElem?_eq_none_iff] at hx;omega,λp hp z hz=>hh.obj z (hm p z hz),λp _=>ha.1 p,λp q _ _ hne=>ha.2 p q hne,
  λp _ z hz=> .inl (List.mem_map.2 ⟨z,hm p z hz,rfl⟩),rfl,rfl,rfl,Nat.le_refl _,λ_ _ _=>rfl⟩
theorem aa.pkR(hE:Enters P f)(h: ∀L,S L→aa P f args (L++rest) [] wt v):aa P f args ((pk S)::rest) [] wt v:=by
 refine⟨hE,λw cs hs hh=>?_⟩
 obtain⟨bs,cs,rfl,⟨L,ds,hL,hd,rfl⟩,hr⟩:=eG hs
 have:=(h L hL).out w (ds++cs) (kG hd hr) (by rw[eF];rw[jg] at hh;exact hh)
 simpa using this
theorem zt(q:Nat)(x:az)(r:Wr)(p:Nat):cO ((q,x)::r) p=if q=p then some x else cO r p:=rfl
theorem E4: ∀(a b:Wr) (p:Nat),cO (a++b) p=(cO a p).or (cO b p)
 | [],b,p=>by simp [cO]
 | (q,x)::a,b,p=>by
  rw[List.cons_append,zt,zt]
  by_cases e:q=p
  ·rw[ALifp e,ALifp e];rfl
  ·rw[ALifn e,ALifn e];exact E4 a b p
theorem E5{qs:List Nat}{p:Nat}(h:p∉qs)(N:ah):cO (qs.zip N) p=none:=by
 cases e:cO (qs.zip N) p with
 | none=>rfl
 | some x=>exact absurd (List.of_mem_zip (ry e)).1 h
theorem E6(m:Nat): ∀(N:ah) (k p:Nat),cO (((nN k N.length).map λi=>m+i).zip N) (m+k+p)=N[p]?
 | [],k,p=>by simp [cO]
 | x::N,k,0=>by simp [oG,cO]
 | x::N,k,p+1=>by
  rw[na,oG,List.map_cons,List.zip_cons_cons,jw,←E6 m N (k+1) p]
  rw[zt,ALifn Om,show m+k+(p+1)=m+(k+1)+p by omega]
theorem aa.pkW{n:Nat}{N:ab→ah}(hE:Enters P f)(h: ∀L,S L→∃(O:List Nat) (wt:ab→ah),aa P f args (L++rest) O (λE=>wt E++N E) v∧(dx O&&O.all λi=>decide (i<L.length))=true∧∀E,(wt E).length=O.length∧(N E).length=n∧S' (lN (O.zip (wt E)) 0 L)):
  aa P f args ((pk S)::rest) [0] (λE=>(pk S')::N E) v:=by
 refine⟨hE,λw cs hs hh=>?_⟩
 obtain⟨bs,cs,rfl,⟨L,ds,hL,hd,rfl⟩,hr⟩:=eG hs
 obtain⟨O,wt,hC,hO,hW⟩:=h L hL
 rw[Bool.and_eq_true] at hO
 have hn:=oa hO.1
 have hlt: ∀i∈O,i<L.length:=λi hi=>by simpa using List.all_eq_true.1 hO.2 i hi
 have hlen:=jS hd
 rw[jg] at hh
 refine(callsIn_wide (n:=6)).1 ((callsIn_wide.2 (hC.out w (ds++cs) (kG hd hr) (by rw[eF];exact hh))).mono λe w' he=>?_)
 obtain⟨E,es,e1,hs2,hst⟩:=he
 obtain⟨hWl,hNl,hS'⟩:=hW E
 have hel:=jS hs2
 rw[ir] at hel
 have hds:bu (L++(N E).map λ_=> .c []) (ds++(N E).map λ_=>[]):=kG hd (by
  generalize N E=M
  induction M with
  | nil=>trivial
  | cons x M ih=>exact⟨rfl,ih⟩)
 have hfl0:(ds++(N E).map λ_=>([]:aw)).flatten=ds.flatten:=by
  rw[eF]
  have:((N E).map λ_=>([]:aw)).flatten=[]:=by
   generalize N E=M
   induction M with
   | nil=>rfl
   | cons x M ih=>simp
  rw[this,ka]
 have hh1:Has ds.flatten w:=⟨λx hx=>hh.obj x (n7 _ hx),(List.pairwise_append.1 hh.nd).1⟩
 obtain⟨c,hF,hc⟩: ∃c,li (bN ds.flatten) w (L++(N E).map λ_=>az.c []).length (λp=>(L++(N E).map λ_=>az.c [])[p]?) c w∧∀p,c p=(ds++(N E).map λ_=>[]).getD p []:=
  ⟨λp=>(ds++(N E).map λ_=>[]).getD p [],by have:=Qs hds (w:=w) (by rw[hfl0];exact hh1);rwa [hfl0] at this,λ_=>rfl⟩
 have hml:(L++(N E).map λ_=>az.c []).length=L.length+(N E).length:=by rw[ir,pD]
 obtain⟨qs,hqs⟩: ∃qs,qs=O++(nN 0 (N E).length).map λi=>L.length+i:=⟨_,rfl⟩
 have hql:qs.length=es.length:=by rw[hqs,ir,pD,List.length_range'];omega
 have hqn:qs.Nodup:=by
  rw[hqs,List.nodup_append]
  refine⟨hn,?_,λa ha b hb e=>?_⟩
  ·refine List.Pairwise.map _ (λa b h e=>h Om) (List.nodup_range' (s:=0) (n:=(N E).length))
  ·obtain⟨i,_,rfl⟩:=List.mem_map.1 hb
   have:=hlt a ha
   omega
 have hpc:=uc (qs:=qs) (ds:=es) hql hqn
 have hzl:qs.length=(wt E++N E).length:=by rw[ir];omega
 have hfl:((qs.zip (wt E++N E)).flatMap λx=>ma qs es x.1)=es.flatten:=by rw[qa hzl,hpc]
 have hF2:=hF.step (d:=ma qs es) (v:=qs.zip (wt E++N E)) (ue hpc hs2) (by rw[hfl];exact hst) (λb hb=>by
  obtain⟨i,hi,hb⟩:=List.mem_flatMap.1 hb
  have hil:=hlt i hi
  have hg:(ds++cs).getD i []=c i:=by rw[hc,jh,jh,dZ Om,dZ Om]
  rw[hg] at hb
  obtain⟨z,hz,rfl⟩:=List.mem_map.1 hb
  refine⟨i,by omega,?_,z,hz,rfl⟩
  obtain⟨j,hj,ej⟩:=List.getElem_of_mem (show i∈qs from hqs▸n7 _ hi)
  refine⟨(wt E++N E)[j]'Om,?_⟩
  rw[←ej]
  exact List.mem_iff_getElem.2 ⟨j,by rw[List.length_zip];omega,by rw[List.getElem_zip]⟩)
 have hzip:qs.zip (wt E++N E)=O.zip (wt E)++((nN 0 (N E).length).map λi=>L.length+i).zip (N E):=by rw[hqs,List.zip_append Om]
 have hOE:aD (bN ds.flatten) w (lN (O.zip (wt E)) 0 L++N E) w':=by
  refine⟨oZ c (qs.zip (wt E++N E)) (ma qs es),?_⟩
  rw[ir,s0,←hml]
  refine hF2.congr λp hp=>?_
  rw[hml] at hp
  unfold l7
  rw[hzip,E4]
  by_cases hpl:p<L.length
  ·rw[dZ (by rw[s0];exact hpl),zr,p4,E5 (qs:=(nN 0 (N E).length).map λi=>L.length+i) (λhm=>by obtain⟨i,_,e⟩:=List.mem_map.1 hm;omega)]
   have e2:(L++(N E).map λ_=>az.c [])[p]? =L[p]? :=dZ hpl
   simp only[e2,jm hpl]
   cases cO (O.zip (wt E)) p<;>rfl
  ·rw[List.getElem?_append_right (by rw[s0];omega),s0,E5 (λhm=>hpl (hlt p hm))]
   have:=E6 L.length (N E) 0 (p-L.length)
   rw[show L.length+0+(p-L.length)=p by omega] at this
   rw[this,jm Om]
   rfl
 obtain⟨cs2,h2,hS2⟩:=hOE.conc
 obtain⟨d1,d2,rfl,h3,h4⟩:=og h2
 refine⟨E,d1.flatten::d2,e1,⟨⟨_,d1,hS',h3,rfl⟩,h4⟩,?_⟩
 have ef:(d1.flatten::d2).flatten=(d1++d2).flatten:=by rw[jg,eF]
 rw[ef]
 refine⟨hS2.os,hS2.tape,hS2.output,hS2.size,hS2.obj,λx hx=>?_,hS2.nd,λb hb hn=>hS2.far b hb (by simpa using hn)⟩
 have:=hS2.lo x hx
 simpa using this
theorem aa.pkZ{fn:Func}(hf:P.funcs[f]? =some fn)(h: ∀L,S L→∃(O:List Nat) (wt:ab→ah),aa P f args (L++rest) O (λE=>wt E++[]) v∧(dx O&&O.all λi=>decide (i<L.length))=true∧∀E,(wt E).length=O.length∧([]:ah).length=0∧S' (lN (O.zip (wt E)) 0 L))(hn:(fn.name== "runtime.NumGoroutine")=false:=by kernel_rfl)(hb:fn.body.isSome=true:=by kernel_rfl):aa P f args (.p (r7 S)::rest) [0] (λE=> .p (r7 S')::[]) v:=aa.pkW (n:=0) (N:=λ_=>[]) (fN hf hn hb) h
theorem Qt: ∀cs:List aw,(kP cs.length).flatMap (λi=>bN (cs.getD i []))=bN cs.flatten:=by
 intro cs
 have h:(kP cs.length).map (λi=>cs.getD i [])=cs:=by
  apply List.ext_getElem (by simp)
  intro i h1 h2
  rw[List.getElem_map,List.getElem_range,jh,jm h2];rfl
 have h2:(kP cs.length).flatMap (λi=>bN (cs.getD i []))=(((kP cs.length).map λi=>cs.getD i []).map bN).flatten:=by rw[List.flatMap_def,List.map_map];rfl
 rw[h2,h]
 unfold bN
 rw[List.map_flatten]
theorem aa.unpk{L0 L1:ah}{N:ab→ah}(h:aa P f args [pk λL=>L=L0] [0] (λE=>(pk λL=>L=L1)::N E) v):aa P f args L0 (kP L0.length) (λE=>L1++N E) v:=by
 refine⟨h.ent,λw cs hs hh=>?_⟩
 refine(callsIn_wide (n:=6)).1 ((callsIn_wide.2 (h.out w [cs.flatten] ⟨⟨L0,cs,rfl,hs,rfl⟩,trivial⟩ (by simpa using hh))).mono λe w' he=>?_)
 obtain⟨E,ds,h1,h2,h3⟩:=he
 obtain⟨d,ds,rfl,⟨L,ds1,rfl,h4,rfl⟩,h5⟩:=eG h2
 refine⟨E,ds1++ds,h1,kG h4 h5,?_⟩
 rw[jS hs,Qt,eF]
 simpa using h3
theorem aa.outs{rd:ah}{O:List Nat}{wt':ab→ah}(h:aa P f args rd O wt v)(hw: ∀E ds,bu (wt E) ds→∃ds',bu (wt' E) ds'∧ds'.flatten=ds.flatten):aa P f args rd O wt' v:=
 ⟨h.ent,λw cs hs hh=>(callsIn_wide (n:=6)).1 ((callsIn_wide.2 (h.out w cs hs hh)).mono λe w' he=>by
  obtain⟨E,ds,h1,h2,h3⟩:=he
  obtain⟨ds',h4,h5⟩:=hw E ds h2
  exact⟨E,ds',h1,h4,by rw[h5];exact h3⟩)⟩
theorem s5{S:ah→Prop}{L:ah}{ds:List aw}(hS:S L)(h:bu L ds): ∃ds',bu [pk S] ds'∧ds'.flatten=ds.flatten:=⟨[ds.flatten],⟨⟨L,ds,hS,h,rfl⟩,trivial⟩,by simp⟩
theorem aa.inW{x y:az}{T T':ah→Prop}(h:aa P f args [x] [0] (λ_=>[y]) v)(hT: ∀L,T L→∃j:Nat,L[j]? =some x∧T' (L.set j y)):aa P f args [pk T] [0] (λ_=>[pk T']) v:=by
 refine aa.pkW (n:=0) (N:=λ_=>[]) h.ent λL hL=>?_
 obtain⟨j,hj,hT'⟩:=hT L hL
 have hjl:=(List.getElem?_eq_some_iff.1 hj).1
 refine⟨[j],λ_=>[y],⟨h.ent,λw cs hs hh=>?_⟩,by simp [dx,hjl],λE=>⟨rfl,rfl,?_⟩⟩
 ·rw[ka] at hs
  have hl:=jS hs
  have:=h.out w [cs.getD j []] ⟨nn hs hj,trivial⟩ ⟨λy hy=>hh.obj y (by
   rw[jg,po,ka] at hy
   exact List.mem_flatten.2 ⟨_,oc Om,hy⟩),by
   rw[jg,po,ka]
   exact(rK hh.nd).1 j⟩
  simpa using this
 ·have e:lN ([j].zip [y]) 0 L=L.set j y:=by
   apply List.ext_getElem?
   intro p
   rw[zr,p4,List.getElem?_set]
   by_cases e:j=p
   ·subst e
    simp [cO,hjl]
   ·rw[ALifn e]
    cases L[p]?<;>simp [cO,e]
  show T' (lN ([j].zip [y]) 0 L)
  rw[e]
  exact hT'
end
end Go.Proofs.YtbcodenfkijdnaaGreat.E
namespace Go.Proofs.YtbcodenfkijdnaaGreat.E
open Go Go.RowKit Go.Shelf
open Nat renaming mod_lt→dZ,lt_of_le_of_lt→eF,mul_comm→ir,mod_eq_of_lt→jg,zero_add→jh,add_mul_mod_self_right→jm,mul_assoc→ka,le_trans→na,zero_mul→nN,add_mul_div_right→n7,mul_le_mul_right→oG,div_lt_of_lt_mul→po,le_refl→pD,zero_le→p4,xor_lt_two_pow→p6,div_eq_of_lt→qx,div_add_mod→qz,add_comm→qA
open List renaming getElem?_eq_getElem→jw
open Go.Proofs.Tryz renaming prog→kP
def s6(x:Nat):List Value:=[iN x]
def cu:Kd kP Nat:=⟨s6,[i6 0],74,3,0,1,λ_=>rfl,rfl,λ_=>rfl,d9.mk' Kr Kr rfl⟩
abbrev bP(v:Value)(xs:List Nat):az:= .p (ap s6 ([i6 0]) 3 v xs)
def E7(x:Bool):List Value:=[.bool x]
def kS:Kd kP Bool:=⟨E7,[.bool false],135,4,false,1,λ_=>rfl,rfl,λ_=>rfl,d9.mk' Kr Kr rfl⟩
abbrev fj(v:Value)(xs:List Bool):az:= .p (ap E7 ([.bool false]) 4 v xs)
def jy(n:Nat)(bs:List Nat)(k:Nat):Nat:=(bs.take k).foldl (· / ·) n
def aE(n:Nat)(bs:List Nat)(k:Nat):List Nat:=(List.range k).map λi=>jy n bs i%bs.getD i 0
theorem Qu{n:Nat}{bs:List Nat}{k:Nat}(h:k<bs.length):jy n bs (k+1)=jy n bs k/bs.getD k 0:=by
 unfold jy
 rw[List.take_add_one,jw h,List.getD_eq_getElem?_getD,jw h,List.foldl_append]
 rfl
theorem Qv(n:Nat)(bs:List Nat): ∀k,jy n bs k≤n:=by
 intro k
 unfold jy
 generalize bs.take k=l
 induction l generalizing n with
 | nil=>exact pD _
 | cons b l ih=>exact na (ih (n/b)) (Nat.div_le_self _ _)
theorem Qw{n:Nat}{bs:List Nat}{k:Nat}:aE n bs (k+1)=aE n bs k++[jy n bs k%bs.getD k 0]:=by
 unfold aE
 rw[List.range_succ,List.map_append];rfl
theorem Qx(n:Nat)(bs:List Nat)(k:Nat):(aE n bs k).length=k:=by unfold aE;rw[List.length_map,List.length_range]
def eu(d bs:List Nat):Nat→Nat
 | 0=>0
 | k+1=>eu d bs k*bs.getD (bs.length-1-k) 0+d.getD (bs.length-1-k) 0
theorem E8{op:BinOp}{f:Nat→Nat→Nat}(a b:Nat)(ha:a<9223372036854775808)(hb:b<9223372036854775808)(hr:f a b<9223372036854775808)(h:bits op .i64 (a:Int) (b:Int)=IntKind.i64.wrap ((f (BitVec.ofInt 64 (a:Int)).toNat (BitVec.ofInt 64 (b:Int)).toNat:Nat):Int)):bits op .i64 (a:Int) (b:Int)=((f a b:Nat):Int):=by
 have h2: ∀c:Nat,c<9223372036854775808→(BitVec.ofInt 64 (c:Int)).toNat=c:=by
  intro c hc
  rw[BitVec.ofInt_natCast,BitVec.toNat_ofNat];exact jg Om
 rw[h,h2 a ha,h2 b hb]
 exact IntWalk.i64_in _ Om
theorem Qy(a b:Nat)(ha:a<9223372036854775808)(hb:b<9223372036854775808):bits .and .i64 (a:Int) (b:Int)=((a&&& b:Nat):Int):=
 E8 (f:=λa b=>a&&& b) a b ha hb (eF Nat.and_le_left ha) (by show IntKind.i64.wrap ((BitVec.ofInt 64 (a:Int)&&& BitVec.ofInt 64 (b:Int)).toNat:Int)=_;rw[BitVec.toNat_and])
theorem Qz(a b:Nat)(ha:a<9223372036854775808)(hb:b<9223372036854775808):bits .xor .i64 (a:Int) (b:Int)=((a^^^b:Nat):Int):=
 E8 (f:=λa b=>a^^^b) a b ha hb (p6 (n:=63) Om Om) (by show IntKind.i64.wrap ((BitVec.ofInt 64 (a:Int)^^^BitVec.ofInt 64 (b:Int)).toNat:Int)=_;rw[BitVec.toNat_xor])
section
variable {P:Program} {T:TypeId} {x y:Operand} {w:World}
theorem E9(a b:Nat)(ha:a<9223372036854775808)(hb:b<9223372036854775808):(ar .and T x y (.int .i64 (a:Int)) (.int .i64 (b:Int))).run P w= .ok (.int .i64 ((a&&& b:Nat):Int)) w:=by rw[←Qy a b ha hb];rfl
theorem Fb(a b:Nat)(ha:a<9223372036854775808)(hb:b<9223372036854775808):(ar .xor T x y (.int .i64 (a:Int)) (.int .i64 (b:Int))).run P w= .ok (.int .i64 ((a^^^b:Nat):Int)) w:=by rw[←Qz a b ha hb];rfl
end
theorem dU{P:Program}{m:Sem Value}{w:World}{a b:Int}{k:IntKind}(h:m.run P w= .ok (.int k a) w)(e:a=b):m.run P w= .ok (.int k b) w:=e▸h
def bJ(p0 p1 p2 p3:Nat):Nat:=p0*1048576+p1*65536+p2*64+p3
structure gZ (R S B M C p0 p1 p2 p3:Nat):Prop where
 h0:p0<R+S
 h1:p1<B
 h2:p2<M
 h3:p3<C
section
variable {R S B M C p0 p1 p2 p3:Nat}
theorem gZ.hold(h:gZ R S B M C p0 p1 p2 p3):hold R S B M C p0 p1 p2 p3=true:=by
 have:=h.h0;have:=h.h1;have:=h.h2;have:=h.h3
 exact vF.2 Om
theorem zu(hG:Sy R S B M C)(h:gZ R S B M C p0 p1 p2 p3):bJ p0 p1 p2 p3<8388608:=by
 have:=hG.r8;have:=hG.b16;have:=hG.m10;have:=hG.c64
 have:=h.h0;have:=h.h1;have:=h.h2;have:=h.h3
 unfold bJ;omega
theorem vK:dA (p0:Int) p1 p2 p3=(bJ p0 p1 p2 p3:Int):=by unfold dA bJ;omega
theorem zw(hG:Sy R S B M C)(h:gZ R S B M C p0 p1 p2 p3):bJ p0 p1 p2 p3/1048576=p0∧bJ p0 p1 p2 p3/65536%16=p1∧bJ p0 p1 p2 p3/64%1024=p2∧bJ p0 p1 p2 p3%64=p3:=by
 have:=hG.r8;have:=hG.b16;have:=hG.m10;have:=hG.c64
 have:=h.h0;have:=h.h1;have:=h.h2;have:=h.h3
 unfold bJ;omega
theorem s7(hG:f9 R S B M C)(h:gZ R S B M C p0 p1 p2 p3):aa kP 147 #[.agg #[iN R,iN S,iN B,iN M,iN C],.agg #[iN p0,iN p1,iN p2,iN p3]] [] [] N0 (λ_=> .tuple #[i6 (bJ p0 p1 p2 p3:Int),i6 0]):=by
 have:=E2 R S B M C hG p0 p1 p2 p3
 unfold sQ sS at this
 rwa [h.hold,vK] at this
theorem s8(hG:f9 R S B M C)(h:gZ R S B M C p0 p1 p2 p3):aa kP 68 #[.agg #[iN R,iN S,iN B,iN M,iN C],i6 (bJ p0 p1 p2 p3:Int)] [] [] N0 (λ_=> .tuple #[.agg #[iN p0,iN p1,iN p2,iN p3],i6 0]):=by
 have:=E3 R S B M C hG (bJ p0 p1 p2 p3:Nat)
 have e:=zw hG.bd h
 have e0:((bJ p0 p1 p2 p3:Nat):Int)/1048576=(p0:Int):=by omega
 have e1:((bJ p0 p1 p2 p3:Nat):Int)/65536%16=(p1:Int):=by omega
 have e2:((bJ p0 p1 p2 p3:Nat):Int)/64%1024=(p2:Int):=by omega
 have e3:((bJ p0 p1 p2 p3:Nat):Int)%64=(p3:Int):=by omega
 unfold sT sU sX sY sZ at this
 rw[e0,e1,e2,e3,h.hold,bj Om] at this
 exact this
end
theorem qC{B r b:Nat}(h:B∈[1,2,4,8,16,32,64,128,256,512,1024])(hb:b<B):b^^^(r&&& (B-1))<B:=by
 have h1:r&&& (B-1)<B:=eF Nat.and_le_right Om
 have key: ∀k,B=2^k→b^^^(r&&& (B-1))<B:=λk e=>by rw[e] at hb h1⊢;exact p6 hb h1
 simp only[List.mem_cons,List.not_mem_nil,or_false] at h
 rcases h with h | h | h | h | h | h | h | h | h | h | h
 ·exact key 0 h
 ·exact key 1 h
 ·exact key 2 h
 ·exact key 3 h
 ·exact key 4 h
 ·exact key 5 h
 ·exact key 6 h
 ·exact key 7 h
 ·exact key 8 h
 ·exact key 9 h
 ·exact key 10 h
def fP(B r b:Nat):Nat:=b^^^(r&&& (B-1))
theorem QA(B r b:Nat):fP B r (fP B r b)=b:=by unfold fP;rw[Nat.xor_assoc,Nat.xor_self,Nat.xor_zero]
def mV(way R B M p:Nat):List Nat:=match way with
 | 0=>aE p [M,B,R] 3
 | 1=>aE p [B,M,R] 3
 | _=>aE p [R,B,M] 3
def aF(way R B M p:Nat):Nat:=match way with
 | 0=>(mV way R B M p).getD 2 0
 | 1=>(mV way R B M p).getD 2 0
 | _=>(mV way R B M p).getD 0 0
def ec(way R B M p:Nat):Nat:=match way with
 | 0=>(mV way R B M p).getD 0 0
 | 1=>(mV way R B M p).getD 1 0
 | _=>(mV way R B M p).getD 2 0
def ed(way R B M p:Nat):Nat:=match way with
 | 0=>(mV way R B M p).getD 1 0
 | 1=>(mV way R B M p).getD 0 0
 | 2=>(mV way R B M p).getD 1 0
 | _=>fP B (ec way R B M p) ((mV way R B M p).getD 1 0)
def mt(way R B M r b w:Nat):Nat:=match way with
 | 0=>eu [w,b,r] [M,B,R] 3
 | 1=>eu [b,w,r] [B,M,R] 3
 | 2=>eu [r,b,w] [R,B,M] 3
 | _=>eu [r,fP B w b,w] [R,B,M] 3
def iu(way R B M p:Nat):Nat:=bJ (aF way R B M p) (ed way R B M p) (ec way R B M p) 0/64
theorem Fc(x y z a b c:Nat):eu [x,y,z] [a,b,c] 3=((0*c+z)*b+y)*a+x:=rfl
theorem Z6(n a b c:Nat):aE n [a,b,c] 3=[n%a,n/a%b,n/a/b%c]:=rfl
theorem s9{x y z a b c:Nat}(hx:x<a)(hy:y<b)(hz:z<c):eu [x,y,z] [a,b,c] 3<c*b*a:=by
 rw[Fc,nN,jh]
 have h1:z*b+y<c*b:=by
  have:(z+1)*b≤c*b:=oG b hz
  rw[Nat.add_mul] at this;omega
 have h2:(z*b+y+1)*a≤c*b*a:=oG a h1
 rw[Nat.add_mul] at h2;omega
theorem vL{n a b c:Nat}(hn:n<c*b*a)(ha:0<a)(hb:0<b):eu [n%a,n/a%b,n/a/b%c] [a,b,c] 3=n:=by
 have h1:n/a<c*b:=po (by rw[ir a];exact hn)
 have h2:n/a/b<c:=po (by rw[ir b];exact h1)
 rw[Fc,nN,jh,jg h2]
 have h3:=qz (n/a) b
 have h4:=qz n a
 rw[ir (n/a/b),h3,ir (n/a),h4]
theorem ZC{x y z a b c:Nat}(hx:x<a)(hy:y<b)(hz:z<c):aE (eu [x,y,z] [a,b,c] 3) [a,b,c] 3=[x,y,z]:=by
 rw[Z6,Fc,nN,jh,qA _ x,jm,jg hx,n7 _ _ Om,qx hx,jh,qA _ y,jm,jg hy,n7 _ _ Om,qx hy,jh,jg hz]
section
variable {R S B M C way p:Nat}
theorem pG(hG:f9 R S B M C)(hp:p<R*B*M):gZ R S B M C (aF way R B M p) (ed way R B M p) (ec way R B M p) 0:=by
 have hb:=hG.bd
 have h1:=hb.r1;have h2:=hb.b1;have h3:=hb.m1;have h4:=hb.c1
 have hR:aF way R B M p<R:=by
  match way with
  | 0=>exact dZ _ h1
  | 1=>exact dZ _ h1
  | w+2=>exact dZ p h1
 have hW:ec way R B M p<M:=by
  match way with
  | 0=>exact dZ p h3
  | 1=>exact dZ _ h3
  | w+2=>exact dZ _ h3
 refine⟨by omega,?_,hW,by omega⟩
 match way with
 | 0=>exact dZ _ h2
 | 1=>exact dZ _ h2
 | 2=>exact dZ _ h2
 | w+3=>exact qC hG.pow (dZ (p/R) h2)
theorem nP(hG:f9 R S B M C):aF way R B M p<R:=by
 have h1:=hG.bd.r1
 match way with
 | 0=>exact dZ _ h1
 | 1=>exact dZ _ h1
 | w+2=>exact dZ p h1
theorem zx(hG:f9 R S B M C)(hp:p<R*B*M):mt way R B M (aF way R B M p) (ed way R B M p) (ec way R B M p)=p:=by
 have hb:=hG.bd
 have h1:=hb.r1;have h2:=hb.b1;have h3:=hb.m1
 have e1:R*B*M=M*B*R:=by rw[ir (R*B),ir R,←ka]
 have e2:R*B*M=R*M*B:=by rw[ka,ir B,ka]
 match way with
 | 0=>exact vL hp h3 h2
 | 1=>exact vL (e2▸hp) h2 h3
 | 2=>exact vL (e1▸hp) h1 h2
 | w+3=>
  show eu [p%R,fP B (p/R/B%M) (fP B (p/R/B%M) (p/R%B)),p/R/B%M] [R,B,M] 3=p
  rw[QA]
  exact vL (e1▸hp) h1 h2
theorem QB(hG:f9 R S B M C)(hp:p<R*B*M):iu way R B M p<131072:=by
 have:=zu hG.bd (pG (way:=way) hG hp)
 unfold iu;omega
theorem QC(d bs:List Nat): ∀j k,j≤k→k≤3→bs.length=3→(∀i,i<3→1≤bs.getD i 0)→eu d bs j≤eu d bs k:=by
 intro j k hjk
 induction hjk with
 | refl=>intros;exact pD _
 | @step k h ih=>
  intro hk hl hb
  refine na (ih Om hl hb) ?_
  show eu d bs k≤eu d bs k*bs.getD (bs.length-1-k) 0+_
  have:=Nat.le_mul_of_pos_right (eu d bs k) (hb (bs.length-1-k) Om)
  omega
theorem vM{x y z a b c:Nat}(hx:x<a)(hy:y<b)(hz:z<c)(hm:c*b*a≤1000000)(k:Nat)(hk:k≤[a,b,c].length):eu [x,y,z] [a,b,c] k≤1000000:=by
 have h1:=s9 hx hy hz
 refine na (QC _ _ k 3 hk (pD _) rfl λi hi=>?_) Om
 match i with
 | 0=>exact eF (p4 _) hx
 | 1=>exact eF (p4 _) hy
 | 2=>exact eF (p4 _) hz
theorem zy:iu way R B M p=aF way R B M p*16384+ed way R B M p*1024+ec way R B M p:=by unfold iu bJ;omega
end
end Go.Proofs.YtbcodenfkijdnaaGreat.E
namespace Go.Proofs.YtbcodenfkijdnaaGreat.E
open Go Go.RowKit Go.Shelf
open Bool renaming or_eq_false_iff→dZ
open Nat renaming mul_assoc→eF,mul_comm→ir,and_le_right→na
open Go.Proofs.Tryz renaming prog→jg
open List renaming getD_eq_getElem?_getD→jh,length_take→jm,length_map→jw,getElem?_eq_getElem→ka,drop_eq_getElem_cons→kP,replicate→nN
theorem zA(r s b m c way:Int):aa jg 134 #[.agg #[i6 r,i6 s,i6 b,i6 m,i6 c],i6 way] [] [] N0 (λ_=> .bool (((jx r s b m c)&&(decide (0≤way)))&&(decide (way<4)))):=by
 refine fG Tryz.func134 λw cs=>?_
 refine ra (λq1=>[(2,pt (B0 q1) 0),(4,.bool false)]) (λq1=>[ob (B0 q1) #[i6 r,i6 s,i6 b,i6 m,i6 c] 23]) λq1=>r0 [(0,.l 0),(1,.c [] [] (ZP r s b m c))] [(4,.bool (((jx r s b m c)&&(decide (0≤way)))&&(decide (way<4))))] [4] ?_
 exact am (.bool (((jx r s b m c)&&(decide (0≤way)))&&(decide (way<4)))) ab.zero bh [] [] []
theorem nQ(R S B M C:Nat)(hG:f9 R S B M C)(way:Nat)(hw:way<4):aa jg 134 #[.agg #[iN R,iN S,iN B,iN M,iN C],iN way] [] [] N0 (λ_=> .bool true):=by
 have h:=zA R S B M C way
 rwa [hG.ok,cC Om,cC Om] at h
theorem vN(v:Value)(n:Nat)(ms:List Nat)(hn:n≤1000000)(hl:ms.length≤1000)(hb: ∀k,k<ms.length→1≤ms.getD k 0∧ms.getD k 0≤1000000):aa jg 146 #[iN n,v] [.p (aK s6 v ms)] [] (λE=>[bP (E.val 0) (aE n ms ms.length)]) (λE=>(E.val 0)):=by
 refine fO Tryz.func146 0 rfl λbq0 hq0=>?_
 refine fG Tryz.func146 λw cs=>?_
 refine r0 [] [(4,.slice none 0 0)] [] (r0 [] [(5,.slice none 0 0)] [] (r0 [(1,eR hq0.1 0)] [(8,v),(9,iN ms.length),(10,i6 0)] [] ?_))
 refine cz cu ?_
 refine mN (λk _=>k≤ms.length) (λk vS5=>[(0,i6 ((jy n ms k:Nat):Int)),(10,iN k),(5,vS5)]) (λk vS5 L=>L.set 1 (bP vS5 (aE n ms k))) (λk _=>ms.length-k) 0 (.slice none 0 0) Om Kr Kr (λk vS5 hk4=>?_)
 have hd:=Qv n ms k
 have hdl:=Qx n ms k
 refine r0 [] [(11,.bool (decide ((k:Int)<(ms.length:Int))))] [] ?_
 refine cj (k:Int) (ms.length:Int) (λh6 dh6=>?_) λh6 dh6=>?_
 ·refine r0 [(0,fF hq0.1 0 k 1),(1,jr cu hq0.1 0 k 0)] [(7,i6 (((ms.getD k 0):Nat):Int))] [] ?_
  have hbk:=hb k Om
  refine rr (λ_=>[(3,.t (tb (a:=i6 ((jy n ms k:Nat):Int)) (b:=i6 (((ms.getD k 0):Nat):Int)) λ_ _ _ _=>om (a:=jy n ms k) (d:=(ms.getD k 0)) Om)),(4,.m (bs 2 1)),(5,fD cu (vS5) (aE n ms k) 1 2 ([(jy n ms k)%(ms.getD k 0)]))]) (λq8=>[(5,(q8 5).val 0)]) [5] (λq8 L=>L.set 1 (bP ((q8 5).val 0) ((aE n ms k)++([(jy n ms k)%(ms.getD k 0)])))++[ob (B4 q8) #[i6 (((jy n ms k)%(ms.getD k 0):Nat):Int)] 3]) λq8=>r0 [(2,.t (tb (a:=i6 ((jy n ms k:Nat):Int)) (b:=i6 (((ms.getD k 0):Nat):Int)) λ_ _ _ _=>o8 (a:=jy n ms k) (d:=(ms.getD k 0)) Om Om))] [(0,i6 (((jy n ms k)/(ms.getD k 0):Nat):Int))] [0] (r0 [(0,ad k 1)] [(10,i6 ((k+1:Nat):Int))] [10] ?_)
  exact lE (k+1) ((q8 5).val 0) Om Om (by rw[Qu Om];kernel_rfl) [0,1] (by rw[Qw];kernel_rfl)
 obtain rfl:ms.length=k:=by omega
 refine lF ?_
 exact r0 [] [(4,vS5)] [4] (lf (.l [] [] [vS5]) [1] [(0,0)] [])
theorem vO(v u:Value)(d ms:List Nat)(hl:ms.length≤1000)(hd:d.length=ms.length)(hb: ∀k,k≤ms.length→eu d ms k≤1000000):aa jg 145 #[v,u] [.p (aK s6 v d),.p (aK s6 u ms)] [] N0 (λ_=>i6 ((eu d ms ms.length:Nat):Int)):=by
 refine fO Tryz.func145 0 rfl λbq0 hq0=>?_
 refine fO Tryz.func145 1 rfl λbq1 hq1=>?_
 refine fG Tryz.func145 λw cs=>?_
 refine r0 [] [(4,i6 0)] [] (r0 [] [(5,i6 0)] [] (r0 [(1,eR hq1.1 1),(2,sI (ms.length:Int) (1) Om)] [(6,i6 ((ms.length:Int)-1))] [] ?_))
 refine lq (λk=>k≤ms.length) (λk=>[(5,i6 ((eu d ms k:Nat):Int)),(6,i6 (((ms.length:Nat):Int)-1-((k:Nat):Int)))]) (λ_ L=>L) (λk=>ms.length-k) 0 Om (by rw[show((ms.length:Nat):Int)-1-((0:Nat):Int)=(ms.length:Int)-1 by omega];kernel_rfl) Kr (λk hk4=>?_)
 refine r0 [] [(11,.bool (decide (0≤(((ms.length:Nat):Int)-1-((k:Nat):Int)))))] [] ?_
 refine pd 0 (((ms.length:Nat):Int)-1-((k:Nat):Int)) (λh6 dh6=>?_) λh6 dh6=>?_
 ·have hbk:=hb (k+1) Om
  have hbk2:eu d ms (k+1)=eu d ms k*ms.getD (ms.length-1-k) 0+d.getD (ms.length-1-k) 0:=rfl
  refine r0 [(2,.t (tk (show i6 (((ms.length:Nat):Int)-1-((k:Nat):Int))=i6 ((ms.length-1-k:Nat):Int) from ALca (Value.int .i64) Om))),(3,fF hq1.1 1 (ms.length-1-k) 1),(4,jr cu hq1.1 1 (ms.length-1-k) 0),(5,ml (eu d ms k) (ms.getD (ms.length-1-k) 0)),(7,.t (tk (show i6 (((ms.length:Nat):Int)-1-((k:Nat):Int))=i6 ((ms.length-1-k:Nat):Int) from ALca (Value.int .i64) Om))),(8,fF hq0.1 0 (ms.length-1-k) 1),(9,jr cu hq0.1 0 (ms.length-1-k) 0),(10,ad ((eu d ms k)*(ms.getD (ms.length-1-k) 0)) (d.getD (ms.length-1-k) 0))] [(5,i6 ((((eu d ms k)*(ms.getD (ms.length-1-k) 0))+(d.getD (ms.length-1-k) 0):Nat):Int))] [5] (r0 [(1,sI (((ms.length:Nat):Int)-1-((k:Nat):Int)) (1) Om)] [(6,i6 ((((ms.length:Nat):Int)-1-((k:Nat):Int))-1))] [6] ?_)
  exact le (k+1) Om Om (by rw[show(((ms.length:Nat):Int)-1-((k+1:Nat):Int))=((ms.length:Nat):Int)-1-((k:Nat):Int)-1 by omega];kernel_rfl) [0,1] Kr
 obtain rfl:k=ms.length:=by omega
 refine lx ?_
 exact r0 [] [(4,i6 ((eu d ms ms.length:Nat):Int))] [4] (lf ab.zero [] [(0,0),(1,1)] [])
theorem QD(R S B M C:Nat)(hG:f9 R S B M C)(p:Nat)(hp:p<R*B*M):aa jg 122 #[.agg #[iN R,iN S,iN B,iN M,iN C],i6 0,iN p] [] [] N0 (λ_=> .tuple #[i6 ((iu 0 R B M p:Nat):Int),i6 0]):=by
 have hB:=hG.bd
 have h0:=hB.rbm
 have hr:=hB.r8
 have hb1:=hB.b16
 have hb2:=hB.b1
 have hm1:=hB.m10
 have hm2:=hB.m1
 have hr1:=hB.r1
 have hc1:=hB.c1
 have hdl:(aE p [M,B,R] [M,B,R].length).length=3:=rfl
 refine fG Tryz.func122 λw cs=>?_
 refine ra (λq1=>[(3,pt (B0 q1) 0),(6,i6 0),(7,i6 0)]) (λq1=>[ob (B0 q1) #[iN R,iN S,iN B,iN M,iN C] 23]) λq1=>r0 [(0,.m (ls 0 ([iN R,iN S,iN B,iN M,iN C]))),(2,.c [] [] (nQ R S B M C hG 0 Om)),(10,.m (ls 0 ([iN R,iN S,iN B,iN M,iN C]))),(11,.c [] [] (mU R S B M C hG))] [(27,.bool ((decide ((p:Int)<0))||(decide ((((R*B)*M:Nat):Int)≤(p:Int)))))] [] ?_
 have h3:((decide ((p:Int)<0))||(decide ((((R*B)*M:Nat):Int)≤(p:Int))))=false:=(by rw[dZ];exact⟨bj Om,bj Om⟩)
 refine cF ((decide ((p:Int)<0))||(decide ((((R*B)*M:Nat):Int)≤(p:Int)))) h3 (ra (λq4=>[(8,pt (B0 q4) 0)]) (λq4=>[ob (B0 q4) #[i6 0,i6 0,i6 0,i6 0] 46]) λq4=>r0 [] [(28,i6 0)] [] (rT [] 50 (rr (λq7=>[(2,.l 0),(4,.l 0),(6,.l 0),(7,ip cu 2 3 [M,B,R]),(8,.c [2] [3] (aa.at (rd':=[bP (.slice (some ⟨(q7 7).abd 0,0,none⟩) 3 3) ([M,B,R])]) (vN (.slice (some ⟨(q7 7).abd 0,0,none⟩) 3 3) p ([M,B,R]) Om (by simp) (λk hk=>by rcases k with _ | _ | _ | k<;>first | exact⟨by first | assumption,by simp;omega⟩ | (simp at hk;omega))) (bO (λ_ h=>ap.sq h) (λ_ h=>h))))]) (λq7=>[(9,((q7 8).val 0))]) [] (λq7 L=>L++[bP (.slice (some ⟨(q7 7).abd 0,0,none⟩) 3 3) ([M,B,R]),bP ((q7 8).val 0) (aE p ([M,B,R]) ([M,B,R]).length)]) λq7=>rs [(1,cU cu ((q7 8).val 0) (aE p ([M,B,R]) ([M,B,R]).length) 3 0),(2,fg cu ((q7 8).val 0) (aE p ([M,B,R]) ([M,B,R]).length) 3 0 0),(4,cU cu ((q7 8).val 0) (aE p ([M,B,R]) ([M,B,R]).length) 3 1),(5,fg cu ((q7 8).val 0) (aE p ([M,B,R]) ([M,B,R]).length) 3 1 0),(7,cU cu ((q7 8).val 0) (aE p ([M,B,R]) ([M,B,R]).length) 3 2),(8,fg cu ((q7 8).val 0) (aE p ([M,B,R]) ([M,B,R]).length) 3 2 0),(10,.s 1),(12,.s 1),(14,.s 1)] 1 (ob (B0 q4) #[i6 ((((aE p ([M,B,R]) ([M,B,R]).length).getD 2 0):Nat):Int),i6 ((((aE p ([M,B,R]) ([M,B,R]).length).getD 1 0):Nat):Int),i6 ((((aE p ([M,B,R]) ([M,B,R]).length).getD 0 0):Nat):Int),i6 0] 46) ?_)))
 refine rF [] 97 (r0 [(0,.l 0),(1,.l 1),(2,.c [] [] (s7 hG (pG (way:=0) hG hp)))] [(12,i6 ((bJ ((aE p ([M,B,R]) ([M,B,R]).length).getD 2 0) ((aE p ([M,B,R]) ([M,B,R]).length).getD 1 0) ((aE p ([M,B,R]) ([M,B,R]).length).getD 0 0) 0:Nat):Int)),(13,i6 0)] [] (r0 [(1,.t (tb (a:=i6 ((bJ ((aE p ([M,B,R]) ([M,B,R]).length).getD 2 0) ((aE p ([M,B,R]) ([M,B,R]).length).getD 1 0) ((aE p ([M,B,R]) ([M,B,R]).length).getD 0 0) 0:Nat):Int)) (b:=u6 6) λ_ _ _ _=>i8 6 Dc))] [(6,i6 (((bJ ((aE p ([M,B,R]) ([M,B,R]).length).getD 2 0) ((aE p ([M,B,R]) ([M,B,R]).length).getD 1 0) ((aE p ([M,B,R]) ([M,B,R]).length).getD 0 0) 0:Nat):Int)/64)),(7,i6 0)] [6,7] ?_))
 exact am (.tuple #[i6 (((bJ ((aE p ([M,B,R]) ([M,B,R]).length).getD 2 0) ((aE p ([M,B,R]) ([M,B,R]).length).getD 1 0) ((aE p ([M,B,R]) ([M,B,R]).length).getD 0 0) 0:Nat):Int)/64),i6 0]) ab.zero bh [] [] []
theorem QE(R S B M C:Nat)(hG:f9 R S B M C)(p:Nat)(hp:p<R*B*M):aa jg 122 #[.agg #[iN R,iN S,iN B,iN M,iN C],i6 1,iN p] [] [] N0 (λ_=> .tuple #[i6 ((iu 1 R B M p:Nat):Int),i6 0]):=by
 have hB:=hG.bd
 have h0:=hB.rbm
 have hr:=hB.r8
 have hb1:=hB.b16
 have hb2:=hB.b1
 have hm1:=hB.m10
 have hm2:=hB.m1
 have hr1:=hB.r1
 have hc1:=hB.c1
 have hdl:(aE p [B,M,R] [B,M,R].length).length=3:=rfl
 refine fG Tryz.func122 λw cs=>?_
 refine ra (λq1=>[(3,pt (B0 q1) 0),(6,i6 0),(7,i6 0)]) (λq1=>[ob (B0 q1) #[iN R,iN S,iN B,iN M,iN C] 23]) λq1=>r0 [(0,.m (ls 0 ([iN R,iN S,iN B,iN M,iN C]))),(2,.c [] [] (nQ R S B M C hG 1 Om)),(10,.m (ls 0 ([iN R,iN S,iN B,iN M,iN C]))),(11,.c [] [] (mU R S B M C hG))] [(27,.bool ((decide ((p:Int)<0))||(decide ((((R*B)*M:Nat):Int)≤(p:Int)))))] [] ?_
 have h3:((decide ((p:Int)<0))||(decide ((((R*B)*M:Nat):Int)≤(p:Int))))=false:=(by rw[dZ];exact⟨bj Om,bj Om⟩)
 refine cF ((decide ((p:Int)<0))||(decide ((((R*B)*M:Nat):Int)≤(p:Int)))) h3 (ra (λq4=>[(8,pt (B0 q4) 0)]) (λq4=>[ob (B0 q4) #[i6 0,i6 0,i6 0,i6 0] 46]) λq4=>r0 [] [(28,i6 1)] [] (rF [] 50 (rT [] 73 (rr (λq8=>[(2,.l 0),(4,.l 0),(6,.l 0),(7,ip cu 2 3 [B,M,R]),(8,.c [2] [3] (aa.at (rd':=[bP (.slice (some ⟨(q8 7).abd 0,0,none⟩) 3 3) ([B,M,R])]) (vN (.slice (some ⟨(q8 7).abd 0,0,none⟩) 3 3) p ([B,M,R]) Om (by simp) (λk hk=>by rcases k with _ | _ | _ | k<;>first | exact⟨by first | assumption,by simp;omega⟩ | (simp at hk;omega))) (bO (λ_ h=>ap.sq h) (λ_ h=>h))))]) (λq8=>[(10,((q8 8).val 0))]) [] (λq8 L=>L++[bP (.slice (some ⟨(q8 7).abd 0,0,none⟩) 3 3) ([B,M,R]),bP ((q8 8).val 0) (aE p ([B,M,R]) ([B,M,R]).length)]) λq8=>?_))))
 refine rs [(1,cU cu ((q8 8).val 0) (aE p ([B,M,R]) ([B,M,R]).length) 3 0),(2,fg cu ((q8 8).val 0) (aE p ([B,M,R]) ([B,M,R]).length) 3 0 0),(4,cU cu ((q8 8).val 0) (aE p ([B,M,R]) ([B,M,R]).length) 3 1),(5,fg cu ((q8 8).val 0) (aE p ([B,M,R]) ([B,M,R]).length) 3 1 0),(7,cU cu ((q8 8).val 0) (aE p ([B,M,R]) ([B,M,R]).length) 3 2),(8,fg cu ((q8 8).val 0) (aE p ([B,M,R]) ([B,M,R]).length) 3 2 0),(10,.s 1),(12,.s 1),(14,.s 1)] 1 (ob (B0 q4) #[i6 ((((aE p ([B,M,R]) ([B,M,R]).length).getD 2 0):Nat):Int),i6 ((((aE p ([B,M,R]) ([B,M,R]).length).getD 0 0):Nat):Int),i6 ((((aE p ([B,M,R]) ([B,M,R]).length).getD 1 0):Nat):Int),i6 0] 46) (rF [] 97 (r0 [(0,.l 0),(1,.l 1),(2,.c [] [] (s7 hG (pG (way:=1) hG hp)))] [(12,i6 ((bJ ((aE p ([B,M,R]) ([B,M,R]).length).getD 2 0) ((aE p ([B,M,R]) ([B,M,R]).length).getD 0 0) ((aE p ([B,M,R]) ([B,M,R]).length).getD 1 0) 0:Nat):Int)),(13,i6 0)] [] (r0 [(1,.t (tb (a:=i6 ((bJ ((aE p ([B,M,R]) ([B,M,R]).length).getD 2 0) ((aE p ([B,M,R]) ([B,M,R]).length).getD 0 0) ((aE p ([B,M,R]) ([B,M,R]).length).getD 1 0) 0:Nat):Int)) (b:=u6 6) λ_ _ _ _=>i8 6 Dc))] [(6,i6 (((bJ ((aE p ([B,M,R]) ([B,M,R]).length).getD 2 0) ((aE p ([B,M,R]) ([B,M,R]).length).getD 0 0) ((aE p ([B,M,R]) ([B,M,R]).length).getD 1 0) 0:Nat):Int)/64)),(7,i6 0)] [6,7] ?_)))
 exact am (.tuple #[i6 (((bJ ((aE p ([B,M,R]) ([B,M,R]).length).getD 2 0) ((aE p ([B,M,R]) ([B,M,R]).length).getD 0 0) ((aE p ([B,M,R]) ([B,M,R]).length).getD 1 0) 0:Nat):Int)/64),i6 0]) ab.zero bh [] [] []
theorem QF(R S B M C:Nat)(hG:f9 R S B M C)(p:Nat)(hp:p<R*B*M):aa jg 122 #[.agg #[iN R,iN S,iN B,iN M,iN C],i6 2,iN p] [] [] N0 (λ_=> .tuple #[i6 ((iu 2 R B M p:Nat):Int),i6 0]):=by
 have hB:=hG.bd
 have h0:=hB.rbm
 have hr:=hB.r8
 have hb1:=hB.b16
 have hb2:=hB.b1
 have hm1:=hB.m10
 have hm2:=hB.m1
 have hr1:=hB.r1
 have hc1:=hB.c1
 have hdl:(aE p [R,B,M] [R,B,M].length).length=3:=rfl
 refine fG Tryz.func122 λw cs=>?_
 refine ra (λq1=>[(3,pt (B0 q1) 0),(6,i6 0),(7,i6 0)]) (λq1=>[ob (B0 q1) #[iN R,iN S,iN B,iN M,iN C] 23]) λq1=>r0 [(0,.m (ls 0 ([iN R,iN S,iN B,iN M,iN C]))),(2,.c [] [] (nQ R S B M C hG 2 Om)),(10,.m (ls 0 ([iN R,iN S,iN B,iN M,iN C]))),(11,.c [] [] (mU R S B M C hG))] [(27,.bool ((decide ((p:Int)<0))||(decide ((((R*B)*M:Nat):Int)≤(p:Int)))))] [] ?_
 have h3:((decide ((p:Int)<0))||(decide ((((R*B)*M:Nat):Int)≤(p:Int))))=false:=(by rw[dZ];exact⟨bj Om,bj Om⟩)
 refine cF ((decide ((p:Int)<0))||(decide ((((R*B)*M:Nat):Int)≤(p:Int)))) h3 (ra (λq4=>[(8,pt (B0 q4) 0)]) (λq4=>[ob (B0 q4) #[i6 0,i6 0,i6 0,i6 0] 46]) λq4=>r0 [] [(28,i6 2)] [] (rF [] 50 (rF [] 73 (rr (λq8=>[(2,.l 0),(4,.l 0),(6,.l 0),(7,ip cu 2 3 [R,B,M]),(8,.c [2] [3] (aa.at (rd':=[bP (.slice (some ⟨(q8 7).abd 0,0,none⟩) 3 3) ([R,B,M])]) (vN (.slice (some ⟨(q8 7).abd 0,0,none⟩) 3 3) p ([R,B,M]) Om (by simp) (λk hk=>by rcases k with _ | _ | _ | k<;>first | exact⟨by first | assumption,by simp;omega⟩ | (simp at hk;omega))) (bO (λ_ h=>ap.sq h) (λ_ h=>h))))]) (λq8=>[(11,((q8 8).val 0))]) [] (λq8 L=>L++[bP (.slice (some ⟨(q8 7).abd 0,0,none⟩) 3 3) ([R,B,M]),bP ((q8 8).val 0) (aE p ([R,B,M]) ([R,B,M]).length)]) λq8=>?_))))
 refine rs [(1,cU cu ((q8 8).val 0) (aE p ([R,B,M]) ([R,B,M]).length) 3 0),(2,fg cu ((q8 8).val 0) (aE p ([R,B,M]) ([R,B,M]).length) 3 0 0),(4,cU cu ((q8 8).val 0) (aE p ([R,B,M]) ([R,B,M]).length) 3 1),(5,fg cu ((q8 8).val 0) (aE p ([R,B,M]) ([R,B,M]).length) 3 1 0),(7,cU cu ((q8 8).val 0) (aE p ([R,B,M]) ([R,B,M]).length) 3 2),(8,fg cu ((q8 8).val 0) (aE p ([R,B,M]) ([R,B,M]).length) 3 2 0),(10,.s 1),(12,.s 1),(14,.s 1)] 1 (ob (B0 q4) #[i6 ((((aE p ([R,B,M]) ([R,B,M]).length).getD 0 0):Nat):Int),i6 ((((aE p ([R,B,M]) ([R,B,M]).length).getD 1 0):Nat):Int),i6 ((((aE p ([R,B,M]) ([R,B,M]).length).getD 2 0):Nat):Int),i6 0] 46) (rF [] 97 (r0 [(0,.l 0),(1,.l 1),(2,.c [] [] (s7 hG (pG (way:=2) hG hp)))] [(12,i6 ((bJ ((aE p ([R,B,M]) ([R,B,M]).length).getD 0 0) ((aE p ([R,B,M]) ([R,B,M]).length).getD 1 0) ((aE p ([R,B,M]) ([R,B,M]).length).getD 2 0) 0:Nat):Int)),(13,i6 0)] [] (r0 [(1,.t (tb (a:=i6 ((bJ ((aE p ([R,B,M]) ([R,B,M]).length).getD 0 0) ((aE p ([R,B,M]) ([R,B,M]).length).getD 1 0) ((aE p ([R,B,M]) ([R,B,M]).length).getD 2 0) 0:Nat):Int)) (b:=u6 6) λ_ _ _ _=>i8 6 Dc))] [(6,i6 (((bJ ((aE p ([R,B,M]) ([R,B,M]).length).getD 0 0) ((aE p ([R,B,M]) ([R,B,M]).length).getD 1 0) ((aE p ([R,B,M]) ([R,B,M]).length).getD 2 0) 0:Nat):Int)/64)),(7,i6 0)] [6,7] ?_)))
 exact am (.tuple #[i6 (((bJ ((aE p ([R,B,M]) ([R,B,M]).length).getD 0 0) ((aE p ([R,B,M]) ([R,B,M]).length).getD 1 0) ((aE p ([R,B,M]) ([R,B,M]).length).getD 2 0) 0:Nat):Int)/64),i6 0]) ab.zero bh [] [] []
theorem QG(R S B M C:Nat)(hG:f9 R S B M C)(p:Nat)(hp:p<R*B*M):aa jg 122 #[.agg #[iN R,iN S,iN B,iN M,iN C],i6 3,iN p] [] [] N0 (λ_=> .tuple #[i6 ((iu 3 R B M p:Nat):Int),i6 0]):=by
 have hB:=hG.bd
 have h0:=hB.rbm
 have hr:=hB.r8
 have hb1:=hB.b16
 have hb2:=hB.b1
 have hm1:=hB.m10
 have hm2:=hB.m1
 have hr1:=hB.r1
 have hc1:=hB.c1
 have hdl:(aE p [R,B,M] [R,B,M].length).length=3:=rfl
 refine fG Tryz.func122 λw cs=>?_
 refine ra (λq1=>[(3,pt (B0 q1) 0),(6,i6 0),(7,i6 0)]) (λq1=>[ob (B0 q1) #[iN R,iN S,iN B,iN M,iN C] 23]) λq1=>r0 [(0,.m (ls 0 ([iN R,iN S,iN B,iN M,iN C]))),(2,.c [] [] (nQ R S B M C hG 3 Om)),(10,.m (ls 0 ([iN R,iN S,iN B,iN M,iN C]))),(11,.c [] [] (mU R S B M C hG))] [(27,.bool ((decide ((p:Int)<0))||(decide ((((R*B)*M:Nat):Int)≤(p:Int)))))] [] ?_
 have h3:((decide ((p:Int)<0))||(decide ((((R*B)*M:Nat):Int)≤(p:Int))))=false:=(by rw[dZ];exact⟨bj Om,bj Om⟩)
 refine cF ((decide ((p:Int)<0))||(decide ((((R*B)*M:Nat):Int)≤(p:Int)))) h3 (ra (λq4=>[(8,pt (B0 q4) 0)]) (λq4=>[ob (B0 q4) #[i6 0,i6 0,i6 0,i6 0] 46]) λq4=>r0 [] [(28,i6 3)] [] (rF [] 50 (rF [] 73 (rr (λq8=>[(2,.l 0),(4,.l 0),(6,.l 0),(7,ip cu 2 3 [R,B,M]),(8,.c [2] [3] (aa.at (rd':=[bP (.slice (some ⟨(q8 7).abd 0,0,none⟩) 3 3) ([R,B,M])]) (vN (.slice (some ⟨(q8 7).abd 0,0,none⟩) 3 3) p ([R,B,M]) Om (by simp) (λk hk=>by rcases k with _ | _ | _ | k<;>first | exact⟨by first | assumption,by simp;omega⟩ | (simp at hk;omega))) (bO (λ_ h=>ap.sq h) (λ_ h=>h))))]) (λq8=>[(11,((q8 8).val 0))]) [] (λq8 L=>L++[bP (.slice (some ⟨(q8 7).abd 0,0,none⟩) 3 3) ([R,B,M]),bP ((q8 8).val 0) (aE p ([R,B,M]) ([R,B,M]).length)]) λq8=>?_))))
 refine rs [(1,cU cu ((q8 8).val 0) (aE p ([R,B,M]) ([R,B,M]).length) 3 0),(2,fg cu ((q8 8).val 0) (aE p ([R,B,M]) ([R,B,M]).length) 3 0 0),(4,cU cu ((q8 8).val 0) (aE p ([R,B,M]) ([R,B,M]).length) 3 1),(5,fg cu ((q8 8).val 0) (aE p ([R,B,M]) ([R,B,M]).length) 3 1 0),(7,cU cu ((q8 8).val 0) (aE p ([R,B,M]) ([R,B,M]).length) 3 2),(8,fg cu ((q8 8).val 0) (aE p ([R,B,M]) ([R,B,M]).length) 3 2 0),(10,.s 1),(12,.s 1),(14,.s 1)] 1 (ob (B0 q4) #[i6 ((((aE p ([R,B,M]) ([R,B,M]).length).getD 0 0):Nat):Int),i6 ((((aE p ([R,B,M]) ([R,B,M]).length).getD 1 0):Nat):Int),i6 ((((aE p ([R,B,M]) ([R,B,M]).length).getD 2 0):Nat):Int),i6 0] 46) (rT [] 97 ?_)
 have q1:(aE p [R,B,M] [R,B,M].length).getD 2 0<M:=Nat.mod_lt _ hm2
 have q2:(aE p [R,B,M] [R,B,M].length).getD 1 0<B:=Nat.mod_lt _ hb2
 have q3:(aE p [R,B,M] 3).getD 2 0&&& (B-1)≤B-1:=na
 refine rs [(1,.l 1),(3,.l 1),(5,.l 0),(6,.t (tb (a:=iN B) (b:=i6 1) λ_ _ _ _=>mo (a:=B) (b:=1) Om Om)),(7,.t (tv (ar .and 3 (.tmp 101) (.tmp 104) (i6 ((((aE p ([R,B,M]) ([R,B,M]).length).getD 2 0):Nat):Int)) (i6 ((B-1:Nat):Int))) (λ_=>E9 _ (B-1) Om Om))),(8,.t (tv (ar .xor 3 (.tmp 99) (.tmp 105) (i6 ((((aE p ([R,B,M]) ([R,B,M]).length).getD 1 0):Nat):Int)) (i6 ((((aE p [R,B,M] 3).getD 2 0)&&& (B-1):Nat):Int))) (λ_=>Fb _ _ Om Om))),(10,.s 1)] 1 (ob (B0 q4) #[i6 ((((aE p ([R,B,M]) ([R,B,M]).length).getD 0 0):Nat):Int),i6 ((fP B ((aE p [R,B,M] 3).getD 2 0) ((aE p [R,B,M] 3).getD 1 0):Nat):Int),i6 ((((aE p ([R,B,M]) ([R,B,M]).length).getD 2 0):Nat):Int),i6 0] 46) (r0 [(0,.l 0),(1,.l 1),(2,.c [] [] (s7 hG (pG (way:=3) hG hp)))] [(12,i6 ((bJ ((aE p ([R,B,M]) ([R,B,M]).length).getD 0 0) (fP B ((aE p [R,B,M] 3).getD 2 0) ((aE p [R,B,M] 3).getD 1 0)) ((aE p ([R,B,M]) ([R,B,M]).length).getD 2 0) 0:Nat):Int)),(13,i6 0)] [] (r0 [(1,.t (tb (a:=i6 ((bJ ((aE p ([R,B,M]) ([R,B,M]).length).getD 0 0) (fP B ((aE p [R,B,M] 3).getD 2 0) ((aE p [R,B,M] 3).getD 1 0)) ((aE p ([R,B,M]) ([R,B,M]).length).getD 2 0) 0:Nat):Int)) (b:=u6 6) λ_ _ _ _=>i8 6 Dc))] [(6,i6 (((bJ ((aE p ([R,B,M]) ([R,B,M]).length).getD 0 0) (fP B ((aE p [R,B,M] 3).getD 2 0) ((aE p [R,B,M] 3).getD 1 0)) ((aE p ([R,B,M]) ([R,B,M]).length).getD 2 0) 0:Nat):Int)/64)),(7,i6 0)] [6,7] ?_))
 exact am (.tuple #[i6 (((bJ ((aE p ([R,B,M]) ([R,B,M]).length).getD 0 0) (fP B ((aE p [R,B,M] 3).getD 2 0) ((aE p [R,B,M] 3).getD 1 0)) ((aE p ([R,B,M]) ([R,B,M]).length).getD 2 0) 0:Nat):Int)/64),i6 0]) ab.zero bh [] [] []
theorem Fd(R S B M C:Nat)(hG:f9 R S B M C)(way:Nat)(hw:way<4)(p:Nat)(hp:p<R*B*M):aa jg 122 #[.agg #[iN R,iN S,iN B,iN M,iN C],iN way,iN p] [] [] N0 (λ_=> .tuple #[i6 ((iu way R B M p:Nat):Int),i6 0]):=by
 match way with
 | 0=>exact QD R S B M C hG p hp
 | 1=>exact QE R S B M C hG p hp
 | 2=>exact QF R S B M C hG p hp
 | 3=>exact QG R S B M C hG p hp
 | w+4=>exact absurd hw Om
theorem QH(R S B M C:Nat)(hG:f9 R S B M C)(x0 x1 x2:Nat)(h0:x0<R)(h1:x1<B)(h2:x2<M):aa jg 121 #[.agg #[iN R,iN S,iN B,iN M,iN C],i6 0,i6 ((x0*16384+x1*1024+x2:Nat):Int)] [] [] N0 (λ_=> .tuple #[i6 ((mt 0 R B M x0 x1 x2:Nat):Int),i6 0]):=by
 have hB:=hG.bd
 have hr:=hB.r8
 have hb1:=hB.b16
 have hm1:=hB.m10
 have hc1:=hB.c1
 have hrb:=hB.rbm
 have e1:M*B*R=R*B*M:=by rw[ir (R*B),ir R,←eF]
 have e2:R*M*B=R*B*M:=by rw[eF,ir M,←eF]
 have hmx:fP B x2 x1<B:=qC hG.pow h1
 have hin:gZ R S B M C x0 x1 x2 0:=⟨by omega,h1,h2,by omega⟩
 refine fG Tryz.func121 λw cs=>?_
 refine ra (λq1=>[(3,pt (B0 q1) 0),(6,i6 0),(7,i6 0)]) (λq1=>[ob (B0 q1) #[iN R,iN S,iN B,iN M,iN C] 23]) λq1=>r0 [(0,.m (ls 0 ([iN R,iN S,iN B,iN M,iN C]))),(2,.c [] [] (nQ R S B M C hG 0 Om)),] [(21,.bool ((decide (((x0*16384+x1*1024+x2:Nat):Int)<0))||(decide (131072≤((x0*16384+x1*1024+x2:Nat):Int)))))] [] ?_
 have h3:((decide (((x0*16384+x1*1024+x2:Nat):Int)<0))||(decide (131072≤((x0*16384+x1*1024+x2:Nat):Int))))=false:=(by rw[dZ];exact⟨bj Om,bj Om⟩)
 refine cF ((decide (((x0*16384+x1*1024+x2:Nat):Int)<0))||(decide (131072≤((x0*16384+x1*1024+x2:Nat):Int)))) h3 (rr (λ_=>[(0,.l 0),(2,.t (tv (ar .shl 3 (.tmp 24) (.const (u6 6)) (i6 ((x0*16384+x1*1024+x2:Nat):Int)) (u6 6)) (λ_=>dU (b:=((bJ x0 x1 x2 0:Nat):Int)) (gb 6 Dc Om Om) (by unfold bJ;omega)))),(3,.c [] [] (s8 hG hin)),(8,.s 1)]) (λq4=>[(8,pt (B7 q4) 0),(9,i6 0)]) [] (λq4 L=>L++[ob (B7 q4) #[iN x0,iN x1,iN x2,i6 0] 46]) λq4=>r0 [(4,.l 1),(6,.l 0)] [(37,.bool (decide ((R:Int)≤(x0:Int))))] [] ?_)
 have h6:(decide ((R:Int)≤(x0:Int)))=false:=bj Om
 refine cF (decide ((R:Int)≤(x0:Int))) h6 (rF [] 39 (r0 [] [(50,i6 0)] [] (rT [] 51 (rr (λq10=>[(1,.m (ld 1 (iN x2))),(3,.m (ld 1 (iN x1))),(5,.m (ld 1 (iN x0))),(6,ip cu 2 3 [x2,x1,x0]),(8,.m (ld 0 (iN M))),(10,.m (ld 0 (iN B))),(12,.m (ld 0 (iN R))),(13,ip cu 3 3 [M,B,R]),(14,.c [2,3] [] (aa.at (rd':=[bP (.slice (some ⟨(q10 6).abd 0,0,none⟩) 3 3) ([x2,x1,x0]),bP (.slice (some ⟨(q10 13).abd 0,0,none⟩) 3 3) ([M,B,R])]) (vO (.slice (some ⟨(q10 6).abd 0,0,none⟩) 3 3) (.slice (some ⟨(q10 13).abd 0,0,none⟩) 3 3) ([x2,x1,x0]) ([M,B,R]) (by simp) rfl (vM h2 h1 h0 Om)) (bO (λ_ h=>ap.sq h) (bO (λ_ h=>ap.sq h) (λ_ h=>h))))),]) (λ_=>[(6,i6 ((eu ([x2,x1,x0]) ([M,B,R]) ([M,B,R]).length:Nat):Int)),(7,i6 0)]) [6,7] (λq10 L=>L++[bP (.slice (some ⟨(q10 6).abd 0,0,none⟩) 3 3) ([x2,x1,x0]),bP (.slice (some ⟨(q10 13).abd 0,0,none⟩) 3 3) ([M,B,R])]) λq10=>?_))))
 exact am (.tuple #[i6 ((eu ([x2,x1,x0]) ([M,B,R]) ([M,B,R]).length:Nat):Int),i6 0]) ab.zero bh [] [] []
theorem QI(R S B M C:Nat)(hG:f9 R S B M C)(x0 x1 x2:Nat)(h0:x0<R)(h1:x1<B)(h2:x2<M):aa jg 121 #[.agg #[iN R,iN S,iN B,iN M,iN C],i6 1,i6 ((x0*16384+x1*1024+x2:Nat):Int)] [] [] N0 (λ_=> .tuple #[i6 ((mt 1 R B M x0 x1 x2:Nat):Int),i6 0]):=by
 have hB:=hG.bd
 have hr:=hB.r8
 have hb1:=hB.b16
 have hm1:=hB.m10
 have hc1:=hB.c1
 have hrb:=hB.rbm
 have e1:M*B*R=R*B*M:=by rw[ir (R*B),ir R,←eF]
 have e2:R*M*B=R*B*M:=by rw[eF,ir M,←eF]
 have hmx:fP B x2 x1<B:=qC hG.pow h1
 have hin:gZ R S B M C x0 x1 x2 0:=⟨by omega,h1,h2,by omega⟩
 refine fG Tryz.func121 λw cs=>?_
 refine ra (λq1=>[(3,pt (B0 q1) 0),(6,i6 0),(7,i6 0)]) (λq1=>[ob (B0 q1) #[iN R,iN S,iN B,iN M,iN C] 23]) λq1=>r0 [(0,.m (ls 0 ([iN R,iN S,iN B,iN M,iN C]))),(2,.c [] [] (nQ R S B M C hG 1 Om)),] [(21,.bool ((decide (((x0*16384+x1*1024+x2:Nat):Int)<0))||(decide (131072≤((x0*16384+x1*1024+x2:Nat):Int)))))] [] ?_
 have h3:((decide (((x0*16384+x1*1024+x2:Nat):Int)<0))||(decide (131072≤((x0*16384+x1*1024+x2:Nat):Int))))=false:=(by rw[dZ];exact⟨bj Om,bj Om⟩)
 refine cF ((decide (((x0*16384+x1*1024+x2:Nat):Int)<0))||(decide (131072≤((x0*16384+x1*1024+x2:Nat):Int)))) h3 (rr (λ_=>[(0,.l 0),(2,.t (tv (ar .shl 3 (.tmp 24) (.const (u6 6)) (i6 ((x0*16384+x1*1024+x2:Nat):Int)) (u6 6)) (λ_=>dU (b:=((bJ x0 x1 x2 0:Nat):Int)) (gb 6 Dc Om Om) (by unfold bJ;omega)))),(3,.c [] [] (s8 hG hin)),(8,.s 1)]) (λq4=>[(8,pt (B7 q4) 0),(9,i6 0)]) [] (λq4 L=>L++[ob (B7 q4) #[iN x0,iN x1,iN x2,i6 0] 46]) λq4=>r0 [(4,.l 1),(6,.l 0)] [(37,.bool (decide ((R:Int)≤(x0:Int))))] [] ?_)
 have h6:(decide ((R:Int)≤(x0:Int)))=false:=bj Om
 refine cF (decide ((R:Int)≤(x0:Int))) h6 (rF [] 39 (r0 [] [(50,i6 1)] [] (rF [] 51 (rT [] 68 (rr (λq11=>[(1,.m (ld 1 (iN x1))),(3,.m (ld 1 (iN x2))),(5,.m (ld 1 (iN x0))),(6,ip cu 2 3 [x1,x2,x0]),(8,.m (ld 0 (iN B))),(10,.m (ld 0 (iN M))),(12,.m (ld 0 (iN R))),(13,ip cu 3 3 [B,M,R]),(14,.c [2,3] [] (aa.at (rd':=[bP (.slice (some ⟨(q11 6).abd 0,0,none⟩) 3 3) ([x1,x2,x0]),bP (.slice (some ⟨(q11 13).abd 0,0,none⟩) 3 3) ([B,M,R])]) (vO (.slice (some ⟨(q11 6).abd 0,0,none⟩) 3 3) (.slice (some ⟨(q11 13).abd 0,0,none⟩) 3 3) ([x1,x2,x0]) ([B,M,R]) (by simp) rfl (vM h1 h2 h0 Om)) (bO (λ_ h=>ap.sq h) (bO (λ_ h=>ap.sq h) (λ_ h=>h))))),]) (λ_=>[(6,i6 ((eu ([x1,x2,x0]) ([B,M,R]) ([B,M,R]).length:Nat):Int)),(7,i6 0)]) [6,7] (λq11 L=>L++[bP (.slice (some ⟨(q11 6).abd 0,0,none⟩) 3 3) ([x1,x2,x0]),bP (.slice (some ⟨(q11 13).abd 0,0,none⟩) 3 3) ([B,M,R])]) λq11=>?_)))))
 exact am (.tuple #[i6 ((eu ([x1,x2,x0]) ([B,M,R]) ([B,M,R]).length:Nat):Int),i6 0]) ab.zero bh [] [] []
theorem QJ(R S B M C:Nat)(hG:f9 R S B M C)(x0 x1 x2:Nat)(h0:x0<R)(h1:x1<B)(h2:x2<M):aa jg 121 #[.agg #[iN R,iN S,iN B,iN M,iN C],i6 2,i6 ((x0*16384+x1*1024+x2:Nat):Int)] [] [] N0 (λ_=> .tuple #[i6 ((mt 2 R B M x0 x1 x2:Nat):Int),i6 0]):=by
 have hB:=hG.bd
 have hr:=hB.r8
 have hb1:=hB.b16
 have hm1:=hB.m10
 have hc1:=hB.c1
 have hrb:=hB.rbm
 have e1:M*B*R=R*B*M:=by rw[ir (R*B),ir R,←eF]
 have e2:R*M*B=R*B*M:=by rw[eF,ir M,←eF]
 have hmx:fP B x2 x1<B:=qC hG.pow h1
 have hin:gZ R S B M C x0 x1 x2 0:=⟨by omega,h1,h2,by omega⟩
 refine fG Tryz.func121 λw cs=>?_
 refine ra (λq1=>[(3,pt (B0 q1) 0),(6,i6 0),(7,i6 0)]) (λq1=>[ob (B0 q1) #[iN R,iN S,iN B,iN M,iN C] 23]) λq1=>r0 [(0,.m (ls 0 ([iN R,iN S,iN B,iN M,iN C]))),(2,.c [] [] (nQ R S B M C hG 2 Om)),] [(21,.bool ((decide (((x0*16384+x1*1024+x2:Nat):Int)<0))||(decide (131072≤((x0*16384+x1*1024+x2:Nat):Int)))))] [] ?_
 have h3:((decide (((x0*16384+x1*1024+x2:Nat):Int)<0))||(decide (131072≤((x0*16384+x1*1024+x2:Nat):Int))))=false:=(by rw[dZ];exact⟨bj Om,bj Om⟩)
 refine cF ((decide (((x0*16384+x1*1024+x2:Nat):Int)<0))||(decide (131072≤((x0*16384+x1*1024+x2:Nat):Int)))) h3 (rr (λ_=>[(0,.l 0),(2,.t (tv (ar .shl 3 (.tmp 24) (.const (u6 6)) (i6 ((x0*16384+x1*1024+x2:Nat):Int)) (u6 6)) (λ_=>dU (b:=((bJ x0 x1 x2 0:Nat):Int)) (gb 6 Dc Om Om) (by unfold bJ;omega)))),(3,.c [] [] (s8 hG hin)),(8,.s 1)]) (λq4=>[(8,pt (B7 q4) 0),(9,i6 0)]) [] (λq4 L=>L++[ob (B7 q4) #[iN x0,iN x1,iN x2,i6 0] 46]) λq4=>r0 [(4,.l 1),(6,.l 0)] [(37,.bool (decide ((R:Int)≤(x0:Int))))] [] ?_)
 have h6:(decide ((R:Int)≤(x0:Int)))=false:=bj Om
 refine cF (decide ((R:Int)≤(x0:Int))) h6 (rF [] 39 (r0 [] [(50,i6 2)] [] (rF [] 51 (rF [] 68 (rr (λq11=>[(1,.m (ld 1 (iN x0))),(3,.m (ld 1 (iN x1))),(5,.m (ld 1 (iN x2))),(6,ip cu 2 3 [x0,x1,x2]),(8,.m (ld 0 (iN R))),(10,.m (ld 0 (iN B))),(12,.m (ld 0 (iN M))),(13,ip cu 3 3 [R,B,M]),(14,.c [2,3] [] (aa.at (rd':=[bP (.slice (some ⟨(q11 6).abd 0,0,none⟩) 3 3) ([x0,x1,x2]),bP (.slice (some ⟨(q11 13).abd 0,0,none⟩) 3 3) ([R,B,M])]) (vO (.slice (some ⟨(q11 6).abd 0,0,none⟩) 3 3) (.slice (some ⟨(q11 13).abd 0,0,none⟩) 3 3) ([x0,x1,x2]) ([R,B,M]) (by simp) rfl (vM h0 h1 h2 Om)) (bO (λ_ h=>ap.sq h) (bO (λ_ h=>ap.sq h) (λ_ h=>h))))),]) (λ_=>[(6,i6 ((eu ([x0,x1,x2]) ([R,B,M]) ([R,B,M]).length:Nat):Int)),(7,i6 0)]) [6,7] (λq11 L=>L++[bP (.slice (some ⟨(q11 6).abd 0,0,none⟩) 3 3) ([x0,x1,x2]),bP (.slice (some ⟨(q11 13).abd 0,0,none⟩) 3 3) ([R,B,M])]) λq11=>?_)))))
 exact am (.tuple #[i6 ((eu ([x0,x1,x2]) ([R,B,M]) ([R,B,M]).length:Nat):Int),i6 0]) ab.zero bh [] [] []
theorem QK(R S B M C:Nat)(hG:f9 R S B M C)(x0 x1 x2:Nat)(h0:x0<R)(h1:x1<B)(h2:x2<M):aa jg 121 #[.agg #[iN R,iN S,iN B,iN M,iN C],i6 3,i6 ((x0*16384+x1*1024+x2:Nat):Int)] [] [] N0 (λ_=> .tuple #[i6 ((mt 3 R B M x0 x1 x2:Nat):Int),i6 0]):=by
 have hB:=hG.bd
 have hr:=hB.r8
 have hb1:=hB.b16
 have hm1:=hB.m10
 have hc1:=hB.c1
 have hrb:=hB.rbm
 have e1:M*B*R=R*B*M:=by rw[ir (R*B),ir R,←eF]
 have e2:R*M*B=R*B*M:=by rw[eF,ir M,←eF]
 have hmx:fP B x2 x1<B:=qC hG.pow h1
 have hin:gZ R S B M C x0 x1 x2 0:=⟨by omega,h1,h2,by omega⟩
 refine fG Tryz.func121 λw cs=>?_
 refine ra (λq1=>[(3,pt (B0 q1) 0),(6,i6 0),(7,i6 0)]) (λq1=>[ob (B0 q1) #[iN R,iN S,iN B,iN M,iN C] 23]) λq1=>r0 [(0,.m (ls 0 ([iN R,iN S,iN B,iN M,iN C]))),(2,.c [] [] (nQ R S B M C hG 3 Om)),] [(21,.bool ((decide (((x0*16384+x1*1024+x2:Nat):Int)<0))||(decide (131072≤((x0*16384+x1*1024+x2:Nat):Int)))))] [] ?_
 have h3:((decide (((x0*16384+x1*1024+x2:Nat):Int)<0))||(decide (131072≤((x0*16384+x1*1024+x2:Nat):Int))))=false:=(by rw[dZ];exact⟨bj Om,bj Om⟩)
 refine cF ((decide (((x0*16384+x1*1024+x2:Nat):Int)<0))||(decide (131072≤((x0*16384+x1*1024+x2:Nat):Int)))) h3 (rr (λ_=>[(0,.l 0),(2,.t (tv (ar .shl 3 (.tmp 24) (.const (u6 6)) (i6 ((x0*16384+x1*1024+x2:Nat):Int)) (u6 6)) (λ_=>dU (b:=((bJ x0 x1 x2 0:Nat):Int)) (gb 6 Dc Om Om) (by unfold bJ;omega)))),(3,.c [] [] (s8 hG hin)),(8,.s 1)]) (λq4=>[(8,pt (B7 q4) 0),(9,i6 0)]) [] (λq4 L=>L++[ob (B7 q4) #[iN x0,iN x1,iN x2,i6 0] 46]) λq4=>r0 [(4,.l 1),(6,.l 0)] [(37,.bool (decide ((R:Int)≤(x0:Int))))] [] ?_)
 have h6:(decide ((R:Int)≤(x0:Int)))=false:=bj Om
 refine cF (decide ((R:Int)≤(x0:Int))) h6 (rT [] 39 ?_)
 have q3:x2&&& (B-1)≤B-1:=na
 refine rs [(1,.l 1),(3,.l 1),(5,.l 0),(6,.t (tb (a:=iN B) (b:=i6 1) λ_ _ _ _=>mo (a:=B) (b:=1) Om Om)),(7,.t (tv (ar .and 3 (.tmp 43) (.tmp 46) (iN x2) (i6 ((B-1:Nat):Int))) (λ_=>E9 _ (B-1) Om Om))),(8,.t (tv (ar .xor 3 (.tmp 41) (.tmp 47) (iN x1) (i6 ((x2&&& (B-1):Nat):Int))) (λ_=>Fb _ _ Om Om))),(10,.s 1)] 1 (ob (B7 q4) #[iN x0,i6 ((fP B x2 x1:Nat):Int),iN x2,i6 0] 46) (r0 [] [(50,i6 3)] [] (rF [] 51 (rF [] 68 (rr (λq12=>[(1,.m (ld 1 (iN x0))),(3,.m (ld 1 (i6 ((fP B x2 x1:Nat):Int)))),(5,.m (ld 1 (iN x2))),(6,ip cu 2 3 [x0,fP B x2 x1,x2]),(8,.m (ld 0 (iN R))),(10,.m (ld 0 (iN B))),(12,.m (ld 0 (iN M))),(13,ip cu 3 3 [R,B,M]),(14,.c [2,3] [] (aa.at (rd':=[bP (.slice (some ⟨(q12 6).abd 0,0,none⟩) 3 3) ([x0,fP B x2 x1,x2]),bP (.slice (some ⟨(q12 13).abd 0,0,none⟩) 3 3) ([R,B,M])]) (vO (.slice (some ⟨(q12 6).abd 0,0,none⟩) 3 3) (.slice (some ⟨(q12 13).abd 0,0,none⟩) 3 3) ([x0,fP B x2 x1,x2]) ([R,B,M]) (by simp) rfl (vM h0 hmx h2 Om)) (bO (λ_ h=>ap.sq h) (bO (λ_ h=>ap.sq h) (λ_ h=>h))))),]) (λ_=>[(6,i6 ((eu ([x0,fP B x2 x1,x2]) ([R,B,M]) ([R,B,M]).length:Nat):Int)),(7,i6 0)]) [6,7] (λq12 L=>L++[bP (.slice (some ⟨(q12 6).abd 0,0,none⟩) 3 3) ([x0,fP B x2 x1,x2]),bP (.slice (some ⟨(q12 13).abd 0,0,none⟩) 3 3) ([R,B,M])]) λq12=>?_))))
 exact am (.tuple #[i6 ((eu ([x0,fP B x2 x1,x2]) ([R,B,M]) ([R,B,M]).length:Nat):Int),i6 0]) ab.zero bh [] [] []
theorem QL(R S B M C:Nat)(hG:f9 R S B M C)(way:Nat)(hw:way<4)(x0 x1 x2:Nat)(h0:x0<R)(h1:x1<B)(h2:x2<M):aa jg 121 #[.agg #[iN R,iN S,iN B,iN M,iN C],iN way,i6 ((x0*16384+x1*1024+x2:Nat):Int)] [] [] N0 (λ_=> .tuple #[i6 ((mt way R B M x0 x1 x2:Nat):Int),i6 0]):=by
 match way with
 | 0=>exact QH R S B M C hG x0 x1 x2 h0 h1 h2
 | 1=>exact QI R S B M C hG x0 x1 x2 h0 h1 h2
 | 2=>exact QJ R S B M C hG x0 x1 x2 h0 h1 h2
 | 3=>exact QK R S B M C hG x0 x1 x2 h0 h1 h2
 | w+4=>exact absurd hw Om
theorem QM{i n:Int}(h:bQ i n=false)(h0:0≤i):n≤i:=by
 unfold bQ at h
 simp only[Bool.and_eq_false_iff,decide_eq_false_iff_not] at h
 omega
structure iP (R S B M C way res:Nat):Prop where
 abc:f9 R S B M C
 way:way<4
 r64:res≤64
 rp:res<R*B*M
structure Mp where
 R:Nat
 S:Nat
 B:Nat
 M:Nat
 C:Nat
 way:Nat
 res:Nat
 aa3:List Nat
 aa4:List Bool
 aa5:List Int
 aba:Nat
 abb:Nat
abbrev Mp.seen(m:Mp):Nat:=m.R*m.B*m.M-m.res
structure eC (m:Mp):Prop where
 ly:iP m.R m.S m.B m.M m.C m.way m.res
 ll:m.aa3.length=m.R*m.B*m.M-m.res
 ld:m.aa4.length=m.R*m.B*m.M
 ls:m.aa5.length=m.R
 pg:m.aba≤m.res
 rk:m.abb≤m.S
 lv: ∀i,i<m.R*m.B*m.M-m.res→m.aa3.getD i 0<m.R*m.B*m.M
 sp: ∀i,i<m.R→m.aa5.getD i 0= -1∨((m.R:Int)≤m.aa5.getD i 0∧m.aa5.getD i 0<((m.R+m.S:Nat):Int))
abbrev aG(g:Nat)(m:Mp)(L:ah):Prop:=∃v1 v2 v3:Value,L=[ob g #[iN m.R,iN m.S,iN m.B,iN m.M,iN m.C,iN m.way,iN m.res,v1,v2,v3,iN m.aba,iN m.abb] 137,bP v1 m.aa3,fj v2 m.aa4,dy v3 m.aa5]
def dM(m:Mp)(r:Nat):Bool:= !(m.aa5.getD r 0== -1)
def kT(m:Mp)(r:Nat):Int:=bif dM m r then m.aa5.getD r 0 else 0
def gO(m:Mp)(p:Nat):Nat:=bif dM m (aF m.way m.R m.B m.M p) then(m.aa5.getD (aF m.way m.R m.B m.M p) 0).toNat else aF m.way m.R m.B m.M p
def bD(m:Mp)(p:Nat):Nat:=gO m p*16384+ed m.way m.R m.B m.M p*1024+ec m.way m.R m.B m.M p
section
variable {m:Mp}
theorem eC.abc(h:eC m):f9 m.R m.S m.B m.M m.C:=h.ly.abc
theorem eC.np(h:eC m):m.R*m.B*m.M≤4096:=h.abc.bd.rbm
theorem eC.lines(h:eC m):(m.R*m.B*m.M-m.res)*m.C≤4096:=Nat.le_trans (Nat.mul_le_mul_right _ (Nat.sub_le _ _)) h.abc.bd.rbmc
theorem QN(h:eC m)(p:Nat):gO m p<m.R+m.S:=by
 have h1:=nP (p:=p) (way:=m.way) h.abc
 unfold gO
 cases hc:dM m (aF m.way m.R m.B m.M p) with
 | false=>rw[ALcf];omega
 | true=>
  rw[ALct]
  unfold dM at hc
  have hc:m.aa5.getD (aF m.way m.R m.B m.M p) 0≠ -1:=by simpa using hc
  have:=(h.sp _ h1).resolve_left hc
  omega
theorem qD(h:eC m){p:Nat}(hp:p<m.R*m.B*m.M):gZ m.R m.S m.B m.M m.C (gO m p) (ed m.way m.R m.B m.M p) (ec m.way m.R m.B m.M p) 0:=by
 have h1:=pG (way:=m.way) h.abc hp
 exact⟨QN h p,h1.h1,h1.h2,h1.h3⟩
theorem QO(h:eC m){p:Nat}(hc:dM m (aF m.way m.R m.B m.M p)=true):(iu m.way m.R m.B m.M p:Int)+(kT m (aF m.way m.R m.B m.M p)-(aF m.way m.R m.B m.M p:Int))*2^14=(bD m p:Int):=by
 have h1:=nP (p:=p) (way:=m.way) h.abc
 have h2:=hc
 unfold dM at h2
 have h2:m.aa5.getD (aF m.way m.R m.B m.M p) 0≠ -1:=by simpa using h2
 have h3:=(h.sp _ h1).resolve_left h2
 unfold bD gO kT
 rw[hc,ALct,ALct,zy]
 have h4:((m.aa5.getD (aF m.way m.R m.B m.M p) 0).toNat:Int)=m.aa5.getD (aF m.way m.R m.B m.M p) 0:=Int.toNat_of_nonneg Om
 omega
theorem QP{p:Nat}(hc:dM m (aF m.way m.R m.B m.M p)=false):iu m.way m.R m.B m.M p=bD m p:=by
 unfold bD gO
 rw[hc,ALcf,zy]
theorem QQ(h:eC m){r:Nat}(hr:r<m.R):0≤kT m r∧kT m r<((m.R+m.S:Nat):Int):=by
 unfold kT
 cases hc:dM m r with
 | false=>rw[ALcf];omega
 | true=>
  unfold dM at hc
  have hc:m.aa5.getD r 0≠ -1:=by simpa using hc
  have:=(h.sp _ hr).resolve_left hc
  rw[ALct];omega
theorem Ff(h:eC m){p:Nat}(hp:p<m.R*m.B*m.M):iu m.way m.R m.B m.M p/16384=aF m.way m.R m.B m.M p:=by
 have h1:=pG (way:=m.way) h.abc hp
 have h3:=h.abc.bd.b16;have h4:=h.abc.bd.m10
 have:=h1.h1;have:=h1.h2
 rw[zy];omega
theorem vP(h:eC m){p:Nat}(hp:p<m.R*m.B*m.M):bD m p<131072:=by
 have h1:=qD h hp
 have h2:=h.abc.bd.r8;have h3:=h.abc.bd.b16;have h4:=h.abc.bd.m10
 have:=h1.h0;have:=h1.h1;have:=h1.h2
 unfold bD;omega
theorem zB(h:eC m){n:Nat}(hn:n<(m.R*m.B*m.M-m.res)*m.C):n/m.C<m.R*m.B*m.M-m.res:=Nat.div_lt_of_lt_mul (by rw[ir m.C];exact hn)
def ao(m:Mp)(n:Nat):Nat:=m.aa3.getD (n/m.C) 0
def cQ(m:Mp)(n:Nat):Nat:=bD m (ao m n)*64+n%m.C
theorem nR(h:eC m){n:Nat}(hn:n<(m.R*m.B*m.M-m.res)*m.C):ao m n<m.R*m.B*m.M:=h.lv _ (zB h hn)
end
def dD(m:Mp):Bool:= !decide (m.aba=m.res)
def eh(m:Mp):Bool:= !decide (m.abb=m.S)
def dN(m:Mp):Nat:=if m.aba=m.res then 0 else m.seen+m.aba
def ft(m:Mp):Nat:=if m.abb=m.S then 0 else m.R+m.abb
def dG(l:List Nat)(h t k:Nat):List Nat:=((l.take k).map λx=>if x=h then t else x)++l.drop k
theorem Fg(l:List Nat)(h t k:Nat):(dG l h t k).length=l.length:=by unfold dG;rw[List.length_append,jw,jm,List.length_drop];omega
theorem QR{l:List Nat}{h t k:Nat}(hk:k<l.length):(dG l h t k).getD k 0=l.getD k 0:=by
 unfold dG
 rw[jh,List.getElem?_append_right (by rw[jw,jm];omega),jw,jm,List.getElem?_drop,jh]
 congr 2;omega
theorem QS(l:List Nat)(h t:Nat):dG l h t 0=l:=by unfold dG;simp
theorem QT(l:List Nat)(h t:Nat):dG l h t l.length=l.map λx=>if x=h then t else x:=by unfold dG;simp
theorem Fh{l:List Nat}{h t k:Nat}(hk:k<l.length):dG l h t (k+1)=((l.take k).map λx=>if x=h then t else x)++(if l.getD k 0=h then t else l.getD k 0)::l.drop (k+1):=by
 unfold dG
 rw[List.take_add_one,ka hk,List.map_append,List.append_assoc,jh,ka hk]
 rfl
theorem QU{l:List Nat}{h t k:Nat}(hk:k<l.length)(e:l.getD k 0=h):(dG l h t k).set k t=dG l h t (k+1):=by
 rw[Fh hk,ALifp e]
 unfold dG
 rw[kP hk,List.set_append_right _ _ (by rw[jw,jm];omega),jw,jm,show k-min k l.length=0 by omega]
 rfl
theorem QV{l:List Nat}{h t k:Nat}(hk:k<l.length)(e:l.getD k 0≠h):dG l h t k=dG l h t (k+1):=by
 rw[Fh hk,ALifn e]
 unfold dG
 rw[kP hk,jh,ka hk]
 rfl
theorem QW{l:List Nat}{h t k:Nat}(hk:k<l.length):(bif (((dG l h t k).getD k 0:Nat):Int)==(h:Int) then(dG l h t k).set k t else dG l h t k)=dG l h t (k+1):=by
 rw[QR hk]
 by_cases e:l.getD k 0=h
 ·rw[show(((l.getD k 0:Nat):Int)==(h:Int))=true by rw[e];exact beq_self_eq_true _,ALct,QU hk e]
 ·rw[show(((l.getD k 0:Nat):Int)==(h:Int))=false by rw[dp];omega,ALcf,QV hk e]
def qE(m:Mp):Mp:={m with aba:=m.aba+1}
def qF(m:Mp):Mp:={m with abb:=m.abb+1}
def ky(m:Mp)(h t:Nat):Mp:={m with aa4:=m.aa4.set h true,aa3:=dG m.aa3 h t m.aa3.length}
def jz(m:Mp)(r s:Nat):Mp:={m with aa5:=m.aa5.set r (s:Int)}
def lO(R S B M C way res:Nat):Mp:=⟨R,S,B,M,C,way,res,List.range (R*B*M-res),nN (R*B*M) false,nN R (-1),0,0⟩
end Go.Proofs.YtbcodenfkijdnaaGreat.E
namespace Go.Proofs.YtbcodenfkijdnaaGreat.E
open Go Go.RowKit Go.Shelf
open Go.Proofs.Tryz renaming prog→dZ
open List renaming replicate→eF,range→ir
open Nat renaming mul_le_mul_right→jg,mod_lt→jh,div_lt_of_lt_mul→jm,mul_comm→jw
theorem vQ(i n:Int):aa dZ 58 #[i6 i,i6 n] [] [] N0 (λ_=> .bool (bQ i n)):=by
 refine fG Tryz.func58 λw cs=>?_
 refine r0 [] [(4,.bool false)] [] (r0 [] [(4,.bool ((decide (0≤i))&&(decide (i<n))))] [4] ?_)
 exact am (.bool ((decide (0≤i))&&(decide (i<n)))) ab.zero bh [] [] []
theorem Fi(R S B M C way res:Nat)(hly:iP R S B M C way res):aa dZ 106 #[.agg #[iN R,iN S,iN B,iN M,iN C,iN way,iN res]] [] [] N0 (λ_=> .bool true):=by
 have hG:=hly.abc
 have hrp:=hly.rp
 have hnp:=hG.bd.rbm
 have hway:=hly.way
 have hr64:=hly.r64
 refine fG Tryz.func106 λw cs=>?_
 refine ra (λq1=>[(1,pt (B0 q1) 0),(2,.bool false)]) (λq1=>[ob (B0 q1) #[iN R,iN S,iN B,iN M,iN C,iN way,iN res] 25]) λq1=>r0 [(1,.m (ls 0 ([iN R,iN S,iN B,iN M,iN C]))),(3,.m (ld 0 (iN way))),(4,.c [] [] (nQ R S B M C hG way Om)),(7,.m (ld 0 (iN res))),(12,.m (ld 0 (iN res))),(17,.m (ld 0 (iN res))),(19,.m (ls 0 ([iN R,iN S,iN B,iN M,iN C]))),(20,.c [] [] (mU R S B M C hG)),] [(2,.bool (((decide (0≤(res:Int)))&&(decide ((res:Int)≤64)))&&(decide ((res:Int)<(((R*B)*M:Nat):Int)))))] [2] ?_
 exact am (.bool (((decide (0≤(res:Int)))&&(decide ((res:Int)≤64)))&&(decide ((res:Int)<(((R*B)*M:Nat):Int))))) ab.zero (by exact ALca Value.bool (by simp only[Bool.and_eq_true,decide_eq_true_eq,true_and];omega)) [] [] []
theorem qG(R S B M C way res:Nat)(hly:iP R S B M C way res):aa dZ 76 #[.agg #[iN R,iN S,iN B,iN M,iN C,iN way,iN res]] [] [] N0 (λ_=>i6 ((((R*B)*M)-res:Nat):Int)):=by
 have hG:=hly.abc
 have hrp:=hly.rp
 have hnp:=hG.bd.rbm
 have hway:=hly.way
 have hr64:=hly.r64
 refine fG Tryz.func76 λw cs=>?_
 exact ra (λq1=>[(1,pt (B0 q1) 0),(2,i6 0)]) (λq1=>[ob (B0 q1) #[iN R,iN S,iN B,iN M,iN C,iN way,iN res] 25]) λq1=>rF [(0,.l 0),(1,.c [] [] (Fi R S B M C way res hly))] 5 (r0 [(1,.l 0),(2,.c [] [] (mU R S B M C hG)),(4,.l 0),(5,.t (tb (a:=i6 (((R*B)*M:Nat):Int)) (b:=iN res) λ_ _ _ _=>mo (a:=(R*B)*M) (b:=res) Om Om))] [(2,i6 ((((R*B)*M)-res:Nat):Int))] [2] (lf ab.zero [] [] []))
theorem zC(R S B M C way res:Nat)(hly:iP R S B M C way res):aa dZ 39 #[.agg #[iN R,iN S,iN B,iN M,iN C,iN way,iN res]] [] [] N0 (λ_=>i6 (((((R*B)*M)-res)*C:Nat):Int)):=by
 have hG:=hly.abc
 have hrp:=hly.rp
 have hnp:=hG.bd.rbm
 have hway:=hly.way
 have hr64:=hly.r64
 have h1:=Nat.le_trans (jg C (Nat.sub_le (R*B*M) res)) hG.bd.rbmc
 refine fG Tryz.func39 λw cs=>?_
 exact ra (λq1=>[(1,pt (B0 q1) 0),(2,i6 0)]) (λq1=>[ob (B0 q1) #[iN R,iN S,iN B,iN M,iN C,iN way,iN res] 25]) λq1=>r0 [(0,.l 0),(1,.c [] [] (qG R S B M C way res hly)),(4,.l 0),(5,ml (((R*B)*M)-res) C)] [(2,i6 (((((R*B)*M)-res)*C:Nat):Int))] [2] (lf ab.zero [] [] [])
theorem jA(g:Nat)(m:Mp)(hm:eC m):aa dZ 63 #[pt g 0] [pk (aG g m)] [0] (λ_=>[pk (aG g m)]) (λ_=> .agg #[iN m.R,iN m.S,iN m.B,iN m.M,iN m.C,iN m.way,iN m.res]):=aa.pkZ Tryz.func63 λL hL=>by
 obtain⟨v1,v2,v3,rfl⟩:=hL
 refine⟨[1,2,3],λ_=>[bP v1 m.aa3,fj v2 m.aa4,dy v3 m.aa5],?_,rfl,λE=>⟨rfl,rfl,⟨_,_,_,rfl⟩⟩⟩
 have hG:=hm.abc
 have hly:=hm.ly
 have hnp:=hm.np
 have hll:=hm.ll
 have hld:=hm.ld
 have hls:=hm.ls
 have hpg:=hm.pg
 have hrk:=hm.rk
 have hrp:=hly.rp
 have hr8:=hG.bd.r8
 refine fG Tryz.func63 λw cs=>?_
 exact ra (λq1=>[(2,pt (B0 q1) 0)]) (λq1=>[ob (B0 q1) #[i6 0,i6 0,i6 0,i6 0,i6 0,i6 0,i6 0] 25]) λq1=>rs [(3,.l 0),(4,.s 4)] 4 (ob (B0 q1) #[iN m.R,iN m.S,iN m.B,iN m.M,iN m.C,iN m.way,iN m.res] 25) (lf ab.zero [1,2,3] [(0,0)] [4])
theorem pH(i n:Nat)(h:i<n):aa dZ 58 #[iN i,iN n] [] [] N0 (λ_=> .bool true):=by
 have h1:=vQ i n
 rwa [mq.2 ⟨by omega,by omega⟩] at h1
theorem zE(g:Nat)(m:Mp)(hm:eC m)(p:Nat)(hp:p<m.R*m.B*m.M):aa dZ 25 #[pt g 0,iN p] [pk (aG g m)] [0] (λ_=>[pk (aG g m)]) (λ_=> .bool (m.aa4.getD p false)):=aa.pkZ Tryz.func25 λL hL=>by
 obtain⟨v1,v2,v3,rfl⟩:=hL
 refine⟨[1,2,3],λ_=>[bP v1 m.aa3,fj v2 m.aa4,dy v3 m.aa5],?_,rfl,λE=>⟨rfl,rfl,⟨_,_,_,rfl⟩⟩⟩
 have hG:=hm.abc
 have hly:=hm.ly
 have hnp:=hm.np
 have hll:=hm.ll
 have hld:=hm.ld
 have hls:=hm.ls
 have hpg:=hm.pg
 have hrk:=hm.rk
 have hrp:=hly.rp
 have hr8:=hG.bd.r8
 refine fG Tryz.func25 λw cs=>?_
 exact r0 [] [(4,.bool false)] [] (r0 [(4,.m (ld 0 (v2))),(5,fC kS v2 m.aa4 2),(6,.c [] [] (pH p m.aa4.length Om)),(11,.m (ld 0 (v2))),(13,cU kS v2 m.aa4 2 p),(14,fg kS v2 m.aa4 2 p 0)] [(4,.bool (m.aa4.getD p false))] [4] (lf ab.zero [1,2,3] [(0,0)] []))
theorem QX(g:Nat)(m:Mp)(hm:eC m)(p:Nat)(hp:p<m.R*m.B*m.M):aa dZ 86 #[pt g 0,iN p] [pk (aG g m)] [0] (λ_=>[pk (aG g m)]) (λ_=> .bool (decide (p<m.R*m.B*m.M-m.res+m.aba)&& !m.aa4.getD p false)):=aa.pkZ Tryz.func86 λL hL=>by
 obtain⟨v1,v2,v3,rfl⟩:=hL
 refine⟨[1,2,3],λ_=>[bP v1 m.aa3,fj v2 m.aa4,dy v3 m.aa5],?_,rfl,λE=>⟨rfl,rfl,⟨_,_,_,rfl⟩⟩⟩
 have hG:=hm.abc
 have hly:=hm.ly
 have hnp:=hm.np
 have hll:=hm.ll
 have hld:=hm.ld
 have hls:=hm.ls
 have hpg:=hm.pg
 have hrk:=hm.rk
 have hrp:=hly.rp
 have hr8:=hG.bd.r8
 refine fG Tryz.func86 λw cs=>?_
 refine r0 [] [(4,.bool false)] [] ?_
 cases h2:(bQ (p:Int) (((((m.R*m.B)*m.M)-m.res)+m.aba:Nat):Int))
 case true=>
  refine r0 [(4,.m (ls 0 ([iN m.R,iN m.S,iN m.B,iN m.M,iN m.C,iN m.way,iN m.res]))),(5,.c [] [] (qG m.R m.S m.B m.M m.C m.way m.res hly)),(9,.m (ld 0 (iN m.aba))),(10,ad (((m.R*m.B)*m.M)-m.res) m.aba),(11,.c [] [] (aa.v ((vQ (p:Int) (((((m.R*m.B)*m.M)-m.res)+m.aba:Nat):Int))) λ_=>ALca Value.bool (show(bQ (p:Int) (((((m.R*m.B)*m.M)-m.res)+m.aba:Nat):Int))=true from h2))),(16,.m (ld 0 (v2))),(18,cU kS v2 m.aa4 2 p),(19,fg kS v2 m.aa4 2 p 0),] [(4,.bool (!(m.aa4.getD p false)))] [4] ?_
  exact am (.bool (!(m.aa4.getD p false))) ab.zero (by(rw[cC (by have:=mq.1 h2;omega)];rfl)) [1,2,3] [(0,0)] []
 refine r0 [(4,.m (ls 0 ([iN m.R,iN m.S,iN m.B,iN m.M,iN m.C,iN m.way,iN m.res]))),(5,.c [] [] (qG m.R m.S m.B m.M m.C m.way m.res hly)),(9,.m (ld 0 (iN m.aba))),(10,ad (((m.R*m.B)*m.M)-m.res) m.aba),(11,.c [] [] (aa.v ((vQ (p:Int) (((((m.R*m.B)*m.M)-m.res)+m.aba:Nat):Int))) λ_=>ALca Value.bool (show(bQ (p:Int) (((((m.R*m.B)*m.M)-m.res)+m.aba:Nat):Int))=false from h2))),(13,.d),(14,.d),(15,.d),(16,.d),(17,.d),(18,.d),(19,.d),(20,.d)] [(4,.bool false)] [4] ?_
 exact am (.bool false) ab.zero (by(rw[bj (by have:=QM h2 Om;omega)];rfl)) [1,2,3] [(0,0)] []
theorem Fj(g:Nat)(m:Mp)(hm:eC m)(v1 v2 v3:Value)(r:Nat)(hr:r<m.R):aa dZ 26 #[pt g 0,iN r] [ob g #[iN m.R,iN m.S,iN m.B,iN m.M,iN m.C,iN m.way,iN m.res,v1,v2,v3,iN m.aba,iN m.abb] 137,bP v1 m.aa3,fj v2 m.aa4,dy v3 m.aa5] [1,2,3] (λ_=>[bP v1 m.aa3,fj v2 m.aa4,dy v3 m.aa5]) (λ_=> .tuple #[i6 (kT m r),.bool (dM m r)]):=by
 have hG:=hm.abc
 have hly:=hm.ly
 have hnp:=hm.np
 have hll:=hm.ll
 have hld:=hm.ld
 have hls:=hm.ls
 have hpg:=hm.pg
 have hrk:=hm.rk
 have hrp:=hly.rp
 have hr8:=hG.bd.r8
 refine fG Tryz.func26 λw cs=>?_
 refine r0 [] [(4,i6 0),(5,.bool false)] [] (r0 [(4,.m (ld 0 (v3))),(5,fC kI v3 m.aa5 3),(6,.c [] [] (pH r m.aa5.length Om)),(12,.m (ld 0 (v3))),(14,cU kI v3 m.aa5 3 r),(15,fg kI v3 m.aa5 3 r 0)] [(23,.bool ((m.aa5.getD r 0)==(-1)))] [] ?_)
 refine cZ (m.aa5.getD r 0) (-1) (λh3 dh3=>?_) λh3 dh3=>?_
 ·refine r0 [] [(4,i6 0),(5,.bool false)] [4,5] ?_
  exact am (.tuple #[i6 0,.bool false]) ab.zero (by unfold kT dM;(repeat (rw[h3]));rfl) [1,2,3] [(0,0)] []
 refine r0 [(3,.l 0),(5,cU kI v3 m.aa5 3 r),(6,fg kI v3 m.aa5 3 r 0)] [(4,i6 (m.aa5.getD r 0)),(5,.bool true)] [4,5] ?_
 exact am (.tuple #[i6 (m.aa5.getD r 0),.bool true]) ab.zero (by unfold kT dM;(repeat (rw[h3]));rfl) [1,2,3] [(0,0)] []
theorem Fk(g:Nat)(m:Mp)(hm:eC m)(r:Nat)(hr:r<m.R):aa dZ 26 #[pt g 0,iN r] [pk (aG g m)] [0] (λ_=>[pk (aG g m)]) (λ_=> .tuple #[i6 (kT m r),.bool (dM m r)]):=aa.pkZ Tryz.func26 λL hL=>by
 obtain⟨v1,v2,v3,rfl⟩:=hL
 exact⟨[1,2,3],λ_=>[bP v1 m.aa3,fj v2 m.aa4,dy v3 m.aa5],Fj g m hm v1 v2 v3 r hr,rfl,λE=>⟨rfl,rfl,⟨_,_,_,rfl⟩⟩⟩
theorem Fl(g:Nat)(m:Mp)(hm:eC m)(v1 v2 v3:Value)(p:Nat)(hp:p<m.R*m.B*m.M):aa dZ 99 #[pt g 0,iN p] [ob g #[iN m.R,iN m.S,iN m.B,iN m.M,iN m.C,iN m.way,iN m.res,v1,v2,v3,iN m.aba,iN m.abb] 137,bP v1 m.aa3,fj v2 m.aa4,dy v3 m.aa5] [1,2,3] (λ_=>[bP v1 m.aa3,fj v2 m.aa4,dy v3 m.aa5]) (λ_=> .tuple #[i6 ((bD m p:Nat):Int),i6 ((aF m.way m.R m.B m.M p:Nat):Int),i6 0]):=by
 have hG:=hm.abc
 have hly:=hm.ly
 have hnp:=hm.np
 have hll:=hm.ll
 have hld:=hm.ld
 have hls:=hm.ls
 have hpg:=hm.pg
 have hrk:=hm.rk
 have hrp:=hly.rp
 have hr8:=hG.bd.r8
 have hway:=hly.way
 have hx:=QB (way:=m.way) hG hp
 have hxr:=Ff hm hp
 have hrr:=nP (p:=p) (way:=m.way) hG
 have hsb:=QQ hm hrr
 have hlb:=vP hm hp
 refine fG Tryz.func99 λw cs=>?_
 refine r0 [] [(4,i6 0),(5,i6 0),(6,i6 0)] [] (r0 [(4,.m (ls 0 ([iN m.R,iN m.S,iN m.B,iN m.M,iN m.C]))),(9,.m (ld 0 (iN m.way))),(11,.c [] [] (Fd m.R m.S m.B m.M m.C hG m.way Om p Om)),] [(7,i6 ((iu m.way m.R m.B m.M p:Nat):Int)),(6,i6 0)] [6] (rF [] 26 (r0 [(1,.t (tv (ar .shr 3 (.tmp 28) (.const (u6 14)) (i6 ((iu m.way m.R m.B m.M p:Nat):Int)) (u6 14)) (λ_=>dU (b:=((aF m.way m.R m.B m.M p:Nat):Int)) (i8 14 Dc) Om)))] [(5,i6 ((aF m.way m.R m.B m.M p:Nat):Int))] [5] (r0 [(2,.c [0,1,2,3] [1,2,3] (Fj g m hm v1 v2 v3 (aF m.way m.R m.B m.M p) Om))] [(8,i6 (kT m (aF m.way m.R m.B m.M p))),(9,.bool (dM m (aF m.way m.R m.B m.M p)))] [] (r0 [] [(36,.bool (dM m (aF m.way m.R m.B m.M p)))] [] ?_)))))
 refine cB (dM m (aF m.way m.R m.B m.M p)) (λh7=>?_) λh7=>?_
 ·have hh:=QO hm h7
  refine r0 [(3,sI (kT m (aF m.way m.R m.B m.M p)) (((aF m.way m.R m.B m.M p:Nat):Int)) Om),(4,.t (tv (ar .shl 3 (.tmp 40) (.const (u6 14)) (i6 ((kT m (aF m.way m.R m.B m.M p))-((aF m.way m.R m.B m.M p:Nat):Int))) (u6 14)) (λ_=>gb 14 Dc Om Om))),(5,.t (tv (ar .add 3 (.tmp 37) (.tmp 41) (i6 ((iu m.way m.R m.B m.M p:Nat):Int)) (i6 ((kT m (aF m.way m.R m.B m.M p)-(aF m.way m.R m.B m.M p:Int))*2^14))) (λ_=>dU (rv Om Om) hh)))] [(7,i6 ((bD m p:Nat):Int))] [7] (r0 [] [(4,i6 ((bD m p:Nat):Int)),(5,i6 ((aF m.way m.R m.B m.M p:Nat):Int)),(6,i6 0)] [4,5,6] ?_)
  exact am (.tuple #[i6 ((bD m p:Nat):Int),i6 ((aF m.way m.R m.B m.M p:Nat):Int),i6 0]) ab.zero bh [1,2,3] [(0,0)] []
 refine r0 [] [(4,i6 ((iu m.way m.R m.B m.M p:Nat):Int)),(5,i6 ((aF m.way m.R m.B m.M p:Nat):Int)),(6,i6 0)] [4,5,6] ?_
 exact am (.tuple #[i6 ((iu m.way m.R m.B m.M p:Nat):Int),i6 ((aF m.way m.R m.B m.M p:Nat):Int),i6 0]) ab.zero (by(rw[QP h7])) [1,2,3] [(0,0)] []
theorem Fm(g:Nat)(m:Mp)(hm:eC m)(p:Nat)(hp:p<m.R*m.B*m.M):aa dZ 64 #[pt g 0,iN p] [pk (aG g m)] [0] (λ_=>[pk (aG g m)]) (λ_=> .tuple #[i6 ((bD m p:Nat):Int),i6 0]):=aa.pkZ Tryz.func64 λL hL=>by
 obtain⟨v1,v2,v3,rfl⟩:=hL
 refine⟨[1,2,3],λ_=>[bP v1 m.aa3,fj v2 m.aa4,dy v3 m.aa5],?_,rfl,λE=>⟨rfl,rfl,⟨_,_,_,rfl⟩⟩⟩
 have hG:=hm.abc
 have hly:=hm.ly
 have hnp:=hm.np
 have hll:=hm.ll
 have hld:=hm.ld
 have hls:=hm.ls
 have hpg:=hm.pg
 have hrk:=hm.rk
 have hrp:=hly.rp
 have hr8:=hG.bd.r8
 refine fG Tryz.func64 λw cs=>?_
 exact r0 [] [(4,i6 0),(5,i6 0)] [] (r0 [(2,.c [0,1,2,3] [1,2,3] (Fl g m hm v1 v2 v3 p Om))] [(6,i6 ((bD m p:Nat):Int)),(8,i6 0)] [] (r0 [] [(4,i6 ((bD m p:Nat):Int)),(5,i6 0)] [4,5] (lf ab.zero [1,2,3] [(0,0)] [])))
theorem zF(g:Nat)(m:Mp)(hm:eC m)(n:Nat)(hn:n<(m.R*m.B*m.M-m.res)*m.C):aa dZ 220 #[pt g 0,iN n] [pk (aG g m)] [0] (λ_=>[pk (aG g m)]) (λ_=> .tuple #[i6 ((cQ m n:Nat):Int),i6 ((ao m n:Nat):Int),i6 ((aF m.way m.R m.B m.M (ao m n):Nat):Int),i6 0]):=aa.pkZ Tryz.func220 λL hL=>by
 obtain⟨v1,v2,v3,rfl⟩:=hL
 refine⟨[1,2,3],λ_=>[bP v1 m.aa3,fj v2 m.aa4,dy v3 m.aa5],?_,rfl,λE=>⟨rfl,rfl,⟨_,_,_,rfl⟩⟩⟩
 have hG:=hm.abc
 have hly:=hm.ly
 have hnp:=hm.np
 have hll:=hm.ll
 have hld:=hm.ld
 have hls:=hm.ls
 have hpg:=hm.pg
 have hrk:=hm.rk
 have hrp:=hly.rp
 have hr8:=hG.bd.r8
 have hnl:=hm.lines
 have hc1:=hG.bd.c1
 have hc64:=hG.bd.c64
 have hq:=zB hm hn
 have hh:m.aa3.getD (n/m.C) 0<m.R*m.B*m.M:=nR hm hn
 have hlb:=vP hm hh
 have hmod:=jh n hc1
 refine fG Tryz.func220 λw cs=>?_
 refine r0 [] [(4,i6 0),(5,i6 0),(6,i6 0),(7,i6 0)] [] (rF [(4,.l 0),(5,.c [] [] (zC m.R m.S m.B m.M m.C m.way m.res hly)),(6,.c [] [] (pH n ((((m.R*m.B)*m.M)-m.res)*m.C) Om))] 16 (r0 [(3,.m (ld 0 (v1))),(10,.m (ld 0 (iN m.C))),(11,.t (tb (a:=iN n) (b:=iN m.C) λ_ _ _ _=>o8 (a:=n) (d:=m.C) Om Om)),(12,cU cu v1 m.aa3 1 (n/m.C)),(13,fg cu v1 m.aa3 1 (n/m.C) 0)] [(5,i6 (((m.aa3.getD (n/m.C) 0):Nat):Int))] [5] (r0 [(2,.c [0,1,2,3] [1,2,3] (Fl g m hm v1 v2 v3 (m.aa3.getD (n/m.C) 0) Om))] [(8,i6 ((bD m (m.aa3.getD (n/m.C) 0):Nat):Int)),(6,i6 ((aF m.way m.R m.B m.M (m.aa3.getD (n/m.C) 0):Nat):Int)),(7,i6 0)] [6,7] (rF [] 39 (r0 [(1,.t (tv (ar .shl 3 (.tmp 41) (.const (u6 6)) (i6 ((bD m (m.aa3.getD (n/m.C) 0):Nat):Int)) (u6 6)) (λ_=>dU (b:=((bD m (m.aa3.getD (n/m.C) 0)*64:Nat):Int)) (gb 6 Dc Om Om) Om))),(8,.m (ld 0 (iN m.C))),(9,.t (tb (a:=iN n) (b:=iN m.C) λ_ _ _ _=>om (a:=n) (d:=m.C) Om)),(10,.t (tv (ar .or 3 (.tmp 42) (.tmp 50) (i6 ((bD m (m.aa3.getD (n/m.C) 0)*64:Nat):Int)) (i6 ((n%m.C:Nat):Int))) (λ_=>dU (b:=((cQ m n:Nat):Int)) (sr 6 64 rfl Om Om Om Om Om) (by unfold cQ ao;omega)))),] [(4,i6 ((cQ m n:Nat):Int)),(5,i6 (((m.aa3.getD (n/m.C) 0):Nat):Int)),(6,i6 ((aF m.way m.R m.B m.M (m.aa3.getD (n/m.C) 0):Nat):Int)),(7,i6 0)] [4,5,6,7] ?_)))))
 exact am (.tuple #[i6 ((cQ m n:Nat):Int),i6 (((m.aa3.getD (n/m.C) 0):Nat):Int),i6 ((aF m.way m.R m.B m.M (m.aa3.getD (n/m.C) 0):Nat):Int),i6 0]) ab.zero bh [1,2,3] [(0,0)] []
theorem QY(g:Nat)(m:Mp)(hm:eC m)(n:Int)(hn:bQ n (((m.R*m.B*m.M-m.res)*m.C:Nat):Int)=false):aa dZ 220 #[pt g 0,i6 n] [pk (aG g m)] [0] (λ_=>[pk (aG g m)]) (λ_=> .tuple #[i6 0,i6 0,i6 0,i6 12]):=aa.pkZ Tryz.func220 λL hL=>by
 obtain⟨v1,v2,v3,rfl⟩:=hL
 refine⟨[1,2,3],λ_=>[bP v1 m.aa3,fj v2 m.aa4,dy v3 m.aa5],?_,rfl,λE=>⟨rfl,rfl,⟨_,_,_,rfl⟩⟩⟩
 have hG:=hm.abc
 have hly:=hm.ly
 have hnp:=hm.np
 have hll:=hm.ll
 have hld:=hm.ld
 have hls:=hm.ls
 have hpg:=hm.pg
 have hrk:=hm.rk
 have hrp:=hly.rp
 have hr8:=hG.bd.r8
 have hnl:=hm.lines
 refine fG Tryz.func220 λw cs=>?_
 exact r0 [] [(4,i6 0),(5,i6 0),(6,i6 0),(7,i6 0)] [] (rT [(4,.l 0),(5,.c [] [] (zC m.R m.S m.B m.M m.C m.way m.res hly)),(6,.c [] [] (aa.v ((vQ n (((((m.R*m.B)*m.M)-m.res)*m.C:Nat):Int))) λ_=>ALca Value.bool (show(bQ n (((((m.R*m.B)*m.M)-m.res)*m.C:Nat):Int))=false from(by exact hn))))] 16 (r0 [] [(4,i6 0),(5,i6 0),(6,i6 0),(7,i6 12)] [4,5,6,7] (lf ab.zero [1,2,3] [(0,0)] [])))
theorem zG(g:Nat)(m:Mp)(hm:eC m)(v1 v2 v3:Value):aa dZ 264 #[pt g 0] [ob g #[iN m.R,iN m.S,iN m.B,iN m.M,iN m.C,iN m.way,iN m.res,v1,v2,v3,iN m.aba,iN m.abb] 137,bP v1 m.aa3,fj v2 m.aa4,dy v3 m.aa5] [1,2,3] (λ_=>[bP v1 m.aa3,fj v2 m.aa4,dy v3 m.aa5]) (λ_=> .tuple #[i6 ((dN m:Nat):Int),.bool (dD m)]):=by
 have hG:=hm.abc
 have hly:=hm.ly
 have hnp:=hm.np
 have hll:=hm.ll
 have hld:=hm.ld
 have hls:=hm.ls
 have hpg:=hm.pg
 have hrk:=hm.rk
 have hrp:=hly.rp
 have hr8:=hG.bd.r8
 refine fG Tryz.func264 λw cs=>?_
 refine r0 [] [(2,i6 0),(3,.bool false)] [] (r0 [(3,.l 0),(8,.l 0)] [(13,.bool ((m.aba:Int)==(m.res:Int)))] [] ?_)
 refine cZ (m.aba:Int) (m.res:Int) (λh3 dh3=>?_) λh3 dh3=>?_
 ·refine r0 [] [(2,i6 0),(3,.bool false)] [2,3] ?_
  exact am (.tuple #[i6 0,.bool false]) ab.zero (by by_cases hc:m.aba=m.res<;>first | (exfalso;omega) | (simp [dN,dD,hc])) [1,2,3] [(0,0)] []
 refine r0 [(3,.m (ls 0 ([iN m.R,iN m.S,iN m.B,iN m.M,iN m.C,iN m.way,iN m.res]))),(4,.c [] [] (qG m.R m.S m.B m.M m.C m.way m.res hly)),(8,.m (ld 0 (iN m.aba))),(9,ad (((m.R*m.B)*m.M)-m.res) m.aba),] [(2,i6 (((((m.R*m.B)*m.M)-m.res)+m.aba:Nat):Int)),(3,.bool true)] [2,3] ?_
 exact am (.tuple #[i6 (((((m.R*m.B)*m.M)-m.res)+m.aba:Nat):Int),.bool true]) ab.zero (by by_cases hc:m.aba=m.res<;>first | (exfalso;omega) | (simp [dN,dD,hc])) [1,2,3] [(0,0)] []
theorem QZ(g:Nat)(m:Mp)(hm:eC m):aa dZ 264 #[pt g 0] [pk (aG g m)] [0] (λ_=>[pk (aG g m)]) (λ_=> .tuple #[i6 ((dN m:Nat):Int),.bool (dD m)]):=aa.pkZ Tryz.func264 λL hL=>by
 obtain⟨v1,v2,v3,rfl⟩:=hL
 exact⟨[1,2,3],λ_=>[bP v1 m.aa3,fj v2 m.aa4,dy v3 m.aa5],zG g m hm v1 v2 v3,rfl,λE=>⟨rfl,rfl,⟨_,_,_,rfl⟩⟩⟩
theorem Fn(g:Nat)(m:Mp)(hm:eC m)(v1 v2 v3:Value):aa dZ 281 #[pt g 0] [ob g #[iN m.R,iN m.S,iN m.B,iN m.M,iN m.C,iN m.way,iN m.res,v1,v2,v3,iN m.aba,iN m.abb] 137,bP v1 m.aa3,fj v2 m.aa4,dy v3 m.aa5] [1,2,3] (λ_=>[bP v1 m.aa3,fj v2 m.aa4,dy v3 m.aa5]) (λ_=> .tuple #[i6 ((ft m:Nat):Int),.bool (eh m)]):=by
 have hG:=hm.abc
 have hly:=hm.ly
 have hnp:=hm.np
 have hll:=hm.ll
 have hld:=hm.ld
 have hls:=hm.ls
 have hpg:=hm.pg
 have hrk:=hm.rk
 have hrp:=hly.rp
 have hr8:=hG.bd.r8
 refine fG Tryz.func281 λw cs=>?_
 refine r0 [] [(2,i6 0),(3,.bool false)] [] (r0 [(3,.l 0),(9,.l 0)] [(14,.bool ((m.abb:Int)==(m.S:Int)))] [] ?_)
 refine cZ (m.abb:Int) (m.S:Int) (λh3 dh3=>?_) λh3 dh3=>?_
 ·refine r0 [] [(2,i6 0),(3,.bool false)] [2,3] ?_
  exact am (.tuple #[i6 0,.bool false]) ab.zero (by by_cases hc:m.abb=m.S<;>first | (exfalso;omega) | (simp [ft,eh,hc])) [1,2,3] [(0,0)] []
 refine r0 [(5,.m (ld 0 (iN m.R))),(9,.m (ld 0 (iN m.abb))),(10,ad m.R m.abb),] [(2,i6 ((m.R+m.abb:Nat):Int)),(3,.bool true)] [2,3] ?_
 exact am (.tuple #[i6 ((m.R+m.abb:Nat):Int),.bool true]) ab.zero (by by_cases hc:m.abb=m.S<;>first | (exfalso;omega) | (simp [ft,eh,hc])) [1,2,3] [(0,0)] []
theorem Q3(g:Nat)(m:Mp)(hm:eC m)(hf1:dD m=true):aa dZ 265 #[pt g 0] [pk (aG g m)] [0] (λ_=>[pk (aG g (qE m))]) (λ_=> .tuple #[i6 ((dN m:Nat):Int),i6 0]):=aa.pkZ Tryz.func265 λL hL=>by
 obtain⟨v1,v2,v3,rfl⟩:=hL
 refine⟨[0,1,2,3],λ_=>[ob g #[iN m.R,iN m.S,iN m.B,iN m.M,iN m.C,iN m.way,iN m.res,v1,v2,v3,i6 ((m.aba+1:Nat):Int),iN m.abb] 137,bP v1 m.aa3,fj v2 m.aa4,dy v3 m.aa5],?_,rfl,λE=>⟨rfl,rfl,⟨_,_,_,rfl⟩⟩⟩
 have hG:=hm.abc
 have hly:=hm.ly
 have hnp:=hm.np
 have hll:=hm.ll
 have hld:=hm.ld
 have hls:=hm.ls
 have hpg:=hm.pg
 have hrk:=hm.rk
 have hrp:=hly.rp
 have hr8:=hG.bd.r8
 refine fG Tryz.func265 λw cs=>?_
 refine r0 [] [(2,i6 0),(3,i6 0)] [] (r0 [(1,.c [0,1,2,3] [1,2,3] (zG g m hm v1 v2 v3))] [(4,i6 ((dN m:Nat):Int)),(5,.bool (dD m))] [] (r0 [] [(12,.bool (!(dD m)))] [] ?_))
 have h4:(!(dD m))=false:=(by rw[hf1];rfl)
 exact cF (!(dD m)) h4 (rs [(3,.l 0),(4,ad m.aba 1),(7,.s 0)] 0 (ob g #[iN m.R,iN m.S,iN m.B,iN m.M,iN m.C,iN m.way,iN m.res,v1,v2,v3,i6 ((m.aba+1:Nat):Int),iN m.abb] 137) (r0 [] [(2,i6 ((dN m:Nat):Int)),(3,i6 0)] [2,3] (lf ab.zero [0,1,2,3] [] [])))
theorem Q4(g:Nat)(m:Mp)(hm:eC m)(hf1:dD m=false):aa dZ 265 #[pt g 0] [pk (aG g m)] [0] (λ_=>[pk (aG g m)]) (λ_=> .tuple #[i6 0,i6 52]):=aa.pkZ Tryz.func265 λL hL=>by
 obtain⟨v1,v2,v3,rfl⟩:=hL
 refine⟨[1,2,3],λ_=>[bP v1 m.aa3,fj v2 m.aa4,dy v3 m.aa5],?_,rfl,λE=>⟨rfl,rfl,⟨_,_,_,rfl⟩⟩⟩
 have hG:=hm.abc
 have hly:=hm.ly
 have hnp:=hm.np
 have hll:=hm.ll
 have hld:=hm.ld
 have hls:=hm.ls
 have hpg:=hm.pg
 have hrk:=hm.rk
 have hrp:=hly.rp
 have hr8:=hG.bd.r8
 refine fG Tryz.func265 λw cs=>?_
 refine r0 [] [(2,i6 0),(3,i6 0)] [] (r0 [(1,.c [0,1,2,3] [1,2,3] (zG g m hm v1 v2 v3))] [(4,i6 ((dN m:Nat):Int)),(5,.bool (dD m))] [] (r0 [] [(12,.bool (!(dD m)))] [] ?_))
 have h4:(!(dD m))=true:=(by rw[hf1];rfl)
 exact cT (!(dD m)) h4 (r0 [] [(2,i6 0),(3,i6 52)] [2,3] (lf ab.zero [1,2,3] [(0,0)] []))
theorem Q5(g:Nat)(m:Mp)(hm:eC m)(hf1:eh m=true):aa dZ 266 #[pt g 0] [pk (aG g m)] [0] (λ_=>[pk (aG g (qF m))]) (λ_=> .tuple #[i6 ((ft m:Nat):Int),i6 0]):=aa.pkZ Tryz.func266 λL hL=>by
 obtain⟨v1,v2,v3,rfl⟩:=hL
 refine⟨[0,1,2,3],λ_=>[ob g #[iN m.R,iN m.S,iN m.B,iN m.M,iN m.C,iN m.way,iN m.res,v1,v2,v3,iN m.aba,i6 ((m.abb+1:Nat):Int)] 137,bP v1 m.aa3,fj v2 m.aa4,dy v3 m.aa5],?_,rfl,λE=>⟨rfl,rfl,⟨_,_,_,rfl⟩⟩⟩
 have hG:=hm.abc
 have hly:=hm.ly
 have hnp:=hm.np
 have hll:=hm.ll
 have hld:=hm.ld
 have hls:=hm.ls
 have hpg:=hm.pg
 have hrk:=hm.rk
 have hrp:=hly.rp
 have hr8:=hG.bd.r8
 refine fG Tryz.func266 λw cs=>?_
 refine r0 [] [(2,i6 0),(3,i6 0)] [] (r0 [(1,.c [0,1,2,3] [1,2,3] (Fn g m hm v1 v2 v3))] [(4,i6 ((ft m:Nat):Int)),(5,.bool (eh m))] [] (r0 [] [(12,.bool (!(eh m)))] [] ?_))
 have h4:(!(eh m))=false:=(by rw[hf1];rfl)
 exact cF (!(eh m)) h4 (rs [(3,.l 0),(4,ad m.abb 1),(7,.s 0)] 0 (ob g #[iN m.R,iN m.S,iN m.B,iN m.M,iN m.C,iN m.way,iN m.res,v1,v2,v3,iN m.aba,i6 ((m.abb+1:Nat):Int)] 137) (r0 [] [(2,i6 ((ft m:Nat):Int)),(3,i6 0)] [2,3] (lf ab.zero [0,1,2,3] [] [])))
theorem Q6(g:Nat)(m:Mp)(hm:eC m)(hf1:eh m=false):aa dZ 266 #[pt g 0] [pk (aG g m)] [0] (λ_=>[pk (aG g m)]) (λ_=> .tuple #[i6 0,i6 52]):=aa.pkZ Tryz.func266 λL hL=>by
 obtain⟨v1,v2,v3,rfl⟩:=hL
 refine⟨[1,2,3],λ_=>[bP v1 m.aa3,fj v2 m.aa4,dy v3 m.aa5],?_,rfl,λE=>⟨rfl,rfl,⟨_,_,_,rfl⟩⟩⟩
 have hG:=hm.abc
 have hly:=hm.ly
 have hnp:=hm.np
 have hll:=hm.ll
 have hld:=hm.ld
 have hls:=hm.ls
 have hpg:=hm.pg
 have hrk:=hm.rk
 have hrp:=hly.rp
 have hr8:=hG.bd.r8
 refine fG Tryz.func266 λw cs=>?_
 refine r0 [] [(2,i6 0),(3,i6 0)] [] (r0 [(1,.c [0,1,2,3] [1,2,3] (Fn g m hm v1 v2 v3))] [(4,i6 ((ft m:Nat):Int)),(5,.bool (eh m))] [] (r0 [] [(12,.bool (!(eh m)))] [] ?_))
 have h4:(!(eh m))=true:=(by rw[hf1];rfl)
 exact cT (!(eh m)) h4 (r0 [] [(2,i6 0),(3,i6 52)] [2,3] (lf ab.zero [1,2,3] [(0,0)] []))
theorem Q7(g:Nat)(m:Mp)(hm:eC m)(h t:Nat)(hh:h<m.R*m.B*m.M)(ht0:m.R*m.B*m.M-m.res≤t)(ht1:t<m.R*m.B*m.M-m.res+m.aba)(hd:m.aa4.getD h false=false)(hdt:m.aa4.getD t false=false)(hne:h≠t):aa dZ 245 #[pt g 0,iN h,iN t] [pk (aG g m)] [0] (λ_=>[pk (aG g (ky m h t))]) (λ_=>i6 0):=aa.pkZ Tryz.func245 λL hL=>by
 obtain⟨v1,v2,v3,rfl⟩:=hL
 refine⟨[1,2,3],λ_=>[bP v1 (dG m.aa3 h t m.aa3.length),fj v2 (m.aa4.set h true),dy v3 m.aa5],?_,rfl,λE=>⟨rfl,rfl,⟨_,_,_,rfl⟩⟩⟩
 have hG:=hm.abc
 have hly:=hm.ly
 have hnp:=hm.np
 have hll:=hm.ll
 have hld:=hm.ld
 have hls:=hm.ls
 have hpg:=hm.pg
 have hrk:=hm.rk
 have hrp:=hly.rp
 have hr8:=hG.bd.r8
 refine fG Tryz.func245 λw cs=>?_
 refine r0 [] [(6,i6 0)] [] (rF [(4,.m (ld 0 (v2))),(5,fC kS v2 m.aa4 2),(6,.c [] [] (pH h m.aa4.length Om)),(13,.m (ls 0 ([iN m.R,iN m.S,iN m.B,iN m.M,iN m.C,iN m.way,iN m.res]))),(14,.c [] [] (qG m.R m.S m.B m.M m.C m.way m.res hly)),(15,.t (tb (a:=iN t) (b:=i6 ((((m.R*m.B)*m.M)-m.res:Nat):Int)) λ_ _ _ _=>mo (a:=t) (b:=((m.R*m.B)*m.M)-m.res) Om Om)),(19,.m (ld 0 (iN m.aba))),(20,.c [] [] (pH (t-(((m.R*m.B)*m.M)-m.res)) m.aba Om)),] 9 (r0 [(3,.m (ld 0 (v2))),(5,cU kS v2 m.aa4 2 h),(6,fg kS v2 m.aa4 2 h 0),(11,.m (ld 0 (v2))),(13,cU kS v2 m.aa4 2 t),(14,fg kS v2 m.aa4 2 t 0),] [(33,.bool (((m.aa4.getD h false)||(m.aa4.getD t false))||((h:Int)==(t:Int))))] [] ?_))
 have h4:(((m.aa4.getD h false)||(m.aa4.getD t false))||((h:Int)==(t:Int)))=false:=by rw[hd,hdt];simpa using(show(h:Int)≠(t:Int) by omega)
 refine cF (((m.aa4.getD h false)||(m.aa4.getD t false))||((h:Int)==(t:Int))) h4 (rs [(3,.l 0),(5,cU kS v2 m.aa4 2 h),(6,sj kS v2 m.aa4 2 h 0 true (.bool true) Kr)] 2 (fj v2 (m.aa4.set h true)) (r0 [(3,.l 0),(4,fC cu v1 m.aa3 1)] [(64,v1),(65,iN m.aa3.length),(66,i6 0)] [] ?_))
 refine lq (λk=>k≤m.aa3.length) (λk=>[(66,iN k)]) (λk L=>L.set 1 (bP v1 (dG m.aa3 h t k))) (λk=>m.aa3.length-k) 0 Om Kr (by rw[QS];kernel_rfl) (λk hk7=>?_)
 have hrl:=Fg m.aa3 h t k
 refine r0 [] [(67,.bool (decide ((k:Int)<(m.aa3.length:Int))))] [] ?_
 refine cj (k:Int) (m.aa3.length:Int) (λh9 dh9=>?_) λh9 dh9=>?_
 ·refine r0 [(1,cU cu v1 (dG m.aa3 h t k) 1 k),(2,fg cu v1 (dG m.aa3 h t k) 1 k 0)] [(7,iN k),(8,i6 ((((dG m.aa3 h t k).getD k 0):Nat):Int))] [] ?_
  refine r0 [] [(73,.bool (((((dG m.aa3 h t k).getD k 0):Nat):Int)==(h:Int)))] [] ?_
  refine cJ (((((dG m.aa3 h t k).getD k 0):Nat):Int)==(h:Int)) N0 (λc=>[ob g #[iN m.R,iN m.S,iN m.B,iN m.M,iN m.C,iN m.way,iN m.res,v1,v2,v3,iN m.aba,iN m.abb] 137,bP v1 (bif c then(dG m.aa3 h t k).set k t else dG m.aa3 h t k),fj v2 (m.aa4.set h true),dy v3 m.aa5]) (λh12=>?_) (λh12=>?_) ?_
  ·have dh12:=eq_of_beq h12
   refine rs [(3,.l 0),(6,cU cu v1 (dG m.aa3 h t k) 1 k),(7,sj cu v1 (dG m.aa3 h t k) 1 k 0 t (iN t) Kr)] 1 (bP v1 ((dG m.aa3 h t k).set k t)) ?_
   exact cm Kr [0,1,2,3] Kr
  ·have dh12:=ne_of_beq_false h12
   exact cm Kr [0,1,2,3] Kr
  refine r0 [(0,ad k 1)] [(66,i6 ((k+1:Nat):Int))] [66] ?_
  exact le (k+1) Om Om Kr [0,1,2,3] (by rw[←QW Om];kernel_rfl)
 obtain rfl:m.aa3.length=k:=by omega
 refine lx ?_
 exact r0 [] [(6,i6 0)] [6] (lf ab.zero [1,2,3] [(0,0)] [])
theorem Q8(g:Nat)(m:Mp)(hm:eC m)(r t:Nat)(hr:r<m.R)(ht0:m.R≤t)(ht1:t<m.R+m.abb)(hs:dM m r=false):aa dZ 246 #[pt g 0,iN r,iN t] [pk (aG g m)] [0] (λ_=>[pk (aG g (jz m r t))]) (λ_=>i6 0):=aa.pkZ Tryz.func246 λL hL=>by
 obtain⟨v1,v2,v3,rfl⟩:=hL
 refine⟨[1,2,3],λ_=>[bP v1 m.aa3,fj v2 m.aa4,dy v3 (m.aa5.set r (t:Int))],?_,rfl,λE=>⟨rfl,rfl,⟨_,_,_,rfl⟩⟩⟩
 have hG:=hm.abc
 have hly:=hm.ly
 have hnp:=hm.np
 have hll:=hm.ll
 have hld:=hm.ld
 have hls:=hm.ls
 have hpg:=hm.pg
 have hrk:=hm.rk
 have hrp:=hly.rp
 have hr8:=hG.bd.r8
 refine fG Tryz.func246 λw cs=>?_
 refine r0 [] [(6,i6 0)] [] (rF [(4,.m (ld 0 (v3))),(5,fC kI v3 m.aa5 3),(6,.c [] [] (pH r m.aa5.length Om)),(15,.m (ld 0 (iN m.R))),(16,.t (tb (a:=iN t) (b:=iN m.R) λ_ _ _ _=>mo (a:=t) (b:=m.R) Om Om)),(20,.m (ld 0 (iN m.abb))),(21,.c [] [] (pH (t-m.R) m.abb Om)),] 7 (r0 [(3,.l 0),(5,cU kI v3 m.aa5 3 r),(6,fg kI v3 m.aa5 3 r 0)] [(32,.bool ((m.aa5.getD r 0) != (-1)))] [] ?_))
 have h4:((m.aa5.getD r 0) != (-1))=false:=by exact hs
 exact cF ((m.aa5.getD r 0) != (-1)) h4 (rs [(3,.l 0),(6,cU kI v3 m.aa5 3 r),(7,sj kI v3 m.aa5 3 r 0 (t:Int) (iN t) Kr)] 3 (dy v3 (m.aa5.set r (t:Int))) (r0 [] [(6,i6 0)] [6] (lf ab.zero [1,2,3] [(0,0)] [])))
theorem Q9(R S B M C way res:Nat)(hly:iP R S B M C way res):aa dZ 175 #[.agg #[iN R,iN S,iN B,iN M,iN C,iN way,iN res]] [] [] (λE=>[ob (E.abd 0) #[iN R,iN S,iN B,iN M,iN C,iN way,iN res,(E.val 0),(E.val 1),(E.val 2),i6 0,i6 0] 137,bP (E.val 0) (ir (R*B*M-res)),fj (E.val 1) (eF ((R*B)*M) false),dy (E.val 2) (eF R (-1))]) (λE=> .tuple #[pt ((E.abd 0)) 0,i6 0]):=by
 have hG:=hly.abc
 have hrp:=hly.rp
 have hnp:=hG.bd.rbm
 have hway:=hly.way
 have hr64:=hly.r64
 have hlines:=hG.bd.r8
 refine fG Tryz.func175 λw cs=>?_
 refine ra (λq1=>[(1,pt (B0 q1) 0),(2,.pointer none),(3,i6 0)]) (λq1=>[ob (B0 q1) #[iN R,iN S,iN B,iN M,iN C,iN way,iN res] 25]) λq1=>rF [(0,.l 0),(1,.c [] [] (Fi R S B M C way res hly))] 8 (rr (λ_=>[(0,.l 0),(2,.l 0),(3,.c [] [] (mU R S B M C hG)),(4,su kS 1 ((R*B)*M))]) (λq3=>[(4,pt (B6 q3) 0)]) [] (λq3 L=>L++[fj (.slice (some ⟨(q3 4).abd 0,0,none⟩) ((R*B)*M) ((R*B)*M)) (eF ((R*B)*M) false),ob (B6 q3) #[iN R,iN S,iN B,iN M,iN C,iN way,iN res,.slice none 0 0,.slice (some ⟨(q3 4).abd 0,0,none⟩) ((R*B)*M) ((R*B)*M),.slice none 0 0,i6 0,i6 0] 137]) λq3=>r0 [(0,.l 0),(1,.c [] [] (qG R S B M C way res hly))] [(17,i6 ((((R*B)*M)-res:Nat):Int)),(18,i6 0)] [] ?_)
 refine cz cu ?_
 refine mN (λk _=>k≤(R*B*M-res)) (λk _=>[(18,iN k)]) (λk vC4_7 L=>(L.set 2 (ob (B6 q3) #[iN R,iN S,iN B,iN M,iN C,iN way,iN res,vC4_7,.slice (some ⟨(q3 4).abd 0,0,none⟩) ((R*B)*M) ((R*B)*M),.slice none 0 0,i6 0,i6 0] 137)).set 3 (bP vC4_7 (ir k))) (λk _=>(R*B*M-res)-k) 0 (.slice none 0 0) Om Kr Kr (λk vC4_7 hk5=>?_)
 have hkl:(ir k).length=k:=List.length_range
 refine r0 [] [(19,.bool (decide ((k:Int)<((((R*B)*M)-res:Nat):Int))))] [] ?_
 refine cj (k:Int) ((((R*B)*M)-res:Nat):Int) (λh7 dh7=>?_) λh7 dh7=>?_
 ·refine r0 [] [(5,iN k)] [] ?_
  refine rr (λq9=>[(4,.l 2),(6,.m (bs 4 1)),(7,fD cu (vC4_7) (ir k) 3 4 ([k])),(10,.m (fZ 2 3 (bP ((q9 7).val 0) ((ir k)++([k]))) ((q9 7).val 0) λbs h=>ap.one ((λ_ h=>h) bs h)))]) N0 [] (λq9 L=>(L.set 2 (ob (B6 q3) #[iN R,iN S,iN B,iN M,iN C,iN way,iN res,(q9 7).val 0,.slice (some ⟨(q3 4).abd 0,0,none⟩) ((R*B)*M) ((R*B)*M),.slice none 0 0,i6 0,i6 0] 137)).set 3 (bP ((q9 7).val 0) ((ir k)++([k])))++[ob (B6 q9) #[iN k] 3]) λq9=>r0 [(0,ad k 1)] [(18,i6 ((k+1:Nat):Int))] [18] ?_
  exact lE (k+1) ((q9 7).val 0) Om Om Kr [0,1,2,3] (by rw[List.range_succ];kernel_rfl)
 obtain rfl:k=(R*B*M-res):=by omega
 refine lF ?_
 refine r0 [(2,.l 0)] [(34,iN R),(35,i6 0)] [] ?_
 refine cz kI ?_
 refine mN (λj _=>j≤R) (λj _=>[(35,iN j)]) (λj vC4_9 L=>(L.set 2 (ob (B6 q3) #[iN R,iN S,iN B,iN M,iN C,iN way,iN res,vC4_7,.slice (some ⟨(q3 4).abd 0,0,none⟩) ((R*B)*M) ((R*B)*M),vC4_9,i6 0,i6 0] 137)).set 4 (dy vC4_9 (eF j (-1)))) (λj _=>R-j) 0 (.slice none 0 0) Om Kr Kr (λj vC4_9 hk12=>?_)
 have hjl:(eF j (-1:Int)).length=j:=List.length_replicate
 refine r0 [] [(36,.bool (decide ((j:Int)<(R:Int))))] [] ?_
 refine cj (j:Int) (R:Int) (λh14 dh14=>?_) λh14 dh14=>?_
 ·refine rr (λq15=>[(4,.l 2),(5,.m (bs 5 1)),(6,fD kI (vC4_9) (eF j (-1)) 4 5 ([(-1)])),(9,.m (fZ 2 4 (dy ((q15 6).val 0) ((eF j (-1))++([(-1)]))) ((q15 6).val 0) λbs h=>ap.one ((λ_ h=>h) bs h)))]) N0 [] (λq15 L=>(L.set 2 (ob (B6 q3) #[iN R,iN S,iN B,iN M,iN C,iN way,iN res,vC4_7,.slice (some ⟨(q3 4).abd 0,0,none⟩) ((R*B)*M) ((R*B)*M),(q15 6).val 0,i6 0,i6 0] 137)).set 4 (dy ((q15 6).val 0) ((eF j (-1))++([(-1)])))++[ob (B5 q15) #[i6 (-1)] 3]) λq15=>?_
  refine r0 [(0,ad j 1)] [(35,i6 ((j+1:Nat):Int))] [35] ?_
  exact lE (j+1) ((q15 6).val 0) Om Om Kr [0,1,2,3,4] (by rw[List.replicate_succ'];kernel_rfl)
 obtain rfl:R=j:=by omega
 refine lF ?_
 exact r0 [] [(2,pt (B6 q3) 0),(3,i6 0)] [2,3] (lf (.l [(q3 6).abd 0] [] [vC4_7,.slice (some ⟨(q3 4).abd 0,0,none⟩) ((R*B)*M) ((R*B)*M),vC4_9]) [2,3,1,4] [] [])
theorem Ra(R S B M C way res:Nat)(hly:iP R S B M C way res):aa dZ 175 #[.agg #[iN R,iN S,iN B,iN M,iN C,iN way,iN res]] [] [] (λE=>[pk (aG (E.abd 0) (lO R S B M C way res))]) (λE=> .tuple #[pt ((E.abd 0)) 0,i6 0]):=(Q9 R S B M C way res hly).outs λE ds hs=>s5 ⟨_,_,_,rfl⟩ hs
theorem mv(a b:Nat):((a:Int)==(b:Int))=decide (a=b):=by
 by_cases h:a=b
 ·subst h;rw[cC rfl];exact beq_self_eq_true _
 ·rw[bj h,dp];omega
theorem zH(a b:Nat):decide ((a:Int)≤(b:Int))=decide (a≤b):=by
 by_cases h:a≤b
 ·rw[cC h,cC Om]
 ·rw[bj h,bj Om]
structure Jb where
 aa2:Nat
 fr:Nat
 tg:Nat
 nx:Nat
def kz:Jb:=⟨0,0,0,0⟩
def eK(kind B M C:Nat):Nat:=match kind with
 | 0=>0
 | 1=>C
 | _=>B*M*C
structure oH (m:Mp) (fr t nx:Nat):Prop where
 hf:fr<m.R*m.B*m.M
 ht:t<m.R*m.B*m.M
 ne:fr≠t
 df:m.aa4.getD fr false=false
 dt:m.aa4.getD t false=false
 t0:m.R*m.B*m.M-m.res≤t
 t1:t<m.R*m.B*m.M-m.res+m.aba
 nx:nx≤m.C
 f1:fr<m.R*m.B*m.M-m.res+m.aba
structure oI (m:Mp) (fr t nx:Nat):Prop where
 hf:fr<m.R
 hs:dM m fr=false
 t0:m.R≤t
 t1:t<m.R+m.abb
 nx:nx≤m.B*m.M*m.C
structure ta (m:Mp) (j:Jb):Prop where
 k:j=kz∨(j.aa2=1∧oH m j.fr j.tg j.nx)∨(j.aa2=2∧oI m j.fr j.tg j.nx)
def iQ(m:Mp)(r i:Nat):Nat:=bJ r (i/m.C/m.M) (i/m.C%m.M) (i%m.C)
def aQ(m:Mp)(kind w i:Nat):Nat:=match kind with
 | 1=>bD m w*64+i
 | _=>iQ m w i
def fu(m:Mp)(n:Nat):Nat:=(ed m.way m.R m.B m.M (ao m n)*m.M+ec m.way m.R m.B m.M (ao m n))*m.C+n%m.C
def aH(m:Mp)(j:Jb)(n:Nat):Nat:=match j.aa2 with
 | 0=>cQ m n
 | 1=>if ao m n=j.fr then(if n%m.C<j.nx then aQ m 1 j.tg (n%m.C) else cQ m n) else cQ m n
 | _=>if aF m.way m.R m.B m.M (ao m n)=j.fr then(if fu m n<j.nx then aQ m 2 j.tg (fu m n) else cQ m n) else cQ m n
section
variable {m:Mp}
theorem oJ(h:eC m){r i:Nat}(hr:r<m.R+m.S)(hi:i<m.B*m.M*m.C):gZ m.R m.S m.B m.M m.C r (i/m.C/m.M) (i/m.C%m.M) (i%m.C):=by
 have hb:=h.abc.bd
 refine⟨hr,?_,jh _ hb.m1,jh _ hb.c1⟩
 exact jm (jw m.B m.M▸jm (jw (m.B*m.M) m.C▸hi))
theorem td(h:eC m){n:Nat}(hn:n<(m.R*m.B*m.M-m.res)*m.C):fu m n<m.B*m.M*m.C:=by
 have hi:=qD h (nR h hn)
 have hc:=jh n h.abc.bd.c1
 have h1:ed m.way m.R m.B m.M (ao m n)*m.M+ec m.way m.R m.B m.M (ao m n)<m.B*m.M:=by
  have:(ed m.way m.R m.B m.M (ao m n)+1)*m.M≤m.B*m.M:=jg _ hi.h1
  rw[Nat.add_mul] at this
  have:=hi.h2
  omega
 have h2:(ed m.way m.R m.B m.M (ao m n)*m.M+ec m.way m.R m.B m.M (ao m n)+1)*m.C≤m.B*m.M*m.C:=jg _ h1
 rw[Nat.add_mul] at h2
 unfold fu
 omega
theorem pI(m:Mp)(n:Nat):cQ m n=bJ (gO m (ao m n)) (ed m.way m.R m.B m.M (ao m n)) (ec m.way m.R m.B m.M (ao m n)) (n%m.C):=by unfold cQ bD bJ;omega
theorem qH(h:eC m){n:Nat}(hn:n<(m.R*m.B*m.M-m.res)*m.C):gZ m.R m.S m.B m.M m.C (gO m (ao m n)) (ed m.way m.R m.B m.M (ao m n)) (ec m.way m.R m.B m.M (ao m n)) (n%m.C):=by
 have hi:=qD h (nR h hn)
 exact⟨hi.h0,hi.h1,hi.h2,jh _ h.abc.bd.c1⟩
end
end Go.Proofs.YtbcodenfkijdnaaGreat.E
namespace Go.Proofs.YtbcodenfkijdnaaGreat.E
open Go Go.RowKit Go.Shelf
open List renaming getD_eq_getElem?_getD→dZ,length_set→ir,getElem?_eq_getElem→jh,length_append→jm,getElem?_set→jw,length_tail→kP
open Go.Proofs.Tryz renaming prog→eF
open Nat renaming not_lt_zero→jg,mod_lt→ka
open Bool renaming and_true→na
theorem Fo(i n:Int):aa eF 187 #[i6 i,i6 n] [] [] N0 (λ_=> .bool (bQ i n)):=by
 refine fG Tryz.func187 λw cs=>?_
 refine r0 [] [(4,.bool false)] [] (r0 [] [(4,.bool ((decide (0≤i))&&(decide (i<n))))] [4] ?_)
 exact am (.bool ((decide (0≤i))&&(decide (i<n)))) ab.zero bh [] [] []
theorem oK(i n:Nat)(h:i<n):aa eF 187 #[iN i,iN n] [] [] N0 (λ_=> .bool true):=by
 have h1:=Fo i n
 rwa [mq.2 ⟨by omega,by omega⟩] at h1
theorem Rb(fr t nx R S B M C way res:Nat)(hly:iP R S B M C way res):aa eF 188 #[.agg #[i6 0,iN fr,iN t,iN nx],.agg #[iN R,iN S,iN B,iN M,iN C,iN way,iN res]] [] [] N0 (λ_=>i6 0):=by
 have hG:=hly.abc
 have hbmc:=hG.bd.bmc
 refine fG Tryz.func188 λw cs=>?_
 exact ra (λq1=>[(2,pt (B0 q1) 0),(3,pt (B1 q1) 0),(4,i6 0)]) (λq1=>[ob (B0 q1) #[i6 0,iN fr,iN t,iN nx] 70,ob (B1 q1) #[iN R,iN S,iN B,iN M,iN C,iN way,iN res] 25]) λq1=>r0 [(1,.l 0)] [(6,i6 0)] [] (rF [] 7 (rF [] 12 (r0 [] [(4,i6 0)] [4] (lf ab.zero [] [] []))))
theorem zI(fr t nx R S B M C way res:Nat)(hly:iP R S B M C way res):aa eF 188 #[.agg #[i6 1,iN fr,iN t,iN nx],.agg #[iN R,iN S,iN B,iN M,iN C,iN way,iN res]] [] [] N0 (λ_=>iN C):=by
 have hG:=hly.abc
 have hbmc:=hG.bd.bmc
 refine fG Tryz.func188 λw cs=>?_
 exact ra (λq1=>[(2,pt (B0 q1) 0),(3,pt (B1 q1) 0),(4,i6 0)]) (λq1=>[ob (B0 q1) #[i6 1,iN fr,iN t,iN nx] 70,ob (B1 q1) #[iN R,iN S,iN B,iN M,iN C,iN way,iN res] 25]) λq1=>r0 [(1,.l 0)] [(6,i6 1)] [] (rT [] 7 (r0 [(2,.l 1)] [(4,iN C)] [4] (lf ab.zero [] [] [])))
theorem zJ(fr t nx R S B M C way res:Nat)(hly:iP R S B M C way res):aa eF 188 #[.agg #[i6 2,iN fr,iN t,iN nx],.agg #[iN R,iN S,iN B,iN M,iN C,iN way,iN res]] [] [] N0 (λ_=>i6 (((B*M)*C:Nat):Int)):=by
 have hG:=hly.abc
 have hbmc:=hG.bd.bmc
 refine fG Tryz.func188 λw cs=>?_
 exact ra (λq1=>[(2,pt (B0 q1) 0),(3,pt (B1 q1) 0),(4,i6 0)]) (λq1=>[ob (B0 q1) #[i6 2,iN fr,iN t,iN nx] 70,ob (B1 q1) #[iN R,iN S,iN B,iN M,iN C,iN way,iN res] 25]) λq1=>r0 [(1,.l 0)] [(6,i6 2)] [] (rF [] 7 (rT [] 12 (r0 [(1,.l 1),(2,.c [] [] (Qr R S B M C hG))] [(4,i6 (((B*M)*C:Nat):Int))] [4] (lf ab.zero [] [] []))))
theorem Rc(fr t nx R S B M C way res:Nat)(hly:iP R S B M C way res):aa eF 211 #[.agg #[i6 1,iN fr,iN t,iN nx],.agg #[iN R,iN S,iN B,iN M,iN C,iN way,iN res]] [] [] N0 (λ_=> .bool (decide (nx=C))):=by
 have hG:=hly.abc
 have hbmc:=hG.bd.bmc
 refine fG Tryz.func211 λw cs=>?_
 refine ra (λq1=>[(2,pt (B0 q1) 0),(3,pt (B1 q1) 0),(4,.bool false)]) (λq1=>[ob (B0 q1) #[i6 1,iN fr,iN t,iN nx] 70,ob (B1 q1) #[iN R,iN S,iN B,iN M,iN C,iN way,iN res] 25]) λq1=>r0 [(1,.m (ld 0 (i6 1))),(5,.m (ld 0 (iN nx))),(6,.m (ls 0 ([i6 1,iN fr,iN t,iN nx]))),(7,.m (ls 1 ([iN R,iN S,iN B,iN M,iN C,iN way,iN res]))),(8,.c [] [] (zI fr t nx R S B M C way res hly)),] [(4,.bool ((nx:Int)==(C:Int)))] [4] ?_
 exact am (.bool ((nx:Int)==(C:Int))) ab.zero (by exact ALca Value.bool (mv nx C)) [] [] []
theorem Rd(fr t nx R S B M C way res:Nat)(hly:iP R S B M C way res):aa eF 211 #[.agg #[i6 2,iN fr,iN t,iN nx],.agg #[iN R,iN S,iN B,iN M,iN C,iN way,iN res]] [] [] N0 (λ_=> .bool (decide (nx=B*M*C))):=by
 have hG:=hly.abc
 have hbmc:=hG.bd.bmc
 refine fG Tryz.func211 λw cs=>?_
 refine ra (λq1=>[(2,pt (B0 q1) 0),(3,pt (B1 q1) 0),(4,.bool false)]) (λq1=>[ob (B0 q1) #[i6 2,iN fr,iN t,iN nx] 70,ob (B1 q1) #[iN R,iN S,iN B,iN M,iN C,iN way,iN res] 25]) λq1=>r0 [(1,.m (ld 0 (i6 2))),(5,.m (ld 0 (iN nx))),(6,.m (ls 0 ([i6 2,iN fr,iN t,iN nx]))),(7,.m (ls 1 ([iN R,iN S,iN B,iN M,iN C,iN way,iN res]))),(8,.c [] [] (zJ fr t nx R S B M C way res hly)),] [(4,.bool ((nx:Int)==(((B*M)*C:Nat):Int)))] [4] ?_
 exact am (.bool ((nx:Int)==(((B*M)*C:Nat):Int))) ab.zero (by exact ALca Value.bool (mv nx (B*M*C))) [] [] []
theorem Rf(g:Nat)(m:Mp)(hm:eC m)(fr t nx:Nat)(hj:oH m fr t nx):aa eF 222 #[.agg #[i6 1,iN fr,iN t,iN nx],pt g 0] [pk (aG g m)] [0] (λ_=>[pk (aG g m)]) (λ_=> .bool true):=by
 have hG:=hm.abc
 have hly:=hm.ly
 have hnp:=hm.np
 have hbmc:=hG.bd.bmc
 have hc1:=hG.bd.c1
 have hm1:=hG.bd.m1
 have hc64:=hG.bd.c64
 have hr8:=hG.bd.r8
 have hj1:=hj.hf
 have hj2:=hj.ht
 have hj3:=hj.ne
 refine fG Tryz.func222 λw cs=>?_
 exact ra (λq1=>[(2,pt (B0 q1) 0),(4,.bool false)]) (λq1=>[ob (B0 q1) #[i6 1,iN fr,iN t,iN nx] 70]) λq1=>r0 [(1,.c [0] [0] (jA g m hm)),(3,.c [] [] (mU m.R m.S m.B m.M m.C hG))] [(5,i6 (((m.R*m.B)*m.M:Nat):Int))] [] (r0 [(1,.m (ld 1 (iN fr))),(3,.c [] [] (oK fr ((m.R*m.B)*m.M) Om)),(6,.m (ld 1 (iN t))),(8,.c [] [] (oK t ((m.R*m.B)*m.M) Om)),(12,.m (ld 1 (iN fr))),(14,.m (ld 1 (iN t))),(15,.t (tk (show Value.bool ((fr:Int) != (t:Int))= .bool true from ALca Value.bool (by simp;omega)))),(20,.m (ld 1 (iN fr))),(21,.c [0] [0] (aa.v ((zE g m hm fr Om)) λ_=>ALca Value.bool (show((m.aa4.getD fr false))=false from(by exact hj.df)))),(27,.m (ld 1 (iN t))),(28,.c [0] [0] (aa.v ((zE g m hm t Om)) λ_=>ALca Value.bool (show((m.aa4.getD t false))=false from(by exact hj.dt)))),] [(4,.bool true)] [4] (lf ab.zero [0] [] []))
theorem Rg(g:Nat)(m:Mp)(hm:eC m)(fr t nx:Nat)(hj:oI m fr t nx):aa eF 223 #[.agg #[i6 2,iN fr,iN t,iN nx],pt g 0] [pk (aG g m)] [0] (λ_=>[pk (aG g m)]) (λ_=> .bool true):=by
 have hG:=hm.abc
 have hly:=hm.ly
 have hnp:=hm.np
 have hbmc:=hG.bd.bmc
 have hc1:=hG.bd.c1
 have hm1:=hG.bd.m1
 have hc64:=hG.bd.c64
 have hr8:=hG.bd.r8
 have hj1:=hj.hf
 have hj2:=hj.t0
 have hj3:=hj.t1
 have hj4:=hm.rk
 refine fG Tryz.func223 λw cs=>?_
 refine ra (λq1=>[(2,pt (B0 q1) 0),(4,.bool false)]) (λq1=>[ob (B0 q1) #[i6 2,iN fr,iN t,iN nx] 70]) λq1=>rr (λ_=>[(1,.c [0] [0] (jA g m hm)),(4,.s 2)]) (λq2=>[(5,pt (B3 q2) 0)]) [] (λq2 L=>L++[ob (B3 q2) #[iN m.R,iN m.S,iN m.B,iN m.M,iN m.C] 23]) λq2=>r0 [(2,.l 1),(3,.c [0] [0] (Fk g m hm fr Om))] [(7,.bool (dM m fr))] [] (r0 [(1,.m (ld 1 (iN fr))),(3,.m (ld 2 (iN m.R))),(4,.c [] [] (oK fr m.R Om)),(11,.m (ld 1 (iN t))),(13,.m (ld 2 (iN m.R))),(14,.t (tb (a:=iN t) (b:=iN m.R) λ_ _ _ _=>mo (a:=t) (b:=m.R) Om Om)),(16,.m (ld 2 (iN m.S))),(17,.c [] [] (oK (t-m.R) m.S Om))] [(4,.bool ((!(dM m fr))&&true))] [4] ?_)
 exact am (.bool ((!(dM m fr))&&true)) ab.zero (by rw[hj.hs];rfl) [0] [] []
theorem Rh(g:Nat)(m:Mp)(hm:eC m):aa eF 186 #[.agg #[i6 0,i6 0,i6 0,i6 0],pt g 0] [pk (aG g m)] [0] (λ_=>[pk (aG g m)]) (λ_=> .bool true):=by
 have hG:=hm.abc
 have hly:=hm.ly
 have hnp:=hm.np
 have hbmc:=hG.bd.bmc
 have hc1:=hG.bd.c1
 have hm1:=hG.bd.m1
 have hc64:=hG.bd.c64
 have hr8:=hG.bd.r8
 refine fG Tryz.func186 λw cs=>?_
 refine ra (λq1=>[(2,pt (B0 q1) 0),(4,.bool false)]) (λq1=>[ob (B0 q1) #[i6 0,i6 0,i6 0,i6 0] 70]) λq1=>r0 [(1,.l 1),(2,.l 1),(4,.c [0] [0] (jA g m hm)),(5,.c [] [] (Rb 0 0 0 m.R m.S m.B m.M m.C m.way m.res hly)),(7,.c [] [] (Fo 0 1))] [(5,.bool (bQ 0 1))] [] (r0 [(1,.l 1)] [(15,i6 0)] [] (rT [] 16 (r0 [(0,.l 1),(2,.e)] [(4,.bool (0==0&&(0==0&&(0==0&&(0==0&&true)))))] [4] ?_)))
 exact am (.bool (0==0&&(0==0&&(0==0&&(0==0&&true))))) ab.zero bh [0] [] []
theorem Fp(g:Nat)(m:Mp)(hm:eC m)(fr t nx:Nat)(hj:oH m fr t nx):aa eF 186 #[.agg #[i6 1,iN fr,iN t,iN nx],pt g 0] [pk (aG g m)] [0] (λ_=>[pk (aG g m)]) (λ_=> .bool true):=by
 have hG:=hm.abc
 have hly:=hm.ly
 have hnp:=hm.np
 have hbmc:=hG.bd.bmc
 have hc1:=hG.bd.c1
 have hm1:=hG.bd.m1
 have hc64:=hG.bd.c64
 have hr8:=hG.bd.r8
 have hj1:=hj.nx
 refine fG Tryz.func186 λw cs=>?_
 refine ra (λq1=>[(2,pt (B0 q1) 0),(4,.bool false)]) (λq1=>[ob (B0 q1) #[i6 1,iN fr,iN t,iN nx] 70]) λq1=>r0 [(1,.l 1),(2,.l 1),(4,.c [0] [0] (jA g m hm)),(5,.c [] [] (zI fr t nx m.R m.S m.B m.M m.C m.way m.res hly)),(6,ad m.C 1),(7,.c [] [] (oK nx (m.C+1) Om))] [(5,.bool true)] [] (r0 [(1,.l 1)] [(15,i6 1)] [] (rF [] 16 (rT [] 21 (r0 [(2,.l 1),(4,.c [0] [0] (Rf g m hm fr t nx hj))] [(4,.bool true)] [4] ?_))))
 exact lf ab.zero [0] [] []
theorem Fq(g:Nat)(m:Mp)(hm:eC m)(fr t nx:Nat)(hj:oI m fr t nx):aa eF 186 #[.agg #[i6 2,iN fr,iN t,iN nx],pt g 0] [pk (aG g m)] [0] (λ_=>[pk (aG g m)]) (λ_=> .bool true):=by
 have hG:=hm.abc
 have hly:=hm.ly
 have hnp:=hm.np
 have hbmc:=hG.bd.bmc
 have hc1:=hG.bd.c1
 have hm1:=hG.bd.m1
 have hc64:=hG.bd.c64
 have hr8:=hG.bd.r8
 have hj1:=hj.nx
 refine fG Tryz.func186 λw cs=>?_
 refine ra (λq1=>[(2,pt (B0 q1) 0),(4,.bool false)]) (λq1=>[ob (B0 q1) #[i6 2,iN fr,iN t,iN nx] 70]) λq1=>r0 [(1,.l 1),(2,.l 1),(4,.c [0] [0] (jA g m hm)),(5,.c [] [] (zJ fr t nx m.R m.S m.B m.M m.C m.way m.res hly)),(6,ad ((m.B*m.M)*m.C) 1),(7,.c [] [] (oK nx (((m.B*m.M)*m.C)+1) Om))] [(5,.bool true)] [] (r0 [(1,.l 1)] [(15,i6 2)] [] (rF [] 16 (rF [] 21 (rT [] 29 ?_))))
 exact r0 [(2,.l 1),(4,.c [0] [0] (Rg g m hm fr t nx hj))] [(4,.bool true)] [4] (lf ab.zero [0] [] [])
theorem Ri(m:Mp)(hm:eC m)(r i:Nat)(hr:r<m.R+m.S)(hi:i<m.B*m.M*m.C):aa eF 189 #[.agg #[iN m.R,iN m.S,iN m.B,iN m.M,iN m.C],iN r,iN i] [] [] N0 (λ_=> .tuple #[i6 ((iQ m r i:Nat):Int),i6 0]):=by
 have hG:=hm.abc
 have hbmc:=hG.bd.bmc
 have hc1:=hG.bd.c1
 have hm1:=hG.bd.m1
 have hdv:=Nat.div_le_self i m.C
 refine fG Tryz.func189 λw cs=>?_
 refine ra (λq1=>[(3,pt (B0 q1) 0),(6,i6 0),(7,i6 0)]) (λq1=>[ob (B0 q1) #[iN m.R,iN m.S,iN m.B,iN m.M,iN m.C] 23]) λq1=>rr (λ_=>[(3,.l 0),(4,.t (tb (a:=iN i) (b:=iN m.C) λ_ _ _ _=>om (a:=i) (d:=m.C) Om)),(7,.s 1)]) (λq2=>[(8,pt (B6 q2) 0)]) [] (λq2 L=>L++[ob (B6 q2) #[iN r,i6 0,i6 0,i6 ((i%m.C:Nat):Int)] 46]) λq2=>r0 [(2,.l 0),(3,.t (tb (a:=iN i) (b:=iN m.C) λ_ _ _ _=>o8 (a:=i) (d:=m.C) Om Om))] [(2,i6 ((i/m.C:Nat):Int))] [2] (rs [(2,.m (ld 0 (iN m.M))),(3,.t (tb (a:=i6 ((i/m.C:Nat):Int)) (b:=iN m.M) λ_ _ _ _=>om (a:=i/m.C) (d:=m.M) Om)),(6,.m (ld 0 (iN m.M))),(7,.t (tb (a:=i6 ((i/m.C:Nat):Int)) (b:=iN m.M) λ_ _ _ _=>o8 (a:=i/m.C) (d:=m.M) Om Om)),(9,.s 1),(11,.s 1)] 1 (ob (B6 q2) #[iN r,i6 (((i/m.C)/m.M:Nat):Int),i6 (((i/m.C)%m.M:Nat):Int),i6 ((i%m.C:Nat):Int)] 46) (r0 [(0,.l 0),(1,.l 1),(2,.c [] [] (s7 hG (oJ hm hr hi)))] [(6,i6 ((bJ r ((i/m.C)/m.M) ((i/m.C)%m.M) (i%m.C):Nat):Int)),(7,i6 0)] [6,7] ?_))
 exact am (.tuple #[i6 ((bJ r ((i/m.C)/m.M) ((i/m.C)%m.M) (i%m.C):Nat):Int),i6 0]) ab.zero bh [] [] []
theorem Fs(g:Nat)(m:Mp)(hm:eC m)(fr t nx:Nat)(hj:oH m fr t nx)(p i:Nat)(hp:p<m.R*m.B*m.M)(hi:i<m.C):aa eF 144 #[.agg #[i6 1,iN fr,iN t,iN nx],pt g 0,iN p,iN i] [pk (aG g m)] [0] (λ_=>[pk (aG g m)]) (λ_=> .tuple #[i6 ((bD m p*64+i:Nat):Int),i6 0]):=by
 have hG:=hm.abc
 have hly:=hm.ly
 have hnp:=hm.np
 have hbmc:=hG.bd.bmc
 have hc1:=hG.bd.c1
 have hm1:=hG.bd.m1
 have hc64:=hG.bd.c64
 have hr8:=hG.bd.r8
 have hlb:=vP hm hp
 refine fG Tryz.func144 λw cs=>?_
 refine ra (λq1=>[(4,pt (B0 q1) 0),(8,i6 0),(9,i6 0)]) (λq1=>[ob (B0 q1) #[i6 1,iN fr,iN t,iN nx] 70]) λq1=>rF [(0,.m (ls 1 ([i6 1,iN fr,iN t,iN nx]))),(2,.c [0] [0] (Fp g m hm fr t nx hj)),(6,.m (ls 1 ([i6 1,iN fr,iN t,iN nx]))),(8,.c [0] [0] (jA g m hm)),(9,.c [] [] (zI fr t nx m.R m.S m.B m.M m.C m.way m.res hly)),(10,.c [] [] (oK i m.C Om))] 24 (rF [(1,.l 1)] 27 (r0 [(2,.c [0] [0] (Fm g m hm p Om))] [(10,i6 ((bD m p:Nat):Int)),(11,i6 0)] [] (rF [] 43 (r0 [(1,.t (tv (ar .shl 3 (.tmp 45) (.const (u6 6)) (i6 ((bD m p:Nat):Int)) (u6 6)) (λ_=>dU (b:=((bD m p*64:Nat):Int)) (gb 6 Dc Om Om) Om))),(3,.t (tv (ar .or 3 (.tmp 46) (.tmp 47) (i6 ((bD m p*64:Nat):Int)) (iN i)) (λ_=>dU (b:=((bD m p*64+i:Nat):Int)) (sr 6 64 rfl Om Om Om Om Om) Om)))] [(8,i6 ((bD m p*64+i:Nat):Int)),(9,i6 0)] [8,9] ?_))))
 exact lf ab.zero [0] [] []
theorem Ft(g:Nat)(m:Mp)(hm:eC m)(fr t nx:Nat)(hj:oI m fr t nx)(r i:Nat)(hr:r<m.R+m.S)(hi:i<m.B*m.M*m.C):aa eF 144 #[.agg #[i6 2,iN fr,iN t,iN nx],pt g 0,iN r,iN i] [pk (aG g m)] [0] (λ_=>[pk (aG g m)]) (λ_=> .tuple #[i6 ((iQ m r i:Nat):Int),i6 0]):=by
 have hG:=hm.abc
 have hly:=hm.ly
 have hnp:=hm.np
 have hbmc:=hG.bd.bmc
 have hc1:=hG.bd.c1
 have hm1:=hG.bd.m1
 have hc64:=hG.bd.c64
 have hr8:=hG.bd.r8
 refine fG Tryz.func144 λw cs=>?_
 exact ra (λq1=>[(4,pt (B0 q1) 0),(8,i6 0),(9,i6 0)]) (λq1=>[ob (B0 q1) #[i6 2,iN fr,iN t,iN nx] 70]) λq1=>rF [(0,.m (ls 1 ([i6 2,iN fr,iN t,iN nx]))),(2,.c [0] [0] (Fq g m hm fr t nx hj)),(6,.m (ls 1 ([i6 2,iN fr,iN t,iN nx]))),(8,.c [0] [0] (jA g m hm)),(9,.c [] [] (zJ fr t nx m.R m.S m.B m.M m.C m.way m.res hly)),(10,.c [] [] (oK i ((m.B*m.M)*m.C) Om))] 24 (rT [(1,.l 1)] 27 (r0 [(1,.c [0] [0] (jA g m hm)),(5,.c [] [] (Ri m hm r i Om Om))] [(8,i6 ((iQ m r i:Nat):Int)),(9,i6 0)] [8,9] (lf ab.zero [0] [] [])))
theorem Rj(g:Nat)(m:Mp)(hm:eC m)(fr t nx:Nat)(hj:oH m fr t nx)(i:Nat)(hi:i<m.C):aa eF 119 #[.agg #[i6 1,iN fr,iN t,iN nx],pt g 0,iN i] [pk (aG g m)] [0] (λ_=>[pk (aG g m)]) (λ_=> .tuple #[i6 ((bD m fr*64+i:Nat):Int),i6 0]):=by
 have hG:=hm.abc
 have hly:=hm.ly
 have hnp:=hm.np
 have hbmc:=hG.bd.bmc
 have hc1:=hG.bd.c1
 have hm1:=hG.bd.m1
 have hc64:=hG.bd.c64
 have hr8:=hG.bd.r8
 have hj1:=hj.hf
 refine fG Tryz.func119 λw cs=>?_
 exact ra (λq1=>[(3,pt (B0 q1) 0),(6,i6 0),(7,i6 0)]) (λq1=>[ob (B0 q1) #[i6 1,iN fr,iN t,iN nx] 70]) λq1=>r0 [(0,.l 1),(3,.l 1),(5,.c [0] [0] (Fs g m hm fr t nx hj fr i Om Om))] [(6,i6 ((bD m fr*64+i:Nat):Int)),(7,i6 0)] [6,7] (lf ab.zero [0] [] [])
theorem Rk(g:Nat)(m:Mp)(hm:eC m)(fr t nx:Nat)(hj:oI m fr t nx)(i:Nat)(hi:i<m.B*m.M*m.C):aa eF 119 #[.agg #[i6 2,iN fr,iN t,iN nx],pt g 0,iN i] [pk (aG g m)] [0] (λ_=>[pk (aG g m)]) (λ_=> .tuple #[i6 ((iQ m fr i:Nat):Int),i6 0]):=by
 have hG:=hm.abc
 have hly:=hm.ly
 have hnp:=hm.np
 have hbmc:=hG.bd.bmc
 have hc1:=hG.bd.c1
 have hm1:=hG.bd.m1
 have hc64:=hG.bd.c64
 have hr8:=hG.bd.r8
 have hj1:=hj.hf
 refine fG Tryz.func119 λw cs=>?_
 exact ra (λq1=>[(3,pt (B0 q1) 0),(6,i6 0),(7,i6 0)]) (λq1=>[ob (B0 q1) #[i6 2,iN fr,iN t,iN nx] 70]) λq1=>r0 [(0,.l 1),(3,.l 1),(5,.c [0] [0] (Ft g m hm fr t nx hj fr i Om Om))] [(6,i6 ((iQ m fr i:Nat):Int)),(7,i6 0)] [6,7] (lf ab.zero [0] [] [])
theorem Fu(g:Nat)(m:Mp)(hm:eC m)(fr t nx:Nat)(hj:oH m fr t nx)(i:Nat)(hi:i<m.C):aa eF 120 #[.agg #[i6 1,iN fr,iN t,iN nx],pt g 0,iN i] [pk (aG g m)] [0] (λ_=>[pk (aG g m)]) (λ_=> .tuple #[i6 ((bD m t*64+i:Nat):Int),i6 0]):=by
 have hG:=hm.abc
 have hly:=hm.ly
 have hnp:=hm.np
 have hbmc:=hG.bd.bmc
 have hc1:=hG.bd.c1
 have hm1:=hG.bd.m1
 have hc64:=hG.bd.c64
 have hr8:=hG.bd.r8
 have hj1:=hj.ht
 refine fG Tryz.func120 λw cs=>?_
 exact ra (λq1=>[(3,pt (B0 q1) 0),(6,i6 0),(7,i6 0)]) (λq1=>[ob (B0 q1) #[i6 1,iN fr,iN t,iN nx] 70]) λq1=>r0 [(0,.l 1),(3,.l 1),(5,.c [0] [0] (Fs g m hm fr t nx hj t i Om Om))] [(6,i6 ((bD m t*64+i:Nat):Int)),(7,i6 0)] [6,7] (lf ab.zero [0] [] [])
theorem Fv(g:Nat)(m:Mp)(hm:eC m)(fr t nx:Nat)(hj:oI m fr t nx)(i:Nat)(hi:i<m.B*m.M*m.C):aa eF 120 #[.agg #[i6 2,iN fr,iN t,iN nx],pt g 0,iN i] [pk (aG g m)] [0] (λ_=>[pk (aG g m)]) (λ_=> .tuple #[i6 ((iQ m t i:Nat):Int),i6 0]):=by
 have hG:=hm.abc
 have hly:=hm.ly
 have hnp:=hm.np
 have hbmc:=hG.bd.bmc
 have hc1:=hG.bd.c1
 have hm1:=hG.bd.m1
 have hc64:=hG.bd.c64
 have hr8:=hG.bd.r8
 have hj1:=hj.t1
 have hj2:=hm.rk
 refine fG Tryz.func120 λw cs=>?_
 exact ra (λq1=>[(3,pt (B0 q1) 0),(6,i6 0),(7,i6 0)]) (λq1=>[ob (B0 q1) #[i6 2,iN fr,iN t,iN nx] 70]) λq1=>r0 [(0,.l 1),(3,.l 1),(5,.c [0] [0] (Ft g m hm fr t nx hj t i Om Om))] [(6,i6 ((iQ m t i:Nat):Int)),(7,i6 0)] [6,7] (lf ab.zero [0] [] [])
theorem Rl(m:Mp)(hm:eC m)(n:Nat)(hn:n<(m.R*m.B*m.M-m.res)*m.C):aa eF 221 #[.agg #[iN m.R,iN m.S,iN m.B,iN m.M,iN m.C],i6 ((bJ (gO m (ao m n)) (ed m.way m.R m.B m.M (ao m n)) (ec m.way m.R m.B m.M (ao m n)) (n%m.C):Nat):Int)] [] [] N0 (λ_=>i6 ((fu m n:Nat):Int)):=by
 have hG:=hm.abc
 have hbmc:=hG.bd.bmc
 have hol:(ed m.way m.R m.B m.M (ao m n)*m.M+ec m.way m.R m.B m.M (ao m n))*m.C+n%m.C<m.B*m.M*m.C:=td hm hn
 have hc1:=hG.bd.c1
 have hle:=Nat.le_mul_of_pos_right (ed m.way m.R m.B m.M (ao m n)*m.M+ec m.way m.R m.B m.M (ao m n)) hc1
 refine fG Tryz.func221 λw cs=>?_
 refine ra (λq1=>[(2,pt (B0 q1) 0),(4,i6 0)]) (λq1=>[ob (B0 q1) #[iN m.R,iN m.S,iN m.B,iN m.M,iN m.C] 23]) λq1=>rr (λ_=>[(0,.l 0),(2,.c [] [] (s8 hG (qH hm hn))),(7,.s 1)]) (λq2=>[(5,pt (B6 q2) 0),(6,i6 0)]) [] (λq2 L=>L++[ob (B6 q2) #[i6 ((gO m (ao m n):Nat):Int),i6 ((ed m.way m.R m.B m.M (ao m n):Nat):Int),i6 ((ec m.way m.R m.B m.M (ao m n):Nat):Int),i6 ((n%m.C:Nat):Int)] 46]) λq2=>rF [] 14 (r0 [(1,.m (ld 1 (i6 ((ed m.way m.R m.B m.M (ao m n):Nat):Int)))),(3,.m (ld 0 (iN m.M))),(4,ml (ed m.way m.R m.B m.M (ao m n)) m.M),(6,.m (ld 1 (i6 ((ec m.way m.R m.B m.M (ao m n):Nat):Int)))),(7,ad ((ed m.way m.R m.B m.M (ao m n))*m.M) (ec m.way m.R m.B m.M (ao m n))),(9,.m (ld 0 (iN m.C))),(10,ml (((ed m.way m.R m.B m.M (ao m n))*m.M)+(ec m.way m.R m.B m.M (ao m n))) m.C),(12,.m (ld 1 (i6 ((n%m.C:Nat):Int)))),(13,ad ((((ed m.way m.R m.B m.M (ao m n))*m.M)+(ec m.way m.R m.B m.M (ao m n)))*m.C) (n%m.C))] [(4,i6 ((((((ed m.way m.R m.B m.M (ao m n))*m.M)+(ec m.way m.R m.B m.M (ao m n)))*m.C)+(n%m.C):Nat):Int))] [4] ?_)
 exact am (i6 ((((((ed m.way m.R m.B m.M (ao m n))*m.M)+(ec m.way m.R m.B m.M (ao m n)))*m.C)+(n%m.C):Nat):Int)) ab.zero bh [] [] []
theorem Rm(m:Mp)(hm:eC m)(n:Nat)(hn:n<(m.R*m.B*m.M-m.res)*m.C):aa eF 221 #[.agg #[iN m.R,iN m.S,iN m.B,iN m.M,iN m.C],i6 ((cQ m n:Nat):Int)] [] [] N0 (λ_=>i6 ((fu m n:Nat):Int)):=by
 rw[pI];exact Rl m hm n hn
theorem Rn(g:Nat)(m:Mp)(hm:eC m)(n:Nat)(hn:n<(m.R*m.B*m.M-m.res)*m.C):aa eF 185 #[.agg #[i6 0,i6 0,i6 0,i6 0],pt g 0,iN n] [pk (aG g m)] [0] (λ_=>[pk (aG g m)]) (λ_=> .tuple #[i6 ((cQ m n:Nat):Int),i6 ((ao m n:Nat):Int),i6 ((aF m.way m.R m.B m.M (ao m n):Nat):Int),i6 0]):=by
 have hG:=hm.abc
 have hly:=hm.ly
 have hnp:=hm.np
 have hbmc:=hG.bd.bmc
 have hc1:=hG.bd.c1
 have hm1:=hG.bd.m1
 have hc64:=hG.bd.c64
 have hr8:=hG.bd.r8
 refine fG Tryz.func185 λw cs=>?_
 refine ra (λq1=>[(3,pt (B0 q1) 0),(6,i6 0),(7,i6 0),(8,i6 0),(9,i6 0)]) (λq1=>[ob (B0 q1) #[i6 0,i6 0,i6 0,i6 0] 70]) λq1=>r0 [(2,.c [0] [0] (zF g m hm n Om)),] [(6,i6 ((cQ m n:Nat):Int)),(7,i6 ((ao m n:Nat):Int)),(8,i6 ((aF m.way m.R m.B m.M (ao m n):Nat):Int)),(9,i6 0)] [6,7,8,9] (rF [(3,.l 1),(5,.c [0] [0] (Rh g m hm))] 27 (rr (λ_=>[(1,.c [0] [0] (jA g m hm)),(4,.s 2)]) (λq4=>[(10,pt (B3 q4) 0)]) [] (λq4 L=>L++[ob (B3 q4) #[iN m.R,iN m.S,iN m.B,iN m.M,iN m.C] 23]) λq4=>r0 [] [(11,i6 0)] [] (rF [(1,.l 1),(4,.d),(5,.d),(6,.d),(7,.d)] 39 ?_)))
 exact rF [(1,.l 1),(4,.d),(5,.d),(6,.d),(7,.d)] 53 (r0 [] [(6,i6 ((cQ m n:Nat):Int)),(7,i6 ((ao m n:Nat):Int)),(8,i6 ((aF m.way m.R m.B m.M (ao m n):Nat):Int)),(9,i6 0)] [6,7,8,9] (lf ab.zero [0] [] []))
theorem Ro(g:Nat)(m:Mp)(hm:eC m)(fr t nx:Nat)(hj:oH m fr t nx)(n:Nat)(hn:n<(m.R*m.B*m.M-m.res)*m.C):aa eF 185 #[.agg #[i6 1,iN fr,iN t,iN nx],pt g 0,iN n] [pk (aG g m)] [0] (λ_=>[pk (aG g m)]) (λ_=> .tuple #[i6 ((aH m ⟨1,fr,t,nx⟩ n:Nat):Int),i6 ((ao m n:Nat):Int),i6 ((aF m.way m.R m.B m.M (ao m n):Nat):Int),i6 0]):=by
 have hG:=hm.abc
 have hly:=hm.ly
 have hnp:=hm.np
 have hbmc:=hG.bd.bmc
 have hc1:=hG.bd.c1
 have hm1:=hG.bd.m1
 have hc64:=hG.bd.c64
 have hr8:=hG.bd.r8
 have hmod:=ka n hc1
 refine fG Tryz.func185 λw cs=>?_
 refine ra (λq1=>[(3,pt (B0 q1) 0),(6,i6 0),(7,i6 0),(8,i6 0),(9,i6 0)]) (λq1=>[ob (B0 q1) #[i6 1,iN fr,iN t,iN nx] 70]) λq1=>r0 [(2,.c [0] [0] (zF g m hm n Om)),] [(6,i6 ((cQ m n:Nat):Int)),(7,i6 ((ao m n:Nat):Int)),(8,i6 ((aF m.way m.R m.B m.M (ao m n):Nat):Int)),(9,i6 0)] [6,7,8,9] (rF [(3,.l 1),(5,.c [0] [0] (Fp g m hm fr t nx hj))] 27 (rr (λ_=>[(1,.c [0] [0] (jA g m hm)),(4,.s 2)]) (λq4=>[(10,pt (B3 q4) 0)]) [] (λq4 L=>L++[ob (B3 q4) #[iN m.R,iN m.S,iN m.B,iN m.M,iN m.C] 23]) λq4=>r0 [] [(11,i6 0)] [] (r0 [(1,.l 1),(6,.l 1)] [(39,.bool (((ao m n:Nat):Int)==(fr:Int)))] [] ?_)))
 refine cZ ((ao m n:Nat):Int) (fr:Int) (λh7 dh7=>?_) λh7 dh7=>?_
 ·refine r0 [(2,.l 2),(3,.t (tb (a:=iN n) (b:=iN m.C) λ_ _ _ _=>om (a:=n) (d:=m.C) Om))] [(11,i6 ((n%m.C:Nat):Int))] [11] ?_
  refine r0 [(2,.l 1)] [(69,.bool (decide (((n%m.C:Nat):Int)<(nx:Int))))] [] ?_
  refine cj ((n%m.C:Nat):Int) (nx:Int) (λh10 dh10=>?_) λh10 dh10=>?_
  ·refine r0 [(0,.l 1),(3,.c [0] [0] (Fu g m hm fr t nx hj (n%m.C) Om))] [(6,i6 ((bD m t*64+(n%m.C):Nat):Int)),(9,i6 0)] [6,9] ?_
   refine r0 [] [(6,i6 ((bD m t*64+(n%m.C):Nat):Int)),(7,i6 ((ao m n:Nat):Int)),(8,i6 ((aF m.way m.R m.B m.M (ao m n):Nat):Int)),(9,i6 0)] [6,7,8,9] ?_
   exact am (.tuple #[i6 ((bD m t*64+(n%m.C):Nat):Int),i6 ((ao m n:Nat):Int),i6 ((aF m.way m.R m.B m.M (ao m n):Nat):Int),i6 0]) ab.zero (by by_cases c1:ao m n=fr<;>by_cases c2:n%m.C<nx<;>first | (exfalso;omega) | (simp [aH,aQ,c1,c2])) [0] [] []
  refine r0 [] [(6,i6 ((cQ m n:Nat):Int)),(7,i6 ((ao m n:Nat):Int)),(8,i6 ((aF m.way m.R m.B m.M (ao m n):Nat):Int)),(9,i6 0)] [6,7,8,9] ?_
  exact am (.tuple #[i6 ((cQ m n:Nat):Int),i6 ((ao m n:Nat):Int),i6 ((aF m.way m.R m.B m.M (ao m n):Nat):Int),i6 0]) ab.zero (by by_cases c1:ao m n=fr<;>by_cases c2:n%m.C<nx<;>first | (exfalso;omega) | (simp [aH,aQ,c1,c2])) [0] [] []
 refine rF [(1,.l 1),(4,.d),(5,.d),(6,.d),(7,.d)] 53 (r0 [] [(6,i6 ((cQ m n:Nat):Int)),(7,i6 ((ao m n:Nat):Int)),(8,i6 ((aF m.way m.R m.B m.M (ao m n):Nat):Int)),(9,i6 0)] [6,7,8,9] ?_)
 exact am (.tuple #[i6 ((cQ m n:Nat):Int),i6 ((ao m n:Nat):Int),i6 ((aF m.way m.R m.B m.M (ao m n):Nat):Int),i6 0]) ab.zero (by by_cases c1:ao m n=fr<;>by_cases c2:n%m.C<nx<;>first | (exfalso;omega) | (simp [aH,aQ,c1,c2])) [0] [] []
theorem Rq(g:Nat)(m:Mp)(hm:eC m)(fr t nx:Nat)(hj:oI m fr t nx)(n:Nat)(hn:n<(m.R*m.B*m.M-m.res)*m.C):aa eF 185 #[.agg #[i6 2,iN fr,iN t,iN nx],pt g 0,iN n] [pk (aG g m)] [0] (λ_=>[pk (aG g m)]) (λ_=> .tuple #[i6 ((aH m ⟨2,fr,t,nx⟩ n:Nat):Int),i6 ((ao m n:Nat):Int),i6 ((aF m.way m.R m.B m.M (ao m n):Nat):Int),i6 0]):=by
 have hG:=hm.abc
 have hly:=hm.ly
 have hnp:=hm.np
 have hbmc:=hG.bd.bmc
 have hc1:=hG.bd.c1
 have hm1:=hG.bd.m1
 have hc64:=hG.bd.c64
 have hr8:=hG.bd.r8
 have hol:=td hm hn
 refine fG Tryz.func185 λw cs=>?_
 refine ra (λq1=>[(3,pt (B0 q1) 0),(6,i6 0),(7,i6 0),(8,i6 0),(9,i6 0)]) (λq1=>[ob (B0 q1) #[i6 2,iN fr,iN t,iN nx] 70]) λq1=>r0 [(2,.c [0] [0] (zF g m hm n Om)),] [(6,i6 ((cQ m n:Nat):Int)),(7,i6 ((ao m n:Nat):Int)),(8,i6 ((aF m.way m.R m.B m.M (ao m n):Nat):Int)),(9,i6 0)] [6,7,8,9] (rF [(3,.l 1),(5,.c [0] [0] (Fq g m hm fr t nx hj))] 27 (rr (λ_=>[(1,.c [0] [0] (jA g m hm)),(4,.s 2)]) (λq4=>[(10,pt (B3 q4) 0)]) [] (λq4 L=>L++[ob (B3 q4) #[iN m.R,iN m.S,iN m.B,iN m.M,iN m.C] 23]) λq4=>r0 [] [(11,i6 0)] [] (rF [(1,.l 1),(4,.d),(5,.d),(6,.d),(7,.d)] 39 ?_)))
 refine r0 [(1,.l 1),(6,.l 1)] [(53,.bool (((aF m.way m.R m.B m.M (ao m n):Nat):Int)==(fr:Int)))] [] ?_
 refine cZ ((aF m.way m.R m.B m.M (ao m n):Nat):Int) (fr:Int) (λh8 dh8=>?_) λh8 dh8=>?_
 ·refine r0 [(0,.l 2),(2,.c [] [] (Rm m hm n Om))] [(11,i6 ((fu m n:Nat):Int))] [11] ?_
  refine r0 [(2,.l 1)] [(69,.bool (decide (((fu m n:Nat):Int)<(nx:Int))))] [] ?_
  refine cj ((fu m n:Nat):Int) (nx:Int) (λh11 dh11=>?_) λh11 dh11=>?_
  ·refine r0 [(0,.l 1),(3,.c [0] [0] (Fv g m hm fr t nx hj (fu m n) Om))] [(6,i6 ((iQ m t (fu m n):Nat):Int)),(9,i6 0)] [6,9] ?_
   refine r0 [] [(6,i6 ((iQ m t (fu m n):Nat):Int)),(7,i6 ((ao m n:Nat):Int)),(8,i6 ((aF m.way m.R m.B m.M (ao m n):Nat):Int)),(9,i6 0)] [6,7,8,9] ?_
   exact am (.tuple #[i6 ((iQ m t (fu m n):Nat):Int),i6 ((ao m n:Nat):Int),i6 ((aF m.way m.R m.B m.M (ao m n):Nat):Int),i6 0]) ab.zero (by by_cases c1:aF m.way m.R m.B m.M (ao m n)=fr<;>by_cases c2:fu m n<nx<;>first | (exfalso;omega) | (simp [aH,aQ,c1,c2])) [0] [] []
  refine r0 [] [(6,i6 ((cQ m n:Nat):Int)),(7,i6 ((ao m n:Nat):Int)),(8,i6 ((aF m.way m.R m.B m.M (ao m n):Nat):Int)),(9,i6 0)] [6,7,8,9] ?_
  exact am (.tuple #[i6 ((cQ m n:Nat):Int),i6 ((ao m n:Nat):Int),i6 ((aF m.way m.R m.B m.M (ao m n):Nat):Int),i6 0]) ab.zero (by by_cases c1:aF m.way m.R m.B m.M (ao m n)=fr<;>by_cases c2:fu m n<nx<;>first | (exfalso;omega) | (simp [aH,aQ,c1,c2])) [0] [] []
 refine r0 [] [(6,i6 ((cQ m n:Nat):Int)),(7,i6 ((ao m n:Nat):Int)),(8,i6 ((aF m.way m.R m.B m.M (ao m n):Nat):Int)),(9,i6 0)] [6,7,8,9] ?_
 exact am (.tuple #[i6 ((cQ m n:Nat):Int),i6 ((ao m n:Nat):Int),i6 ((aF m.way m.R m.B m.M (ao m n):Nat):Int),i6 0]) ab.zero (by by_cases c1:aF m.way m.R m.B m.M (ao m n)=fr<;>by_cases c2:fu m n<nx<;>first | (exfalso;omega) | (simp [aH,aQ,c1,c2])) [0] [] []
theorem Rr(g:Nat)(m:Mp)(hm:eC m)(kd fr t nx:Nat)(n:Int)(hn:bQ n (((m.R*m.B*m.M-m.res)*m.C:Nat):Int)=false):aa eF 185 #[.agg #[iN kd,iN fr,iN t,iN nx],pt g 0,i6 n] [pk (aG g m)] [0] (λ_=>[pk (aG g m)]) (λ_=> .tuple #[i6 0,i6 0,i6 0,i6 12]):=by
 have hG:=hm.abc
 have hly:=hm.ly
 have hnp:=hm.np
 have hbmc:=hG.bd.bmc
 have hc1:=hG.bd.c1
 have hm1:=hG.bd.m1
 have hc64:=hG.bd.c64
 have hr8:=hG.bd.r8
 refine fG Tryz.func185 λw cs=>?_
 exact ra (λq1=>[(3,pt (B0 q1) 0),(6,i6 0),(7,i6 0),(8,i6 0),(9,i6 0)]) (λq1=>[ob (B0 q1) #[iN kd,iN fr,iN t,iN nx] 70]) λq1=>r0 [(2,.c [0] [0] (QY g m hm n hn)),] [(6,i6 0),(7,i6 0),(8,i6 0),(9,i6 12)] [6,7,8,9] (rT [(3,.d),(4,.d),(5,.d),(6,.d)] 27 (r0 [] [(6,i6 0),(7,i6 0),(8,i6 0),(9,i6 12)] [6,7,8,9] (lf ab.zero [0] [] [])))
theorem Rs(g:Nat)(m:Mp)(hm:eC m)(j:Jb)(hj:ta m j)(n:Nat)(hn:n<(m.R*m.B*m.M-m.res)*m.C):aa eF 185 #[.agg #[iN j.aa2,iN j.fr,iN j.tg,iN j.nx],pt g 0,iN n] [pk (aG g m)] [0] (λ_=>[pk (aG g m)]) (λ_=> .tuple #[i6 ((aH m j n:Nat):Int),i6 ((ao m n:Nat):Int),i6 ((aF m.way m.R m.B m.M (ao m n):Nat):Int),i6 0]):=by
 obtain⟨kd,fr,t,nx⟩:=j
 rcases hj.k with h | ⟨hk,h⟩ | ⟨hk,h⟩
 ·cases h;exact Rn g m hm n hn
 ·cases hk;exact Ro g m hm fr t nx h n hn
 ·cases hk;exact Rq g m hm fr t nx h n hn
def kU(m:Mp)(j:Jb):Bool:=decide (j.aa2≠0)&&decide (j.nx=eK j.aa2 m.B m.M m.C)
theorem Fw(m:Mp)(hm:eC m)(kd fr t nx:Nat)(hk:kd=1∨kd=2):aa eF 211 #[.agg #[iN kd,iN fr,iN t,iN nx],.agg #[iN m.R,iN m.S,iN m.B,iN m.M,iN m.C,iN m.way,iN m.res]] [] [] N0 (λ_=> .bool (kU m ⟨kd,fr,t,nx⟩)):=by
 rcases hk with rfl | rfl
 ·exact Rc fr t nx m.R m.S m.B m.M m.C m.way m.res hm.ly
 ·exact Rd fr t nx m.R m.S m.B m.M m.C m.way m.res hm.ly
theorem Ru(g:Nat)(m:Mp)(hm:eC m)(j:Jb)(hj:ta m j)(i:Nat)(hi:i<eK j.aa2 m.B m.M m.C):aa eF 119 #[.agg #[iN j.aa2,iN j.fr,iN j.tg,iN j.nx],pt g 0,iN i] [pk (aG g m)] [0] (λ_=>[pk (aG g m)]) (λ_=> .tuple #[i6 ((aQ m j.aa2 j.fr i:Nat):Int),i6 0]):=by
 obtain⟨kd,fr,t,nx⟩:=j
 rcases hj.k with h | ⟨hk,h⟩ | ⟨hk,h⟩
 ·cases h;exact absurd hi (jg i)
 ·cases hk;exact Rj g m hm fr t nx h i hi
 ·cases hk;exact Rk g m hm fr t nx h i hi
theorem Rv(g:Nat)(m:Mp)(hm:eC m)(j:Jb)(hj:ta m j)(i:Nat)(hi:i<eK j.aa2 m.B m.M m.C):aa eF 120 #[.agg #[iN j.aa2,iN j.fr,iN j.tg,iN j.nx],pt g 0,iN i] [pk (aG g m)] [0] (λ_=>[pk (aG g m)]) (λ_=> .tuple #[i6 ((aQ m j.aa2 j.tg i:Nat):Int),i6 0]):=by
 obtain⟨kd,fr,t,nx⟩:=j
 rcases hj.k with h | ⟨hk,h⟩ | ⟨hk,h⟩
 ·cases h;exact absurd hi (jg i)
 ·cases hk;exact Fu g m hm fr t nx h i hi
 ·cases hk;exact Fv g m hm fr t nx h i hi
structure Ak where
 k:Nat
 w:Nat
deriving DecidableEq
def aJ:Ak:=⟨0,0⟩
def tf(x:Ak):List Value:=[iN x.k,iN x.w]
def mW:Kd eF Ak:=⟨tf,[i6 0,i6 0],351,285,aJ,2,λ_=>rfl,rfl,λ_=>rfl,d9.mk' Kr Kr rfl⟩
abbrev fv(v:Value)(xs:List Ak):az:= .p (ap tf ([i6 0,i6 0]) 285 v xs)
def mX(arr:List Ak)(a i:Nat):Ak:=arr.getD ((a+i)%arr.length) aJ
def pJ(arr:List Ak)(a n:Nat)(x:Ak):Bool:=(List.range n).any λj=>decide (mX arr a j=x)
theorem Fx{arr:List Ak}{a n:Nat}{x:Ak}{j:Nat}(hj:j<n)(e:mX arr a j=x):pJ arr a n x=true:=List.any_eq_true.2 ⟨j,List.mem_range.2 hj,cC e⟩
theorem Fy{arr:List Ak}{a n:Nat}{x:Ak}(h: ∀j,j<n→mX arr a j≠x):pJ arr a n x=false:=List.any_eq_false.2 λj hj=>by simpa using h j (List.mem_range.1 hj)
theorem Rw{x y:Ak}(h:((((x.k:Nat):Int)==((y.k:Nat):Int))&&((((x.w:Nat):Int)==((y.w:Nat):Int))&&true))=true):y=x:=by
 rw[na,mv,mv,Bool.and_eq_true,decide_eq_true_eq,decide_eq_true_eq] at h
 obtain⟨a,b⟩:=x;obtain⟨c,d⟩:=y
 simp only at h
 rw[h.1,h.2]
theorem Ry{x y:Ak}(h:((((x.k:Nat):Int)==((y.k:Nat):Int))&&((((x.w:Nat):Int)==((y.w:Nat):Int))&&true))=false):y≠x:=by
 intro e;subst e
 rw[na,mv,mv,cC rfl,cC rfl] at h
 cases h
theorem zL{P:Nat→Prop}{k:Nat}(h: ∀j,j<k→P j)(h1:P k): ∀j,j<k+1→P j:=λj hj=>by
 rcases Nat.lt_succ_iff_lt_or_eq.1 hj with h2 | rfl
 ·exact h j h2
 ·exact h1
structure jB (arr:List Ak) (a:Nat) (q:List Ak):Prop where
 l:arr.length=256
 lt:a<256
 n:q.length≤256
 q: ∀i,i<q.length→mX arr a i=q.getD i aJ
abbrev bK(g:Nat)(q:List Ak)(L:ah):Prop:=∃(v:Value) (arr:List Ak) (a:Nat) (hr:jB arr a q),L=[ob g #[v,iN a,i6 ((q.length:Nat):Int)] 353,fv v arr]
def qI(q:List Ak)(x:Ak):List Ak:=if x∈q then q else if q.length=256 then q else q++[x]
def vR(q:List Ak)(x:Ak):Int:=if x∈q then 15 else if q.length=256 then 14 else 0
section
variable {arr:List Ak} {a:Nat} {q:List Ak}
theorem jB.has(h:jB arr a q)(x:Ak):pJ arr a q.length x=decide (x∈q):=by
 by_cases hx:x∈q
 ·obtain⟨j,hj,e⟩:=List.getElem_of_mem hx
  rw[cC hx]
  refine Fx hj ?_
  rw[h.q j hj,dZ,jh hj];exact e
 ·rw[bj hx]
  refine Fy λj hj e=>hx ?_
  rw[h.q j hj,dZ,jh hj] at e
  exact e▸List.getElem_mem hj
theorem jB.push(h:jB arr a q)(x:Ak)(hn:q.length<256):jB (arr.set ((a+q.length)%arr.length) x) a (q++[x]):=by
 have hl:=h.l
 have ha:=h.lt
 refine⟨by rw[ir];exact h.l,h.lt,by rw[jm];show q.length+1≤256;omega,λi hi=>?_⟩
 rw[jm] at hi
 have hi:i<q.length+1:=hi
 unfold mX
 rw[ir,dZ,jw]
 by_cases e:i=q.length
 ·subst e
  rw[ALifp rfl,ALifp (ka _ Om),dZ,List.getElem?_append_right (Nat.le_refl _)]
  simp
 ·rw[ALifn (by rw[hl];omega),dZ,List.getElem?_append_left Om]
  have:=h.q i Om
  unfold mX at this
  rwa [dZ,dZ] at this
theorem jB.pop(h:jB arr a q)(hn:0<q.length):jB (arr.set a aJ) ((a+1)%(arr.set a aJ).length) q.tail:=by
 have hl:=h.l
 have ha:=h.lt
 rw[ir]
 refine⟨by rw[ir];exact h.l,by rw[hl];exact ka _ Dc,by rw[kP];have:=h.n;omega,λi hi=>?_⟩
 rw[kP] at hi
 have:=h.q (i+1) Om
 have h2:=h.n
 unfold mX at this⊢
 rw[ir,dZ,jw,ALifn (by rw[hl];omega)]
 rw[dZ] at this
 rw[show((a+1)%arr.length+i)%arr.length=(a+(i+1))%arr.length by rw[hl];omega,this,dZ,dZ,List.getElem?_tail]
theorem jB.first(h:jB arr a q)(hn:0<q.length):mX arr a 0=q.headD aJ:=by
 rw[h.q 0 hn]
 cases q with
 | nil=>cases hn
 | cons x q=>rfl
end
def mw(q:List Ak):Int:=if q.length=0 then 13 else 0
theorem Rz:jB (List.replicate 256 aJ) 0 []:=⟨by rw[List.length_replicate],by decide,by decide,λi hi=>absurd hi (jg i)⟩
end Go.Proofs.YtbcodenfkijdnaaGreat.E
namespace Go.Proofs.YtbcodenfkijdnaaGreat.E
open Go Go.RowKit Go.Shelf
open List renaming getD_eq_getElem?_getD→dZ,length_map→ir,length_range→jg,length_tail→jh,length_take→jm,getElem?_eq_getElem→jw,length_append→kP,getElem?_set→nN,length_set→oG,replicate→po
open Go.Proofs.Tryz renaming prog→eF
open Bool renaming or_eq_false_iff→ka
open Nat renaming zero_le→na,mod_lt→n7
theorem vT(g:Nat)(v:Value)(arr:List Ak)(a n i:Nat)(hl:arr.length=256)(ha:a<256)(hi:i≤256):aa eF 283 #[pt g 0,iN i] [ob g #[v,iN a,iN n] 353,.p (aK tf v arr)] [] N0 (λ_=>i6 (((a+i)%arr.length:Nat):Int)):=by
 refine fO Tryz.func283 1 rfl λbq1 hq1=>?_
 refine fG Tryz.func283 λw cs=>?_
 exact r0 [] [(4,i6 0)] [] (r0 [(3,.m (ld 0 (iN a))),(5,ad a i),(9,.m (ld 0 (v))),(10,eR hq1.1 1),(11,.t (tb (a:=i6 ((a+i:Nat):Int)) (b:=iN arr.length) λ_ _ _ _=>om (a:=a+i) (d:=arr.length) Om))] [(4,i6 (((a+i)%arr.length:Nat):Int))] [4] (lf ab.zero [] [(0,0),(1,1)] []))
theorem RA(g:Nat):aa eF 282 #[pt g 0] [] [] (λE=>[ob (E.abd 0) #[pt g 0] 131]) (λE=> .func (.func 287) #[] #[pt ((E.abd 0)) 0]):=by
 refine fG Tryz.func282 λw cs=>?_
 exact ra (λq1=>[(1,pt (B0 q1) 0),(2,.nilFunc)]) (λq1=>[ob (B0 q1) #[pt g 0] 131]) λq1=>r0 [] [(2,.func (.func 287) #[] #[pt (B0 q1) 0])] [2] (lf (.l [(q1 0).abd 0] [] []) [0] [] [])
theorem RB(b g:Nat)(v:Value)(arr:List Ak)(a n:Nat)(bs:aw)(hq:aK tf v arr bs)(hl:arr.length=256)(ha:a<256)(hn:n≤256):fy 5 eF 287 #[pt b 0] (λ(x:Nat×Ak)=>#[i6 (x.1:Int),.agg #[i6 (x.2.k:Int),i6 (x.2.w:Int)]]) ((List.range n).map λk=>(k,arr.getD ((a+k)%arr.length) aJ)) (List.flatten [[(b,.cells #[pt g 0] 131 (0,0))],[(g,.cells #[v,iN a,iN n] 353 (0,0))],bs]):=by
 refine gi (KO:=[[(b,.cells #[pt g 0] 131 (0,0))],[(g,.cells #[v,iN a,iN n] 353 (0,0))],bs]) Tryz.func287 (λlY JY JX WI RI hJ hY hI=>?_)
 refine r0 [(0,.l 0),(3,.l 1)] [(7,iN n),(8,i6 0)] [] ?_
 refine kk (λk=>k≤n) (λk=>[(8,iN k)]) (λ_ L=>L) (λk=>n-k) (λk=>k) 0 Om hI Kr Kr (λk R4 W5 hk2 hI3=>?_)
 have hmd:(a+k)%arr.length<arr.length:=n7 _ Om
 refine r0 [] [(9,.bool (decide ((k:Int)<(n:Int))))] [] ?_
 refine cj (k:Int) (n:Int) (λh7 dh7=>?_) λh7 dh7=>?_
 ·refine r0 [] [(3,iN k)] [] ?_
  refine iy hJ hY hI3 11 (λ_=>[(2,.l 0),(5,.l 1),(6,.l 0),(8,.c [1,2] [] (aa.at (rd':=[ob g #[v,iN a,iN n] 353,.c bs]) (vT g v arr a n k (by(simp only[LL,hl];done)) Om Om) (ak (em hq (λ_ h=>h))))),(9,fF hq.1 2 ((a+k)%arr.length) 2),(10,nC mW hq.1 2 ((a+k)%arr.length) 0 2)]) (λ_=>[(11,.func (.yield lY) #[] #[]),(12,iN k),(21,.agg #[i6 (((arr.getD ((a+k)%arr.length) aJ).k:Nat):Int),i6 (((arr.getD ((a+k)%arr.length) aJ).w:Nat):Int)])]) [] (λ_ L=>L) N0 [0,1,2] (o4 Om) (λq9 R10 W11 hI12=>?_)
  refine cF _ rfl (r0 [(0,ad k 1)] [(8,i6 ((k+1:Nat):Int))] [8] ?_)
  exact jc (k+1) Om hI12 Om Kr [0,1,2] Kr
 obtain rfl:n=k:=by omega
 refine km ?_
 exact lH hJ hI3 (by rw[ir,jg]) [] [0,1,2]
theorem zM(g:Nat)(v:Value)(arr:List Ak)(a n:Nat)(x:Ak)(hl:arr.length=256)(ha:a<256)(hn:n≤256):aa eF 267 #[pt g 0,.agg #[iN x.k,iN x.w]] [ob g #[v,iN a,iN n] 353,.p (aK tf v arr)] [] N0 (λ_=> .bool (pJ arr a n x)):=by
 refine fO Tryz.func267 1 rfl λbq1 hq1=>?_
 refine fG Tryz.func267 λw cs=>?_
 refine ra (λq1=>[(3,pt (B0 q1) 0),(4,pt (B1 q1) 0)]) (λq1=>[ob (B0 q1) #[iN x.k,iN x.w] 285,ob (B1 q1) #[.bool false] 4]) λq1=>rr (λ_=>[(1,.c [] [4] (RA g))]) (λq2=>[(8,.func (.func 287) #[] #[pt ((B1 q2)) 0])]) [] (λq2 L=>L++[ob (B1 q2) #[pt g 0] 131]) λq2=>?_
 refine xY (encs:=λ(x:Nat×Ak)=>#[i6 (x.1:Int),.agg #[i6 (x.2.k:Int),i6 (x.2.w:Int)]]) (xs:=(List.range n).map λk=>(k,arr.getD ((a+k)%arr.length) aJ)) (KO:=[[((B1 q2),.cells #[pt g 0] 131 (0,0))],[(g,.cells #[v,iN a,iN n] 353 (0,0))],bq1]) (RB (B1 q2) g v arr a n bq1 hq1 (by(simp only[LL,hl];done)) Om Om) (enters_of Tryz.func287 Kr rfl) (λk=>k≤n∧(∀j,j<k→mX arr a j≠x)) (λ_ L=>L) (λc k=>(c=Code.ret∧(∃j,j+1=k∧mX arr a j=x))) (λ_ _ L=>L.set 3 (ob (B1 q1) #[.bool true] 4)) [4,0,1] ⟨by omega,(λ_ h=>absurd h (Nat.not_lt_zero _))⟩ Kr (λlR k xE R1 W1 hxE ⟨hk4,hw⟩=>?_) (λD3 ⟨hk4,hw⟩=>?_) λD3 c k hi hX=>?_
 ·obtain⟨hkb5,rfl⟩:=oh hxE
  refine rr (λ_=>[(1,.s 5)]) (λq6=>[(6,pt (B0 q6) 0)]) [] (λq6 L=>L++[ob (B0 q6) #[i6 (((arr.getD ((a+k)%arr.length) aJ).k:Nat):Int),i6 (((arr.getD ((a+k)%arr.length) aJ).w:Nat):Int)] 285]) λq6=>?_
  refine ag [4,0,1] (λR2 W2=>?_)
  refine r0 [(0,.l 2),(1,.l 5),(2,.e)] [(13,.bool ((x.k:Int)==(((arr.getD ((a+k)%arr.length) aJ).k:Nat):Int)&&((x.w:Int)==(((arr.getD ((a+k)%arr.length) aJ).w:Nat):Int)&&true)))] [] ?_
  refine cB (((x.k:Int)==(((arr.getD ((a+k)%arr.length) aJ).k:Nat):Int)&&((x.w:Int)==(((arr.getD ((a+k)%arr.length) aJ).w:Nat):Int)&&true))) (λh8=>?_) λh8=>?_
  ·refine rr (λ_=>[(0,.s 3)]) N0 [] (λ_ L=>L.set 3 (ob (B1 q1) #[.bool true] 4)) λq9=>?_
   exact nr _ ⟨⟨rfl,⟨_,rfl,Rw As⟩⟩,rfl⟩ [0,1,2,3,4] Kr
  exact ne _ ⟨⟨by omega,zL hw (Ry As)⟩,rfl⟩ [0,1,2,3,4] Kr
 ·simp only[ir,jg] at hk4
  refine r0 [(0,.s 3)] [] [] ?_
  exact am (.bool false) ab.zero (by(simp only[ir,jg] at hw;rw[Fy hw])) [] [(0,0),(1,1)] [3]
 obtain⟨rfl,hx0⟩:=hX
 exact am (.bool true) ab.zero (by(obtain⟨j,hj,hn⟩:=hx0;have hi2:=hi;simp only[ir,jg] at hi2;rw[Fx (j:=j) Om hn])) [] [(0,0),(1,1)] [3]
theorem RC(g:Nat)(v:Value)(arr:List Ak)(a:Nat)(q:List Ak)(hr:jB arr a q)(x:Ak)(hq:q.length<256):aa eF 268 #[pt g 0,.agg #[iN x.k,iN x.w]] [ob g #[v,iN a,iN q.length] 353,fv v arr] [0,1] (λ_=>[ob g #[v,iN a,i6 ((q.length+1:Nat):Int)] 353,fv v (arr.set ((a+q.length)%arr.length) x)]) (λ_=>i6 0):=by
 have hl:=hr.l
 have ha:=hr.lt
 have hn:=hr.n
 have hmd:(a+q.length)%arr.length<arr.length:=n7 _ Om
 refine fG Tryz.func268 λw cs=>?_
 exact ra (λq1=>[(3,pt (B0 q1) 0),(4,i6 0)]) (λq1=>[ob (B0 q1) #[iN x.k,iN x.w] 285]) λq1=>rF [(3,.l 0),(7,.l 0),(8,fC mW v arr 1),(9,.t (tk (show Value.bool ((q.length:Int)==(arr.length:Int))= .bool false from ALca Value.bool (by rw[dp];omega))))] 14 (rs [(3,.m (ld 0 (v))),(8,.m (ld 0 (iN q.length))),(9,.c [0,1] [] (aa.at (rd':=[ob g #[v,iN a,iN q.length] 353,fv v arr]) (vT g v arr a q.length q.length (by(simp only[LL,hl];done)) Om Om) (ak (bO (λ_ h=>ap.sq h) (λ_ h=>h))))),(10,.m (ls 2 ([iN x.k,iN x.w]))),(11,cU mW v arr 1 ((a+q.length)%arr.length)),(12,sh mW v arr 1 ((a+q.length)%arr.length) x)] 1 (fv v (arr.set ((a+q.length)%arr.length) x)) (rs [(3,.l 0),(4,ad q.length 1),(7,.s 0)] 0 (ob g #[v,iN a,i6 ((q.length+1:Nat):Int)] 353) (r0 [] [(4,i6 0)] [4] (lf ab.zero [0,1] [] []))))
theorem RD(g:Nat)(v:Value)(arr:List Ak)(a:Nat)(q:List Ak)(hr:jB arr a q)(x:Ak)(hq:q.length=256):aa eF 268 #[pt g 0,.agg #[iN x.k,iN x.w]] [ob g #[v,iN a,iN q.length] 353,fv v arr] [1] (λ_=>[fv v arr]) (λ_=>i6 14):=by
 have hl:=hr.l
 have ha:=hr.lt
 have hn:=hr.n
 refine fG Tryz.func268 λw cs=>?_
 exact ra (λq1=>[(3,pt (B0 q1) 0),(4,i6 0)]) (λq1=>[ob (B0 q1) #[iN x.k,iN x.w] 285]) λq1=>rT [(3,.l 0),(7,.l 0),(8,fC mW v arr 1),(9,.t (tk (show Value.bool ((q.length:Int)==(arr.length:Int))= .bool true from ALca Value.bool (by rw[hl,hq];rfl))))] 14 (r0 [] [(4,i6 14)] [4] (lf ab.zero [1] [(0,0)] []))
theorem RE(g:Nat)(q:List Ak)(x:Ak)(hx:x∈q):aa eF 242 #[pt g 0,.agg #[iN x.k,iN x.w]] [pk (bK g q)] [0] (λ_=>[pk (bK g q)]) (λ_=>i6 15):=aa.pkZ Tryz.func242 λL hL=>by
 obtain⟨v,arr,a,hr,rfl⟩:=hL
 refine⟨[1],λ_=>[fv v arr],?_,rfl,λE=>⟨rfl,rfl,⟨_,_,_,hr,rfl⟩⟩⟩
 have hl:=hr.l
 have ha:=hr.lt
 have hn:=hr.n
 refine fG Tryz.func242 λw cs=>?_
 exact ra (λq1=>[(3,pt (B0 q1) 0),(4,i6 0)]) (λq1=>[ob (B0 q1) #[iN x.k,iN x.w] 285]) λq1=>rT [(1,.l 2),(2,.c [0,1] [] (aa.v ((aa.at (rd':=[ob g #[v,iN a,iN q.length] 353,fv v arr]) (zM g v arr a q.length x (by(simp only[LL,hl];done)) Om Om) (ak (bO (λ_ h=>ap.sq h) (λ_ h=>h))))) λ_=>ALca Value.bool (show(pJ arr a q.length x)=true from(by rw[hr.has,cC hx]))))] 7 (r0 [] [(4,i6 15)] [4] (lf ab.zero [1] [(0,0)] []))
theorem RF(g:Nat)(q:List Ak)(x:Ak)(hx:x∉q)(hq:q.length=256):aa eF 242 #[pt g 0,.agg #[iN x.k,iN x.w]] [pk (bK g q)] [0] (λ_=>[pk (bK g q)]) (λ_=>i6 14):=aa.pkZ Tryz.func242 λL hL=>by
 obtain⟨v,arr,a,hr,rfl⟩:=hL
 refine⟨[1],λ_=>[fv v arr],?_,rfl,λE=>⟨rfl,rfl,⟨_,_,_,hr,rfl⟩⟩⟩
 have hl:=hr.l
 have ha:=hr.lt
 have hn:=hr.n
 refine fG Tryz.func242 λw cs=>?_
 exact ra (λq1=>[(3,pt (B0 q1) 0),(4,i6 0)]) (λq1=>[ob (B0 q1) #[iN x.k,iN x.w] 285]) λq1=>rF [(1,.l 2),(2,.c [0,1] [] (aa.v ((aa.at (rd':=[ob g #[v,iN a,iN q.length] 353,fv v arr]) (zM g v arr a q.length x (by(simp only[LL,hl,hq];done)) Om Om) (ak (bO (λ_ h=>ap.sq h) (λ_ h=>h))))) λ_=>ALca Value.bool (show(pJ arr a q.length x)=false from(by rw[hr.has,bj hx]))))] 7 (r0 [(1,.l 2),(2,.c [0,1] [1] (RD g v arr a q hr x (by(simp only[LL,hl,hq];done))))] [(4,i6 14)] [4] (lf ab.zero [1] [(0,0)] []))
theorem RG(g:Nat)(q:List Ak)(x:Ak)(hx:x∉q)(hq:q.length<256):aa eF 242 #[pt g 0,.agg #[iN x.k,iN x.w]] [pk (bK g q)] [0] (λ_=>[pk (bK g (q++[x]))]) (λ_=>i6 0):=aa.pkZ Tryz.func242 λL hL=>by
 obtain⟨v,arr,a,hr,rfl⟩:=hL
 refine⟨[0,1],λ_=>[ob g #[v,iN a,i6 ((q.length+1:Nat):Int)] 353,fv v (arr.set ((a+q.length)%arr.length) x)],?_,rfl,λE=>⟨rfl,rfl,⟨_,_,_,hr.push x hq,ALca (λn:Nat=>[ob g #[v,iN a,iN n] _,_]) (show q.length+1=(q++[x]).length by rw[kP];rfl)⟩⟩⟩
 have hl:=hr.l
 have ha:=hr.lt
 have hn:=hr.n
 refine fG Tryz.func242 λw cs=>?_
 exact ra (λq1=>[(3,pt (B0 q1) 0),(4,i6 0)]) (λq1=>[ob (B0 q1) #[iN x.k,iN x.w] 285]) λq1=>rF [(1,.l 2),(2,.c [0,1] [] (aa.v ((aa.at (rd':=[ob g #[v,iN a,iN q.length] 353,fv v arr]) (zM g v arr a q.length x (by(simp only[LL,hl];done)) Om Om) (ak (bO (λ_ h=>ap.sq h) (λ_ h=>h))))) λ_=>ALca Value.bool (show(pJ arr a q.length x)=false from(by rw[hr.has,bj hx]))))] 7 (rr (λ_=>[(1,.l 2),(2,.c [0,1] [0,1] (RC g v arr a q hr x Om))]) (λ_=>[(4,i6 0)]) [4] (λ_ L=>(L.set 0 (ob g #[v,iN a,i6 ((q.length+1:Nat):Int)] 353)).set 1 (fv v (arr.set ((a+q.length)%arr.length) x))) λq3=>lf ab.zero [0,1] [] [])
theorem RH(g:Nat)(v:Value)(arr:List Ak)(a:Nat)(q:List Ak)(hr:jB arr a q)(hq:0<q.length):aa eF 269 #[pt g 0,i6 0] [ob g #[v,iN a,iN q.length] 353,fv v arr] [0,1] (λ_=>[ob g #[v,i6 (((a+1)%(arr.set a (⟨0,0⟩:Ak)).length:Nat):Int),i6 ((q.length-1:Nat):Int)] 353,fv v (arr.set a (⟨0,0⟩:Ak))]) (λ_=> .tuple #[.agg #[i6 (((arr.getD ((a+0)%arr.length) aJ).k:Nat):Int),i6 (((arr.getD ((a+0)%arr.length) aJ).w:Nat):Int)],i6 0]):=by
 have hl:=hr.l
 have ha:=hr.lt
 have hn:=hr.n
 have hmd:(a+0)%arr.length<arr.length:=n7 _ Om
 refine fG Tryz.func269 λw cs=>?_
 refine ra (λq1=>[(4,pt (B0 q1) 0),(5,i6 0)]) (λq1=>[ob (B0 q1) #[i6 0,i6 0] 285]) λq1=>ra (λq2=>[(6,pt (B0 q2) 0)]) (λq2=>[ob (B0 q2) #[i6 0,i6 0] 285]) λq2=>r0 [(7,.l 0)] [(18,.bool (decide ((q.length:Int)≤0)))] [] ?_
 have h4:(decide ((q.length:Int)≤0))=false:=by exact bj Om
 refine cF (decide ((q.length:Int)≤0)) h4 (rr (λ_=>[(3,.l 0),(6,.c [0,1] [] (aa.at (rd':=[ob g #[v,iN a,iN q.length] 353,fv v arr]) (vT g v arr a q.length 0 (by(simp only[LL,hl];done)) Om Om) (ak (bO (λ_ h=>ap.sq h) (λ_ h=>h))))),(7,cU mW v arr 1 ((a+0)%arr.length)),(8,qm mW v arr 1 ((a+0)%arr.length) 0 2),(10,.s 4)]) (λq5=>[(7,pt ((q5 9).abd 0) 0)]) [] (λq5 L=>L++[ob ((q5 9).abd 0) #[i6 (((arr.getD ((a+0)%arr.length) aJ).k:Nat):Int),i6 (((arr.getD ((a+0)%arr.length) aJ).w:Nat):Int)] 285]) λq5=>r0 [] [(8,i6 0)] [] ?_)
 refine lq (λk=>k≤0) (λ_=>[(8,i6 0)]) (λ_ L=>L) (λk=>0-k) 0 Om Kr Kr (λk hk7=>?_)
 refine rF [] 31 ?_
 refine lx ?_
 exact rs [(3,.l 0),(7,.l 0),(8,.l 3),(9,cU mW v arr 1 a),(10,sh mW v arr 1 a (⟨0,0⟩:Ak))] 1 (fv v (arr.set a (⟨0,0⟩:Ak))) (rs [(2,.c [0,1] [] (aa.at (rd':=[ob g #[v,iN a,iN q.length] 353,fv v (arr.set a (⟨0,0⟩:Ak))]) (vT g v (arr.set a (⟨0,0⟩:Ak)) a q.length 1 (by(simp only[LL,hl];done)) Om Om) (ak (bO (λ_ h=>ap.sq h) (λ_ h=>h))))),(5,.s 0)] 0 (ob g #[v,i6 (((a+1)%(arr.set a (⟨0,0⟩:Ak)).length:Nat):Int),iN q.length] 353) (rs [(3,.l 0),(4,.t (tb (a:=iN q.length) (b:=i6 1) λ_ _ _ _=>mo (a:=q.length) (b:=1) Om Om)),(7,.s 0)] 0 (ob g #[v,i6 (((a+1)%(arr.set a (⟨0,0⟩:Ak)).length:Nat):Int),i6 ((q.length-1:Nat):Int)] 353) (rr (λ_=>[(0,.l 4),(1,.s 2)]) (λ_=>[(5,i6 0)]) [5] (λ_ L=>L.set 2 (ob (B0 q1) #[i6 (((arr.getD ((a+0)%arr.length) aJ).k:Nat):Int),i6 (((arr.getD ((a+0)%arr.length) aJ).w:Nat):Int)] 285)) λq12=>lf ab.zero [0,1] [] [2])))
theorem RJ(g:Nat)(q:List Ak)(hq:0<q.length):aa eF 247 #[pt g 0] [pk (bK g q)] [0] (λ_=>[pk (bK g q.tail)]) (λ_=> .tuple #[.agg #[i6 (((q.headD aJ).k:Nat):Int),i6 (((q.headD aJ).w:Nat):Int)],i6 0]):=aa.pkZ Tryz.func247 λL hL=>by
 obtain⟨v,arr,a,hr,rfl⟩:=hL
 refine⟨[0,1],λ_=>[ob g #[v,i6 (((a+1)%(arr.set a (⟨0,0⟩:Ak)).length:Nat):Int),i6 ((q.length-1:Nat):Int)] 353,fv v (arr.set a (⟨0,0⟩:Ak))],?_,rfl,λE=>⟨rfl,rfl,⟨_,_,_,hr.pop hq,ALca (λn:Nat=>[ob g #[v,i6 (((a+1)%(arr.set a (⟨0,0⟩:Ak)).length:Nat):Int),iN n] _,_]) (show q.length-1=q.tail.length by rw[jh])⟩⟩⟩
 have hl:=hr.l
 have ha:=hr.lt
 have hn:=hr.n
 refine fG Tryz.func247 λw cs=>?_
 refine ra (λq1=>[(2,pt (B0 q1) 0),(3,i6 0)]) (λq1=>[ob (B0 q1) #[i6 0,i6 0] 285]) λq1=>rr (λ_=>[(1,.c [0,1] [0,1] (RH g v arr a q hr Om)),(4,.s 2)]) (λ_=>[(3,i6 0)]) [3] (λ_ L=>((L.set 0 (ob g #[v,i6 (((a+1)%(arr.set a (⟨0,0⟩:Ak)).length:Nat):Int),i6 ((q.length-1:Nat):Int)] 353)).set 1 (fv v (arr.set a (⟨0,0⟩:Ak)))).set 2 (ob (B0 q1) #[i6 (((arr.getD ((a+0)%arr.length) aJ).k:Nat):Int),i6 (((arr.getD ((a+0)%arr.length) aJ).w:Nat):Int)] 285)) λq2=>?_
 exact am (.tuple #[.agg #[i6 (((arr.getD ((a+0)%arr.length) aJ).k:Nat):Int),i6 (((arr.getD ((a+0)%arr.length) aJ).w:Nat):Int)],i6 0]) ab.zero (by rw[←hr.first hq];rfl) [0,1] [] [2]
theorem RK(g:Nat)(v:Value)(arr:List Ak)(a:Nat)(q:List Ak)(hr:jB arr a q)(hq:q.length=0):aa eF 269 #[pt g 0,i6 0] [ob g #[v,iN a,iN q.length] 353,fv v arr] [1] (λ_=>[fv v arr]) (λ_=> .tuple #[.agg #[i6 0,i6 0],i6 13]):=by
 have hl:=hr.l
 have ha:=hr.lt
 have hn:=hr.n
 refine fG Tryz.func269 λw cs=>?_
 refine ra (λq1=>[(4,pt (B0 q1) 0),(5,i6 0)]) (λq1=>[ob (B0 q1) #[i6 0,i6 0] 285]) λq1=>ra (λq2=>[(6,pt (B0 q2) 0)]) (λq2=>[ob (B0 q2) #[i6 0,i6 0] 285]) λq2=>r0 [(7,.l 0)] [(18,.bool (decide ((q.length:Int)≤0)))] [] ?_
 have h4:(decide ((q.length:Int)≤0))=true:=by exact cC Om
 exact cT (decide ((q.length:Int)≤0)) h4 (r0 [(0,.l 3),(1,.s 2)] [(5,i6 13)] [5] (lf ab.zero [1] [(0,0)] [2]))
theorem RL(g:Nat)(q:List Ak)(hq:q.length=0):aa eF 247 #[pt g 0] [pk (bK g q)] [0] (λ_=>[pk (bK g q)]) (λ_=> .tuple #[.agg #[i6 0,i6 0],i6 13]):=aa.pkZ Tryz.func247 λL hL=>by
 obtain⟨v,arr,a,hr,rfl⟩:=hL
 refine⟨[1],λ_=>[fv v arr],?_,rfl,λE=>⟨rfl,rfl,⟨_,_,_,hr,rfl⟩⟩⟩
 have hl:=hr.l
 have ha:=hr.lt
 have hn:=hr.n
 refine fG Tryz.func247 λw cs=>?_
 exact ra (λq1=>[(2,pt (B0 q1) 0),(3,i6 0)]) (λq1=>[ob (B0 q1) #[i6 0,i6 0] 285]) λq1=>r0 [(1,.c [0,1] [1] (RK g v arr a q hr (by(simp only[LL,hl,hq];done)))),(4,.s 2)] [(3,i6 13)] [3] (lf ab.zero [1] [(0,0)] [2])
theorem Fz(g:Nat)(q:List Ak):aa eF 247 #[pt g 0] [pk (bK g q)] [0] (λ_=>[pk (bK g q.tail)]) (λ_=> .tuple #[.agg #[i6 ((q.headD aJ).k:Int),i6 ((q.headD aJ).w:Int)],i6 (mw q)]):=by
 cases q with
 | nil=>exact RL g [] rfl
 | cons x q=>exact RJ g (x::q) (Nat.succ_pos _)
theorem RM:aa eF 176 #[i6 256] [] [] (λE=>[ob (E.abd 0) #[(E.val 0),i6 0,i6 0] 353,fv (E.val 0) (po 256 aJ)]) (λE=> .tuple #[pt ((E.abd 0)) 0,i6 0]):=by
 refine fG Tryz.func176 λw cs=>?_
 exact r0 [] [(2,.pointer none),(3,i6 0)] [] (rF [] 9 (rr (λ_=>[(1,su mW 0 256)]) (λq3=>[(2,pt (B3 q3) 0),(3,i6 0)]) [2,3] (λq3 L=>L++[fv (.slice (some ⟨(q3 1).abd 0,0,none⟩) 256 256) (po 256 aJ),ob (B3 q3) #[.slice (some ⟨(q3 1).abd 0,0,none⟩) 256 256,i6 0,i6 0] 353]) λq3=>lf (.l [(q3 3).abd 0] [] [.slice (some ⟨(q3 1).abd 0,0,none⟩) 256 256]) [1,0] [] []))
theorem RN:aa eF 176 #[i6 256] [] [] (λE=>[pk (bK (E.abd 0) [])]) (λE=> .tuple #[pt ((E.abd 0)) 0,i6 0]):=(RM).outs λE ds hs=>s5 ⟨_,_,_,Rz,rfl⟩ hs
structure Ev where
 k:Nat
 f:Nat
 t:Nat
deriving DecidableEq
def cV:Ev:=⟨0,0,0⟩
def zN(x:Ev):List Value:=[iN x.k,iN x.f,iN x.t]
def jC:Kd eF Ev:=⟨zN,[i6 0,i6 0,i6 0],271,349,cV,3,λ_=>rfl,rfl,λ_=>rfl,d9.mk' Kr Kr rfl⟩
abbrev bg(v:Value)(xs:List Ev):az:= .p (ap zN ([i6 0,i6 0,i6 0]) 349 v xs)
structure Rp where
 m:Mp
 j:Jb
 q:List Ak
structure eL (m:Mp) (a:Ak):Prop where
 k:(a.k=1∧a.w<m.R*m.B*m.M)∨(a.k=2∧a.w<m.R)
structure RO (m:Mp):Prop where
 aa4: ∀x,m.R*m.B*m.M-m.res+m.aba≤x→m.aa4.getD x false=false
structure aN (r:Rp):Prop where
 m:eC r.m
 j:ta r.m r.j
 q: ∀a∈r.q,eL r.m a
 n:r.q.length≤256
 fr:RO r.m
abbrev aq(g gm gq:Nat)(r:Rp)(L:ah):Prop:=L=[ob g #[pt gm 0,iN r.j.aa2,iN r.j.fr,iN r.j.tg,iN r.j.nx,pt gq 0] 133,pk (aG gm r.m),pk (bK gq r.q)]
def qJ(r:Rp)(w:Nat):Bool:=(r.m.aa4.getD w false||(dD r.m&&decide (dN r.m≤w)))||(decide (r.j.aa2=1)&&decide (r.j.fr=w))
def qK(r:Rp)(w:Nat):Bool:=dM r.m w||(decide (r.j.aa2=2)&&decide (r.j.fr=w))
def dh(r:Rp)(a:Ak):Bool:=bif a.k==1 then qJ r a.w else qK r a.w
def zO(a:Ak):List Ev:=[⟨5,a.w,a.k-1⟩]
def dn(r:Rp)(a:Ak):Rp:=bif a.k==1 then(bif dD r.m then{r with m:=qE r.m,j:=⟨1,a.w,dN r.m,0⟩} else r) else(bif eh r.m then{r with m:=qF r.m,j:=⟨2,a.w,ft r.m,0⟩} else r)
def gu(r:Rp)(a:Ak):List Ev:=bif a.k==1 then(bif dD r.m then[⟨3,a.w,dN r.m⟩] else zO a) else(bif eh r.m then[⟨4,a.w,ft r.m⟩] else zO a)
def bp(r:Rp)(a:Ak):Rp:=bif dh r a then r else bif r.j.aa2==0 then dn r a else{r with q:=qI r.q a}
def bS(r:Rp)(a:Ak):List Ev:=bif dh r a then[] else bif r.j.aa2==0 then gu r a else bif vR r.q a==14 then zO a else[]
def aX(r:Rp):Rp:={r with q:=r.q.tail}
def gP(s:Rp×List Ev):Rp×List Ev:=bif dh (aX s.1) (s.1.q.headD aJ) then(aX s.1,s.2) else(dn (aX s.1) (s.1.q.headD aJ),s.2++gu (aX s.1) (s.1.q.headD aJ))
def af(s:Rp×List Ev):Nat→Rp×List Ev
 | 0=>s
 | k+1=>gP (af s k)
def fc:Nat→Rp×List Ev→Rp×List Ev
 | 0,s=>s
 | n+1,s=>if s.1.j.aa2=0 then fc n (gP s) else s
def hZ(r:Rp):Rp:={r with m:=bif r.j.aa2==1 then ky r.m r.j.fr r.j.tg else jz r.m r.j.fr r.j.tg,j:=kz}
def ae(r:Rp):Rp×List Ev:=(hZ r,[⟨6,r.j.fr,r.j.tg⟩])
def cX(r:Rp):Rp×List Ev:=fc r.q.length (ae r)
def bv(r:Rp):Rp:={r with j:={r.j with nx:=r.j.nx+1}}
def eT(r:Rp):Rp×List Ev:=bif kU r.m (bv r).j then cX (bv r) else(bv r,[])
section
variable {m:Mp}
theorem RP(h:eC m)(hp:dD m=true):eC (qE m):=by
 have:m.aba≠m.res:=by unfold dD at hp;simpa using hp
 have:=h.pg
 exact⟨h.ly,h.ll,h.ld,h.ls,by show m.aba+1≤m.res;omega,h.rk,h.lv,h.sp⟩
theorem RQ(h:eC m)(hp:eh m=true):eC (qF m):=by
 have:m.abb≠m.S:=by unfold eh at hp;simpa using hp
 have:=h.rk
 exact⟨h.ly,h.ll,h.ld,h.ls,h.pg,by show m.abb+1≤m.S;omega,h.lv,h.sp⟩
theorem RR{l:List Nat}{h t k n b:Nat}(hl: ∀i,i<n→l.getD i 0<b)(hn:n=l.length)(ht:t<b): ∀i,i<n→(dG l h t k).getD i 0<b:=by
 intro i hi
 by_cases hk:i<k
 ·unfold dG
  rw[dZ,List.getElem?_append_left (by rw[ir,jm];omega),List.getElem?_map,List.getElem?_take,ALifp hk,jw Om]
  have:=hl i hi
  rw[dZ,jw Om] at this
  show(if _=h then t else _)<b
  split
  ·exact ht
  ·exact this
 ·unfold dG
  rw[dZ,List.getElem?_append_right (by rw[ir,jm];omega),ir,jm,List.getElem?_drop,show k+(i-min k l.length)=i by omega,←dZ]
  exact hl i hi
theorem RS(h:eC m){x t:Nat}(ht:t<m.R*m.B*m.M):eC (ky m x t):=
 ⟨h.ly,(Fg ..).trans h.ll,by show(m.aa4.set x true).length=_;rw[oG];exact h.ld,h.ls,h.pg,h.rk,RR h.lv h.ll.symm ht,h.sp⟩
theorem RT(h:eC m){x t:Nat}(h0:m.R≤t)(h1:t<m.R+m.S):eC (jz m x t):=by
 refine⟨h.ly,h.ll,h.ld,by show(m.aa5.set x (t:Int)).length=_;rw[oG];exact h.ls,h.pg,h.rk,h.lv,λi hi=>?_⟩
 show(m.aa5.set x (t:Int)).getD i 0= -1∨((m.R:Int)≤(m.aa5.set x (t:Int)).getD i 0∧(m.aa5.set x (t:Int)).getD i 0<((m.R+m.S:Nat):Int))
 have hi:i<m.R:=hi
 have hls:=h.ls
 rw[dZ,nN]
 by_cases e:x=i
 ·rw[ALifp e,ALifp Om]
  refine .inr ?_
  show(m.R:Int)≤(t:Int)∧(t:Int)<((m.R+m.S:Nat):Int)
  omega
 ·rw[ALifn e,←dZ]
  exact h.sp i hi
theorem getD_set_ne{α:Type}{l:List α}{i j:Nat}{x d:α}(h:i≠j):(l.set i x).getD j d=l.getD j d:=by rw[dZ,nN,ALifn h,←dZ]
theorem FA{r:Rp}{a:Ak}(h:aN r)(ha:eL r.m a)(hv:dh r a=false):aN (dn r a):=by
 unfold dn
 unfold dh at hv
 rcases ha.k with⟨hk,hw⟩ | ⟨hk,hw⟩
 ·rw[hk] at hv⊢
  have hv:qJ r a.w=false:=hv
  show aN (bif dD r.m then _ else _)
  cases hp:dD r.m with
  | false=>exact h
  | true=>
   unfold qJ at hv
   rw[hp] at hv
   simp only[Bool.true_and,ka,decide_eq_false_iff_not] at hv
   have hne:r.m.aba≠r.m.res:=by unfold dD at hp;simpa using hp
   have hf:dN r.m=r.m.R*r.m.B*r.m.M-r.m.res+r.m.aba:=by unfold dN;rw[ALifn hne]
   have h1:=h.m.pg
   have h2:=h.m.ly.rp
   have hlt:a.w<dN r.m:=by omega
   refine⟨RP h.m hp,⟨.inr (.inl ⟨rfl,?_⟩)⟩,λx hx=>⟨(h.q x hx).k⟩,h.n,⟨λx hx=>h.fr.aa4 x ?_⟩⟩
   ·exact⟨hw,by show dN r.m<r.m.R*r.m.B*r.m.M;omega,by show a.w≠dN r.m;omega,hv.1.1,h.fr.aa4 _ (by show _≤dN r.m;omega),by show r.m.R*r.m.B*r.m.M-r.m.res≤dN r.m;omega,by show dN r.m<r.m.R*r.m.B*r.m.M-r.m.res+(r.m.aba+1);omega,na _,by show a.w<r.m.R*r.m.B*r.m.M-r.m.res+(r.m.aba+1);omega⟩
   ·have hx:r.m.R*r.m.B*r.m.M-r.m.res+(r.m.aba+1)≤x:=hx
    omega
 ·rw[hk] at hv⊢
  have hv:qK r a.w=false:=hv
  show aN (bif eh r.m then _ else _)
  cases hp:eh r.m with
  | false=>exact h
  | true=>
   unfold qK at hv
   rw[ka] at hv
   have hne:r.m.abb≠r.m.S:=by unfold eh at hp;simpa using hp
   have hf:ft r.m=r.m.R+r.m.abb:=by unfold ft;rw[ALifn hne]
   refine⟨RQ h.m hp,⟨.inr (.inr ⟨rfl,?_⟩)⟩,λx hx=>⟨(h.q x hx).k⟩,h.n,⟨h.fr.aa4⟩⟩
   exact⟨hw,hv.1,by show r.m.R≤ft r.m;omega,by show ft r.m<r.m.R+(r.m.abb+1);omega,na _⟩
theorem vU{r:Rp}(h:aN r)(hk:r.j.aa2≠0):aN (hZ r):=by
 unfold hZ
 rcases h.j.k with e | ⟨e,hj⟩ | ⟨e,hj⟩
 ·rw[e] at hk;exact absurd rfl hk
 ·rw[e]
  show aN {r with m:=ky r.m r.j.fr r.j.tg,j:=kz}
  refine⟨RS h.m hj.ht,⟨.inl rfl⟩,λx hx=>⟨(h.q x hx).k⟩,h.n,⟨λx hx=>?_⟩⟩
  have hx:r.m.R*r.m.B*r.m.M-r.m.res+r.m.aba≤x:=hx
  have:=hj.f1
  show(r.m.aa4.set r.j.fr true).getD x false=false
  rw[getD_set_ne Om]
  exact h.fr.aa4 x hx
 ·rw[e]
  show aN {r with m:=jz r.m r.j.fr r.j.tg,j:=kz}
  have:=hj.t1;have:=h.m.rk
  exact⟨RT h.m hj.t0 Om,⟨.inl rfl⟩,λx hx=>⟨(h.q x hx).k⟩,h.n,⟨h.fr.aa4⟩⟩
theorem th{r:Rp}(h:aN r)(hb:r.j.aa2≠0):r.j.aa2=1∨r.j.aa2=2:=by
 rcases h.j.k with e | ⟨e,_⟩ | ⟨e,_⟩
 ·rw[e] at hb;exact absurd rfl hb
 ·exact .inl e
 ·exact .inr e
theorem FB{r:Rp}(h:aN r):r.j.nx≤4096:=by
 rcases h.j.k with e | ⟨e,hj⟩ | ⟨e,hj⟩
 ·rw[e];exact na _
 ·have:=hj.nx;have:=h.m.abc.bd.c64;omega
 ·have:=hj.nx;have:=h.m.abc.bd.bmc;omega
theorem qL{r:Rp}(h:aN r)(hb:r.j.aa2≠0)(hi:r.j.nx<eK r.j.aa2 r.m.B r.m.M r.m.C):aN (bv r):=by
 refine⟨h.m,⟨?_⟩,h.q,h.n,h.fr⟩
 rcases h.j.k with e | ⟨e,hj⟩ | ⟨e,hj⟩
 ·rw[e] at hb;exact absurd rfl hb
 ·rw[e] at hi
  exact .inr (.inl ⟨e,hj.hf,hj.ht,hj.ne,hj.df,hj.dt,hj.t0,hj.t1,hi,hj.f1⟩)
 ·rw[e] at hi
  exact .inr (.inr ⟨e,hj.hf,hj.hs,hj.t0,hj.t1,hi⟩)
theorem vV{r:Rp}(h:aN r):aN (aX r):=⟨h.m,h.j,λx hx=>h.q x (List.mem_of_mem_tail hx),by show r.q.tail.length≤256;rw[jh];have:=h.n;omega,h.fr⟩
theorem tj{r:Rp}(h:aN r)(hq:0<r.q.length):eL r.m (r.q.headD aJ):=by
 refine h.q _ ?_
 cases e:r.q with
 | nil=>rw[e] at hq;cases hq
 | cons x q=>exact List.mem_cons_self ..
theorem zP{s:Rp×List Ev}(h:aN s.1)(hq:0<s.1.q.length):aN (gP s).1:=by
 have h1:=vV h
 have h2:=tj h hq
 unfold gP
 cases hv:dh (aX s.1) (s.1.q.headD aJ) with
 | true=>exact h1
 | false=>exact FA h1 ⟨h2.k⟩ hv
theorem RU(r:Rp)(a:Ak):(dn r a).q=r.q:=by
 unfold dn
 cases a.k==1<;>cases dD r.m<;>cases eh r.m<;>rfl
theorem vW(r:Rp)(a:Ak):(gu r a).length=1:=by
 unfold gu
 cases a.k==1<;>cases dD r.m<;>cases eh r.m<;>rfl
theorem zQ(s:Rp×List Ev):(gP s).1.q=s.1.q.tail:=by
 unfold gP
 cases dh (aX s.1) (s.1.q.headD aJ) with
 | true=>rfl
 | false=>exact RU _ _
theorem FC(s:Rp×List Ev):(gP s).2.length≤s.2.length+1:=by
 unfold gP
 cases dh (aX s.1) (s.1.q.headD aJ) with
 | true=>exact Nat.le_succ _
 | false=>show(s.2++gu _ _).length≤_;rw[kP,vW];exact Nat.le_refl _
theorem vX(s:Rp×List Ev): ∀k,(af s k).1.q.length=s.1.q.length-k
 | 0=>rfl
 | k+1=>by rw[af,zQ,jh,vX s k];omega
theorem zR(s:Rp×List Ev): ∀k,(af s k).2.length≤s.2.length+k
 | 0=>Nat.le_refl _
 | k+1=>by rw[af];exact Nat.le_trans (FC _) (by have:=zR s k;omega)
theorem zS{s:Rp×List Ev}(h:aN s.1): ∀k,k≤s.1.q.length→aN (af s k).1
 | 0,_=>h
 | k+1,hk=>zP (zS h k Om) (by rw[vX];omega)
theorem FD{s:Rp×List Ev}{k:Nat}(h:dh (aX (af s k).1) ((af s k).1.q.headD aJ)=true):af s (k+1)=(aX (af s k).1,(af s k).2):=by rw[af,gP,h,ALct]
theorem FE{s:Rp×List Ev}{k:Nat}(h:dh (aX (af s k).1) ((af s k).1.q.headD aJ)=false):af s (k+1)=(dn (aX (af s k).1) ((af s k).1.q.headD aJ),(af s k).2++gu (aX (af s k).1) ((af s k).1.q.headD aJ)):=by rw[af,gP,h,ALcf]
theorem FF{s:Rp×List Ev}{k:Nat}(hk:k<s.1.q.length)(h:fc s.1.q.length s=fc (s.1.q.length-k) (af s k))(h0:(af s k).1.j.aa2=0):fc s.1.q.length s=fc (s.1.q.length-(k+1)) (af s (k+1)):=by
 rw[h,show s.1.q.length-k=(s.1.q.length-(k+1))+1 by omega,fc,ALifp h0];rfl
theorem vY{q:List Ak}(h:q.length=0):q.tail=q:=by rw[List.length_eq_zero_iff.1 h];rfl
theorem vZ{s:Rp×List Ev}(h0:s.1.j.aa2≠0)(n:Nat):fc n s=s:=by
 cases n with
 | zero=>rfl
 | succ n=>rw[fc,ALifn h0]
end
end Go.Proofs.YtbcodenfkijdnaaGreat.E
namespace Go.Proofs.YtbcodenfkijdnaaGreat.E
open Go Go.RowKit Go.Shelf
open Go.Proofs.Tryz renaming prog→dZ
open Bool renaming or_false→eF
theorem RW(R S B M C way res:Nat)(hly:iP R S B M C way res):aa dZ 137 #[.agg #[iN R,iN S,iN B,iN M,iN C,iN way,iN res]] [] [] (λE=>[ob (E.abd 0) #[pt ((E.abd 1)) 0,i6 0,i6 0,i6 0,i6 0,pt ((E.abd 2)) 0] 133,pk (aG (E.abd 1) (lO R S B M C way res)),pk (bK (E.abd 2) [])]) (λE=> .tuple #[pt ((E.abd 0)) 0,i6 0]):=by
 have hG:=hly.abc
 have hrp:=hly.rp
 have hnp:=hG.bd.rbm
 have hway:=hly.way
 have hr64:=hly.r64
 refine fG Tryz.func137 λw cs=>?_
 refine ra (λq1=>[(1,pt (B0 q1) 0),(2,.pointer none),(3,i6 0)]) (λq1=>[ob (B0 q1) #[iN R,iN S,iN B,iN M,iN C,iN way,iN res] 25]) λq1=>rr (λ_=>[(0,.l 0),(1,.c [] [1] (Ra R S B M C way res hly))]) (λq2=>[(4,pt ((B1 q2)) 0),(5,i6 0)]) [] (λq2 L=>L++[pk (aG (B1 q2) (lO R S B M C way res))]) λq2=>rF [] 13 (rr (λ_=>[(0,.c [] [2] (RN))]) (λq4=>[(6,pt ((B0 q4)) 0),(5,i6 0)]) [5] (λq4 L=>L++[pk (bK (B0 q4) [])]) λq4=>rF [] 20 (rr N0 (λq6=>[(2,pt (B3 q6) 0),(3,i6 0)]) [2,3] (λq6 L=>L++[ob (B3 q6) #[pt ((B1 q2)) 0,i6 0,i6 0,i6 0,i6 0,pt ((B0 q4)) 0] 133]) λq6=>?_))
 exact lf (.l [(q6 3).abd 0,(B1 q2),(B0 q4)] [] []) [3,1,2] [] []
theorem RX(R S B M C way res:Nat)(hly:iP R S B M C way res):aa dZ 137 #[.agg #[iN R,iN S,iN B,iN M,iN C,iN way,iN res]] [] [] (λE=>[pk (aq (E.abd 0) (E.abd 1) (E.abd 2) ⟨lO R S B M C way res,kz,[]⟩)]) (λE=> .tuple #[pt ((E.abd 0)) 0,i6 0]):=(RW R S B M C way res hly).outs λE ds hs=>s5 rfl hs
theorem v4(g gm gq:Nat)(r:Rp)(hr:aN r):aa dZ 23 #[pt g 0] [pk (aq g gm gq r)] [0] (λ_=>[pk (aq g gm gq r)]) (λ_=>pt gm 0):=aa.pkZ Tryz.func23 λL hL=>by
 obtain⟨rfl⟩:=hL
 refine⟨[1,2],λ_=>[pk (aG gm r.m),pk (bK gq r.q)],?_,rfl,λE=>⟨rfl,rfl,rfl⟩⟩
 have hm:=hr.m
 have hj:=hr.j
 have hqn:=hr.n
 have hG:=hm.abc
 have hly:=hm.ly
 have hnp:=hm.np
 refine fG Tryz.func23 λw cs=>?_
 exact r0 [] [(2,.pointer none)] [] (r0 [(3,.l 0)] [(2,pt gm 0)] [2] (lf ab.zero [1,2] [(0,0)] []))
theorem zT(g gm gq:Nat)(r:Rp)(hr:aN r):aa dZ 27 #[pt g 0] [pk (aq g gm gq r)] [0] (λ_=>[pk (aq g gm gq r)]) (λ_=> .agg #[iN r.j.aa2,iN r.j.fr,iN r.j.tg,iN r.j.nx]):=aa.pkZ Tryz.func27 λL hL=>by
 obtain⟨rfl⟩:=hL
 refine⟨[1,2],λ_=>[pk (aG gm r.m),pk (bK gq r.q)],?_,rfl,λE=>⟨rfl,rfl,rfl⟩⟩
 have hm:=hr.m
 have hj:=hr.j
 have hqn:=hr.n
 have hG:=hm.abc
 have hly:=hm.ly
 have hnp:=hm.np
 refine fG Tryz.func27 λw cs=>?_
 exact ra (λq1=>[(2,pt (B0 q1) 0)]) (λq1=>[ob (B0 q1) #[i6 0,i6 0,i6 0,i6 0] 70]) λq1=>rs [(3,.l 0),(4,.s 3)] 3 (ob (B0 q1) #[iN r.j.aa2,iN r.j.fr,iN r.j.tg,iN r.j.nx] 70) (lf ab.zero [1,2] [(0,0)] [3])
theorem mY(g gm gq:Nat)(r:Rp):aa dZ 118 #[pt g 0] [ob g #[pt gm 0,iN r.j.aa2,iN r.j.fr,iN r.j.tg,iN r.j.nx,pt gq 0] 133,pk (aG gm r.m),pk (bK gq r.q)] [1,2] (λ_=>[pk (aG gm r.m),pk (bK gq r.q)]) (λ_=> .bool ((r.j.aa2:Int) != 0)):=by
 refine fG Tryz.func118 λw cs=>?_
 exact r0 [] [(2,.bool false)] [] (r0 [(4,.l 0)] [(2,.bool ((r.j.aa2:Int) != 0))] [2] (lf ab.zero [1,2] [(0,0)] []))
theorem RY(g gm gq:Nat)(r:Rp)(hr:aN r)(n:Nat)(hn:n<(r.m.R*r.m.B*r.m.M-r.m.res)*r.m.C):aa dZ 143 #[pt g 0,iN n] [pk (aq g gm gq r)] [0] (λ_=>[pk (aq g gm gq r)]) (λ_=> .tuple #[i6 ((aH r.m r.j n:Nat):Int),i6 ((ao r.m n:Nat):Int),i6 ((aF r.m.way r.m.R r.m.B r.m.M (ao r.m n):Nat):Int),i6 0]):=aa.pkZ Tryz.func143 λL hL=>by
 obtain⟨rfl⟩:=hL
 refine⟨[1,2],λ_=>[pk (aG gm r.m),pk (bK gq r.q)],?_,rfl,λE=>⟨rfl,rfl,rfl⟩⟩
 have hm:=hr.m
 have hj:=hr.j
 have hqn:=hr.n
 have hG:=hm.abc
 have hly:=hm.ly
 have hnp:=hm.np
 refine fG Tryz.func143 λw cs=>?_
 exact r0 [] [(4,i6 0),(5,i6 0),(6,i6 0),(7,i6 0)] [] (r0 [(3,.m (ls 0 ([iN r.j.aa2,iN r.j.fr,iN r.j.tg,iN r.j.nx]))),(7,.m (ld 0 (pt gm 0))),(9,.c [1] [1] (Rs gm r.m hm r.j hj n Om)),] [(4,i6 ((aH r.m r.j n:Nat):Int)),(5,i6 ((ao r.m n:Nat):Int)),(6,i6 ((aF r.m.way r.m.R r.m.B r.m.M (ao r.m n):Nat):Int)),(7,i6 0)] [4,5,6,7] (lf ab.zero [1,2] [(0,0)] []))
theorem RZ(g gm gq:Nat)(r:Rp)(hr:aN r)(n:Int)(hn:bQ n (((r.m.R*r.m.B*r.m.M-r.m.res)*r.m.C:Nat):Int)=false):aa dZ 143 #[pt g 0,i6 n] [pk (aq g gm gq r)] [0] (λ_=>[pk (aq g gm gq r)]) (λ_=> .tuple #[i6 0,i6 0,i6 0,i6 12]):=aa.pkZ Tryz.func143 λL hL=>by
 obtain⟨rfl⟩:=hL
 refine⟨[1,2],λ_=>[pk (aG gm r.m),pk (bK gq r.q)],?_,rfl,λE=>⟨rfl,rfl,rfl⟩⟩
 have hm:=hr.m
 have hj:=hr.j
 have hqn:=hr.n
 have hG:=hm.abc
 have hly:=hm.ly
 have hnp:=hm.np
 refine fG Tryz.func143 λw cs=>?_
 exact r0 [] [(4,i6 0),(5,i6 0),(6,i6 0),(7,i6 0)] [] (r0 [(3,.m (ls 0 ([iN r.j.aa2,iN r.j.fr,iN r.j.tg,iN r.j.nx]))),(7,.m (ld 0 (pt gm 0))),(9,.c [1] [1] (Rr gm r.m hm r.j.aa2 r.j.fr r.j.tg r.j.nx n hn)),] [(4,i6 0),(5,i6 0),(6,i6 0),(7,i6 12)] [4,5,6,7] (lf ab.zero [1,2] [(0,0)] []))
theorem zU(k u:Nat)(hk:1≤k)(hk2:k≤2):aa dZ 243 #[.agg #[iN k,iN u]] [] [] (λE=>[bg (E.val 0) ([(⟨5,u,k-1⟩:Ev)])]) (λE=>(E.val 0)):=by
 refine fG Tryz.func243 λw cs=>?_
 exact ra (λq1=>[(1,pt (B0 q1) 0),(2,.slice none 0 0)]) (λq1=>[ob (B0 q1) #[iN k,iN u] 285]) λq1=>rr (λ_=>[(1,.l 0),(3,.l 0),(4,.t (tb (a:=iN k) (b:=i6 1) λ_ _ _ _=>mo (a:=k) (b:=1) Om Om)),(6,ip jC 1 1 [(⟨5,u,k-1⟩:Ev)])]) (λq2=>[(2,.slice (some ⟨(q2 6).abd 0,0,none⟩) 1 1)]) [2] (λq2 L=>L++[bg (.slice (some ⟨(q2 6).abd 0,0,none⟩) 1 1) ([(⟨5,u,k-1⟩:Ev)])]) λq2=>lf (.l [] [] [.slice (some ⟨(q2 6).abd 0,0,none⟩) 1 1]) [1] [] []
theorem R6(g gm gq:Nat)(r:Rp)(hr:aN r)(u:Nat)(hu:u<r.m.R*r.m.B*r.m.M):aa dZ 240 #[pt g 0,.agg #[i6 1,iN u]] [pk (aq g gm gq r)] [0] (λ_=>[pk (aq g gm gq r)]) (λ_=> .bool (qJ r u)):=aa.pkZ Tryz.func240 λL hL=>by
 obtain⟨rfl⟩:=hL
 refine⟨[1,2],λ_=>[pk (aG gm r.m),pk (bK gq r.q)],?_,rfl,λE=>⟨rfl,rfl,rfl⟩⟩
 have hm:=hr.m
 have hj:=hr.j
 have hqn:=hr.n
 have hG:=hm.abc
 have hly:=hm.ly
 have hnp:=hm.np
 refine fG Tryz.func240 λw cs=>?_
 refine ra (λq1=>[(3,pt (B0 q1) 0),(4,.bool false)]) (λq1=>[ob (B0 q1) #[i6 1,iN u] 285]) λq1=>rr (λ_=>[(3,.l 0),(4,.c [1] [1] (jA gm r.m hm)),(7,.s 4)]) (λq2=>[(5,pt (B6 q2) 0)]) [] (λq2 L=>L++[ob (B6 q2) #[iN r.m.R,iN r.m.S,iN r.m.B,iN r.m.M,iN r.m.C] 23]) λq2=>r0 [(1,.l 3)] [(17,i6 1)] [] (rT [] 18 (r0 [(3,.l 0),(4,.c [1] [1] (QZ gm r.m hm))] [(6,i6 ((dN r.m:Nat):Int)),(7,.bool (dD r.m))] [] (r0 [(1,.m (ld 3 (iN u))),(2,.t (tk (show Value.bool (decide ((u:Int)<0))= .bool false from ALca Value.bool (by exact bj Om)))),(5,.m (ld 3 (iN u))),(6,.m (ls 4 ([iN r.m.R,iN r.m.S,iN r.m.B,iN r.m.M,iN r.m.C]))),(7,.c [] [] (mU r.m.R r.m.S r.m.B r.m.M r.m.C hG)),(8,.t (tk (show Value.bool (decide ((((r.m.R*r.m.B)*r.m.M:Nat):Int)≤(u:Int)))= .bool false from ALca Value.bool (by exact bj Om)))),(14,.m (ld 0 (pt gm 0))),(16,.m (ld 3 (iN u))),(17,.c [1] [1] (zE gm r.m hm u Om)),(23,.m (ld 3 (iN u))),] [(55,.bool ((r.m.aa4.getD u false)||((dD r.m)&&(decide (((dN r.m:Nat):Int)≤(u:Int))))))] [] ?_)))
 refine cB ((r.m.aa4.getD u false)||((dD r.m)&&(decide (((dN r.m:Nat):Int)≤(u:Int))))) (λh7=>?_) λh7=>?_
 ·refine r0 [] [(4,.bool true)] [4] ?_
  exact am (.bool true) ab.zero (by unfold qJ;simp only[←zH,←mv];(repeat (rw[h7]));rfl) [1,2] [(0,0)] []
 refine r0 [(4,.m (ld 0 (iN r.j.aa2))),(6,.m (ld 3 (i6 1))),(13,.m (ld 0 (iN r.j.fr))),(15,.m (ld 3 (iN u))),] [(4,.bool (((r.j.aa2:Int)==1)&&((r.j.fr:Int)==(u:Int))))] [4] ?_
 exact am (.bool (((r.j.aa2:Int)==1)&&((r.j.fr:Int)==(u:Int)))) ab.zero (by unfold qJ;simp only[←zH,←mv];(repeat (rw[h7]));rfl) [1,2] [(0,0)] []
theorem R8(g gm gq:Nat)(r:Rp)(hr:aN r)(u:Nat)(hu:u<r.m.R):aa dZ 240 #[pt g 0,.agg #[i6 2,iN u]] [pk (aq g gm gq r)] [0] (λ_=>[pk (aq g gm gq r)]) (λ_=> .bool (qK r u)):=aa.pkZ Tryz.func240 λL hL=>by
 obtain⟨rfl⟩:=hL
 refine⟨[1,2],λ_=>[pk (aG gm r.m),pk (bK gq r.q)],?_,rfl,λE=>⟨rfl,rfl,rfl⟩⟩
 have hm:=hr.m
 have hj:=hr.j
 have hqn:=hr.n
 have hG:=hm.abc
 have hly:=hm.ly
 have hnp:=hm.np
 refine fG Tryz.func240 λw cs=>?_
 refine ra (λq1=>[(3,pt (B0 q1) 0),(4,.bool false)]) (λq1=>[ob (B0 q1) #[i6 2,iN u] 285]) λq1=>rr (λ_=>[(3,.l 0),(4,.c [1] [1] (jA gm r.m hm)),(7,.s 4)]) (λq2=>[(5,pt (B6 q2) 0)]) [] (λq2 L=>L++[ob (B6 q2) #[iN r.m.R,iN r.m.S,iN r.m.B,iN r.m.M,iN r.m.C] 23]) λq2=>r0 [(1,.l 3)] [(17,i6 2)] [] (rF [] 18 (rT [] 56 (r0 [(3,.m (ld 0 (pt gm 0))),(5,.m (ld 3 (iN u))),(6,.c [1] [1] (Fk gm r.m hm u Om)),] [(9,.bool (dM r.m u))] [] ?_)))
 refine r0 [(3,.m (ld 3 (iN u))),(4,.t (tk (show Value.bool (decide ((u:Int)<0))= .bool false from ALca Value.bool (by exact bj Om)))),(8,.m (ld 3 (iN u))),(10,.m (ld 4 (iN r.m.R))),(11,.t (tk (show Value.bool (decide ((r.m.R:Int)≤(u:Int)))= .bool false from ALca Value.bool (by exact bj Om))))] [(80,.bool (((dM r.m u)||false)||false))] [] ?_
 refine cB (((dM r.m u)||false)||false) (λh8=>?_) λh8=>?_
 ·refine r0 [] [(4,.bool true)] [4] ?_
  exact am (.bool true) ab.zero (by unfold qK;simp only[←mv];have hq:=h8;simp only[eF] at hq;rw[hq];rfl) [1,2] [(0,0)] []
 refine r0 [(4,.m (ld 0 (iN r.j.aa2))),(6,.m (ld 3 (i6 2))),(13,.m (ld 0 (iN r.j.fr))),(15,.m (ld 3 (iN u))),] [(4,.bool (((r.j.aa2:Int)==2)&&((r.j.fr:Int)==(u:Int))))] [4] ?_
 exact am (.bool (((r.j.aa2:Int)==2)&&((r.j.fr:Int)==(u:Int)))) ab.zero (by unfold qK;simp only[←mv];have hq:=h8;simp only[eF] at hq;rw[hq];rfl) [1,2] [(0,0)] []
theorem Sa(g gm gq:Nat)(r:Rp)(hr:aN r)(u:Nat)(hp:dD r.m=true):aa dZ 241 #[pt g 0,.agg #[i6 1,iN u]] [pk (aq g gm gq r)] [0] (λE=>[pk (aq g gm gq {r with m:=qE r.m,j:=⟨1,u,dN r.m,0⟩}),bg (E.val 0) ([(⟨3,u,dN r.m⟩:Ev)])]) (λE=>(E.val 0)):=aa.pkW (n:=1) (N:=λE=>[bg (E.val 0) ([(⟨3,u,dN r.m⟩:Ev)])]) (enters_of Tryz.func241 Kr rfl) λL hL=>by
 obtain⟨rfl⟩:=hL
 refine⟨[0,1,2],λ_=>[ob g #[pt gm 0,i6 1,iN u,i6 ((dN r.m:Nat):Int),i6 0,pt gq 0] 133,pk (aG gm (qE r.m)),pk (bK gq r.q)],?_,rfl,λE=>⟨rfl,rfl,rfl⟩⟩
 have hm:=hr.m
 have hj:=hr.j
 have hqn:=hr.n
 have hG:=hm.abc
 have hly:=hm.ly
 have hnp:=hm.np
 refine fG Tryz.func241 λw cs=>?_
 refine ra (λq1=>[(3,pt (B0 q1) 0),(4,.slice none 0 0)]) (λq1=>[ob (B0 q1) #[i6 1,iN u] 285]) λq1=>r0 [] [(5,i6 3)] [] (r0 [(3,.l 0)] [(6,.func (.func 265) #[pt gm 0] #[])] [] (rF [(1,.l 3)] 16 (rr (λ_=>[(1,.c [1] [1] (Q3 gm r.m hm Om))]) (λ_=>[(7,i6 ((dN r.m:Nat):Int)),(8,i6 0)]) [] (λ_ L=>L.set 1 ((pk (aG gm (qE r.m))))) λq5=>rF [] 28 ?_)))
 exact rs [(2,.l 3),(4,.l 3),(9,.s 0)] 0 (ob g #[pt gm 0,i6 1,iN u,i6 ((dN r.m:Nat):Int),i6 0,pt gq 0] 133) (rr (λ_=>[(2,.l 3),(5,ip jC 4 1 [(⟨3,u,dN r.m⟩:Ev)])]) (λq8=>[(4,.slice (some ⟨(q8 5).abd 0,0,none⟩) 1 1)]) [4] (λq8 L=>L++[bg (.slice (some ⟨(q8 5).abd 0,0,none⟩) 1 1) ([(⟨3,u,dN r.m⟩:Ev)])]) λq8=>lf (.l [] [] [.slice (some ⟨(q8 5).abd 0,0,none⟩) 1 1]) [0,1,2,4] [] [])
theorem Sb(g gm gq:Nat)(r:Rp)(hr:aN r)(u:Nat)(hp:dD r.m=false):aa dZ 241 #[pt g 0,.agg #[i6 1,iN u]] [pk (aq g gm gq r)] [0] (λE=>[pk (aq g gm gq r),bg (E.val 0) ([(⟨5,u,1-1⟩:Ev)])]) (λE=>(E.val 0)):=aa.pkW (n:=1) (N:=λE=>[bg (E.val 0) ([(⟨5,u,1-1⟩:Ev)])]) (enters_of Tryz.func241 Kr rfl) λL hL=>by
 obtain⟨rfl⟩:=hL
 refine⟨[1,2],λ_=>[pk (aG gm r.m),pk (bK gq r.q)],?_,rfl,λE=>⟨rfl,rfl,rfl⟩⟩
 have hm:=hr.m
 have hj:=hr.j
 have hqn:=hr.n
 have hG:=hm.abc
 have hly:=hm.ly
 have hnp:=hm.np
 refine fG Tryz.func241 λw cs=>?_
 refine ra (λq1=>[(3,pt (B0 q1) 0),(4,.slice none 0 0)]) (λq1=>[ob (B0 q1) #[i6 1,iN u] 285]) λq1=>r0 [] [(5,i6 3)] [] (r0 [(3,.l 0)] [(6,.func (.func 265) #[pt gm 0] #[])] [] (rF [(1,.l 3)] 16 (r0 [(1,.c [1] [1] (Q4 gm r.m hm Om))] [(7,i6 0),(8,i6 52)] [] (rT [] 28 ?_))))
 exact rr (λ_=>[(0,.l 3),(1,.c [] [4] (zU 1 u Om Om))]) (λq7=>[(4,((q7 1).val 0))]) [4] (λq7 L=>L++[bg ((q7 1).val 0) ([(⟨5,u,1-1⟩:Ev)])]) λq7=>lf (.l [] [] [((q7 1).val 0),(q7 1).val 0]) [1,2,4] [(0,0)] []
theorem Sc(g gm gq:Nat)(r:Rp)(hr:aN r)(u:Nat)(hp:eh r.m=true):aa dZ 241 #[pt g 0,.agg #[i6 2,iN u]] [pk (aq g gm gq r)] [0] (λE=>[pk (aq g gm gq {r with m:=qF r.m,j:=⟨2,u,ft r.m,0⟩}),bg (E.val 0) ([(⟨4,u,ft r.m⟩:Ev)])]) (λE=>(E.val 0)):=aa.pkW (n:=1) (N:=λE=>[bg (E.val 0) ([(⟨4,u,ft r.m⟩:Ev)])]) (enters_of Tryz.func241 Kr rfl) λL hL=>by
 obtain⟨rfl⟩:=hL
 refine⟨[0,1,2],λ_=>[ob g #[pt gm 0,i6 2,iN u,i6 ((ft r.m:Nat):Int),i6 0,pt gq 0] 133,pk (aG gm (qF r.m)),pk (bK gq r.q)],?_,rfl,λE=>⟨rfl,rfl,rfl⟩⟩
 have hm:=hr.m
 have hj:=hr.j
 have hqn:=hr.n
 have hG:=hm.abc
 have hly:=hm.ly
 have hnp:=hm.np
 refine fG Tryz.func241 λw cs=>?_
 refine ra (λq1=>[(3,pt (B0 q1) 0),(4,.slice none 0 0)]) (λq1=>[ob (B0 q1) #[i6 2,iN u] 285]) λq1=>r0 [] [(5,i6 3)] [] (r0 [(3,.l 0)] [(6,.func (.func 265) #[pt gm 0] #[])] [] (rT [(1,.l 3)] 16 (r0 [(3,.l 0)] [(5,i6 4),(6,.func (.func 266) #[pt gm 0] #[])] [5,6] (rr (λ_=>[(1,.c [1] [1] (Q5 gm r.m hm Om))]) (λ_=>[(7,i6 ((ft r.m:Nat):Int)),(8,i6 0)]) [] (λ_ L=>L.set 1 ((pk (aG gm (qF r.m))))) λq6=>?_))))
 exact rF [] 28 (rs [(2,.l 3),(4,.l 3),(9,.s 0)] 0 (ob g #[pt gm 0,i6 2,iN u,i6 ((ft r.m:Nat):Int),i6 0,pt gq 0] 133) (rr (λ_=>[(2,.l 3),(5,ip jC 4 1 [(⟨4,u,ft r.m⟩:Ev)])]) (λq9=>[(4,.slice (some ⟨(q9 5).abd 0,0,none⟩) 1 1)]) [4] (λq9 L=>L++[bg (.slice (some ⟨(q9 5).abd 0,0,none⟩) 1 1) ([(⟨4,u,ft r.m⟩:Ev)])]) λq9=>lf (.l [] [] [.slice (some ⟨(q9 5).abd 0,0,none⟩) 1 1]) [0,1,2,4] [] []))
theorem Sd(g gm gq:Nat)(r:Rp)(hr:aN r)(u:Nat)(hp:eh r.m=false):aa dZ 241 #[pt g 0,.agg #[i6 2,iN u]] [pk (aq g gm gq r)] [0] (λE=>[pk (aq g gm gq r),bg (E.val 0) ([(⟨5,u,2-1⟩:Ev)])]) (λE=>(E.val 0)):=aa.pkW (n:=1) (N:=λE=>[bg (E.val 0) ([(⟨5,u,2-1⟩:Ev)])]) (enters_of Tryz.func241 Kr rfl) λL hL=>by
 obtain⟨rfl⟩:=hL
 refine⟨[1,2],λ_=>[pk (aG gm r.m),pk (bK gq r.q)],?_,rfl,λE=>⟨rfl,rfl,rfl⟩⟩
 have hm:=hr.m
 have hj:=hr.j
 have hqn:=hr.n
 have hG:=hm.abc
 have hly:=hm.ly
 have hnp:=hm.np
 refine fG Tryz.func241 λw cs=>?_
 refine ra (λq1=>[(3,pt (B0 q1) 0),(4,.slice none 0 0)]) (λq1=>[ob (B0 q1) #[i6 2,iN u] 285]) λq1=>r0 [] [(5,i6 3)] [] (r0 [(3,.l 0)] [(6,.func (.func 265) #[pt gm 0] #[])] [] (rT [(1,.l 3)] 16 (r0 [(3,.l 0)] [(5,i6 4),(6,.func (.func 266) #[pt gm 0] #[])] [5,6] (r0 [(1,.c [1] [1] (Q6 gm r.m hm Om))] [(7,i6 0),(8,i6 52)] [] ?_))))
 exact rT [] 28 (rr (λ_=>[(0,.l 3),(1,.c [] [4] (zU 2 u Om Om))]) (λq8=>[(4,((q8 1).val 0))]) [4] (λq8 L=>L++[bg ((q8 1).val 0) ([(⟨5,u,2-1⟩:Ev)])]) λq8=>lf (.l [] [] [((q8 1).val 0),(q8 1).val 0]) [1,2,4] [(0,0)] [])
theorem Se(g gm gq:Nat)(r:Rp)(hr:aN r)(a:Ak)(ha:eL r.m a):aa dZ 240 #[pt g 0,.agg #[iN a.k,iN a.w]] [pk (aq g gm gq r)] [0] (λ_=>[pk (aq g gm gq r)]) (λ_=> .bool (dh r a)):=by
 obtain⟨k,u⟩:=a
 rcases ha.k with⟨hk,hu⟩ | ⟨hk,hu⟩
 ·cases hk;exact R6 g gm gq r hr u hu
 ·cases hk;exact R8 g gm gq r hr u hu
theorem Sf(g gm gq:Nat)(r:Rp)(hr:aN r)(a:Ak)(ha:eL r.m a):aa dZ 241 #[pt g 0,.agg #[iN a.k,iN a.w]] [pk (aq g gm gq r)] [0] (λE=>[pk (aq g gm gq (dn r a)),bg (E.val 0) (gu r a)]) (λE=>E.val 0):=by
 obtain⟨k,u⟩:=a
 unfold dn gu
 rcases ha.k with⟨hk,hu⟩ | ⟨hk,hu⟩
 ·cases hk
  cases hp:dD r.m with
  | true=>exact Sa g gm gq r hr u hp
  | false=>exact Sb g gm gq r hr u hp
 ·cases hk
  cases hp:eh r.m with
  | true=>exact Sc g gm gq r hr u hp
  | false=>exact Sd g gm gq r hr u hp
abbrev qM(g gm gq:Nat)(r:Rp):ah:=[ob g #[pt gm 0,iN r.j.aa2,iN r.j.fr,iN r.j.tg,iN r.j.nx,pt gq 0] 133,pk (aG gm r.m),pk (bK gq r.q)]
theorem pK(g gm gq:Nat)(r:Rp)(hr:aN r)(a:Ak)(ha:eL r.m a):aa dZ 240 #[pt g 0,.agg #[iN a.k,iN a.w]] (qM g gm gq r) [0,1,2] (λ_=>qM g gm gq r) (λ_=> .bool (dh r a)):=(Se g gm gq r hr a ha).unpk (N:=λ_=>[])
theorem zV(g gm gq:Nat)(r:Rp)(hr:aN r)(a:Ak)(ha:eL r.m a):aa dZ 241 #[pt g 0,.agg #[iN a.k,iN a.w]] (qM g gm gq r) [0,1,2] (λE=>qM g gm gq (dn r a)++[bg (E.val 0) (gu r a)]) (λE=>E.val 0):=(Sf g gm gq r hr a ha).unpk (N:=λE=>[bg (E.val 0) (gu r a)])
theorem Sg(g gm gq:Nat)(r:Rp)(hr:aN r)(a:Ak)(ha:eL r.m a)(hv:dh r a=true):aa dZ 207 #[pt g 0,.agg #[iN a.k,iN a.w]] [pk (aq g gm gq r)] [0] (λE=>[pk (aq g gm gq r),bg (E.val 0) ([])]) (λE=>(E.val 0)):=aa.pkW (n:=1) (N:=λE=>[bg (E.val 0) ([])]) (enters_of Tryz.func207 Kr rfl) λL hL=>by
 obtain⟨rfl⟩:=hL
 refine⟨[1,2],λ_=>[pk (aG gm r.m),pk (bK gq r.q)],?_,rfl,λE=>⟨rfl,rfl,rfl⟩⟩
 have hm:=hr.m
 have hj:=hr.j
 have hqn:=hr.n
 have hG:=hm.abc
 have hly:=hm.ly
 have hnp:=hm.np
 refine fG Tryz.func207 λw cs=>?_
 refine ra (λq1=>[(3,pt (B0 q1) 0),(4,.slice none 0 0)]) (λq1=>[ob (B0 q1) #[iN a.k,iN a.w] 285]) λq1=>rT [(1,.l 3),(2,.c [0,1,2] [0,1,2] (aa.v ((pK g gm gq r hr a ha)) λ_=>ALca Value.bool (show(dh r a)=true from(by exact hv))))] 5 (r0 [] [(4,.slice none 0 0)] [4] ?_)
 refine cz jC ?_
 exact lf (.l [] [] [.slice none 0 0]) [1,2,4] [(0,0)] []
theorem Sh(g gm gq:Nat)(r:Rp)(hr:aN r)(a:Ak)(ha:eL r.m a)(hv:dh r a=false)(hb:r.j.aa2=0):aa dZ 207 #[pt g 0,.agg #[iN a.k,iN a.w]] [pk (aq g gm gq r)] [0] (λE=>[pk (aq g gm gq (dn r a)),bg (E.val 0) (gu r a)]) (λE=>(E.val 0)):=aa.pkW (n:=1) (N:=λE=>[bg (E.val 0) (gu r a)]) (enters_of Tryz.func207 Kr rfl) λL hL=>by
 obtain⟨rfl⟩:=hL
 refine⟨[0,1,2],λ_=>[ob g #[pt gm 0,i6 (((dn r a).j.aa2:Nat):Int),i6 (((dn r a).j.fr:Nat):Int),i6 (((dn r a).j.tg:Nat):Int),i6 (((dn r a).j.nx:Nat):Int),pt gq 0] 133,pk (aG gm (dn r a).m),pk (bK gq (dn r a).q)],?_,rfl,λE=>⟨rfl,rfl,rfl⟩⟩
 have hm:=hr.m
 have hj:=hr.j
 have hqn:=hr.n
 have hG:=hm.abc
 have hly:=hm.ly
 have hnp:=hm.np
 refine fG Tryz.func207 λw cs=>?_
 refine ra (λq1=>[(3,pt (B0 q1) 0),(4,.slice none 0 0)]) (λq1=>[ob (B0 q1) #[iN a.k,iN a.w] 285]) λq1=>rF [(1,.l 3),(2,.c [0,1,2] [0,1,2] (aa.v ((pK g gm gq r hr a ha)) λ_=>ALca Value.bool (show(dh r a)=false from(by exact hv))))] 5 (r0 [(1,.c [0,1,2] [1,2] (mY g gm gq r))] [(9,.bool (!((r.j.aa2:Int) != 0)))] [] ?_)
 have h4:(!((r.j.aa2:Int) != 0))=true:=by rw[hb];rfl
 exact cT (!((r.j.aa2:Int) != 0)) h4 (rr (λ_=>[(1,.l 3),(2,.c [0,1,2] [0,1,2,4] (zV g gm gq r hr a ha))]) (λq5=>[(4,(q5 2).val 0)]) [4] (λq5 L=>((L.set 0 (ob g #[pt gm 0,i6 (((dn r a).j.aa2:Nat):Int),i6 (((dn r a).j.fr:Nat):Int),i6 (((dn r a).j.tg:Nat):Int),i6 (((dn r a).j.nx:Nat):Int),pt gq 0] 133)).set 1 ((pk (aG gm (dn r a).m)))).set 2 ((pk (bK gq (dn r a).q)))++[bg ((q5 2).val 0) (gu r a)]) λq5=>lf (.l [] [] [((q5 2).val 0),(q5 2).val 0]) [0,1,2,4] [] [])
theorem Si(g gm gq:Nat)(r:Rp)(hr:aN r)(a:Ak)(ha:eL r.m a)(hv:dh r a=false)(hb:r.j.aa2≠0)(hx:a∈r.q):aa dZ 207 #[pt g 0,.agg #[iN a.k,iN a.w]] [pk (aq g gm gq r)] [0] (λE=>[pk (aq g gm gq r),bg (E.val 0) ([])]) (λE=>(E.val 0)):=aa.pkW (n:=1) (N:=λE=>[bg (E.val 0) ([])]) (enters_of Tryz.func207 Kr rfl) λL hL=>by
 obtain⟨rfl⟩:=hL
 refine⟨[1,2],λ_=>[pk (aG gm r.m),pk (bK gq r.q)],?_,rfl,λE=>⟨rfl,rfl,rfl⟩⟩
 have hm:=hr.m
 have hj:=hr.j
 have hqn:=hr.n
 have hG:=hm.abc
 have hly:=hm.ly
 have hnp:=hm.np
 refine fG Tryz.func207 λw cs=>?_
 refine ra (λq1=>[(3,pt (B0 q1) 0),(4,.slice none 0 0)]) (λq1=>[ob (B0 q1) #[iN a.k,iN a.w] 285]) λq1=>rF [(1,.l 3),(2,.c [0,1,2] [0,1,2] (aa.v ((pK g gm gq r hr a ha)) λ_=>ALca Value.bool (show(dh r a)=false from(by exact hv))))] 5 (r0 [(1,.c [0,1,2] [1,2] (mY g gm gq r))] [(9,.bool (!((r.j.aa2:Int) != 0)))] [] ?_)
 have h4:(!((r.j.aa2:Int) != 0))=false:=by(have h5:((r.j.aa2:Int)==0)=false:=by rw[dp];omega);(rw[bne,h5];rfl)
 refine cF (!((r.j.aa2:Int) != 0)) h4 (rF [(3,.l 0),(4,.l 3),(5,.c [2] [2] (RE gq r.q a Om))] 22 (r0 [] [(4,.slice none 0 0)] [4] ?_))
 refine cz jC ?_
 exact lf (.l [] [] [.slice none 0 0]) [1,2,4] [(0,0)] []
theorem Sj(g gm gq:Nat)(r:Rp)(hr:aN r)(a:Ak)(ha:eL r.m a)(hv:dh r a=false)(hb:r.j.aa2≠0)(hx:a∉r.q)(hl:r.q.length=256):aa dZ 207 #[pt g 0,.agg #[iN a.k,iN a.w]] [pk (aq g gm gq r)] [0] (λE=>[pk (aq g gm gq r),bg (E.val 0) ([(⟨5,a.w,a.k-1⟩:Ev)])]) (λE=>(E.val 0)):=aa.pkW (n:=1) (N:=λE=>[bg (E.val 0) ([(⟨5,a.w,a.k-1⟩:Ev)])]) (enters_of Tryz.func207 Kr rfl) λL hL=>by
 obtain⟨rfl⟩:=hL
 refine⟨[1,2],λ_=>[pk (aG gm r.m),pk (bK gq r.q)],?_,rfl,λE=>⟨rfl,rfl,rfl⟩⟩
 have hm:=hr.m
 have hj:=hr.j
 have hqn:=hr.n
 have hG:=hm.abc
 have hly:=hm.ly
 have hnp:=hm.np
 have hak:1≤a.k∧a.k≤2:=by rcases ha.k with h | h<;>omega
 refine fG Tryz.func207 λw cs=>?_
 refine ra (λq1=>[(3,pt (B0 q1) 0),(4,.slice none 0 0)]) (λq1=>[ob (B0 q1) #[iN a.k,iN a.w] 285]) λq1=>rF [(1,.l 3),(2,.c [0,1,2] [0,1,2] (aa.v ((pK g gm gq r hr a ha)) λ_=>ALca Value.bool (show(dh r a)=false from(by exact hv))))] 5 (r0 [(1,.c [0,1,2] [1,2] (mY g gm gq r))] [(9,.bool (!((r.j.aa2:Int) != 0)))] [] ?_)
 have h4:(!((r.j.aa2:Int) != 0))=false:=by(have h5:((r.j.aa2:Int)==0)=false:=by rw[dp];omega);(rw[bne,h5];rfl)
 exact cF (!((r.j.aa2:Int) != 0)) h4 (rT [(3,.l 0),(4,.l 3),(5,.c [2] [2] (RF gq r.q a hx (by(simp only[LL,hl];done))))] 22 (rr (λ_=>[(0,.l 3),(1,.c [] [4] (zU a.k a.w Om Om))]) (λq6=>[(4,((q6 1).val 0))]) [4] (λq6 L=>L++[bg ((q6 1).val 0) ([(⟨5,a.w,a.k-1⟩:Ev)])]) λq6=>lf (.l [] [] [((q6 1).val 0),(q6 1).val 0]) [1,2,4] [(0,0)] []))
theorem Sk(g gm gq:Nat)(r:Rp)(hr:aN r)(a:Ak)(ha:eL r.m a)(hv:dh r a=false)(hb:r.j.aa2≠0)(hx:a∉r.q)(hl:r.q.length<256):aa dZ 207 #[pt g 0,.agg #[iN a.k,iN a.w]] [pk (aq g gm gq r)] [0] (λE=>[pk (aq g gm gq {r with q:=r.q++[a]}),bg (E.val 0) ([])]) (λE=>(E.val 0)):=aa.pkW (n:=1) (N:=λE=>[bg (E.val 0) ([])]) (enters_of Tryz.func207 Kr rfl) λL hL=>by
 obtain⟨rfl⟩:=hL
 refine⟨[1,2],λ_=>[pk (aG gm r.m),pk (bK gq (r.q++[a]))],?_,rfl,λE=>⟨rfl,rfl,rfl⟩⟩
 have hm:=hr.m
 have hj:=hr.j
 have hqn:=hr.n
 have hG:=hm.abc
 have hly:=hm.ly
 have hnp:=hm.np
 refine fG Tryz.func207 λw cs=>?_
 refine ra (λq1=>[(3,pt (B0 q1) 0),(4,.slice none 0 0)]) (λq1=>[ob (B0 q1) #[iN a.k,iN a.w] 285]) λq1=>rF [(1,.l 3),(2,.c [0,1,2] [0,1,2] (aa.v ((pK g gm gq r hr a ha)) λ_=>ALca Value.bool (show(dh r a)=false from(by exact hv))))] 5 (r0 [(1,.c [0,1,2] [1,2] (mY g gm gq r))] [(9,.bool (!((r.j.aa2:Int) != 0)))] [] ?_)
 have h4:(!((r.j.aa2:Int) != 0))=false:=by(have h5:((r.j.aa2:Int)==0)=false:=by rw[dp];omega);(rw[bne,h5];rfl)
 refine cF (!((r.j.aa2:Int) != 0)) h4 (rr (λ_=>[(3,.l 0),(4,.l 3),(5,.c [2] [2] (RG gq r.q a hx Om))]) (λ_=>[(22,.bool false)]) [] (λ_ L=>L.set 2 ((pk (bK gq (r.q++[a]))))) λq5=>cF _ rfl (r0 [] [(4,.slice none 0 0)] [4] ?_))
 refine cz jC ?_
 exact lf (.l [] [] [.slice none 0 0]) [1,2,4] [(0,0)] []
theorem qN(g gm gq:Nat)(r:Rp)(hr:aN r)(a:Ak)(ha:eL r.m a):aa dZ 207 #[pt g 0,.agg #[iN a.k,iN a.w]] [pk (aq g gm gq r)] [0] (λE=>[pk (aq g gm gq (bp r a)),bg (E.val 0) (bS r a)]) (λE=>E.val 0):=by
 unfold bp bS
 cases hv:dh r a with
 | true=>exact Sg g gm gq r hr a ha hv
 | false=>
  rw[ALcf,ALcf]
  by_cases hb:r.j.aa2=0
  ·rw[hb];exact Sh g gm gq r hr a ha hv hb
  ·rw[show(r.j.aa2==0)=false from dp.2 hb,ALcf,ALcf]
   unfold qI vR
   by_cases hx:a∈r.q
   ·rw[ALifp hx,ALifp hx];exact Si g gm gq r hr a ha hv hb hx
   ·rw[ALifn hx,ALifn hx]
    by_cases hl:r.q.length=256
    ·rw[ALifp hl,ALifp hl];exact Sj g gm gq r hr a ha hv hb hx hl
    ·rw[ALifn hl,ALifn hl];exact Sk g gm gq r hr a ha hv hb hx (by have:=hr.n;omega)
theorem Sm(g gm gq:Nat)(r:Rp)(hr:aN r)(hb:r.j.aa2≠0)(hi:r.j.nx<eK r.j.aa2 r.m.B r.m.M r.m.C):aa dZ 84 #[pt g 0] [pk (aq g gm gq r)] [0] (λ_=>[pk (aq g gm gq r)]) (λ_=> .tuple #[i6 ((aQ r.m r.j.aa2 r.j.fr r.j.nx:Nat):Int),i6 ((aQ r.m r.j.aa2 r.j.tg r.j.nx:Nat):Int),i6 0]):=aa.pkZ Tryz.func84 λL hL=>by
 obtain⟨rfl⟩:=hL
 refine⟨[1,2],λ_=>[pk (aG gm r.m),pk (bK gq r.q)],?_,rfl,λE=>⟨rfl,rfl,rfl⟩⟩
 have hm:=hr.m
 have hj:=hr.j
 have hqn:=hr.n
 have hG:=hm.abc
 have hly:=hm.ly
 have hnp:=hm.np
 refine fG Tryz.func84 λw cs=>?_
 refine r0 [] [(2,i6 0),(3,i6 0),(4,i6 0)] [] (r0 [(1,.c [0,1,2] [1,2] (mY g gm gq r))] [(7,.bool (!((r.j.aa2:Int) != 0)))] [] ?_)
 have h3:(!((r.j.aa2:Int) != 0))=false:=by(have h5:((r.j.aa2:Int)==0)=false:=by rw[dp];omega);(rw[bne,h5];rfl)
 exact cF (!((r.j.aa2:Int) != 0)) h3 (r0 [(3,.m (ls 0 ([iN r.j.aa2,iN r.j.fr,iN r.j.tg,iN r.j.nx]))),(7,.m (ld 0 (pt gm 0))),(12,.m (ld 0 (iN r.j.nx))),(13,.c [1] [1] (Ru gm r.m hm r.j hj r.j.nx hi)),] [(2,i6 ((aQ r.m r.j.aa2 r.j.fr r.j.nx:Nat):Int)),(4,i6 0)] [2,4] (rT [] 26 (r0 [(3,.m (ls 0 ([iN r.j.aa2,iN r.j.fr,iN r.j.tg,iN r.j.nx]))),(7,.m (ld 0 (pt gm 0))),(12,.m (ld 0 (iN r.j.nx))),(13,.c [1] [1] (Rv gm r.m hm r.j hj r.j.nx hi)),] [(3,i6 ((aQ r.m r.j.aa2 r.j.tg r.j.nx:Nat):Int)),(4,i6 0)] [3,4] (r0 [] [(2,i6 ((aQ r.m r.j.aa2 r.j.fr r.j.nx:Nat):Int)),(3,i6 ((aQ r.m r.j.aa2 r.j.tg r.j.nx:Nat):Int)),(4,i6 0)] [2,3,4] (lf ab.zero [1,2] [(0,0)] [])))))
theorem Sn(g gm gq:Nat)(r:Rp)(hr:aN r)(hb:r.j.aa2=0):aa dZ 84 #[pt g 0] [pk (aq g gm gq r)] [0] (λ_=>[pk (aq g gm gq r)]) (λ_=> .tuple #[i6 0,i6 0,i6 51]):=aa.pkZ Tryz.func84 λL hL=>by
 obtain⟨rfl⟩:=hL
 refine⟨[1,2],λ_=>[pk (aG gm r.m),pk (bK gq r.q)],?_,rfl,λE=>⟨rfl,rfl,rfl⟩⟩
 have hm:=hr.m
 have hj:=hr.j
 have hqn:=hr.n
 have hG:=hm.abc
 have hly:=hm.ly
 have hnp:=hm.np
 refine fG Tryz.func84 λw cs=>?_
 refine r0 [] [(2,i6 0),(3,i6 0),(4,i6 0)] [] (r0 [(1,.c [0,1,2] [1,2] (mY g gm gq r))] [(7,.bool (!((r.j.aa2:Int) != 0)))] [] ?_)
 have h3:(!((r.j.aa2:Int) != 0))=true:=by rw[hb];rfl
 exact cT (!((r.j.aa2:Int) != 0)) h3 (r0 [] [(2,i6 0),(3,i6 0),(4,i6 51)] [2,3,4] (lf ab.zero [1,2] [(0,0)] []))
end Go.Proofs.YtbcodenfkijdnaaGreat.E
