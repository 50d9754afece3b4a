/- WholeCalm, in 7 texts: part 3. For every input; no condition. -/
import Derived.Test.YtbcodenfkijdnaaGreatC2
import Derived.WideShapes
import Derived.OpenShut
import Derived.WideOpen
import Derived.Deep.Slices
import Derived.IntWalk
set_option linter.unusedVariables false
set_option linter.unusedSimpArgs false
set_option maxRecDepth 100000
namespace Go.Proofs.YtbcodenfkijdnaaGreat.E
open Go Go.RowKit Go.Shelf
open Go.Proofs.Tryz renaming prog→Zz
open List renaming replicate→ZA
attribute [local irreducible] pc bk
def eo(b:Bool):Int:=(bif b then 1 else 0)
theorem DX(b:Bool):aa Zz 158 #[.bool b] [] [] N0 (λ_=>i6 (eo b)):=by
 refine fG Tryz.func158 λw cs=>?_
 refine r0 [] [(2,i6 0)] [] (r0 [] [(3,.bool b)] [] ?_)
 refine cB (b) (λh3=>?_) λh3=>?_
 ·refine r0 [] [(2,i6 1)] [2] ?_
  exact am (i6 1) ab.zero (by((try simp only[eo]);(repeat (first | rw[h3] | rw[ALct])))<;>rfl) [] [] []
 refine r0 [] [(2,i6 0)] [2] ?_
 exact am (i6 0) ab.zero (by((try simp only[eo]);(repeat (first | rw[h3] | rw[ALcf])))<;>rfl) [] [] []
theorem NW(x:Int)(h0: -9223372036854775808≤x)(h1:x≤9223372036854775807):aa Zz 173 #[i6 x] [] [] N0 (λ_=> .agg (rB 3 ([aO x,aO (x/256),(aO (x/65536))&&& (127:UInt8)])).toArray):=by
 refine fG Tryz.func173 λw cs=>?_
 exact ra (λq1=>[(2,pt (B0 q1) 0)]) (λq1=>[ob (B0 q1) (rB 3 (ZA 3 0)).toArray 262]) λq1=>rs [(1,.t (tc (k:= .i64) (l:= .u8) (a:=i6 x) λ_ _ _ hS hT=>oY hS hT)),(3,.t (tv (ar .shr 3 (.tmp 5) (.const (u6 8)) (i6 x) (u6 8)) (λ_=>i8 8 Dc))),(4,.t (tc (k:= .i64) (l:= .u8) (a:=i6 (x/256)) λ_ _ _ hS hT=>oY hS hT)),(6,.t (tv (ar .shr 3 (.tmp 8) (.const (u6 16)) (i6 x) (u6 16)) (λ_=>i8 16 Dc))),(7,.t (tc (k:= .i64) (l:= .u8) (a:=i6 (x/65536)) λ_ _ _ hS hT=>oY hS hT)),(8,.t (tb (a:=u1 ((aO (x/65536)).toNat:Int)) (b:=u1 127) λ_ _ _ _=>xz (aO (x/65536)) ((127:UInt8)))),(10,.s 0)] 0 (ob (B0 q1) (rB 3 ([aO x,aO (x/256),(aO (x/65536))&&& (127:UInt8)])).toArray 262) (lf ab.zero [] [] [0])
def ci(x:Int)(b:Bool):List UInt8:=(bif b then([aO x,aO (x/256),(aO (x/65536))&&& (127:UInt8)]).set 2 (((aO (x/65536))&&& (127:UInt8))||| (128:UInt8)) else[aO x,aO (x/256),(aO (x/65536))&&& (127:UInt8)])
theorem DY(x:Int)(h0: -9223372036854775808≤x)(h1:x≤9223372036854775807)(b:Bool):aa Zz 159 #[i6 x,.bool b] [] [] N0 (λ_=> .agg (rB 3 (ci x b)).toArray):=by
 refine fG Tryz.func159 λw cs=>?_
 refine ra (λq1=>[(4,pt (B0 q1) 0)]) (λq1=>[ob (B0 q1) (rB 3 (ZA 3 0)).toArray 262]) λq1=>rr (λ_=>[(1,.c [] [] (NW x Om Om)),(3,.s 1)]) (λq2=>[(5,pt (B2 q2) 0)]) [] (λq2 L=>L++[ob (B2 q2) (rB 3 ([aO x,aO (x/256),(aO (x/65536))&&& (127:UInt8)])).toArray 262]) λq2=>r0 [] [(8,.bool b)] [] ?_
 refine cJ (b) N0 (λc=>[ob (B0 q1) (rB 3 (ZA 3 0)).toArray 262,ob (B2 q2) (rB 3 (bif c then([aO x,aO (x/256),(aO (x/65536))&&& (127:UInt8)]).set 2 (((aO (x/65536))&&& (127:UInt8))||| (128:UInt8)) else[aO x,aO (x/256),(aO (x/65536))&&& (127:UInt8)])).toArray 262]) (λh4=>?_) (λh4=>?_) ?_
 ·refine rr (λ_=>[(1,.l 1),(2,.t (tb (a:=u1 (((aO (x/65536))&&& (127:UInt8)).toNat:Int)) (b:=u1 128) λ_ _ _ _=>Jj ((aO (x/65536))&&& (127:UInt8)) ((128:UInt8)))),(4,.m (sw 1 (B2 q2) 2 262 (u1 ((((aO (x/65536))&&& (127:UInt8))||| (128:UInt8)).toNat:Int)) (rB 3 ([aO x,aO (x/256),(aO (x/65536))&&& (127:UInt8)])).toArray (rB 3 (([aO x,aO (x/256),(aO (x/65536))&&& (127:UInt8)]).set 2 (((aO (x/65536))&&& (127:UInt8))||| (128:UInt8)))).toArray (mJ (show([aO x,aO (x/256),(aO (x/65536))&&& (127:UInt8)]).length=3 by rfl)) (kg Dc)))]) N0 [] (λ_ L=>L.set 1 (ob (B2 q2) (rB 3 (([aO x,aO (x/256),(aO (x/65536))&&& (127:UInt8)]).set 2 (((aO (x/65536))&&& (127:UInt8))||| (128:UInt8)))).toArray 262)) λq5=>?_
  exact cm Kr [0,1] Kr
 ·exact cm Kr [0,1] Kr
 exact rs [(0,.l 1),(1,.s 0)] 0 (ob (B0 q1) (rB 3 (bif b then([aO x,aO (x/256),(aO (x/65536))&&& (127:UInt8)]).set 2 (((aO (x/65536))&&& (127:UInt8))||| (128:UInt8)) else[aO x,aO (x/256),(aO (x/65536))&&& (127:UInt8)])).toArray 262) (lf ab.zero [] [] [0])
theorem NX{P:Program}{w:World}{S T:TypeId}(hS:P.underlying S=some (.int .i64))(hT:P.underlying T=some (.int .u32)){c:Nat}(hc:c<4294967296):(convert S T (.int .i64 (c:Int))).run P w= .ok (.int .u32 (c:Int)) w:=by
 have h:IntKind.u32.wrap (c:Int)=(c:Int):=by rw[IntKind.wrap_u32];omega
 simp only[convert,Sem.run_bind,run_underlying hS,run_underlying hT,Result.andThen_ok,Conv.intToInt,h,Sem.run_pure]
theorem NY{P:Program}{T:TypeId}{y z:Operand}{w:World}(x:Int):(ar .and T y z (.int .i64 x) (.int .i64 8388607)).run P w= .ok (.int .i64 (((x%8388608).toNat:Nat):Int)) w:=by
 have h:=mO (P:=P) (T:=T) (y:=y) (z:=z) (w:=w) x 23 8388608 Dc Dc Dc Dc
 rw[show(((x%8388608).toNat:Nat):Int)=x%((8388608:Nat):Int) by omega]
 exact h
theorem vn(x:Int):aa Zz 153 #[i6 x] [] [] N0 (λ_=>i6 ((pc ((x%8388608).toNat)%2:Nat):Int)):=by
 refine fG Tryz.func153 λw cs=>?_
 exact r0 [] [(2,i6 0)] [] (r0 [(1,.t (tv (ar .and 3 (.tmp 3) (.const (i6 8388607)) (i6 x) (i6 8388607)) (λ_=>NY x))),(2,.t (tv (convert 3 329 (i6 (((x%8388608).toNat:Nat):Int))) (λ_=>NX Tryz.underlying3 Tryz.underlying329 Om))),(3,.c [] [] (Lt ((x%8388608).toNat) Om))] [(2,i6 ((pc ((x%8388608).toNat)%2:Nat):Int))] [2] (lf ab.zero [] [] []))
def iK(x:Nat):Nat→List UInt8
 | 0=>[]
 | k+1=>iK x k++[UInt8.ofNat (x/256^k)]
theorem j9(x k:Nat):(iK x k).length=k:=by
 induction k with
 | zero=>rfl
 | succ k ih=>rw[iK,List.length_append,ih];rfl
theorem NZ(x k:Nat):x/256^(k+1)=x/256^k/2^8:=by rw[Nat.pow_succ,Nat.div_div_eq_div_mul]
theorem N1(x:Nat)(hx:x<18446744073709551616):aa Zz 156 #[u6 (x:Int)] [] [] (λE=>[bE (E.val 0) (iK x 8)]) (λE=>(E.val 0)):=by
 refine fG Tryz.func156 λw cs=>?_
 refine r0 [] [(2,.slice none 0 0)] [] (r0 [] [(3,.slice none 0 0)] [] (r0 [] [(4,i6 0)] [] ?_))
 refine cz kB ?_
 refine mN (λk _=>k≤8) (λk vS3=>[(0,u6 ((x/256^k:Nat):Int)),(4,iN k),(3,vS3)]) (λk vS3 L=>L.set 0 (bE vS3 (iK x k))) (λk _=>8-k) 0 (.slice none 0 0) Om (by rw[Nat.pow_zero,Nat.div_one];kernel_rfl) Kr (λk vS3 hk4=>?_)
 have hll:=j9 x k
 refine r0 [] [(5,.bool (decide ((k:Int)<8)))] [] ?_
 refine cj (k:Int) 8 (λh6 dh6=>?_) λh6 dh6=>?_
 ·refine rr (λ_=>[(2,.t (tc (k:= .u64) (l:= .u8) (a:=u6 ((x/256^k:Nat):Int)) λ_ _ _ hS hT=>um hS hT)),(3,.m (bs 1 1)),(4,fD kB (vS3) (iK x k) 0 1 ([UInt8.ofNat (x/256^k)]))]) (λq7=>[(3,(q7 4).val 0)]) [3] (λq7 L=>L.set 0 (bE ((q7 4).val 0) ((iK x k)++([UInt8.ofNat (x/256^k)])))++[ob (B3 q7) #[u1 ((UInt8.ofNat (x/256^k)).toNat:Int)] 5]) λq7=>?_
  refine r0 [(1,.t (tv (ar .shr 44 (.tmp 11) (.const (u6 8)) (u6 ((x/256^k:Nat):Int)) (u6 8)) (λ_=>uj 8 Dc)))] [(0,u6 ((x/256^k/2^8:Nat):Int))] [0] (r0 [(0,ad k 1)] [(4,i6 ((k+1:Nat):Int))] [4] ?_)
  exact lE (k+1) ((q7 4).val 0) Om Om (by rw[NZ x k];kernel_rfl) [0] Kr
 obtain rfl:k=8:=by omega
 refine lF ?_
 exact r0 [] [(2,vS3)] [2] (lf (.l [] [] [vS3]) [0] [] [])
end Go.Proofs.YtbcodenfkijdnaaGreat.E
namespace Go.Proofs.YtbcodenfkijdnaaGreat
open Go Go.RowKit Go.Shelf
open List renaming getElem?_eq_none→Zz,getElem?_range→ZB,length_range→ZC,getElem?_map→ZD,ext_getElem?→ZE,length_map→ZF
open Nat renaming pow_le_pow_right→ZA,lt_or_ge→ZG
def aB(xs:List UInt8)(off:Nat):Nat→Nat
 | 0=>0
 | k+1=>aB xs off k||| (xs.getD (off+k) 0).toNat*2^(8*k)
theorem vp{b:UInt8}{k:Nat}(hk:k<8):b.toNat*2^(8*k)<18446744073709551616:=by
 have h1:=b.toNat_lt
 have h2:2^(8*k)≤2^56:=ZA Dc Om
 calc b.toNat*2^(8*k)≤255*2^56:=Nat.mul_le_mul Om h2
  _<18446744073709551616:=by decide
theorem qw(xs:List UInt8)(off k:Nat):aB xs off k<2^(8*k):=by
 induction k with
 | zero=>simp [aB]
 | succ k ih=>
  have h1:=(xs.getD (off+k) 0).toNat_lt
  unfold aB
  refine Nat.or_lt_two_pow (Nat.lt_of_lt_of_le ih (ZA Dc Om)) ?_
  rw[show 8*(k+1)=8+8*k by omega,Nat.pow_add]
  exact Nat.mul_lt_mul_of_pos_right Om (Nat.pow_pos Dc)
theorem qx(xs:List UInt8)(off k:Nat):aB xs off (k+1)=aB xs off k+256^k*(xs.getD (off+k) 0).toNat:=by
 rw[show aB xs off (k+1)=aB xs off k||| (xs.getD (off+k) 0).toNat*2^(8*k) from rfl]
 have h:=Nat.two_pow_add_eq_or_of_lt (qw xs off k) (xs.getD (off+k) 0).toNat
 rw[Nat.mul_comm,Nat.or_comm,←h,Nat.add_comm,show(256:Nat)=2^8 from rfl,←Nat.pow_mul]
theorem qy(xs:List UInt8)(off:Nat){k:Nat}(hk:k≤8):aB xs off k<18446744073709551616:=by
 have h1:=qw xs off k
 have h2:2^(8*k)≤2^64:=ZA Dc Om
 have:(2:Nat)^64=18446744073709551616:=by decide
 omega
def b8(N:Nat)(f:Nat→UInt8)(n:Nat):List UInt8:=(List.range N).map λi=>if i<n then f i else 0
theorem lL(N:Nat)(f:Nat→UInt8)(n:Nat):(b8 N f n).length=N:=by unfold b8;rw[ZF,ZC]
theorem N2{N:Nat}{f:Nat→UInt8}{n i:Nat}(h:i<N):(b8 N f n).getD i 0=if i<n then f i else 0:=by
 unfold b8
 rw[List.getD_eq_getElem?_getD,ZD,ZB h]
 rfl
theorem N3{N:Nat}{f:Nat→UInt8}{n:Nat}(h:n<N):(b8 N f n).set n (f n)=b8 N f (n+1):=by
 apply ZE
 intro i
 rw[List.getElem?_set]
 rcases ZG i N with hi | hi
 ·unfold b8
  simp only[ZF,ZC,ZD,ZB hi,Option.map_some]
  by_cases e:n=i
  ·subst e;rw[ALifp rfl,ALifp h,ALifp Om]
  ·rw[ALifn e]
   by_cases e2:i<n
   ·rw[ALifp e2,ALifp Om]
   ·rw[ALifn e2,ALifn Om]
 ·rw[Zz (l:=b8 N f (n+1)) (by rw[lL];exact hi),Zz (l:=b8 N f n) (by rw[lL];exact hi),lL]
  rw[ALifn Om]
theorem N4(N:Nat)(f:Nat→UInt8):b8 N f 0=List.replicate N 0:=by
 apply ZE
 intro i
 rcases ZG i N with hi | hi
 ·unfold b8
  simp [hi]
 ·rw[Zz (by rw[lL];exact hi),Zz (by simpa using hi)]
end Go.Proofs.YtbcodenfkijdnaaGreat
namespace Go.Proofs.YtbcodenfkijdnaaGreat.E
open Go Go.RowKit Go.Shelf
open Go.Proofs.Tryz renaming prog→Zz
open List renaming flatten→ZA
theorem yM(ys:List UInt8)(k:Nat):aB ys 0 (k+1)=aB ys 0 k||| (ys.getD k 0).toNat*2^(8*k):=by rw[aB,Nat.zero_add]
theorem N5(ys:List UInt8)(o k:Nat):aB ys o (k+1)=aB ys o k||| (ys.getD (o+k) 0).toNat*2^(8*k):=rfl
theorem DZ(ys:List UInt8)(o:Nat):aB ys o 0=0:=rfl
theorem N6{P:Program}{T:TypeId}{x y:Operand}{w:World}{ys:List UInt8}{k:Nat}(hk:k<8):(ar .or T x y (.int .u64 ((aB ys 0 k:Nat):Int)) (.int .u64 (((ys.getD k 0).toNat*2^(8*k):Nat):Int))).run P w= .ok (.int .u64 ((aB ys 0 (k+1):Nat):Int)) w:=by
 rw[yM];exact BI (qy _ _ Om) (vp hk)
theorem N7{P:Program}{T:TypeId}{x y:Operand}{w:World}{ys:List UInt8}{o k:Nat}(hk:k<8):(ar .or T x y (.int .u64 ((aB ys o k:Nat):Int)) (.int .u64 (((ys.getD (o+k) 0).toNat*2^(8*k):Nat):Int))).run P w= .ok (.int .u64 ((aB ys o (k+1):Nat):Int)) w:=by
 rw[N5];exact BI (qy _ _ Om) (vp hk)
attribute [local irreducible] aB
theorem N8(v:Value)(ys:List UInt8)(hy:ys.length=8):aa Zz 228 #[v] [.p (aK eB v ys)] [] N0 (λ_=>u6 ((aB ys 0 8:Nat):Int)):=by
 refine fO Tryz.func228 0 rfl λbq0 hq0=>?_
 refine fG Tryz.func228 λw cs=>?_
 refine r0 [] [(2,u6 0)] [] (r0 [] [(3,u6 0)] [] (r0 [(1,eR hq0.1 0)] [(6,v),(7,iN ys.length),(8,i6 0)] [] ?_))
 refine lq (λk=>k≤8) (λk=>[(3,u6 ((aB ys 0 k:Nat):Int)),(8,iN k)]) (λ_ L=>L) (λk=>8-k) 0 Om (by rw[DZ];kernel_rfl) Kr (λk hk4=>?_)
 refine r0 [] [(9,.bool (decide ((k:Int)<(ys.length:Int))))] [] ?_
 refine cj (k:Int) (ys.length:Int) (λh6 dh6=>?_) λh6 dh6=>?_
 ·refine r0 [(1,fF hq0.1 0 k 1),(2,jr kB hq0.1 0 k 0)] [(4,iN k),(5,u1 ((ys.getD k 0).toNat:Int))] [] ?_
  refine r0 [(2,.t (tc (k:= .u8) (l:= .u64) (a:=u1 ((ys.getD k 0).toNat:Int)) λ_ _ _ hS hT=>BJ hS hT)),(4,ml 8 k),(5,.t (tv (convert 3 201 (i6 ((8*k:Nat):Int))) (λ_=>Zv Tryz.underlying3 Tryz.underlying201 Om))),(6,.t (tv (ar .shl 44 (.tmp 15) (.tmp 18) (u6 ((ys.getD k 0).toNat:Int)) (u6 ((8*k:Nat):Int))) (λ_=>uk (8*k) Om (vp Om)))),(7,.t (tv (ar .or 44 (.tmp 13) (.tmp 19) (u6 ((aB ys 0 k:Nat):Int)) (u6 (((ys.getD k 0).toNat*2^(8*k):Nat):Int))) (λ_=>N6 Om)))] [(3,u6 ((aB ys 0 (k+1):Nat):Int))] [3] (r0 [(0,ad k 1)] [(8,i6 ((k+1:Nat):Int))] [8] ?_)
  exact le (k+1) Om Om Kr [0] Kr
 obtain rfl:k=8:=by omega
 refine lx ?_
 exact r0 [] [(2,u6 ((aB ys 0 8:Nat):Int))] [2] (lf ab.zero [] [(0,0)] [])
theorem N9(l:List UInt8)(hl:l.length=64)(q:Nat)(hq:q<8):aa Zz 201 #[.agg (rB 64 l).toArray,iN q] [] [] N0 (λ_=>u6 ((aB l (8*q) 8:Nat):Int)):=by
 refine fG Tryz.func201 λw cs=>?_
 refine ra (λq1=>[(2,pt (B0 q1) 0),(4,u6 0)]) (λq1=>[ob (B0 q1) (rB 64 l).toArray 43]) λq1=>r0 [] [(5,u6 0)] [] (r0 [] [(7,i6 0)] [] ?_)
 refine lq (λk=>k≤8) (λk=>[(5,u6 ((aB l (8*q) k:Nat):Int)),(7,iN k)]) (λ_ L=>L) (λk=>8-k) 0 Om (by rw[DZ];kernel_rfl) Kr (λk hk4=>?_)
 refine r0 [] [(8,.bool (decide ((k:Int)<8)))] [] ?_
 refine cj (k:Int) 8 (λh6 dh6=>?_) λh6 dh6=>?_
 ·refine r0 [] [(6,iN k)] [] ?_
  refine r0 [(0,.v (u6 ((aB l (8*q) k:Nat):Int))),(1,.v (iN q)),(2,ml 8 q),(3,.v (iN k)),(4,ad (8*q) k),(5,iA 43 .i64 (B0 q1) 0 64 1 ((8*q)+k)),(6,rD 0 (B0 q1) ((8*q)+k) 43 (rB 64 l) (ol Om)),(7,.t (tc (k:= .u8) (l:= .u64) (a:=u1 ((l.getD ((8*q)+k) 0).toNat:Int)) λ_ _ _ hS hT=>BJ hS hT)),(8,.v (iN k)),(9,ml 8 k),(10,.t (tv (convert 3 201 (i6 ((8*k:Nat):Int))) (λ_=>Zv Tryz.underlying3 Tryz.underlying201 Om))),(11,.t (tv (ar .shl 44 (.tmp 17) (.tmp 20) (u6 ((l.getD ((8*q)+k) 0).toNat:Int)) (u6 ((8*k:Nat):Int))) (λ_=>uk (8*k) Om (vp Om)))),(12,.t (tv (ar .or 44 (.tmp 10) (.tmp 21) (u6 ((aB l (8*q) k:Nat):Int)) (u6 (((l.getD (8*q+k) 0).toNat*2^(8*k):Nat):Int))) (λ_=>N7 Om))),(13,.v (u6 ((aB l (8*q) (k+1):Nat):Int)))] [(5,u6 ((aB l (8*q) (k+1):Nat):Int))] [5] (r0 [(0,ad k 1)] [(7,i6 ((k+1:Nat):Int))] [7] ?_)
  exact le (k+1) Om Om Kr [0] Kr
 obtain rfl:k=8:=by omega
 refine lx ?_
 exact r0 [] [(4,u6 ((aB l (8*q) 8:Nat):Int))] [4] (lf ab.zero [] [] [])
theorem Ob(b:Nat)(l:List UInt8)(hl:l.length=64):fy 5 Zz 200 #[pt b 0] (λ(x:Nat×Nat)=>#[i6 (x.1:Int),u6 (x.2:Int)]) ((List.range 8).map λk=>(k,aB l (8*k) 8)) (ZA [[(b,.cells (rB 64 l).toArray 43 (0,0))]]):=by
 refine gi (KO:=[[(b,.cells (rB 64 l).toArray 43 (0,0))]]) Tryz.func200 (λlY JY JX WI RI hJ hY hI=>?_)
 refine r0 [] [(4,i6 0)] [] ?_
 refine kk (λk=>k≤8) (λk=>[(4,iN k)]) (λ_ L=>L) (λk=>8-k) (λk=>k) 0 Om hI Kr Kr (λk R4 W5 hk2 hI3=>?_)
 refine r0 [] [(5,.bool (decide ((k:Int)<8)))] [] ?_
 refine cj (k:Int) 8 (λh7 dh7=>?_) λh7 dh7=>?_
 ·refine r0 [] [(3,iN k)] [] ?_
  refine iy hJ hY hI3 5 (λ_=>[(2,.l 0),(4,.c [] [] (N9 l (by(simp only[LL,hl];done)) k Om))]) (λ_=>[(7,.func (.yield lY) #[] #[]),(8,iN k),(11,u6 ((aB l (8*k) 8:Nat):Int))]) [] (λ_ L=>L) N0 [0] (o4 Om) (λq9 R10 W11 hI12=>?_)
  refine cF _ rfl (r0 [(0,ad k 1)] [(4,i6 ((k+1:Nat):Int))] [4] ?_)
  exact jc (k+1) Om hI12 Om Kr [0] Kr
 obtain rfl:k=8:=by omega
 refine km ?_
 exact lH hJ hI3 bh [] [0]
theorem Od(l:List UInt8)(hl:l.length=64):aa Zz 154 #[.agg (rB 64 l).toArray] [] [] (λE=>[ob (E.ZK 0) (rB 64 l).toArray 43]) (λE=> .func (.func 200) #[] #[pt ((E.ZK 0)) 0]):=by
 refine fG Tryz.func154 λw cs=>?_
 exact ra (λq1=>[(1,pt (B0 q1) 0),(2,.nilFunc)]) (λq1=>[ob (B0 q1) (rB 64 l).toArray 43]) λq1=>r0 [] [(2,.func (.func 200) #[] #[pt (B0 q1) 0])] [2] (lf (.l [(q1 0).ZK 0] [] []) [0] [] [])
theorem Oe(l:List UInt8)(hl:l.length=64):aa Zz 160 #[.agg (rB 64 l).toArray] [] [] (λE=>[ob (E.ZK 0) (rB 64 l).toArray 43]) (λE=> .func (.func 202) #[] #[pt ((E.ZK 0)) 0]):=by
 refine fG Tryz.func160 λw cs=>?_
 exact ra (λq1=>[(1,pt (B0 q1) 0),(2,.nilFunc)]) (λq1=>[ob (B0 q1) (rB 64 l).toArray 43]) λq1=>r0 [] [(2,.func (.func 202) #[] #[pt (B0 q1) 0])] [2] (lf (.l [(q1 0).ZK 0] [] []) [0] [] [])
theorem Of(b:Nat)(l:List UInt8)(hl:l.length=64):fy 5 Zz 202 #[pt b 0] (λ(x:Nat×List UInt8)=>#[i6 (x.1:Int),.agg (rB 32 x.2).toArray]) ((List.range 2).map λk=>(k,(l.drop (32*k)).take 32)) (ZA [[(b,.cells (rB 64 l).toArray 43 (0,0))]]):=by
 refine gi (KO:=[[(b,.cells (rB 64 l).toArray 43 (0,0))]]) Tryz.func202 (λlY JY JX WI RI hJ hY hI=>?_)
 refine r0 [] [(4,i6 0)] [] ?_
 refine kk (λk=>k≤2) (λk=>[(4,iN k)]) (λ_ L=>L) (λk=>2-k) (λk=>k) 0 Om hI Kr Kr (λk R4 W5 hk2 hI3=>?_)
 refine r0 [] [(5,.bool (decide ((k:Int)<2)))] [] ?_
 refine cj (k:Int) 2 (λh7 dh7=>?_) λh7 dh7=>?_
 ·refine r0 [] [(3,iN k)] [] ?_
  refine iy hJ hY hI3 7 (λ_=>[(3,ml 32 k),(4,aL 43 b 64 1 (32*k)),(5,.t (tv (Instr.arrayAt 267 (.slice (some ⟨b,(32*k)*1,none⟩) (64-(32*k)) (64-(32*k)))) (λ_=>run_arrayAt _ 267 5 32 _ _ _ Tryz.underlying267 Om))),(6,.m (lg 0 b ((32*k)*1) (rB 64 l).toArray 43 (rB 32 ((l.drop (32*k)).take 32)) (xF (λ_=>rfl) hl Om)))]) (λ_=>[(7,.func (.yield lY) #[] #[]),(8,iN k),(13,.agg (rB 32 ((l.drop (32*k)).take 32)).toArray)]) [] (λ_ L=>L) N0 [0] (o4 Om) (λq9 R10 W11 hI12=>?_)
  refine cF _ rfl (r0 [(0,ad k 1)] [(4,i6 ((k+1:Nat):Int))] [4] ?_)
  exact jc (k+1) Om hI12 Om Kr [0] Kr
 obtain rfl:k=2:=by omega
 refine km ?_
 exact lH hJ hI3 bh [] [0]
end Go.Proofs.YtbcodenfkijdnaaGreat.E
namespace Go.Proofs.YtbcodenfkijdnaaGreat.E
open Go Go.RowKit Go.Shelf
open Go.Proofs.Tryz renaming prog→Zz
open List renaming size_toArray→ZA,replicate→ZB,toArray→ZC
theorem py(m:Int):aa Zz 71 #[i6 m] [] [] N0 (λ_=> .bool ((m==1)||(m==2))):=by
 refine fG Tryz.func71 λw cs=>?_
 exact r0 [] [(2,.bool false)] [] (r0 [] [(2,.bool ((m==1)||(m==2)))] [2] (lf ab.zero [] [] []))
theorem vq:aa Zz 75 #[i6 1] [] [] N0 (λ_=>i6 9):=by
 refine fG Tryz.func75 λw cs=>?_
 refine r0 [] [(2,i6 0)] [] (r0 [] [(3,i6 1)] [] (rT [] 4 (r0 [] [(2,i6 9)] [2] ?_)))
 exact am (i6 9) ab.zero bh [] [] []
theorem vr:aa Zz 75 #[i6 2] [] [] N0 (λ_=>i6 36):=by
 refine fG Tryz.func75 λw cs=>?_
 refine r0 [] [(2,i6 0)] [] (r0 [] [(3,i6 2)] [] (rF [] 4 (rT [] 6 (r0 [] [(2,i6 36)] [2] ?_))))
 exact am (i6 36) ab.zero bh [] [] []
theorem yN:aa Zz 192 #[i6 1] [] [] N0 (λ_=>i6 8):=by
 refine fG Tryz.func192 λw cs=>?_
 refine r0 [] [(2,i6 0)] [] (r0 [(1,.c [] [] (py 1))] [(5,.bool (!((1==1)||(1==2))))] [] ?_)
 have h3:(!((1==1)||(1==2)))=false:=by decide
 refine cF (!((1==1)||(1==2))) h3 (r0 [(1,.c [] [] (vq)),(2,.t (tb (a:=i6 72) (b:=i6 9) λ_ _ _ _=>o8 (a:=72) (d:=9) Dc Om))] [(2,i6 ((72/9:Nat):Int))] [2] ?_)
 exact am (i6 ((72/9:Nat):Int)) ab.zero bh [] [] []
theorem yO:aa Zz 192 #[i6 2] [] [] N0 (λ_=>i6 2):=by
 refine fG Tryz.func192 λw cs=>?_
 refine r0 [] [(2,i6 0)] [] (r0 [(1,.c [] [] (py 2))] [(5,.bool (!((2==1)||(2==2))))] [] ?_)
 have h3:(!((2==1)||(2==2)))=false:=by decide
 refine cF (!((2==1)||(2==2))) h3 (r0 [(1,.c [] [] (vr)),(2,.t (tb (a:=i6 72) (b:=i6 36) λ_ _ _ _=>o8 (a:=72) (d:=36) Dc Om))] [(2,i6 ((72/36:Nat):Int))] [2] ?_)
 exact am (i6 ((72/36:Nat):Int)) ab.zero bh [] [] []
theorem D0{α:Type}{en:α→List Value}{d:α}{a l m c N:Nat}{ys:List α}{t:TypeId}(h1: ∀x,(en x).length=1)(h:ys.length=N)(hl:l+m≤N):dZ en (.slice (some ⟨a,l*1,none⟩) m c) ((ys.drop l).take m) [(a,.cells ((cR en d N ys).toArray) t (0,0))]:=
 .inr ⟨a,l*1,_,t,(0,0),c,by rw[show((ys.drop l).take m).length=m by rw[List.length_take,List.length_drop];omega],by simp,BW (d:=d) h1 h hl⟩
theorem D1(xs:List UInt8)(hx:xs.length=72)(q:Nat)(hq:q<8):aa Zz 194 #[.agg (rB 72 xs).toArray,i6 1,iN q] [] [] (λE=>[bE (E.val 0) ((xs.drop (9*q)).take 9)]) (λE=>(E.val 0)):=by
 refine fG Tryz.func194 λw cs=>?_
 refine ra (λq1=>[(3,pt (B0 q1) 0),(6,.slice none 0 0)]) (λq1=>[ob (B0 q1) (rB 72 xs).toArray 217]) λq1=>r0 [(5,.c [] [] (yN))] [(15,.bool ((decide ((q:Int)<0))||(decide (8≤(q:Int)))))] [] ?_
 have h3:((decide ((q:Int)<0))||(decide (8≤(q:Int))))=false:=by rw[bj Om,bj Om];rfl
 exact cF ((decide ((q:Int)<0))||(decide (8≤(q:Int)))) h3 (r0 [(1,.c [] [] (vq))] [(7,i6 9)] [] (rr (λq5=>[(0,.m (sa 1 eB ([u1 0]) 5)),(3,ml 9 q),(6,ml 9 q),(8,ad (9*q) 9),(9,aM 217 (B0 q1) 72 1 (9*q) 9),(10,.m (mK 1 0 pa (.slice (some ⟨(q5 0).ZK 0,0,none⟩) 0 0) (.slice (some ⟨(q1 0).ZK 0,(9*q)*1,none⟩) 9 (72-(9*q))) (xs:=[]) (ys:=(xs.drop (9*q)).take 9) (ob (B0 q1) (rB 72 xs).toArray 217) (λ_ h=>by rw[show _=_ from h];exact D0 (λ_=>rfl) hx Om) o9 (λ_=>rfl) (by simp only[LL,hx];omega)))]) (λq5=>[(6,(q5 10).val 0)]) [6] (λq5 L=>L++[bE ((q5 10).val 0) ([]++((xs.drop (9*q)).take 9))]) λq5=>lf (.l [] [] [(q5 10).val 0]) [1] [] [] (hf:=by kernel_rfl)))
theorem D2(xs:List UInt8)(hx:xs.length=72)(q:Nat)(hq:q<2):aa Zz 194 #[.agg (rB 72 xs).toArray,i6 2,iN q] [] [] (λE=>[bE (E.val 0) ((xs.drop (36*q)).take 36)]) (λE=>(E.val 0)):=by
 refine fG Tryz.func194 λw cs=>?_
 refine ra (λq1=>[(3,pt (B0 q1) 0),(6,.slice none 0 0)]) (λq1=>[ob (B0 q1) (rB 72 xs).toArray 217]) λq1=>r0 [(5,.c [] [] (yO))] [(15,.bool ((decide ((q:Int)<0))||(decide (2≤(q:Int)))))] [] ?_
 have h3:((decide ((q:Int)<0))||(decide (2≤(q:Int))))=false:=by rw[bj Om,bj Om];rfl
 exact cF ((decide ((q:Int)<0))||(decide (2≤(q:Int)))) h3 (r0 [(1,.c [] [] (vr))] [(7,i6 36)] [] (rr (λq5=>[(0,.m (sa 1 eB ([u1 0]) 5)),(3,ml 36 q),(6,ml 36 q),(8,ad (36*q) 36),(9,aM 217 (B0 q1) 72 1 (36*q) 36),(10,.m (mK 1 0 pa (.slice (some ⟨(q5 0).ZK 0,0,none⟩) 0 0) (.slice (some ⟨(q1 0).ZK 0,(36*q)*1,none⟩) 36 (72-(36*q))) (xs:=[]) (ys:=(xs.drop (36*q)).take 36) (ob (B0 q1) (rB 72 xs).toArray 217) (λ_ h=>by rw[show _=_ from h];exact D0 (λ_=>rfl) hx Om) o9 (λ_=>rfl) (by simp only[LL,hx];omega)))]) (λq5=>[(6,(q5 10).val 0)]) [6] (λq5 L=>L++[bE ((q5 10).val 0) ([]++((xs.drop (36*q)).take 36))]) λq5=>lf (.l [] [] [(q5 10).val 0]) [1] [] [] (hf:=by kernel_rfl)))
theorem Og(xs ys:List UInt8)(v:Value)(hx:xs.length=72)(q:Nat)(hq:q<8)(hy:ys.length=9):aa Zz 155 #[.agg (rB 72 xs).toArray,i6 1,iN q,v] [.p (aK eB v ys)] [] N0 (λ_=> .agg (rB 72 (xs.take (9*q)++ys++xs.drop ((9*q)+ys.length))).toArray):=by
 refine fO Tryz.func155 0 rfl λbq0 hq0=>?_
 refine fG Tryz.func155 λw cs=>?_
 refine ra (λq1=>[(4,pt (B0 q1) 0),(8,pt (B1 q1) 0)]) (λq1=>[ob (B0 q1) (rB 72 xs).toArray 217,ob (B1 q1) (rB 72 (ZB 72 0)).toArray 217]) λq1=>r0 [(1,.c [] [] (vq))] [(9,i6 9)] [] (r0 [(5,.c [] [] (yN)),(10,eR hq0.1 0),] [(25,.bool (((decide (0≤(q:Int)))&&(decide ((q:Int)<8)))&&((ys.length:Int)==9)))] [] ?_)
 have h4:(((decide (0≤(q:Int)))&&(decide ((q:Int)<8)))&&((ys.length:Int)==9))=true:=by rw[cC Om,cC Om];simp [hy]
 exact cT (((decide (0≤(q:Int)))&&(decide ((q:Int)<8)))&&((ys.length:Int)==9)) h4 (rs [(2,ml 9 q),(3,aL 217 (B0 q1) 72 1 (9*q)),(5,.m (uW kB 1 (B0 q1) ((9*q)*1) (72-(9*q)) (72-(9*q)) (rB 72 xs).toArray (rB 72 (xs.take (9*q)++ys++xs.drop ((9*q)+ys.length))).toArray 217 191 191 0 (.c bq0) v ys (cP hq0.1) Om (by rw[ZA,kL];omega) (by rw[Nat.mul_one];exact ALca ZC (r5 (d:=0) (λ_=>rfl) hx rfl Om))))] 1 (ob (B0 q1) (rB 72 (xs.take (9*q)++ys++xs.drop ((9*q)+ys.length))).toArray 217) (rs [(0,.l 1),(1,.s 2)] 2 (ob (B1 q1) (rB 72 (xs.take (9*q)++ys++xs.drop ((9*q)+ys.length))).toArray 217) (lf ab.zero [] [(0,0)] [2])))
theorem Oh(xs ys:List UInt8)(v:Value)(hx:xs.length=72)(q:Nat)(hq:q<2)(hy:ys.length=36):aa Zz 155 #[.agg (rB 72 xs).toArray,i6 2,iN q,v] [.p (aK eB v ys)] [] N0 (λ_=> .agg (rB 72 (xs.take (36*q)++ys++xs.drop ((36*q)+ys.length))).toArray):=by
 refine fO Tryz.func155 0 rfl λbq0 hq0=>?_
 refine fG Tryz.func155 λw cs=>?_
 refine ra (λq1=>[(4,pt (B0 q1) 0),(8,pt (B1 q1) 0)]) (λq1=>[ob (B0 q1) (rB 72 xs).toArray 217,ob (B1 q1) (rB 72 (ZB 72 0)).toArray 217]) λq1=>r0 [(1,.c [] [] (vr))] [(9,i6 36)] [] (r0 [(5,.c [] [] (yO)),(10,eR hq0.1 0),] [(25,.bool (((decide (0≤(q:Int)))&&(decide ((q:Int)<2)))&&((ys.length:Int)==36)))] [] ?_)
 have h4:(((decide (0≤(q:Int)))&&(decide ((q:Int)<2)))&&((ys.length:Int)==36))=true:=by rw[cC Om,cC Om];simp [hy]
 exact cT (((decide (0≤(q:Int)))&&(decide ((q:Int)<2)))&&((ys.length:Int)==36)) h4 (rs [(2,ml 36 q),(3,aL 217 (B0 q1) 72 1 (36*q)),(5,.m (uW kB 1 (B0 q1) ((36*q)*1) (72-(36*q)) (72-(36*q)) (rB 72 xs).toArray (rB 72 (xs.take (36*q)++ys++xs.drop ((36*q)+ys.length))).toArray 217 191 191 0 (.c bq0) v ys (cP hq0.1) Om (by rw[ZA,kL];omega) (by rw[Nat.mul_one];exact ALca ZC (r5 (d:=0) (λ_=>rfl) hx rfl Om))))] 1 (ob (B0 q1) (rB 72 (xs.take (36*q)++ys++xs.drop ((36*q)+ys.length))).toArray 217) (rs [(0,.l 1),(1,.s 2)] 2 (ob (B1 q1) (rB 72 (xs.take (36*q)++ys++xs.drop ((36*q)+ys.length))).toArray 217) (lf ab.zero [] [(0,0)] [2])))
def iL(ws:List Nat)(i:Nat):UInt8:=UInt8.ofNat (ws.getD (i/8) 0/2^(8*(i%8)))
theorem Oi{ws:List Nat}{k j:Nat}(hj:j<8):iL ws (8*k+j)=UInt8.ofNat (ws.getD k 0/2^(8*j)):=by
 unfold iL
 rw[show(8*k+j)/8=k by omega,show(8*k+j)%8=j by omega]
attribute [local irreducible] b8
theorem Oj(ws:List Nat)(hw:ws.length=8)(hb: ∀i,ws.getD i 0<18446744073709551616):aa Zz 196 #[.agg (rW 8 ws).toArray] [] [] N0 (λ_=> .agg (rB 64 (b8 64 (iL ws) (8*8))).toArray):=by
 refine fG Tryz.func196 λw cs=>?_
 refine ra (λq1=>[(1,pt (B0 q1) 0),(2,pt (B1 q1) 0)]) (λq1=>[ob (B0 q1) (rW 8 ws).toArray 320,ob (B1 q1) (rB 64 z6).toArray 43]) λq1=>ra (λq2=>[(3,pt (B0 q2) 0)]) (λq2=>[ob (B0 q2) (rB 64 z6).toArray 43]) λq2=>r0 [(0,.l 0)] [(7,.agg (rW 8 ws).toArray),(8,i6 0)] [] ?_
 refine lq (λk=>k≤8) (λk=>[(8,iN k)]) (λk L=>L.set 2 (ob (B0 q2) (rB 64 (b8 64 (iL ws) (8*k))).toArray 43)) (λk=>8-k) 0 Om Kr (by rw[Nat.mul_zero,N4];kernel_rfl) (λk hk4=>?_)
 refine r0 [] [(9,.bool (decide ((k:Int)<8)))] [] ?_
 refine cj (k:Int) 8 (λh6 dh6=>?_) λh6 dh6=>?_
 ·refine r0 [(1,.t (tv (Instr.index 320 (.agg (rW 8 ws).toArray) (iN k)) (λ_=>IF (n:=8) (e:=44) Tryz.underlying320 Om (λ_=>by kernel_rfl) Kr (Js Om))))] [(4,iN k),(5,u6 ((ws.getD k 0:Nat):Int))] [] ?_
  refine r0 [] [(12,i6 0)] [] ?_
  refine lq (λj=>j≤8) (λj=>[(12,iN j)]) (λj L=>L.set 2 (ob (B0 q2) (rB 64 (b8 64 (iL ws) (8*k+j))).toArray 43)) (λj=>8-j) 0 Om Kr Kr (λj hk9=>?_)
  refine r0 [] [(13,.bool (decide ((j:Int)<8)))] [] ?_
  refine cj (j:Int) 8 (λh11 dh11=>?_) λh11 dh11=>?_
  ·refine r0 [] [(6,iN j)] [] ?_
   refine rs [(1,ml 8 k),(3,ad (8*k) j),(6,ml 8 j),(7,.t (tv (convert 3 201 (i6 ((8*j:Nat):Int))) (λ_=>Zv Tryz.underlying3 Tryz.underlying201 Om))),(8,.t (tv (ar .shr 44 (.tmp 19) (.tmp 22) (u6 ((ws.getD k 0:Nat):Int)) (u6 ((8*j:Nat):Int))) (λ_=>uj (8*j) Om))),(9,.t (tc (k:= .u64) (l:= .u8) (a:=u6 ((ws.getD k 0/2^(8*j):Nat):Int)) λ_ _ _ hS hT=>um hS hT)),(10,iA 43 .i64 (B0 q2) 0 64 1 ((8*k)+j)),(11,wD 2 (B0 q2) ((8*k)+j) 43 (u1 ((UInt8.ofNat (ws.getD k 0/2^(8*j))).toNat:Int)) (rB 64 (b8 64 (iL ws) (8*k+j))) (rB 64 ((b8 64 (iL ws) (8*k+j)).set ((8*k)+j) (UInt8.ofNat (ws.getD k 0/2^(8*j))))) (kg Om) (mJ (lL ..)))] 2 (ob (B0 q2) (rB 64 ((b8 64 (iL ws) (8*k+j)).set ((8*k)+j) (UInt8.ofNat (ws.getD k 0/2^(8*j))))).toArray 43) (r0 [(0,ad j 1)] [(12,i6 ((j+1:Nat):Int))] [12] ?_)
   exact le (j+1) Om Om Kr [0,1,2] (by rw[←Nat.add_assoc,←N3 Om,Oi Om];kernel_rfl)
  obtain rfl:j=8:=by omega
  refine lx ?_
  refine r0 [(0,ad k 1)] [(8,i6 ((k+1:Nat):Int))] [8] ?_
  exact le (k+1) Om Om Kr [0,1,2] Kr
 obtain rfl:k=8:=by omega
 refine lx ?_
 exact rs [(0,.l 2),(1,.s 1)] 1 (ob (B1 q1) (rB 64 (b8 64 (iL ws) (8*8))).toArray 43) (lf ab.zero [] [] [1])
end Go.Proofs.YtbcodenfkijdnaaGreat.E
namespace Go.Proofs.YtbcodenfkijdnaaGreat.E
open Go Go.RowKit Go.Shelf
attribute [local irreducible] a9 bL cE aP aW
theorem Ok:aa Tryz.prog 115 #[] [] [] (λE=>[ob (E.ZK 0) #[pt ((E.ZK 1)) 0,pt ((E.ZK 2)) 0] 242,ob (E.ZK 1) (rB 74 (a9 10)++rI 256 (bL 10)).toArray 298,ob (E.ZK 2) #[pt ((E.ZK 3)) 0,(E.val 0)] 309,ob (E.ZK 3) (rB 255 aP++rN 256 aW).toArray 312,bE (E.val 0) cE]) (λE=>pt ((E.ZK 0)) 0):=by
 refine fG Tryz.func115 λw cs=>?_
 exact r0 [] [(0,.pointer none)] [] (rr (λq2=>[(0,.c [] [0] (NV)),(1,.c [] [1] (L6)),(2,.c [1] [2,3] (Nr (B1 q2)))]) (λq2=>[(0,pt (B4 q2) 0)]) [0] (λq2 L=>L++[ob (B0 q2) (rB 74 (a9 10)++rI 256 (bL 10)).toArray 298,ob (B1 q2) (rB 255 aP++rN 256 aW).toArray 312,ob (B2 q2) #[pt ((B1 q2)) 0,((q2 2).val 0)] 309,bE ((q2 2).val 0) cE,ob (B4 q2) #[pt ((B0 q2)) 0,pt ((B2 q2)) 0] 242]) λq2=>lf (.l [(q2 4).ZK 0,(B0 q2),(B2 q2),(B1 q2)] [] [((q2 2).val 0)]) [4,0,2,1,3] [] [])
end Go.Proofs.YtbcodenfkijdnaaGreat.E
namespace Go.Proofs.YtbcodenfkijdnaaGreat.E
open Go Go.RowKit Go.Shelf
open List renaming length_take→Zz,getD_eq_getElem?_getD→ZA,length_drop→ZB,getElem?_eq_getElem→ZD,foldl_append→ZE,replicate→ZF
open Go.Proofs.Tryz renaming prog→ZC
def kI:Kd ZC Int:=⟨eI,[i6 0],74,3,0,1,λ_=>rfl,rfl,λ_=>rfl,d9.mk' Kr Kr rfl⟩
def jK(l:List Int):Int:=l.foldl max 0
def jF(l:List Int):Int:=l.foldl (λa k=>a+eo (k==1)) 0
theorem D6{l:List Int}{k:Nat}(h:k<l.length):l.take (k+1)=l.take k++[l.getD k 0]:=by
 rw[List.take_add_one,ZD h,ZA,ZD h]
 rfl
theorem Ol(l:List Int)(x:Int):jK (l++[x])=max (jK l) x:=by unfold jK;rw[ZE];rfl
theorem On(l:List Int)(x:Int):jF (l++[x])=jF l+eo (x==1):=by unfold jF;rw[ZE];rfl
theorem yP(b:Bool):0≤eo b∧eo b≤1:=by cases b<;>decide
theorem Ea(l:List Int):0≤jF l∧jF l≤l.length:=by
 suffices h: ∀(l:List Int) (a:Int),a≤l.foldl (λa k=>a+eo (k==1)) a∧l.foldl (λa k=>a+eo (k==1)) a≤a+l.length by
  have:=h l 0
  unfold jF
  omega
 intro l
 induction l with
 | nil=>intro a;simp
 | cons x l ih=>
  intro a
  have h1:=ih (a+eo (x==1))
  have h2:=yP (x==1)
  rw[List.foldl_cons,List.length_cons]
  push_cast
  omega
theorem Oo{l:List Int}{k:Nat}(h:k<l.length):jK (l.take (k+1))=max (jK (l.take k)) (l.getD k 0):=by rw[D6 h,Ol]
theorem Oq{l:List Int}{k:Nat}(h:k<l.length):jF (l.take (k+1))=jF (l.take k)+eo (l.getD k 0==1):=by rw[D6 h,On]
attribute [local irreducible] jK jF eo
def gN(ks:List Int):Int:=(bif (jK ks) != 1 then 0 else(jF ks))
theorem Eb(v:Value)(ks:List Int)(hk:ks.length≤1000):aa ZC 152 #[v] [.p (aK eI v ks)] [] N0 (λ_=> .agg #[i6 (jK ks),i6 (gN ks)]):=by
 refine fO Tryz.func152 0 rfl λbq0 hq0=>?_
 refine fG Tryz.func152 λw cs=>?_
 refine ra (λq1=>[(2,pt (B0 q1) 0)]) (λq1=>[ob (B0 q1) #[i6 0,i6 0] 79]) λq1=>ra (λq2=>[(3,pt (B0 q2) 0)]) (λq2=>[ob (B0 q2) #[i6 0,i6 0] 79]) λq2=>r0 [(1,eR hq0.1 0)] [(6,v),(7,iN ks.length),(8,i6 0)] [] ?_
 refine lq (λk=>k≤ks.length) (λk=>[(8,iN k)]) (λk L=>L.set 2 (ob (B0 q2) #[i6 (jK (ks.take k)),i6 (jF (ks.take k))] 79)) (λk=>ks.length-k) 0 Om Kr (by rw[List.take_zero,show jK []=0 by unfold jK;rfl,show jF []=0 by unfold jF;rfl];kernel_rfl) (λk hk4=>?_)
 have hjf:=Ea (ks.take k)
 have hjl:(ks.take k).length≤k:=by rw[Zz];omega
 have hjx:=yP (ks.getD k 0==1)
 refine r0 [] [(9,.bool (decide ((k:Int)<(ks.length:Int))))] [] ?_
 refine cj (k:Int) (ks.length:Int) (λh6 dh6=>?_) λh6 dh6=>?_
 ·refine r0 [(0,fF hq0.1 0 k 1),(1,jr kI hq0.1 0 k 0)] [(5,i6 (ks.getD k 0))] [] ?_
  refine rs [(1,.l 2),(3,.t (tv (Builtin.max_ #[3,3] 3 #[i6 (jK (ks.take k)),i6 (ks.getD k 0)]) (λ_=>r6 _ _ _ _))),(5,.s 2)] 2 (ob (B0 q2) #[i6 (max (jK (ks.take k)) (ks.getD k 0)),i6 (jF (ks.take k))] 79) (rs [(1,.l 2),(4,.c [] [] (DX ((ks.getD k 0)==1))),(5,aI (jF (ks.take k)) ((eo ((ks.getD k 0)==1))) Om),(7,.s 2)] 2 (ob (B0 q2) #[i6 (max (jK (ks.take k)) (ks.getD k 0)),i6 ((jF (ks.take k))+(eo ((ks.getD k 0)==1)))] 79) (r0 [(0,ad k 1)] [(8,i6 ((k+1:Nat):Int))] [8] ?_))
  exact le (k+1) Om Om Kr [0,1,2] (by rw[Oo Om,Oq Om];kernel_rfl)
 obtain rfl:k=ks.length:=by omega
 refine cl [.c bq0,ob (B0 q1) #[i6 0,i6 0] 79,ob (B0 q2) #[i6 (jK ks),i6 (jF ks)] 79] (by rw[List.take_length];kernel_rfl) ?_
 refine lx ?_
 refine r0 [(1,.l 2)] [(27,.bool ((jK ks) != 1))] [] ?_
 refine cJ ((jK ks) != 1) N0 (λc=>[.c bq0,ob (B0 q1) #[i6 0,i6 0] 79,ob (B0 q2) #[i6 (jK ks),i6 (bif c then 0 else(jF ks))] 79]) (λh12=>?_) (λh12=>?_) ?_
 ·have dh12:=bne_iff_ne.1 h12
  refine rs [(1,.s 2)] 2 (ob (B0 q2) #[i6 (jK ks),i6 0] 79) ?_
  exact cm Kr [0,1,2] Kr
 ·have dh12:=BX h12
  exact cm Kr [0,1,2] Kr
 exact rs [(0,.l 2),(1,.s 1)] 1 (ob (B0 q1) #[i6 (jK ks),i6 (bif (jK ks) != 1 then 0 else(jF ks))] 79) (lf ab.zero [] [(0,0)] [1])
def iM(h:List UInt8)(k:Nat):List UInt8:=h.take (32*k)++ZF (64-32*k) 0
theorem Ot{h:List UInt8}(hh:h.length=64){k:Nat}(hk:k≤2):(iM h k).length=64:=by unfold iM;rw[List.length_append,Zz,List.length_replicate,hh];omega
theorem Ou(h:List UInt8):iM h 0=ZF 64 0:=rfl
theorem yQ{h:List UInt8}(hh:h.length=64):iM h 2=h:=by unfold iM;rw[List.take_of_length_le Om,show 64-32*2=0 from rfl,List.replicate_zero,List.append_nil]
theorem Ov{h:List UInt8}(hh:h.length=64){k:Nat}(hk:k<2):(iM h k).take (32*k)++(h.drop (k*32)).take 32++(iM h k).drop (32*k+32)=iM h (k+1):=by
 unfold iM
 have h1:(h.take (32*k)).length=32*k:=by rw[Zz];omega
 rw[List.take_left' h1,←List.drop_drop,List.drop_left' h1,List.drop_replicate,Nat.mul_comm k 32,←List.take_add,show 32*k+32=32*(k+1) by omega,show 64-32*k-32=64-32*(k+1) by omega]
attribute [local irreducible] iM
theorem Ow(h:List UInt8)(hh:h.length=64):aa ZC 198 #[.agg (rB 64 h).toArray] [] [] N0 (λ_=> .agg (rB 64 h).toArray):=by
 refine fG Tryz.func198 λw cs=>?_
 refine ra (λq1=>[(1,pt (B0 q1) 0),(2,pt (B1 q1) 0)]) (λq1=>[ob (B0 q1) (rB 64 h).toArray 324,ob (B1 q1) (rB 64 z6).toArray 43]) λq1=>ra (λq2=>[(3,pt (B0 q2) 0)]) (λq2=>[ob (B0 q2) (rB 64 z6).toArray 43]) λq2=>r0 [(0,.l 0)] [(6,.agg (rB 64 h).toArray),(7,i6 0)] [] ?_
 refine lq (λk=>k≤2) (λk=>[(7,iN k)]) (λk L=>L.set 2 (ob (B0 q2) (rB 64 (iM h k)).toArray 43)) (λk=>2-k) 0 Om Kr (by rw[Ou];kernel_rfl) (λk hk4=>?_)
 have HTL:=Ot hh hk4
 refine r0 [] [(8,.bool (decide ((k:Int)<2)))] [] ?_
 refine cj (k:Int) 2 (λh6 dh6=>?_) λh6 dh6=>?_
 ·refine rr (λ_=>[(1,.t (tv (Instr.index 324 (.agg (rB 64 h).toArray) (iN k)) (λ_=>JI (n:=2) (m:=32) (N:=64) (e:=267) Kr (λ_=>rfl) Om rfl hh))),(4,.s 3)]) (λq7=>[(5,pt (B2 q7) 0),(4,iN k)]) [] (λq7 L=>L++[ob (B2 q7) (rB 32 ((h.drop (k*32)).take 32)).toArray 267]) λq7=>?_
  refine rs [(1,ml 32 k),(2,aL 43 (B0 q2) 64 1 (32*k)),(3,aS 267 (B2 q7) 32 1),(4,.m (uW kB 2 (B0 q2) ((32*k)*1) (64-(32*k)) (64-(32*k)) (rB 64 (iM h k)).toArray (rB 64 ((iM h k).take (32*k)++((h.drop (k*32)).take 32)++(iM h k).drop ((32*k)+32))).toArray 43 191 191 3 (ob (B2 q7) (rB 32 ((h.drop (k*32)).take 32)).toArray 267) (.slice (some ⟨(q7 2).ZK 0,0,none⟩) 32 32) ((h.drop (k*32)).take 32) (λ_ h=>by rw[show _=_ from h];exact pj (λ_=>rfl) (by rw[Zz,ZB,hh];omega)) (by rw[(show((h.drop (k*32)).take 32).length=32 from(by rw[Zz,ZB,hh];omega))];omega) (by rw[List.size_toArray,kL];rw[(show((h.drop (k*32)).take 32).length=32 from(by rw[Zz,ZB,hh];omega))];omega) (by rw[Nat.mul_one];exact ALca List.toArray (r5 (d:=0) (λ_=>rfl) (show(iM h k).length=64 by(simp only[LL,HTL,hh];done)) (show((h.drop (k*32)).take 32).length=32 from(by rw[Zz,ZB,hh];omega)) Om))))] 2 (ob (B0 q2) (rB 64 ((iM h k).take (32*k)++((h.drop (k*32)).take 32)++(iM h k).drop ((32*k)+32))).toArray 43) (r0 [(0,ad k 1)] [(7,i6 ((k+1:Nat):Int))] [7] ?_)
  exact le (k+1) Om Om Kr [0,1,2] (by rw[←Ov hh Om];kernel_rfl)
 obtain rfl:k=2:=by omega
 refine cl [ob (B0 q1) (rB 64 h).toArray 324,ob (B1 q1) (rB 64 z6).toArray 43,ob (B0 q2) (rB 64 h).toArray 43] (by rw[yQ hh];kernel_rfl) ?_
 refine lx ?_
 exact rs [(0,.l 2),(1,.s 1)] 1 (ob (B1 q1) (rB 64 h).toArray 43) (lf ab.zero [] [] [1])
theorem Ec(ys:List UInt8): ∀k,k≤8→aB (ys.take 8) 0 k=aB ys 0 k
 | 0,_=>rfl
 | k+1,h=>by
  rw[yM,yM,Ec ys k Om]
  rw[show(ys.take 8).getD k 0=ys.getD k 0 by rw[ZA,ZA,List.getElem?_take_of_lt Om]]
theorem Ox(v:Value)(ys:List UInt8)(hy:8≤ys.length):aa ZC 228 #[im v 0 8 1] [.p (aK eB v ys)] [] N0 (λ_=> .int .u64 ((aB ys 0 8:Nat):Int)):=by
 rw[←Ec ys 8 (Nat.le_refl _)]
 exact aa.at (N8 (im v 0 8 1) (ys.take 8) (by rw[Zz];omega)) (bO (λ_ h=>aK.take (en:=eB) (k:=1) (λ_=>rfl) h hy) λ_ h=>h)
attribute [local irreducible] dw dj bo gp aB gn aT
def kv:List Int:=[-1,64,65, -1,66, -1, -1,0,67, -1, -1,1, -1,2,3, -1,68, -1, -1,4, -1,5,6, -1, -1,7,8, -1,9, -1, -1,56,69, -1, -1,10, -1,11,12, -1, -1,13,14, -1,15, -1, -1,57, -1,16,17, -1,18, -1, -1,58,19, -1, -1,59, -1,60,61, -1,70, -1, -1,20, -1,21,22, -1, -1,23,24, -1,25, -1, -1,62, -1,26,27, -1,28, -1, -1,63,29, -1, -1,72, -1,73, -1, -1, -1,30,31, -1,32, -1, -1, -1,33, -1, -1, -1, -1, -1, -1, -1,34, -1, -1, -1, -1, -1, -1, -1, -1, -1, -1, -1, -1, -1, -1, -1,71, -1, -1,35, -1,36,37, -1, -1,38,39, -1,40, -1, -1, -1, -1,41,42, -1,43, -1, -1, -1,44, -1, -1, -1, -1, -1, -1, -1, -1,45,46, -1,47, -1, -1, -1,48, -1, -1, -1, -1, -1, -1, -1,49, -1, -1, -1, -1, -1, -1, -1, -1, -1, -1, -1, -1, -1, -1, -1, -1,50,51, -1,52, -1, -1, -1,53, -1, -1, -1, -1, -1, -1, -1,54, -1, -1, -1, -1, -1, -1, -1, -1, -1, -1, -1, -1, -1, -1, -1,55, -1, -1, -1, -1, -1, -1, -1, -1, -1, -1, -1, -1, -1, -1, -1, -1, -1, -1, -1, -1, -1, -1, -1, -1, -1, -1, -1, -1, -1, -1, -1]
theorem Ed:bL 10=kv:=by decide+kernel
theorem hp: ∀k:UInt8,(dw k (bL 10)==1)=true→0≤dj k (bL 10):=by
 have h: ∀n:Nat,n<256→(dw (UInt8.ofNat n) kv==1)=true→0≤dj (UInt8.ofNat n) kv:=by decide+kernel
 intro k
 have:=h k.toNat k.toNat_lt
 rw[Ed]
 rwa [UInt8.ofNat_toNat] at this
theorem lM(x:Int)(b:Bool):(ci x b).length=3:=by cases b<;>rfl
theorem Oy{b:Bool}{X Y:List UInt8}(hX:X.length=36)(hY:Y.length=36):(bif b then X.drop 4 else Y.drop 4).length=32:=by cases b<;>simp [hX,hY]
theorem yR{d v:List UInt8}(hd:d.length=36):(gn d v).length=32:=by unfold gn;exact Oy (by rw[List.length_set];exact hd) hd
attribute [local irreducible] a9 bL cE aP aW ci fI c6 fa
def kw(ys:List UInt8)(x:Int):Int:=(bif (dw ((bo (aB ys 0 8) ((pc ((x%8388608).toNat)%2:Nat):Int) 0 (a9 10))^^^(ys.getD 8 0)) (bL 10))==0 then 0 else(bif (dw ((bo (aB ys 0 8) ((pc ((x%8388608).toNat)%2:Nat):Int) 0 (a9 10))^^^(ys.getD 8 0)) (bL 10))==1 then 1 else(bif (dw ((bo (aB ys 0 8) ((pc ((x%8388608).toNat)%2:Nat):Int) 0 (a9 10))^^^(ys.getD 8 0)) (bL 10))==2 then 2 else 3)))
theorem Oz(cc hb cb:Nat)(v:Value)(ys:List UInt8)(hy:ys.length=9)(x:Int):aa ZC 195 #[pt cc 0,v,i6 x] [ob cc #[pt hb 0,pt cb 0] 242,ob hb (rB 74 (a9 10)++rI 256 (bL 10)).toArray 298,.p (aK eB v ys)] [] N0 (λ_=> .tuple #[u6 (((gp (aB ys 0 8) (ys.getD 8 0) ((pc ((x%8388608).toNat)%2:Nat):Int) (a9 10) (bL 10)):Nat):Int),i6 (kw ys x)]):=by
 refine fO Tryz.func195 2 rfl λbq2 hq2=>?_
 refine fG Tryz.func195 λw cs=>?_
 refine r0 [] [(6,u6 0),(7,i6 0)] [] (rr (λq2=>[(3,.m (ld 0 (pt hb 0))),(5,.m (CM 2 (.c bq2) 8 1 (cP hq2) Om)),(6,.c [2] [] (aa.at (rd':=[.c bq2]) (Ox v ys Om) (em hq2 (λ_ h=>h)))),(8,fF hq2.1 2 8 1),(9,jr kB hq2.1 2 8 0),(11,.c [] [] (vn x)),(12,.c [1] [] (NQ hb (aB ys 0 8) (ys.getD 8 0) ((pc ((x%8388608).toNat)%2:Nat):Int) (a9 10) (bL 10) (qy ys 0 (Nat.le_refl 8)) (by(simp only[LL,jv,j8,hy];done)) (by(simp only[LL,jv,j8,hy];done)) hp)),]) (λ_=>[(8,u6 (((gp (aB ys 0 8) (ys.getD 8 0) ((pc ((x%8388608).toNat)%2:Nat):Int) (a9 10) (bL 10)):Nat):Int)),(9,i6 (dw ((bo (aB ys 0 8) ((pc ((x%8388608).toNat)%2:Nat):Int) 0 (a9 10))^^^(ys.getD 8 0)) (bL 10)))]) [] (λ_ L=>L) λq2=>r0 [] [(28,i6 (dw ((bo (aB ys 0 8) ((pc ((x%8388608).toNat)%2:Nat):Int) 0 (a9 10))^^^(ys.getD 8 0)) (bL 10)))] [] (r0 [] [(29,.bool ((dw ((bo (aB ys 0 8) ((pc ((x%8388608).toNat)%2:Nat):Int) 0 (a9 10))^^^(ys.getD 8 0)) (bL 10))==0))] [] ?_))
 refine cZ (dw ((bo (aB ys 0 8) ((pc ((x%8388608).toNat)%2:Nat):Int) 0 (a9 10))^^^(ys.getD 8 0)) (bL 10)) 0 (λh5 dh5=>?_) λh5 dh5=>?_
 ·refine r0 [] [(6,u6 (((gp (aB ys 0 8) (ys.getD 8 0) ((pc ((x%8388608).toNat)%2:Nat):Int) (a9 10) (bL 10)):Nat):Int)),(7,i6 0)] [6,7] ?_
  exact am (.tuple #[u6 (((gp (aB ys 0 8) (ys.getD 8 0) ((pc ((x%8388608).toNat)%2:Nat):Int) (a9 10) (bL 10)):Nat):Int),i6 0]) ab.zero (by((try simp only[kw]);(repeat (first | rw[h5] | rw[ALct])))<;>rfl) [] [(0,0),(1,1),(2,2)] []
 refine r0 [] [(32,.bool ((dw ((bo (aB ys 0 8) ((pc ((x%8388608).toNat)%2:Nat):Int) 0 (a9 10))^^^(ys.getD 8 0)) (bL 10))==1))] [] ?_
 refine cZ (dw ((bo (aB ys 0 8) ((pc ((x%8388608).toNat)%2:Nat):Int) 0 (a9 10))^^^(ys.getD 8 0)) (bL 10)) 1 (λh8 dh8=>?_) λh8 dh8=>?_
 ·refine r0 [] [(6,u6 (((gp (aB ys 0 8) (ys.getD 8 0) ((pc ((x%8388608).toNat)%2:Nat):Int) (a9 10) (bL 10)):Nat):Int)),(7,i6 1)] [6,7] ?_
  exact am (.tuple #[u6 (((gp (aB ys 0 8) (ys.getD 8 0) ((pc ((x%8388608).toNat)%2:Nat):Int) (a9 10) (bL 10)):Nat):Int),i6 1]) ab.zero (by((try simp only[kw]);(repeat (first | rw[h5] | rw[h8] | rw[ALct] | rw[ALcf])))<;>rfl) [] [(0,0),(1,1),(2,2)] []
 refine r0 [] [(35,.bool ((dw ((bo (aB ys 0 8) ((pc ((x%8388608).toNat)%2:Nat):Int) 0 (a9 10))^^^(ys.getD 8 0)) (bL 10))==2))] [] ?_
 refine cZ (dw ((bo (aB ys 0 8) ((pc ((x%8388608).toNat)%2:Nat):Int) 0 (a9 10))^^^(ys.getD 8 0)) (bL 10)) 2 (λh11 dh11=>?_) λh11 dh11=>?_
 ·refine r0 [] [(6,u6 (((gp (aB ys 0 8) (ys.getD 8 0) ((pc ((x%8388608).toNat)%2:Nat):Int) (a9 10) (bL 10)):Nat):Int)),(7,i6 2)] [6,7] ?_
  exact am (.tuple #[u6 (((gp (aB ys 0 8) (ys.getD 8 0) ((pc ((x%8388608).toNat)%2:Nat):Int) (a9 10) (bL 10)):Nat):Int),i6 2]) ab.zero (by((try simp only[kw]);(repeat (first | rw[h5] | rw[h8] | rw[h11] | rw[ALct] | rw[ALcf])))<;>rfl) [] [(0,0),(1,1),(2,2)] []
 refine r0 [] [(6,u6 (((gp (aB ys 0 8) (ys.getD 8 0) ((pc ((x%8388608).toNat)%2:Nat):Int) (a9 10) (bL 10)):Nat):Int)),(7,i6 3)] [6,7] ?_
 exact am (.tuple #[u6 (((gp (aB ys 0 8) (ys.getD 8 0) ((pc ((x%8388608).toNat)%2:Nat):Int) (a9 10) (bL 10)):Nat):Int),i6 3]) ab.zero (by((try simp only[kw]);(repeat (first | rw[h5] | rw[h8] | rw[h11] | rw[ALcf])))<;>rfl) [] [(0,0),(1,1),(2,2)] []
end Go.Proofs.YtbcodenfkijdnaaGreat.E
namespace Go.Proofs.YtbcodenfkijdnaaGreat.E
open Go Go.RowKit Go.Shelf
open List renaming range→Zz,replicate→ZA,getElem?_eq_none→ZB,length_range→ZC,length_map→ZD,range_succ→ZF,getD_eq_getElem?_getD→ZG,flatMap_singleton→ZH,getElem?_range→ZJ,flatMap_append→ZK,length_append→ZL,getElem?_map→ZM,ext_getElem?→ZN,map_append→ZO
open Go.Proofs.Tryz renaming prog→ZE
open Nat renaming lt_or_ge→ZI,mul_succ→ZP
theorem OA(cb g:Nat)(u:Value)(d v:List UInt8)(hd:d.length=36)(hv:v.length=3)(D:List UInt8)(hD:gn d v=D)(k:Nat)(hk:fI (aT d v)=k)(p:Int)(hp:c6 (aT d v)=p)(q:UInt8)(hq:fa (aT d v)=q):aa ZE 229 #[pt cb 0,.agg (rB 36 d).toArray,.agg (rB 3 v).toArray] [ob cb #[pt g 0,u] 309,ob g (rB 255 aP++rN 256 aW).toArray 312,.p (aK eB u cE)] [] N0 (λ_=> .tuple #[.agg (rB 32 D).toArray,.agg #[i6 ((k:Nat):Int),i6 p,u1 (q.toNat:Int)]]):=by
 subst hD hk hp hq
 exact NM cb g u d v hd hv
def pz(kd:Nat)(pl:Int)(vl:UInt8):Int:=(bif (kd:Int)==0 then 0 else(bif (kd:Int)==1 then 1 else(bif (((kd:Int)==2)&&(pl==38))&&((vl.toNat:Int)==128) then 2 else 3)))
theorem OB(cc hb cb g:Nat)(u v:Value)(ys:List UInt8)(hy:ys.length=36)(x:Int)(h0: -9223372036854775808≤x)(h1:x≤9223372036854775807)(D:List UInt8)(hD:gn ys (ci x false)=D)(hDl:D.length=32)(kd:Nat)(hkd:fI (aT ys (ci x false))=kd)(pl:Int)(hpl:c6 (aT ys (ci x false))=pl)(vl:UInt8)(hvl:fa (aT ys (ci x false))=vl):aa ZE 197 #[pt cc 0,v,i6 x] [ob cc #[pt hb 0,pt cb 0] 242,ob cb #[pt g 0,u] 309,ob g (rB 255 aP++rN 256 aW).toArray 312,.p (aK eB u cE),.p (aK eB v ys)] [] N0 (λ_=> .tuple #[.agg (rB 32 D).toArray,i6 (pz kd pl vl)]):=by
 refine fO Tryz.func197 3 rfl λbq3 hq3=>?_
 refine fO Tryz.func197 4 rfl λbq4 hq4=>?_
 refine fG Tryz.func197 λw cs=>?_
 refine ra (λq1=>[(6,pt (B0 q1) 0),(7,i6 0)]) (λq1=>[ob (B0 q1) (rB 32 (ZA 32 0)).toArray 267]) λq1=>rr (λ_=>[(3,.m (ld 0 (pt cb 0))),(5,.m (CP 4 (.c bq4) 36 (cP hq4.1) Dc Om)),(6,.m (CQ 4 (.c bq4) 36 (rB 36 ys) (cP hq4.1) (lw hy).symm Om (CR (λ_=>rfl) hy))),(8,.c [] [] (DY x Om Om false)),(9,.c [1,2,3] [] (aa.at (rd':=[ob cb #[pt g 0,u] 309,ob g (rB 255 aP++rN 256 aW).toArray 312,.c bq3]) (OA cb g u ys (ci x false) (by(simp only[LL,lM,hy,hDl];done)) bh D hD kd hkd pl hpl vl hvl) (atS (atS (em hq3 (λ_ h=>h)))))),(13,.m (al 6)),(14,.m (al 7)),(15,.s 6),(16,.s 7)]) (λq2=>[(8,pt ((q2 13).ZK 0) 0),(9,pt ((q2 14).ZK 0) 0)]) [] (λq2 L=>L++[ob ((q2 13).ZK 0) (rB 32 D).toArray 267,ob ((q2 14).ZK 0) #[iN kd,i6 pl,u1 (vl.toNat:Int)] 368]) λq2=>r0 [(1,.l 7)] [(23,.bool ((kd:Int)==0))] [] ?_
 refine cZ (kd:Int) 0 (λh4 dh4=>?_) λh4 dh4=>?_
 ·refine rr (λ_=>[(0,.l 6),(1,.s 5)]) (λ_=>[(7,i6 0)]) [7] (λ_ L=>L.set 5 (ob (B0 q1) (rB 32 D).toArray 267)) λq5=>?_
  exact am (.tuple #[.agg (rB 32 D).toArray,i6 0]) ab.zero (by((try simp only[pz]);(repeat (first | rw[h4] | rw[ALct])))<;>rfl) [] [(0,0),(1,1),(2,2),(3,3),(4,4)] [5]
 refine r0 [(1,.l 7)] [(28,.bool ((kd:Int)==1))] [] ?_
 refine cZ (kd:Int) 1 (λh7 dh7=>?_) λh7 dh7=>?_
 ·refine rr (λ_=>[(0,.l 6),(1,.s 5)]) (λ_=>[(7,i6 1)]) [7] (λ_ L=>L.set 5 (ob (B0 q1) (rB 32 D).toArray 267)) λq8=>?_
  exact am (.tuple #[.agg (rB 32 D).toArray,i6 1]) ab.zero (by((try simp only[pz]);(repeat (first | rw[h4] | rw[h7] | rw[ALct] | rw[ALcf])))<;>rfl) [] [(0,0),(1,1),(2,2),(3,3),(4,4)] [5]
 refine r0 [(1,.m (ld 7 (iN kd))),(5,.m (ld 7 (i6 pl))),(10,.m (ld 7 (u1 (vl.toNat:Int)))),] [(33,.bool ((((kd:Int)==2)&&(pl==38))&&((vl.toNat:Int)==128)))] [] ?_
 refine cB ((((kd:Int)==2)&&(pl==38))&&((vl.toNat:Int)==128)) (λh10=>?_) λh10=>?_
 ·refine rr (λ_=>[(0,.l 6),(1,.s 5)]) (λ_=>[(7,i6 2)]) [7] (λ_ L=>L.set 5 (ob (B0 q1) (rB 32 D).toArray 267)) λq11=>?_
  exact am (.tuple #[.agg (rB 32 D).toArray,i6 2]) ab.zero (by((try simp only[pz]);(repeat (first | rw[h4] | rw[h7] | rw[h10] | rw[ALct] | rw[ALcf])))<;>rfl) [] [(0,0),(1,1),(2,2),(3,3),(4,4)] [5]
 refine rr (λ_=>[(0,.l 6),(1,.s 5)]) (λ_=>[(7,i6 3)]) [7] (λ_ L=>L.set 5 (ob (B0 q1) (rB 32 D).toArray 267)) λq12=>?_
 exact am (.tuple #[.agg (rB 32 D).toArray,i6 3]) ab.zero (by((try simp only[pz]);(repeat (first | rw[h4] | rw[h7] | rw[h10] | rw[ALcf])))<;>rfl) [] [(0,0),(1,1),(2,2),(3,3),(4,4)] [5]
def nJ(ys:List UInt8)(x:Int):Int:=pz (fI (aT ys (ci x false))) (c6 (aT ys (ci x false))) (fa (aT ys (ci x false)))
theorem OD(cc hb cb g:Nat)(u v:Value)(ys:List UInt8)(hy:ys.length=36)(x:Int)(h0: -9223372036854775808≤x)(h1:x≤9223372036854775807):aa ZE 197 #[pt cc 0,v,i6 x] [ob cc #[pt hb 0,pt cb 0] 242,ob cb #[pt g 0,u] 309,ob g (rB 255 aP++rN 256 aW).toArray 312,.p (aK eB u cE),.p (aK eB v ys)] [] N0 (λ_=> .tuple #[.agg (rB 32 (gn ys (ci x false))).toArray,i6 (nJ ys x)]):=
 OB cc hb cb g u v ys hy x h0 h1 _ rfl (yR hy) _ rfl _ rfl _ rfl
def fh{α:Type}(d:α)(N:Nat)(f:Nat→α)(n:Nat):List α:=(Zz N).map λi=>if i<n then f i else d
theorem nK{α:Type}(d:α)(N:Nat)(f:Nat→α)(n:Nat):(fh d N f n).length=N:=by unfold fh;rw[ZD,ZC]
theorem Ee{α:Type}{d:α}{N:Nat}{f:Nat→α}{n i:Nat}(h:i<N):(fh d N f n).getD i d=if i<n then f i else d:=by
 unfold fh
 rw[ZG,ZM,ZJ h]
 rfl
theorem OE{α:Type}{d:α}{N:Nat}{f:Nat→α}{n:Nat}(h:n<N):(fh d N f n).set n (f n)=fh d N f (n+1):=by
 apply ZN
 intro i
 rw[List.getElem?_set]
 rcases ZI i N with hi | hi
 ·unfold fh
  simp only[ZD,ZC,ZM,ZJ hi,Option.map_some]
  by_cases e:n=i
  ·subst e;rw[ALifp rfl,ALifp h,ALifp Om]
  ·rw[ALifn e]
   by_cases e2:i<n
   ·rw[ALifp e2,ALifp Om]
   ·rw[ALifn e2,ALifn Om]
 ·rw[ZB (l:=fh d N f (n+1)) (by rw[nK];exact hi),ZB (l:=fh d N f n) (by rw[nK];exact hi),nK]
  rw[ALifn Om]
theorem OF{α:Type}(d:α)(N:Nat)(f:Nat→α):fh d N f 0=ZA N d:=by
 apply ZN
 intro i
 rcases ZI i N with hi | hi
 ·unfold fh
  simp [hi]
 ·rw[ZB (by rw[nK];exact hi),ZB (by simpa using hi)]
def w9(xs:List UInt8)(k:Nat):List UInt8:=(xs.drop (9*k)).take 9
def je(xs:List UInt8)(k:Nat):List UInt8:=(xs.drop (36*k)).take 36
def dW(xs:List UInt8)(x:Int)(k:Nat):Nat:=gp (aB (w9 xs k) 0 8) ((w9 xs k).getD 8 0) ((pc ((x%8388608).toNat)%2:Nat):Int) (a9 10) (bL 10)
def dK(xs:List UInt8)(x:Int)(k:Nat):Int:=kw (w9 xs k) x
def cW(xs:List UInt8)(x:Int)(k:Nat):List UInt8:=gn (je xs k) (ci x false)
def cK(xs:List UInt8)(x:Int)(k:Nat):Int:=nJ (je xs k) x
theorem OG{d:Nat}{k:UInt8}{a:Int}{cl:List UInt8}{ts:List Int}(h:d<18446744073709551616):gp d k a cl ts<18446744073709551616:=by
 unfold gp
 cases e:((dw ((bo d a 0 cl)^^^k) ts)==1)&&(decide ((dj ((bo d a 0 cl)^^^k) ts)<64)) with
 | false=>exact h
 | true=>
  rw[Bool.and_eq_true] at e
  have h2:=of_decide_eq_true e.2
  rw[ALct,Nat.one_mul]
  exact Nat.xor_lt_two_pow (n:=64) h (Nat.pow_lt_pow_right Dc Om)
theorem OH(xs:List UInt8)(x:Int)(k:Nat):dW xs x k<18446744073709551616:=OG (qy _ _ Dc)
theorem OI{N:Nat}{f:Nat→Nat}{n B:Nat}(hB:0<B)(h: ∀i,f i<B)(i:Nat):(fh 0 N f n).getD i 0<B:=by
 rcases ZI i N with hi | hi
 ·rw[Ee hi];split
  ·exact h i
  ·exact hB
 ·rw[ZG,ZB (by rw[nK];exact hi)];exact hB
theorem nM{xs:List UInt8}{k:Nat}(hx:xs.length=72)(hk:k<2):(je xs k).length=36:=by unfold je;rw[List.length_take,List.length_drop];omega
theorem vu{f:Nat→List UInt8}{m:Nat}(h: ∀i,(f i).length=m)(k:Nat):((Zz k).flatMap f).length=m*k:=by
 induction k with
 | zero=>rfl
 | succ k ih=>rw[ZF,ZK,ZL,ih,ZH,h,ZP]
theorem Ef{f:Nat→List UInt8}{m N:Nat}(h: ∀i,(f i).length=m){k:Nat}:
  ((Zz k).flatMap f++ZA (N-m*k) (0:UInt8)).take (m*k)++f k++((Zz k).flatMap f++ZA (N-m*k) (0:UInt8)).drop (m*k+m)=(Zz (k+1)).flatMap f++ZA (N-m*(k+1)) 0:=by
 have h1:=vu h k
 rw[List.take_left' h1,←List.drop_drop,List.drop_left' h1,List.drop_replicate,ZF,ZK,ZH,show N-m*k-m=N-m*(k+1) by rw[ZP];omega]
def fM(f:Nat→List UInt8)(k:Nat):List UInt8:=(Zz k).flatMap f++ZA (64-32*k) 0
theorem vw{f:Nat→List UInt8}(h: ∀i,(f i).length=32){k:Nat}(hk:k≤2):(fM f k).length=64:=by
 unfold fM
 rw[ZL,vu h,List.length_replicate]
 omega
theorem OJ{f:Nat→List UInt8}(h: ∀i,(f i).length=32){k:Nat}:(fM f k).take (0+k*32)++f k++(fM f k).drop (0+k*32+32)=fM f (k+1):=by
 have:=Ef (N:=64) h (k:=k)
 rw[Nat.zero_add,Nat.mul_comm k 32]
 exact this
theorem OK(f:Nat→List UInt8):fM f 0=ZA 64 0:=rfl
theorem OL{xs:List UInt8}{x:Int}{k:Nat}(h:(je xs k).length=36):(cW xs x k).length=32:=yR h
def jf(xs:List UInt8)(x:Int)(k:Nat):List UInt8:=if k<2 then cW xs x k else ZA 32 0
theorem Eg{xs:List UInt8}{x:Int}{k:Nat}(h:k<2):jf xs x k=cW xs x k:=ALifp h
theorem sJ{xs:List UInt8}(hx:xs.length=72)(x:Int)(k:Nat):(jf xs x k).length=32:=by
 unfold jf
 split
 ·rename_i h;exact OL (nM hx h)
 ·rfl
attribute [local irreducible] dw dj bo gp aB gn aT a9 bL cE aP aW ci fI c6 fa kw nJ fh fM b8 jK jF eo
theorem OM(cc hb cb:Nat)(xs:List UInt8)(hx:xs.length=72)(x:Int):aa ZE 151 #[pt cc 0,i6 1,.agg (rB 72 xs).toArray,i6 x] [ob cc #[pt hb 0,pt cb 0] 242,ob hb (rB 74 (a9 10)++rI 256 (bL 10)).toArray 298] [] (λE=>[dy (E.val 0) ((Zz 8).map (dK xs x))]) (λE=> .tuple #[.agg (rB 64 (b8 64 (iL (fh 0 8 (dW xs x) 8)) (8*8))).toArray,(E.val 0)]):=by
 refine fG Tryz.func151 λw cs=>?_
 refine ra (λq1=>[(6,pt (B0 q1) 0),(8,pt (B1 q1) 0),(9,.slice none 0 0)]) (λq1=>[ob (B0 q1) (rB 72 xs).toArray 217,ob (B1 q1) (rB 64 z6).toArray 43]) λq1=>r0 [] [(10,.slice none 0 0)] [] (rT [] 20 (ra (λq4=>[(11,pt (B0 q4) 0)]) (λq4=>[ob (B0 q4) (rW 8 (ZA 8 0)).toArray 320]) λq4=>r0 [] [(21,i6 0)] [] ?_))
 refine cz kI ?_
 refine mN (λk _=>k≤8) (λk vS10=>[(21,iN k),(10,vS10)]) (λk vS10 L=>(L.set 4 (ob (B0 q4) (rW 8 (fh 0 8 (dW xs x) k)).toArray 320)).set 5 (dy vS10 ((Zz k).map (dK xs x)))) (λk _=>8-k) 0 (.slice none 0 0) Om Kr (by rw[OF];kernel_rfl) (λk vS10 hk6=>?_)
 have hkl:((Zz k).map (dK xs x)).length=k:=by rw[ZD,ZC]
 refine r0 [] [(22,.bool (decide ((k:Int)<8)))] [] ?_
 refine cj (k:Int) 8 (λh8 dh8=>?_) λh8 dh8=>?_
 ·refine r0 [] [(12,iN k)] [] ?_
  refine rr (λq10=>[(1,.m (ls 2 (rB 72 xs))),(4,.c [] [6] (D1 xs (by(simp only[LL,nK,lL,hx];done)) k Om)),(6,.c [0,1,6] [] (aa.at (rd':=[ob cc #[pt hb 0,pt cb 0] 242,ob hb (rB 74 (a9 10)++rI 256 (bL 10)).toArray 298,bE ((q10 4).val 0) ((xs.drop (9*k)).take 9)]) (Oz cc hb cb ((q10 4).val 0) ((xs.drop (9*k)).take 9) (by(simp only[LL,nK,lL,hx];omega)) x) (atS (atS (bO (λ_ h=>ap.sq h) (λ_ h=>h)))))),]) (λ_=>[(13,u6 (((gp (aB ((xs.drop (9*k)).take 9) 0 8) (((xs.drop (9*k)).take 9).getD 8 0) ((pc ((x%8388608).toNat)%2:Nat):Int) (a9 10) (bL 10)):Nat):Int)),(14,i6 (kw ((xs.drop (9*k)).take 9) x))]) [] (λq10 L=>L++[bE ((q10 4).val 0) ((xs.drop (9*k)).take 9)]) λq10=>rs [(2,iA 320 .i64 (B0 q4) 0 8 1 k),(3,wD 4 (B0 q4) k 320 (u6 (((gp (aB ((xs.drop (9*k)).take 9) 0 8) (((xs.drop (9*k)).take 9).getD 8 0) ((pc ((x%8388608).toNat)%2:Nat):Int) (a9 10) (bL 10)):Nat):Int)) (rW 8 (fh 0 8 (dW xs x) k)) (rW 8 ((fh 0 8 (dW xs x) k).set k (gp (aB ((xs.drop (9*k)).take 9) 0 8) (((xs.drop (9*k)).take 9).getD 8 0) ((pc ((x%8388608).toNat)%2:Nat):Int) (a9 10) (bL 10)))) (kg Om) (Ju (nK ..)))] 4 (ob (B0 q4) (rW 8 ((fh 0 8 (dW xs x) k).set k (gp (aB ((xs.drop (9*k)).take 9) 0 8) (((xs.drop (9*k)).take 9).getD 8 0) ((pc ((x%8388608).toNat)%2:Nat):Int) (a9 10) (bL 10)))).toArray 320) (rr (λ_=>[(2,.m (bs 7 1)),(3,fD kI (vS10) ((Zz k).map (dK xs x)) 5 7 ([(kw ((xs.drop (9*k)).take 9) x)]))]) (λq12=>[(10,(q12 3).val 0)]) [10] (λq12 L=>L.set 5 (dy ((q12 3).val 0) (((Zz k).map (dK xs x))++([(kw ((xs.drop (9*k)).take 9) x)])))++[ob (B2 q12) #[i6 (kw ((xs.drop (9*k)).take 9) x)] 3]) λq12=>r0 [(0,ad k 1)] [(21,i6 ((k+1:Nat):Int))] [21] ?_)
  exact lE (k+1) ((q12 3).val 0) Om Om Kr [0,1,2,3,4,5] (by rw[←OE Om,ZF,ZO];kernel_rfl)
 obtain rfl:k=8:=by omega
 refine lF ?_
 exact rr (λ_=>[(0,.l 4),(1,.c [] [] (Oj (fh 0 8 (dW xs x) 8) (by(simp only[LL,nK,lL,hx];done)) (OI Dc (OH xs x)))),(3,.s 3)]) (λ_=>[(9,vS10)]) [9] (λ_ L=>L.set 3 (ob (B1 q1) (rB 64 (b8 64 (iL (fh 0 8 (dW xs x) 8)) (8*8))).toArray 43)) λq14=>lf (.l [] [] [vS10]) [5] [(0,0),(1,1)] [3]
theorem ON(cc hb cb g:Nat)(u:Value)(xs:List UInt8)(hx:xs.length=72)(x:Int)(h0: -9223372036854775808≤x)(h1:x≤9223372036854775807):aa ZE 151 #[pt cc 0,i6 2,.agg (rB 72 xs).toArray,i6 x] [ob cc #[pt hb 0,pt cb 0] 242,ob cb #[pt g 0,u] 309,ob g (rB 255 aP++rN 256 aW).toArray 312,.p (aK eB u cE)] [] (λE=>[dy (E.val 0) ((Zz 2).map (cK xs x))]) (λE=> .tuple #[.agg (rB 64 (fM (jf xs x) 2)).toArray,(E.val 0)]):=by
 refine fO Tryz.func151 3 rfl λbq3 hq3=>?_
 refine fG Tryz.func151 λw cs=>?_
 refine ra (λq1=>[(6,pt (B0 q1) 0),(8,pt (B1 q1) 0),(9,.slice none 0 0)]) (λq1=>[ob (B0 q1) (rB 72 xs).toArray 217,ob (B1 q1) (rB 64 z6).toArray 43]) λq1=>r0 [] [(10,.slice none 0 0)] [] (rF [] 20 (ra (λq4=>[(15,pt (B0 q4) 0)]) (λq4=>[ob (B0 q4) (rB 64 z6).toArray 324]) λq4=>r0 [] [(45,i6 0)] [] ?_))
 refine cz kI ?_
 refine mN (λk _=>k≤2) (λk vS10=>[(45,iN k),(10,vS10)]) (λk vS10 L=>(L.set 6 (ob (B0 q4) (rB 64 (fM (jf xs x) k)).toArray 324)).set 7 (dy vS10 ((Zz k).map (cK xs x)))) (λk _=>2-k) 0 (.slice none 0 0) Om Kr (by rw[OK];kernel_rfl) (λk vS10 hk6=>?_)
 have hkl:((Zz k).map (cK xs x)).length=k:=by rw[ZD,ZC]
 have HHL:=vw (sJ hx x) hk6
 refine r0 [] [(46,.bool (decide ((k:Int)<2)))] [] ?_
 refine cj (k:Int) 2 (λh8 dh8=>?_) λh8 dh8=>?_
 ·refine r0 [] [(16,iN k)] [] ?_
  have HDL:(gn ((xs.drop (36*k)).take 36) (ci x false)).length=32:=yR (nM hx Om)
  refine rr (λq10=>[(1,.m (ls 4 (rB 72 xs))),(4,.c [] [8] (D2 xs (by(simp only[LL,HDL,HHL,hx];done)) k Om)),(6,.c [0,1,2,3,8] [] (aa.at (rd':=[ob cc #[pt hb 0,pt cb 0] 242,ob cb #[pt g 0,u] 309,ob g (rB 255 aP++rN 256 aW).toArray 312,.c bq3,bE ((q10 4).val 0) ((xs.drop (36*k)).take 36)]) (OD cc hb cb g u ((q10 4).val 0) ((xs.drop (36*k)).take 36) (by(simp only[LL,HDL,HHL,hx];omega)) x Om Om) (atS (atS (atS (em hq3 (bO (λ_ h=>ap.sq h) (λ_ h=>h)))))))),(10,.m (al 9)),(11,.s 9)]) (λq10=>[(17,pt ((q10 10).ZK 0) 0),(18,i6 (nJ ((xs.drop (36*k)).take 36) x))]) [] (λq10 L=>L++[bE ((q10 4).val 0) ((xs.drop (36*k)).take 36),ob ((q10 10).ZK 0) (rB 32 (gn ((xs.drop (36*k)).take 36) (ci x false))).toArray 267]) λq10=>rs [(1,.l 9),(2,iA 324 .i64 (B0 q4) 0 2 32 k),(3,.m (sg 6 (B0 q4) (0+k*32) 324 (rB 32 (gn ((xs.drop (36*k)).take 36) (ci x false))) (rB 64 (fM (jf xs x) k)).toArray (rB 64 ((fM (jf xs x) k).take (0+k*32)++(gn ((xs.drop (36*k)).take 36) (ci x false))++(fM (jf xs x) k).drop (0+k*32+32))).toArray (JK (λ_=>rfl) (show(fM (jf xs x) k).length=64 by(simp only[LL,HDL,HHL,hx];done)) (show(gn ((xs.drop (36*k)).take 36) (ci x false)).length=32 by(simp only[LL,HDL,HHL,hx];done)) Om) (JL (λ_=>rfl) Om) (JM (λ_=>rfl) (show(gn ((xs.drop (36*k)).take 36) (ci x false)).length=32 by(simp only[LL,HDL,HHL,hx];done)))))] 6 (ob (B0 q4) (rB 64 ((fM (jf xs x) k).take (0+k*32)++(gn ((xs.drop (36*k)).take 36) (ci x false))++(fM (jf xs x) k).drop (0+k*32+32))).toArray 324) (rr (λ_=>[(2,.m (bs 10 1)),(3,fD kI (vS10) ((Zz k).map (cK xs x)) 7 10 ([(nJ ((xs.drop (36*k)).take 36) x)]))]) (λq12=>[(10,(q12 3).val 0)]) [10] (λq12 L=>L.set 7 (dy ((q12 3).val 0) (((Zz k).map (cK xs x))++([(nJ ((xs.drop (36*k)).take 36) x)])))++[ob (B2 q12) #[i6 (nJ ((xs.drop (36*k)).take 36) x)] 3]) λq12=>r0 [(0,ad k 1)] [(45,i6 ((k+1:Nat):Int))] [45] ?_)
  exact lE (k+1) ((q12 3).val 0) Om Om Kr [0,1,2,3,4,5,6,7] (by rw[←OJ (sJ hx x),Eg Om,ZF,ZO];kernel_rfl)
 obtain rfl:k=2:=by omega
 refine lF ?_
 have HDL:=trivial
 exact rr (λ_=>[(0,.l 6),(1,.c [] [] (Ow (fM (jf xs x) 2) (by(simp only[LL,HDL,HHL,hx];done)))),(3,.s 5)]) (λ_=>[(9,vS10)]) [9] (λ_ L=>L.set 5 (ob (B1 q1) (rB 64 (fM (jf xs x) 2)).toArray 43)) λq14=>lf (.l [] [] [vS10]) [7] [(0,0),(1,1),(2,2),(3,3)] [5]
def pA(xs:List UInt8)(x:Int):List UInt8:=(bif decide (2≤(jK ((Zz 8).map (dK xs x)))) then ZA 64 0 else b8 64 (iL (fh 0 8 (dW xs x) 8)) (8*8))
theorem OO(cc hb cb:Nat)(xs:List UInt8)(hx:xs.length=72)(x:Int):aa ZE 124 #[pt cc 0,i6 1,.agg (rB 72 xs).toArray,i6 x] [ob cc #[pt hb 0,pt cb 0] 242,ob hb (rB 74 (a9 10)++rI 256 (bL 10)).toArray 298] [] N0 (λ_=> .tuple #[.agg (rB 64 (pA xs x)).toArray,.agg #[i6 (jK ((Zz 8).map (dK xs x))),i6 (gN ((Zz 8).map (dK xs x)))]]):=by
 refine fG Tryz.func124 λw cs=>?_
 refine ra (λq1=>[(6,pt (B0 q1) 0),(8,pt (B1 q1) 0),(9,pt (B2 q1) 0)]) (λq1=>[ob (B0 q1) (rB 72 xs).toArray 217,ob (B1 q1) (rB 64 z6).toArray 43,ob (B2 q1) #[i6 0,i6 0] 79]) λq1=>r0 [(1,.c [] [] (py 1))] [(15,.bool (!((1==1)||(1==2))))] [] ?_
 have h3:(!((1==1)||(1==2)))=false:=by decide
 refine cF (!((1==1)||(1==2))) h3 (rr (λ_=>[(2,.l 2),(4,.c [0,1] [5] (OM cc hb cb xs (by(simp only[LL,lL,hx];done)) x)),(9,.s 6)]) (λq4=>[(10,pt ((q4 8).ZK 0) 0),(11,((q4 4).val 0))]) [] (λq4 L=>L++[dy ((q4 4).val 0) ((Zz 8).map (dK xs x)),ob ((q4 8).ZK 0) (rB 64 (b8 64 (iL (fh 0 8 (dW xs x) 8)) (8*8))).toArray 43]) λq4=>rr (λ_=>[(1,.c [5] [] (aa.at (rd':=[dy ((q4 4).val 0) ((Zz 8).map (dK xs x))]) (Eb ((q4 4).val 0) ((Zz 8).map (dK xs x)) (by rw[ZD,ZC];omega)) (bO (λ_ h=>ap.sq h) (λ_ h=>h)))),(3,.s 7)]) (λq5=>[(12,pt (B2 q5) 0)]) [] (λq5 L=>L++[ob (B2 q5) #[i6 (jK ((Zz 8).map (dK xs x))),i6 (gN ((Zz 8).map (dK xs x)))] 79]) λq5=>r0 [(1,.l 7)] [(30,.bool (decide (2≤(jK ((Zz 8).map (dK xs x))))))] [] ?_)
 refine pd 2 (jK ((Zz 8).map (dK xs x))) (λh7 dh7=>?_) λh7 dh7=>?_
 ·refine rr (λ_=>[(1,.l 7),(2,.s 3),(3,.s 4)]) N0 [] (λ_ L=>L.set 4 (ob (B2 q1) #[i6 (jK ((Zz 8).map (dK xs x))),i6 (gN ((Zz 8).map (dK xs x)))] 79)) λq8=>?_
  exact am (.tuple #[.agg (rB 64 z6).toArray,.agg #[i6 (jK ((Zz 8).map (dK xs x))),i6 (gN ((Zz 8).map (dK xs x)))]]) ab.zero (by((try simp only[pA]);(repeat (first | rw[h7] | rw[ALct])))<;>rfl) [] [(0,0),(1,1)] [3,4]
 refine rr (λ_=>[(0,.l 6),(1,.l 7),(2,.s 3),(3,.s 4)]) N0 [] (λ_ L=>(L.set 3 (ob (B1 q1) (rB 64 (b8 64 (iL (fh 0 8 (dW xs x) 8)) (8*8))).toArray 43)).set 4 (ob (B2 q1) #[i6 (jK ((Zz 8).map (dK xs x))),i6 (gN ((Zz 8).map (dK xs x)))] 79)) λq9=>?_
 exact am (.tuple #[.agg (rB 64 (b8 64 (iL (fh 0 8 (dW xs x) 8)) (8*8))).toArray,.agg #[i6 (jK ((Zz 8).map (dK xs x))),i6 (gN ((Zz 8).map (dK xs x)))]]) ab.zero (by((try simp only[pA]);(repeat (first | rw[h7] | rw[ALcf])))<;>rfl) [] [(0,0),(1,1)] [3,4]
def pB(xs:List UInt8)(x:Int):List UInt8:=(bif decide (2≤(jK ((Zz 2).map (cK xs x)))) then ZA 64 0 else fM (jf xs x) 2)
theorem OP(cc hb cb g:Nat)(u:Value)(xs:List UInt8)(hx:xs.length=72)(x:Int)(h0: -9223372036854775808≤x)(h1:x≤9223372036854775807):aa ZE 124 #[pt cc 0,i6 2,.agg (rB 72 xs).toArray,i6 x] [ob cc #[pt hb 0,pt cb 0] 242,ob cb #[pt g 0,u] 309,ob g (rB 255 aP++rN 256 aW).toArray 312,.p (aK eB u cE)] [] N0 (λ_=> .tuple #[.agg (rB 64 (pB xs x)).toArray,.agg #[i6 (jK ((Zz 2).map (cK xs x))),i6 (gN ((Zz 2).map (cK xs x)))]]):=by
 have HHT:=vw (sJ hx x) (Nat.le_refl 2)
 refine fO Tryz.func124 3 rfl λbq3 hq3=>?_
 refine fG Tryz.func124 λw cs=>?_
 refine ra (λq1=>[(6,pt (B0 q1) 0),(8,pt (B1 q1) 0),(9,pt (B2 q1) 0)]) (λq1=>[ob (B0 q1) (rB 72 xs).toArray 217,ob (B1 q1) (rB 64 z6).toArray 43,ob (B2 q1) #[i6 0,i6 0] 79]) λq1=>r0 [(1,.c [] [] (py 2))] [(15,.bool (!((2==1)||(2==2))))] [] ?_
 have h3:(!((2==1)||(2==2)))=false:=by decide
 refine cF (!((2==1)||(2==2))) h3 (rr (λ_=>[(2,.l 4),(4,.c [0,1,2,3] [7] (aa.at (rd':=[ob cc #[pt hb 0,pt cb 0] 242,ob cb #[pt g 0,u] 309,ob g (rB 255 aP++rN 256 aW).toArray 312,.c bq3]) (ON cc hb cb g u xs (by(simp only[LL,HHT,hx];done)) x Om Om) (atS (atS (atS (em hq3 (λ_ h=>h))))))),(9,.s 8)]) (λq4=>[(10,pt ((q4 8).ZK 0) 0),(11,((q4 4).val 0))]) [] (λq4 L=>L++[dy ((q4 4).val 0) ((Zz 2).map (cK xs x)),ob ((q4 8).ZK 0) (rB 64 (fM (jf xs x) 2)).toArray 43]) λq4=>rr (λ_=>[(1,.c [7] [] (aa.at (rd':=[dy ((q4 4).val 0) ((Zz 2).map (cK xs x))]) (Eb ((q4 4).val 0) ((Zz 2).map (cK xs x)) (by rw[ZD,ZC];omega)) (bO (λ_ h=>ap.sq h) (λ_ h=>h)))),(3,.s 9)]) (λq5=>[(12,pt (B2 q5) 0)]) [] (λq5 L=>L++[ob (B2 q5) #[i6 (jK ((Zz 2).map (cK xs x))),i6 (gN ((Zz 2).map (cK xs x)))] 79]) λq5=>r0 [(1,.l 9)] [(30,.bool (decide (2≤(jK ((Zz 2).map (cK xs x))))))] [] ?_)
 refine pd 2 (jK ((Zz 2).map (cK xs x))) (λh7 dh7=>?_) λh7 dh7=>?_
 ·refine rr (λ_=>[(1,.l 9),(2,.s 5),(3,.s 6)]) N0 [] (λ_ L=>L.set 6 (ob (B2 q1) #[i6 (jK ((Zz 2).map (cK xs x))),i6 (gN ((Zz 2).map (cK xs x)))] 79)) λq8=>?_
  exact am (.tuple #[.agg (rB 64 z6).toArray,.agg #[i6 (jK ((Zz 2).map (cK xs x))),i6 (gN ((Zz 2).map (cK xs x)))]]) ab.zero (by((try simp only[pB]);(repeat (first | rw[h7] | rw[ALct])))<;>rfl) [] [(0,0),(1,1),(2,2),(3,3)] [5,6]
 refine rr (λ_=>[(0,.l 8),(1,.l 9),(2,.s 5),(3,.s 6)]) N0 [] (λ_ L=>(L.set 5 (ob (B1 q1) (rB 64 (fM (jf xs x) 2)).toArray 43)).set 6 (ob (B2 q1) #[i6 (jK ((Zz 2).map (cK xs x))),i6 (gN ((Zz 2).map (cK xs x)))] 79)) λq9=>?_
 exact am (.tuple #[.agg (rB 64 (fM (jf xs x) 2)).toArray,.agg #[i6 (jK ((Zz 2).map (cK xs x))),i6 (gN ((Zz 2).map (cK xs x)))]]) ab.zero (by((try simp only[pB]);(repeat (first | rw[h7] | rw[ALcf])))<;>rfl) [] [(0,0),(1,1),(2,2),(3,3)] [5,6]
end Go.Proofs.YtbcodenfkijdnaaGreat.E
namespace Go.Proofs.YtbcodenfkijdnaaGreat.E
open Go Go.RowKit Go.Shelf
open List renaming replicate→Zz,length_append→ZA,range→ZB,length_take→ZC,length_drop→ZD
def bU(n:Nat)(f:Nat→List UInt8)(k:Nat):List UInt8:=(ZB k).flatMap f++Zz (72-n*k) 0
theorem oE{n:Nat}{f:Nat→List UInt8}(h: ∀i,(f i).length=n){k:Nat}(hk:n*k≤72):(bU n f k).length=72:=by
 unfold bU
 rw[ZA,vu h,List.length_replicate]
 omega
theorem Eh{n:Nat}{f:Nat→List UInt8}(h: ∀i,(f i).length=n){k m:Nat}(hm:m=n):(bU n f k).take (n*k)++f k++(bU n f k).drop (n*k+m)=bU n f (k+1):=by subst hm;exact Ef h
theorem Ei(n:Nat)(f:Nat→List UInt8):bU n f 0=Zz 72 0:=rfl
def fb(l:List UInt8)(x:Int)(p:Bool)(k:Nat):List UInt8:=iK (aB l (8*k) 8) 8++[bo (aB l (8*k) 8) ((pc ((x%8388608).toNat)%2:Nat):Int) (eo p) (a9 10)]
theorem oF(l:List UInt8)(x:Int)(p:Bool)(k:Nat):(fb l x p k).length=9:=by unfold fb;rw[ZA,j9];rfl
def eJ(l:List UInt8)(x:Int)(p:Bool)(k:Nat):List UInt8:=if k<2 then iq ((l.drop (32*k)).take 32) (ci x p)++(l.drop (32*k)).take 32 else Zz 36 0
theorem pC{l:List UInt8}(hl:l.length=64)(x:Int)(p:Bool)(k:Nat):(eJ l x p k).length=36:=by
 unfold eJ
 split
 ·rw[ZA,iJ,ZC,ZD];omega
 ·rfl
theorem Ej{l:List UInt8}{x:Int}{p:Bool}{k:Nat}(h:k<2):eJ l x p k=iq ((l.drop (32*k)).take 32) (ci x p)++(l.drop (32*k)).take 32:=ALifp h
attribute [local irreducible] dw dj bo gp aB iK gn aT iq a9 bL cE aP aW ci fI c6 fa kw nJ fh fM b8 jK jF eo bU
theorem OQ(cc hb cb:Nat)(l:List UInt8)(hl:l.length=64)(x:Int)(p:Bool):aa Tryz.prog 125 #[pt cc 0,i6 1,.agg (rB 64 l).toArray,i6 x,.bool p] [ob cc #[pt hb 0,pt cb 0] 242,ob hb (rB 74 (a9 10)++rI 256 (bL 10)).toArray 298] [] N0 (λ_=> .agg (rB 72 (bU 9 (fb l x p) 8)).toArray):=by
 have HEL:=True.intro
 refine fG Tryz.func125 λw cs=>?_
 refine ra (λq1=>[(5,pt (B0 q1) 0),(6,pt (B1 q1) 0),(7,pt (B2 q1) 0),(9,pt (B3 q1) 0),(10,pt (B4 q1) 0)]) (λq1=>[ob (B0 q1) #[pt cc 0] 116,ob (B1 q1) #[i6 1] 3,ob (B2 q1) (rB 64 l).toArray 43,ob (B3 q1) #[.bool p] 4,ob (B4 q1) (rB 72 (Zz 72 0)).toArray 217]) λq1=>ra (λq2=>[(11,pt (B0 q2) 0)]) (λq2=>[ob (B0 q2) (rB 72 (Zz 72 0)).toArray 217]) λq2=>r0 [(0,.l 3)] [(19,i6 1)] [] (rT [] 20 (rr (λ_=>[(1,.c [] [] (vn x)),(3,.s 8)]) (λq5=>[(12,pt (B2 q5) 0)]) [] (λq5 L=>L++[ob (B2 q5) #[i6 ((pc ((x%8388608).toNat)%2:Nat):Int)] 3]) λq5=>rr (λ_=>[(0,.l 4),(1,.c [] [9] (Od l (by(simp only[LL,j9,jv,j8,HEL,hl];done))))]) (λq6=>[(25,.func (.func 200) #[] #[pt ((B1 q6)) 0])]) [] (λq6 L=>L++[ob (B1 q6) (rB 64 l).toArray 43]) λq6=>?_))
 refine ph (encs:=λ(x:Nat×Nat)=>#[i6 (x.1:Int),u6 (x.2:Int)]) (xs:=(ZB 8).map λk=>(k,aB l (8*k) 8)) (KO:=[[((B1 q6),.cells (rB 64 l).toArray 43 (0,0))]]) (Ob (B1 q6) l (by(simp only[LL,j9,jv,j8,HEL,hl];done))) (enters_of Tryz.func200 Kr rfl) (λk=>k≤8) (λk L=>L.set 7 (ob (B0 q2) (rB 72 (bU 9 (fb l x p) k)).toArray 217)) [9] Om (by rw[Ei];kernel_rfl) (λlR k xE R1 W1 hxE hk8=>?_) (λD7 hk8=>?_)
 ·obtain⟨hkb9,rfl⟩:=oh hxE
  have HNL:=qy l (8*k) (k:=8) Dc
  have hlw:=j9 (aB l (8*k) 8) 8
  have HEL:=oE (n:=9) (oF l x p) (k:=k) Om
  refine r0 [] [(13,iN k)] [] (r0 [] [(14,u6 ((aB l (8*k) 8:Nat):Int))] [] ?_)
  refine ag [9] (λR2 W2=>?_)
  refine rr (λq12=>[(0,.m (ls 7 (rB 72 (bU 9 (fb l x p) k)))),(1,.m (ld 3 (i6 1))),(2,.v (iN k)),(3,.v (u6 ((aB l (8*k) 8:Nat):Int))),(4,.c [] [10] (N1 (aB l (8*k) 8) Om)),(5,.m (ld 2 (pt cc 0))),(6,.v (pt cc 0)),(7,.v (pt cc 0)),(8,.m (ld 0 (pt hb 0))),(9,.v (u6 ((aB l (8*k) 8:Nat):Int))),(10,.m (ld 8 (i6 ((pc ((x%8388608).toNat)%2:Nat):Int)))),(11,.m (ld 5 (.bool p))),(12,.c [] [] (DX p)),(13,.c [1] [] (DW hb (aB l (8*k) 8) ((pc ((x%8388608).toNat)%2:Nat):Int) (eo p) (a9 10) (bL 10) HNL (by(simp only[LL,j9,jv,j8,HEL,hl];done)) (by(simp only[LL,j9,jv,j8,HEL,hl];done)))),(14,.m (bs 11 1)),(15,fD kB (((q12 4).val 0)) (iK (aB l (8*k) 8) 8) 10 11 ([(bo (aB l (8*k) 8) ((pc ((x%8388608).toNat)%2:Nat):Int) (eo p) (a9 10))])),(16,.c [10] [] (aa.at (rd':=[bE ((q12 15).val 0) ((iK (aB l (8*k) 8) 8)++([(bo (aB l (8*k) 8) ((pc ((x%8388608).toNat)%2:Nat):Int) (eo p) (a9 10))]))]) (Og (bU 9 (fb l x p) k) ((iK (aB l (8*k) 8) 8)++([(bo (aB l (8*k) 8) ((pc ((x%8388608).toNat)%2:Nat):Int) (eo p) (a9 10))])) ((q12 15).val 0) (by(simp only[LL,j9,jv,j8,HEL,hl];done)) k Om (by(simp only[LL,j9,jv,j8,HEL,hl];done))) (bO (λ_ h=>ap.sq h) (λ_ h=>h)))),(17,.s 7)]) N0 [] (λq12 L=>L.set 7 (ob (B0 q2) (rB 72 ((bU 9 (fb l x p) k).take (9*k)++((iK (aB l (8*k) 8) 8)++([(bo (aB l (8*k) 8) ((pc ((x%8388608).toNat)%2:Nat):Int) (eo p) (a9 10))]))++(bU 9 (fb l x p) k).drop ((9*k)+((iK (aB l (8*k) 8) 8)++([(bo (aB l (8*k) 8) ((pc ((x%8388608).toNat)%2:Nat):Int) (eo p) (a9 10))])).length))).toArray 217)++[bE ((q12 15).val 0) ((iK (aB l (8*k) 8) 8)++([(bo (aB l (8*k) 8) ((pc ((x%8388608).toNat)%2:Nat):Int) (eo p) (a9 10))])),ob ((q12 14).ZK 0) #[u1 ((bo (aB l (8*k) 8) ((pc ((x%8388608).toNat)%2:Nat):Int) (eo p) (a9 10)).toNat:Int)] 5]) λq12=>?_
  exact ne _ ⟨Om,rfl⟩ [0,1,2,3,4,5,6,7,8,9] (by rw[←Eh (oF l x p) (oF l x p k)];unfold fb;kernel_rfl)
 have HEL:=oE (n:=9) (oF l x p) (k:=8) Om
 exact rs [(0,.l 7),(1,.s 6)] 6 (ob (B4 q1) (rB 72 (bU 9 (fb l x p) 8)).toArray 217) (lf ab.zero [] [(0,0),(1,1)] [6])
theorem OR(cc hb cb g:Nat)(u:Value)(l:List UInt8)(hl:l.length=64)(x:Int)(h0: -9223372036854775808≤x)(h1:x≤9223372036854775807)(p:Bool):aa Tryz.prog 125 #[pt cc 0,i6 2,.agg (rB 64 l).toArray,i6 x,.bool p] [ob cc #[pt hb 0,pt cb 0] 242,ob cb #[pt g 0,u] 309,ob g (rB 255 aP++rN 256 aW).toArray 312,.p (aK eB u cE)] [] N0 (λ_=> .agg (rB 72 (bU 36 (eJ l x p) 2)).toArray):=by
 have HEL:=True.intro
 have HDR:=True.intro
 refine fO Tryz.func125 3 rfl λbq3 hq3=>?_
 refine fG Tryz.func125 λw cs=>?_
 refine ra (λq1=>[(5,pt (B0 q1) 0),(6,pt (B1 q1) 0),(7,pt (B2 q1) 0),(9,pt (B3 q1) 0),(10,pt (B4 q1) 0)]) (λq1=>[ob (B0 q1) #[pt cc 0] 116,ob (B1 q1) #[i6 2] 3,ob (B2 q1) (rB 64 l).toArray 43,ob (B3 q1) #[.bool p] 4,ob (B4 q1) (rB 72 (Zz 72 0)).toArray 217]) λq1=>ra (λq2=>[(11,pt (B0 q2) 0)]) (λq2=>[ob (B0 q2) (rB 72 (Zz 72 0)).toArray 217]) λq2=>r0 [(0,.l 5)] [(19,i6 2)] [] (rF [] 20 (rT [] 45 (rr (λ_=>[(1,.l 7),(2,.c [] [] (DY x Om Om p)),(4,.s 10)]) (λq6=>[(15,pt (B3 q6) 0)]) [] (λq6 L=>L++[ob (B3 q6) (rB 3 (ci x p)).toArray 262]) λq6=>?_)))
 refine rr (λ_=>[(0,.l 6),(1,.c [] [11] (Oe l (by(simp only[LL,HEL,iJ,lM,HDR,hl];done))))]) (λq7=>[(51,.func (.func 202) #[] #[pt ((B1 q7)) 0])]) [] (λq7 L=>L++[ob (B1 q7) (rB 64 l).toArray 43]) λq7=>?_
 refine ph (encs:=λ(x:Nat×List UInt8)=>#[i6 (x.1:Int),.agg (rB 32 x.2).toArray]) (xs:=(ZB 2).map λk=>(k,(l.drop (32*k)).take 32)) (KO:=[[((B1 q7),.cells (rB 64 l).toArray 43 (0,0))]]) (Of (B1 q7) l (by(simp only[LL,HEL,iJ,lM,HDR,hl];done))) (enters_of Tryz.func202 Kr rfl) (λk=>k≤2) (λk L=>L.set 9 (ob (B0 q2) (rB 72 (bU 36 (eJ l x p) k)).toArray 217)) [11] Om (by rw[Ei];kernel_rfl) (λlR k xE R1 W1 hxE hk9=>?_) (λD8 hk9=>?_)
 ·obtain⟨hkb10,rfl⟩:=oh hxE
  have HEL:=oE (n:=36) (pC hl x p) (k:=k) Om
  have HDR:((l.drop (32*k)).take 32).length=32:=by rw[ZC,ZD];omega
  refine r0 [] [(16,iN k)] [] (rr (λ_=>[(1,.s 12)]) (λq12=>[(17,pt (B0 q12) 0)]) [] (λq12 L=>L++[ob (B0 q12) (rB 32 ((l.drop (32*k)).take 32)).toArray 267]) λq12=>?_)
  refine ag [11] (λR2 W2=>?_)
  refine rr (λ_=>[(0,.l 4),(3,.l 0),(4,.l 12),(5,.l 10),(6,.c [1,2,3] [] (aa.at (rd':=[ob cb #[pt g 0,u] 309,ob g (rB 255 aP++rN 256 aW).toArray 312,.c bq3]) (NB cb g u ((l.drop (32*k)).take 32) (ci x p) (by(simp only[LL,HEL,iJ,lM,HDR,hl];done)) (by(simp only[LL,HEL,iJ,lM,HDR,hl];done))) (atS (atS (em hq3 (λ_ h=>h)))))),(8,.s 13)]) (λq13=>[(18,pt (B7 q13) 0)]) [] (λq13 L=>L++[ob (B7 q13) (rB 4 (iq (((l.drop (32*k)).take 32)) ((ci x p)))).toArray 268]) λq13=>rr (λq14=>[(0,.l 9),(1,.l 5),(3,aS 268 (B7 q13) 4 1),(4,aS 267 (B0 q12) 32 1),(5,.m (Lr kB 14 13 12 (B7 q13) 4 (rB 4 (iq (((l.drop (32*k)).take 32)) ((ci x p)))).toArray 268 (iq (((l.drop (32*k)).take 32)) ((ci x p))) ((l.drop (32*k)).take 32) (.slice (some ⟨(q12 0).ZK 0,0,none⟩) 32 32) (ob (B0 q12) (rB 32 ((l.drop (32*k)).take 32)).toArray 267) (λ_ h=>by rw[show _=_ from h];exact pj (λ_=>rfl) (show((l.drop (32*k)).take 32).length=32 by(simp only[LL,HEL,iJ,lM,HDR,hl];done))) (iJ ..) (BT (iJ ..)) (by rw[(show((l.drop (32*k)).take 32).length=32 by(simp only[LL,HEL,iJ,lM,HDR,hl];done))];omega) (by rw[(iJ ..),(show((l.drop (32*k)).take 32).length=32 by(simp only[LL,HEL,iJ,lM,HDR,hl];done))];omega))),(6,.c [14] [] (aa.at (rd':=[bE ((q14 5).val 0) ((iq (((l.drop (32*k)).take 32)) ((ci x p)))++((l.drop (32*k)).take 32))]) (Oh (bU 36 (eJ l x p) k) ((iq (((l.drop (32*k)).take 32)) ((ci x p)))++((l.drop (32*k)).take 32)) ((q14 5).val 0) (by(simp only[LL,HEL,iJ,lM,HDR,hl];done)) k Om (by(simp only[LL,HEL,iJ,lM,HDR,hl];done))) (bO (λ_ h=>ap.sq h) (λ_ h=>h)))),(7,.s 9)]) N0 [] (λq14 L=>L.set 9 (ob (B0 q2) (rB 72 ((bU 36 (eJ l x p) k).take (36*k)++((iq (((l.drop (32*k)).take 32)) ((ci x p)))++((l.drop (32*k)).take 32))++(bU 36 (eJ l x p) k).drop ((36*k)+((iq (((l.drop (32*k)).take 32)) ((ci x p)))++((l.drop (32*k)).take 32)).length))).toArray 217)++[bE ((q14 5).val 0) ((iq (((l.drop (32*k)).take 32)) ((ci x p)))++((l.drop (32*k)).take 32))]) λq14=>?_
  exact ne _ ⟨Om,rfl⟩ [0,1,2,3,4,5,6,7,8,9,10,11] (by rw[←Eh (pC hl x p) (pC hl x p k),Ej Om];kernel_rfl)
 have HEL:=oE (n:=36) (pC hl x p) (k:=2) Om
 exact rs [(0,.l 9),(1,.s 8)] 8 (ob (B4 q1) (rB 72 (bU 36 (eJ l x p) 2)).toArray 217) (lf ab.zero [] [(0,0),(1,1),(2,2),(3,3)] [8])
end Go.Proofs.YtbcodenfkijdnaaGreat.E
namespace Go.Proofs.YtbcodenfkijdnaaGreat
def yS:Nat→Nat→Nat→List Nat
 | 0,_,_=>[]
 | m+1,x,k=>if pc x=k then x::yS m (x+1) k else yS m (x+1) k
def choose(n k:Nat):List Nat:=yS (2^n) 0 k
end Go.Proofs.YtbcodenfkijdnaaGreat
namespace Go.Proofs.YtbcodenfkijdnaaGreat.Hs
open Nat renaming xor_assoc→Zz,mod_two_eq_zero_or_one→ZA,pow_lt_pow_right→ZC,xor_lt_two_pow→ZD,pow_succ→ZG,zero_xor→ZH
open List renaming length_replicate→ZB,length_set→ZE,replicate→ZF
def sK(s:List Nat×List Int)(i x:Nat):List Nat×List Int:=(s.1.set i x,s.2.set x (i:Int))
def OS:List Nat×List Int:=(ZF 74 0,ZF 256 (-1))
def hA:Nat→List Nat×List Int
 | 0=>OS
 | k+1=>sK (hA k) (64+k) (2^k)
def hB:Nat→List Nat×List Int
 | 0=>hA 8
 | k+1=>sK (hB k) k ((choose 8 3).getD k 0)
def OT(k:Nat):Nat:=if k<8 then 56+k else 64+k
def hC:Nat→List Nat×List Int
 | 0=>hB 56
 | k+1=>sK (hC k) (OT k) ((choose 8 5).getD k 0)
def yT:List Nat:=(hC 10).1
def hats:List Int:=(hC 10).2
theorem qz(s:List Nat×List Int)(i x:Nat):(sK s i x).1.length=s.1.length∧(sK s i x).2.length=s.2.length:=⟨ZE,ZE⟩
theorem OU(k:Nat):(hA k).1.length=74∧(hA k).2.length=256:=by
 induction k with
 | zero=>exact⟨ZB,ZB⟩
 | succ k ih=>rw[hA];exact⟨(qz _ _ _).1.trans ih.1,(qz _ _ _).2.trans ih.2⟩
theorem OV(k:Nat):(hB k).1.length=74∧(hB k).2.length=256:=by
 induction k with
 | zero=>exact OU 8
 | succ k ih=>rw[hB];exact⟨(qz _ _ _).1.trans ih.1,(qz _ _ _).2.trans ih.2⟩
theorem OX(k:Nat):(hC k).1.length=74∧(hC k).2.length=256:=by
 induction k with
 | zero=>exact OV 56
 | succ k ih=>rw[hC];exact⟨(qz _ _ _).1.trans ih.1,(qz _ _ _).2.trans ih.2⟩
theorem hcols_len:yT.length=74:=(OX 10).1
def col(i:Nat):Nat:=yT.getD i 0
def atS(s:Nat):Int:=hats.getD s (-1)
def hcolL:List Nat:=[7,11,13,14,19,21,22,25,26,28,35,37,38,41,42,44,49,50,52,56,67,69,70,73,74,76,81,82,84,88,97,98,100,104,112,131,133,134,137,138,140,145,146,148,152,161,162,164,168,176,193,194,196,200,208,224,31,47,55,59,61,62,79,87,1,2,4,8,16,32,64,128,91,93]
theorem hcols_eq:yT=hcolL:=by decide+kernel
theorem OY: ∀i,i<74→hcolL.getD i 0<256∧0<hcolL.getD i 0:=by decide+kernel
theorem col_pos{i:Nat}(h:i<74):0<col i:=by unfold col;rw[hcols_eq];exact(OY i h).2
theorem OZ: ∀i,i<74→hats.getD (hcolL.getD i 0) (-1)=(i:Int):=by decide+kernel
theorem at_col{i:Nat}(h:i<74):atS (col i)=(i:Int):=by unfold atS col;rw[hcols_eq];exact OZ i h
theorem O0: ∀j,j<8→hcolL.getD (64+j) 0=2^j:=by decide+kernel
theorem col_check{j:Nat}(h:j<8):col (64+j)=2^j:=by unfold col;rw[hcols_eq];exact O0 j h
def jw:Nat→Nat→Nat→Nat
 | 0,_,_=>0
 | r+1,k,z=>(if z%2=1 then col k else 0)^^^jw r (k+1) (z/2)
def cs(d:Nat):Nat:=jw 64 0 d
theorem Ek(a b c:Nat):(if(a^^^b)%2=1 then c else 0)=(if a%2=1 then c else 0)^^^(if b%2=1 then c else 0):=by
 rw[w6]
 rcases ZA a with ha | ha<;>rcases ZA b with hb | hb<;>rw[ha,hb]<;>simp
theorem O3(a b c:Nat):a^^^(b^^^c)=b^^^(a^^^c):=by rw[←Zz,Nat.xor_comm a b,Zz]
theorem O4(r:Nat): ∀k a b,jw r k (a^^^b)=jw r k a^^^jw r k b:=by
 induction r with
 | zero=>intro k a b;simp [jw]
 | succ r ih=>
  intro k a b
  rw[jw,jw,jw,Ek,Ir,ih]
  simp only[Zz,O3]
theorem cs_xor(a b:Nat):cs (a^^^b)=cs a^^^cs b:=O4 64 0 a b
theorem csTo_zero(r:Nat): ∀k,jw r k 0=0:=by
 induction r with
 | zero=>intro k;rfl
 | succ r ih=>intro k;rw[jw];simp [ih]
theorem O5(r:Nat): ∀k i,i<r→jw r k (2^i)=col (k+i):=by
 induction r with
 | zero=>intro k i h;omega
 | succ r ih=>
  intro k i h
  rw[jw]
  cases i with
  | zero=>simp [csTo_zero]
  | succ i=>
   have h2:2^(i+1)%2=0:=by rw[ZG];omega
   have h3:2^(i+1)/2=2^i:=by rw[ZG];omega
   rw[h2,h3,ih (k+1) i Om,ALifn Dc,ZH]
   congr 1;omega
theorem cs_pow{i:Nat}(h:i<64):cs (2^i)=col i:=by unfold cs;rw[O5 64 0 i h,Nat.zero_add]
def xfold(s:Nat)(l:List Nat):Nat:=l.foldl (λs i=>s^^^col i) s
theorem xfold_ones(r:Nat): ∀k z s,xfold s (eZ r k z)=s^^^jw r k z:=by
 induction r with
 | zero=>intro k z s;simp [eZ,jw,xfold]
 | succ r ih=>
  intro k z s
  rw[eZ,jw]
  split
  ·show xfold (s^^^col k) _=_
   rw[ih,Zz]
  ·rw[ih,ZH]
theorem xfold_snoc(s:Nat)(l:List Nat)(i:Nat):xfold s (l++[i])=xfold s l^^^col i:=by simp [xfold]
def mark(a c:Nat):Nat:=if a%2=1 then col c else 0
def chk(d a p:Nat):Nat:=cs d^^^mark a 72^^^mark p 73
theorem mark_xor(a b c:Nat):mark (a^^^b) c=mark a c^^^mark b c:=Ek a b _
def verdict(s:Nat):Nat×Int:=
 if s=0 then(0, -1) else if atS s= -1 then(4, -1) else if atS s=72 then(3, -1) else if atS s=73 then(2, -1) else(1,atS s)
def low(a:Int):Nat:=(a%2).toNat
def decD(d:Nat)(v:Nat×Int):Nat:=if v.1=1∧v.2<64 then d^^^2^v.2.toNat else d
def tD(d i:Nat):Nat:=if i<64 then d^^^2^i else d
def tK(k i:Nat):Nat:=if 64≤i∧i<72 then k^^^2^(i-64) else k
theorem tD_lt{d:Nat}(i:Nat)(h:d<18446744073709551616):tD d i<18446744073709551616:=by
 unfold tD
 split
 ·exact ZD (n:=64) h (ZC Dc As)
 ·exact h
theorem tK_lt{k:Nat}(i:Nat)(h:k<256):tK k i<256:=by
 unfold tK
 split
 ·exact ZD (n:=8) h (ZC Dc Om)
 ·exact h
end Go.Proofs.YtbcodenfkijdnaaGreat.Hs
namespace Go.Proofs.YtbcodenfkijdnaaGreat.E
open Go Go.RowKit
def aU(mode:Int):Nat:=if mode=1 then 9 else if mode=2 then 36 else 0
def dL(mode:Int):Nat:=if mode=1 then 8 else if mode=2 then 2 else 0
def dk(mode:Int)(a b:UInt8):Nat:=if mode=1 then pc (a^^^b).toNat else if a=b then 0 else 1
theorem El{n:Nat}(h:n<2^64):pc n=0↔n=0:=by
 constructor
 ·intro h0
  rcases Nat.eq_zero_or_pos n with h1 | h1
  ·exact h1
  ·have:=A5 n h1 h
   omega
 ·rintro rfl;exact A3
theorem O6(mode:Int)(a b:UInt8):dk mode a b=dk mode b a:=by
 unfold dk
 rw[UInt8.xor_comm]
 by_cases h:a=b
 ·subst h;rfl
 ·rw[ALifn h,ALifn (Ne.symm h)]
theorem Em{n:Nat}(h:n<256):pc n≤8:=by
 have h1:pc n=eE 8 n:=(tY 8 n Om Om).symm
 rw[h1];exact A4 8 n
theorem O7(mode:Int)(a b:UInt8):dk mode a b≤if mode=1 then 8 else 1:=by
 unfold dk
 split
 ·exact Em (a^^^b).toNat_lt
 ·split<;>omega
def cp(f:Nat→Nat):Nat→Nat
 | 0=>0
 | k+1=>cp f k+f k
theorem yU{f g:Nat→Nat}: ∀n,(∀i,i<n→f i=g i)→cp f n=cp g n
 | 0,_=>rfl
 | n+1,h=>by rw[cp,cp,yU n (λi hi=>h i Om),h n Om]
theorem yV{f:Nat→Nat}: ∀n,cp f n=0↔∀i,i<n→f i=0
 | 0=>⟨λ_ i hi=>by omega,λ_=>rfl⟩
 | n+1=>by
  rw[cp]
  constructor
  ·intro h i hi
   by_cases e:i=n
   ·subst e;omega
   ·exact(yV n).1 Om i Om
  ·intro h
   rw[(yV n).2 (λi hi=>h i Om),h n Om]
def wC(mode:Int)(xs ys:List UInt8)(k:Nat):Nat:=cp (λj=>dk mode (xs.getD (aU mode*k+j) 0) (ys.getD (aU mode*k+j) 0)) (aU mode)
def kx(mode:Int)(xs ys:List UInt8):Nat→Nat
 | 0=>0
 | k+1=>max (kx mode xs ys k) (wC mode xs ys k)
def dm(mode:Int)(xs ys:List UInt8):Nat:=kx mode xs ys (dL mode)
theorem vz{mode:Int}{xs ys:List UInt8}{m:Nat}: ∀k,kx mode xs ys k≤m↔∀i,i<k→wC mode xs ys i≤m
 | 0=>⟨λ_ i hi=>by omega,λ_=>Nat.zero_le _⟩
 | k+1=>by
  rw[kx]
  constructor
  ·intro h i hi
   by_cases e:i=k
   ·subst e;omega
   ·exact(vz k).1 Om i Om
  ·intro h
   have h1:=(vz k).2 (λi hi=>h i Om)
   have h2:=h k Om
   omega
theorem sM{mode:Int}{xs ys:List UInt8}(hx:xs.length=72)(hy:ys.length=72){m:Nat}:dm mode xs ys≤m↔∀i,i<dL mode→wC mode xs ys i≤m:=vz _
theorem sN{mode:Int}{xs ys:List UInt8}(hx:xs.length=72)(hy:ys.length=72){i:Nat}(hi:i<dL mode):wC mode xs ys i≤dm mode xs ys:=(sM hx hy).1 (Nat.le_refl _) i hi
theorem En(mode:Int)(xs ys:List UInt8)(k:Nat):wC mode xs ys k=wC mode ys xs k:=yU _ λ_ _=>O6 _ _ _
theorem O8{mode:Int}{xs ys:List UInt8}(hx:xs.length=72)(hy:ys.length=72):dm mode xs ys=dm mode ys xs:=by
 have h1:=(sM (mode:=mode) hx hy).2 λi hi=>by rw[En];exact sN hy hx hi
 have h2:=(sM (mode:=mode) hy hx).2 λi hi=>by rw[En];exact sN hx hy hi
 omega
end Go.Proofs.YtbcodenfkijdnaaGreat.E
namespace Go.Proofs.YtbcodenfkijdnaaGreat.E
open Go Go.RowKit Go.Shelf
open List renaming getD_eq_getElem?_getD→Zz,range→ZD,getElem?_eq_getElem→ZE,getElem?_append_right→ZN,getElem?_append_left→ZO,getElem?_eq_none→ZQ,not_mem_nil→ZS,foldl_cons→ZV
open Nat renaming xor_zero→ZA,xor_assoc→ZC,xor_self→ZF,pow_succ→ZG,zero_add→ZH,zero_xor→ZI,add_mul_div_left→ZJ,xor_lt_two_pow→ZK,mod_eq_of_lt→ZL,pow_mul→ZM,add_mul_mod_self_left→ZP,div_eq_of_lt→ZT,mul_assoc→ZW,pow_zero→ZX,mul_comm→ZY,xor_comm→ZZ
open UInt8 renaming toNat_xor→ZB,toNat_ofNat'→ZR,toNat_lt→ZU
theorem O9(x k:Nat):iK x (k+1)=iK x k++[UInt8.ofNat (x/256^k)]:=rfl
theorem Eo(a b:Nat):(a^^^b)/2=a/2^^^b/2:=Nat.xor_div_two
theorem Pb(i:Nat):2^(i+1)/2=2^i:=by rw[ZG];omega
theorem Pc(i:Nat):2^(i+1)%2=0:=by rw[ZG];omega
theorem Pd(k:Nat): ∀n,n<2^k→n≠0→∃i,i<k∧eE k n=eE k (n^^^2^i)+1:=by
 induction k with
 | zero=>intro n hn h0;omega
 | succ k ih=>
  intro n hn h0
  rw[ZG] at hn
  rcases Nat.mod_two_eq_zero_or_one n with h | h
  ·obtain⟨i,hi,e⟩:=ih (n/2) Om Om
   refine⟨i+1,by omega,?_⟩
   rw[eE,eE,Eo,Pb,w6,Pc,h,e];omega
  ·refine⟨0,by omega,?_⟩
   rw[eE,eE,Eo,w6,h]
   simp
   omega
theorem Ep{n k:Nat}(hk:k≤64)(hn:n<2^k)(h0:n≠0): ∃i,i<k∧pc n=pc (n^^^2^i)+1:=by
 obtain⟨i,hi,e⟩:=Pd k n hn h0
 refine⟨i,hi,?_⟩
 rw[←tY k n hn hk,←tY k _ (ZK hn (Nat.pow_lt_pow_right Dc hi)) hk,e]
theorem Pe(a b:Nat): ∀n,eE (a+b) n=eE a (n%2^a)+eE b (n/2^a):=by
 induction a with
 | zero=>intro n;rw[ZH,ZX,Nat.div_one,eE,ZH]
 | succ a ih=>
  intro n
  rw[show a+1+b=(a+b)+1 by omega,eE,eE,ih (n/2)]
  have e1:n%2^(a+1)%2=n%2:=Nat.mod_mod_of_dvd n (by rw[ZG];exact Nat.dvd_mul_left 2 _)
  have e2:n%2^(a+1)/2=n/2%2^a:=by rw[ZG,ZY,Nat.mod_mul_right_div_self]
  have e3:n/2/2^a=n/2^(a+1):=by rw[ZG,ZY,Nat.div_div_eq_div_mul]
  rw[e1,e2,e3,Nat.add_assoc]
theorem Pf{xs:List UInt8}{off n j:Nat}(hj:j<n):aB xs off n/256^j%256=(xs.getD (off+j) 0).toNat:=by
 induction n with
 | zero=>omega
 | succ n ih=>
  rw[qx]
  have hb:=(xs.getD (off+n) 0).toNat_lt
  by_cases e:j=n
  ·subst e
   have h1:=qw xs off j
   rw[ZM,show(2:Nat)^8=256 from rfl] at h1
   rw[ZJ _ _ (Nat.pow_pos Dc),ZT h1,ZH,ZL hb]
  ·have h2:256^n*(xs.getD (off+n) 0).toNat=256^j*(256*(256^(n-j-1)*(xs.getD (off+n) 0).toNat)):=by
    rw[←ZW 256,←Nat.pow_succ',←ZW,←Nat.pow_add,show j+(n-j-1+1)=n by omega]
   rw[h2,ZJ _ _ (Nat.pow_pos Dc),ZP,ih Om]
theorem Er{xs:List UInt8}{off D:Nat}: ∀n,(∀j,j<n→(xs.getD (off+j) 0).toNat=D/256^j%256)→aB xs off n=D%256^n
 | 0,_=>by rw[ZX,Nat.mod_one];rfl
 | n+1,h=>by rw[qx,Er n (λj hj=>h j Om),h n Om,Nat.mod_pow_succ]
theorem Es{xs ys:List UInt8}{a b:Nat}: ∀n,(∀j,j<n→xs.getD (a+j) 0=ys.getD (b+j) 0)→aB xs a n=aB ys b n
 | 0,_=>rfl
 | n+1,h=>by rw[qx,qx,Es n (λj hj=>h j Om),h n Om]
theorem Pg(x:Nat): ∀n j,j<n→(iK x n).getD j 0=UInt8.ofNat (x/256^j):=by
 intro n
 induction n with
 | zero=>intro j hj;omega
 | succ n ih=>
  intro j hj
  rw[O9,Zz]
  by_cases e:j=n
  ·subst e;rw[ZN (by rw[j9];omega),j9,Nat.sub_self];rfl
  ·rw[ZO (by rw[j9];omega),←Zz];exact ih j Om
theorem Et(xs ys:List UInt8)(a b:Nat): ∀n,n≤8→eE (8*n) (aB xs a n^^^aB ys b n)=cp (λj=>pc (xs.getD (a+j) 0^^^ys.getD (b+j) 0).toNat) n
 | 0,_=>rfl
 | n+1,hn=>by
  have h:=λ(xs:List UInt8) (a:Nat)=>qw xs a n
  have hd:=λ(xs:List UInt8) (a:Nat)=>(show aB xs a (n+1)/2^(8*n)=(xs.getD (a+n) 0).toNat by
   rw[qx,show(256:Nat)^n=2^(8*n) by rw[ZM],ZJ _ _ (Nat.two_pow_pos _),ZT (h xs a),ZH])
  have hm:=λ(xs:List UInt8) (a:Nat)=>(show aB xs a (n+1)%2^(8*n)=aB xs a n by
   rw[qx,show(256:Nat)^n=2^(8*n) by rw[ZM],ZP,ZL (h xs a)])
  rw[cp,←Et xs ys a b n Om,show 8*(n+1)=8*n+8 by omega,Pe,Nat.xor_mod_two_pow,Nat.xor_div_two_pow,hd,hd,hm,hm,←ZB]
  rw[tY 8 _ ((xs.getD (a+n) 0^^^ys.getD (b+n) 0).toNat_lt) Dc]
def jg(z k:Nat):Nat:=pc z+pc k
def nN(z k:Nat):Nat:=Hs.cs z^^^k
theorem Eu:nN 0 0=0:=by unfold nN;rw[show Hs.cs 0=0 from Hs.csTo_zero 64 0];rfl
theorem yW{z k:Nat}(hz:z<2^64)(hk:k<2^8):jg z k=0↔z=0∧k=0:=by
 unfold jg
 have h1:=El hz
 have h2:=El (n:=k) Om
 omega
theorem Ph{z k:Nat}(hz:z<2^64)(hk:k<2^8)(h:jg z k≠0): ∃t,t<72∧jg z k=jg (Hs.tD z t) (Hs.tK k t)+1∧nN z k=nN (Hs.tD z t) (Hs.tK k t)^^^Hs.col t:=by
 by_cases h0:z=0
 ·have hk0:k≠0:=λe=>h ((yW hz hk).2 ⟨h0,e⟩)
  obtain⟨i,hi,e⟩:=Ep Dc hk hk0
  refine⟨64+i,by omega,?_⟩
  unfold Hs.tD Hs.tK
  rw[ALifn Om,ALifp Om,Nat.add_sub_cancel_left]
  refine⟨by unfold jg;omega,?_⟩
  unfold nN
  rw[Hs.col_check hi,ZC,ZC,ZF,ZA]
 ·obtain⟨i,hi,e⟩:=Ep Dc hz h0
  refine⟨i,by omega,?_⟩
  unfold Hs.tD Hs.tK
  rw[ALifp hi,ALifn Om]
  refine⟨by unfold jg;omega,?_⟩
  unfold nN
  rw[Hs.cs_xor,Hs.cs_pow hi,ZC,ZC,ZZ k,←ZC (Hs.col i),ZF,ZI]
theorem Pi{z:Nat}(t:Nat)(h:z<2^64):Hs.tD z t<2^64:=Hs.tD_lt t h
theorem Pj{k:Nat}(t:Nat)(h:k<2^8):Hs.tK k t<2^8:=Hs.tK_lt t h
theorem Pk(z t:Nat):Hs.tD (Hs.tD z t) t=z:=by
 unfold Hs.tD
 by_cases h:t<64
 ·rw[ALifp h,ALifp h,ZC,ZF,ZA]
 ·rw[ALifn h,ALifn h]
theorem Pm(z t:Nat):Hs.tK (Hs.tK z t) t=z:=by
 unfold Hs.tK
 by_cases h:64≤t∧t<72
 ·rw[ALifp h,ALifp h,ZC,ZF,ZA]
 ·rw[ALifn h,ALifn h]
theorem Pn{z k:Nat}(hz:z<2^64)(hk:k<2^8)(h:jg z k=1): ∃t,t<72∧nN z k=Hs.col t∧z=Hs.tD 0 t∧k=Hs.tK 0 t:=by
 obtain⟨t,ht,e1,e2⟩:=Ph hz hk Om
 obtain⟨h1,h2⟩:=(yW (Pi t hz) (Pj t hk)).1 Om
 refine⟨t,ht,?_,?_,?_⟩
 ·rw[e2,h1,h2,Eu,ZI]
 ·rw[←h1,Pk]
 ·rw[←h2,Pm]
def Po(x:Int):Nat:=(x%8388608).toNat
def ka(x:Int):Nat:=pc (Po x)%2
def hck(d:Nat)(a p:Int):UInt8:=bo d a p (a9 10)
def pD(d:Nat)(k:UInt8)(a:Int):Nat:=(bo d a 0 (a9 10)^^^k).toNat
theorem yX(i:Nat):((a9 10).getD i 0).toNat=Hs.col i:=by
 have h: ∀i,i<74→((a9 10).getD i 0).toNat=Hs.hcolL.getD i 0:=by decide+kernel
 rcases Nat.lt_or_ge i 74 with hi | hi
 ·rw[h i hi];unfold Hs.col;rw[Hs.hcols_eq]
 ·unfold Hs.col
  rw[Zz,ZQ (by rw[jv];exact hi),Zz,ZQ (by rw[Hs.hcols_len];exact hi)]
  rfl
theorem Pp{l:List Nat}{k:Nat}(h:k<l.length):l.take (k+1)=l.take k++[l.getD k 0]:=by
 rw[List.take_add_one,ZE h,Zz,ZE h]
 rfl
theorem Ew(d:Nat): ∀k,k≤(bk d).length→(xc (a9 10) d k).toNat=Hs.xfold 0 ((bk d).take k)
 | 0,_=>rfl
 | k+1,h=>by rw[xc,ZB,Ew d k Om,yX,Pp Om,Hs.xfold_snoc]
theorem Pq(d:Nat):(xc (a9 10) d (bk d).length).toNat=Hs.cs d:=by
 rw[Ew d _ (Nat.le_refl _),List.take_length]
 have h:=Hs.xfold_ones 64 0 d 0
 rw[ZI] at h
 exact h
theorem Ex(a:Int)(c:Nat):Hs.mark (Hs.low a) c=if a%2=1 then Hs.col c else 0:=by
 unfold Hs.mark Hs.low
 by_cases h:a%2=1
 ·rw[ALifp h,ALifp Om]
 ·rw[ALifn h,ALifn Om]
theorem Ey(d:Nat)(a p:Int):(hck d a p).toNat=Hs.chk d (Hs.low a) (Hs.low p):=by
 unfold hck bo Hs.chk
 rw[Ex,Ex,←Pq,←yX 72,←yX 73]
 by_cases h1:a%2=1
 ·by_cases h2:p%2=1
  ·rw[ALifp h1,ALifp h2,beq_iff_eq.2 h1,beq_iff_eq.2 h2,ALct,ALct,ZB,ZB]
  ·rw[ALifp h1,ALifn h2,beq_iff_eq.2 h1,beq_false_of_ne h2,ALct,ALcf,ZB,ZA]
 ·by_cases h2:p%2=1
  ·rw[ALifn h1,ALifp h2,beq_false_of_ne h1,beq_iff_eq.2 h2,ALct,ALcf,ZB,ZA]
  ·rw[ALifn h1,ALifn h2,beq_false_of_ne h1,beq_false_of_ne h2,ALcf,ALcf,ZA,ZA]
theorem Pr(d:Nat)(k:UInt8)(a:Int):pD d k a=Hs.chk d (Hs.low a) 0^^^k.toNat:=by
 unfold pD
 rw[ZB]
 exact ALca (· ^^^k.toNat) (Ey d a 0)
theorem Ps:Hs.hats=kv:=by decide+kernel
theorem Pt(n:Nat):Hs.verdict n=if n=0 then(0, -1) else if kv.getD n (-1)= -1 then(4, -1) else if kv.getD n (-1)=72 then(3, -1) else if kv.getD n (-1)=73 then(2, -1) else(1,kv.getD n (-1)):=by unfold Hs.verdict Hs.atS;rw[Ps]
theorem Pu: ∀n:Nat,n<256→(dw (UInt8.ofNat n) kv,dj (UInt8.ofNat n) kv)=(if n=0 then((0:Int),(-1:Int)) else if kv.getD n (-1)= -1 then(4, -1) else if kv.getD n (-1)=72 then(3, -1) else if kv.getD n (-1)=73 then(2, -1) else(1,kv.getD n (-1))):=by decide+kernel
theorem vv{n:Nat}{z A B:Int}(h:(A,B)=(if n=0 then((0:Int),(-1:Int)) else if z= -1 then(4, -1) else if z=72 then(3, -1) else if z=73 then(2, -1) else(1,z))):
  A=(((if n=0 then((0:Nat),(-1:Int)) else if z= -1 then(4, -1) else if z=72 then(3, -1) else if z=73 then(2, -1) else(1,z)).1:Nat):Int)∧B=(if n=0 then((0:Nat),(-1:Int)) else if z= -1 then(4, -1) else if z=72 then(3, -1) else if z=73 then(2, -1) else(1,z)).2:=by
 by_cases e0:n=0
 ·simp only[ALifp e0,Prod.mk.injEq] at h⊢;exact h
 ·by_cases e1:z= -1
  ·simp only[ALifn e0,ALifp e1,Prod.mk.injEq] at h⊢;exact h
  ·by_cases e2:z=72
   ·simp only[ALifn e0,ALifn e1,ALifp e2,Prod.mk.injEq] at h⊢;exact h
   ·by_cases e3:z=73
    ·simp only[ALifn e0,ALifn e1,ALifn e2,ALifp e3,Prod.mk.injEq] at h⊢;exact h
    ·simp only[ALifn e0,ALifn e1,ALifn e2,ALifn e3,Prod.mk.injEq] at h⊢;exact h
theorem Ez(s:UInt8):dw s (bL 10)=((Hs.verdict s.toNat).1:Int)∧dj s (bL 10)=(Hs.verdict s.toNat).2:=by
 have h:=Pu s.toNat s.toNat_lt
 rw[UInt8.ofNat_toNat] at h
 rw[Ed,Pt]
 exact vv h
theorem Pv{f:Nat→List UInt8}{m:Nat}(h: ∀i,(f i).length=m): ∀n k,k<n→∀z,(((ZD n).flatMap f++z).drop (m*k)).take m=f k:=by
 intro n
 induction n with
 | zero=>intro k hk;omega
 | succ n ih=>
  intro k hk z
  rw[List.range_succ,List.flatMap_append,List.flatMap_singleton,List.append_assoc]
  by_cases e:k=n
  ·subst e
   rw[List.drop_left' (vu h k),List.take_left' (h k)]
  ·exact ih k Om _
theorem yY{xs:List UInt8}{a n j:Nat}(hj:j<n):((xs.drop a).take n).getD j 0=xs.getD (a+j) 0:=by
 rw[Zz,Zz,List.getElem?_take_of_lt hj,List.getElem?_drop]
theorem yZ{f:Nat→List UInt8}{m:Nat}(h: ∀i,(f i).length=m){n k j:Nat}(hk:k<n)(hj:j<m):(bU m f n).getD (m*k+j) 0=(f k).getD j 0:=by
 rw[←yY hj]
 unfold bU
 rw[Pv h n k hk]
theorem EA{xs:List UInt8}{k j:Nat}(hj:j<9):(w9 xs k).getD j 0=xs.getD (9*k+j) 0:=yY hj
theorem Pw{xs:List UInt8}{k j:Nat}(hj:j<36):(je xs k).getD j 0=xs.getD (36*k+j) 0:=yY hj
theorem Px{l:List UInt8}{x:Int}{p:Bool}{k j:Nat}(hj:j<8):(fb l x p k).getD j 0=UInt8.ofNat (aB l (8*k) 8/256^j):=by
 unfold fb
 rw[Zz,ZO (by rw[j9];exact hj),←Zz,Pg _ _ _ hj]
theorem Py{l:List UInt8}{x:Int}{p:Bool}{k:Nat}:(fb l x p k).getD 8 0=hck (aB l (8*k) 8) ((ka x:Nat):Int) (eo p):=by
 unfold fb
 rw[Zz,ZN (by rw[j9];omega),j9]
 rfl
theorem Pz{l:List UInt8}{x:Int}{p:Bool}{k:Nat}(hk:k<8):aB (bU 9 (fb l x p) 8) (9*k) 8=aB l (8*k) 8:=by
 rw[Er (D:=aB l (8*k) 8) 8 λj hj=>by
  rw[yZ (oF l x p) hk Om,Px hj,ZR]]
 exact ZL (qy _ _ Dc)
def zD(l ys:List UInt8)(k:Nat):Nat:=aB l (8*k) 8^^^aB (w9 ys k) 0 8
def zK(l:List UInt8)(x:Int)(p:Bool)(ys:List UInt8)(k:Nat):Nat:=(hck (aB l (8*k) 8) ((ka x:Nat):Int) (eo p)).toNat^^^((w9 ys k).getD 8 0).toNat
theorem EB(l ys:List UInt8)(k:Nat):zD l ys k<2^64:=ZK (qw _ _ 8) (qw _ _ 8)
theorem EC(l:List UInt8)(x:Int)(p:Bool)(ys:List UInt8)(k:Nat):zK l x p ys k<2^8:=ZK (ZU _) (ZU _)
theorem ED{l:List UInt8}{x:Int}{p:Bool}{ys:List UInt8}{k:Nat}(hk:k<8):wC 1 (bU 9 (fb l x p) 8) ys k=jg (zD l ys k) (zK l x p ys k):=by
 have h1:wC 1 (bU 9 (fb l x p) 8) ys k=cp (λj=>pc ((bU 9 (fb l x p) 8).getD (9*k+j) 0^^^ys.getD (9*k+j) 0).toNat) (8+1):=rfl
 rw[h1,cp,←Et _ _ _ _ 8 (Nat.le_refl 8),Pz hk,yZ (oF l x p) hk Om,Py,ZB]
 unfold jg zD zK
 rw[EA Om,Es (xs:=w9 ys k) (ys:=ys) (a:=0) (b:=9*k) 8 λj hj=>by rw[ZH];exact EA Om]
 rfl
theorem EE(x:Int):Hs.low ((ka x:Nat):Int)=ka x:=by unfold Hs.low ka;omega
theorem PA(p:Bool):Hs.low (eo p)=p.toNat:=by cases p<;>rfl
theorem x5(a b:Nat):a^^^(a^^^b)=b:=by rw[←ZC,ZF,ZI]
theorem PB(l:List UInt8)(x:Int)(p:Bool)(ys:List UInt8)(y:Int)(k:Nat):
  pD (aB (w9 ys k) 0 8) ((w9 ys k).getD 8 0) ((ka y:Nat):Int)=nN (zD l ys k) (zK l x p ys k)^^^(Hs.mark (ka x^^^ka y) 72^^^Hs.mark p.toNat 73):=by
 have hd:aB (w9 ys k) 0 8=aB l (8*k) 8^^^zD l ys k:=by unfold zD;rw[x5]
 have hk:((w9 ys k).getD 8 0).toNat=zK l x p ys k^^^Hs.chk (aB l (8*k) 8) (ka x) p.toNat:=by
  unfold zK
  rw[Ey,EE,PA,ZZ,x5]
 rw[Pr,EE,hk,hd]
 unfold Hs.chk nN
 rw[Hs.cs_xor,show Hs.mark 0 73=0 from rfl,Hs.mark_xor]
 generalize Hs.cs (aB l (8*k) 8)=A
 generalize Hs.cs (zD l ys k)=B
 generalize Hs.mark (ka y) 72=C
 generalize Hs.mark (ka x) 72=C'
 generalize zK l x p ys k=D
 generalize Hs.mark p.toNat 73=E
 apply Nat.eq_of_testBit_eq
 intro i
 simp only[Nat.testBit_xor,Nat.zero_testBit]
 cases A.testBit i<;>cases B.testBit i<;>cases C.testBit i<;>cases C'.testBit i<;>cases D.testBit i<;>cases E.testBit i<;>rfl
theorem PC:Hs.verdict 0=(0, -1):=by unfold Hs.verdict;rw[ALifp rfl]
theorem PD{t:Nat}(h:t<72):Hs.verdict (Hs.col t)=(1,(t:Int)):=by
 unfold Hs.verdict
 rw[ALifn (by have:=Hs.col_pos (i:=t) Om;omega),Hs.at_col Om,ALifn Om,ALifn Om,ALifn Om]
theorem PE(d:Nat)(k:UInt8)(a:Int):gp d k a (a9 10) (bL 10)=Hs.decD d (Hs.verdict (pD d k a)):=by
 have h:=Ez (bo d a 0 (a9 10)^^^k)
 unfold gp Hs.decD
 rw[h.1,h.2]
 show _=if(Hs.verdict (bo d a 0 (a9 10)^^^k).toNat).1=1∧(Hs.verdict (bo d a 0 (a9 10)^^^k).toNat).2<64 then _ else d
 by_cases e:(Hs.verdict (bo d a 0 (a9 10)^^^k).toNat).1=1∧(Hs.verdict (bo d a 0 (a9 10)^^^k).toNat).2<64
 ·rw[ALifp e,cC e.2,e.1]
  show d^^^1*2^_=d^^^2^_
  rw[Nat.one_mul]
  rfl
 ·rw[ALifn e]
  have:(((((Hs.verdict (bo d a 0 (a9 10)^^^k).toNat).1:Nat):Int)==1)&&decide ((Hs.verdict (bo d a 0 (a9 10)^^^k).toNat).2<64))=false:=by
   rw[Bool.and_eq_false_iff]
   by_cases e1:(Hs.verdict (bo d a 0 (a9 10)^^^k).toNat).1=1
   ·exact .inr (bj λh2=>e ⟨e1,h2⟩)
   ·exact .inl (beq_false_of_ne Om)
  rw[this];rfl
theorem EF{ys:List UInt8}{y:Int}{k v:Nat}{a:Int}(h:Hs.verdict (pD (aB (w9 ys k) 0 8) ((w9 ys k).getD 8 0) ((ka y:Nat):Int))=(v,a)):dK ys y k=if v=0 then 0 else if v=1 then 1 else if v=2 then 2 else 3:=by
 have e:dw ((bo (aB (w9 ys k) 0 8) ((pc ((y%8388608).toNat)%2:Nat):Int) 0 (a9 10))^^^((w9 ys k).getD 8 0)) (bL 10)=((v:Nat):Int):=by
  have h2:=(Ez ((bo (aB (w9 ys k) 0 8) ((ka y:Nat):Int) 0 (a9 10))^^^((w9 ys k).getD 8 0))).1
  unfold pD at h
  rw[h] at h2
  exact h2
 unfold dK kw
 rw[e]
 by_cases h0:v=0
 ·subst h0;rfl
 by_cases h1:v=1
 ·subst h1;rfl
 by_cases h2:v=2
 ·subst h2;rfl
 rw[ALifn h0,ALifn h1,ALifn h2]
 have c0:(((v:Nat):Int)==0)=false:=by rw[dp];omega
 have c1:(((v:Nat):Int)==1)=false:=by rw[dp];omega
 have c2:(((v:Nat):Int)==2)=false:=by rw[dp];omega
 rw[c0,c1,c2]
 rfl
theorem EG{ys:List UInt8}{y:Int}{k v:Nat}{a:Int}(h:Hs.verdict (pD (aB (w9 ys k) 0 8) ((w9 ys k).getD 8 0) ((ka y:Nat):Int))=(v,a)):dW ys y k=Hs.decD (aB (w9 ys k) 0 8) (v,a):=by
 have e:=PE (aB (w9 ys k) 0 8) ((w9 ys k).getD 8 0) ((ka y:Nat):Int)
 rw[h] at e
 exact e
theorem PF:Hs.mark 0 72=0:=rfl
theorem PG{l:List UInt8}{x:Int}{ys:List UInt8}{k:Nat}(h:jg (zD l ys k) (zK l x false ys k)≤1):dK ys x k=(jg (zD l ys k) (zK l x false ys k):Int)∧dW ys x k=aB l (8*k) 8:=by
 have hs:=PB l x false ys x k
 rw[ZF,PF,show Hs.mark false.toNat 73=0 from rfl,ZF,ZA] at hs
 have hd:aB (w9 ys k) 0 8=aB l (8*k) 8^^^zD l ys k:=by unfold zD;rw[x5]
 rcases(show jg (zD l ys k) (zK l x false ys k)=0∨jg (zD l ys k) (zK l x false ys k)=1 by omega) with h0 | h1
 ·obtain⟨e1,e2⟩:=(yW (EB l ys k) (EC l x false ys k)).1 h0
  rw[e1,e2,Eu] at hs
  have hv:=(ALca Hs.verdict hs).trans (PC)
  refine⟨by rw[EF hv,h0];rfl,?_⟩
  rw[EG hv,hd,e1,ZA]
  rfl
 ·obtain⟨t,ht,e1,e2,_⟩:=Pn (EB l ys k) (EC l x false ys k) h1
  rw[e1] at hs
  have hv:=(ALca Hs.verdict hs).trans (PD ht)
  refine⟨by rw[EF hv,h1];rfl,?_⟩
  rw[EG hv,hd,e2]
  unfold Hs.decD Hs.tD
  by_cases h6:t<64
  ·rw[ALifp ⟨rfl,by show(t:Int)<64;omega⟩,ALifp h6,ZI,ZC]
   show aB l (8*k) 8^^^(2^t^^^2^t)=_
   rw[ZF,ZA]
  ·rw[ALifn (by rintro ⟨_,h7⟩;exact h6 (by have:(t:Int)<64:=h7;omega)),ALifn h6,ZA]
theorem y0(l:List Int): ∀a:Int,(a≤l.foldl max a∧(∀x,x∈l→x≤l.foldl max a))∧∀m,a≤m→(∀x,x∈l→x≤m)→l.foldl max a≤m:=by
 induction l with
 | nil=>intro a;exact⟨⟨Int.le_refl _,λx h=>absurd h ZS⟩,λm h _=>h⟩
 | cons y l ih=>
  intro a
  obtain⟨⟨h1,h2⟩,h3⟩:=ih (max a y)
  rw[ZV]
  refine⟨⟨by omega,λx hx=>?_⟩,λm hm hx=>h3 m (by have:=hx y List.mem_cons_self;omega) λx h=>hx x (List.mem_cons_of_mem _ h)⟩
  rcases List.mem_cons.1 hx with rfl | h
  ·omega
  ·exact h2 x h
theorem EH(l:List Int):0≤jK l:=(y0 l 0).1.1
theorem PH{l:List Int}{x:Int}(h:x∈l):x≤jK l:=(y0 l 0).1.2 x h
theorem EI{l:List Int}{m:Int}(h0:0≤m)(h: ∀x,x∈l→x≤m):jK l≤m:=(y0 l 0).2 m h0 h
theorem PI(l:List Int): ∀a:Int,a≤l.foldl (λa k=>a+eo (k==1)) a∧((1:Int)∈l→a<l.foldl (λa k=>a+eo (k==1)) a):=by
 induction l with
 | nil=>intro a;exact⟨Int.le_refl _,λh=>absurd h ZS⟩
 | cons y l ih=>
  intro a
  obtain⟨h1,h2⟩:=ih (a+eo (y==1))
  have h3:=yP (y==1)
  rw[ZV]
  refine⟨by omega,λhx=>?_⟩
  rcases List.mem_cons.1 hx with rfl | h
  ·have h4:eo ((1:Int)==1)=1:=rfl
   omega
  ·have:=h2 h;omega
theorem PJ{l:List Int}(h:(1:Int)∈l):0<jF l:=(PI l 0).2 h
theorem PK{f:Nat→Int}{n k:Nat}(h:k<n):f k∈(ZD n).map f:=List.mem_map.2 ⟨k,List.mem_range.2 h,rfl⟩
theorem PL{f:Nat→Int}{n:Nat}{P:Int→Prop}(h: ∀k,k<n→P (f k)): ∀x,x∈(ZD n).map f→P x:=by
 intro x hx
 obtain⟨k,hk,rfl⟩:=List.mem_map.1 hx
 exact h k (List.mem_range.1 hk)
theorem EJ{f:Nat→Int}{c:Nat→Nat}{n e:Nat}(h: ∀k,k<n→f k=(c k:Int))(hc: ∀k,k<n→c k≤e)(he:e≤1)(h1:e=1→∃k,k<n∧c k=1):
  jK ((ZD n).map f)=(e:Int)∧(decide (0<gN ((ZD n).map f))=((e:Int)==1)):=by
 have g1:jK ((ZD n).map f)≤(e:Int):=EI Om (PL λk hk=>by rw[h k hk];have:=hc k hk;omega)
 have g0:=EH ((ZD n).map f)
 rcases(show e=0∨e=1 by omega) with rfl | rfl
 ·have e0:jK ((ZD n).map f)=0:=by omega
  refine⟨e0,?_⟩
  unfold gN
  rw[e0]
  rfl
 ·obtain⟨k,hk,ck⟩:=h1 rfl
  have m1:(1:Int)∈(ZD n).map f:=by
   have:=PK (f:=f) hk
   rwa [h k hk,ck] at this
  have g2:=PH m1
  have e1:jK ((ZD n).map f)=1:=by omega
  refine⟨e1,?_⟩
  unfold gN
  rw[e1]
  show decide (0<jF _)=true
  exact cC (PJ m1)
theorem EK(l:List UInt8)(x:Int)(p:Bool):(bU 9 (fb l x p) 8).length=72:=oE (n:=9) (oF l x p) (k:=8) Dc
theorem PM{l:List UInt8}(hl:l.length=64){f:Nat→Nat}(h: ∀k,k<8→f k=aB l (8*k) 8):b8 64 (iL (fh 0 8 f 8)) (8*8)=l:=by
 refine List.ext_getElem (by rw[lL,hl]) λi h1 h2=>?_
 have hi:i<64:=by rw[lL] at h1;exact h1
 have e:(b8 64 (iL (fh 0 8 f 8)) (8*8)).getD i 0=l.getD i 0:=by
  rw[N2 hi,ALifp hi]
  unfold iL
  rw[Ee (show i/8<8 by omega),ALifp Om,h _ Om]
  have hv:=Pf (xs:=l) (off:=8*(i/8)) (n:=8) (j:=i%8) Om
  rw[show 8*(i/8)+i%8=i by omega] at hv
  apply UInt8.toNat_inj.1
  rw[ZR,ZM,←hv]
 rw[Zz,Zz,ZE h1,ZE h2] at e
 exact e
theorem y1{l:List UInt8}{x:Int}{p:Bool}{r:List UInt8}(hr:r.length=72){k:Nat}(hk:k<8):jg (zD l r k) (zK l x p r k)≤dm 1 (bU 9 (fb l x p) 8) r:=by
 rw[←ED hk];exact sN (EK l x p) hr hk
theorem PN{l:List UInt8}{x:Int}{p:Bool}{r:List UInt8}(hr:r.length=72){m:Nat}(h:dm 1 (bU 9 (fb l x p) 8) r=m+1): ∃k,k<8∧jg (zD l r k) (zK l x p r k)=m+1:=by
 have h1: ¬dm 1 (bU 9 (fb l x p) 8) r≤m:=by omega
 rw[sM (EK l x p) hr] at h1
 simp only[Classical.not_forall] at h1
 obtain⟨k,hk,h2⟩:=h1
 have h3:=y1 (l:=l) (x:=x) (p:=p) hr hk
 rw[ED hk] at h2
 exact⟨k,hk,by omega⟩
theorem PO{l:List UInt8}(hl:l.length=64){x:Int}{r:List UInt8}(hr:r.length=72)(h:dm 1 (bU 9 (fb l x false) 8) r≤1):
  pA r x=l∧jK ((ZD 8).map (dK r x))=(dm 1 (bU 9 (fb l x false) 8) r:Int)∧(decide (0<gN ((ZD 8).map (dK r x)))=((dm 1 (bU 9 (fb l x false) 8) r:Int)==1)):=by
 have hw:=λk (hk:k<8)=>PG (Nat.le_trans (y1 (l:=l) (x:=x) (p:=false) hr hk) h)
 have hj:=EJ (f:=dK r x) (c:=λk=>jg (zD l r k) (zK l x false r k)) (n:=8) (e:=dm 1 (bU 9 (fb l x false) 8) r) (λk hk=>(hw k hk).1) (λk hk=>y1 hr hk) h λh1=>PN hr h1
 refine⟨?_,hj⟩
 unfold pA
 rw[hj.1,bj Om,ALcf]
 exact PM hl λk hk=>(hw k hk).2
end Go.Proofs.YtbcodenfkijdnaaGreat.E
namespace Go.Proofs.YtbcodenfkijdnaaGreat
open Go Go.RowKit Go.Shelf
open List renaming getD_eq_getElem?_getD→Zz,length_append→ZB,append_assoc→ZC
open UInt8 renaming zero_xor→ZA,xor_zero→ZD
theorem oG{x y:List UInt8}{i:Nat}(h:i<x.length):co (x++y) i=x.getD i 0:=by
 unfold co
 rw[Zz,Zz,List.getElem?_append_left h]
theorem vA{x y:List UInt8}{n i:Nat}(h:x.length=n):co (x++y) (n+i)=y.getD i 0:=by
 unfold co
 rw[Zz,Zz,List.getElem?_append_right Om,←h,Nat.add_sub_cancel_left]
def ir(d v:List UInt8):List UInt8:=iq d v++d
theorem qA(d v:List UInt8)(hd:d.length=32):(ir d v).length=36:=by unfold ir;rw[ZB,iJ,hd]
theorem PP{l m:List Nat}(hn:l.Nodup)(h: ∀x∈l,x∈m):l.length≤m.length:=by
 induction l generalizing m with
 | nil=>exact Nat.zero_le _
 | cons a l ih=>
  obtain⟨h1,h2⟩:=List.nodup_cons.1 hn
  have ha:=h a (List.mem_cons_self ..)
  have:=ih h2 (m:=m.erase a) λx hx=>(List.mem_erase_of_ne (λ(e:x=a)=>h1 (by rw[←e];exact hx))).2 (h x (List.mem_cons_of_mem _ hx))
  rw[List.length_erase_of_mem ha] at this
  have:=List.length_pos_of_mem ha
  rw[List.length_cons]
  omega
theorem y2{e:Nat→UInt8}{n i:Nat}:i∈kP e n↔i<n∧e i≠0:=by
 unfold kP
 rw[List.mem_filter,List.mem_range,bne_iff_ne]
theorem PQ{n k:Nat}{f:Nat→UInt8}(hk:k<n)(h: ∀i,i<n→i≠k→f i=0):xs n f=f k:=by
 induction n with
 | zero=>omega
 | succ n ih=>
  rw[qt]
  by_cases e:k=n
  ·subst e
   rw[mQ λi hi=>h i Om Om,ZA]
  ·rw[ih Om λi hi hne=>h i Om hne,h n Om Om,ZD]
def Sy(f:Nat→UInt8)(j:Nat):UInt8:=xs 39 λi=>gm (f i) (pw (pw 2 j) i)
theorem EL{f g:Nat→UInt8}(h: ∀i,i<39→f i=g i)(j:Nat):Sy f j=Sy g j:=kN λi hi=>by rw[h i hi]
theorem PR(f g:Nat→UInt8)(j:Nat):Sy (λi=>f i^^^g i) j=Sy f j^^^Sy g j:=by
 unfold Sy
 rw[←vb]
 exact kN λi _=>u7 _ _ _
def one(k:Nat)(a:UInt8)(i:Nat):UInt8:=if i=k then a else 0
theorem PS{k:Nat}(hk:k<39)(a:UInt8)(j:Nat):Sy (one k a) j=gm a (pw (pw 2 j) k):=by
 unfold Sy
 rw[PQ hk λi _ hne=>by rw[show one k a i=0 from ALifn hne,jd],show one k a k=a from ALifp rfl]
theorem PT{w v:List UInt8}(h:(w++v).length=39)(j:Nat):qu w v j=Sy (co (w++v)) j:=by
 unfold qu fq
 rw[h]
 rfl
theorem PU(w v:List UInt8){j:Nat}(hj:j<4):co (aT w v) j=qu w v j:=by unfold aT;rw[lJ,ALifp hj]
theorem PV(n:Nat):pw 1 n=1:=by
 induction n with
 | zero=>rfl
 | succ n ih=>rw[pw,ih,qp]
theorem y4(k:Nat):pw (pw 2 0) k=1:=PV k
theorem y7(j k:Nat):pw (pw 2 (j+1)) k=gm (pw (pw 2 j) k) (pw 2 k):=by rw[DC,pw,DC]
theorem EM{s:Nat→UInt8}{a:UInt8}{k:Nat}(ha:a≠0)(h: ∀j,j<4→s j=gm a (pw (pw 2 j) k)):hit s k=true:=by
 rw[pu,h 0 Om,h 1 Om,h 2 Om,h 3 Om,y4,qp]
 refine⟨ha,?_,?_,?_⟩
 ·rw[y7 0,y4,Da]
 ·rw[y7 1,nG]
 ·rw[y7 2,nG]
theorem PW{s:Nat→UInt8}{a:UInt8}{k:Nat}(hk:k<39)(h: ∀j,j<4→s j=gm a (pw (pw 2 j) k)):
  eb s=if a=0 then⟨0, -1,0⟩ else if 35<k then⟨2,k,a⟩ else⟨1,k,a⟩:=by
 by_cases ha:a=0
 ·rw[ALifp ha]
  have h0: ∀j,j<4→s j=0:=λj hj=>by rw[h j hj,ha,jd]
  exact yB ⟨h0 0 Om,h0 1 Om,h0 2 Om,h0 3 Om⟩
 ·rw[ALifn ha]
  have h0:s 0=a:=by rw[h 0 Om,y4,qp]
  by_cases hk2:35<k
  ·rw[ALifp hk2,DK hk2 hk (EM ha h),h0]
  ·rw[ALifn hk2,DJ Om (EM ha h),h0]
def oo(f:Nat→UInt8):Prop:=∀j,j<4→Sy f j=0
theorem PX(d v:List UInt8)(hd:d.length=32)(i:Nat):co (ir d v++v) i=co (pv d v) i^^^co (kR d v) i:=by
 have hm:=yD d v
 unfold ir pv
 rw[ZC,ZC]
 by_cases h:i<4
 ·rw[oG (by rw[iJ];omega),oG (by simpa using h)]
  have e1:(List.replicate 4 (0:UInt8)).getD i 0=0:=by rw[Zz,List.getElem?_replicate,ALifp h];rfl
  rw[e1,ZA]
  show co (iq d v) i=_
  unfold iq
  rw[lJ,ALifp h]
 ·obtain⟨t,rfl⟩: ∃t,i=4+t:=⟨i-4,by omega⟩
  rw[vA (iJ d v),vA (List.length_replicate),gj (p:=kR d v) Om,ZD]
theorem PY(j:Nat)(hj:j<4):fq cE (pw 2 j)=0:=by
 rw[DN]
 revert j
 decide+kernel
theorem PZ(d v:List UInt8)(hd:d.length=32)(hv:v.length=3):(ir d v++v).length=39:=by rw[ZB,qA d v hd,hv]
theorem P0(d v:List UInt8)(hd:d.length=32)(hv:v.length=3):oo (co (ir d v++v)):=by
 intro j hj
 have e:Sy (co (ir d v++v)) j=fq (ir d v++v) (pw 2 j):=by
  unfold fq
  rw[PZ d v hd hv]
  rfl
 rw[e,Mq (q:=sG (pv d v) (kR d v)) _ λi=>by rw[yx];exact PX d v hd i,Mr]
 have:=MC (p:=pv d v) (q:=cE) (t:=gi (co cE (a7 cE-1))) (by rw[px];omega) (DO (ox cE (t:=a7 cE-1) (by rw[px]))) (PY j hj)
 rw[show fq (kR d v) (pw 2 j)=fq (pv d v) (pw 2 j) from this,UInt8.xor_self]
theorem P1(d v w u:List UInt8)(e:Nat→UInt8)(hd:d.length=32)(hv:v.length=3)(hl:(w++u).length=39)(h: ∀i,i<39→co (w++u) i=co (ir d v++v) i^^^e i):eb (co (aT w u))=eb (Sy e):=by
 refine Ng λj hj=>?_
 rw[PU _ _ hj,PT hl,EL h,PR,P0 d v hd hv j hj,ZA]
end Go.Proofs.YtbcodenfkijdnaaGreat
namespace Go.Proofs.YtbcodenfkijdnaaGreat.E
open Go Go.RowKit Go.Shelf
open UInt8 renaming xor_self→Zz,xor_assoc→ZE,zero_xor→ZG
open Classical renaming byContradiction→ZA
open List renaming getD_eq_getElem?_getD→ZB,length_append→ZC,length_drop→ZD,length_set→ZH,append_nil→ZI
open Bool renaming and_eq_true→ZF
def jh(l:List UInt8)(k:Nat):List UInt8:=(l.drop (32*k)).take 32
theorem qB{l:List UInt8}(hl:l.length=64){k:Nat}(hk:k<2):(jh l k).length=32:=by unfold jh;rw[List.length_take,ZD];omega
theorem P2{l:List UInt8}{x:Int}{p:Bool}{k:Nat}(hk:k<2):eJ l x p k=ir (jh l k) (ci x p):=Ej hk
theorem y8{l:List UInt8}(hl:l.length=64)(x:Int)(p:Bool):(bU 36 (eJ l x p) 2).length=72:=oE (n:=36) (pC hl x p) (k:=2) Dc
def eC(l:List UInt8)(x:Int)(p:Bool)(r:List UInt8)(y:Int)(q:Bool)(k i:Nat):UInt8:=Go.Proofs.YtbcodenfkijdnaaGreat.co (je r k++ci y q) i^^^Go.Proofs.YtbcodenfkijdnaaGreat.co (ir (jh l k) (ci x p)++ci x p) i
theorem vB(e:Nat→UInt8)(n:Nat):(kP e n).length=cp (λi=>if e i=0 then 0 else 1) n:=by
 induction n with
 | zero=>rfl
 | succ n ih=>
  rw[Nf,ZC,ih,cp]
  by_cases h:e n=0
  ·rw[ALifp h,h];rfl
  ·rw[ALifn h,ALifp (bne_iff_ne.2 h)];rfl
theorem vC{a b:UInt8}:a^^^b=0↔b=a:=UInt8.xor_eq_zero_iff.trans eq_comm
theorem EN{l:List UInt8}(hl:l.length=64)(x:Int)(p:Bool){r:List UInt8}(hr:r.length=72)(y:Int)(q:Bool){k:Nat}(hk:k<2):wC 2 (bU 36 (eJ l x p) 2) r k=(kP (eC l x p r y q k) 36).length:=by
 rw[vB]
 have h1:wC 2 (bU 36 (eJ l x p) 2) r k=cp (λj=>dk 2 ((bU 36 (eJ l x p) 2).getD (36*k+j) 0) (r.getD (36*k+j) 0)) 36:=rfl
 rw[h1]
 refine yU 36 λj hj=>?_
 have hw:=nM hr hk
 unfold eC dk
 rw[ALifn Dc,oG Om,oG (by rw[qA _ _ (qB hl hk)];exact hj),yZ (pC hl x p) hk hj,Pw hj,P2 hk]
 by_cases h:(ir (jh l k) (ci x p)).getD j 0=r.getD (36*k+j) 0
 ·rw[ALifp h,ALifp (vC.2 h)]
 ·rw[ALifn h,ALifn λh2=>h (vC.1 h2)]
theorem EO{l:List UInt8}(hl:l.length=64)(x:Int)(p:Bool){r:List UInt8}(hr:r.length=72)(y:Int)(q:Bool){k:Nat}(hk:k<2)(t:Nat):eC l x p r y q k (36+t)=(ci y q).getD t 0^^^(ci x p).getD t 0:=by
 unfold eC
 rw[vA (nM hr hk),vA (qA _ _ (qB hl hk))]
theorem EP(e:Nat→UInt8):(kP e 39).length=(kP e 36).length+(if e 36=0 then 0 else 1)+(if e 37=0 then 0 else 1)+(if e 38=0 then 0 else 1):=by
 rw[vB,vB];rfl
theorem EQ{l:List UInt8}(hl:l.length=64)(x:Int)(p:Bool){r:List UInt8}(hr:r.length=72)(y:Int)(q:Bool){k:Nat}(hk:k<2):eb (Go.Proofs.YtbcodenfkijdnaaGreat.co (aT (je r k) (ci y q)))=eb (Sy (eC l x p r y q k)):=by
 refine P1 (jh l k) (ci x p) _ _ _ (qB hl hk) (lM x p) (by rw[ZC,nM hr hk,lM]) λi hi=>?_
 unfold eC
 rw[UInt8.xor_comm (Go.Proofs.YtbcodenfkijdnaaGreat.co (je r k++ci y q) i),←ZE,Zz,ZG]
theorem P3{e:Nat→UInt8}(h:(kP e 39).length=0):eb (Sy e)=⟨0, -1,0⟩:=by
 have h1: ∀i,i<39→e i=0:=λi hi=>ZA λhn=>by
  have:=List.eq_nil_of_length_eq_zero h
  have h2:=y2.2 ⟨hi,hn⟩
  rw[this] at h2
  exact absurd h2 List.not_mem_nil
 have h2: ∀j,Sy e j=0:=λj=>mQ λi hi=>by rw[h1 i hi,jd]
 exact yB ⟨h2 0,h2 1,h2 2,h2 3⟩
theorem P4{e:Nat→UInt8}{n:Nat}(h:(kP e n).length=1): ∃k,k<n∧e k≠0∧∀i,i<n→i≠k→e i=0:=by
 obtain⟨k,hk⟩:=List.length_eq_one_iff.1 h
 obtain⟨h1,h2⟩:=y2.1 (show k∈kP e n by rw[hk];exact List.mem_singleton.2 rfl)
 refine⟨k,h1,h2,λi hi hne=>ZA λhn=>hne ?_⟩
 have h3:=y2.2 ⟨hi,hn⟩
 rw[hk] at h3
 exact List.mem_singleton.1 h3
theorem P5{e:Nat→UInt8}{k:Nat}(hk:k<39)(h:e k≠0)(ho: ∀i,i<39→i≠k→e i=0):eb (Sy e)=if 35<k then⟨2,k,e k⟩ else⟨1,k,e k⟩:=by
 have h1:=PW (s:=Sy e) (a:=e k) hk λj _=>by
  rw[←PS hk]
  refine EL (λi hi=>?_) j
  unfold one
  by_cases he:i=k
  ·rw[ALifp he,he]
  ·rw[ALifn he,ho i hi he]
 rw[h1,ALifn h]
theorem y9{r:List UInt8}{y:Int}{k kd:Nat}{pl:Int}{a:UInt8}(h:eb (Go.Proofs.YtbcodenfkijdnaaGreat.co (aT (je r k) (ci y false)))=⟨kd,pl,a⟩):cK r y k=if kd=0 then 0 else if kd=1 then 1 else if kd=2∧pl=38∧a=128 then 2 else 3:=by
 unfold cK nJ pz fI c6 fa
 rw[h]
 show(bif ((kd:Nat):Int)==0 then 0 else(bif ((kd:Nat):Int)==1 then 1 else(bif ((((kd:Nat):Int)==2)&&(pl==38))&&((a.toNat:Int)==128) then 2 else 3)))=(_:Int)
 by_cases h0:kd=0
 ·subst h0;rfl
 by_cases h1:kd=1
 ·subst h1;rfl
 rw[ALifn h0,ALifn h1]
 have c0:(((kd:Nat):Int)==0)=false:=by rw[dp];omega
 have c1:(((kd:Nat):Int)==1)=false:=by rw[dp];omega
 rw[c0,c1,ALcf,ALcf]
 by_cases h2:kd=2∧pl=38∧a=128
 ·obtain⟨rfl,rfl,rfl⟩:=h2;rfl
 ·rw[ALifn h2]
  have c2:((((kd:Nat):Int)==2)&&(pl==38)&&((a.toNat:Int)==128))=false:=by
   apply Bool.eq_false_iff.2
   intro hc
   rw[ZF,ZF,beq_iff_eq,beq_iff_eq,beq_iff_eq] at hc
   exact h2 ⟨by omega,hc.1.2,UInt8.toNat_inj.1 (by show a.toNat=128;omega)⟩
  rw[c2,ALcf]
theorem P6(r:List UInt8)(y:Int)(k:Nat):cK r y k≤3:=by
 obtain⟨⟨kd,pl,a⟩,h⟩: ∃V,eb (Go.Proofs.YtbcodenfkijdnaaGreat.co (aT (je r k) (ci y false)))=V:=⟨_,rfl⟩
 rw[y9 h]
 split
 ·decide
 ·split
  ·decide
  ·split<;>decide
theorem P7{d v:List UInt8}{kd:Nat}{pl:Int}{a:UInt8}(h:eb (Go.Proofs.YtbcodenfkijdnaaGreat.co (aT d v))=⟨kd,pl,a⟩)(hk:kd≠1):gn d v=d.drop 4:=by
 unfold gn
 rw[h]
 have c1:(((kd:Nat):Int)==1)=false:=by rw[dp];omega
 show(bif ((kd:Nat):Int)==1 then _ else _)=_
 rw[c1,ALcf]
theorem P8{d v:List UInt8}{t:Nat}{a:UInt8}(h:eb (Go.Proofs.YtbcodenfkijdnaaGreat.co (aT d v))=⟨1,(t:Int),a⟩):gn d v=(d.set t (d.getD t 0^^^a)).drop 4:=by
 unfold gn
 rw[h]
 rfl
theorem ER(d v:List UInt8):(ir d v).drop 4=d:=by unfold ir;exact List.drop_left' (iJ d v)
theorem P9{l:List UInt8}(hl:l.length=64){x:Int}{r:List UInt8}(hr:r.length=72){k:Nat}(hk:k<2)(h:wC 2 (bU 36 (eJ l x false) 2) r k=0):cK r x k=0∧cW r x k=jh l k:=by
 have h36:=EN hl x false hr x false hk
 have hv:=EO hl x false hr x false hk
 have h39:=EP (eC l x false r x false k)
 rw[show(36:Nat)=36+0 from rfl,show(37:Nat)=36+1 from rfl,show(38:Nat)=36+2 from rfl,hv 0,hv 1,hv 2,Zz,Zz,Zz,ALifp rfl,←h36,h] at h39
 have hloc:=(EQ hl x false hr x false hk).trans (P3 h39)
 refine⟨by rw[y9 hloc];rfl,?_⟩
 unfold cW
 rw[P7 hloc Dc]
 have he: ∀i,i<36→(je r k).getD i 0=(ir (jh l k) (ci x false)).getD i 0:=by
  intro i hi
  have h0:(kP (eC l x false r x false k) 36).length=0:=by rw[←h36,h]
  rw[vB] at h0
  have h1:=(yV 36).1 h0 i hi
  unfold eC at h1
  rw[oG (by rw[nM hr hk];exact hi),oG (by rw[qA _ _ (qB hl hk)];exact hi)] at h1
  by_cases e:(je r k).getD i 0^^^(ir (jh l k) (ci x false)).getD i 0=0
  ·exact(vC.1 e).symm
  ·rw[ALifn e] at h1;omega
 have hw:je r k=ir (jh l k) (ci x false):=pn (by rw[nM hr hk,qA _ _ (qB hl hk)]) λi hi=>he i (by rw[nM hr hk] at hi;exact hi)
 rw[hw,ER]
theorem Qa{l:List UInt8}(hl:l.length=64){x:Int}{r:List UInt8}(hr:r.length=72){k:Nat}(hk:k<2)(h:wC 2 (bU 36 (eJ l x false) 2) r k=1):cK r x k=1∧cW r x k=jh l k:=by
 have h36:=EN hl x false hr x false hk
 have hv:=EO hl x false hr x false hk
 have h39:=EP (eC l x false r x false k)
 rw[show(36:Nat)=36+0 from rfl,show(37:Nat)=36+1 from rfl,show(38:Nat)=36+2 from rfl,hv 0,hv 1,hv 2,Zz,Zz,Zz,ALifp rfl,←h36,h] at h39
 obtain⟨t,ht,e0,e1⟩:=P4 h39
 have ht36:t<36:=ZA λhn=>e0 (by
  have e:=hv (t-36)
  rw[show 36+(t-36)=t by omega,Zz] at e
  exact e)
 have hloc:=(EQ hl x false hr x false hk).trans (P5 ht e0 e1)
 rw[ALifn Om] at hloc
 refine⟨by rw[y9 hloc];rfl,?_⟩
 unfold cW
 rw[P8 hloc]
 have hwl:=nM hr hk
 have hol:=qA (jh l k) (ci x false) (qB hl hk)
 have hw:(je r k).set t ((je r k).getD t 0^^^eC l x false r x false k t)=ir (jh l k) (ci x false):=by
  refine pn (by rw[ZH,hwl,hol]) λi hi=>?_
  rw[ZH,hwl] at hi
  have hei:eC l x false r x false k i=(je r k).getD i 0^^^(ir (jh l k) (ci x false)).getD i 0:=by
   unfold eC
   rw[oG Om,oG Om]
  unfold Go.Proofs.YtbcodenfkijdnaaGreat.co
  rw[ZB,List.getElem?_set]
  by_cases e:t=i
  ·subst e
   rw[ALifp rfl,ALifp Om,Option.getD_some,hei,←ZE,Zz,ZG]
  ·rw[ALifn e,←ZB]
   have h2:=e1 i Om (λe2=>e e2.symm)
   rw[hei] at h2
   exact(vC.1 h2).symm
 rw[hw,ER]
theorem Qb{l:List UInt8}(hl:l.length=64){f:Nat→List UInt8}(h: ∀k,k<2→f k=jh l k):iM (fM f 2) 2=l:=by
 have e:fM f 2=l:=by
  show(f 0++(f 1++[]))++[]=l
  rw[ZI,ZI,h 0 Dc,h 1 Dc]
  unfold jh
  rw[show 32*0=0 from rfl,show 32*1=32 from rfl,List.drop_zero,List.take_of_length_le (l:=l.drop 32) (by rw[ZD];omega),List.take_append_drop]
 rw[e,yQ hl]
theorem Qc{l:List UInt8}(hl:l.length=64){x:Int}{p:Bool}{r:List UInt8}(hr:r.length=72){m:Nat}(h:dm 2 (bU 36 (eJ l x p) 2) r=m+1): ∃k,k<2∧wC 2 (bU 36 (eJ l x p) 2) r k=m+1:=by
 have h1: ¬dm 2 (bU 36 (eJ l x p) 2) r≤m:=by omega
 rw[sM (y8 hl x p) hr] at h1
 simp only[Classical.not_forall] at h1
 obtain⟨k,hk,h2⟩:=h1
 have h3:=sN (mode:=2) (y8 hl x p) hr hk
 exact⟨k,hk,by omega⟩
theorem ES{l:List UInt8}(hl:l.length=64)(x:Int)(p:Bool){r:List UInt8}(hr:r.length=72){k:Nat}(hk:k<2):wC 2 (bU 36 (eJ l x p) 2) r k≤dm 2 (bU 36 (eJ l x p) 2) r:=sN (mode:=2) (y8 hl x p) hr hk
theorem Qd{l:List UInt8}(hl:l.length=64){x:Int}{r:List UInt8}(hr:r.length=72)(h:dm 2 (bU 36 (eJ l x false) 2) r≤1):
  pB r x=l∧jK ((List.range 2).map (cK r x))=(dm 2 (bU 36 (eJ l x false) 2) r:Int)∧(decide (0<gN ((List.range 2).map (cK r x)))=((dm 2 (bU 36 (eJ l x false) 2) r:Int)==1)):=by
 have hw: ∀k,k<2→cK r x k=(wC 2 (bU 36 (eJ l x false) 2) r k:Int)∧cW r x k=jh l k:=by
  intro k hk
  have h1:=ES hl x false hr hk
  rcases(show wC 2 (bU 36 (eJ l x false) 2) r k=0∨wC 2 (bU 36 (eJ l x false) 2) r k=1 by omega) with h0 | h0
  ·rw[h0];exact P9 hl hr hk h0
  ·rw[h0];exact Qa hl hr hk h0
 have hj:=EJ (f:=cK r x) (c:=λk=>wC 2 (bU 36 (eJ l x false) 2) r k) (n:=2) (e:=dm 2 (bU 36 (eJ l x false) 2) r) (λk hk=>(hw k hk).1) (λk hk=>ES hl x false hr hk) h λh1=>Qc hl hr h1
 refine⟨?_,hj⟩
 unfold pB
 rw[hj.1,bj Om,ALcf]
 exact(yQ (vw (sJ hr x) (Nat.le_refl 2))).symm.trans (Qb hl λk hk=>by rw[Eg hk];exact(hw k hk).2)
end Go.Proofs.YtbcodenfkijdnaaGreat.E
namespace Go.Proofs.YtbcodenfkijdnaaGreat
open Go Go.ChangeShapes Go.WideShapes Go.RowKit Go.Deep
open List renaming getElem?_cons_zero→Zz,replicate→ZA,getElem?_eq_getElem→ZB,replicate_succ→ZC,length_append→ZD,length_drop→ZE,drop_drop→ZG
open Bool renaming and_eq_true→ZF
open Nat renaming succ_mul→ZH
inductive iO where
 | int (k:IntKind)
 | bool
def ET:iO→Value→Prop
 | .int k,v=>∃z:Int,v= .int k z∧(Lit.int k z).wf=true
 | .bool,v=>∃b:Bool,v= .bool b
def pE(P:Program)(r:TypeId→Option (List iO)):Nat→List Field→Option (List iO)
 | _,[]=>some []
 | off,f::fs=>match r f.type with
  | none=>none
  | some l=>if f.offset==off&&P.cellsOf f.type==l.length then(pE P r (off+l.length) fs).map λm=>l++m else none
def nO(P:Program):Nat→TypeId→Option (List iO)
 | 0,_=>none
 | n+1,t=>match P.underlying t with
  | some .bool=>some [.bool]
  | some (.int k)=>some [.int k]
  | some (.struct fs)=>match pE P (nO P n) 0 fs.toList with
   | some l=>if P.cellsOf t==l.length then some l else none
   | none=>none
  | some (.array m e)=>match nO P n e with
   | some l=>if P.cellsOf e==l.length&&P.cellsOf t==m*l.length then some (ZA m l).flatten else none
   | none=>none
  | _=>none
def eq(ls:List iO)(cs:List Value):Prop:=cs.length=ls.length∧∀(i:Nat) (lf:iO),ls[i]? =some lf→∃v,cs[i]? =some v∧ET lf v
theorem eq.append{l m:List iO}{cs:List Value}{k:Nat}(hk:k=l.length)(h1:eq l (cs.take k))(h2:eq m (cs.drop k)):eq (l++m) cs:=by
 subst hk
 obtain⟨a1,a2⟩:=h1
 obtain⟨b1,b2⟩:=h2
 rw[List.length_take] at a1
 rw[ZE] at b1
 refine⟨by rw[ZD];omega,λi lf h=>?_⟩
 rcases Nat.lt_or_ge i l.length with hi | hi
 ·rw[List.getElem?_append_left hi] at h
  obtain⟨v,e1,e2⟩:=a2 i lf h
  rw[List.getElem?_take_of_lt hi] at e1
  exact⟨v,e1,e2⟩
 ·rw[List.getElem?_append_right hi] at h
  obtain⟨v,e1,e2⟩:=b2 _ lf h
  rw[List.getElem?_drop,show l.length+(i-l.length)=i by omega] at e1
  exact⟨v,e1,e2⟩
section
variable {H:Type} {enc:TypeId×Value→H} {P:Program} {w:World} {base:Nat} {spare:Nat→Bool} {held:Bool}
theorem EU{r:TypeId→Option (List iO)}{m:Nat}(hr: ∀t ls cs x,r t=some ls→DataW.trod enc P w base spare held m t cs=some x→eq ls cs):
  ∀(fs:List Field) (off:Nat) (ls:List iO) (cs:List Value),pE P r off fs=some ls→off+ls.length=cs.length→
   (∀(i:Nat) (f:Field),fs[i]? =some f→∃x,DataW.trod enc P w base spare held m f.type ((cs.drop f.offset).take (P.cellsOf f.type))=some x)→eq ls (cs.drop off)
 | [],off,ls,cs,h,hl,_=>by
  simp only[pE,Option.some.injEq] at h
  subst h
  exact⟨by simp at hl⊢;omega,λi lf h=>by simp at h⟩
 | f::fs,off,ls,cs,h,hl,hf=>by
  unfold pE at h
  cases hrf:r f.type with
  | none=>rw[hrf] at h;cases h
  | some l=>
   rw[hrf] at h
   simp only at h
   split at h
   ·rename_i hc
    simp only[ZF,beq_iff_eq] at hc
    cases hs:pE P r (off+l.length) fs with
    | none=>rw[hs] at h;cases h
    | some m'=>
     rw[hs] at h
     simp only[Option.map_some,Option.some.injEq] at h
     subst h
     rw[ZD] at hl
     obtain⟨x,hx⟩:=hf 0 f rfl
     rw[hc.1,hc.2] at hx
     have h1:=hr _ _ _ _ hrf hx
     have h2:=EU hr fs (off+l.length) m' cs hs Om λi g hg=>hf (i+1) g (by simpa using hg)
     exact eq.append rfl h1 (by rw[ZG];exact h2)
   ·cases h
theorem EV{r:List Value→Prop}{l:List iO}(hr: ∀cs,r cs→eq l cs): ∀(m:Nat) (cs:List Value),cs.length=m*l.length→(∀i,i<m→r ((cs.drop (i*l.length)).take l.length))→eq (ZA m l).flatten cs
 | 0,cs,h,_=>by
  have:cs=[]:=List.eq_nil_of_length_eq_zero Om
  subst this
  exact⟨rfl,λi lf h=>by simp at h⟩
 | m+1,cs,h,hi=>by
  rw[ZC,List.flatten_cons]
  have h1:=hr _ (hi 0 Om)
  rw[Nat.zero_mul,List.drop_zero] at h1
  refine eq.append rfl h1 (EV hr m _ (by rw[ZE,h,ZH];omega) λi h2=>?_)
  have h3:=hi (i+1) Om
  rw[ZG]
  rwa [show(i+1)*l.length=l.length+i*l.length by rw[ZH];omega] at h3
theorem vD: ∀(n:Nat) (t:TypeId) (ls:List iO) (fuel:Nat) (cs:List Value) (x:DataW H×List MemPlace),nO P n t=some ls→DataW.trod enc P w base spare held fuel t cs=some x→eq ls cs
 | 0,_,_,_,_,_,h,_=>by simp [nO] at h
 | n+1,t,ls,fuel,cs,x,h,hx=>by
  unfold nO at h
  cases hu:P.underlying t with
  | none=>rw[hu] at h;cases h
  | some d=>
   rw[hu] at h
   cases d with
   | bool=>
    simp only[Option.some.injEq] at h
    subst h
    obtain⟨b,rfl,_⟩:=DataW.trod_bool hu hx
    exact⟨rfl,λi lf h=>by
     cases i with
     | zero=>simp only[Zz,Option.some.injEq] at h;subst h;exact⟨_,rfl,b,rfl⟩
     | succ i=>simp at h⟩
   | int k=>
    simp only[Option.some.injEq] at h
    subst h
    obtain⟨z,rfl,_,hz⟩:=DataW.trod_int hu hx
    exact⟨rfl,λi lf h=>by
     cases i with
     | zero=>simp only[Zz,Option.some.injEq] at h;subst h;exact⟨_,rfl,z,rfl,hz⟩
     | succ i=>simp at h⟩
   | struct fs=>
    simp only at h
    cases hs:pE P (nO P n) 0 fs.toList with
    | none=>rw[hs] at h;cases h
    | some l=>
     rw[hs] at h
     simp only at h
     split at h
     ·rename_i hc
      rw[beq_iff_eq] at hc
      cases h
      obtain⟨xs,m,_,_,hl,hxl,hel⟩:=DataW.trod_struct hu hx
      have:=EU (m:=m) (λt ls cs x h1 h2=>vD n t ls m cs x h1 h2) fs.toList 0 ls cs hs Om λi f hf=>by
       have h1:=hel i f (by simpa using hf)
       have hi:i<xs.length:=by rw[hxl];have:=(List.getElem?_eq_some_iff.1 hf).1;simpa using this
       exact⟨xs[i],by rw[h1,ZB hi]⟩
      simpa using this
     ·cases h
   | array m e=>
    simp only at h
    cases hs:nO P n e with
    | none=>rw[hs] at h;cases h
    | some l=>
     rw[hs] at h
     simp only at h
     split at h
     ·rename_i hc
      simp only[ZF,beq_iff_eq] at hc
      cases h
      obtain⟨xs,m',_,_,hl,hxl,hel⟩:=DataW.trod_array hu hx
      refine EV (r:=λcs=>∃x,DataW.trod enc P w base spare held m' e cs=some x) (λcs ⟨x,h⟩=>vD n e l m' cs x hs h) m cs Om λi hi=>?_
      have h1:=hel i hi
      rw[hc.1] at h1
      exact⟨xs[i]'Om,by rw[h1,ZB Om]⟩
     ·cases h
   | _=>simp at h
theorem Qe{t:TypeId}{v:Value}{d:DataW H}{p:List MemPlace}(n:Nat){ls:List iO}(hl:nO P n t=some ls)(hag: ∃cs,v= .agg cs)(h:DataW.Trod enc P w base spare held t v d p): ∃cs:List Value,v= .agg cs.toArray∧eq ls cs:=by
 obtain⟨cs,rfl⟩:=hag
 obtain⟨fuel,hf⟩:=h
 exact⟨cs.toList,by simp,vD n t ls fuel _ _ hl hf⟩
theorem Qf{r:Reach}{b0:Nat}{t:TypeId}{v:Value}{d:TypeDesc}(ht:P.underlying t=some d)(hd:(match d with | .struct _ | .array _ _=>true | _=>false)=true)(h:Value.okWide P w r b0 t v): ∃cs,v= .agg cs:=by
 simp only[Value.okWide,ht] at h
 cases d<;>simp at hd
 ·obtain⟨cs,h1,_⟩:=h;exact⟨cs,h1⟩
 ·obtain⟨cs,h1,_⟩:=h;exact⟨cs,h1⟩
end
theorem Qg{z:Int}(h:(Lit.int .i64 z).wf=true): -9223372036854775808≤z∧z≤9223372036854775807:=by
 have:=bounds_i64 h
 omega
theorem vE: ∀(n:Nat) (cs:List Value),eq (ZA n (.int .i64)) cs→∃zs:List Int,zs.length=n∧cs=zs.map (λz=>Value.int .i64 z)∧∀z∈zs, -9223372036854775808≤z∧z≤9223372036854775807
 | 0,cs,h=>⟨[],rfl,by have:=h.1;simp at this;simpa using this,by simp⟩
 | n+1,cs,h=>by
  obtain⟨h1,h2⟩:=h
  cases cs with
  | nil=>simp at h1
  | cons c cs=>
   obtain⟨v,e1,z,e2,e3⟩:=h2 0 (.int .i64) (by simp)
   obtain⟨zs,e4,e5,e6⟩:=vE n cs ⟨by simpa using h1,λi lf hi=>by simpa using h2 (i+1) lf (by rw[ZC,List.getElem?_cons_succ];exact hi)⟩
   simp only[Zz,Option.some.injEq] at e1
   subst e1
   subst e2
   refine⟨z::zs,by simp [e4],by simp [e5],λy hy=>?_⟩
   rcases List.mem_cons.1 hy with rfl | hy
   ·exact Qg e3
   ·exact e6 y hy
end Go.Proofs.YtbcodenfkijdnaaGreat
namespace Go.Proofs.YtbcodenfkijdnaaGreat
open Go Go.ChangeShapes Go.WideShapes Go.RowKit Go.Deep
open List renaming getElem?_eq_getElem→Zz
open Go.World renaming cells?_some→ZA
def pF(n:Nat)(w:World)(A:Option Addr)(rows:List (List Value)):Prop:=
 ∀(i:Nat) (r:List Value),rows[i]? =some r→r.length=n∧∃b o,A=some ⟨b,o,none⟩∧b<w.heap.size∧∀(j:Nat) (v:Value),r[j]? =some v→w.cell? ⟨b,o+i*n+j,none⟩=some v
section
variable {n:Nat} {w w':World} {A:Option Addr} {rows:List (List Value)}
theorem pF.nil:pF n w A []:=λi r h=>by simp at h
end
section
variable {P:Program} {w:World} {b off:Nat}
end
section
variable {P:Program} {w:World} {o:Oper} {ρ:Operand→Value}
end
section
variable {H:Type} {enc:TypeId×Value→H} {P:Program} {w:World} {base:Nat} {spare:Nat→Bool} {held:Bool}
theorem Qh{t e:TypeId}{A:Option Addr}{len cap:Nat}{d:DataW H}{p:List MemPlace}(n:Nat){ls:List iO}(hl:nO P n e=some ls)(hn:P.cellsOf e=ls.length)(h0:0<ls.length)(ht:P.underlying t=some (.slice e))
  (h:DataW.Trod enc P w base spare held t (.slice A len cap) d p): ∃rows:List (List Value),rows.length=len∧(∀r∈rows,eq ls r)∧pF ls.length w A rows∧len≤cap∧cap≤maxLen:=by
 obtain⟨fuel,hf⟩:=h
 rcases open_slice ht hf with⟨hcs,_⟩ | ⟨a,l,c,m,n',D,Pl,hcs,_,hl1,hm,hmm,_,hx⟩
 ·simp [Value.cells] at hcs
  obtain⟨rfl,rfl,rfl⟩:=hcs
  exact⟨[],rfl,by simp,pF.nil,Nat.le_refl _,Nat.zero_le _⟩
 ·simp [Value.cells] at hcs
  obtain⟨rfl,rfl,rfl⟩:=hcs
  have hlm:len≤m:=by rw[hmm];split<;>omega
  obtain⟨f,hfx⟩:=choose_lt (α:=List Value) (n:=len) (p:=λi cs=>w.cells? base (a.add (i*P.cellsOf e)) (P.cellsOf e)=some cs∧eq ls cs) λi hi=>by
   obtain⟨cs',h1,h2⟩:=hx i Om
   exact⟨cs',h1,vD n e ls n' cs' _ hl h2⟩
  refine⟨(List.range len).map f,by simp,λr hr=>?_,λi r hr=>?_,hl1,hm⟩
  ·obtain⟨i,hi,rfl⟩:=List.mem_map.1 hr
   exact(hfx i (List.mem_range.1 hi)).2
  ·have hi:i<len:=by have:=(List.getElem?_eq_some_iff.1 hr).1;simpa using this
   rw[List.getElem?_map,List.getElem?_range hi] at hr
   simp only[Option.map_some,Option.some.injEq] at hr
   subst hr
   obtain⟨h1,h2⟩:=hfx i hi
   obtain⟨_,h3,h4⟩:=ZA h1
   refine⟨h2.1,?_⟩
   obtain⟨b,o,spot⟩:=a
   have hc0:=h4 0 Om
   have hf0:(f i)[0]? =some ((f i)[0]'Om):=Zz Om
   rw[hf0] at hc0
   have hspot:spot=none:=by
    obtain⟨z1,z2⟩:=hfx 0 Om
    have hz0:=(ZA z1).2.2 0 Om
    have hzl:=z2.1
    rw[Zz (show 0<(f 0).length by omega)] at hz0
    have:=World.cell?_spot hz0
    simpa [Addr.add] using this
   subst hspot
   have hadd: ∀(x y:Nat),((⟨b,o,none⟩:Addr).add x).add y=⟨b,o+x+y,none⟩:=λx y=>by
    unfold Addr.add
    split<;>split<;>simp_all
   refine⟨b,o,rfl,?_,λj v hv=>?_⟩
   ·rcases Nat.lt_or_ge b w.heap.size with hlt | hge
    ·exact hlt
    ·exfalso
     rw[hadd] at hc0
     simp [World.cell?,Array.getElem?_eq_none hge] at hc0
   ·have hj:j<P.cellsOf e:=by have:=(List.getElem?_eq_some_iff.1 hv).1;omega
    have:=h4 j hj
    rw[hadd,hn] at this
    rw[this,hv]
end
end Go.Proofs.YtbcodenfkijdnaaGreat
namespace Go.Proofs.YtbcodenfkijdnaaGreat.E
open Go Go.RowKit Go.Shelf
open Bool renaming and_eq_true→Zz
open Nat renaming mul_le_mul_right→ZA,le_trans→ZD,mul_le_mul→ZE,mul_assoc→ZH,le_mul_of_pos_left→ZJ,le_add_right→ZL
open Int renaming toNat_of_nonneg→ZB,natCast_mul→ZF
open List renaming getElem?_eq_getElem→ZC,getElem?_take_of_lt→ZG,getElem?_eq_none→ZI,getElem?_drop→ZK
theorem Qi{w:World}{b o:Nat}{v:Value}(h:w.cell? ⟨b,o,none⟩=some v): ∃cs t fr,w.heap[b]? =some (.cells cs t fr):=by
 unfold World.cell? at h
 cases hb:w.heap[b]? with
 | none=>simp [hb] at h
 | some x=>
  cases x with
  | cells cs t fr=>exact⟨cs,t,fr,rfl⟩
  | _=>simp [hb] at h
theorem Qj{α:Type}{en:α→List Value}{k:Nat}(hk: ∀y,(en y).length=k){xs:List α}{i r:Nat}(hi:i<xs.length)(hr:r<k)(d:α):(aj en xs)[i*k+r]? =(en (xs.getD i d))[r]? :=by
 have h:=ALca (λl=>l[r]?) (uv (d:=d) hk hi)
 simp only[ZG hr,ZK] at h
 exact h
theorem Qk{α:Type}{en:α→List Value}{k:Nat}{w:World}{A:Option Addr}{n c:Nat}{xs:List α}(hk: ∀y,(en y).length=k)(h0:0<k)(h:pF k w A (xs.map en))(hn:xs.length=n): ∃bs,eF bs w∧dZ en (.slice A n c) xs bs:=by
 subst hn
 cases hx:xs with
 | nil=>exact⟨[],⟨λ_ h=>by simp at h,List.Pairwise.nil⟩,.inl ⟨rfl,A,c,rfl⟩⟩
 | cons x0 ys=>
  rw[←hx]
  have hpos:0<xs.length:=by rw[hx];exact Nat.zero_lt_succ _
  obtain⟨_,b,o,rfl,hlt,hc⟩:=h 0 (en x0) (by rw[hx];rfl)
  have hj: ∃v,(en x0)[0]? =some v:=⟨(en x0)[0]'(by rw[hk];exact h0),ZC _⟩
  obtain⟨v0,hv0⟩:=hj
  obtain⟨cs,t,fr,hb⟩:=Qi (hc 0 v0 hv0)
  refine⟨[(b,.cells cs t fr)],⟨λz hz=>by rw[List.mem_singleton.1 hz];exact hb,List.pairwise_singleton _ _⟩,.inr ⟨b,o,cs,t,fr,c,rfl,List.mem_singleton.2 rfl,?_⟩⟩
  have hL:(aj en xs).length=xs.length*k:=fY hk rfl
  have key: ∀j,j<xs.length*k→cs.toList[o+j]? =(aj en xs)[j]? :=by
   intro j hj
   have hi:j/k<xs.length:=Nat.div_lt_of_lt_mul (by rw[Nat.mul_comm];exact hj)
   have hr:j%k<k:=Nat.mod_lt _ h0
   have hd:j=j/k*k+j%k:=(Nat.div_add_mod' j k).symm
   obtain⟨_,b',o',he,_,hc'⟩:=h (j/k) (en (xs.getD (j/k) x0)) (by rw[List.getElem?_map,List.getD_eq_getElem?_getD,ZC hi];rfl)
   cases he
   have hv:(en (xs.getD (j/k) x0))[j%k]? =some ((en (xs.getD (j/k) x0))[j%k]'(by rw[hk];exact hr)):=ZC _
   have h1:=hc' (j%k) _ hv
   rw[cell_of_row w b _ cs t fr hb,←Array.getElem?_toList] at h1
   have h2:=Qj hk hi hr x0
   rw[←hd] at h2
   rw[h2,hv,←h1]
   congr 1
   omega
  rw[hL]
  apply List.ext_getElem?
  intro j
  by_cases hj:j<xs.length*k
  ·rw[ZG hj,ZK]
   exact key j hj
  ·rw[ZI (by rw[List.length_take];omega),ZI Om]
def dT(x:Int):Int:=IntKind.i64.wrap x
theorem EW{x:Int}(h0: -9223372036854775808≤x)(h1:x≤9223372036854775807):dT x=x:=IntWalk.i64_in _ Om
section
variable {P:Program} {T:TypeId} {x y:Operand} {w:World}
theorem Ql(a b:Int):(ar .and T x y (.int .i64 a) (.int .i64 b)).run P w= .ok (.int .i64 (bits .and .i64 a b)) w:=rfl
theorem Qm(a b:Int):(ar .add T x y (.int .i64 a) (.int .i64 b)).run P w= .ok (.int .i64 (dT (a+b))) w:=rfl
theorem EX(a b:Int):(ar .sub T x y (.int .i64 a) (.int .i64 b)).run P w= .ok (.int .i64 (dT (a-b))) w:=rfl
theorem zp(a b:Int):(ar .mul T x y (.int .i64 a) (.int .i64 b)).run P w= .ok (.int .i64 (dT (a*b))) w:=rfl
end
def fJ(n most:Int):Bool:=((decide (1≤n))&&(decide (n≤most)))&&((bits .and .i64 n (dT (n-1)))==0)
theorem mT{n most:Int}(h:fJ n most=true):1≤n∧n≤most:=by
 unfold fJ at h
 simp only[Zz,decide_eq_true_eq] at h
 exact h.1
theorem Qn: ∀n:Nat,n<1025→fJ (n:Int) 1024=true→n∈[1,2,4,8,16,32,64,128,256,512,1024]:=by decide+kernel
theorem EY{n:Nat}{most:Int}(hm:most≤1024)(h:fJ (n:Int) most=true):n∈[1,2,4,8,16,32,64,128,256,512,1024]:=by
 have h1:=mT h
 refine Qn n Om ?_
 unfold fJ at h⊢
 simp only[Zz,decide_eq_true_eq] at h⊢
 exact⟨⟨h.1.1,by omega⟩,h.2⟩
def jx(r s b m c:Int):Bool:=((((((fJ r 8)&&(decide (0≤s)))&&(decide (s≤(dT (8-r)))))&&(fJ b 16))&&(fJ m 1024))&&(fJ c 64))&&(decide ((dT (dT (dT (dT (r+s)*b)*m)*c))≤4096))
structure cM (R S B M C:Nat):Prop where
 ok:jx R S B M C=true
structure Zs (R S B M C:Nat):Prop where
 r1:1≤R
 r8:R+S≤8
 b1:1≤B
 b16:B≤16
 m1:1≤M
 m10:M≤1024
 c1:1≤C
 c64:C≤64
 all:(R+S)*B*M*C≤4096
theorem EZ{r s b m c:Int}(h:jx r s b m c=true): ∃R S B M C:Nat,r=R∧s=S∧b=B∧m=M∧c=C∧cM R S B M C:=by
 have h0:=h
 unfold jx at h
 simp only[Zz,decide_eq_true_eq] at h
 obtain⟨⟨⟨⟨⟨⟨h1,h2⟩,h3⟩,h4⟩,h5⟩,h6⟩,h7⟩:=h
 have:=mT h1;have:=mT h4;have:=mT h5;have:=mT h6
 refine⟨r.toNat,s.toNat,b.toNat,m.toNat,c.toNat,by omega,by omega,by omega,by omega,by omega,⟨?_⟩⟩
 rw[ZB Om,ZB Om,ZB Om,ZB Om,ZB Om]
 exact h0
theorem cM.bd{R S B M C:Nat}(h:cM R S B M C):Zs R S B M C:=by
 have h:=h.ok
 unfold jx at h
 simp only[Zz,decide_eq_true_eq] at h
 obtain⟨⟨⟨⟨⟨⟨h1,h2⟩,h3⟩,h4⟩,h5⟩,h6⟩,h7⟩:=h
 have a1:=mT h1;have a2:=mT h4;have a3:=mT h5;have a4:=mT h6
 rw[EW Om Om] at h3
 have e8:R+S≤8:=by omega
 have e1:(R+S)*B≤8*16:=ZE e8 Om
 have e2:(R+S)*B*M≤128*1024:=ZE e1 Om
 have e3:(R+S)*B*M*C≤131072*64:=ZE e2 Om
 have nw: ∀x:Nat,x≤8388608→dT (x:Int)=(x:Int):=λx hx=>EW Om Om
 have w1:dT ((R:Int)+(S:Int))=((R+S:Nat):Int):=(nw (R+S) Om)
 have w2:dT (((R+S:Nat):Int)*(B:Int))=(((R+S)*B:Nat):Int):=by rw[←ZF];exact nw _ Om
 have w3:dT ((((R+S)*B:Nat):Int)*(M:Int))=(((R+S)*B*M:Nat):Int):=by rw[←ZF];exact nw _ Om
 have w4:dT ((((R+S)*B*M:Nat):Int)*(C:Int))=(((R+S)*B*M*C:Nat):Int):=by rw[←ZF];exact nw _ Om
 rw[w1,w2,w3,w4] at h7
 exact⟨by omega,e8,by omega,by omega,by omega,by omega,by omega,by omega,by omega⟩
theorem cM.pow{R S B M C:Nat}(h:cM R S B M C):B∈[1,2,4,8,16,32,64,128,256,512,1024]:=by
 have h:=h.ok
 unfold jx at h
 simp only[Zz,decide_eq_true_eq] at h
 obtain⟨⟨⟨⟨⟨⟨h1,h2⟩,h3⟩,h4⟩,h5⟩,h6⟩,h7⟩:=h
 exact EY Dc h4
section
variable {R S B M C:Nat} (h:Zs R S B M C)
theorem Zs.rb(h:Zs R S B M C):R*B≤128:=ZE (show R≤8 by have:=h.r8;omega) h.b16
theorem Zs.sbm(h:Zs R S B M C):(R+S)*B*M≤4096:=ZD (Nat.le_mul_of_pos_right _ h.c1) h.all
theorem Zs.rbm(h:Zs R S B M C):R*B*M≤4096:=ZD (ZA M (ZA B (ZL R S))) h.sbm
theorem Zs.rbmc(h:Zs R S B M C):R*B*M*C≤4096:=ZD (ZA C (ZA M (ZA B (ZL R S)))) h.all
theorem Zs.bm(h:Zs R S B M C):B*M≤4096:=by
 have h1:B*M≤R*(B*M):=ZJ _ h.r1
 rw[←ZH] at h1
 exact ZD h1 h.rbm
theorem Zs.bmc(h:Zs R S B M C):B*M*C≤4096:=by
 have h1:B*M*C≤R*(B*M*C):=ZJ _ h.r1
 rw[←ZH,←ZH] at h1
 exact ZD h1 h.rbmc
end
def bQ(i n:Int):Bool:=(decide (0≤i))&&(decide (i<n))
theorem mq{i n:Int}:bQ i n=true↔0≤i∧i<n:=by unfold bQ;simp
def hold(R S B M C:Nat)(p0 p1 p2 p3:Int):Bool:=(((bQ p0 ((R+S:Nat):Int))&&(bQ p1 (B:Int)))&&(bQ p2 (M:Int)))&&(bQ p3 (C:Int))
theorem vF{R S B M C:Nat}{p0 p1 p2 p3:Int}:hold R S B M C p0 p1 p2 p3=true↔(0≤p0∧p0<((R+S:Nat):Int))∧(0≤p1∧p1<(B:Int))∧(0≤p2∧p2<(M:Int))∧(0≤p3∧p3<(C:Int)):=by
 unfold hold
 rw[Zz,Zz,Zz,mq,mq,mq,mq]
 constructor
 ·rintro ⟨⟨⟨a,b⟩,c⟩,d⟩;exact⟨a,b,c,d⟩
 ·rintro ⟨a,b,c,d⟩;exact⟨⟨⟨a,b⟩,c⟩,d⟩
def dA(p0 p1 p2 p3:Int):Int:=p0*1048576+p1*65536+p2*64+p3
def gF(R S B M C:Nat)(i:Int):Bool:= !(decide (i<0)|| !(hold R S B M C (i/1048576) (i/65536%16) (i/64%1024) (i%64)))
theorem Qo{R S B M C:Nat}(hb:Zs R S B M C){p0 p1 p2 p3:Int}(h:hold R S B M C p0 p1 p2 p3=true):dA p0 p1 p2 p3/1048576=p0∧dA p0 p1 p2 p3/65536%16=p1∧dA p0 p1 p2 p3/64%1024=p2∧dA p0 p1 p2 p3%64=p3∧0≤dA p0 p1 p2 p3∧dA p0 p1 p2 p3<8388608:=by
 obtain⟨h0,h1,h2,h3⟩:=vF.1 h
 have:=hb.b16;have:=hb.m10;have:=hb.c64;have:=hb.r8
 unfold dA
 omega
end Go.Proofs.YtbcodenfkijdnaaGreat.E
namespace Go.Proofs.YtbcodenfkijdnaaGreat.E
open Go Go.RowKit Go.Shelf
open Go.Proofs.Tryz renaming prog→Zz
theorem vG(n most:Int):aa Zz 97 #[i6 n,i6 most] [] [] N0 (λ_=> .bool (fJ n most)):=by
 refine fG Tryz.func97 λw cs=>?_
 refine r0 [] [(4,.bool false)] [] (r0 [(10,.t (tv (ar .sub 3 (.tmp 14) (.const (i6 1)) (i6 n) (i6 1)) (λ_=>EX n 1))),(11,.t (tv (ar .and 3 (.tmp 13) (.tmp 15) (i6 n) (i6 (dT (n-1)))) (λ_=>Ql n _))),] [(4,.bool (((decide (1≤n))&&(decide (n≤most)))&&((bits .and .i64 n (dT (n-1)))==0)))] [4] ?_)
 exact am (.bool (((decide (1≤n))&&(decide (n≤most)))&&((bits .and .i64 n (dT (n-1)))==0))) ab.zero bh [] [] []
theorem vH(i n:Int):aa Zz 105 #[i6 i,i6 n] [] [] N0 (λ_=> .bool (bQ i n)):=by
 refine fG Tryz.func105 λw cs=>?_
 refine r0 [] [(4,.bool false)] [] (r0 [] [(4,.bool ((decide (0≤i))&&(decide (i<n))))] [4] ?_)
 exact am (.bool ((decide (0≤i))&&(decide (i<n)))) ab.zero bh [] [] []
theorem E0(r s b m c:Int):aa Zz 57 #[.agg #[i6 r,i6 s,i6 b,i6 m,i6 c]] [] [] N0 (λ_=> .bool (jx r s b m c)):=by
 refine fG Tryz.func57 λw cs=>?_
 refine ra (λq1=>[(1,pt (B0 q1) 0),(2,.bool false)]) (λq1=>[ob (B0 q1) #[i6 r,i6 s,i6 b,i6 m,i6 c] 23]) λq1=>r0 [(1,.m (ld 0 (i6 r))),(2,.c [] [] (vG r 8)),(5,.m (ld 0 (i6 s))),(10,.m (ld 0 (i6 s))),(12,.m (ld 0 (i6 r))),(13,.t (tv (ar .sub 3 (.const (i6 8)) (.tmp 15) (i6 8) (i6 r)) (λ_=>EX 8 r))),(18,.m (ld 0 (i6 b))),(19,.c [] [] (vG b 16)),(23,.m (ld 0 (i6 m))),(24,.c [] [] (vG m 1024)),(28,.m (ld 0 (i6 c))),(29,.c [] [] (vG c 64)),(33,.m (ld 0 (i6 r))),(35,.m (ld 0 (i6 s))),(36,.t (tv (ar .add 3 (.tmp 36) (.tmp 38) (i6 r) (i6 s)) (λ_=>Qm r s))),(38,.m (ld 0 (i6 b))),(39,.t (tv (ar .mul 3 (.tmp 39) (.tmp 41) (i6 (dT (r+s))) (i6 b)) (λ_=>zp _ _))),(41,.m (ld 0 (i6 m))),(42,.t (tv (ar .mul 3 (.tmp 42) (.tmp 44) (i6 (dT (dT (r+s)*b))) (i6 m)) (λ_=>zp _ _))),(44,.m (ld 0 (i6 c))),(45,.t (tv (ar .mul 3 (.tmp 45) (.tmp 47) (i6 (dT (dT (dT (r+s)*b)*m))) (i6 c)) (λ_=>zp _ _))),] [(2,.bool (((((((fJ r 8)&&(decide (0≤s)))&&(decide (s≤(dT (8-r)))))&&(fJ b 16))&&(fJ m 1024))&&(fJ c 64))&&(decide ((dT (dT (dT (dT (r+s)*b)*m)*c))≤4096))))] [2] ?_
 exact am (.bool (((((((fJ r 8)&&(decide (0≤s)))&&(decide (s≤(dT (8-r)))))&&(fJ b 16))&&(fJ m 1024))&&(fJ c 64))&&(decide ((dT (dT (dT (dT (r+s)*b)*m)*c))≤4096)))) ab.zero bh [] [] []
theorem vJ(R S B M C:Nat)(hG:cM R S B M C):aa Zz 57 #[.agg #[iN R,iN S,iN B,iN M,iN C]] [] [] N0 (λ_=> .bool true):=by
 have h:=E0 R S B M C
 rwa [hG.ok] at h
attribute [local irreducible] bQ fJ dT
theorem sP(R S B M C:Nat)(hG:cM R S B M C)(p0 p1 p2 p3:Int):aa Zz 73 #[.agg #[iN R,iN S,iN B,iN M,iN C],.agg #[i6 p0,i6 p1,i6 p2,i6 p3]] [] [] N0 (λ_=> .bool (hold R S B M C p0 p1 p2 p3)):=by
 have hB:=hG.bd
 have hr8:=hB.r8
 refine fG Tryz.func73 λw cs=>?_
 refine ra (λq1=>[(2,pt (B0 q1) 0),(3,pt (B1 q1) 0),(4,.bool false)]) (λq1=>[ob (B0 q1) #[iN R,iN S,iN B,iN M,iN C] 23,ob (B1 q1) #[i6 p0,i6 p1,i6 p2,i6 p3] 46]) λq1=>r0 [(0,.m (ls 0 ([iN R,iN S,iN B,iN M,iN C]))),(1,.c [] [] (vJ R S B M C hG)),(4,.m (ld 1 (i6 p0))),(6,.m (ld 0 (iN R))),(8,.m (ld 0 (iN S))),(9,ad R S),(10,.c [] [] (vH p0 ((R+S:Nat):Int))),(14,.m (ld 1 (i6 p1))),(16,.m (ld 0 (iN B))),(17,.c [] [] (vH p1 (B:Int))),(21,.m (ld 1 (i6 p2))),(23,.m (ld 0 (iN M))),(24,.c [] [] (vH p2 (M:Int))),(28,.m (ld 1 (i6 p3))),(30,.m (ld 0 (iN C))),(31,.c [] [] (vH p3 (C:Int)))] [(4,.bool ((((bQ p0 ((R+S:Nat):Int))&&(bQ p1 (B:Int)))&&(bQ p2 (M:Int)))&&(bQ p3 (C:Int))))] [4] ?_
 exact am (.bool ((((bQ p0 ((R+S:Nat):Int))&&(bQ p1 (B:Int)))&&(bQ p2 (M:Int)))&&(bQ p3 (C:Int)))) ab.zero bh [] [] []
theorem E1(p0 p1 p2 p3:Int)(a0:0≤p0)(b0:p0<8)(a1:0≤p1)(b1:p1<16)(a2:0≤p2)(b2:p2<1024)(a3:0≤p3)(b3:p3<64):aa Zz 102 #[.agg #[i6 p0,i6 p1,i6 p2,i6 p3]] [] [] N0 (λ_=>i6 (dA p0 p1 p2 p3)):=by
 refine fG Tryz.func102 λw cs=>?_
 refine ra (λq1=>[(1,pt (B0 q1) 0),(2,i6 0)]) (λq1=>[ob (B0 q1) #[i6 p0,i6 p1,i6 p2,i6 p3] 46]) λq1=>r0 [(1,.m (ld 0 (i6 p0))),(2,.t (tv (ar .shl 3 (.tmp 4) (.const (u6 20)) (i6 p0) (u6 20)) (λ_=>gb 20 Dc Om Om))),(4,.m (ld 0 (i6 p1))),(5,.t (tv (ar .shl 3 (.tmp 7) (.const (u6 16)) (i6 p1) (u6 16)) (λ_=>gb 16 Dc Om Om))),(6,.t (tv (ar .or 3 (.tmp 5) (.tmp 8) (i6 (p0*2^20)) (i6 (p1*2^16))) (λ_=>sr 20 1048576 rfl Om Om Om Om Om))),(8,.m (ld 0 (i6 p2))),(9,.t (tv (ar .shl 3 (.tmp 11) (.const (u6 6)) (i6 p2) (u6 6)) (λ_=>gb 6 Dc Om Om))),(10,.t (tv (ar .or 3 (.tmp 9) (.tmp 12) (i6 (p0*2^20+p1*2^16)) (i6 (p2*2^6))) (λ_=>sr 16 65536 rfl Om Om Om Om Om))),(12,.m (ld 0 (i6 p3))),(13,.t (tv (ar .or 3 (.tmp 13) (.tmp 15) (i6 (p0*2^20+p1*2^16+p2*2^6)) (i6 p3)) (λ_=>sr 6 64 rfl Om Om Om Om Om)))] [(2,i6 (p0*2^20+p1*2^16+p2*2^6+p3))] [2] ?_
 exact am (i6 (p0*2^20+p1*2^16+p2*2^6+p3)) ab.zero (by exact ALca (Value.int .i64) (by unfold dA;omega)) [] [] []
theorem Qp{R S B M C:Nat}(hb:Zs R S B M C){p0 p1 p2 p3:Int}(h:hold R S B M C p0 p1 p2 p3=true):(0≤p0∧p0<8)∧(0≤p1∧p1<16)∧(0≤p2∧p2<1024)∧0≤p3∧p3<64:=by
 obtain⟨h0,h1,h2,h3⟩:=vF.1 h
 have:=hb.b16;have:=hb.m10;have:=hb.c64;have:=hb.r8
 omega
def sQ(R S B M C:Nat)(p0 p1 p2 p3:Int):Int:=(bif !(hold R S B M C p0 p1 p2 p3) then 0 else(dA p0 p1 p2 p3))
def sS(R S B M C:Nat)(p0 p1 p2 p3:Int):Int:=(bif !(hold R S B M C p0 p1 p2 p3) then 12 else 0)
theorem E2(R S B M C:Nat)(hG:cM R S B M C)(p0 p1 p2 p3:Int):aa Zz 147 #[.agg #[iN R,iN S,iN B,iN M,iN C],.agg #[i6 p0,i6 p1,i6 p2,i6 p3]] [] [] N0 (λ_=> .tuple #[i6 (sQ R S B M C p0 p1 p2 p3),i6 (sS R S B M C p0 p1 p2 p3)]):=by
 refine fG Tryz.func147 λw cs=>?_
 refine ra (λq1=>[(2,pt (B0 q1) 0),(3,pt (B1 q1) 0),(4,i6 0),(5,i6 0)]) (λq1=>[ob (B0 q1) #[iN R,iN S,iN B,iN M,iN C] 23,ob (B1 q1) #[i6 p0,i6 p1,i6 p2,i6 p3] 46]) λq1=>r0 [(0,.l 0),(1,.l 1),(2,.c [] [] (sP R S B M C hG p0 p1 p2 p3))] [(9,.bool (!(hold R S B M C p0 p1 p2 p3)))] [] ?_
 refine cB (!(hold R S B M C p0 p1 p2 p3)) (λh3=>?_) λh3=>?_
 ·refine r0 [] [(4,i6 0),(5,i6 12)] [4,5] ?_
  exact am (.tuple #[i6 0,i6 12]) ab.zero (by((try simp only[sQ,sS]);(repeat (first | rw[h3] | rw[ALct])))<;>rfl) [] [] []
 obtain⟨⟨i0,j0⟩,⟨i1,j1⟩,⟨i2,j2⟩,i3,j3⟩:=Qp hG.bd (by simpa using h3)
 refine r0 [(0,.l 1),(1,.c [] [] (E1 p0 p1 p2 p3 Om Om Om Om Om Om Om Om))] [(4,i6 (dA p0 p1 p2 p3)),(5,i6 0)] [4,5] ?_
 exact am (.tuple #[i6 (dA p0 p1 p2 p3),i6 0]) ab.zero (by((try simp only[sQ,sS]);(repeat (first | rw[h3] | rw[ALcf])))<;>rfl) [] [] []
theorem Qq(i:Int):aa Zz 104 #[i6 i] [] [] N0 (λ_=> .agg #[i6 (i/1048576),i6 (i/65536%16),i6 (i/64%1024),i6 (i%64)]):=by
 refine fG Tryz.func104 λw cs=>?_
 exact ra (λq1=>[(2,pt (B0 q1) 0)]) (λq1=>[ob (B0 q1) #[i6 0,i6 0,i6 0,i6 0] 46]) λq1=>rs [(1,.t (tv (ar .shr 3 (.tmp 3) (.const (u6 20)) (i6 i) (u6 20)) (λ_=>i8 20 Dc))),(3,.t (tv (ar .shr 3 (.tmp 5) (.const (u6 16)) (i6 i) (u6 16)) (λ_=>i8 16 Dc))),(4,.t (tv (ar .and 3 (.tmp 6) (.const (i6 15)) (i6 (i/65536)) (i6 15)) (λ_=>mO _ 4 16 Dc Dc Dc Dc))),(6,.t (tv (ar .shr 3 (.tmp 8) (.const (u6 6)) (i6 i) (u6 6)) (λ_=>i8 6 Dc))),(7,.t (tv (ar .and 3 (.tmp 9) (.const (i6 1023)) (i6 (i/64)) (i6 1023)) (λ_=>mO _ 10 1024 Dc Dc Dc Dc))),(9,.t (tv (ar .and 3 (.tmp 11) (.const (i6 63)) (i6 i) (i6 63)) (λ_=>mO _ 6 64 Dc Dc Dc Dc))),(11,.s 0)] 0 (ob (B0 q1) #[i6 (i/1048576),i6 (i/65536%16),i6 (i/64%1024),i6 (i%64)] 46) (lf ab.zero [] [] [0])
attribute [local irreducible] hold
def sT(R S B M C:Nat)(i:Int):Int:=(bif (decide (i<0))||(!(hold R S B M C (i/1048576) (i/65536%16) (i/64%1024) (i%64))) then 0 else(i/1048576))
def sU(R S B M C:Nat)(i:Int):Int:=(bif (decide (i<0))||(!(hold R S B M C (i/1048576) (i/65536%16) (i/64%1024) (i%64))) then 0 else(i/65536%16))
def sX(R S B M C:Nat)(i:Int):Int:=(bif (decide (i<0))||(!(hold R S B M C (i/1048576) (i/65536%16) (i/64%1024) (i%64))) then 0 else(i/64%1024))
def sY(R S B M C:Nat)(i:Int):Int:=(bif (decide (i<0))||(!(hold R S B M C (i/1048576) (i/65536%16) (i/64%1024) (i%64))) then 0 else(i%64))
def sZ(R S B M C:Nat)(i:Int):Int:=(bif (decide (i<0))||(!(hold R S B M C (i/1048576) (i/65536%16) (i/64%1024) (i%64))) then 12 else 0)
theorem E3(R S B M C:Nat)(hG:cM R S B M C)(i:Int):aa Zz 68 #[.agg #[iN R,iN S,iN B,iN M,iN C],i6 i] [] [] N0 (λ_=> .tuple #[.agg #[i6 (sT R S B M C i),i6 (sU R S B M C i),i6 (sX R S B M C i),i6 (sY R S B M C i)],i6 (sZ R S B M C i)]):=by
 refine fG Tryz.func68 λw cs=>?_
 refine ra (λq1=>[(2,pt (B0 q1) 0),(4,pt (B1 q1) 0),(5,i6 0)]) (λq1=>[ob (B0 q1) #[iN R,iN S,iN B,iN M,iN C] 23,ob (B1 q1) #[i6 0,i6 0,i6 0,i6 0] 46]) λq1=>rr (λ_=>[(1,.c [] [] (Qq i)),(3,.s 2)]) (λq2=>[(6,pt (B2 q2) 0)]) [] (λq2 L=>L++[ob (B2 q2) #[i6 (i/1048576),i6 (i/65536%16),i6 (i/64%1024),i6 (i%64)] 46]) λq2=>r0 [(3,.l 0),(4,.l 2),(5,.c [] [] (sP R S B M C hG (i/1048576) (i/65536%16) (i/64%1024) (i%64)))] [(16,.bool ((decide (i<0))||(!(hold R S B M C (i/1048576) (i/65536%16) (i/64%1024) (i%64)))))] [] ?_
 refine cB ((decide (i<0))||(!(hold R S B M C (i/1048576) (i/65536%16) (i/64%1024) (i%64)))) (λh4=>?_) λh4=>?_
 ·refine r0 [(1,.s 1)] [(5,i6 12)] [5] ?_
  exact am (.tuple #[.agg #[i6 0,i6 0,i6 0,i6 0],i6 12]) ab.zero (by((try simp only[sT,sU,sX,sY,sZ]);(repeat (first | rw[h4] | rw[ALct])))<;>rfl) [] [] [1]
 refine rr (λ_=>[(0,.l 2),(1,.s 1)]) (λ_=>[(5,i6 0)]) [5] (λ_ L=>L.set 1 (ob (B1 q1) #[i6 (i/1048576),i6 (i/65536%16),i6 (i/64%1024),i6 (i%64)] 46)) λq6=>?_
 exact am (.tuple #[.agg #[i6 (i/1048576),i6 (i/65536%16),i6 (i/64%1024),i6 (i%64)],i6 0]) ab.zero (by((try simp only[sT,sU,sX,sY,sZ]);(repeat (first | rw[h4] | rw[ALcf])))<;>rfl) [] [] [1]
theorem Qr(R S B M C:Nat)(hG:cM R S B M C):aa Zz 224 #[.agg #[iN R,iN S,iN B,iN M,iN C]] [] [] N0 (λ_=>i6 (((B*M)*C:Nat):Int)):=by
 have hB:=hG.bd
 have h1:=hB.bm
 have h2:=hB.bmc
 refine fG Tryz.func224 λw cs=>?_
 exact ra (λq1=>[(1,pt (B0 q1) 0),(2,i6 0)]) (λq1=>[ob (B0 q1) #[iN R,iN S,iN B,iN M,iN C] 23]) λq1=>rF [(0,.l 0),(1,.c [] [] (vJ R S B M C hG))] 5 (r0 [(1,.l 0),(3,.l 0),(4,ml B M),(6,.l 0),(7,ml (B*M) C)] [(2,i6 (((B*M)*C:Nat):Int))] [2] (lf ab.zero [] [] []))
theorem mU(R S B M C:Nat)(hG:cM R S B M C):aa Zz 24 #[.agg #[iN R,iN S,iN B,iN M,iN C]] [] [] N0 (λ_=>i6 (((R*B)*M:Nat):Int)):=by
 have hB:=hG.bd
 have h1:=hB.rb
 have h2:=hB.rbm
 refine fG Tryz.func24 λw cs=>?_
 exact ra (λq1=>[(1,pt (B0 q1) 0),(2,i6 0)]) (λq1=>[ob (B0 q1) #[iN R,iN S,iN B,iN M,iN C] 23]) λq1=>rF [(0,.l 0),(1,.c [] [] (vJ R S B M C hG))] 5 (r0 [(1,.l 0),(3,.l 0),(4,ml R B),(6,.l 0),(7,ml (R*B) M)] [(2,i6 (((R*B)*M:Nat):Int))] [2] (lf ab.zero [] [] []))
end Go.Proofs.YtbcodenfkijdnaaGreat.E
namespace Go.Proofs.YtbcodenfkijdnaaGreat.E
open Go Go.RowKit Go.Shelf
open List renaming getElem?_append_left→Zz,flatten_append→ZA,length_append→ZB,flatten_cons→ZC,getD_eq_getElem?_getD→ZD,getElem?_eq_getElem→ZE,getElem?_cons_succ→ZF,append_nil→ZG,range→ZH,length_cons→ZI,range'→ZJ,mem_append_left→ZK,range'_succ→ZL,flatten_nil→ZM,length_map→ZN
open Nat renaming zero_add→ZO
def lN(v:Wr):Nat→ah→ah
 | _,[]=>[]
 | k,x::xs=>((cO v k).getD x)::lN v (k+1) xs
theorem s0(v:Wr): ∀(k:Nat) (L:ah),(lN v k L).length=L.length
 | _,[]=>rfl
 | k,x::xs=>by unfold lN;rw[ZI,ZI,s0 v (k+1) xs]
theorem zr(v:Wr): ∀(k:Nat) (L:ah) (p:Nat),(lN v k L)[p]? =L[p]?.map λx=>(cO v (k+p)).getD x
 | _,[],_=>by unfold lN;simp
 | k,x::xs,0=>by unfold lN;simp
 | k,x::xs,p+1=>by unfold lN;rw[ZF,ZF,zr v (k+1) xs p,show k+1+p=k+(p+1) by omega]
section
variable {P:Program} {f:FuncId} {args:Array Value} {rest:ah} {wt:ab→ah} {v:ab→Value} {S S':ah→Prop}
theorem Qs{L:ah}{w:World}{cs:List aw}(hs:bu L cs)(hh:eF cs.flatten w):li (bN cs.flatten) w L.length (λp=>L[p]?) (λi=>cs.getD i []) w:=by
 have ha:=rK hh.nd
 have hl:=jS hs
 have hm: ∀i,∀z∈cs.getD i [],z∈cs.flatten:=λi z hz=>by
  by_cases hi:i<cs.length
  ·exact List.mem_flatten.2 ⟨_,oc hi,hz⟩
  ·rw[qb hi] at hz;simp at hz
 exact⟨λp hp x hx=>nn hs hx,λp hp hx=>by rw[List.getElem?_eq_none_iff] at hx;omega,λp hp z hz=>hh.obj z (hm p z hz),λp _=>ha.1 p,λp q _ _ hne=>ha.2 p q hne,
  λp _ z hz=> .inl (List.mem_map.2 ⟨z,hm p z hz,rfl⟩),rfl,rfl,rfl,Nat.le_refl _,λ_ _ _=>rfl⟩
theorem aa.pkR(hE:Enters P f)(h: ∀L,S L→aa P f args (L++rest) [] wt v):aa P f args ((pk S)::rest) [] wt v:=by
 refine⟨hE,λw cs hs hh=>?_⟩
 obtain⟨bs,cs,rfl,⟨L,ds,hL,hd,rfl⟩,hr⟩:=eG hs
 have:=(h L hL).out w (ds++cs) (kG hd hr) (by rw[ZA];rw[ZC] at hh;exact hh)
 simpa using this
theorem zt(q:Nat)(x:az)(r:Wr)(p:Nat):cO ((q,x)::r) p=if q=p then some x else cO r p:=rfl
theorem E4: ∀(a b:Wr) (p:Nat),cO (a++b) p=(cO a p).or (cO b p)
 | [],b,p=>by simp [cO]
 | (q,x)::a,b,p=>by
  rw[List.cons_append,zt,zt]
  by_cases e:q=p
  ·rw[ALifp e,ALifp e];rfl
  ·rw[ALifn e,ALifn e];exact E4 a b p
theorem E5{qs:List Nat}{p:Nat}(h:p∉qs)(N:ah):cO (qs.zip N) p=none:=by
 cases e:cO (qs.zip N) p with
 | none=>rfl
 | some x=>exact absurd (List.of_mem_zip (ry e)).1 h
theorem E6(m:Nat): ∀(N:ah) (k p:Nat),cO (((ZJ k N.length).map λi=>m+i).zip N) (m+k+p)=N[p]?
 | [],k,p=>by simp [cO]
 | x::N,k,0=>by simp [ZL,cO]
 | x::N,k,p+1=>by
  rw[ZI,ZL,List.map_cons,List.zip_cons_cons,ZF,←E6 m N (k+1) p]
  rw[zt,ALifn Om,show m+k+(p+1)=m+(k+1)+p by omega]
theorem aa.pkW{n:Nat}{N:ab→ah}(hE:Enters P f)(h: ∀L,S L→∃(O:List Nat) (wt:ab→ah),aa P f args (L++rest) O (λE=>wt E++N E) v∧(dx O&&O.all λi=>decide (i<L.length))=true∧∀E,(wt E).length=O.length∧(N E).length=n∧S' (lN (O.zip (wt E)) 0 L)):
  aa P f args ((pk S)::rest) [0] (λE=>(pk S')::N E) v:=by
 refine⟨hE,λw cs hs hh=>?_⟩
 obtain⟨bs,cs,rfl,⟨L,ds,hL,hd,rfl⟩,hr⟩:=eG hs
 obtain⟨O,wt,hC,hO,hW⟩:=h L hL
 rw[Bool.and_eq_true] at hO
 have hn:=oa hO.1
 have hlt: ∀i∈O,i<L.length:=λi hi=>by simpa using List.all_eq_true.1 hO.2 i hi
 have hlen:=jS hd
 rw[ZC] at hh
 refine(callsIn_wide (n:=6)).1 ((callsIn_wide.2 (hC.out w (ds++cs) (kG hd hr) (by rw[ZA];exact hh))).mono λe w' he=>?_)
 obtain⟨E,es,e1,hs2,hst⟩:=he
 obtain⟨hWl,hNl,hS'⟩:=hW E
 have hel:=jS hs2
 rw[ZB] at hel
 have hds:bu (L++(N E).map λ_=> .c []) (ds++(N E).map λ_=>[]):=kG hd (by
  generalize N E=M
  induction M with
  | nil=>trivial
  | cons x M ih=>exact⟨rfl,ih⟩)
 have hfl0:(ds++(N E).map λ_=>([]:aw)).flatten=ds.flatten:=by
  rw[ZA]
  have:((N E).map λ_=>([]:aw)).flatten=[]:=by
   generalize N E=M
   induction M with
   | nil=>rfl
   | cons x M ih=>simp
  rw[this,ZG]
 have hh1:eF ds.flatten w:=⟨λx hx=>hh.obj x (ZK _ hx),(List.pairwise_append.1 hh.nd).1⟩
 obtain⟨c,hF,hc⟩: ∃c,li (bN ds.flatten) w (L++(N E).map λ_=>az.c []).length (λp=>(L++(N E).map λ_=>az.c [])[p]?) c w∧∀p,c p=(ds++(N E).map λ_=>[]).getD p []:=
  ⟨λp=>(ds++(N E).map λ_=>[]).getD p [],by have:=Qs hds (w:=w) (by rw[hfl0];exact hh1);rwa [hfl0] at this,λ_=>rfl⟩
 have hml:(L++(N E).map λ_=>az.c []).length=L.length+(N E).length:=by rw[ZB,ZN]
 obtain⟨qs,hqs⟩: ∃qs,qs=O++(ZJ 0 (N E).length).map λi=>L.length+i:=⟨_,rfl⟩
 have hql:qs.length=es.length:=by rw[hqs,ZB,ZN,List.length_range'];omega
 have hqn:qs.Nodup:=by
  rw[hqs,List.nodup_append]
  refine⟨hn,?_,λa ha b hb e=>?_⟩
  ·refine List.Pairwise.map _ (λa b h e=>h Om) (List.nodup_range' (s:=0) (n:=(N E).length))
  ·obtain⟨i,_,rfl⟩:=List.mem_map.1 hb
   have:=hlt a ha
   omega
 have hpc:=uc (qs:=qs) (ds:=es) hql hqn
 have hzl:qs.length=(wt E++N E).length:=by rw[ZB];omega
 have hfl:((qs.zip (wt E++N E)).flatMap λx=>ma qs es x.1)=es.flatten:=by rw[qa hzl,hpc]
 have hF2:=hF.step (d:=ma qs es) (v:=qs.zip (wt E++N E)) (ue hpc hs2) (by rw[hfl];exact hst) (λb hb=>by
  obtain⟨i,hi,hb⟩:=List.mem_flatMap.1 hb
  have hil:=hlt i hi
  have hg:(ds++cs).getD i []=c i:=by rw[hc,ZD,ZD,Zz Om,Zz Om]
  rw[hg] at hb
  obtain⟨z,hz,rfl⟩:=List.mem_map.1 hb
  refine⟨i,by omega,?_,z,hz,rfl⟩
  obtain⟨j,hj,ej⟩:=List.getElem_of_mem (show i∈qs from hqs▸ZK _ hi)
  refine⟨(wt E++N E)[j]'Om,?_⟩
  rw[←ej]
  exact List.mem_iff_getElem.2 ⟨j,by rw[List.length_zip];omega,by rw[List.getElem_zip]⟩)
 have hzip:qs.zip (wt E++N E)=O.zip (wt E)++((ZJ 0 (N E).length).map λi=>L.length+i).zip (N E):=by rw[hqs,List.zip_append Om]
 have hOE:aD (bN ds.flatten) w (lN (O.zip (wt E)) 0 L++N E) w':=by
  refine⟨oZ c (qs.zip (wt E++N E)) (ma qs es),?_⟩
  rw[ZB,s0,←hml]
  refine hF2.congr λp hp=>?_
  rw[hml] at hp
  unfold l7
  rw[hzip,E4]
  by_cases hpl:p<L.length
  ·rw[Zz (by rw[s0];exact hpl),zr,ZO,E5 (qs:=(ZJ 0 (N E).length).map λi=>L.length+i) (λhm=>by obtain⟨i,_,e⟩:=List.mem_map.1 hm;omega)]
   have e2:(L++(N E).map λ_=>az.c [])[p]? =L[p]? :=Zz hpl
   simp only[e2,ZE hpl]
   cases cO (O.zip (wt E)) p<;>rfl
  ·rw[List.getElem?_append_right (by rw[s0];omega),s0,E5 (λhm=>hpl (hlt p hm))]
   have:=E6 L.length (N E) 0 (p-L.length)
   rw[show L.length+0+(p-L.length)=p by omega] at this
   rw[this,ZE Om]
   rfl
 obtain⟨cs2,h2,hS2⟩:=hOE.conc
 obtain⟨d1,d2,rfl,h3,h4⟩:=og h2
 refine⟨E,d1.flatten::d2,e1,⟨⟨_,d1,hS',h3,rfl⟩,h4⟩,?_⟩
 have ef:(d1.flatten::d2).flatten=(d1++d2).flatten:=by rw[ZC,ZA]
 rw[ef]
 refine⟨hS2.os,hS2.tape,hS2.output,hS2.size,hS2.obj,λx hx=>?_,hS2.nd,λb hb hn=>hS2.far b hb (by simpa using hn)⟩
 have:=hS2.lo x hx
 simpa using this
theorem aa.pkZ{fn:Func}(hf:P.funcs[f]? =some fn)(h: ∀L,S L→∃(O:List Nat) (wt:ab→ah),aa P f args (L++rest) O (λE=>wt E++[]) v∧(dx O&&O.all λi=>decide (i<L.length))=true∧∀E,(wt E).length=O.length∧([]:ah).length=0∧S' (lN (O.zip (wt E)) 0 L))(hn:(fn.name== "runtime.NumGoroutine")=false:=by kernel_rfl)(hb:fn.body.isSome=true:=by kernel_rfl):aa P f args (.p (r7 S)::rest) [0] (λE=> .p (r7 S')::[]) v:=aa.pkW (n:=0) (N:=λ_=>[]) (fN hf hn hb) h
theorem Qt: ∀cs:List aw,(ZH cs.length).flatMap (λi=>bN (cs.getD i []))=bN cs.flatten:=by
 intro cs
 have h:(ZH cs.length).map (λi=>cs.getD i [])=cs:=by
  apply List.ext_getElem (by simp)
  intro i h1 h2
  rw[List.getElem_map,List.getElem_range,ZD,ZE h2];rfl
 have h2:(ZH cs.length).flatMap (λi=>bN (cs.getD i []))=(((ZH cs.length).map λi=>cs.getD i []).map bN).flatten:=by rw[List.flatMap_def,List.map_map];rfl
 rw[h2,h]
 unfold bN
 rw[List.map_flatten]
theorem aa.unpk{L0 L1:ah}{N:ab→ah}(h:aa P f args [pk λL=>L=L0] [0] (λE=>(pk λL=>L=L1)::N E) v):aa P f args L0 (ZH L0.length) (λE=>L1++N E) v:=by
 refine⟨h.ent,λw cs hs hh=>?_⟩
 refine(callsIn_wide (n:=6)).1 ((callsIn_wide.2 (h.out w [cs.flatten] ⟨⟨L0,cs,rfl,hs,rfl⟩,trivial⟩ (by simpa using hh))).mono λe w' he=>?_)
 obtain⟨E,ds,h1,h2,h3⟩:=he
 obtain⟨d,ds,rfl,⟨L,ds1,rfl,h4,rfl⟩,h5⟩:=eG h2
 refine⟨E,ds1++ds,h1,kG h4 h5,?_⟩
 rw[jS hs,Qt,ZA]
 simpa using h3
theorem aa.outs{rd:ah}{O:List Nat}{wt':ab→ah}(h:aa P f args rd O wt v)(hw: ∀E ds,bu (wt E) ds→∃ds',bu (wt' E) ds'∧ds'.flatten=ds.flatten):aa P f args rd O wt' v:=
 ⟨h.ent,λw cs hs hh=>(callsIn_wide (n:=6)).1 ((callsIn_wide.2 (h.out w cs hs hh)).mono λe w' he=>by
  obtain⟨E,ds,h1,h2,h3⟩:=he
  obtain⟨ds',h4,h5⟩:=hw E ds h2
  exact⟨E,ds',h1,h4,by rw[h5];exact h3⟩)⟩
theorem s5{S:ah→Prop}{L:ah}{ds:List aw}(hS:S L)(h:bu L ds): ∃ds',bu [pk S] ds'∧ds'.flatten=ds.flatten:=⟨[ds.flatten],⟨⟨L,ds,hS,h,rfl⟩,trivial⟩,by simp⟩
theorem aa.inW{x y:az}{T T':ah→Prop}(h:aa P f args [x] [0] (λ_=>[y]) v)(hT: ∀L,T L→∃j:Nat,L[j]? =some x∧T' (L.set j y)):aa P f args [pk T] [0] (λ_=>[pk T']) v:=by
 refine aa.pkW (n:=0) (N:=λ_=>[]) h.ent λL hL=>?_
 obtain⟨j,hj,hT'⟩:=hT L hL
 have hjl:=(List.getElem?_eq_some_iff.1 hj).1
 refine⟨[j],λ_=>[y],⟨h.ent,λw cs hs hh=>?_⟩,by simp [dx,hjl],λE=>⟨rfl,rfl,?_⟩⟩
 ·rw[ZG] at hs
  have hl:=jS hs
  have:=h.out w [cs.getD j []] ⟨nn hs hj,trivial⟩ ⟨λy hy=>hh.obj y (by
   rw[ZC,ZM,ZG] at hy
   exact List.mem_flatten.2 ⟨_,oc Om,hy⟩),by
   rw[ZC,ZM,ZG]
   exact(rK hh.nd).1 j⟩
  simpa using this
 ·have e:lN ([j].zip [y]) 0 L=L.set j y:=by
   apply List.ext_getElem?
   intro p
   rw[zr,ZO,List.getElem?_set]
   by_cases e:j=p
   ·subst e
    simp [cO,hjl]
   ·rw[ALifn e]
    cases L[p]?<;>simp [cO,e]
  show T' (lN ([j].zip [y]) 0 L)
  rw[e]
  exact hT'
end
end Go.Proofs.YtbcodenfkijdnaaGreat.E
namespace Go.Proofs.YtbcodenfkijdnaaGreat.E
open Go Go.RowKit Go.Shelf
open Nat renaming mod_lt→Zz,lt_of_le_of_lt→ZA,mul_comm→ZB,mul_assoc→ZD,le_trans→ZF,mul_le_mul_right→ZG,div_lt_of_lt_mul→ZH,le_refl→ZI,zero_le→ZJ,xor_lt_two_pow→ZK,mod_eq_of_lt→ZL,div_add_mod→ZM,zero_mul→ZN,zero_add→ZO
open List renaming getElem?_eq_getElem→ZC
open Go.Proofs.Tryz renaming prog→ZE
def s6(x:Nat):List Value:=[iN x]
def cu:Kd ZE Nat:=⟨s6,[i6 0],74,3,0,1,λ_=>rfl,rfl,λ_=>rfl,d9.mk' Kr Kr rfl⟩
abbrev bP(v:Value)(xs:List Nat):az:= .p (ap s6 ([i6 0]) 3 v xs)
def E7(x:Bool):List Value:=[.bool x]
def kS:Kd ZE Bool:=⟨E7,[.bool false],135,4,false,1,λ_=>rfl,rfl,λ_=>rfl,d9.mk' Kr Kr rfl⟩
abbrev fj(v:Value)(xs:List Bool):az:= .p (ap E7 ([.bool false]) 4 v xs)
def jy(n:Nat)(bs:List Nat)(k:Nat):Nat:=(bs.take k).foldl (· / ·) n
def aE(n:Nat)(bs:List Nat)(k:Nat):List Nat:=(List.range k).map λi=>jy n bs i%bs.getD i 0
theorem Qu{n:Nat}{bs:List Nat}{k:Nat}(h:k<bs.length):jy n bs (k+1)=jy n bs k/bs.getD k 0:=by
 unfold jy
 rw[List.take_add_one,ZC h,List.getD_eq_getElem?_getD,ZC h,List.foldl_append]
 rfl
theorem Qv(n:Nat)(bs:List Nat): ∀k,jy n bs k≤n:=by
 intro k
 unfold jy
 generalize bs.take k=l
 induction l generalizing n with
 | nil=>exact ZI _
 | cons b l ih=>exact ZF (ih (n/b)) (Nat.div_le_self _ _)
theorem Qw{n:Nat}{bs:List Nat}{k:Nat}:aE n bs (k+1)=aE n bs k++[jy n bs k%bs.getD k 0]:=by
 unfold aE
 rw[List.range_succ,List.map_append];rfl
theorem Qx(n:Nat)(bs:List Nat)(k:Nat):(aE n bs k).length=k:=by unfold aE;rw[List.length_map,List.length_range]
def eu(d bs:List Nat):Nat→Nat
 | 0=>0
 | k+1=>eu d bs k*bs.getD (bs.length-1-k) 0+d.getD (bs.length-1-k) 0
theorem E8{op:BinOp}{f:Nat→Nat→Nat}(a b:Nat)(ha:a<9223372036854775808)(hb:b<9223372036854775808)(hr:f a b<9223372036854775808)(h:bits op .i64 (a:Int) (b:Int)=IntKind.i64.wrap ((f (BitVec.ofInt 64 (a:Int)).toNat (BitVec.ofInt 64 (b:Int)).toNat:Nat):Int)):bits op .i64 (a:Int) (b:Int)=((f a b:Nat):Int):=by
 have h2: ∀c:Nat,c<9223372036854775808→(BitVec.ofInt 64 (c:Int)).toNat=c:=by
  intro c hc
  rw[BitVec.ofInt_natCast,BitVec.toNat_ofNat];exact ZL Om
 rw[h,h2 a ha,h2 b hb]
 exact IntWalk.i64_in _ Om
theorem Qy(a b:Nat)(ha:a<9223372036854775808)(hb:b<9223372036854775808):bits .and .i64 (a:Int) (b:Int)=((a&&& b:Nat):Int):=
 E8 (f:=λa b=>a&&& b) a b ha hb (ZA Nat.and_le_left ha) (by show IntKind.i64.wrap ((BitVec.ofInt 64 (a:Int)&&& BitVec.ofInt 64 (b:Int)).toNat:Int)=_;rw[BitVec.toNat_and])
theorem Qz(a b:Nat)(ha:a<9223372036854775808)(hb:b<9223372036854775808):bits .xor .i64 (a:Int) (b:Int)=((a^^^b:Nat):Int):=
 E8 (f:=λa b=>a^^^b) a b ha hb (ZK (n:=63) Om Om) (by show IntKind.i64.wrap ((BitVec.ofInt 64 (a:Int)^^^BitVec.ofInt 64 (b:Int)).toNat:Int)=_;rw[BitVec.toNat_xor])
section
variable {P:Program} {T:TypeId} {x y:Operand} {w:World}
theorem E9(a b:Nat)(ha:a<9223372036854775808)(hb:b<9223372036854775808):(ar .and T x y (.int .i64 (a:Int)) (.int .i64 (b:Int))).run P w= .ok (.int .i64 ((a&&& b:Nat):Int)) w:=by rw[←Qy a b ha hb];rfl
theorem Fb(a b:Nat)(ha:a<9223372036854775808)(hb:b<9223372036854775808):(ar .xor T x y (.int .i64 (a:Int)) (.int .i64 (b:Int))).run P w= .ok (.int .i64 ((a^^^b:Nat):Int)) w:=by rw[←Qz a b ha hb];rfl
end
theorem dU{P:Program}{m:Sem Value}{w:World}{a b:Int}{k:IntKind}(h:m.run P w= .ok (.int k a) w)(e:a=b):m.run P w= .ok (.int k b) w:=e▸h
def bJ(p0 p1 p2 p3:Nat):Nat:=p0*1048576+p1*65536+p2*64+p3
structure gZ (R S B M C p0 p1 p2 p3:Nat):Prop where
 h0:p0<R+S
 h1:p1<B
 h2:p2<M
 h3:p3<C
section
variable {R S B M C p0 p1 p2 p3:Nat}
theorem gZ.hold(h:gZ R S B M C p0 p1 p2 p3):hold R S B M C p0 p1 p2 p3=true:=by
 have:=h.h0;have:=h.h1;have:=h.h2;have:=h.h3
 exact vF.2 Om
theorem zu(hG:Zs R S B M C)(h:gZ R S B M C p0 p1 p2 p3):bJ p0 p1 p2 p3<8388608:=by
 have:=hG.r8;have:=hG.b16;have:=hG.m10;have:=hG.c64
 have:=h.h0;have:=h.h1;have:=h.h2;have:=h.h3
 unfold bJ;omega
theorem vK:dA (p0:Int) p1 p2 p3=(bJ p0 p1 p2 p3:Int):=by unfold dA bJ;omega
theorem zw(hG:Zs R S B M C)(h:gZ R S B M C p0 p1 p2 p3):bJ p0 p1 p2 p3/1048576=p0∧bJ p0 p1 p2 p3/65536%16=p1∧bJ p0 p1 p2 p3/64%1024=p2∧bJ p0 p1 p2 p3%64=p3:=by
 have:=hG.r8;have:=hG.b16;have:=hG.m10;have:=hG.c64
 have:=h.h0;have:=h.h1;have:=h.h2;have:=h.h3
 unfold bJ;omega
theorem s7(hG:cM R S B M C)(h:gZ R S B M C p0 p1 p2 p3):aa ZE 147 #[.agg #[iN R,iN S,iN B,iN M,iN C],.agg #[iN p0,iN p1,iN p2,iN p3]] [] [] N0 (λ_=> .tuple #[i6 (bJ p0 p1 p2 p3:Int),i6 0]):=by
 have:=E2 R S B M C hG p0 p1 p2 p3
 unfold sQ sS at this
 rwa [h.hold,vK] at this
theorem s8(hG:cM R S B M C)(h:gZ R S B M C p0 p1 p2 p3):aa ZE 68 #[.agg #[iN R,iN S,iN B,iN M,iN C],i6 (bJ p0 p1 p2 p3:Int)] [] [] N0 (λ_=> .tuple #[.agg #[iN p0,iN p1,iN p2,iN p3],i6 0]):=by
 have:=E3 R S B M C hG (bJ p0 p1 p2 p3:Nat)
 have e:=zw hG.bd h
 have e0:((bJ p0 p1 p2 p3:Nat):Int)/1048576=(p0:Int):=by omega
 have e1:((bJ p0 p1 p2 p3:Nat):Int)/65536%16=(p1:Int):=by omega
 have e2:((bJ p0 p1 p2 p3:Nat):Int)/64%1024=(p2:Int):=by omega
 have e3:((bJ p0 p1 p2 p3:Nat):Int)%64=(p3:Int):=by omega
 unfold sT sU sX sY sZ at this
 rw[e0,e1,e2,e3,h.hold,bj Om] at this
 exact this
end
theorem qC{B r b:Nat}(h:B∈[1,2,4,8,16,32,64,128,256,512,1024])(hb:b<B):b^^^(r&&& (B-1))<B:=by
 have h1:r&&& (B-1)<B:=ZA Nat.and_le_right Om
 have key: ∀k,B=2^k→b^^^(r&&& (B-1))<B:=λk e=>by rw[e] at hb h1⊢;exact ZK hb h1
 simp only[List.mem_cons,List.not_mem_nil,or_false] at h
 rcases h with h | h | h | h | h | h | h | h | h | h | h
 ·exact key 0 h
 ·exact key 1 h
 ·exact key 2 h
 ·exact key 3 h
 ·exact key 4 h
 ·exact key 5 h
 ·exact key 6 h
 ·exact key 7 h
 ·exact key 8 h
 ·exact key 9 h
 ·exact key 10 h
def fP(B r b:Nat):Nat:=b^^^(r&&& (B-1))
theorem QA(B r b:Nat):fP B r (fP B r b)=b:=by unfold fP;rw[Nat.xor_assoc,Nat.xor_self,Nat.xor_zero]
def mV(way R B M p:Nat):List Nat:=match way with
 | 0=>aE p [M,B,R] 3
 | 1=>aE p [B,M,R] 3
 | _=>aE p [R,B,M] 3
def aF(way R B M p:Nat):Nat:=match way with
 | 0=>(mV way R B M p).getD 2 0
 | 1=>(mV way R B M p).getD 2 0
 | _=>(mV way R B M p).getD 0 0
def ec(way R B M p:Nat):Nat:=match way with
 | 0=>(mV way R B M p).getD 0 0
 | 1=>(mV way R B M p).getD 1 0
 | _=>(mV way R B M p).getD 2 0
def ed(way R B M p:Nat):Nat:=match way with
 | 0=>(mV way R B M p).getD 1 0
 | 1=>(mV way R B M p).getD 0 0
 | 2=>(mV way R B M p).getD 1 0
 | _=>fP B (ec way R B M p) ((mV way R B M p).getD 1 0)
def mt(way R B M r b w:Nat):Nat:=match way with
 | 0=>eu [w,b,r] [M,B,R] 3
 | 1=>eu [b,w,r] [B,M,R] 3
 | 2=>eu [r,b,w] [R,B,M] 3
 | _=>eu [r,fP B w b,w] [R,B,M] 3
def iu(way R B M p:Nat):Nat:=bJ (aF way R B M p) (ed way R B M p) (ec way R B M p) 0/64
theorem Fc(x y z a b c:Nat):eu [x,y,z] [a,b,c] 3=((0*c+z)*b+y)*a+x:=rfl
theorem s9{x y z a b c:Nat}(hx:x<a)(hy:y<b)(hz:z<c):eu [x,y,z] [a,b,c] 3<c*b*a:=by
 rw[Fc,ZN,ZO]
 have h1:z*b+y<c*b:=by
  have:(z+1)*b≤c*b:=ZG b hz
  rw[Nat.add_mul] at this;omega
 have h2:(z*b+y+1)*a≤c*b*a:=ZG a h1
 rw[Nat.add_mul] at h2;omega
theorem vL{n a b c:Nat}(hn:n<c*b*a)(ha:0<a)(hb:0<b):eu [n%a,n/a%b,n/a/b%c] [a,b,c] 3=n:=by
 have h1:n/a<c*b:=ZH (by rw[ZB a];exact hn)
 have h2:n/a/b<c:=ZH (by rw[ZB b];exact h1)
 rw[Fc,ZN,ZO,ZL h2]
 have h3:=ZM (n/a) b
 have h4:=ZM n a
 rw[ZB (n/a/b),h3,ZB (n/a),h4]
section
variable {R S B M C way p:Nat}
theorem pG(hG:cM R S B M C)(hp:p<R*B*M):gZ R S B M C (aF way R B M p) (ed way R B M p) (ec way R B M p) 0:=by
 have hb:=hG.bd
 have h1:=hb.r1;have h2:=hb.b1;have h3:=hb.m1;have h4:=hb.c1
 have hR:aF way R B M p<R:=by
  match way with
  | 0=>exact Zz _ h1
  | 1=>exact Zz _ h1
  | w+2=>exact Zz p h1
 have hW:ec way R B M p<M:=by
  match way with
  | 0=>exact Zz p h3
  | 1=>exact Zz _ h3
  | w+2=>exact Zz _ h3
 refine⟨by omega,?_,hW,by omega⟩
 match way with
 | 0=>exact Zz _ h2
 | 1=>exact Zz _ h2
 | 2=>exact Zz _ h2
 | w+3=>exact qC hG.pow (Zz (p/R) h2)
theorem nP(hG:cM R S B M C):aF way R B M p<R:=by
 have h1:=hG.bd.r1
 match way with
 | 0=>exact Zz _ h1
 | 1=>exact Zz _ h1
 | w+2=>exact Zz p h1
theorem zx(hG:cM R S B M C)(hp:p<R*B*M):mt way R B M (aF way R B M p) (ed way R B M p) (ec way R B M p)=p:=by
 have hb:=hG.bd
 have h1:=hb.r1;have h2:=hb.b1;have h3:=hb.m1
 have e1:R*B*M=M*B*R:=by rw[ZB (R*B),ZB R,←ZD]
 have e2:R*B*M=R*M*B:=by rw[ZD,ZB B,ZD]
 match way with
 | 0=>exact vL hp h3 h2
 | 1=>exact vL (e2▸hp) h2 h3
 | 2=>exact vL (e1▸hp) h1 h2
 | w+3=>
  show eu [p%R,fP B (p/R/B%M) (fP B (p/R/B%M) (p/R%B)),p/R/B%M] [R,B,M] 3=p
  rw[QA]
  exact vL (e1▸hp) h1 h2
theorem QB(hG:cM R S B M C)(hp:p<R*B*M):iu way R B M p<131072:=by
 have:=zu hG.bd (pG (way:=way) hG hp)
 unfold iu;omega
theorem QC(d bs:List Nat): ∀j k,j≤k→k≤3→bs.length=3→(∀i,i<3→1≤bs.getD i 0)→eu d bs j≤eu d bs k:=by
 intro j k hjk
 induction hjk with
 | refl=>intros;exact ZI _
 | @step k h ih=>
  intro hk hl hb
  refine ZF (ih Om hl hb) ?_
  show eu d bs k≤eu d bs k*bs.getD (bs.length-1-k) 0+_
  have:=Nat.le_mul_of_pos_right (eu d bs k) (hb (bs.length-1-k) Om)
  omega
theorem vM{x y z a b c:Nat}(hx:x<a)(hy:y<b)(hz:z<c)(hm:c*b*a≤1000000)(k:Nat)(hk:k≤[a,b,c].length):eu [x,y,z] [a,b,c] k≤1000000:=by
 have h1:=s9 hx hy hz
 refine ZF (QC _ _ k 3 hk (ZI _) rfl λi hi=>?_) Om
 match i with
 | 0=>exact ZA (ZJ _) hx
 | 1=>exact ZA (ZJ _) hy
 | 2=>exact ZA (ZJ _) hz
theorem zy:iu way R B M p=aF way R B M p*16384+ed way R B M p*1024+ec way R B M p:=by unfold iu bJ;omega
end
end Go.Proofs.YtbcodenfkijdnaaGreat.E
namespace Go.Proofs.YtbcodenfkijdnaaGreat.E
open Go Go.RowKit Go.Shelf
open Bool renaming or_eq_false_iff→Zz
open Nat renaming mul_assoc→ZA,mul_comm→ZB,and_le_right→ZI
open Go.Proofs.Tryz renaming prog→ZC
open List renaming getD_eq_getElem?_getD→ZD,length_take→ZE,length_map→ZF,getElem?_eq_getElem→ZG,drop_eq_getElem_cons→ZH,replicate→ZJ
theorem zA(r s b m c way:Int):aa ZC 134 #[.agg #[i6 r,i6 s,i6 b,i6 m,i6 c],i6 way] [] [] N0 (λ_=> .bool (((jx r s b m c)&&(decide (0≤way)))&&(decide (way<4)))):=by
 refine fG Tryz.func134 λw cs=>?_
 refine ra (λq1=>[(2,pt (B0 q1) 0),(4,.bool false)]) (λq1=>[ob (B0 q1) #[i6 r,i6 s,i6 b,i6 m,i6 c] 23]) λq1=>r0 [(0,.l 0),(1,.c [] [] (E0 r s b m c))] [(4,.bool (((jx r s b m c)&&(decide (0≤way)))&&(decide (way<4))))] [4] ?_
 exact am (.bool (((jx r s b m c)&&(decide (0≤way)))&&(decide (way<4)))) ab.zero bh [] [] []
theorem nQ(R S B M C:Nat)(hG:cM R S B M C)(way:Nat)(hw:way<4):aa ZC 134 #[.agg #[iN R,iN S,iN B,iN M,iN C],iN way] [] [] N0 (λ_=> .bool true):=by
 have h:=zA R S B M C way
 rwa [hG.ok,cC Om,cC Om] at h
theorem vN(v:Value)(n:Nat)(ms:List Nat)(hn:n≤1000000)(hl:ms.length≤1000)(hb: ∀k,k<ms.length→1≤ms.getD k 0∧ms.getD k 0≤1000000):aa ZC 146 #[iN n,v] [.p (aK s6 v ms)] [] (λE=>[bP (E.val 0) (aE n ms ms.length)]) (λE=>(E.val 0)):=by
 refine fO Tryz.func146 0 rfl λbq0 hq0=>?_
 refine fG Tryz.func146 λw cs=>?_
 refine r0 [] [(4,.slice none 0 0)] [] (r0 [] [(5,.slice none 0 0)] [] (r0 [(1,eR hq0.1 0)] [(8,v),(9,iN ms.length),(10,i6 0)] [] ?_))
 refine cz cu ?_
 refine mN (λk _=>k≤ms.length) (λk vS5=>[(0,i6 ((jy n ms k:Nat):Int)),(10,iN k),(5,vS5)]) (λk vS5 L=>L.set 1 (bP vS5 (aE n ms k))) (λk _=>ms.length-k) 0 (.slice none 0 0) Om Kr Kr (λk vS5 hk4=>?_)
 have hd:=Qv n ms k
 have hdl:=Qx n ms k
 refine r0 [] [(11,.bool (decide ((k:Int)<(ms.length:Int))))] [] ?_
 refine cj (k:Int) (ms.length:Int) (λh6 dh6=>?_) λh6 dh6=>?_
 ·refine r0 [(0,fF hq0.1 0 k 1),(1,jr cu hq0.1 0 k 0)] [(7,i6 (((ms.getD k 0):Nat):Int))] [] ?_
  have hbk:=hb k Om
  refine rr (λ_=>[(3,.t (tb (a:=i6 ((jy n ms k:Nat):Int)) (b:=i6 (((ms.getD k 0):Nat):Int)) λ_ _ _ _=>om (a:=jy n ms k) (d:=(ms.getD k 0)) Om)),(4,.m (bs 2 1)),(5,fD cu (vS5) (aE n ms k) 1 2 ([(jy n ms k)%(ms.getD k 0)]))]) (λq8=>[(5,(q8 5).val 0)]) [5] (λq8 L=>L.set 1 (bP ((q8 5).val 0) ((aE n ms k)++([(jy n ms k)%(ms.getD k 0)])))++[ob (B4 q8) #[i6 (((jy n ms k)%(ms.getD k 0):Nat):Int)] 3]) λq8=>r0 [(2,.t (tb (a:=i6 ((jy n ms k:Nat):Int)) (b:=i6 (((ms.getD k 0):Nat):Int)) λ_ _ _ _=>o8 (a:=jy n ms k) (d:=(ms.getD k 0)) Om Om))] [(0,i6 (((jy n ms k)/(ms.getD k 0):Nat):Int))] [0] (r0 [(0,ad k 1)] [(10,i6 ((k+1:Nat):Int))] [10] ?_)
  exact lE (k+1) ((q8 5).val 0) Om Om (by rw[Qu Om];kernel_rfl) [0,1] (by rw[Qw];kernel_rfl)
 obtain rfl:ms.length=k:=by omega
 refine lF ?_
 exact r0 [] [(4,vS5)] [4] (lf (.l [] [] [vS5]) [1] [(0,0)] [])
theorem vO(v u:Value)(d ms:List Nat)(hl:ms.length≤1000)(hd:d.length=ms.length)(hb: ∀k,k≤ms.length→eu d ms k≤1000000):aa ZC 145 #[v,u] [.p (aK s6 v d),.p (aK s6 u ms)] [] N0 (λ_=>i6 ((eu d ms ms.length:Nat):Int)):=by
 refine fO Tryz.func145 0 rfl λbq0 hq0=>?_
 refine fO Tryz.func145 1 rfl λbq1 hq1=>?_
 refine fG Tryz.func145 λw cs=>?_
 refine r0 [] [(4,i6 0)] [] (r0 [] [(5,i6 0)] [] (r0 [(1,eR hq1.1 1),(2,sI (ms.length:Int) (1) Om)] [(6,i6 ((ms.length:Int)-1))] [] ?_))
 refine lq (λk=>k≤ms.length) (λk=>[(5,i6 ((eu d ms k:Nat):Int)),(6,i6 (((ms.length:Nat):Int)-1-((k:Nat):Int)))]) (λ_ L=>L) (λk=>ms.length-k) 0 Om (by rw[show((ms.length:Nat):Int)-1-((0:Nat):Int)=(ms.length:Int)-1 by omega];kernel_rfl) Kr (λk hk4=>?_)
 refine r0 [] [(11,.bool (decide (0≤(((ms.length:Nat):Int)-1-((k:Nat):Int)))))] [] ?_
 refine pd 0 (((ms.length:Nat):Int)-1-((k:Nat):Int)) (λh6 dh6=>?_) λh6 dh6=>?_
 ·have hbk:=hb (k+1) Om
  have hbk2:eu d ms (k+1)=eu d ms k*ms.getD (ms.length-1-k) 0+d.getD (ms.length-1-k) 0:=rfl
  refine r0 [(2,.t (tk (show i6 (((ms.length:Nat):Int)-1-((k:Nat):Int))=i6 ((ms.length-1-k:Nat):Int) from ALca (Value.int .i64) Om))),(3,fF hq1.1 1 (ms.length-1-k) 1),(4,jr cu hq1.1 1 (ms.length-1-k) 0),(5,ml (eu d ms k) (ms.getD (ms.length-1-k) 0)),(7,.t (tk (show i6 (((ms.length:Nat):Int)-1-((k:Nat):Int))=i6 ((ms.length-1-k:Nat):Int) from ALca (Value.int .i64) Om))),(8,fF hq0.1 0 (ms.length-1-k) 1),(9,jr cu hq0.1 0 (ms.length-1-k) 0),(10,ad ((eu d ms k)*(ms.getD (ms.length-1-k) 0)) (d.getD (ms.length-1-k) 0))] [(5,i6 ((((eu d ms k)*(ms.getD (ms.length-1-k) 0))+(d.getD (ms.length-1-k) 0):Nat):Int))] [5] (r0 [(1,sI (((ms.length:Nat):Int)-1-((k:Nat):Int)) (1) Om)] [(6,i6 ((((ms.length:Nat):Int)-1-((k:Nat):Int))-1))] [6] ?_)
  exact le (k+1) Om Om (by rw[show(((ms.length:Nat):Int)-1-((k+1:Nat):Int))=((ms.length:Nat):Int)-1-((k:Nat):Int)-1 by omega];kernel_rfl) [0,1] Kr
 obtain rfl:k=ms.length:=by omega
 refine lx ?_
 exact r0 [] [(4,i6 ((eu d ms ms.length:Nat):Int))] [4] (lf ab.zero [] [(0,0),(1,1)] [])
theorem QD(R S B M C:Nat)(hG:cM R S B M C)(p:Nat)(hp:p<R*B*M):aa ZC 122 #[.agg #[iN R,iN S,iN B,iN M,iN C],i6 0,iN p] [] [] N0 (λ_=> .tuple #[i6 ((iu 0 R B M p:Nat):Int),i6 0]):=by
 have hB:=hG.bd
 have h0:=hB.rbm
 have hr:=hB.r8
 have hb1:=hB.b16
 have hb2:=hB.b1
 have hm1:=hB.m10
 have hm2:=hB.m1
 have hr1:=hB.r1
 have hc1:=hB.c1
 have hdl:(aE p [M,B,R] [M,B,R].length).length=3:=rfl
 refine fG Tryz.func122 λw cs=>?_
 refine ra (λq1=>[(3,pt (B0 q1) 0),(6,i6 0),(7,i6 0)]) (λq1=>[ob (B0 q1) #[iN R,iN S,iN B,iN M,iN C] 23]) λq1=>r0 [(0,.m (ls 0 ([iN R,iN S,iN B,iN M,iN C]))),(2,.c [] [] (nQ R S B M C hG 0 Om)),(10,.m (ls 0 ([iN R,iN S,iN B,iN M,iN C]))),(11,.c [] [] (mU R S B M C hG))] [(27,.bool ((decide ((p:Int)<0))||(decide ((((R*B)*M:Nat):Int)≤(p:Int)))))] [] ?_
 have h3:((decide ((p:Int)<0))||(decide ((((R*B)*M:Nat):Int)≤(p:Int))))=false:=(by rw[Zz];exact⟨bj Om,bj Om⟩)
 refine cF ((decide ((p:Int)<0))||(decide ((((R*B)*M:Nat):Int)≤(p:Int)))) h3 (ra (λq4=>[(8,pt (B0 q4) 0)]) (λq4=>[ob (B0 q4) #[i6 0,i6 0,i6 0,i6 0] 46]) λq4=>r0 [] [(28,i6 0)] [] (rT [] 50 (rr (λq7=>[(2,.l 0),(4,.l 0),(6,.l 0),(7,ip cu 2 3 [M,B,R]),(8,.c [2] [3] (aa.at (rd':=[bP (.slice (some ⟨(q7 7).ZK 0,0,none⟩) 3 3) ([M,B,R])]) (vN (.slice (some ⟨(q7 7).ZK 0,0,none⟩) 3 3) p ([M,B,R]) Om (by simp) (λk hk=>by rcases k with _ | _ | _ | k<;>first | exact⟨by first | assumption,by simp;omega⟩ | (simp at hk;omega))) (bO (λ_ h=>ap.sq h) (λ_ h=>h))))]) (λq7=>[(9,((q7 8).val 0))]) [] (λq7 L=>L++[bP (.slice (some ⟨(q7 7).ZK 0,0,none⟩) 3 3) ([M,B,R]),bP ((q7 8).val 0) (aE p ([M,B,R]) ([M,B,R]).length)]) λq7=>rs [(1,cU cu ((q7 8).val 0) (aE p ([M,B,R]) ([M,B,R]).length) 3 0),(2,fg cu ((q7 8).val 0) (aE p ([M,B,R]) ([M,B,R]).length) 3 0 0),(4,cU cu ((q7 8).val 0) (aE p ([M,B,R]) ([M,B,R]).length) 3 1),(5,fg cu ((q7 8).val 0) (aE p ([M,B,R]) ([M,B,R]).length) 3 1 0),(7,cU cu ((q7 8).val 0) (aE p ([M,B,R]) ([M,B,R]).length) 3 2),(8,fg cu ((q7 8).val 0) (aE p ([M,B,R]) ([M,B,R]).length) 3 2 0),(10,.s 1),(12,.s 1),(14,.s 1)] 1 (ob (B0 q4) #[i6 ((((aE p ([M,B,R]) ([M,B,R]).length).getD 2 0):Nat):Int),i6 ((((aE p ([M,B,R]) ([M,B,R]).length).getD 1 0):Nat):Int),i6 ((((aE p ([M,B,R]) ([M,B,R]).length).getD 0 0):Nat):Int),i6 0] 46) ?_)))
 refine rF [] 97 (r0 [(0,.l 0),(1,.l 1),(2,.c [] [] (s7 hG (pG (way:=0) hG hp)))] [(12,i6 ((bJ ((aE p ([M,B,R]) ([M,B,R]).length).getD 2 0) ((aE p ([M,B,R]) ([M,B,R]).length).getD 1 0) ((aE p ([M,B,R]) ([M,B,R]).length).getD 0 0) 0:Nat):Int)),(13,i6 0)] [] (r0 [(1,.t (tb (a:=i6 ((bJ ((aE p ([M,B,R]) ([M,B,R]).length).getD 2 0) ((aE p ([M,B,R]) ([M,B,R]).length).getD 1 0) ((aE p ([M,B,R]) ([M,B,R]).length).getD 0 0) 0:Nat):Int)) (b:=u6 6) λ_ _ _ _=>i8 6 Dc))] [(6,i6 (((bJ ((aE p ([M,B,R]) ([M,B,R]).length).getD 2 0) ((aE p ([M,B,R]) ([M,B,R]).length).getD 1 0) ((aE p ([M,B,R]) ([M,B,R]).length).getD 0 0) 0:Nat):Int)/64)),(7,i6 0)] [6,7] ?_))
 exact am (.tuple #[i6 (((bJ ((aE p ([M,B,R]) ([M,B,R]).length).getD 2 0) ((aE p ([M,B,R]) ([M,B,R]).length).getD 1 0) ((aE p ([M,B,R]) ([M,B,R]).length).getD 0 0) 0:Nat):Int)/64),i6 0]) ab.zero bh [] [] []
theorem QE(R S B M C:Nat)(hG:cM R S B M C)(p:Nat)(hp:p<R*B*M):aa ZC 122 #[.agg #[iN R,iN S,iN B,iN M,iN C],i6 1,iN p] [] [] N0 (λ_=> .tuple #[i6 ((iu 1 R B M p:Nat):Int),i6 0]):=by
 have hB:=hG.bd
 have h0:=hB.rbm
 have hr:=hB.r8
 have hb1:=hB.b16
 have hb2:=hB.b1
 have hm1:=hB.m10
 have hm2:=hB.m1
 have hr1:=hB.r1
 have hc1:=hB.c1
 have hdl:(aE p [B,M,R] [B,M,R].length).length=3:=rfl
 refine fG Tryz.func122 λw cs=>?_
 refine ra (λq1=>[(3,pt (B0 q1) 0),(6,i6 0),(7,i6 0)]) (λq1=>[ob (B0 q1) #[iN R,iN S,iN B,iN M,iN C] 23]) λq1=>r0 [(0,.m (ls 0 ([iN R,iN S,iN B,iN M,iN C]))),(2,.c [] [] (nQ R S B M C hG 1 Om)),(10,.m (ls 0 ([iN R,iN S,iN B,iN M,iN C]))),(11,.c [] [] (mU R S B M C hG))] [(27,.bool ((decide ((p:Int)<0))||(decide ((((R*B)*M:Nat):Int)≤(p:Int)))))] [] ?_
 have h3:((decide ((p:Int)<0))||(decide ((((R*B)*M:Nat):Int)≤(p:Int))))=false:=(by rw[Zz];exact⟨bj Om,bj Om⟩)
 refine cF ((decide ((p:Int)<0))||(decide ((((R*B)*M:Nat):Int)≤(p:Int)))) h3 (ra (λq4=>[(8,pt (B0 q4) 0)]) (λq4=>[ob (B0 q4) #[i6 0,i6 0,i6 0,i6 0] 46]) λq4=>r0 [] [(28,i6 1)] [] (rF [] 50 (rT [] 73 (rr (λq8=>[(2,.l 0),(4,.l 0),(6,.l 0),(7,ip cu 2 3 [B,M,R]),(8,.c [2] [3] (aa.at (rd':=[bP (.slice (some ⟨(q8 7).ZK 0,0,none⟩) 3 3) ([B,M,R])]) (vN (.slice (some ⟨(q8 7).ZK 0,0,none⟩) 3 3) p ([B,M,R]) Om (by simp) (λk hk=>by rcases k with _ | _ | _ | k<;>first | exact⟨by first | assumption,by simp;omega⟩ | (simp at hk;omega))) (bO (λ_ h=>ap.sq h) (λ_ h=>h))))]) (λq8=>[(10,((q8 8).val 0))]) [] (λq8 L=>L++[bP (.slice (some ⟨(q8 7).ZK 0,0,none⟩) 3 3) ([B,M,R]),bP ((q8 8).val 0) (aE p ([B,M,R]) ([B,M,R]).length)]) λq8=>?_))))
 refine rs [(1,cU cu ((q8 8).val 0) (aE p ([B,M,R]) ([B,M,R]).length) 3 0),(2,fg cu ((q8 8).val 0) (aE p ([B,M,R]) ([B,M,R]).length) 3 0 0),(4,cU cu ((q8 8).val 0) (aE p ([B,M,R]) ([B,M,R]).length) 3 1),(5,fg cu ((q8 8).val 0) (aE p ([B,M,R]) ([B,M,R]).length) 3 1 0),(7,cU cu ((q8 8).val 0) (aE p ([B,M,R]) ([B,M,R]).length) 3 2),(8,fg cu ((q8 8).val 0) (aE p ([B,M,R]) ([B,M,R]).length) 3 2 0),(10,.s 1),(12,.s 1),(14,.s 1)] 1 (ob (B0 q4) #[i6 ((((aE p ([B,M,R]) ([B,M,R]).length).getD 2 0):Nat):Int),i6 ((((aE p ([B,M,R]) ([B,M,R]).length).getD 0 0):Nat):Int),i6 ((((aE p ([B,M,R]) ([B,M,R]).length).getD 1 0):Nat):Int),i6 0] 46) (rF [] 97 (r0 [(0,.l 0),(1,.l 1),(2,.c [] [] (s7 hG (pG (way:=1) hG hp)))] [(12,i6 ((bJ ((aE p ([B,M,R]) ([B,M,R]).length).getD 2 0) ((aE p ([B,M,R]) ([B,M,R]).length).getD 0 0) ((aE p ([B,M,R]) ([B,M,R]).length).getD 1 0) 0:Nat):Int)),(13,i6 0)] [] (r0 [(1,.t (tb (a:=i6 ((bJ ((aE p ([B,M,R]) ([B,M,R]).length).getD 2 0) ((aE p ([B,M,R]) ([B,M,R]).length).getD 0 0) ((aE p ([B,M,R]) ([B,M,R]).length).getD 1 0) 0:Nat):Int)) (b:=u6 6) λ_ _ _ _=>i8 6 Dc))] [(6,i6 (((bJ ((aE p ([B,M,R]) ([B,M,R]).length).getD 2 0) ((aE p ([B,M,R]) ([B,M,R]).length).getD 0 0) ((aE p ([B,M,R]) ([B,M,R]).length).getD 1 0) 0:Nat):Int)/64)),(7,i6 0)] [6,7] ?_)))
 exact am (.tuple #[i6 (((bJ ((aE p ([B,M,R]) ([B,M,R]).length).getD 2 0) ((aE p ([B,M,R]) ([B,M,R]).length).getD 0 0) ((aE p ([B,M,R]) ([B,M,R]).length).getD 1 0) 0:Nat):Int)/64),i6 0]) ab.zero bh [] [] []
theorem QF(R S B M C:Nat)(hG:cM R S B M C)(p:Nat)(hp:p<R*B*M):aa ZC 122 #[.agg #[iN R,iN S,iN B,iN M,iN C],i6 2,iN p] [] [] N0 (λ_=> .tuple #[i6 ((iu 2 R B M p:Nat):Int),i6 0]):=by
 have hB:=hG.bd
 have h0:=hB.rbm
 have hr:=hB.r8
 have hb1:=hB.b16
 have hb2:=hB.b1
 have hm1:=hB.m10
 have hm2:=hB.m1
 have hr1:=hB.r1
 have hc1:=hB.c1
 have hdl:(aE p [R,B,M] [R,B,M].length).length=3:=rfl
 refine fG Tryz.func122 λw cs=>?_
 refine ra (λq1=>[(3,pt (B0 q1) 0),(6,i6 0),(7,i6 0)]) (λq1=>[ob (B0 q1) #[iN R,iN S,iN B,iN M,iN C] 23]) λq1=>r0 [(0,.m (ls 0 ([iN R,iN S,iN B,iN M,iN C]))),(2,.c [] [] (nQ R S B M C hG 2 Om)),(10,.m (ls 0 ([iN R,iN S,iN B,iN M,iN C]))),(11,.c [] [] (mU R S B M C hG))] [(27,.bool ((decide ((p:Int)<0))||(decide ((((R*B)*M:Nat):Int)≤(p:Int)))))] [] ?_
 have h3:((decide ((p:Int)<0))||(decide ((((R*B)*M:Nat):Int)≤(p:Int))))=false:=(by rw[Zz];exact⟨bj Om,bj Om⟩)
 refine cF ((decide ((p:Int)<0))||(decide ((((R*B)*M:Nat):Int)≤(p:Int)))) h3 (ra (λq4=>[(8,pt (B0 q4) 0)]) (λq4=>[ob (B0 q4) #[i6 0,i6 0,i6 0,i6 0] 46]) λq4=>r0 [] [(28,i6 2)] [] (rF [] 50 (rF [] 73 (rr (λq8=>[(2,.l 0),(4,.l 0),(6,.l 0),(7,ip cu 2 3 [R,B,M]),(8,.c [2] [3] (aa.at (rd':=[bP (.slice (some ⟨(q8 7).ZK 0,0,none⟩) 3 3) ([R,B,M])]) (vN (.slice (some ⟨(q8 7).ZK 0,0,none⟩) 3 3) p ([R,B,M]) Om (by simp) (λk hk=>by rcases k with _ | _ | _ | k<;>first | exact⟨by first | assumption,by simp;omega⟩ | (simp at hk;omega))) (bO (λ_ h=>ap.sq h) (λ_ h=>h))))]) (λq8=>[(11,((q8 8).val 0))]) [] (λq8 L=>L++[bP (.slice (some ⟨(q8 7).ZK 0,0,none⟩) 3 3) ([R,B,M]),bP ((q8 8).val 0) (aE p ([R,B,M]) ([R,B,M]).length)]) λq8=>?_))))
 refine rs [(1,cU cu ((q8 8).val 0) (aE p ([R,B,M]) ([R,B,M]).length) 3 0),(2,fg cu ((q8 8).val 0) (aE p ([R,B,M]) ([R,B,M]).length) 3 0 0),(4,cU cu ((q8 8).val 0) (aE p ([R,B,M]) ([R,B,M]).length) 3 1),(5,fg cu ((q8 8).val 0) (aE p ([R,B,M]) ([R,B,M]).length) 3 1 0),(7,cU cu ((q8 8).val 0) (aE p ([R,B,M]) ([R,B,M]).length) 3 2),(8,fg cu ((q8 8).val 0) (aE p ([R,B,M]) ([R,B,M]).length) 3 2 0),(10,.s 1),(12,.s 1),(14,.s 1)] 1 (ob (B0 q4) #[i6 ((((aE p ([R,B,M]) ([R,B,M]).length).getD 0 0):Nat):Int),i6 ((((aE p ([R,B,M]) ([R,B,M]).length).getD 1 0):Nat):Int),i6 ((((aE p ([R,B,M]) ([R,B,M]).length).getD 2 0):Nat):Int),i6 0] 46) (rF [] 97 (r0 [(0,.l 0),(1,.l 1),(2,.c [] [] (s7 hG (pG (way:=2) hG hp)))] [(12,i6 ((bJ ((aE p ([R,B,M]) ([R,B,M]).length).getD 0 0) ((aE p ([R,B,M]) ([R,B,M]).length).getD 1 0) ((aE p ([R,B,M]) ([R,B,M]).length).getD 2 0) 0:Nat):Int)),(13,i6 0)] [] (r0 [(1,.t (tb (a:=i6 ((bJ ((aE p ([R,B,M]) ([R,B,M]).length).getD 0 0) ((aE p ([R,B,M]) ([R,B,M]).length).getD 1 0) ((aE p ([R,B,M]) ([R,B,M]).length).getD 2 0) 0:Nat):Int)) (b:=u6 6) λ_ _ _ _=>i8 6 Dc))] [(6,i6 (((bJ ((aE p ([R,B,M]) ([R,B,M]).length).getD 0 0) ((aE p ([R,B,M]) ([R,B,M]).length).getD 1 0) ((aE p ([R,B,M]) ([R,B,M]).length).getD 2 0) 0:Nat):Int)/64)),(7,i6 0)] [6,7] ?_)))
 exact am (.tuple #[i6 (((bJ ((aE p ([R,B,M]) ([R,B,M]).length).getD 0 0) ((aE p ([R,B,M]) ([R,B,M]).length).getD 1 0) ((aE p ([R,B,M]) ([R,B,M]).length).getD 2 0) 0:Nat):Int)/64),i6 0]) ab.zero bh [] [] []
theorem QG(R S B M C:Nat)(hG:cM R S B M C)(p:Nat)(hp:p<R*B*M):aa ZC 122 #[.agg #[iN R,iN S,iN B,iN M,iN C],i6 3,iN p] [] [] N0 (λ_=> .tuple #[i6 ((iu 3 R B M p:Nat):Int),i6 0]):=by
 have hB:=hG.bd
 have h0:=hB.rbm
 have hr:=hB.r8
 have hb1:=hB.b16
 have hb2:=hB.b1
 have hm1:=hB.m10
 have hm2:=hB.m1
 have hr1:=hB.r1
 have hc1:=hB.c1
 have hdl:(aE p [R,B,M] [R,B,M].length).length=3:=rfl
 refine fG Tryz.func122 λw cs=>?_
 refine ra (λq1=>[(3,pt (B0 q1) 0),(6,i6 0),(7,i6 0)]) (λq1=>[ob (B0 q1) #[iN R,iN S,iN B,iN M,iN C] 23]) λq1=>r0 [(0,.m (ls 0 ([iN R,iN S,iN B,iN M,iN C]))),(2,.c [] [] (nQ R S B M C hG 3 Om)),(10,.m (ls 0 ([iN R,iN S,iN B,iN M,iN C]))),(11,.c [] [] (mU R S B M C hG))] [(27,.bool ((decide ((p:Int)<0))||(decide ((((R*B)*M:Nat):Int)≤(p:Int)))))] [] ?_
 have h3:((decide ((p:Int)<0))||(decide ((((R*B)*M:Nat):Int)≤(p:Int))))=false:=(by rw[Zz];exact⟨bj Om,bj Om⟩)
 refine cF ((decide ((p:Int)<0))||(decide ((((R*B)*M:Nat):Int)≤(p:Int)))) h3 (ra (λq4=>[(8,pt (B0 q4) 0)]) (λq4=>[ob (B0 q4) #[i6 0,i6 0,i6 0,i6 0] 46]) λq4=>r0 [] [(28,i6 3)] [] (rF [] 50 (rF [] 73 (rr (λq8=>[(2,.l 0),(4,.l 0),(6,.l 0),(7,ip cu 2 3 [R,B,M]),(8,.c [2] [3] (aa.at (rd':=[bP (.slice (some ⟨(q8 7).ZK 0,0,none⟩) 3 3) ([R,B,M])]) (vN (.slice (some ⟨(q8 7).ZK 0,0,none⟩) 3 3) p ([R,B,M]) Om (by simp) (λk hk=>by rcases k with _ | _ | _ | k<;>first | exact⟨by first | assumption,by simp;omega⟩ | (simp at hk;omega))) (bO (λ_ h=>ap.sq h) (λ_ h=>h))))]) (λq8=>[(11,((q8 8).val 0))]) [] (λq8 L=>L++[bP (.slice (some ⟨(q8 7).ZK 0,0,none⟩) 3 3) ([R,B,M]),bP ((q8 8).val 0) (aE p ([R,B,M]) ([R,B,M]).length)]) λq8=>?_))))
 refine rs [(1,cU cu ((q8 8).val 0) (aE p ([R,B,M]) ([R,B,M]).length) 3 0),(2,fg cu ((q8 8).val 0) (aE p ([R,B,M]) ([R,B,M]).length) 3 0 0),(4,cU cu ((q8 8).val 0) (aE p ([R,B,M]) ([R,B,M]).length) 3 1),(5,fg cu ((q8 8).val 0) (aE p ([R,B,M]) ([R,B,M]).length) 3 1 0),(7,cU cu ((q8 8).val 0) (aE p ([R,B,M]) ([R,B,M]).length) 3 2),(8,fg cu ((q8 8).val 0) (aE p ([R,B,M]) ([R,B,M]).length) 3 2 0),(10,.s 1),(12,.s 1),(14,.s 1)] 1 (ob (B0 q4) #[i6 ((((aE p ([R,B,M]) ([R,B,M]).length).getD 0 0):Nat):Int),i6 ((((aE p ([R,B,M]) ([R,B,M]).length).getD 1 0):Nat):Int),i6 ((((aE p ([R,B,M]) ([R,B,M]).length).getD 2 0):Nat):Int),i6 0] 46) (rT [] 97 ?_)
 have q1:(aE p [R,B,M] [R,B,M].length).getD 2 0<M:=Nat.mod_lt _ hm2
 have q2:(aE p [R,B,M] [R,B,M].length).getD 1 0<B:=Nat.mod_lt _ hb2
 have q3:(aE p [R,B,M] 3).getD 2 0&&& (B-1)≤B-1:=ZI
 refine rs [(1,.l 1),(3,.l 1),(5,.l 0),(6,.t (tb (a:=iN B) (b:=i6 1) λ_ _ _ _=>mo (a:=B) (b:=1) Om Om)),(7,.t (tv (ar .and 3 (.tmp 101) (.tmp 104) (i6 ((((aE p ([R,B,M]) ([R,B,M]).length).getD 2 0):Nat):Int)) (i6 ((B-1:Nat):Int))) (λ_=>E9 _ (B-1) Om Om))),(8,.t (tv (ar .xor 3 (.tmp 99) (.tmp 105) (i6 ((((aE p ([R,B,M]) ([R,B,M]).length).getD 1 0):Nat):Int)) (i6 ((((aE p [R,B,M] 3).getD 2 0)&&& (B-1):Nat):Int))) (λ_=>Fb _ _ Om Om))),(10,.s 1)] 1 (ob (B0 q4) #[i6 ((((aE p ([R,B,M]) ([R,B,M]).length).getD 0 0):Nat):Int),i6 ((fP B ((aE p [R,B,M] 3).getD 2 0) ((aE p [R,B,M] 3).getD 1 0):Nat):Int),i6 ((((aE p ([R,B,M]) ([R,B,M]).length).getD 2 0):Nat):Int),i6 0] 46) (r0 [(0,.l 0),(1,.l 1),(2,.c [] [] (s7 hG (pG (way:=3) hG hp)))] [(12,i6 ((bJ ((aE p ([R,B,M]) ([R,B,M]).length).getD 0 0) (fP B ((aE p [R,B,M] 3).getD 2 0) ((aE p [R,B,M] 3).getD 1 0)) ((aE p ([R,B,M]) ([R,B,M]).length).getD 2 0) 0:Nat):Int)),(13,i6 0)] [] (r0 [(1,.t (tb (a:=i6 ((bJ ((aE p ([R,B,M]) ([R,B,M]).length).getD 0 0) (fP B ((aE p [R,B,M] 3).getD 2 0) ((aE p [R,B,M] 3).getD 1 0)) ((aE p ([R,B,M]) ([R,B,M]).length).getD 2 0) 0:Nat):Int)) (b:=u6 6) λ_ _ _ _=>i8 6 Dc))] [(6,i6 (((bJ ((aE p ([R,B,M]) ([R,B,M]).length).getD 0 0) (fP B ((aE p [R,B,M] 3).getD 2 0) ((aE p [R,B,M] 3).getD 1 0)) ((aE p ([R,B,M]) ([R,B,M]).length).getD 2 0) 0:Nat):Int)/64)),(7,i6 0)] [6,7] ?_))
 exact am (.tuple #[i6 (((bJ ((aE p ([R,B,M]) ([R,B,M]).length).getD 0 0) (fP B ((aE p [R,B,M] 3).getD 2 0) ((aE p [R,B,M] 3).getD 1 0)) ((aE p ([R,B,M]) ([R,B,M]).length).getD 2 0) 0:Nat):Int)/64),i6 0]) ab.zero bh [] [] []
theorem Fd(R S B M C:Nat)(hG:cM R S B M C)(way:Nat)(hw:way<4)(p:Nat)(hp:p<R*B*M):aa ZC 122 #[.agg #[iN R,iN S,iN B,iN M,iN C],iN way,iN p] [] [] N0 (λ_=> .tuple #[i6 ((iu way R B M p:Nat):Int),i6 0]):=by
 match way with
 | 0=>exact QD R S B M C hG p hp
 | 1=>exact QE R S B M C hG p hp
 | 2=>exact QF R S B M C hG p hp
 | 3=>exact QG R S B M C hG p hp
 | w+4=>exact absurd hw Om
theorem QH(R S B M C:Nat)(hG:cM R S B M C)(x0 x1 x2:Nat)(h0:x0<R)(h1:x1<B)(h2:x2<M):aa ZC 121 #[.agg #[iN R,iN S,iN B,iN M,iN C],i6 0,i6 ((x0*16384+x1*1024+x2:Nat):Int)] [] [] N0 (λ_=> .tuple #[i6 ((mt 0 R B M x0 x1 x2:Nat):Int),i6 0]):=by
 have hB:=hG.bd
 have hr:=hB.r8
 have hb1:=hB.b16
 have hm1:=hB.m10
 have hc1:=hB.c1
 have hrb:=hB.rbm
 have e1:M*B*R=R*B*M:=by rw[ZB (R*B),ZB R,←ZA]
 have e2:R*M*B=R*B*M:=by rw[ZA,ZB M,←ZA]
 have hmx:fP B x2 x1<B:=qC hG.pow h1
 have hin:gZ R S B M C x0 x1 x2 0:=⟨by omega,h1,h2,by omega⟩
 refine fG Tryz.func121 λw cs=>?_
 refine ra (λq1=>[(3,pt (B0 q1) 0),(6,i6 0),(7,i6 0)]) (λq1=>[ob (B0 q1) #[iN R,iN S,iN B,iN M,iN C] 23]) λq1=>r0 [(0,.m (ls 0 ([iN R,iN S,iN B,iN M,iN C]))),(2,.c [] [] (nQ R S B M C hG 0 Om)),] [(21,.bool ((decide (((x0*16384+x1*1024+x2:Nat):Int)<0))||(decide (131072≤((x0*16384+x1*1024+x2:Nat):Int)))))] [] ?_
 have h3:((decide (((x0*16384+x1*1024+x2:Nat):Int)<0))||(decide (131072≤((x0*16384+x1*1024+x2:Nat):Int))))=false:=(by rw[Zz];exact⟨bj Om,bj Om⟩)
 refine cF ((decide (((x0*16384+x1*1024+x2:Nat):Int)<0))||(decide (131072≤((x0*16384+x1*1024+x2:Nat):Int)))) h3 (rr (λ_=>[(0,.l 0),(2,.t (tv (ar .shl 3 (.tmp 24) (.const (u6 6)) (i6 ((x0*16384+x1*1024+x2:Nat):Int)) (u6 6)) (λ_=>dU (b:=((bJ x0 x1 x2 0:Nat):Int)) (gb 6 Dc Om Om) (by unfold bJ;omega)))),(3,.c [] [] (s8 hG hin)),(8,.s 1)]) (λq4=>[(8,pt (B7 q4) 0),(9,i6 0)]) [] (λq4 L=>L++[ob (B7 q4) #[iN x0,iN x1,iN x2,i6 0] 46]) λq4=>r0 [(4,.l 1),(6,.l 0)] [(37,.bool (decide ((R:Int)≤(x0:Int))))] [] ?_)
 have h6:(decide ((R:Int)≤(x0:Int)))=false:=bj Om
 refine cF (decide ((R:Int)≤(x0:Int))) h6 (rF [] 39 (r0 [] [(50,i6 0)] [] (rT [] 51 (rr (λq10=>[(1,.m (ld 1 (iN x2))),(3,.m (ld 1 (iN x1))),(5,.m (ld 1 (iN x0))),(6,ip cu 2 3 [x2,x1,x0]),(8,.m (ld 0 (iN M))),(10,.m (ld 0 (iN B))),(12,.m (ld 0 (iN R))),(13,ip cu 3 3 [M,B,R]),(14,.c [2,3] [] (aa.at (rd':=[bP (.slice (some ⟨(q10 6).ZK 0,0,none⟩) 3 3) ([x2,x1,x0]),bP (.slice (some ⟨(q10 13).ZK 0,0,none⟩) 3 3) ([M,B,R])]) (vO (.slice (some ⟨(q10 6).ZK 0,0,none⟩) 3 3) (.slice (some ⟨(q10 13).ZK 0,0,none⟩) 3 3) ([x2,x1,x0]) ([M,B,R]) (by simp) rfl (vM h2 h1 h0 Om)) (bO (λ_ h=>ap.sq h) (bO (λ_ h=>ap.sq h) (λ_ h=>h))))),]) (λ_=>[(6,i6 ((eu ([x2,x1,x0]) ([M,B,R]) ([M,B,R]).length:Nat):Int)),(7,i6 0)]) [6,7] (λq10 L=>L++[bP (.slice (some ⟨(q10 6).ZK 0,0,none⟩) 3 3) ([x2,x1,x0]),bP (.slice (some ⟨(q10 13).ZK 0,0,none⟩) 3 3) ([M,B,R])]) λq10=>?_))))
 exact am (.tuple #[i6 ((eu ([x2,x1,x0]) ([M,B,R]) ([M,B,R]).length:Nat):Int),i6 0]) ab.zero bh [] [] []
theorem QI(R S B M C:Nat)(hG:cM R S B M C)(x0 x1 x2:Nat)(h0:x0<R)(h1:x1<B)(h2:x2<M):aa ZC 121 #[.agg #[iN R,iN S,iN B,iN M,iN C],i6 1,i6 ((x0*16384+x1*1024+x2:Nat):Int)] [] [] N0 (λ_=> .tuple #[i6 ((mt 1 R B M x0 x1 x2:Nat):Int),i6 0]):=by
 have hB:=hG.bd
 have hr:=hB.r8
 have hb1:=hB.b16
 have hm1:=hB.m10
 have hc1:=hB.c1
 have hrb:=hB.rbm
 have e1:M*B*R=R*B*M:=by rw[ZB (R*B),ZB R,←ZA]
 have e2:R*M*B=R*B*M:=by rw[ZA,ZB M,←ZA]
 have hmx:fP B x2 x1<B:=qC hG.pow h1
 have hin:gZ R S B M C x0 x1 x2 0:=⟨by omega,h1,h2,by omega⟩
 refine fG Tryz.func121 λw cs=>?_
 refine ra (λq1=>[(3,pt (B0 q1) 0),(6,i6 0),(7,i6 0)]) (λq1=>[ob (B0 q1) #[iN R,iN S,iN B,iN M,iN C] 23]) λq1=>r0 [(0,.m (ls 0 ([iN R,iN S,iN B,iN M,iN C]))),(2,.c [] [] (nQ R S B M C hG 1 Om)),] [(21,.bool ((decide (((x0*16384+x1*1024+x2:Nat):Int)<0))||(decide (131072≤((x0*16384+x1*1024+x2:Nat):Int)))))] [] ?_
 have h3:((decide (((x0*16384+x1*1024+x2:Nat):Int)<0))||(decide (131072≤((x0*16384+x1*1024+x2:Nat):Int))))=false:=(by rw[Zz];exact⟨bj Om,bj Om⟩)
 refine cF ((decide (((x0*16384+x1*1024+x2:Nat):Int)<0))||(decide (131072≤((x0*16384+x1*1024+x2:Nat):Int)))) h3 (rr (λ_=>[(0,.l 0),(2,.t (tv (ar .shl 3 (.tmp 24) (.const (u6 6)) (i6 ((x0*16384+x1*1024+x2:Nat):Int)) (u6 6)) (λ_=>dU (b:=((bJ x0 x1 x2 0:Nat):Int)) (gb 6 Dc Om Om) (by unfold bJ;omega)))),(3,.c [] [] (s8 hG hin)),(8,.s 1)]) (λq4=>[(8,pt (B7 q4) 0),(9,i6 0)]) [] (λq4 L=>L++[ob (B7 q4) #[iN x0,iN x1,iN x2,i6 0] 46]) λq4=>r0 [(4,.l 1),(6,.l 0)] [(37,.bool (decide ((R:Int)≤(x0:Int))))] [] ?_)
 have h6:(decide ((R:Int)≤(x0:Int)))=false:=bj Om
 refine cF (decide ((R:Int)≤(x0:Int))) h6 (rF [] 39 (r0 [] [(50,i6 1)] [] (rF [] 51 (rT [] 68 (rr (λq11=>[(1,.m (ld 1 (iN x1))),(3,.m (ld 1 (iN x2))),(5,.m (ld 1 (iN x0))),(6,ip cu 2 3 [x1,x2,x0]),(8,.m (ld 0 (iN B))),(10,.m (ld 0 (iN M))),(12,.m (ld 0 (iN R))),(13,ip cu 3 3 [B,M,R]),(14,.c [2,3] [] (aa.at (rd':=[bP (.slice (some ⟨(q11 6).ZK 0,0,none⟩) 3 3) ([x1,x2,x0]),bP (.slice (some ⟨(q11 13).ZK 0,0,none⟩) 3 3) ([B,M,R])]) (vO (.slice (some ⟨(q11 6).ZK 0,0,none⟩) 3 3) (.slice (some ⟨(q11 13).ZK 0,0,none⟩) 3 3) ([x1,x2,x0]) ([B,M,R]) (by simp) rfl (vM h1 h2 h0 Om)) (bO (λ_ h=>ap.sq h) (bO (λ_ h=>ap.sq h) (λ_ h=>h))))),]) (λ_=>[(6,i6 ((eu ([x1,x2,x0]) ([B,M,R]) ([B,M,R]).length:Nat):Int)),(7,i6 0)]) [6,7] (λq11 L=>L++[bP (.slice (some ⟨(q11 6).ZK 0,0,none⟩) 3 3) ([x1,x2,x0]),bP (.slice (some ⟨(q11 13).ZK 0,0,none⟩) 3 3) ([B,M,R])]) λq11=>?_)))))
 exact am (.tuple #[i6 ((eu ([x1,x2,x0]) ([B,M,R]) ([B,M,R]).length:Nat):Int),i6 0]) ab.zero bh [] [] []
theorem QJ(R S B M C:Nat)(hG:cM R S B M C)(x0 x1 x2:Nat)(h0:x0<R)(h1:x1<B)(h2:x2<M):aa ZC 121 #[.agg #[iN R,iN S,iN B,iN M,iN C],i6 2,i6 ((x0*16384+x1*1024+x2:Nat):Int)] [] [] N0 (λ_=> .tuple #[i6 ((mt 2 R B M x0 x1 x2:Nat):Int),i6 0]):=by
 have hB:=hG.bd
 have hr:=hB.r8
 have hb1:=hB.b16
 have hm1:=hB.m10
 have hc1:=hB.c1
 have hrb:=hB.rbm
 have e1:M*B*R=R*B*M:=by rw[ZB (R*B),ZB R,←ZA]
 have e2:R*M*B=R*B*M:=by rw[ZA,ZB M,←ZA]
 have hmx:fP B x2 x1<B:=qC hG.pow h1
 have hin:gZ R S B M C x0 x1 x2 0:=⟨by omega,h1,h2,by omega⟩
 refine fG Tryz.func121 λw cs=>?_
 refine ra (λq1=>[(3,pt (B0 q1) 0),(6,i6 0),(7,i6 0)]) (λq1=>[ob (B0 q1) #[iN R,iN S,iN B,iN M,iN C] 23]) λq1=>r0 [(0,.m (ls 0 ([iN R,iN S,iN B,iN M,iN C]))),(2,.c [] [] (nQ R S B M C hG 2 Om)),] [(21,.bool ((decide (((x0*16384+x1*1024+x2:Nat):Int)<0))||(decide (131072≤((x0*16384+x1*1024+x2:Nat):Int)))))] [] ?_
 have h3:((decide (((x0*16384+x1*1024+x2:Nat):Int)<0))||(decide (131072≤((x0*16384+x1*1024+x2:Nat):Int))))=false:=(by rw[Zz];exact⟨bj Om,bj Om⟩)
 refine cF ((decide (((x0*16384+x1*1024+x2:Nat):Int)<0))||(decide (131072≤((x0*16384+x1*1024+x2:Nat):Int)))) h3 (rr (λ_=>[(0,.l 0),(2,.t (tv (ar .shl 3 (.tmp 24) (.const (u6 6)) (i6 ((x0*16384+x1*1024+x2:Nat):Int)) (u6 6)) (λ_=>dU (b:=((bJ x0 x1 x2 0:Nat):Int)) (gb 6 Dc Om Om) (by unfold bJ;omega)))),(3,.c [] [] (s8 hG hin)),(8,.s 1)]) (λq4=>[(8,pt (B7 q4) 0),(9,i6 0)]) [] (λq4 L=>L++[ob (B7 q4) #[iN x0,iN x1,iN x2,i6 0] 46]) λq4=>r0 [(4,.l 1),(6,.l 0)] [(37,.bool (decide ((R:Int)≤(x0:Int))))] [] ?_)
 have h6:(decide ((R:Int)≤(x0:Int)))=false:=bj Om
 refine cF (decide ((R:Int)≤(x0:Int))) h6 (rF [] 39 (r0 [] [(50,i6 2)] [] (rF [] 51 (rF [] 68 (rr (λq11=>[(1,.m (ld 1 (iN x0))),(3,.m (ld 1 (iN x1))),(5,.m (ld 1 (iN x2))),(6,ip cu 2 3 [x0,x1,x2]),(8,.m (ld 0 (iN R))),(10,.m (ld 0 (iN B))),(12,.m (ld 0 (iN M))),(13,ip cu 3 3 [R,B,M]),(14,.c [2,3] [] (aa.at (rd':=[bP (.slice (some ⟨(q11 6).ZK 0,0,none⟩) 3 3) ([x0,x1,x2]),bP (.slice (some ⟨(q11 13).ZK 0,0,none⟩) 3 3) ([R,B,M])]) (vO (.slice (some ⟨(q11 6).ZK 0,0,none⟩) 3 3) (.slice (some ⟨(q11 13).ZK 0,0,none⟩) 3 3) ([x0,x1,x2]) ([R,B,M]) (by simp) rfl (vM h0 h1 h2 Om)) (bO (λ_ h=>ap.sq h) (bO (λ_ h=>ap.sq h) (λ_ h=>h))))),]) (λ_=>[(6,i6 ((eu ([x0,x1,x2]) ([R,B,M]) ([R,B,M]).length:Nat):Int)),(7,i6 0)]) [6,7] (λq11 L=>L++[bP (.slice (some ⟨(q11 6).ZK 0,0,none⟩) 3 3) ([x0,x1,x2]),bP (.slice (some ⟨(q11 13).ZK 0,0,none⟩) 3 3) ([R,B,M])]) λq11=>?_)))))
 exact am (.tuple #[i6 ((eu ([x0,x1,x2]) ([R,B,M]) ([R,B,M]).length:Nat):Int),i6 0]) ab.zero bh [] [] []
theorem QK(R S B M C:Nat)(hG:cM R S B M C)(x0 x1 x2:Nat)(h0:x0<R)(h1:x1<B)(h2:x2<M):aa ZC 121 #[.agg #[iN R,iN S,iN B,iN M,iN C],i6 3,i6 ((x0*16384+x1*1024+x2:Nat):Int)] [] [] N0 (λ_=> .tuple #[i6 ((mt 3 R B M x0 x1 x2:Nat):Int),i6 0]):=by
 have hB:=hG.bd
 have hr:=hB.r8
 have hb1:=hB.b16
 have hm1:=hB.m10
 have hc1:=hB.c1
 have hrb:=hB.rbm
 have e1:M*B*R=R*B*M:=by rw[ZB (R*B),ZB R,←ZA]
 have e2:R*M*B=R*B*M:=by rw[ZA,ZB M,←ZA]
 have hmx:fP B x2 x1<B:=qC hG.pow h1
 have hin:gZ R S B M C x0 x1 x2 0:=⟨by omega,h1,h2,by omega⟩
 refine fG Tryz.func121 λw cs=>?_
 refine ra (λq1=>[(3,pt (B0 q1) 0),(6,i6 0),(7,i6 0)]) (λq1=>[ob (B0 q1) #[iN R,iN S,iN B,iN M,iN C] 23]) λq1=>r0 [(0,.m (ls 0 ([iN R,iN S,iN B,iN M,iN C]))),(2,.c [] [] (nQ R S B M C hG 3 Om)),] [(21,.bool ((decide (((x0*16384+x1*1024+x2:Nat):Int)<0))||(decide (131072≤((x0*16384+x1*1024+x2:Nat):Int)))))] [] ?_
 have h3:((decide (((x0*16384+x1*1024+x2:Nat):Int)<0))||(decide (131072≤((x0*16384+x1*1024+x2:Nat):Int))))=false:=(by rw[Zz];exact⟨bj Om,bj Om⟩)
 refine cF ((decide (((x0*16384+x1*1024+x2:Nat):Int)<0))||(decide (131072≤((x0*16384+x1*1024+x2:Nat):Int)))) h3 (rr (λ_=>[(0,.l 0),(2,.t (tv (ar .shl 3 (.tmp 24) (.const (u6 6)) (i6 ((x0*16384+x1*1024+x2:Nat):Int)) (u6 6)) (λ_=>dU (b:=((bJ x0 x1 x2 0:Nat):Int)) (gb 6 Dc Om Om) (by unfold bJ;omega)))),(3,.c [] [] (s8 hG hin)),(8,.s 1)]) (λq4=>[(8,pt (B7 q4) 0),(9,i6 0)]) [] (λq4 L=>L++[ob (B7 q4) #[iN x0,iN x1,iN x2,i6 0] 46]) λq4=>r0 [(4,.l 1),(6,.l 0)] [(37,.bool (decide ((R:Int)≤(x0:Int))))] [] ?_)
 have h6:(decide ((R:Int)≤(x0:Int)))=false:=bj Om
 refine cF (decide ((R:Int)≤(x0:Int))) h6 (rT [] 39 ?_)
 have q3:x2&&& (B-1)≤B-1:=ZI
 refine rs [(1,.l 1),(3,.l 1),(5,.l 0),(6,.t (tb (a:=iN B) (b:=i6 1) λ_ _ _ _=>mo (a:=B) (b:=1) Om Om)),(7,.t (tv (ar .and 3 (.tmp 43) (.tmp 46) (iN x2) (i6 ((B-1:Nat):Int))) (λ_=>E9 _ (B-1) Om Om))),(8,.t (tv (ar .xor 3 (.tmp 41) (.tmp 47) (iN x1) (i6 ((x2&&& (B-1):Nat):Int))) (λ_=>Fb _ _ Om Om))),(10,.s 1)] 1 (ob (B7 q4) #[iN x0,i6 ((fP B x2 x1:Nat):Int),iN x2,i6 0] 46) (r0 [] [(50,i6 3)] [] (rF [] 51 (rF [] 68 (rr (λq12=>[(1,.m (ld 1 (iN x0))),(3,.m (ld 1 (i6 ((fP B x2 x1:Nat):Int)))),(5,.m (ld 1 (iN x2))),(6,ip cu 2 3 [x0,fP B x2 x1,x2]),(8,.m (ld 0 (iN R))),(10,.m (ld 0 (iN B))),(12,.m (ld 0 (iN M))),(13,ip cu 3 3 [R,B,M]),(14,.c [2,3] [] (aa.at (rd':=[bP (.slice (some ⟨(q12 6).ZK 0,0,none⟩) 3 3) ([x0,fP B x2 x1,x2]),bP (.slice (some ⟨(q12 13).ZK 0,0,none⟩) 3 3) ([R,B,M])]) (vO (.slice (some ⟨(q12 6).ZK 0,0,none⟩) 3 3) (.slice (some ⟨(q12 13).ZK 0,0,none⟩) 3 3) ([x0,fP B x2 x1,x2]) ([R,B,M]) (by simp) rfl (vM h0 hmx h2 Om)) (bO (λ_ h=>ap.sq h) (bO (λ_ h=>ap.sq h) (λ_ h=>h))))),]) (λ_=>[(6,i6 ((eu ([x0,fP B x2 x1,x2]) ([R,B,M]) ([R,B,M]).length:Nat):Int)),(7,i6 0)]) [6,7] (λq12 L=>L++[bP (.slice (some ⟨(q12 6).ZK 0,0,none⟩) 3 3) ([x0,fP B x2 x1,x2]),bP (.slice (some ⟨(q12 13).ZK 0,0,none⟩) 3 3) ([R,B,M])]) λq12=>?_))))
 exact am (.tuple #[i6 ((eu ([x0,fP B x2 x1,x2]) ([R,B,M]) ([R,B,M]).length:Nat):Int),i6 0]) ab.zero bh [] [] []
theorem QL(R S B M C:Nat)(hG:cM R S B M C)(way:Nat)(hw:way<4)(x0 x1 x2:Nat)(h0:x0<R)(h1:x1<B)(h2:x2<M):aa ZC 121 #[.agg #[iN R,iN S,iN B,iN M,iN C],iN way,i6 ((x0*16384+x1*1024+x2:Nat):Int)] [] [] N0 (λ_=> .tuple #[i6 ((mt way R B M x0 x1 x2:Nat):Int),i6 0]):=by
 match way with
 | 0=>exact QH R S B M C hG x0 x1 x2 h0 h1 h2
 | 1=>exact QI R S B M C hG x0 x1 x2 h0 h1 h2
 | 2=>exact QJ R S B M C hG x0 x1 x2 h0 h1 h2
 | 3=>exact QK R S B M C hG x0 x1 x2 h0 h1 h2
 | w+4=>exact absurd hw Om
theorem QM{i n:Int}(h:bQ i n=false)(h0:0≤i):n≤i:=by
 unfold bQ at h
 simp only[Bool.and_eq_false_iff,decide_eq_false_iff_not] at h
 omega
structure iP (R S B M C way res:Nat):Prop where
 ZJ:cM R S B M C
 way:way<4
 r64:res≤64
 rp:res<R*B*M
structure Mp where
 R:Nat
 S:Nat
 B:Nat
 M:Nat
 C:Nat
 way:Nat
 res:Nat
 ZA:List Nat
 ZB:List Bool
 ZC:List Int
 ZH:Nat
 ZI:Nat
abbrev Mp.seen(m:Mp):Nat:=m.R*m.B*m.M-m.res
structure Zr (m:Mp):Prop where
 ly:iP m.R m.S m.B m.M m.C m.way m.res
 ll:m.ZA.length=m.R*m.B*m.M-m.res
 ld:m.ZB.length=m.R*m.B*m.M
 ls:m.ZC.length=m.R
 pg:m.ZH≤m.res
 rk:m.ZI≤m.S
 lv: ∀i,i<m.R*m.B*m.M-m.res→m.ZA.getD i 0<m.R*m.B*m.M
 sp: ∀i,i<m.R→m.ZC.getD i 0= -1∨((m.R:Int)≤m.ZC.getD i 0∧m.ZC.getD i 0<((m.R+m.S:Nat):Int))
abbrev aG(g:Nat)(m:Mp)(L:ah):Prop:=∃v1 v2 v3:Value,L=[ob g #[iN m.R,iN m.S,iN m.B,iN m.M,iN m.C,iN m.way,iN m.res,v1,v2,v3,iN m.ZH,iN m.ZI] 137,bP v1 m.ZA,fj v2 m.ZB,dy v3 m.ZC]
def dM(m:Mp)(r:Nat):Bool:= !(m.ZC.getD r 0== -1)
def kT(m:Mp)(r:Nat):Int:=bif dM m r then m.ZC.getD r 0 else 0
def gO(m:Mp)(p:Nat):Nat:=bif dM m (aF m.way m.R m.B m.M p) then(m.ZC.getD (aF m.way m.R m.B m.M p) 0).toNat else aF m.way m.R m.B m.M p
def bD(m:Mp)(p:Nat):Nat:=gO m p*16384+ed m.way m.R m.B m.M p*1024+ec m.way m.R m.B m.M p
section
variable {m:Mp}
theorem Zr.ZJ(h:Zr m):cM m.R m.S m.B m.M m.C:=h.ly.ZJ
theorem Zr.np(h:Zr m):m.R*m.B*m.M≤4096:=h.ZJ.bd.rbm
theorem Zr.lines(h:Zr m):(m.R*m.B*m.M-m.res)*m.C≤4096:=Nat.le_trans (Nat.mul_le_mul_right _ (Nat.sub_le _ _)) h.ZJ.bd.rbmc
theorem QN(h:Zr m)(p:Nat):gO m p<m.R+m.S:=by
 have h1:=nP (p:=p) (way:=m.way) h.ZJ
 unfold gO
 cases hc:dM m (aF m.way m.R m.B m.M p) with
 | false=>rw[ALcf];omega
 | true=>
  rw[ALct]
  unfold dM at hc
  have hc:m.ZC.getD (aF m.way m.R m.B m.M p) 0≠ -1:=by simpa using hc
  have:=(h.sp _ h1).resolve_left hc
  omega
theorem qD(h:Zr m){p:Nat}(hp:p<m.R*m.B*m.M):gZ m.R m.S m.B m.M m.C (gO m p) (ed m.way m.R m.B m.M p) (ec m.way m.R m.B m.M p) 0:=by
 have h1:=pG (way:=m.way) h.ZJ hp
 exact⟨QN h p,h1.h1,h1.h2,h1.h3⟩
theorem QO(h:Zr m){p:Nat}(hc:dM m (aF m.way m.R m.B m.M p)=true):(iu m.way m.R m.B m.M p:Int)+(kT m (aF m.way m.R m.B m.M p)-(aF m.way m.R m.B m.M p:Int))*2^14=(bD m p:Int):=by
 have h1:=nP (p:=p) (way:=m.way) h.ZJ
 have h2:=hc
 unfold dM at h2
 have h2:m.ZC.getD (aF m.way m.R m.B m.M p) 0≠ -1:=by simpa using h2
 have h3:=(h.sp _ h1).resolve_left h2
 unfold bD gO kT
 rw[hc,ALct,ALct,zy]
 have h4:((m.ZC.getD (aF m.way m.R m.B m.M p) 0).toNat:Int)=m.ZC.getD (aF m.way m.R m.B m.M p) 0:=Int.toNat_of_nonneg Om
 omega
theorem QP{p:Nat}(hc:dM m (aF m.way m.R m.B m.M p)=false):iu m.way m.R m.B m.M p=bD m p:=by
 unfold bD gO
 rw[hc,ALcf,zy]
theorem QQ(h:Zr m){r:Nat}(hr:r<m.R):0≤kT m r∧kT m r<((m.R+m.S:Nat):Int):=by
 unfold kT
 cases hc:dM m r with
 | false=>rw[ALcf];omega
 | true=>
  unfold dM at hc
  have hc:m.ZC.getD r 0≠ -1:=by simpa using hc
  have:=(h.sp _ hr).resolve_left hc
  rw[ALct];omega
theorem Ff(h:Zr m){p:Nat}(hp:p<m.R*m.B*m.M):iu m.way m.R m.B m.M p/16384=aF m.way m.R m.B m.M p:=by
 have h1:=pG (way:=m.way) h.ZJ hp
 have h3:=h.ZJ.bd.b16;have h4:=h.ZJ.bd.m10
 have:=h1.h1;have:=h1.h2
 rw[zy];omega
theorem vP(h:Zr m){p:Nat}(hp:p<m.R*m.B*m.M):bD m p<131072:=by
 have h1:=qD h hp
 have h2:=h.ZJ.bd.r8;have h3:=h.ZJ.bd.b16;have h4:=h.ZJ.bd.m10
 have:=h1.h0;have:=h1.h1;have:=h1.h2
 unfold bD;omega
theorem zB(h:Zr m){n:Nat}(hn:n<(m.R*m.B*m.M-m.res)*m.C):n/m.C<m.R*m.B*m.M-m.res:=Nat.div_lt_of_lt_mul (by rw[ZB m.C];exact hn)
def ao(m:Mp)(n:Nat):Nat:=m.ZA.getD (n/m.C) 0
def cQ(m:Mp)(n:Nat):Nat:=bD m (ao m n)*64+n%m.C
theorem nR(h:Zr m){n:Nat}(hn:n<(m.R*m.B*m.M-m.res)*m.C):ao m n<m.R*m.B*m.M:=h.lv _ (zB h hn)
end
def dD(m:Mp):Bool:= !decide (m.ZH=m.res)
def eh(m:Mp):Bool:= !decide (m.ZI=m.S)
def dN(m:Mp):Nat:=if m.ZH=m.res then 0 else m.seen+m.ZH
def ft(m:Mp):Nat:=if m.ZI=m.S then 0 else m.R+m.ZI
def dG(l:List Nat)(h t k:Nat):List Nat:=((l.take k).map λx=>if x=h then t else x)++l.drop k
theorem Fg(l:List Nat)(h t k:Nat):(dG l h t k).length=l.length:=by unfold dG;rw[List.length_append,ZF,ZE,List.length_drop];omega
theorem QR{l:List Nat}{h t k:Nat}(hk:k<l.length):(dG l h t k).getD k 0=l.getD k 0:=by
 unfold dG
 rw[ZD,List.getElem?_append_right (by rw[ZF,ZE];omega),ZF,ZE,List.getElem?_drop,ZD]
 congr 2;omega
theorem QS(l:List Nat)(h t:Nat):dG l h t 0=l:=by unfold dG;simp
theorem QT(l:List Nat)(h t:Nat):dG l h t l.length=l.map λx=>if x=h then t else x:=by unfold dG;simp
theorem Fh{l:List Nat}{h t k:Nat}(hk:k<l.length):dG l h t (k+1)=((l.take k).map λx=>if x=h then t else x)++(if l.getD k 0=h then t else l.getD k 0)::l.drop (k+1):=by
 unfold dG
 rw[List.take_add_one,ZG hk,List.map_append,List.append_assoc,ZD,ZG hk]
 rfl
theorem QU{l:List Nat}{h t k:Nat}(hk:k<l.length)(e:l.getD k 0=h):(dG l h t k).set k t=dG l h t (k+1):=by
 rw[Fh hk,ALifp e]
 unfold dG
 rw[ZH hk,List.set_append_right _ _ (by rw[ZF,ZE];omega),ZF,ZE,show k-min k l.length=0 by omega]
 rfl
theorem QV{l:List Nat}{h t k:Nat}(hk:k<l.length)(e:l.getD k 0≠h):dG l h t k=dG l h t (k+1):=by
 rw[Fh hk,ALifn e]
 unfold dG
 rw[ZH hk,ZD,ZG hk]
 rfl
theorem QW{l:List Nat}{h t k:Nat}(hk:k<l.length):(bif (((dG l h t k).getD k 0:Nat):Int)==(h:Int) then(dG l h t k).set k t else dG l h t k)=dG l h t (k+1):=by
 rw[QR hk]
 by_cases e:l.getD k 0=h
 ·rw[show(((l.getD k 0:Nat):Int)==(h:Int))=true by rw[e];exact beq_self_eq_true _,ALct,QU hk e]
 ·rw[show(((l.getD k 0:Nat):Int)==(h:Int))=false by rw[dp];omega,ALcf,QV hk e]
def qE(m:Mp):Mp:={m with ZH:=m.ZH+1}
def qF(m:Mp):Mp:={m with ZI:=m.ZI+1}
def ky(m:Mp)(h t:Nat):Mp:={m with ZB:=m.ZB.set h true,ZA:=dG m.ZA h t m.ZA.length}
def jz(m:Mp)(r s:Nat):Mp:={m with ZC:=m.ZC.set r (s:Int)}
def lO(R S B M C way res:Nat):Mp:=⟨R,S,B,M,C,way,res,List.range (R*B*M-res),ZJ (R*B*M) false,ZJ R (-1),0,0⟩
end Go.Proofs.YtbcodenfkijdnaaGreat.E
namespace Go.Proofs.YtbcodenfkijdnaaGreat.E
open Go Go.RowKit Go.Shelf
open Go.Proofs.Tryz renaming prog→Zz
open List renaming replicate→ZA,range→ZB
open Nat renaming mul_le_mul_right→ZC,mod_lt→ZD,div_lt_of_lt_mul→ZE,mul_comm→ZF
theorem vQ(i n:Int):aa Zz 58 #[i6 i,i6 n] [] [] N0 (λ_=> .bool (bQ i n)):=by
 refine fG Tryz.func58 λw cs=>?_
 refine r0 [] [(4,.bool false)] [] (r0 [] [(4,.bool ((decide (0≤i))&&(decide (i<n))))] [4] ?_)
 exact am (.bool ((decide (0≤i))&&(decide (i<n)))) ab.zero bh [] [] []
theorem Fi(R S B M C way res:Nat)(hly:iP R S B M C way res):aa Zz 106 #[.agg #[iN R,iN S,iN B,iN M,iN C,iN way,iN res]] [] [] N0 (λ_=> .bool true):=by
 have hG:=hly.ZJ
 have hrp:=hly.rp
 have hnp:=hG.bd.rbm
 have hway:=hly.way
 have hr64:=hly.r64
 refine fG Tryz.func106 λw cs=>?_
 refine ra (λq1=>[(1,pt (B0 q1) 0),(2,.bool false)]) (λq1=>[ob (B0 q1) #[iN R,iN S,iN B,iN M,iN C,iN way,iN res] 25]) λq1=>r0 [(1,.m (ls 0 ([iN R,iN S,iN B,iN M,iN C]))),(3,.m (ld 0 (iN way))),(4,.c [] [] (nQ R S B M C hG way Om)),(7,.m (ld 0 (iN res))),(12,.m (ld 0 (iN res))),(17,.m (ld 0 (iN res))),(19,.m (ls 0 ([iN R,iN S,iN B,iN M,iN C]))),(20,.c [] [] (mU R S B M C hG)),] [(2,.bool (((decide (0≤(res:Int)))&&(decide ((res:Int)≤64)))&&(decide ((res:Int)<(((R*B)*M:Nat):Int)))))] [2] ?_
 exact am (.bool (((decide (0≤(res:Int)))&&(decide ((res:Int)≤64)))&&(decide ((res:Int)<(((R*B)*M:Nat):Int))))) ab.zero (by exact ALca Value.bool (by simp only[Bool.and_eq_true,decide_eq_true_eq,true_and];omega)) [] [] []
theorem qG(R S B M C way res:Nat)(hly:iP R S B M C way res):aa Zz 76 #[.agg #[iN R,iN S,iN B,iN M,iN C,iN way,iN res]] [] [] N0 (λ_=>i6 ((((R*B)*M)-res:Nat):Int)):=by
 have hG:=hly.ZJ
 have hrp:=hly.rp
 have hnp:=hG.bd.rbm
 have hway:=hly.way
 have hr64:=hly.r64
 refine fG Tryz.func76 λw cs=>?_
 exact ra (λq1=>[(1,pt (B0 q1) 0),(2,i6 0)]) (λq1=>[ob (B0 q1) #[iN R,iN S,iN B,iN M,iN C,iN way,iN res] 25]) λq1=>rF [(0,.l 0),(1,.c [] [] (Fi R S B M C way res hly))] 5 (r0 [(1,.l 0),(2,.c [] [] (mU R S B M C hG)),(4,.l 0),(5,.t (tb (a:=i6 (((R*B)*M:Nat):Int)) (b:=iN res) λ_ _ _ _=>mo (a:=(R*B)*M) (b:=res) Om Om))] [(2,i6 ((((R*B)*M)-res:Nat):Int))] [2] (lf ab.zero [] [] []))
theorem zC(R S B M C way res:Nat)(hly:iP R S B M C way res):aa Zz 39 #[.agg #[iN R,iN S,iN B,iN M,iN C,iN way,iN res]] [] [] N0 (λ_=>i6 (((((R*B)*M)-res)*C:Nat):Int)):=by
 have hG:=hly.ZJ
 have hrp:=hly.rp
 have hnp:=hG.bd.rbm
 have hway:=hly.way
 have hr64:=hly.r64
 have h1:=Nat.le_trans (ZC C (Nat.sub_le (R*B*M) res)) hG.bd.rbmc
 refine fG Tryz.func39 λw cs=>?_
 exact ra (λq1=>[(1,pt (B0 q1) 0),(2,i6 0)]) (λq1=>[ob (B0 q1) #[iN R,iN S,iN B,iN M,iN C,iN way,iN res] 25]) λq1=>r0 [(0,.l 0),(1,.c [] [] (qG R S B M C way res hly)),(4,.l 0),(5,ml (((R*B)*M)-res) C)] [(2,i6 (((((R*B)*M)-res)*C:Nat):Int))] [2] (lf ab.zero [] [] [])
theorem jA(g:Nat)(m:Mp)(hm:Zr m):aa Zz 63 #[pt g 0] [pk (aG g m)] [0] (λ_=>[pk (aG g m)]) (λ_=> .agg #[iN m.R,iN m.S,iN m.B,iN m.M,iN m.C,iN m.way,iN m.res]):=aa.pkZ Tryz.func63 λL hL=>by
 obtain⟨v1,v2,v3,rfl⟩:=hL
 refine⟨[1,2,3],λ_=>[bP v1 m.ZA,fj v2 m.ZB,dy v3 m.ZC],?_,rfl,λE=>⟨rfl,rfl,⟨_,_,_,rfl⟩⟩⟩
 have hG:=hm.ZJ
 have hly:=hm.ly
 have hnp:=hm.np
 have hll:=hm.ll
 have hld:=hm.ld
 have hls:=hm.ls
 have hpg:=hm.pg
 have hrk:=hm.rk
 have hrp:=hly.rp
 have hr8:=hG.bd.r8
 refine fG Tryz.func63 λw cs=>?_
 exact ra (λq1=>[(2,pt (B0 q1) 0)]) (λq1=>[ob (B0 q1) #[i6 0,i6 0,i6 0,i6 0,i6 0,i6 0,i6 0] 25]) λq1=>rs [(3,.l 0),(4,.s 4)] 4 (ob (B0 q1) #[iN m.R,iN m.S,iN m.B,iN m.M,iN m.C,iN m.way,iN m.res] 25) (lf ab.zero [1,2,3] [(0,0)] [4])
theorem pH(i n:Nat)(h:i<n):aa Zz 58 #[iN i,iN n] [] [] N0 (λ_=> .bool true):=by
 have h1:=vQ i n
 rwa [mq.2 ⟨by omega,by omega⟩] at h1
theorem zE(g:Nat)(m:Mp)(hm:Zr m)(p:Nat)(hp:p<m.R*m.B*m.M):aa Zz 25 #[pt g 0,iN p] [pk (aG g m)] [0] (λ_=>[pk (aG g m)]) (λ_=> .bool (m.ZB.getD p false)):=aa.pkZ Tryz.func25 λL hL=>by
 obtain⟨v1,v2,v3,rfl⟩:=hL
 refine⟨[1,2,3],λ_=>[bP v1 m.ZA,fj v2 m.ZB,dy v3 m.ZC],?_,rfl,λE=>⟨rfl,rfl,⟨_,_,_,rfl⟩⟩⟩
 have hG:=hm.ZJ
 have hly:=hm.ly
 have hnp:=hm.np
 have hll:=hm.ll
 have hld:=hm.ld
 have hls:=hm.ls
 have hpg:=hm.pg
 have hrk:=hm.rk
 have hrp:=hly.rp
 have hr8:=hG.bd.r8
 refine fG Tryz.func25 λw cs=>?_
 exact r0 [] [(4,.bool false)] [] (r0 [(4,.m (ld 0 (v2))),(5,fC kS v2 m.ZB 2),(6,.c [] [] (pH p m.ZB.length Om)),(11,.m (ld 0 (v2))),(13,cU kS v2 m.ZB 2 p),(14,fg kS v2 m.ZB 2 p 0)] [(4,.bool (m.ZB.getD p false))] [4] (lf ab.zero [1,2,3] [(0,0)] []))
theorem QX(g:Nat)(m:Mp)(hm:Zr m)(p:Nat)(hp:p<m.R*m.B*m.M):aa Zz 86 #[pt g 0,iN p] [pk (aG g m)] [0] (λ_=>[pk (aG g m)]) (λ_=> .bool (decide (p<m.R*m.B*m.M-m.res+m.ZH)&& !m.ZB.getD p false)):=aa.pkZ Tryz.func86 λL hL=>by
 obtain⟨v1,v2,v3,rfl⟩:=hL
 refine⟨[1,2,3],λ_=>[bP v1 m.ZA,fj v2 m.ZB,dy v3 m.ZC],?_,rfl,λE=>⟨rfl,rfl,⟨_,_,_,rfl⟩⟩⟩
 have hG:=hm.ZJ
 have hly:=hm.ly
 have hnp:=hm.np
 have hll:=hm.ll
 have hld:=hm.ld
 have hls:=hm.ls
 have hpg:=hm.pg
 have hrk:=hm.rk
 have hrp:=hly.rp
 have hr8:=hG.bd.r8
 refine fG Tryz.func86 λw cs=>?_
 refine r0 [] [(4,.bool false)] [] ?_
 cases h2:(bQ (p:Int) (((((m.R*m.B)*m.M)-m.res)+m.ZH:Nat):Int))
 case true=>
  refine r0 [(4,.m (ls 0 ([iN m.R,iN m.S,iN m.B,iN m.M,iN m.C,iN m.way,iN m.res]))),(5,.c [] [] (qG m.R m.S m.B m.M m.C m.way m.res hly)),(9,.m (ld 0 (iN m.ZH))),(10,ad (((m.R*m.B)*m.M)-m.res) m.ZH),(11,.c [] [] (aa.v ((vQ (p:Int) (((((m.R*m.B)*m.M)-m.res)+m.ZH:Nat):Int))) λ_=>ALca Value.bool (show(bQ (p:Int) (((((m.R*m.B)*m.M)-m.res)+m.ZH:Nat):Int))=true from h2))),(16,.m (ld 0 (v2))),(18,cU kS v2 m.ZB 2 p),(19,fg kS v2 m.ZB 2 p 0),] [(4,.bool (!(m.ZB.getD p false)))] [4] ?_
  exact am (.bool (!(m.ZB.getD p false))) ab.zero (by(rw[cC (by have:=mq.1 h2;omega)];rfl)) [1,2,3] [(0,0)] []
 refine r0 [(4,.m (ls 0 ([iN m.R,iN m.S,iN m.B,iN m.M,iN m.C,iN m.way,iN m.res]))),(5,.c [] [] (qG m.R m.S m.B m.M m.C m.way m.res hly)),(9,.m (ld 0 (iN m.ZH))),(10,ad (((m.R*m.B)*m.M)-m.res) m.ZH),(11,.c [] [] (aa.v ((vQ (p:Int) (((((m.R*m.B)*m.M)-m.res)+m.ZH:Nat):Int))) λ_=>ALca Value.bool (show(bQ (p:Int) (((((m.R*m.B)*m.M)-m.res)+m.ZH:Nat):Int))=false from h2))),(13,.d),(14,.d),(15,.d),(16,.d),(17,.d),(18,.d),(19,.d),(20,.d)] [(4,.bool false)] [4] ?_
 exact am (.bool false) ab.zero (by(rw[bj (by have:=QM h2 Om;omega)];rfl)) [1,2,3] [(0,0)] []
theorem Fj(g:Nat)(m:Mp)(hm:Zr m)(v1 v2 v3:Value)(r:Nat)(hr:r<m.R):aa Zz 26 #[pt g 0,iN r] [ob g #[iN m.R,iN m.S,iN m.B,iN m.M,iN m.C,iN m.way,iN m.res,v1,v2,v3,iN m.ZH,iN m.ZI] 137,bP v1 m.ZA,fj v2 m.ZB,dy v3 m.ZC] [1,2,3] (λ_=>[bP v1 m.ZA,fj v2 m.ZB,dy v3 m.ZC]) (λ_=> .tuple #[i6 (kT m r),.bool (dM m r)]):=by
 have hG:=hm.ZJ
 have hly:=hm.ly
 have hnp:=hm.np
 have hll:=hm.ll
 have hld:=hm.ld
 have hls:=hm.ls
 have hpg:=hm.pg
 have hrk:=hm.rk
 have hrp:=hly.rp
 have hr8:=hG.bd.r8
 refine fG Tryz.func26 λw cs=>?_
 refine r0 [] [(4,i6 0),(5,.bool false)] [] (r0 [(4,.m (ld 0 (v3))),(5,fC kI v3 m.ZC 3),(6,.c [] [] (pH r m.ZC.length Om)),(12,.m (ld 0 (v3))),(14,cU kI v3 m.ZC 3 r),(15,fg kI v3 m.ZC 3 r 0)] [(23,.bool ((m.ZC.getD r 0)==(-1)))] [] ?_)
 refine cZ (m.ZC.getD r 0) (-1) (λh3 dh3=>?_) λh3 dh3=>?_
 ·refine r0 [] [(4,i6 0),(5,.bool false)] [4,5] ?_
  exact am (.tuple #[i6 0,.bool false]) ab.zero (by unfold kT dM;(repeat (rw[h3]));rfl) [1,2,3] [(0,0)] []
 refine r0 [(3,.l 0),(5,cU kI v3 m.ZC 3 r),(6,fg kI v3 m.ZC 3 r 0)] [(4,i6 (m.ZC.getD r 0)),(5,.bool true)] [4,5] ?_
 exact am (.tuple #[i6 (m.ZC.getD r 0),.bool true]) ab.zero (by unfold kT dM;(repeat (rw[h3]));rfl) [1,2,3] [(0,0)] []
theorem Fk(g:Nat)(m:Mp)(hm:Zr m)(r:Nat)(hr:r<m.R):aa Zz 26 #[pt g 0,iN r] [pk (aG g m)] [0] (λ_=>[pk (aG g m)]) (λ_=> .tuple #[i6 (kT m r),.bool (dM m r)]):=aa.pkZ Tryz.func26 λL hL=>by
 obtain⟨v1,v2,v3,rfl⟩:=hL
 exact⟨[1,2,3],λ_=>[bP v1 m.ZA,fj v2 m.ZB,dy v3 m.ZC],Fj g m hm v1 v2 v3 r hr,rfl,λE=>⟨rfl,rfl,⟨_,_,_,rfl⟩⟩⟩
theorem Fl(g:Nat)(m:Mp)(hm:Zr m)(v1 v2 v3:Value)(p:Nat)(hp:p<m.R*m.B*m.M):aa Zz 99 #[pt g 0,iN p] [ob g #[iN m.R,iN m.S,iN m.B,iN m.M,iN m.C,iN m.way,iN m.res,v1,v2,v3,iN m.ZH,iN m.ZI] 137,bP v1 m.ZA,fj v2 m.ZB,dy v3 m.ZC] [1,2,3] (λ_=>[bP v1 m.ZA,fj v2 m.ZB,dy v3 m.ZC]) (λ_=> .tuple #[i6 ((bD m p:Nat):Int),i6 ((aF m.way m.R m.B m.M p:Nat):Int),i6 0]):=by
 have hG:=hm.ZJ
 have hly:=hm.ly
 have hnp:=hm.np
 have hll:=hm.ll
 have hld:=hm.ld
 have hls:=hm.ls
 have hpg:=hm.pg
 have hrk:=hm.rk
 have hrp:=hly.rp
 have hr8:=hG.bd.r8
 have hway:=hly.way
 have hx:=QB (way:=m.way) hG hp
 have hxr:=Ff hm hp
 have hrr:=nP (p:=p) (way:=m.way) hG
 have hsb:=QQ hm hrr
 have hlb:=vP hm hp
 refine fG Tryz.func99 λw cs=>?_
 refine r0 [] [(4,i6 0),(5,i6 0),(6,i6 0)] [] (r0 [(4,.m (ls 0 ([iN m.R,iN m.S,iN m.B,iN m.M,iN m.C]))),(9,.m (ld 0 (iN m.way))),(11,.c [] [] (Fd m.R m.S m.B m.M m.C hG m.way Om p Om)),] [(7,i6 ((iu m.way m.R m.B m.M p:Nat):Int)),(6,i6 0)] [6] (rF [] 26 (r0 [(1,.t (tv (ar .shr 3 (.tmp 28) (.const (u6 14)) (i6 ((iu m.way m.R m.B m.M p:Nat):Int)) (u6 14)) (λ_=>dU (b:=((aF m.way m.R m.B m.M p:Nat):Int)) (i8 14 Dc) Om)))] [(5,i6 ((aF m.way m.R m.B m.M p:Nat):Int))] [5] (r0 [(2,.c [0,1,2,3] [1,2,3] (Fj g m hm v1 v2 v3 (aF m.way m.R m.B m.M p) Om))] [(8,i6 (kT m (aF m.way m.R m.B m.M p))),(9,.bool (dM m (aF m.way m.R m.B m.M p)))] [] (r0 [] [(36,.bool (dM m (aF m.way m.R m.B m.M p)))] [] ?_)))))
 refine cB (dM m (aF m.way m.R m.B m.M p)) (λh7=>?_) λh7=>?_
 ·have hh:=QO hm h7
  refine r0 [(3,sI (kT m (aF m.way m.R m.B m.M p)) (((aF m.way m.R m.B m.M p:Nat):Int)) Om),(4,.t (tv (ar .shl 3 (.tmp 40) (.const (u6 14)) (i6 ((kT m (aF m.way m.R m.B m.M p))-((aF m.way m.R m.B m.M p:Nat):Int))) (u6 14)) (λ_=>gb 14 Dc Om Om))),(5,.t (tv (ar .add 3 (.tmp 37) (.tmp 41) (i6 ((iu m.way m.R m.B m.M p:Nat):Int)) (i6 ((kT m (aF m.way m.R m.B m.M p)-(aF m.way m.R m.B m.M p:Int))*2^14))) (λ_=>dU (rv Om Om) hh)))] [(7,i6 ((bD m p:Nat):Int))] [7] (r0 [] [(4,i6 ((bD m p:Nat):Int)),(5,i6 ((aF m.way m.R m.B m.M p:Nat):Int)),(6,i6 0)] [4,5,6] ?_)
  exact am (.tuple #[i6 ((bD m p:Nat):Int),i6 ((aF m.way m.R m.B m.M p:Nat):Int),i6 0]) ab.zero bh [1,2,3] [(0,0)] []
 refine r0 [] [(4,i6 ((iu m.way m.R m.B m.M p:Nat):Int)),(5,i6 ((aF m.way m.R m.B m.M p:Nat):Int)),(6,i6 0)] [4,5,6] ?_
 exact am (.tuple #[i6 ((iu m.way m.R m.B m.M p:Nat):Int),i6 ((aF m.way m.R m.B m.M p:Nat):Int),i6 0]) ab.zero (by(rw[QP h7])) [1,2,3] [(0,0)] []
theorem Fm(g:Nat)(m:Mp)(hm:Zr m)(p:Nat)(hp:p<m.R*m.B*m.M):aa Zz 64 #[pt g 0,iN p] [pk (aG g m)] [0] (λ_=>[pk (aG g m)]) (λ_=> .tuple #[i6 ((bD m p:Nat):Int),i6 0]):=aa.pkZ Tryz.func64 λL hL=>by
 obtain⟨v1,v2,v3,rfl⟩:=hL
 refine⟨[1,2,3],λ_=>[bP v1 m.ZA,fj v2 m.ZB,dy v3 m.ZC],?_,rfl,λE=>⟨rfl,rfl,⟨_,_,_,rfl⟩⟩⟩
 have hG:=hm.ZJ
 have hly:=hm.ly
 have hnp:=hm.np
 have hll:=hm.ll
 have hld:=hm.ld
 have hls:=hm.ls
 have hpg:=hm.pg
 have hrk:=hm.rk
 have hrp:=hly.rp
 have hr8:=hG.bd.r8
 refine fG Tryz.func64 λw cs=>?_
 exact r0 [] [(4,i6 0),(5,i6 0)] [] (r0 [(2,.c [0,1,2,3] [1,2,3] (Fl g m hm v1 v2 v3 p Om))] [(6,i6 ((bD m p:Nat):Int)),(8,i6 0)] [] (r0 [] [(4,i6 ((bD m p:Nat):Int)),(5,i6 0)] [4,5] (lf ab.zero [1,2,3] [(0,0)] [])))
theorem zF(g:Nat)(m:Mp)(hm:Zr m)(n:Nat)(hn:n<(m.R*m.B*m.M-m.res)*m.C):aa Zz 220 #[pt g 0,iN n] [pk (aG g m)] [0] (λ_=>[pk (aG g m)]) (λ_=> .tuple #[i6 ((cQ m n:Nat):Int),i6 ((ao m n:Nat):Int),i6 ((aF m.way m.R m.B m.M (ao m n):Nat):Int),i6 0]):=aa.pkZ Tryz.func220 λL hL=>by
 obtain⟨v1,v2,v3,rfl⟩:=hL
 refine⟨[1,2,3],λ_=>[bP v1 m.ZA,fj v2 m.ZB,dy v3 m.ZC],?_,rfl,λE=>⟨rfl,rfl,⟨_,_,_,rfl⟩⟩⟩
 have hG:=hm.ZJ
 have hly:=hm.ly
 have hnp:=hm.np
 have hll:=hm.ll
 have hld:=hm.ld
 have hls:=hm.ls
 have hpg:=hm.pg
 have hrk:=hm.rk
 have hrp:=hly.rp
 have hr8:=hG.bd.r8
 have hnl:=hm.lines
 have hc1:=hG.bd.c1
 have hc64:=hG.bd.c64
 have hq:=zB hm hn
 have hh:m.ZA.getD (n/m.C) 0<m.R*m.B*m.M:=nR hm hn
 have hlb:=vP hm hh
 have hmod:=ZD n hc1
 refine fG Tryz.func220 λw cs=>?_
 refine r0 [] [(4,i6 0),(5,i6 0),(6,i6 0),(7,i6 0)] [] (rF [(4,.l 0),(5,.c [] [] (zC m.R m.S m.B m.M m.C m.way m.res hly)),(6,.c [] [] (pH n ((((m.R*m.B)*m.M)-m.res)*m.C) Om))] 16 (r0 [(3,.m (ld 0 (v1))),(10,.m (ld 0 (iN m.C))),(11,.t (tb (a:=iN n) (b:=iN m.C) λ_ _ _ _=>o8 (a:=n) (d:=m.C) Om Om)),(12,cU cu v1 m.ZA 1 (n/m.C)),(13,fg cu v1 m.ZA 1 (n/m.C) 0)] [(5,i6 (((m.ZA.getD (n/m.C) 0):Nat):Int))] [5] (r0 [(2,.c [0,1,2,3] [1,2,3] (Fl g m hm v1 v2 v3 (m.ZA.getD (n/m.C) 0) Om))] [(8,i6 ((bD m (m.ZA.getD (n/m.C) 0):Nat):Int)),(6,i6 ((aF m.way m.R m.B m.M (m.ZA.getD (n/m.C) 0):Nat):Int)),(7,i6 0)] [6,7] (rF [] 39 (r0 [(1,.t (tv (ar .shl 3 (.tmp 41) (.const (u6 6)) (i6 ((bD m (m.ZA.getD (n/m.C) 0):Nat):Int)) (u6 6)) (λ_=>dU (b:=((bD m (m.ZA.getD (n/m.C) 0)*64:Nat):Int)) (gb 6 Dc Om Om) Om))),(8,.m (ld 0 (iN m.C))),(9,.t (tb (a:=iN n) (b:=iN m.C) λ_ _ _ _=>om (a:=n) (d:=m.C) Om)),(10,.t (tv (ar .or 3 (.tmp 42) (.tmp 50) (i6 ((bD m (m.ZA.getD (n/m.C) 0)*64:Nat):Int)) (i6 ((n%m.C:Nat):Int))) (λ_=>dU (b:=((cQ m n:Nat):Int)) (sr 6 64 rfl Om Om Om Om Om) (by unfold cQ ao;omega)))),] [(4,i6 ((cQ m n:Nat):Int)),(5,i6 (((m.ZA.getD (n/m.C) 0):Nat):Int)),(6,i6 ((aF m.way m.R m.B m.M (m.ZA.getD (n/m.C) 0):Nat):Int)),(7,i6 0)] [4,5,6,7] ?_)))))
 exact am (.tuple #[i6 ((cQ m n:Nat):Int),i6 (((m.ZA.getD (n/m.C) 0):Nat):Int),i6 ((aF m.way m.R m.B m.M (m.ZA.getD (n/m.C) 0):Nat):Int),i6 0]) ab.zero bh [1,2,3] [(0,0)] []
theorem QY(g:Nat)(m:Mp)(hm:Zr m)(n:Int)(hn:bQ n (((m.R*m.B*m.M-m.res)*m.C:Nat):Int)=false):aa Zz 220 #[pt g 0,i6 n] [pk (aG g m)] [0] (λ_=>[pk (aG g m)]) (λ_=> .tuple #[i6 0,i6 0,i6 0,i6 12]):=aa.pkZ Tryz.func220 λL hL=>by
 obtain⟨v1,v2,v3,rfl⟩:=hL
 refine⟨[1,2,3],λ_=>[bP v1 m.ZA,fj v2 m.ZB,dy v3 m.ZC],?_,rfl,λE=>⟨rfl,rfl,⟨_,_,_,rfl⟩⟩⟩
 have hG:=hm.ZJ
 have hly:=hm.ly
 have hnp:=hm.np
 have hll:=hm.ll
 have hld:=hm.ld
 have hls:=hm.ls
 have hpg:=hm.pg
 have hrk:=hm.rk
 have hrp:=hly.rp
 have hr8:=hG.bd.r8
 have hnl:=hm.lines
 refine fG Tryz.func220 λw cs=>?_
 exact r0 [] [(4,i6 0),(5,i6 0),(6,i6 0),(7,i6 0)] [] (rT [(4,.l 0),(5,.c [] [] (zC m.R m.S m.B m.M m.C m.way m.res hly)),(6,.c [] [] (aa.v ((vQ n (((((m.R*m.B)*m.M)-m.res)*m.C:Nat):Int))) λ_=>ALca Value.bool (show(bQ n (((((m.R*m.B)*m.M)-m.res)*m.C:Nat):Int))=false from(by exact hn))))] 16 (r0 [] [(4,i6 0),(5,i6 0),(6,i6 0),(7,i6 12)] [4,5,6,7] (lf ab.zero [1,2,3] [(0,0)] [])))
theorem zG(g:Nat)(m:Mp)(hm:Zr m)(v1 v2 v3:Value):aa Zz 264 #[pt g 0] [ob g #[iN m.R,iN m.S,iN m.B,iN m.M,iN m.C,iN m.way,iN m.res,v1,v2,v3,iN m.ZH,iN m.ZI] 137,bP v1 m.ZA,fj v2 m.ZB,dy v3 m.ZC] [1,2,3] (λ_=>[bP v1 m.ZA,fj v2 m.ZB,dy v3 m.ZC]) (λ_=> .tuple #[i6 ((dN m:Nat):Int),.bool (dD m)]):=by
 have hG:=hm.ZJ
 have hly:=hm.ly
 have hnp:=hm.np
 have hll:=hm.ll
 have hld:=hm.ld
 have hls:=hm.ls
 have hpg:=hm.pg
 have hrk:=hm.rk
 have hrp:=hly.rp
 have hr8:=hG.bd.r8
 refine fG Tryz.func264 λw cs=>?_
 refine r0 [] [(2,i6 0),(3,.bool false)] [] (r0 [(3,.l 0),(8,.l 0)] [(13,.bool ((m.ZH:Int)==(m.res:Int)))] [] ?_)
 refine cZ (m.ZH:Int) (m.res:Int) (λh3 dh3=>?_) λh3 dh3=>?_
 ·refine r0 [] [(2,i6 0),(3,.bool false)] [2,3] ?_
  exact am (.tuple #[i6 0,.bool false]) ab.zero (by by_cases hc:m.ZH=m.res<;>first | (exfalso;omega) | (simp [dN,dD,hc])) [1,2,3] [(0,0)] []
 refine r0 [(3,.m (ls 0 ([iN m.R,iN m.S,iN m.B,iN m.M,iN m.C,iN m.way,iN m.res]))),(4,.c [] [] (qG m.R m.S m.B m.M m.C m.way m.res hly)),(8,.m (ld 0 (iN m.ZH))),(9,ad (((m.R*m.B)*m.M)-m.res) m.ZH),] [(2,i6 (((((m.R*m.B)*m.M)-m.res)+m.ZH:Nat):Int)),(3,.bool true)] [2,3] ?_
 exact am (.tuple #[i6 (((((m.R*m.B)*m.M)-m.res)+m.ZH:Nat):Int),.bool true]) ab.zero (by by_cases hc:m.ZH=m.res<;>first | (exfalso;omega) | (simp [dN,dD,hc])) [1,2,3] [(0,0)] []
theorem QZ(g:Nat)(m:Mp)(hm:Zr m):aa Zz 264 #[pt g 0] [pk (aG g m)] [0] (λ_=>[pk (aG g m)]) (λ_=> .tuple #[i6 ((dN m:Nat):Int),.bool (dD m)]):=aa.pkZ Tryz.func264 λL hL=>by
 obtain⟨v1,v2,v3,rfl⟩:=hL
 exact⟨[1,2,3],λ_=>[bP v1 m.ZA,fj v2 m.ZB,dy v3 m.ZC],zG g m hm v1 v2 v3,rfl,λE=>⟨rfl,rfl,⟨_,_,_,rfl⟩⟩⟩
theorem Fn(g:Nat)(m:Mp)(hm:Zr m)(v1 v2 v3:Value):aa Zz 281 #[pt g 0] [ob g #[iN m.R,iN m.S,iN m.B,iN m.M,iN m.C,iN m.way,iN m.res,v1,v2,v3,iN m.ZH,iN m.ZI] 137,bP v1 m.ZA,fj v2 m.ZB,dy v3 m.ZC] [1,2,3] (λ_=>[bP v1 m.ZA,fj v2 m.ZB,dy v3 m.ZC]) (λ_=> .tuple #[i6 ((ft m:Nat):Int),.bool (eh m)]):=by
 have hG:=hm.ZJ
 have hly:=hm.ly
 have hnp:=hm.np
 have hll:=hm.ll
 have hld:=hm.ld
 have hls:=hm.ls
 have hpg:=hm.pg
 have hrk:=hm.rk
 have hrp:=hly.rp
 have hr8:=hG.bd.r8
 refine fG Tryz.func281 λw cs=>?_
 refine r0 [] [(2,i6 0),(3,.bool false)] [] (r0 [(3,.l 0),(9,.l 0)] [(14,.bool ((m.ZI:Int)==(m.S:Int)))] [] ?_)
 refine cZ (m.ZI:Int) (m.S:Int) (λh3 dh3=>?_) λh3 dh3=>?_
 ·refine r0 [] [(2,i6 0),(3,.bool false)] [2,3] ?_
  exact am (.tuple #[i6 0,.bool false]) ab.zero (by by_cases hc:m.ZI=m.S<;>first | (exfalso;omega) | (simp [ft,eh,hc])) [1,2,3] [(0,0)] []
 refine r0 [(5,.m (ld 0 (iN m.R))),(9,.m (ld 0 (iN m.ZI))),(10,ad m.R m.ZI),] [(2,i6 ((m.R+m.ZI:Nat):Int)),(3,.bool true)] [2,3] ?_
 exact am (.tuple #[i6 ((m.R+m.ZI:Nat):Int),.bool true]) ab.zero (by by_cases hc:m.ZI=m.S<;>first | (exfalso;omega) | (simp [ft,eh,hc])) [1,2,3] [(0,0)] []
theorem Q3(g:Nat)(m:Mp)(hm:Zr m)(hf1:dD m=true):aa Zz 265 #[pt g 0] [pk (aG g m)] [0] (λ_=>[pk (aG g (qE m))]) (λ_=> .tuple #[i6 ((dN m:Nat):Int),i6 0]):=aa.pkZ Tryz.func265 λL hL=>by
 obtain⟨v1,v2,v3,rfl⟩:=hL
 refine⟨[0,1,2,3],λ_=>[ob g #[iN m.R,iN m.S,iN m.B,iN m.M,iN m.C,iN m.way,iN m.res,v1,v2,v3,i6 ((m.ZH+1:Nat):Int),iN m.ZI] 137,bP v1 m.ZA,fj v2 m.ZB,dy v3 m.ZC],?_,rfl,λE=>⟨rfl,rfl,⟨_,_,_,rfl⟩⟩⟩
 have hG:=hm.ZJ
 have hly:=hm.ly
 have hnp:=hm.np
 have hll:=hm.ll
 have hld:=hm.ld
 have hls:=hm.ls
 have hpg:=hm.pg
 have hrk:=hm.rk
 have hrp:=hly.rp
 have hr8:=hG.bd.r8
 refine fG Tryz.func265 λw cs=>?_
 refine r0 [] [(2,i6 0),(3,i6 0)] [] (r0 [(1,.c [0,1,2,3] [1,2,3] (zG g m hm v1 v2 v3))] [(4,i6 ((dN m:Nat):Int)),(5,.bool (dD m))] [] (r0 [] [(12,.bool (!(dD m)))] [] ?_))
 have h4:(!(dD m))=false:=(by rw[hf1];rfl)
 exact cF (!(dD m)) h4 (rs [(3,.l 0),(4,ad m.ZH 1),(7,.s 0)] 0 (ob g #[iN m.R,iN m.S,iN m.B,iN m.M,iN m.C,iN m.way,iN m.res,v1,v2,v3,i6 ((m.ZH+1:Nat):Int),iN m.ZI] 137) (r0 [] [(2,i6 ((dN m:Nat):Int)),(3,i6 0)] [2,3] (lf ab.zero [0,1,2,3] [] [])))
theorem Q4(g:Nat)(m:Mp)(hm:Zr m)(hf1:dD m=false):aa Zz 265 #[pt g 0] [pk (aG g m)] [0] (λ_=>[pk (aG g m)]) (λ_=> .tuple #[i6 0,i6 52]):=aa.pkZ Tryz.func265 λL hL=>by
 obtain⟨v1,v2,v3,rfl⟩:=hL
 refine⟨[1,2,3],λ_=>[bP v1 m.ZA,fj v2 m.ZB,dy v3 m.ZC],?_,rfl,λE=>⟨rfl,rfl,⟨_,_,_,rfl⟩⟩⟩
 have hG:=hm.ZJ
 have hly:=hm.ly
 have hnp:=hm.np
 have hll:=hm.ll
 have hld:=hm.ld
 have hls:=hm.ls
 have hpg:=hm.pg
 have hrk:=hm.rk
 have hrp:=hly.rp
 have hr8:=hG.bd.r8
 refine fG Tryz.func265 λw cs=>?_
 refine r0 [] [(2,i6 0),(3,i6 0)] [] (r0 [(1,.c [0,1,2,3] [1,2,3] (zG g m hm v1 v2 v3))] [(4,i6 ((dN m:Nat):Int)),(5,.bool (dD m))] [] (r0 [] [(12,.bool (!(dD m)))] [] ?_))
 have h4:(!(dD m))=true:=(by rw[hf1];rfl)
 exact cT (!(dD m)) h4 (r0 [] [(2,i6 0),(3,i6 52)] [2,3] (lf ab.zero [1,2,3] [(0,0)] []))
theorem Q5(g:Nat)(m:Mp)(hm:Zr m)(hf1:eh m=true):aa Zz 266 #[pt g 0] [pk (aG g m)] [0] (λ_=>[pk (aG g (qF m))]) (λ_=> .tuple #[i6 ((ft m:Nat):Int),i6 0]):=aa.pkZ Tryz.func266 λL hL=>by
 obtain⟨v1,v2,v3,rfl⟩:=hL
 refine⟨[0,1,2,3],λ_=>[ob g #[iN m.R,iN m.S,iN m.B,iN m.M,iN m.C,iN m.way,iN m.res,v1,v2,v3,iN m.ZH,i6 ((m.ZI+1:Nat):Int)] 137,bP v1 m.ZA,fj v2 m.ZB,dy v3 m.ZC],?_,rfl,λE=>⟨rfl,rfl,⟨_,_,_,rfl⟩⟩⟩
 have hG:=hm.ZJ
 have hly:=hm.ly
 have hnp:=hm.np
 have hll:=hm.ll
 have hld:=hm.ld
 have hls:=hm.ls
 have hpg:=hm.pg
 have hrk:=hm.rk
 have hrp:=hly.rp
 have hr8:=hG.bd.r8
 refine fG Tryz.func266 λw cs=>?_
 refine r0 [] [(2,i6 0),(3,i6 0)] [] (r0 [(1,.c [0,1,2,3] [1,2,3] (Fn g m hm v1 v2 v3))] [(4,i6 ((ft m:Nat):Int)),(5,.bool (eh m))] [] (r0 [] [(12,.bool (!(eh m)))] [] ?_))
 have h4:(!(eh m))=false:=(by rw[hf1];rfl)
 exact cF (!(eh m)) h4 (rs [(3,.l 0),(4,ad m.ZI 1),(7,.s 0)] 0 (ob g #[iN m.R,iN m.S,iN m.B,iN m.M,iN m.C,iN m.way,iN m.res,v1,v2,v3,iN m.ZH,i6 ((m.ZI+1:Nat):Int)] 137) (r0 [] [(2,i6 ((ft m:Nat):Int)),(3,i6 0)] [2,3] (lf ab.zero [0,1,2,3] [] [])))
theorem Q6(g:Nat)(m:Mp)(hm:Zr m)(hf1:eh m=false):aa Zz 266 #[pt g 0] [pk (aG g m)] [0] (λ_=>[pk (aG g m)]) (λ_=> .tuple #[i6 0,i6 52]):=aa.pkZ Tryz.func266 λL hL=>by
 obtain⟨v1,v2,v3,rfl⟩:=hL
 refine⟨[1,2,3],λ_=>[bP v1 m.ZA,fj v2 m.ZB,dy v3 m.ZC],?_,rfl,λE=>⟨rfl,rfl,⟨_,_,_,rfl⟩⟩⟩
 have hG:=hm.ZJ
 have hly:=hm.ly
 have hnp:=hm.np
 have hll:=hm.ll
 have hld:=hm.ld
 have hls:=hm.ls
 have hpg:=hm.pg
 have hrk:=hm.rk
 have hrp:=hly.rp
 have hr8:=hG.bd.r8
 refine fG Tryz.func266 λw cs=>?_
 refine r0 [] [(2,i6 0),(3,i6 0)] [] (r0 [(1,.c [0,1,2,3] [1,2,3] (Fn g m hm v1 v2 v3))] [(4,i6 ((ft m:Nat):Int)),(5,.bool (eh m))] [] (r0 [] [(12,.bool (!(eh m)))] [] ?_))
 have h4:(!(eh m))=true:=(by rw[hf1];rfl)
 exact cT (!(eh m)) h4 (r0 [] [(2,i6 0),(3,i6 52)] [2,3] (lf ab.zero [1,2,3] [(0,0)] []))
theorem Q7(g:Nat)(m:Mp)(hm:Zr m)(h t:Nat)(hh:h<m.R*m.B*m.M)(ht0:m.R*m.B*m.M-m.res≤t)(ht1:t<m.R*m.B*m.M-m.res+m.ZH)(hd:m.ZB.getD h false=false)(hdt:m.ZB.getD t false=false)(hne:h≠t):aa Zz 245 #[pt g 0,iN h,iN t] [pk (aG g m)] [0] (λ_=>[pk (aG g (ky m h t))]) (λ_=>i6 0):=aa.pkZ Tryz.func245 λL hL=>by
 obtain⟨v1,v2,v3,rfl⟩:=hL
 refine⟨[1,2,3],λ_=>[bP v1 (dG m.ZA h t m.ZA.length),fj v2 (m.ZB.set h true),dy v3 m.ZC],?_,rfl,λE=>⟨rfl,rfl,⟨_,_,_,rfl⟩⟩⟩
 have hG:=hm.ZJ
 have hly:=hm.ly
 have hnp:=hm.np
 have hll:=hm.ll
 have hld:=hm.ld
 have hls:=hm.ls
 have hpg:=hm.pg
 have hrk:=hm.rk
 have hrp:=hly.rp
 have hr8:=hG.bd.r8
 refine fG Tryz.func245 λw cs=>?_
 refine r0 [] [(6,i6 0)] [] (rF [(4,.m (ld 0 (v2))),(5,fC kS v2 m.ZB 2),(6,.c [] [] (pH h m.ZB.length Om)),(13,.m (ls 0 ([iN m.R,iN m.S,iN m.B,iN m.M,iN m.C,iN m.way,iN m.res]))),(14,.c [] [] (qG m.R m.S m.B m.M m.C m.way m.res hly)),(15,.t (tb (a:=iN t) (b:=i6 ((((m.R*m.B)*m.M)-m.res:Nat):Int)) λ_ _ _ _=>mo (a:=t) (b:=((m.R*m.B)*m.M)-m.res) Om Om)),(19,.m (ld 0 (iN m.ZH))),(20,.c [] [] (pH (t-(((m.R*m.B)*m.M)-m.res)) m.ZH Om)),] 9 (r0 [(3,.m (ld 0 (v2))),(5,cU kS v2 m.ZB 2 h),(6,fg kS v2 m.ZB 2 h 0),(11,.m (ld 0 (v2))),(13,cU kS v2 m.ZB 2 t),(14,fg kS v2 m.ZB 2 t 0),] [(33,.bool (((m.ZB.getD h false)||(m.ZB.getD t false))||((h:Int)==(t:Int))))] [] ?_))
 have h4:(((m.ZB.getD h false)||(m.ZB.getD t false))||((h:Int)==(t:Int)))=false:=by rw[hd,hdt];simpa using(show(h:Int)≠(t:Int) by omega)
 refine cF (((m.ZB.getD h false)||(m.ZB.getD t false))||((h:Int)==(t:Int))) h4 (rs [(3,.l 0),(5,cU kS v2 m.ZB 2 h),(6,sj kS v2 m.ZB 2 h 0 true (.bool true) Kr)] 2 (fj v2 (m.ZB.set h true)) (r0 [(3,.l 0),(4,fC cu v1 m.ZA 1)] [(64,v1),(65,iN m.ZA.length),(66,i6 0)] [] ?_))
 refine lq (λk=>k≤m.ZA.length) (λk=>[(66,iN k)]) (λk L=>L.set 1 (bP v1 (dG m.ZA h t k))) (λk=>m.ZA.length-k) 0 Om Kr (by rw[QS];kernel_rfl) (λk hk7=>?_)
 have hrl:=Fg m.ZA h t k
 refine r0 [] [(67,.bool (decide ((k:Int)<(m.ZA.length:Int))))] [] ?_
 refine cj (k:Int) (m.ZA.length:Int) (λh9 dh9=>?_) λh9 dh9=>?_
 ·refine r0 [(1,cU cu v1 (dG m.ZA h t k) 1 k),(2,fg cu v1 (dG m.ZA h t k) 1 k 0)] [(7,iN k),(8,i6 ((((dG m.ZA h t k).getD k 0):Nat):Int))] [] ?_
  refine r0 [] [(73,.bool (((((dG m.ZA h t k).getD k 0):Nat):Int)==(h:Int)))] [] ?_
  refine cJ (((((dG m.ZA h t k).getD k 0):Nat):Int)==(h:Int)) N0 (λc=>[ob g #[iN m.R,iN m.S,iN m.B,iN m.M,iN m.C,iN m.way,iN m.res,v1,v2,v3,iN m.ZH,iN m.ZI] 137,bP v1 (bif c then(dG m.ZA h t k).set k t else dG m.ZA h t k),fj v2 (m.ZB.set h true),dy v3 m.ZC]) (λh12=>?_) (λh12=>?_) ?_
  ·have dh12:=eq_of_beq h12
   refine rs [(3,.l 0),(6,cU cu v1 (dG m.ZA h t k) 1 k),(7,sj cu v1 (dG m.ZA h t k) 1 k 0 t (iN t) Kr)] 1 (bP v1 ((dG m.ZA h t k).set k t)) ?_
   exact cm Kr [0,1,2,3] Kr
  ·have dh12:=ne_of_beq_false h12
   exact cm Kr [0,1,2,3] Kr
  refine r0 [(0,ad k 1)] [(66,i6 ((k+1:Nat):Int))] [66] ?_
  exact le (k+1) Om Om Kr [0,1,2,3] (by rw[←QW Om];kernel_rfl)
 obtain rfl:m.ZA.length=k:=by omega
 refine lx ?_
 exact r0 [] [(6,i6 0)] [6] (lf ab.zero [1,2,3] [(0,0)] [])
theorem Q8(g:Nat)(m:Mp)(hm:Zr m)(r t:Nat)(hr:r<m.R)(ht0:m.R≤t)(ht1:t<m.R+m.ZI)(hs:dM m r=false):aa Zz 246 #[pt g 0,iN r,iN t] [pk (aG g m)] [0] (λ_=>[pk (aG g (jz m r t))]) (λ_=>i6 0):=aa.pkZ Tryz.func246 λL hL=>by
 obtain⟨v1,v2,v3,rfl⟩:=hL
 refine⟨[1,2,3],λ_=>[bP v1 m.ZA,fj v2 m.ZB,dy v3 (m.ZC.set r (t:Int))],?_,rfl,λE=>⟨rfl,rfl,⟨_,_,_,rfl⟩⟩⟩
 have hG:=hm.ZJ
 have hly:=hm.ly
 have hnp:=hm.np
 have hll:=hm.ll
 have hld:=hm.ld
 have hls:=hm.ls
 have hpg:=hm.pg
 have hrk:=hm.rk
 have hrp:=hly.rp
 have hr8:=hG.bd.r8
 refine fG Tryz.func246 λw cs=>?_
 refine r0 [] [(6,i6 0)] [] (rF [(4,.m (ld 0 (v3))),(5,fC kI v3 m.ZC 3),(6,.c [] [] (pH r m.ZC.length Om)),(15,.m (ld 0 (iN m.R))),(16,.t (tb (a:=iN t) (b:=iN m.R) λ_ _ _ _=>mo (a:=t) (b:=m.R) Om Om)),(20,.m (ld 0 (iN m.ZI))),(21,.c [] [] (pH (t-m.R) m.ZI Om)),] 7 (r0 [(3,.l 0),(5,cU kI v3 m.ZC 3 r),(6,fg kI v3 m.ZC 3 r 0)] [(32,.bool ((m.ZC.getD r 0) != (-1)))] [] ?_))
 have h4:((m.ZC.getD r 0) != (-1))=false:=by exact hs
 exact cF ((m.ZC.getD r 0) != (-1)) h4 (rs [(3,.l 0),(6,cU kI v3 m.ZC 3 r),(7,sj kI v3 m.ZC 3 r 0 (t:Int) (iN t) Kr)] 3 (dy v3 (m.ZC.set r (t:Int))) (r0 [] [(6,i6 0)] [6] (lf ab.zero [1,2,3] [(0,0)] [])))
theorem Q9(R S B M C way res:Nat)(hly:iP R S B M C way res):aa Zz 175 #[.agg #[iN R,iN S,iN B,iN M,iN C,iN way,iN res]] [] [] (λE=>[ob (E.ZK 0) #[iN R,iN S,iN B,iN M,iN C,iN way,iN res,(E.val 0),(E.val 1),(E.val 2),i6 0,i6 0] 137,bP (E.val 0) (ZB (R*B*M-res)),fj (E.val 1) (ZA ((R*B)*M) false),dy (E.val 2) (ZA R (-1))]) (λE=> .tuple #[pt ((E.ZK 0)) 0,i6 0]):=by
 have hG:=hly.ZJ
 have hrp:=hly.rp
 have hnp:=hG.bd.rbm
 have hway:=hly.way
 have hr64:=hly.r64
 have hlines:=hG.bd.r8
 refine fG Tryz.func175 λw cs=>?_
 refine ra (λq1=>[(1,pt (B0 q1) 0),(2,.pointer none),(3,i6 0)]) (λq1=>[ob (B0 q1) #[iN R,iN S,iN B,iN M,iN C,iN way,iN res] 25]) λq1=>rF [(0,.l 0),(1,.c [] [] (Fi R S B M C way res hly))] 8 (rr (λ_=>[(0,.l 0),(2,.l 0),(3,.c [] [] (mU R S B M C hG)),(4,su kS 1 ((R*B)*M))]) (λq3=>[(4,pt (B6 q3) 0)]) [] (λq3 L=>L++[fj (.slice (some ⟨(q3 4).ZK 0,0,none⟩) ((R*B)*M) ((R*B)*M)) (ZA ((R*B)*M) false),ob (B6 q3) #[iN R,iN S,iN B,iN M,iN C,iN way,iN res,.slice none 0 0,.slice (some ⟨(q3 4).ZK 0,0,none⟩) ((R*B)*M) ((R*B)*M),.slice none 0 0,i6 0,i6 0] 137]) λq3=>r0 [(0,.l 0),(1,.c [] [] (qG R S B M C way res hly))] [(17,i6 ((((R*B)*M)-res:Nat):Int)),(18,i6 0)] [] ?_)
 refine cz cu ?_
 refine mN (λk _=>k≤(R*B*M-res)) (λk _=>[(18,iN k)]) (λk vC4_7 L=>(L.set 2 (ob (B6 q3) #[iN R,iN S,iN B,iN M,iN C,iN way,iN res,vC4_7,.slice (some ⟨(q3 4).ZK 0,0,none⟩) ((R*B)*M) ((R*B)*M),.slice none 0 0,i6 0,i6 0] 137)).set 3 (bP vC4_7 (ZB k))) (λk _=>(R*B*M-res)-k) 0 (.slice none 0 0) Om Kr Kr (λk vC4_7 hk5=>?_)
 have hkl:(ZB k).length=k:=List.length_range
 refine r0 [] [(19,.bool (decide ((k:Int)<((((R*B)*M)-res:Nat):Int))))] [] ?_
 refine cj (k:Int) ((((R*B)*M)-res:Nat):Int) (λh7 dh7=>?_) λh7 dh7=>?_
 ·refine r0 [] [(5,iN k)] [] ?_
  refine rr (λq9=>[(4,.l 2),(6,.m (bs 4 1)),(7,fD cu (vC4_7) (ZB k) 3 4 ([k])),(10,.m (fZ 2 3 (bP ((q9 7).val 0) ((ZB k)++([k]))) ((q9 7).val 0) λbs h=>ap.one ((λ_ h=>h) bs h)))]) N0 [] (λq9 L=>(L.set 2 (ob (B6 q3) #[iN R,iN S,iN B,iN M,iN C,iN way,iN res,(q9 7).val 0,.slice (some ⟨(q3 4).ZK 0,0,none⟩) ((R*B)*M) ((R*B)*M),.slice none 0 0,i6 0,i6 0] 137)).set 3 (bP ((q9 7).val 0) ((ZB k)++([k])))++[ob (B6 q9) #[iN k] 3]) λq9=>r0 [(0,ad k 1)] [(18,i6 ((k+1:Nat):Int))] [18] ?_
  exact lE (k+1) ((q9 7).val 0) Om Om Kr [0,1,2,3] (by rw[List.range_succ];kernel_rfl)
 obtain rfl:k=(R*B*M-res):=by omega
 refine lF ?_
 refine r0 [(2,.l 0)] [(34,iN R),(35,i6 0)] [] ?_
 refine cz kI ?_
 refine mN (λj _=>j≤R) (λj _=>[(35,iN j)]) (λj vC4_9 L=>(L.set 2 (ob (B6 q3) #[iN R,iN S,iN B,iN M,iN C,iN way,iN res,vC4_7,.slice (some ⟨(q3 4).ZK 0,0,none⟩) ((R*B)*M) ((R*B)*M),vC4_9,i6 0,i6 0] 137)).set 4 (dy vC4_9 (ZA j (-1)))) (λj _=>R-j) 0 (.slice none 0 0) Om Kr Kr (λj vC4_9 hk12=>?_)
 have hjl:(ZA j (-1:Int)).length=j:=List.length_replicate
 refine r0 [] [(36,.bool (decide ((j:Int)<(R:Int))))] [] ?_
 refine cj (j:Int) (R:Int) (λh14 dh14=>?_) λh14 dh14=>?_
 ·refine rr (λq15=>[(4,.l 2),(5,.m (bs 5 1)),(6,fD kI (vC4_9) (ZA j (-1)) 4 5 ([(-1)])),(9,.m (fZ 2 4 (dy ((q15 6).val 0) ((ZA j (-1))++([(-1)]))) ((q15 6).val 0) λbs h=>ap.one ((λ_ h=>h) bs h)))]) N0 [] (λq15 L=>(L.set 2 (ob (B6 q3) #[iN R,iN S,iN B,iN M,iN C,iN way,iN res,vC4_7,.slice (some ⟨(q3 4).ZK 0,0,none⟩) ((R*B)*M) ((R*B)*M),(q15 6).val 0,i6 0,i6 0] 137)).set 4 (dy ((q15 6).val 0) ((ZA j (-1))++([(-1)])))++[ob (B5 q15) #[i6 (-1)] 3]) λq15=>?_
  refine r0 [(0,ad j 1)] [(35,i6 ((j+1:Nat):Int))] [35] ?_
  exact lE (j+1) ((q15 6).val 0) Om Om Kr [0,1,2,3,4] (by rw[List.replicate_succ'];kernel_rfl)
 obtain rfl:R=j:=by omega
 refine lF ?_
 exact r0 [] [(2,pt (B6 q3) 0),(3,i6 0)] [2,3] (lf (.l [(q3 6).ZK 0] [] [vC4_7,.slice (some ⟨(q3 4).ZK 0,0,none⟩) ((R*B)*M) ((R*B)*M),vC4_9]) [2,3,1,4] [] [])
theorem Ra(R S B M C way res:Nat)(hly:iP R S B M C way res):aa Zz 175 #[.agg #[iN R,iN S,iN B,iN M,iN C,iN way,iN res]] [] [] (λE=>[pk (aG (E.ZK 0) (lO R S B M C way res))]) (λE=> .tuple #[pt ((E.ZK 0)) 0,i6 0]):=(Q9 R S B M C way res hly).outs λE ds hs=>s5 ⟨_,_,_,rfl⟩ hs
theorem mv(a b:Nat):((a:Int)==(b:Int))=decide (a=b):=by
 by_cases h:a=b
 ·subst h;rw[cC rfl];exact beq_self_eq_true _
 ·rw[bj h,dp];omega
theorem zH(a b:Nat):decide ((a:Int)≤(b:Int))=decide (a≤b):=by
 by_cases h:a≤b
 ·rw[cC h,cC Om]
 ·rw[bj h,bj Om]
structure Jb where
 Zz:Nat
 fr:Nat
 tg:Nat
 nx:Nat
def kz:Jb:=⟨0,0,0,0⟩
def eK(kind B M C:Nat):Nat:=match kind with
 | 0=>0
 | 1=>C
 | _=>B*M*C
structure oH (m:Mp) (fr t nx:Nat):Prop where
 hf:fr<m.R*m.B*m.M
 ht:t<m.R*m.B*m.M
 ne:fr≠t
 df:m.ZB.getD fr false=false
 dt:m.ZB.getD t false=false
 t0:m.R*m.B*m.M-m.res≤t
 t1:t<m.R*m.B*m.M-m.res+m.ZH
 nx:nx≤m.C
 f1:fr<m.R*m.B*m.M-m.res+m.ZH
structure oI (m:Mp) (fr t nx:Nat):Prop where
 hf:fr<m.R
 hs:dM m fr=false
 t0:m.R≤t
 t1:t<m.R+m.ZI
 nx:nx≤m.B*m.M*m.C
structure ta (m:Mp) (j:Jb):Prop where
 k:j=kz∨(j.Zz=1∧oH m j.fr j.tg j.nx)∨(j.Zz=2∧oI m j.fr j.tg j.nx)
def iQ(m:Mp)(r i:Nat):Nat:=bJ r (i/m.C/m.M) (i/m.C%m.M) (i%m.C)
def aQ(m:Mp)(kind w i:Nat):Nat:=match kind with
 | 1=>bD m w*64+i
 | _=>iQ m w i
def fu(m:Mp)(n:Nat):Nat:=(ed m.way m.R m.B m.M (ao m n)*m.M+ec m.way m.R m.B m.M (ao m n))*m.C+n%m.C
def aH(m:Mp)(j:Jb)(n:Nat):Nat:=match j.Zz with
 | 0=>cQ m n
 | 1=>if ao m n=j.fr then(if n%m.C<j.nx then aQ m 1 j.tg (n%m.C) else cQ m n) else cQ m n
 | _=>if aF m.way m.R m.B m.M (ao m n)=j.fr then(if fu m n<j.nx then aQ m 2 j.tg (fu m n) else cQ m n) else cQ m n
section
variable {m:Mp}
theorem oJ(h:Zr m){r i:Nat}(hr:r<m.R+m.S)(hi:i<m.B*m.M*m.C):gZ m.R m.S m.B m.M m.C r (i/m.C/m.M) (i/m.C%m.M) (i%m.C):=by
 have hb:=h.ZJ.bd
 refine⟨hr,?_,ZD _ hb.m1,ZD _ hb.c1⟩
 exact ZE (ZF m.B m.M▸ZE (ZF (m.B*m.M) m.C▸hi))
theorem td(h:Zr m){n:Nat}(hn:n<(m.R*m.B*m.M-m.res)*m.C):fu m n<m.B*m.M*m.C:=by
 have hi:=qD h (nR h hn)
 have hc:=ZD n h.ZJ.bd.c1
 have h1:ed m.way m.R m.B m.M (ao m n)*m.M+ec m.way m.R m.B m.M (ao m n)<m.B*m.M:=by
  have:(ed m.way m.R m.B m.M (ao m n)+1)*m.M≤m.B*m.M:=ZC _ hi.h1
  rw[Nat.add_mul] at this
  have:=hi.h2
  omega
 have h2:(ed m.way m.R m.B m.M (ao m n)*m.M+ec m.way m.R m.B m.M (ao m n)+1)*m.C≤m.B*m.M*m.C:=ZC _ h1
 rw[Nat.add_mul] at h2
 unfold fu
 omega
theorem pI(m:Mp)(n:Nat):cQ m n=bJ (gO m (ao m n)) (ed m.way m.R m.B m.M (ao m n)) (ec m.way m.R m.B m.M (ao m n)) (n%m.C):=by unfold cQ bD bJ;omega
theorem qH(h:Zr m){n:Nat}(hn:n<(m.R*m.B*m.M-m.res)*m.C):gZ m.R m.S m.B m.M m.C (gO m (ao m n)) (ed m.way m.R m.B m.M (ao m n)) (ec m.way m.R m.B m.M (ao m n)) (n%m.C):=by
 have hi:=qD h (nR h hn)
 exact⟨hi.h0,hi.h1,hi.h2,ZD _ h.ZJ.bd.c1⟩
end
end Go.Proofs.YtbcodenfkijdnaaGreat.E
namespace Go.Proofs.YtbcodenfkijdnaaGreat.E
open Go Go.RowKit Go.Shelf
open List renaming getD_eq_getElem?_getD→Zz,length_set→ZB,getElem?_eq_getElem→ZD,length_append→ZE,getElem?_set→ZF,length_tail→ZH
open Go.Proofs.Tryz renaming prog→ZA
open Nat renaming not_lt_zero→ZC,mod_lt→ZG
open Bool renaming and_true→ZI
theorem Fo(i n:Int):aa ZA 187 #[i6 i,i6 n] [] [] N0 (λ_=> .bool (bQ i n)):=by
 refine fG Tryz.func187 λw cs=>?_
 refine r0 [] [(4,.bool false)] [] (r0 [] [(4,.bool ((decide (0≤i))&&(decide (i<n))))] [4] ?_)
 exact am (.bool ((decide (0≤i))&&(decide (i<n)))) ab.zero bh [] [] []
theorem oK(i n:Nat)(h:i<n):aa ZA 187 #[iN i,iN n] [] [] N0 (λ_=> .bool true):=by
 have h1:=Fo i n
 rwa [mq.2 ⟨by omega,by omega⟩] at h1
theorem Rb(fr t nx R S B M C way res:Nat)(hly:iP R S B M C way res):aa ZA 188 #[.agg #[i6 0,iN fr,iN t,iN nx],.agg #[iN R,iN S,iN B,iN M,iN C,iN way,iN res]] [] [] N0 (λ_=>i6 0):=by
 have hG:=hly.ZJ
 have hbmc:=hG.bd.bmc
 refine fG Tryz.func188 λw cs=>?_
 exact ra (λq1=>[(2,pt (B0 q1) 0),(3,pt (B1 q1) 0),(4,i6 0)]) (λq1=>[ob (B0 q1) #[i6 0,iN fr,iN t,iN nx] 70,ob (B1 q1) #[iN R,iN S,iN B,iN M,iN C,iN way,iN res] 25]) λq1=>r0 [(1,.l 0)] [(6,i6 0)] [] (rF [] 7 (rF [] 12 (r0 [] [(4,i6 0)] [4] (lf ab.zero [] [] []))))
theorem zI(fr t nx R S B M C way res:Nat)(hly:iP R S B M C way res):aa ZA 188 #[.agg #[i6 1,iN fr,iN t,iN nx],.agg #[iN R,iN S,iN B,iN M,iN C,iN way,iN res]] [] [] N0 (λ_=>iN C):=by
 have hG:=hly.ZJ
 have hbmc:=hG.bd.bmc
 refine fG Tryz.func188 λw cs=>?_
 exact ra (λq1=>[(2,pt (B0 q1) 0),(3,pt (B1 q1) 0),(4,i6 0)]) (λq1=>[ob (B0 q1) #[i6 1,iN fr,iN t,iN nx] 70,ob (B1 q1) #[iN R,iN S,iN B,iN M,iN C,iN way,iN res] 25]) λq1=>r0 [(1,.l 0)] [(6,i6 1)] [] (rT [] 7 (r0 [(2,.l 1)] [(4,iN C)] [4] (lf ab.zero [] [] [])))
theorem zJ(fr t nx R S B M C way res:Nat)(hly:iP R S B M C way res):aa ZA 188 #[.agg #[i6 2,iN fr,iN t,iN nx],.agg #[iN R,iN S,iN B,iN M,iN C,iN way,iN res]] [] [] N0 (λ_=>i6 (((B*M)*C:Nat):Int)):=by
 have hG:=hly.ZJ
 have hbmc:=hG.bd.bmc
 refine fG Tryz.func188 λw cs=>?_
 exact ra (λq1=>[(2,pt (B0 q1) 0),(3,pt (B1 q1) 0),(4,i6 0)]) (λq1=>[ob (B0 q1) #[i6 2,iN fr,iN t,iN nx] 70,ob (B1 q1) #[iN R,iN S,iN B,iN M,iN C,iN way,iN res] 25]) λq1=>r0 [(1,.l 0)] [(6,i6 2)] [] (rF [] 7 (rT [] 12 (r0 [(1,.l 1),(2,.c [] [] (Qr R S B M C hG))] [(4,i6 (((B*M)*C:Nat):Int))] [4] (lf ab.zero [] [] []))))
theorem Rc(fr t nx R S B M C way res:Nat)(hly:iP R S B M C way res):aa ZA 211 #[.agg #[i6 1,iN fr,iN t,iN nx],.agg #[iN R,iN S,iN B,iN M,iN C,iN way,iN res]] [] [] N0 (λ_=> .bool (decide (nx=C))):=by
 have hG:=hly.ZJ
 have hbmc:=hG.bd.bmc
 refine fG Tryz.func211 λw cs=>?_
 refine ra (λq1=>[(2,pt (B0 q1) 0),(3,pt (B1 q1) 0),(4,.bool false)]) (λq1=>[ob (B0 q1) #[i6 1,iN fr,iN t,iN nx] 70,ob (B1 q1) #[iN R,iN S,iN B,iN M,iN C,iN way,iN res] 25]) λq1=>r0 [(1,.m (ld 0 (i6 1))),(5,.m (ld 0 (iN nx))),(6,.m (ls 0 ([i6 1,iN fr,iN t,iN nx]))),(7,.m (ls 1 ([iN R,iN S,iN B,iN M,iN C,iN way,iN res]))),(8,.c [] [] (zI fr t nx R S B M C way res hly)),] [(4,.bool ((nx:Int)==(C:Int)))] [4] ?_
 exact am (.bool ((nx:Int)==(C:Int))) ab.zero (by exact ALca Value.bool (mv nx C)) [] [] []
theorem Rd(fr t nx R S B M C way res:Nat)(hly:iP R S B M C way res):aa ZA 211 #[.agg #[i6 2,iN fr,iN t,iN nx],.agg #[iN R,iN S,iN B,iN M,iN C,iN way,iN res]] [] [] N0 (λ_=> .bool (decide (nx=B*M*C))):=by
 have hG:=hly.ZJ
 have hbmc:=hG.bd.bmc
 refine fG Tryz.func211 λw cs=>?_
 refine ra (λq1=>[(2,pt (B0 q1) 0),(3,pt (B1 q1) 0),(4,.bool false)]) (λq1=>[ob (B0 q1) #[i6 2,iN fr,iN t,iN nx] 70,ob (B1 q1) #[iN R,iN S,iN B,iN M,iN C,iN way,iN res] 25]) λq1=>r0 [(1,.m (ld 0 (i6 2))),(5,.m (ld 0 (iN nx))),(6,.m (ls 0 ([i6 2,iN fr,iN t,iN nx]))),(7,.m (ls 1 ([iN R,iN S,iN B,iN M,iN C,iN way,iN res]))),(8,.c [] [] (zJ fr t nx R S B M C way res hly)),] [(4,.bool ((nx:Int)==(((B*M)*C:Nat):Int)))] [4] ?_
 exact am (.bool ((nx:Int)==(((B*M)*C:Nat):Int))) ab.zero (by exact ALca Value.bool (mv nx (B*M*C))) [] [] []
theorem Rf(g:Nat)(m:Mp)(hm:Zr m)(fr t nx:Nat)(hj:oH m fr t nx):aa ZA 222 #[.agg #[i6 1,iN fr,iN t,iN nx],pt g 0] [pk (aG g m)] [0] (λ_=>[pk (aG g m)]) (λ_=> .bool true):=by
 have hG:=hm.ZJ
 have hly:=hm.ly
 have hnp:=hm.np
 have hbmc:=hG.bd.bmc
 have hc1:=hG.bd.c1
 have hm1:=hG.bd.m1
 have hc64:=hG.bd.c64
 have hr8:=hG.bd.r8
 have hj1:=hj.hf
 have hj2:=hj.ht
 have hj3:=hj.ne
 refine fG Tryz.func222 λw cs=>?_
 exact ra (λq1=>[(2,pt (B0 q1) 0),(4,.bool false)]) (λq1=>[ob (B0 q1) #[i6 1,iN fr,iN t,iN nx] 70]) λq1=>r0 [(1,.c [0] [0] (jA g m hm)),(3,.c [] [] (mU m.R m.S m.B m.M m.C hG))] [(5,i6 (((m.R*m.B)*m.M:Nat):Int))] [] (r0 [(1,.m (ld 1 (iN fr))),(3,.c [] [] (oK fr ((m.R*m.B)*m.M) Om)),(6,.m (ld 1 (iN t))),(8,.c [] [] (oK t ((m.R*m.B)*m.M) Om)),(12,.m (ld 1 (iN fr))),(14,.m (ld 1 (iN t))),(15,.t (tk (show Value.bool ((fr:Int) != (t:Int))= .bool true from ALca Value.bool (by simp;omega)))),(20,.m (ld 1 (iN fr))),(21,.c [0] [0] (aa.v ((zE g m hm fr Om)) λ_=>ALca Value.bool (show((m.ZB.getD fr false))=false from(by exact hj.df)))),(27,.m (ld 1 (iN t))),(28,.c [0] [0] (aa.v ((zE g m hm t Om)) λ_=>ALca Value.bool (show((m.ZB.getD t false))=false from(by exact hj.dt)))),] [(4,.bool true)] [4] (lf ab.zero [0] [] []))
theorem Rg(g:Nat)(m:Mp)(hm:Zr m)(fr t nx:Nat)(hj:oI m fr t nx):aa ZA 223 #[.agg #[i6 2,iN fr,iN t,iN nx],pt g 0] [pk (aG g m)] [0] (λ_=>[pk (aG g m)]) (λ_=> .bool true):=by
 have hG:=hm.ZJ
 have hly:=hm.ly
 have hnp:=hm.np
 have hbmc:=hG.bd.bmc
 have hc1:=hG.bd.c1
 have hm1:=hG.bd.m1
 have hc64:=hG.bd.c64
 have hr8:=hG.bd.r8
 have hj1:=hj.hf
 have hj2:=hj.t0
 have hj3:=hj.t1
 have hj4:=hm.rk
 refine fG Tryz.func223 λw cs=>?_
 refine ra (λq1=>[(2,pt (B0 q1) 0),(4,.bool false)]) (λq1=>[ob (B0 q1) #[i6 2,iN fr,iN t,iN nx] 70]) λq1=>rr (λ_=>[(1,.c [0] [0] (jA g m hm)),(4,.s 2)]) (λq2=>[(5,pt (B3 q2) 0)]) [] (λq2 L=>L++[ob (B3 q2) #[iN m.R,iN m.S,iN m.B,iN m.M,iN m.C] 23]) λq2=>r0 [(2,.l 1),(3,.c [0] [0] (Fk g m hm fr Om))] [(7,.bool (dM m fr))] [] (r0 [(1,.m (ld 1 (iN fr))),(3,.m (ld 2 (iN m.R))),(4,.c [] [] (oK fr m.R Om)),(11,.m (ld 1 (iN t))),(13,.m (ld 2 (iN m.R))),(14,.t (tb (a:=iN t) (b:=iN m.R) λ_ _ _ _=>mo (a:=t) (b:=m.R) Om Om)),(16,.m (ld 2 (iN m.S))),(17,.c [] [] (oK (t-m.R) m.S Om))] [(4,.bool ((!(dM m fr))&&true))] [4] ?_)
 exact am (.bool ((!(dM m fr))&&true)) ab.zero (by rw[hj.hs];rfl) [0] [] []
theorem Rh(g:Nat)(m:Mp)(hm:Zr m):aa ZA 186 #[.agg #[i6 0,i6 0,i6 0,i6 0],pt g 0] [pk (aG g m)] [0] (λ_=>[pk (aG g m)]) (λ_=> .bool true):=by
 have hG:=hm.ZJ
 have hly:=hm.ly
 have hnp:=hm.np
 have hbmc:=hG.bd.bmc
 have hc1:=hG.bd.c1
 have hm1:=hG.bd.m1
 have hc64:=hG.bd.c64
 have hr8:=hG.bd.r8
 refine fG Tryz.func186 λw cs=>?_
 refine ra (λq1=>[(2,pt (B0 q1) 0),(4,.bool false)]) (λq1=>[ob (B0 q1) #[i6 0,i6 0,i6 0,i6 0] 70]) λq1=>r0 [(1,.l 1),(2,.l 1),(4,.c [0] [0] (jA g m hm)),(5,.c [] [] (Rb 0 0 0 m.R m.S m.B m.M m.C m.way m.res hly)),(7,.c [] [] (Fo 0 1))] [(5,.bool (bQ 0 1))] [] (r0 [(1,.l 1)] [(15,i6 0)] [] (rT [] 16 (r0 [(0,.l 1),(2,.e)] [(4,.bool (0==0&&(0==0&&(0==0&&(0==0&&true)))))] [4] ?_)))
 exact am (.bool (0==0&&(0==0&&(0==0&&(0==0&&true))))) ab.zero bh [0] [] []
theorem Fp(g:Nat)(m:Mp)(hm:Zr m)(fr t nx:Nat)(hj:oH m fr t nx):aa ZA 186 #[.agg #[i6 1,iN fr,iN t,iN nx],pt g 0] [pk (aG g m)] [0] (λ_=>[pk (aG g m)]) (λ_=> .bool true):=by
 have hG:=hm.ZJ
 have hly:=hm.ly
 have hnp:=hm.np
 have hbmc:=hG.bd.bmc
 have hc1:=hG.bd.c1
 have hm1:=hG.bd.m1
 have hc64:=hG.bd.c64
 have hr8:=hG.bd.r8
 have hj1:=hj.nx
 refine fG Tryz.func186 λw cs=>?_
 refine ra (λq1=>[(2,pt (B0 q1) 0),(4,.bool false)]) (λq1=>[ob (B0 q1) #[i6 1,iN fr,iN t,iN nx] 70]) λq1=>r0 [(1,.l 1),(2,.l 1),(4,.c [0] [0] (jA g m hm)),(5,.c [] [] (zI fr t nx m.R m.S m.B m.M m.C m.way m.res hly)),(6,ad m.C 1),(7,.c [] [] (oK nx (m.C+1) Om))] [(5,.bool true)] [] (r0 [(1,.l 1)] [(15,i6 1)] [] (rF [] 16 (rT [] 21 (r0 [(2,.l 1),(4,.c [0] [0] (Rf g m hm fr t nx hj))] [(4,.bool true)] [4] ?_))))
 exact lf ab.zero [0] [] []
theorem Fq(g:Nat)(m:Mp)(hm:Zr m)(fr t nx:Nat)(hj:oI m fr t nx):aa ZA 186 #[.agg #[i6 2,iN fr,iN t,iN nx],pt g 0] [pk (aG g m)] [0] (λ_=>[pk (aG g m)]) (λ_=> .bool true):=by
 have hG:=hm.ZJ
 have hly:=hm.ly
 have hnp:=hm.np
 have hbmc:=hG.bd.bmc
 have hc1:=hG.bd.c1
 have hm1:=hG.bd.m1
 have hc64:=hG.bd.c64
 have hr8:=hG.bd.r8
 have hj1:=hj.nx
 refine fG Tryz.func186 λw cs=>?_
 refine ra (λq1=>[(2,pt (B0 q1) 0),(4,.bool false)]) (λq1=>[ob (B0 q1) #[i6 2,iN fr,iN t,iN nx] 70]) λq1=>r0 [(1,.l 1),(2,.l 1),(4,.c [0] [0] (jA g m hm)),(5,.c [] [] (zJ fr t nx m.R m.S m.B m.M m.C m.way m.res hly)),(6,ad ((m.B*m.M)*m.C) 1),(7,.c [] [] (oK nx (((m.B*m.M)*m.C)+1) Om))] [(5,.bool true)] [] (r0 [(1,.l 1)] [(15,i6 2)] [] (rF [] 16 (rF [] 21 (rT [] 29 ?_))))
 exact r0 [(2,.l 1),(4,.c [0] [0] (Rg g m hm fr t nx hj))] [(4,.bool true)] [4] (lf ab.zero [0] [] [])
theorem Ri(m:Mp)(hm:Zr m)(r i:Nat)(hr:r<m.R+m.S)(hi:i<m.B*m.M*m.C):aa ZA 189 #[.agg #[iN m.R,iN m.S,iN m.B,iN m.M,iN m.C],iN r,iN i] [] [] N0 (λ_=> .tuple #[i6 ((iQ m r i:Nat):Int),i6 0]):=by
 have hG:=hm.ZJ
 have hbmc:=hG.bd.bmc
 have hc1:=hG.bd.c1
 have hm1:=hG.bd.m1
 have hdv:=Nat.div_le_self i m.C
 refine fG Tryz.func189 λw cs=>?_
 refine ra (λq1=>[(3,pt (B0 q1) 0),(6,i6 0),(7,i6 0)]) (λq1=>[ob (B0 q1) #[iN m.R,iN m.S,iN m.B,iN m.M,iN m.C] 23]) λq1=>rr (λ_=>[(3,.l 0),(4,.t (tb (a:=iN i) (b:=iN m.C) λ_ _ _ _=>om (a:=i) (d:=m.C) Om)),(7,.s 1)]) (λq2=>[(8,pt (B6 q2) 0)]) [] (λq2 L=>L++[ob (B6 q2) #[iN r,i6 0,i6 0,i6 ((i%m.C:Nat):Int)] 46]) λq2=>r0 [(2,.l 0),(3,.t (tb (a:=iN i) (b:=iN m.C) λ_ _ _ _=>o8 (a:=i) (d:=m.C) Om Om))] [(2,i6 ((i/m.C:Nat):Int))] [2] (rs [(2,.m (ld 0 (iN m.M))),(3,.t (tb (a:=i6 ((i/m.C:Nat):Int)) (b:=iN m.M) λ_ _ _ _=>om (a:=i/m.C) (d:=m.M) Om)),(6,.m (ld 0 (iN m.M))),(7,.t (tb (a:=i6 ((i/m.C:Nat):Int)) (b:=iN m.M) λ_ _ _ _=>o8 (a:=i/m.C) (d:=m.M) Om Om)),(9,.s 1),(11,.s 1)] 1 (ob (B6 q2) #[iN r,i6 (((i/m.C)/m.M:Nat):Int),i6 (((i/m.C)%m.M:Nat):Int),i6 ((i%m.C:Nat):Int)] 46) (r0 [(0,.l 0),(1,.l 1),(2,.c [] [] (s7 hG (oJ hm hr hi)))] [(6,i6 ((bJ r ((i/m.C)/m.M) ((i/m.C)%m.M) (i%m.C):Nat):Int)),(7,i6 0)] [6,7] ?_))
 exact am (.tuple #[i6 ((bJ r ((i/m.C)/m.M) ((i/m.C)%m.M) (i%m.C):Nat):Int),i6 0]) ab.zero bh [] [] []
theorem Fs(g:Nat)(m:Mp)(hm:Zr m)(fr t nx:Nat)(hj:oH m fr t nx)(p i:Nat)(hp:p<m.R*m.B*m.M)(hi:i<m.C):aa ZA 144 #[.agg #[i6 1,iN fr,iN t,iN nx],pt g 0,iN p,iN i] [pk (aG g m)] [0] (λ_=>[pk (aG g m)]) (λ_=> .tuple #[i6 ((bD m p*64+i:Nat):Int),i6 0]):=by
 have hG:=hm.ZJ
 have hly:=hm.ly
 have hnp:=hm.np
 have hbmc:=hG.bd.bmc
 have hc1:=hG.bd.c1
 have hm1:=hG.bd.m1
 have hc64:=hG.bd.c64
 have hr8:=hG.bd.r8
 have hlb:=vP hm hp
 refine fG Tryz.func144 λw cs=>?_
 refine ra (λq1=>[(4,pt (B0 q1) 0),(8,i6 0),(9,i6 0)]) (λq1=>[ob (B0 q1) #[i6 1,iN fr,iN t,iN nx] 70]) λq1=>rF [(0,.m (ls 1 ([i6 1,iN fr,iN t,iN nx]))),(2,.c [0] [0] (Fp g m hm fr t nx hj)),(6,.m (ls 1 ([i6 1,iN fr,iN t,iN nx]))),(8,.c [0] [0] (jA g m hm)),(9,.c [] [] (zI fr t nx m.R m.S m.B m.M m.C m.way m.res hly)),(10,.c [] [] (oK i m.C Om))] 24 (rF [(1,.l 1)] 27 (r0 [(2,.c [0] [0] (Fm g m hm p Om))] [(10,i6 ((bD m p:Nat):Int)),(11,i6 0)] [] (rF [] 43 (r0 [(1,.t (tv (ar .shl 3 (.tmp 45) (.const (u6 6)) (i6 ((bD m p:Nat):Int)) (u6 6)) (λ_=>dU (b:=((bD m p*64:Nat):Int)) (gb 6 Dc Om Om) Om))),(3,.t (tv (ar .or 3 (.tmp 46) (.tmp 47) (i6 ((bD m p*64:Nat):Int)) (iN i)) (λ_=>dU (b:=((bD m p*64+i:Nat):Int)) (sr 6 64 rfl Om Om Om Om Om) Om)))] [(8,i6 ((bD m p*64+i:Nat):Int)),(9,i6 0)] [8,9] ?_))))
 exact lf ab.zero [0] [] []
theorem Ft(g:Nat)(m:Mp)(hm:Zr m)(fr t nx:Nat)(hj:oI m fr t nx)(r i:Nat)(hr:r<m.R+m.S)(hi:i<m.B*m.M*m.C):aa ZA 144 #[.agg #[i6 2,iN fr,iN t,iN nx],pt g 0,iN r,iN i] [pk (aG g m)] [0] (λ_=>[pk (aG g m)]) (λ_=> .tuple #[i6 ((iQ m r i:Nat):Int),i6 0]):=by
 have hG:=hm.ZJ
 have hly:=hm.ly
 have hnp:=hm.np
 have hbmc:=hG.bd.bmc
 have hc1:=hG.bd.c1
 have hm1:=hG.bd.m1
 have hc64:=hG.bd.c64
 have hr8:=hG.bd.r8
 refine fG Tryz.func144 λw cs=>?_
 exact ra (λq1=>[(4,pt (B0 q1) 0),(8,i6 0),(9,i6 0)]) (λq1=>[ob (B0 q1) #[i6 2,iN fr,iN t,iN nx] 70]) λq1=>rF [(0,.m (ls 1 ([i6 2,iN fr,iN t,iN nx]))),(2,.c [0] [0] (Fq g m hm fr t nx hj)),(6,.m (ls 1 ([i6 2,iN fr,iN t,iN nx]))),(8,.c [0] [0] (jA g m hm)),(9,.c [] [] (zJ fr t nx m.R m.S m.B m.M m.C m.way m.res hly)),(10,.c [] [] (oK i ((m.B*m.M)*m.C) Om))] 24 (rT [(1,.l 1)] 27 (r0 [(1,.c [0] [0] (jA g m hm)),(5,.c [] [] (Ri m hm r i Om Om))] [(8,i6 ((iQ m r i:Nat):Int)),(9,i6 0)] [8,9] (lf ab.zero [0] [] [])))
theorem Rj(g:Nat)(m:Mp)(hm:Zr m)(fr t nx:Nat)(hj:oH m fr t nx)(i:Nat)(hi:i<m.C):aa ZA 119 #[.agg #[i6 1,iN fr,iN t,iN nx],pt g 0,iN i] [pk (aG g m)] [0] (λ_=>[pk (aG g m)]) (λ_=> .tuple #[i6 ((bD m fr*64+i:Nat):Int),i6 0]):=by
 have hG:=hm.ZJ
 have hly:=hm.ly
 have hnp:=hm.np
 have hbmc:=hG.bd.bmc
 have hc1:=hG.bd.c1
 have hm1:=hG.bd.m1
 have hc64:=hG.bd.c64
 have hr8:=hG.bd.r8
 have hj1:=hj.hf
 refine fG Tryz.func119 λw cs=>?_
 exact ra (λq1=>[(3,pt (B0 q1) 0),(6,i6 0),(7,i6 0)]) (λq1=>[ob (B0 q1) #[i6 1,iN fr,iN t,iN nx] 70]) λq1=>r0 [(0,.l 1),(3,.l 1),(5,.c [0] [0] (Fs g m hm fr t nx hj fr i Om Om))] [(6,i6 ((bD m fr*64+i:Nat):Int)),(7,i6 0)] [6,7] (lf ab.zero [0] [] [])
theorem Rk(g:Nat)(m:Mp)(hm:Zr m)(fr t nx:Nat)(hj:oI m fr t nx)(i:Nat)(hi:i<m.B*m.M*m.C):aa ZA 119 #[.agg #[i6 2,iN fr,iN t,iN nx],pt g 0,iN i] [pk (aG g m)] [0] (λ_=>[pk (aG g m)]) (λ_=> .tuple #[i6 ((iQ m fr i:Nat):Int),i6 0]):=by
 have hG:=hm.ZJ
 have hly:=hm.ly
 have hnp:=hm.np
 have hbmc:=hG.bd.bmc
 have hc1:=hG.bd.c1
 have hm1:=hG.bd.m1
 have hc64:=hG.bd.c64
 have hr8:=hG.bd.r8
 have hj1:=hj.hf
 refine fG Tryz.func119 λw cs=>?_
 exact ra (λq1=>[(3,pt (B0 q1) 0),(6,i6 0),(7,i6 0)]) (λq1=>[ob (B0 q1) #[i6 2,iN fr,iN t,iN nx] 70]) λq1=>r0 [(0,.l 1),(3,.l 1),(5,.c [0] [0] (Ft g m hm fr t nx hj fr i Om Om))] [(6,i6 ((iQ m fr i:Nat):Int)),(7,i6 0)] [6,7] (lf ab.zero [0] [] [])
theorem Fu(g:Nat)(m:Mp)(hm:Zr m)(fr t nx:Nat)(hj:oH m fr t nx)(i:Nat)(hi:i<m.C):aa ZA 120 #[.agg #[i6 1,iN fr,iN t,iN nx],pt g 0,iN i] [pk (aG g m)] [0] (λ_=>[pk (aG g m)]) (λ_=> .tuple #[i6 ((bD m t*64+i:Nat):Int),i6 0]):=by
 have hG:=hm.ZJ
 have hly:=hm.ly
 have hnp:=hm.np
 have hbmc:=hG.bd.bmc
 have hc1:=hG.bd.c1
 have hm1:=hG.bd.m1
 have hc64:=hG.bd.c64
 have hr8:=hG.bd.r8
 have hj1:=hj.ht
 refine fG Tryz.func120 λw cs=>?_
 exact ra (λq1=>[(3,pt (B0 q1) 0),(6,i6 0),(7,i6 0)]) (λq1=>[ob (B0 q1) #[i6 1,iN fr,iN t,iN nx] 70]) λq1=>r0 [(0,.l 1),(3,.l 1),(5,.c [0] [0] (Fs g m hm fr t nx hj t i Om Om))] [(6,i6 ((bD m t*64+i:Nat):Int)),(7,i6 0)] [6,7] (lf ab.zero [0] [] [])
theorem Fv(g:Nat)(m:Mp)(hm:Zr m)(fr t nx:Nat)(hj:oI m fr t nx)(i:Nat)(hi:i<m.B*m.M*m.C):aa ZA 120 #[.agg #[i6 2,iN fr,iN t,iN nx],pt g 0,iN i] [pk (aG g m)] [0] (λ_=>[pk (aG g m)]) (λ_=> .tuple #[i6 ((iQ m t i:Nat):Int),i6 0]):=by
 have hG:=hm.ZJ
 have hly:=hm.ly
 have hnp:=hm.np
 have hbmc:=hG.bd.bmc
 have hc1:=hG.bd.c1
 have hm1:=hG.bd.m1
 have hc64:=hG.bd.c64
 have hr8:=hG.bd.r8
 have hj1:=hj.t1
 have hj2:=hm.rk
 refine fG Tryz.func120 λw cs=>?_
 exact ra (λq1=>[(3,pt (B0 q1) 0),(6,i6 0),(7,i6 0)]) (λq1=>[ob (B0 q1) #[i6 2,iN fr,iN t,iN nx] 70]) λq1=>r0 [(0,.l 1),(3,.l 1),(5,.c [0] [0] (Ft g m hm fr t nx hj t i Om Om))] [(6,i6 ((iQ m t i:Nat):Int)),(7,i6 0)] [6,7] (lf ab.zero [0] [] [])
theorem Rl(m:Mp)(hm:Zr m)(n:Nat)(hn:n<(m.R*m.B*m.M-m.res)*m.C):aa ZA 221 #[.agg #[iN m.R,iN m.S,iN m.B,iN m.M,iN m.C],i6 ((bJ (gO m (ao m n)) (ed m.way m.R m.B m.M (ao m n)) (ec m.way m.R m.B m.M (ao m n)) (n%m.C):Nat):Int)] [] [] N0 (λ_=>i6 ((fu m n:Nat):Int)):=by
 have hG:=hm.ZJ
 have hbmc:=hG.bd.bmc
 have hol:(ed m.way m.R m.B m.M (ao m n)*m.M+ec m.way m.R m.B m.M (ao m n))*m.C+n%m.C<m.B*m.M*m.C:=td hm hn
 have hc1:=hG.bd.c1
 have hle:=Nat.le_mul_of_pos_right (ed m.way m.R m.B m.M (ao m n)*m.M+ec m.way m.R m.B m.M (ao m n)) hc1
 refine fG Tryz.func221 λw cs=>?_
 refine ra (λq1=>[(2,pt (B0 q1) 0),(4,i6 0)]) (λq1=>[ob (B0 q1) #[iN m.R,iN m.S,iN m.B,iN m.M,iN m.C] 23]) λq1=>rr (λ_=>[(0,.l 0),(2,.c [] [] (s8 hG (qH hm hn))),(7,.s 1)]) (λq2=>[(5,pt (B6 q2) 0),(6,i6 0)]) [] (λq2 L=>L++[ob (B6 q2) #[i6 ((gO m (ao m n):Nat):Int),i6 ((ed m.way m.R m.B m.M (ao m n):Nat):Int),i6 ((ec m.way m.R m.B m.M (ao m n):Nat):Int),i6 ((n%m.C:Nat):Int)] 46]) λq2=>rF [] 14 (r0 [(1,.m (ld 1 (i6 ((ed m.way m.R m.B m.M (ao m n):Nat):Int)))),(3,.m (ld 0 (iN m.M))),(4,ml (ed m.way m.R m.B m.M (ao m n)) m.M),(6,.m (ld 1 (i6 ((ec m.way m.R m.B m.M (ao m n):Nat):Int)))),(7,ad ((ed m.way m.R m.B m.M (ao m n))*m.M) (ec m.way m.R m.B m.M (ao m n))),(9,.m (ld 0 (iN m.C))),(10,ml (((ed m.way m.R m.B m.M (ao m n))*m.M)+(ec m.way m.R m.B m.M (ao m n))) m.C),(12,.m (ld 1 (i6 ((n%m.C:Nat):Int)))),(13,ad ((((ed m.way m.R m.B m.M (ao m n))*m.M)+(ec m.way m.R m.B m.M (ao m n)))*m.C) (n%m.C))] [(4,i6 ((((((ed m.way m.R m.B m.M (ao m n))*m.M)+(ec m.way m.R m.B m.M (ao m n)))*m.C)+(n%m.C):Nat):Int))] [4] ?_)
 exact am (i6 ((((((ed m.way m.R m.B m.M (ao m n))*m.M)+(ec m.way m.R m.B m.M (ao m n)))*m.C)+(n%m.C):Nat):Int)) ab.zero bh [] [] []
theorem Rm(m:Mp)(hm:Zr m)(n:Nat)(hn:n<(m.R*m.B*m.M-m.res)*m.C):aa ZA 221 #[.agg #[iN m.R,iN m.S,iN m.B,iN m.M,iN m.C],i6 ((cQ m n:Nat):Int)] [] [] N0 (λ_=>i6 ((fu m n:Nat):Int)):=by
 rw[pI];exact Rl m hm n hn
theorem Rn(g:Nat)(m:Mp)(hm:Zr m)(n:Nat)(hn:n<(m.R*m.B*m.M-m.res)*m.C):aa ZA 185 #[.agg #[i6 0,i6 0,i6 0,i6 0],pt g 0,iN n] [pk (aG g m)] [0] (λ_=>[pk (aG g m)]) (λ_=> .tuple #[i6 ((cQ m n:Nat):Int),i6 ((ao m n:Nat):Int),i6 ((aF m.way m.R m.B m.M (ao m n):Nat):Int),i6 0]):=by
 have hG:=hm.ZJ
 have hly:=hm.ly
 have hnp:=hm.np
 have hbmc:=hG.bd.bmc
 have hc1:=hG.bd.c1
 have hm1:=hG.bd.m1
 have hc64:=hG.bd.c64
 have hr8:=hG.bd.r8
 refine fG Tryz.func185 λw cs=>?_
 refine ra (λq1=>[(3,pt (B0 q1) 0),(6,i6 0),(7,i6 0),(8,i6 0),(9,i6 0)]) (λq1=>[ob (B0 q1) #[i6 0,i6 0,i6 0,i6 0] 70]) λq1=>r0 [(2,.c [0] [0] (zF g m hm n Om)),] [(6,i6 ((cQ m n:Nat):Int)),(7,i6 ((ao m n:Nat):Int)),(8,i6 ((aF m.way m.R m.B m.M (ao m n):Nat):Int)),(9,i6 0)] [6,7,8,9] (rF [(3,.l 1),(5,.c [0] [0] (Rh g m hm))] 27 (rr (λ_=>[(1,.c [0] [0] (jA g m hm)),(4,.s 2)]) (λq4=>[(10,pt (B3 q4) 0)]) [] (λq4 L=>L++[ob (B3 q4) #[iN m.R,iN m.S,iN m.B,iN m.M,iN m.C] 23]) λq4=>r0 [] [(11,i6 0)] [] (rF [(1,.l 1),(4,.d),(5,.d),(6,.d),(7,.d)] 39 ?_)))
 exact rF [(1,.l 1),(4,.d),(5,.d),(6,.d),(7,.d)] 53 (r0 [] [(6,i6 ((cQ m n:Nat):Int)),(7,i6 ((ao m n:Nat):Int)),(8,i6 ((aF m.way m.R m.B m.M (ao m n):Nat):Int)),(9,i6 0)] [6,7,8,9] (lf ab.zero [0] [] []))
theorem Ro(g:Nat)(m:Mp)(hm:Zr m)(fr t nx:Nat)(hj:oH m fr t nx)(n:Nat)(hn:n<(m.R*m.B*m.M-m.res)*m.C):aa ZA 185 #[.agg #[i6 1,iN fr,iN t,iN nx],pt g 0,iN n] [pk (aG g m)] [0] (λ_=>[pk (aG g m)]) (λ_=> .tuple #[i6 ((aH m ⟨1,fr,t,nx⟩ n:Nat):Int),i6 ((ao m n:Nat):Int),i6 ((aF m.way m.R m.B m.M (ao m n):Nat):Int),i6 0]):=by
 have hG:=hm.ZJ
 have hly:=hm.ly
 have hnp:=hm.np
 have hbmc:=hG.bd.bmc
 have hc1:=hG.bd.c1
 have hm1:=hG.bd.m1
 have hc64:=hG.bd.c64
 have hr8:=hG.bd.r8
 have hmod:=ZG n hc1
 refine fG Tryz.func185 λw cs=>?_
 refine ra (λq1=>[(3,pt (B0 q1) 0),(6,i6 0),(7,i6 0),(8,i6 0),(9,i6 0)]) (λq1=>[ob (B0 q1) #[i6 1,iN fr,iN t,iN nx] 70]) λq1=>r0 [(2,.c [0] [0] (zF g m hm n Om)),] [(6,i6 ((cQ m n:Nat):Int)),(7,i6 ((ao m n:Nat):Int)),(8,i6 ((aF m.way m.R m.B m.M (ao m n):Nat):Int)),(9,i6 0)] [6,7,8,9] (rF [(3,.l 1),(5,.c [0] [0] (Fp g m hm fr t nx hj))] 27 (rr (λ_=>[(1,.c [0] [0] (jA g m hm)),(4,.s 2)]) (λq4=>[(10,pt (B3 q4) 0)]) [] (λq4 L=>L++[ob (B3 q4) #[iN m.R,iN m.S,iN m.B,iN m.M,iN m.C] 23]) λq4=>r0 [] [(11,i6 0)] [] (r0 [(1,.l 1),(6,.l 1)] [(39,.bool (((ao m n:Nat):Int)==(fr:Int)))] [] ?_)))
 refine cZ ((ao m n:Nat):Int) (fr:Int) (λh7 dh7=>?_) λh7 dh7=>?_
 ·refine r0 [(2,.l 2),(3,.t (tb (a:=iN n) (b:=iN m.C) λ_ _ _ _=>om (a:=n) (d:=m.C) Om))] [(11,i6 ((n%m.C:Nat):Int))] [11] ?_
  refine r0 [(2,.l 1)] [(69,.bool (decide (((n%m.C:Nat):Int)<(nx:Int))))] [] ?_
  refine cj ((n%m.C:Nat):Int) (nx:Int) (λh10 dh10=>?_) λh10 dh10=>?_
  ·refine r0 [(0,.l 1),(3,.c [0] [0] (Fu g m hm fr t nx hj (n%m.C) Om))] [(6,i6 ((bD m t*64+(n%m.C):Nat):Int)),(9,i6 0)] [6,9] ?_
   refine r0 [] [(6,i6 ((bD m t*64+(n%m.C):Nat):Int)),(7,i6 ((ao m n:Nat):Int)),(8,i6 ((aF m.way m.R m.B m.M (ao m n):Nat):Int)),(9,i6 0)] [6,7,8,9] ?_
   exact am (.tuple #[i6 ((bD m t*64+(n%m.C):Nat):Int),i6 ((ao m n:Nat):Int),i6 ((aF m.way m.R m.B m.M (ao m n):Nat):Int),i6 0]) ab.zero (by by_cases c1:ao m n=fr<;>by_cases c2:n%m.C<nx<;>first | (exfalso;omega) | (simp [aH,aQ,c1,c2])) [0] [] []
  refine r0 [] [(6,i6 ((cQ m n:Nat):Int)),(7,i6 ((ao m n:Nat):Int)),(8,i6 ((aF m.way m.R m.B m.M (ao m n):Nat):Int)),(9,i6 0)] [6,7,8,9] ?_
  exact am (.tuple #[i6 ((cQ m n:Nat):Int),i6 ((ao m n:Nat):Int),i6 ((aF m.way m.R m.B m.M (ao m n):Nat):Int),i6 0]) ab.zero (by by_cases c1:ao m n=fr<;>by_cases c2:n%m.C<nx<;>first | (exfalso;omega) | (simp [aH,aQ,c1,c2])) [0] [] []
 refine rF [(1,.l 1),(4,.d),(5,.d),(6,.d),(7,.d)] 53 (r0 [] [(6,i6 ((cQ m n:Nat):Int)),(7,i6 ((ao m n:Nat):Int)),(8,i6 ((aF m.way m.R m.B m.M (ao m n):Nat):Int)),(9,i6 0)] [6,7,8,9] ?_)
 exact am (.tuple #[i6 ((cQ m n:Nat):Int),i6 ((ao m n:Nat):Int),i6 ((aF m.way m.R m.B m.M (ao m n):Nat):Int),i6 0]) ab.zero (by by_cases c1:ao m n=fr<;>by_cases c2:n%m.C<nx<;>first | (exfalso;omega) | (simp [aH,aQ,c1,c2])) [0] [] []
theorem Rq(g:Nat)(m:Mp)(hm:Zr m)(fr t nx:Nat)(hj:oI m fr t nx)(n:Nat)(hn:n<(m.R*m.B*m.M-m.res)*m.C):aa ZA 185 #[.agg #[i6 2,iN fr,iN t,iN nx],pt g 0,iN n] [pk (aG g m)] [0] (λ_=>[pk (aG g m)]) (λ_=> .tuple #[i6 ((aH m ⟨2,fr,t,nx⟩ n:Nat):Int),i6 ((ao m n:Nat):Int),i6 ((aF m.way m.R m.B m.M (ao m n):Nat):Int),i6 0]):=by
 have hG:=hm.ZJ
 have hly:=hm.ly
 have hnp:=hm.np
 have hbmc:=hG.bd.bmc
 have hc1:=hG.bd.c1
 have hm1:=hG.bd.m1
 have hc64:=hG.bd.c64
 have hr8:=hG.bd.r8
 have hol:=td hm hn
 refine fG Tryz.func185 λw cs=>?_
 refine ra (λq1=>[(3,pt (B0 q1) 0),(6,i6 0),(7,i6 0),(8,i6 0),(9,i6 0)]) (λq1=>[ob (B0 q1) #[i6 2,iN fr,iN t,iN nx] 70]) λq1=>r0 [(2,.c [0] [0] (zF g m hm n Om)),] [(6,i6 ((cQ m n:Nat):Int)),(7,i6 ((ao m n:Nat):Int)),(8,i6 ((aF m.way m.R m.B m.M (ao m n):Nat):Int)),(9,i6 0)] [6,7,8,9] (rF [(3,.l 1),(5,.c [0] [0] (Fq g m hm fr t nx hj))] 27 (rr (λ_=>[(1,.c [0] [0] (jA g m hm)),(4,.s 2)]) (λq4=>[(10,pt (B3 q4) 0)]) [] (λq4 L=>L++[ob (B3 q4) #[iN m.R,iN m.S,iN m.B,iN m.M,iN m.C] 23]) λq4=>r0 [] [(11,i6 0)] [] (rF [(1,.l 1),(4,.d),(5,.d),(6,.d),(7,.d)] 39 ?_)))
 refine r0 [(1,.l 1),(6,.l 1)] [(53,.bool (((aF m.way m.R m.B m.M (ao m n):Nat):Int)==(fr:Int)))] [] ?_
 refine cZ ((aF m.way m.R m.B m.M (ao m n):Nat):Int) (fr:Int) (λh8 dh8=>?_) λh8 dh8=>?_
 ·refine r0 [(0,.l 2),(2,.c [] [] (Rm m hm n Om))] [(11,i6 ((fu m n:Nat):Int))] [11] ?_
  refine r0 [(2,.l 1)] [(69,.bool (decide (((fu m n:Nat):Int)<(nx:Int))))] [] ?_
  refine cj ((fu m n:Nat):Int) (nx:Int) (λh11 dh11=>?_) λh11 dh11=>?_
  ·refine r0 [(0,.l 1),(3,.c [0] [0] (Fv g m hm fr t nx hj (fu m n) Om))] [(6,i6 ((iQ m t (fu m n):Nat):Int)),(9,i6 0)] [6,9] ?_
   refine r0 [] [(6,i6 ((iQ m t (fu m n):Nat):Int)),(7,i6 ((ao m n:Nat):Int)),(8,i6 ((aF m.way m.R m.B m.M (ao m n):Nat):Int)),(9,i6 0)] [6,7,8,9] ?_
   exact am (.tuple #[i6 ((iQ m t (fu m n):Nat):Int),i6 ((ao m n:Nat):Int),i6 ((aF m.way m.R m.B m.M (ao m n):Nat):Int),i6 0]) ab.zero (by by_cases c1:aF m.way m.R m.B m.M (ao m n)=fr<;>by_cases c2:fu m n<nx<;>first | (exfalso;omega) | (simp [aH,aQ,c1,c2])) [0] [] []
  refine r0 [] [(6,i6 ((cQ m n:Nat):Int)),(7,i6 ((ao m n:Nat):Int)),(8,i6 ((aF m.way m.R m.B m.M (ao m n):Nat):Int)),(9,i6 0)] [6,7,8,9] ?_
  exact am (.tuple #[i6 ((cQ m n:Nat):Int),i6 ((ao m n:Nat):Int),i6 ((aF m.way m.R m.B m.M (ao m n):Nat):Int),i6 0]) ab.zero (by by_cases c1:aF m.way m.R m.B m.M (ao m n)=fr<;>by_cases c2:fu m n<nx<;>first | (exfalso;omega) | (simp [aH,aQ,c1,c2])) [0] [] []
 refine r0 [] [(6,i6 ((cQ m n:Nat):Int)),(7,i6 ((ao m n:Nat):Int)),(8,i6 ((aF m.way m.R m.B m.M (ao m n):Nat):Int)),(9,i6 0)] [6,7,8,9] ?_
 exact am (.tuple #[i6 ((cQ m n:Nat):Int),i6 ((ao m n:Nat):Int),i6 ((aF m.way m.R m.B m.M (ao m n):Nat):Int),i6 0]) ab.zero (by by_cases c1:aF m.way m.R m.B m.M (ao m n)=fr<;>by_cases c2:fu m n<nx<;>first | (exfalso;omega) | (simp [aH,aQ,c1,c2])) [0] [] []
theorem Rr(g:Nat)(m:Mp)(hm:Zr m)(kd fr t nx:Nat)(n:Int)(hn:bQ n (((m.R*m.B*m.M-m.res)*m.C:Nat):Int)=false):aa ZA 185 #[.agg #[iN kd,iN fr,iN t,iN nx],pt g 0,i6 n] [pk (aG g m)] [0] (λ_=>[pk (aG g m)]) (λ_=> .tuple #[i6 0,i6 0,i6 0,i6 12]):=by
 have hG:=hm.ZJ
 have hly:=hm.ly
 have hnp:=hm.np
 have hbmc:=hG.bd.bmc
 have hc1:=hG.bd.c1
 have hm1:=hG.bd.m1
 have hc64:=hG.bd.c64
 have hr8:=hG.bd.r8
 refine fG Tryz.func185 λw cs=>?_
 exact ra (λq1=>[(3,pt (B0 q1) 0),(6,i6 0),(7,i6 0),(8,i6 0),(9,i6 0)]) (λq1=>[ob (B0 q1) #[iN kd,iN fr,iN t,iN nx] 70]) λq1=>r0 [(2,.c [0] [0] (QY g m hm n hn)),] [(6,i6 0),(7,i6 0),(8,i6 0),(9,i6 12)] [6,7,8,9] (rT [(3,.d),(4,.d),(5,.d),(6,.d)] 27 (r0 [] [(6,i6 0),(7,i6 0),(8,i6 0),(9,i6 12)] [6,7,8,9] (lf ab.zero [0] [] [])))
theorem Rs(g:Nat)(m:Mp)(hm:Zr m)(j:Jb)(hj:ta m j)(n:Nat)(hn:n<(m.R*m.B*m.M-m.res)*m.C):aa ZA 185 #[.agg #[iN j.Zz,iN j.fr,iN j.tg,iN j.nx],pt g 0,iN n] [pk (aG g m)] [0] (λ_=>[pk (aG g m)]) (λ_=> .tuple #[i6 ((aH m j n:Nat):Int),i6 ((ao m n:Nat):Int),i6 ((aF m.way m.R m.B m.M (ao m n):Nat):Int),i6 0]):=by
 obtain⟨kd,fr,t,nx⟩:=j
 rcases hj.k with h | ⟨hk,h⟩ | ⟨hk,h⟩
 ·cases h;exact Rn g m hm n hn
 ·cases hk;exact Ro g m hm fr t nx h n hn
 ·cases hk;exact Rq g m hm fr t nx h n hn
def kU(m:Mp)(j:Jb):Bool:=decide (j.Zz≠0)&&decide (j.nx=eK j.Zz m.B m.M m.C)
theorem Fw(m:Mp)(hm:Zr m)(kd fr t nx:Nat)(hk:kd=1∨kd=2):aa ZA 211 #[.agg #[iN kd,iN fr,iN t,iN nx],.agg #[iN m.R,iN m.S,iN m.B,iN m.M,iN m.C,iN m.way,iN m.res]] [] [] N0 (λ_=> .bool (kU m ⟨kd,fr,t,nx⟩)):=by
 rcases hk with rfl | rfl
 ·exact Rc fr t nx m.R m.S m.B m.M m.C m.way m.res hm.ly
 ·exact Rd fr t nx m.R m.S m.B m.M m.C m.way m.res hm.ly
theorem Ru(g:Nat)(m:Mp)(hm:Zr m)(j:Jb)(hj:ta m j)(i:Nat)(hi:i<eK j.Zz m.B m.M m.C):aa ZA 119 #[.agg #[iN j.Zz,iN j.fr,iN j.tg,iN j.nx],pt g 0,iN i] [pk (aG g m)] [0] (λ_=>[pk (aG g m)]) (λ_=> .tuple #[i6 ((aQ m j.Zz j.fr i:Nat):Int),i6 0]):=by
 obtain⟨kd,fr,t,nx⟩:=j
 rcases hj.k with h | ⟨hk,h⟩ | ⟨hk,h⟩
 ·cases h;exact absurd hi (ZC i)
 ·cases hk;exact Rj g m hm fr t nx h i hi
 ·cases hk;exact Rk g m hm fr t nx h i hi
theorem Rv(g:Nat)(m:Mp)(hm:Zr m)(j:Jb)(hj:ta m j)(i:Nat)(hi:i<eK j.Zz m.B m.M m.C):aa ZA 120 #[.agg #[iN j.Zz,iN j.fr,iN j.tg,iN j.nx],pt g 0,iN i] [pk (aG g m)] [0] (λ_=>[pk (aG g m)]) (λ_=> .tuple #[i6 ((aQ m j.Zz j.tg i:Nat):Int),i6 0]):=by
 obtain⟨kd,fr,t,nx⟩:=j
 rcases hj.k with h | ⟨hk,h⟩ | ⟨hk,h⟩
 ·cases h;exact absurd hi (ZC i)
 ·cases hk;exact Fu g m hm fr t nx h i hi
 ·cases hk;exact Fv g m hm fr t nx h i hi
structure Ak where
 k:Nat
 w:Nat
deriving DecidableEq
def aJ:Ak:=⟨0,0⟩
def tf(x:Ak):List Value:=[iN x.k,iN x.w]
def mW:Kd ZA Ak:=⟨tf,[i6 0,i6 0],351,285,aJ,2,λ_=>rfl,rfl,λ_=>rfl,d9.mk' Kr Kr rfl⟩
abbrev fv(v:Value)(xs:List Ak):az:= .p (ap tf ([i6 0,i6 0]) 285 v xs)
def mX(arr:List Ak)(a i:Nat):Ak:=arr.getD ((a+i)%arr.length) aJ
def pJ(arr:List Ak)(a n:Nat)(x:Ak):Bool:=(List.range n).any λj=>decide (mX arr a j=x)
theorem Fx{arr:List Ak}{a n:Nat}{x:Ak}{j:Nat}(hj:j<n)(e:mX arr a j=x):pJ arr a n x=true:=List.any_eq_true.2 ⟨j,List.mem_range.2 hj,cC e⟩
theorem Fy{arr:List Ak}{a n:Nat}{x:Ak}(h: ∀j,j<n→mX arr a j≠x):pJ arr a n x=false:=List.any_eq_false.2 λj hj=>by simpa using h j (List.mem_range.1 hj)
theorem Rw{x y:Ak}(h:((((x.k:Nat):Int)==((y.k:Nat):Int))&&((((x.w:Nat):Int)==((y.w:Nat):Int))&&true))=true):y=x:=by
 rw[ZI,mv,mv,Bool.and_eq_true,decide_eq_true_eq,decide_eq_true_eq] at h
 obtain⟨a,b⟩:=x;obtain⟨c,d⟩:=y
 simp only at h
 rw[h.1,h.2]
theorem Ry{x y:Ak}(h:((((x.k:Nat):Int)==((y.k:Nat):Int))&&((((x.w:Nat):Int)==((y.w:Nat):Int))&&true))=false):y≠x:=by
 intro e;subst e
 rw[ZI,mv,mv,cC rfl,cC rfl] at h
 cases h
theorem zL{P:Nat→Prop}{k:Nat}(h: ∀j,j<k→P j)(h1:P k): ∀j,j<k+1→P j:=λj hj=>by
 rcases Nat.lt_succ_iff_lt_or_eq.1 hj with h2 | rfl
 ·exact h j h2
 ·exact h1
structure jB (arr:List Ak) (a:Nat) (q:List Ak):Prop where
 l:arr.length=256
 lt:a<256
 n:q.length≤256
 q: ∀i,i<q.length→mX arr a i=q.getD i aJ
abbrev bK(g:Nat)(q:List Ak)(L:ah):Prop:=∃(v:Value) (arr:List Ak) (a:Nat) (hr:jB arr a q),L=[ob g #[v,iN a,i6 ((q.length:Nat):Int)] 353,fv v arr]
def qI(q:List Ak)(x:Ak):List Ak:=if x∈q then q else if q.length=256 then q else q++[x]
def vR(q:List Ak)(x:Ak):Int:=if x∈q then 15 else if q.length=256 then 14 else 0
section
variable {arr:List Ak} {a:Nat} {q:List Ak}
theorem jB.has(h:jB arr a q)(x:Ak):pJ arr a q.length x=decide (x∈q):=by
 by_cases hx:x∈q
 ·obtain⟨j,hj,e⟩:=List.getElem_of_mem hx
  rw[cC hx]
  refine Fx hj ?_
  rw[h.q j hj,Zz,ZD hj];exact e
 ·rw[bj hx]
  refine Fy λj hj e=>hx ?_
  rw[h.q j hj,Zz,ZD hj] at e
  exact e▸List.getElem_mem hj
theorem jB.push(h:jB arr a q)(x:Ak)(hn:q.length<256):jB (arr.set ((a+q.length)%arr.length) x) a (q++[x]):=by
 have hl:=h.l
 have ha:=h.lt
 refine⟨by rw[ZB];exact h.l,h.lt,by rw[ZE];show q.length+1≤256;omega,λi hi=>?_⟩
 rw[ZE] at hi
 have hi:i<q.length+1:=hi
 unfold mX
 rw[ZB,Zz,ZF]
 by_cases e:i=q.length
 ·subst e
  rw[ALifp rfl,ALifp (ZG _ Om),Zz,List.getElem?_append_right (Nat.le_refl _)]
  simp
 ·rw[ALifn (by rw[hl];omega),Zz,List.getElem?_append_left Om]
  have:=h.q i Om
  unfold mX at this
  rwa [Zz,Zz] at this
theorem jB.pop(h:jB arr a q)(hn:0<q.length):jB (arr.set a aJ) ((a+1)%(arr.set a aJ).length) q.tail:=by
 have hl:=h.l
 have ha:=h.lt
 rw[ZB]
 refine⟨by rw[ZB];exact h.l,by rw[hl];exact ZG _ Dc,by rw[ZH];have:=h.n;omega,λi hi=>?_⟩
 rw[ZH] at hi
 have:=h.q (i+1) Om
 have h2:=h.n
 unfold mX at this⊢
 rw[ZB,Zz,ZF,ALifn (by rw[hl];omega)]
 rw[Zz] at this
 rw[show((a+1)%arr.length+i)%arr.length=(a+(i+1))%arr.length by rw[hl];omega,this,Zz,Zz,List.getElem?_tail]
theorem jB.first(h:jB arr a q)(hn:0<q.length):mX arr a 0=q.headD aJ:=by
 rw[h.q 0 hn]
 cases q with
 | nil=>cases hn
 | cons x q=>rfl
end
def mw(q:List Ak):Int:=if q.length=0 then 13 else 0
theorem Rz:jB (List.replicate 256 aJ) 0 []:=⟨by rw[List.length_replicate],by decide,by decide,λi hi=>absurd hi (ZC i)⟩
end Go.Proofs.YtbcodenfkijdnaaGreat.E
namespace Go.Proofs.YtbcodenfkijdnaaGreat.E
open Go Go.RowKit Go.Shelf
open Go.Proofs.Tryz renaming prog→Zz
open List renaming length_range→ZA,length_map→ZB,replicate→ZD
open Nat renaming mod_lt→ZC
theorem vT(g:Nat)(v:Value)(arr:List Ak)(a n i:Nat)(hl:arr.length=256)(ha:a<256)(hi:i≤256):aa Zz 283 #[pt g 0,iN i] [ob g #[v,iN a,iN n] 353,.p (aK tf v arr)] [] N0 (λ_=>i6 (((a+i)%arr.length:Nat):Int)):=by
 refine fO Tryz.func283 1 rfl λbq1 hq1=>?_
 refine fG Tryz.func283 λw cs=>?_
 exact r0 [] [(4,i6 0)] [] (r0 [(3,.m (ld 0 (iN a))),(5,ad a i),(9,.m (ld 0 (v))),(10,eR hq1.1 1),(11,.t (tb (a:=i6 ((a+i:Nat):Int)) (b:=iN arr.length) λ_ _ _ _=>om (a:=a+i) (d:=arr.length) Om))] [(4,i6 (((a+i)%arr.length:Nat):Int))] [4] (lf ab.zero [] [(0,0),(1,1)] []))
theorem RA(g:Nat):aa Zz 282 #[pt g 0] [] [] (λE=>[ob (E.ZK 0) #[pt g 0] 131]) (λE=> .func (.func 287) #[] #[pt ((E.ZK 0)) 0]):=by
 refine fG Tryz.func282 λw cs=>?_
 exact ra (λq1=>[(1,pt (B0 q1) 0),(2,.nilFunc)]) (λq1=>[ob (B0 q1) #[pt g 0] 131]) λq1=>r0 [] [(2,.func (.func 287) #[] #[pt (B0 q1) 0])] [2] (lf (.l [(q1 0).ZK 0] [] []) [0] [] [])
theorem RB(b g:Nat)(v:Value)(arr:List Ak)(a n:Nat)(bs:aw)(hq:aK tf v arr bs)(hl:arr.length=256)(ha:a<256)(hn:n≤256):fy 5 Zz 287 #[pt b 0] (λ(x:Nat×Ak)=>#[i6 (x.1:Int),.agg #[i6 (x.2.k:Int),i6 (x.2.w:Int)]]) ((List.range n).map λk=>(k,arr.getD ((a+k)%arr.length) aJ)) (List.flatten [[(b,.cells #[pt g 0] 131 (0,0))],[(g,.cells #[v,iN a,iN n] 353 (0,0))],bs]):=by
 refine gi (KO:=[[(b,.cells #[pt g 0] 131 (0,0))],[(g,.cells #[v,iN a,iN n] 353 (0,0))],bs]) Tryz.func287 (λlY JY JX WI RI hJ hY hI=>?_)
 refine r0 [(0,.l 0),(3,.l 1)] [(7,iN n),(8,i6 0)] [] ?_
 refine kk (λk=>k≤n) (λk=>[(8,iN k)]) (λ_ L=>L) (λk=>n-k) (λk=>k) 0 Om hI Kr Kr (λk R4 W5 hk2 hI3=>?_)
 have hmd:(a+k)%arr.length<arr.length:=ZC _ Om
 refine r0 [] [(9,.bool (decide ((k:Int)<(n:Int))))] [] ?_
 refine cj (k:Int) (n:Int) (λh7 dh7=>?_) λh7 dh7=>?_
 ·refine r0 [] [(3,iN k)] [] ?_
  refine iy hJ hY hI3 11 (λ_=>[(2,.l 0),(5,.l 1),(6,.l 0),(8,.c [1,2] [] (aa.at (rd':=[ob g #[v,iN a,iN n] 353,.c bs]) (vT g v arr a n k (by(simp only[LL,hl];done)) Om Om) (atS (em hq (λ_ h=>h))))),(9,fF hq.1 2 ((a+k)%arr.length) 2),(10,nC mW hq.1 2 ((a+k)%arr.length) 0 2)]) (λ_=>[(11,.func (.yield lY) #[] #[]),(12,iN k),(21,.agg #[i6 (((arr.getD ((a+k)%arr.length) aJ).k:Nat):Int),i6 (((arr.getD ((a+k)%arr.length) aJ).w:Nat):Int)])]) [] (λ_ L=>L) N0 [0,1,2] (o4 Om) (λq9 R10 W11 hI12=>?_)
  refine cF _ rfl (r0 [(0,ad k 1)] [(8,i6 ((k+1:Nat):Int))] [8] ?_)
  exact jc (k+1) Om hI12 Om Kr [0,1,2] Kr
 obtain rfl:n=k:=by omega
 refine km ?_
 exact lH hJ hI3 (by rw[ZB,ZA]) [] [0,1,2]
theorem zM(g:Nat)(v:Value)(arr:List Ak)(a n:Nat)(x:Ak)(hl:arr.length=256)(ha:a<256)(hn:n≤256):aa Zz 267 #[pt g 0,.agg #[iN x.k,iN x.w]] [ob g #[v,iN a,iN n] 353,.p (aK tf v arr)] [] N0 (λ_=> .bool (pJ arr a n x)):=by
 refine fO Tryz.func267 1 rfl λbq1 hq1=>?_
 refine fG Tryz.func267 λw cs=>?_
 refine ra (λq1=>[(3,pt (B0 q1) 0),(4,pt (B1 q1) 0)]) (λq1=>[ob (B0 q1) #[iN x.k,iN x.w] 285,ob (B1 q1) #[.bool false] 4]) λq1=>rr (λ_=>[(1,.c [] [4] (RA g))]) (λq2=>[(8,.func (.func 287) #[] #[pt ((B1 q2)) 0])]) [] (λq2 L=>L++[ob (B1 q2) #[pt g 0] 131]) λq2=>?_
 refine xY (encs:=λ(x:Nat×Ak)=>#[i6 (x.1:Int),.agg #[i6 (x.2.k:Int),i6 (x.2.w:Int)]]) (xs:=(List.range n).map λk=>(k,arr.getD ((a+k)%arr.length) aJ)) (KO:=[[((B1 q2),.cells #[pt g 0] 131 (0,0))],[(g,.cells #[v,iN a,iN n] 353 (0,0))],bq1]) (RB (B1 q2) g v arr a n bq1 hq1 (by(simp only[LL,hl];done)) Om Om) (enters_of Tryz.func287 Kr rfl) (λk=>k≤n∧(∀j,j<k→mX arr a j≠x)) (λ_ L=>L) (λc k=>(c=Code.ret∧(∃j,j+1=k∧mX arr a j=x))) (λ_ _ L=>L.set 3 (ob (B1 q1) #[.bool true] 4)) [4,0,1] ⟨by omega,(λ_ h=>absurd h (Nat.not_lt_zero _))⟩ Kr (λlR k xE R1 W1 hxE ⟨hk4,hw⟩=>?_) (λD3 ⟨hk4,hw⟩=>?_) λD3 c k hi hX=>?_
 ·obtain⟨hkb5,rfl⟩:=oh hxE
  refine rr (λ_=>[(1,.s 5)]) (λq6=>[(6,pt (B0 q6) 0)]) [] (λq6 L=>L++[ob (B0 q6) #[i6 (((arr.getD ((a+k)%arr.length) aJ).k:Nat):Int),i6 (((arr.getD ((a+k)%arr.length) aJ).w:Nat):Int)] 285]) λq6=>?_
  refine ag [4,0,1] (λR2 W2=>?_)
  refine r0 [(0,.l 2),(1,.l 5),(2,.e)] [(13,.bool ((x.k:Int)==(((arr.getD ((a+k)%arr.length) aJ).k:Nat):Int)&&((x.w:Int)==(((arr.getD ((a+k)%arr.length) aJ).w:Nat):Int)&&true)))] [] ?_
  refine cB (((x.k:Int)==(((arr.getD ((a+k)%arr.length) aJ).k:Nat):Int)&&((x.w:Int)==(((arr.getD ((a+k)%arr.length) aJ).w:Nat):Int)&&true))) (λh8=>?_) λh8=>?_
  ·refine rr (λ_=>[(0,.s 3)]) N0 [] (λ_ L=>L.set 3 (ob (B1 q1) #[.bool true] 4)) λq9=>?_
   exact nr _ ⟨⟨rfl,⟨_,rfl,Rw As⟩⟩,rfl⟩ [0,1,2,3,4] Kr
  exact ne _ ⟨⟨by omega,zL hw (Ry As)⟩,rfl⟩ [0,1,2,3,4] Kr
 ·simp only[ZB,ZA] at hk4
  refine r0 [(0,.s 3)] [] [] ?_
  exact am (.bool false) ab.zero (by(simp only[ZB,ZA] at hw;rw[Fy hw])) [] [(0,0),(1,1)] [3]
 obtain⟨rfl,hx0⟩:=hX
 exact am (.bool true) ab.zero (by(obtain⟨j,hj,hn⟩:=hx0;have hi2:=hi;simp only[ZB,ZA] at hi2;rw[Fx (j:=j) Om hn])) [] [(0,0),(1,1)] [3]
theorem RC(g:Nat)(v:Value)(arr:List Ak)(a:Nat)(q:List Ak)(hr:jB arr a q)(x:Ak)(hq:q.length<256):aa Zz 268 #[pt g 0,.agg #[iN x.k,iN x.w]] [ob g #[v,iN a,iN q.length] 353,fv v arr] [0,1] (λ_=>[ob g #[v,iN a,i6 ((q.length+1:Nat):Int)] 353,fv v (arr.set ((a+q.length)%arr.length) x)]) (λ_=>i6 0):=by
 have hl:=hr.l
 have ha:=hr.lt
 have hn:=hr.n
 have hmd:(a+q.length)%arr.length<arr.length:=ZC _ Om
 refine fG Tryz.func268 λw cs=>?_
 exact ra (λq1=>[(3,pt (B0 q1) 0),(4,i6 0)]) (λq1=>[ob (B0 q1) #[iN x.k,iN x.w] 285]) λq1=>rF [(3,.l 0),(7,.l 0),(8,fC mW v arr 1),(9,.t (tk (show Value.bool ((q.length:Int)==(arr.length:Int))= .bool false from ALca Value.bool (by rw[dp];omega))))] 14 (rs [(3,.m (ld 0 (v))),(8,.m (ld 0 (iN q.length))),(9,.c [0,1] [] (aa.at (rd':=[ob g #[v,iN a,iN q.length] 353,fv v arr]) (vT g v arr a q.length q.length (by(simp only[LL,hl];done)) Om Om) (atS (bO (λ_ h=>ap.sq h) (λ_ h=>h))))),(10,.m (ls 2 ([iN x.k,iN x.w]))),(11,cU mW v arr 1 ((a+q.length)%arr.length)),(12,sh mW v arr 1 ((a+q.length)%arr.length) x)] 1 (fv v (arr.set ((a+q.length)%arr.length) x)) (rs [(3,.l 0),(4,ad q.length 1),(7,.s 0)] 0 (ob g #[v,iN a,i6 ((q.length+1:Nat):Int)] 353) (r0 [] [(4,i6 0)] [4] (lf ab.zero [0,1] [] []))))
theorem RD(g:Nat)(v:Value)(arr:List Ak)(a:Nat)(q:List Ak)(hr:jB arr a q)(x:Ak)(hq:q.length=256):aa Zz 268 #[pt g 0,.agg #[iN x.k,iN x.w]] [ob g #[v,iN a,iN q.length] 353,fv v arr] [1] (λ_=>[fv v arr]) (λ_=>i6 14):=by
 have hl:=hr.l
 have ha:=hr.lt
 have hn:=hr.n
 refine fG Tryz.func268 λw cs=>?_
 exact ra (λq1=>[(3,pt (B0 q1) 0),(4,i6 0)]) (λq1=>[ob (B0 q1) #[iN x.k,iN x.w] 285]) λq1=>rT [(3,.l 0),(7,.l 0),(8,fC mW v arr 1),(9,.t (tk (show Value.bool ((q.length:Int)==(arr.length:Int))= .bool true from ALca Value.bool (by rw[hl,hq];rfl))))] 14 (r0 [] [(4,i6 14)] [4] (lf ab.zero [1] [(0,0)] []))
theorem RE(g:Nat)(q:List Ak)(x:Ak)(hx:x∈q):aa Zz 242 #[pt g 0,.agg #[iN x.k,iN x.w]] [pk (bK g q)] [0] (λ_=>[pk (bK g q)]) (λ_=>i6 15):=aa.pkZ Tryz.func242 λL hL=>by
 obtain⟨v,arr,a,hr,rfl⟩:=hL
 refine⟨[1],λ_=>[fv v arr],?_,rfl,λE=>⟨rfl,rfl,⟨_,_,_,hr,rfl⟩⟩⟩
 have hl:=hr.l
 have ha:=hr.lt
 have hn:=hr.n
 refine fG Tryz.func242 λw cs=>?_
 exact ra (λq1=>[(3,pt (B0 q1) 0),(4,i6 0)]) (λq1=>[ob (B0 q1) #[iN x.k,iN x.w] 285]) λq1=>rT [(1,.l 2),(2,.c [0,1] [] (aa.v ((aa.at (rd':=[ob g #[v,iN a,iN q.length] 353,fv v arr]) (zM g v arr a q.length x (by(simp only[LL,hl];done)) Om Om) (atS (bO (λ_ h=>ap.sq h) (λ_ h=>h))))) λ_=>ALca Value.bool (show(pJ arr a q.length x)=true from(by rw[hr.has,cC hx]))))] 7 (r0 [] [(4,i6 15)] [4] (lf ab.zero [1] [(0,0)] []))
theorem RF(g:Nat)(q:List Ak)(x:Ak)(hx:x∉q)(hq:q.length=256):aa Zz 242 #[pt g 0,.agg #[iN x.k,iN x.w]] [pk (bK g q)] [0] (λ_=>[pk (bK g q)]) (λ_=>i6 14):=aa.pkZ Tryz.func242 λL hL=>by
 obtain⟨v,arr,a,hr,rfl⟩:=hL
 refine⟨[1],λ_=>[fv v arr],?_,rfl,λE=>⟨rfl,rfl,⟨_,_,_,hr,rfl⟩⟩⟩
 have hl:=hr.l
 have ha:=hr.lt
 have hn:=hr.n
 refine fG Tryz.func242 λw cs=>?_
 exact ra (λq1=>[(3,pt (B0 q1) 0),(4,i6 0)]) (λq1=>[ob (B0 q1) #[iN x.k,iN x.w] 285]) λq1=>rF [(1,.l 2),(2,.c [0,1] [] (aa.v ((aa.at (rd':=[ob g #[v,iN a,iN q.length] 353,fv v arr]) (zM g v arr a q.length x (by(simp only[LL,hl,hq];done)) Om Om) (atS (bO (λ_ h=>ap.sq h) (λ_ h=>h))))) λ_=>ALca Value.bool (show(pJ arr a q.length x)=false from(by rw[hr.has,bj hx]))))] 7 (r0 [(1,.l 2),(2,.c [0,1] [1] (RD g v arr a q hr x (by(simp only[LL,hl,hq];done))))] [(4,i6 14)] [4] (lf ab.zero [1] [(0,0)] []))
theorem RG(g:Nat)(q:List Ak)(x:Ak)(hx:x∉q)(hq:q.length<256):aa Zz 242 #[pt g 0,.agg #[iN x.k,iN x.w]] [pk (bK g q)] [0] (λ_=>[pk (bK g (q++[x]))]) (λ_=>i6 0):=aa.pkZ Tryz.func242 λL hL=>by
 obtain⟨v,arr,a,hr,rfl⟩:=hL
 refine⟨[0,1],λ_=>[ob g #[v,iN a,i6 ((q.length+1:Nat):Int)] 353,fv v (arr.set ((a+q.length)%arr.length) x)],?_,rfl,λE=>⟨rfl,rfl,⟨_,_,_,hr.push x hq,ALca (λn:Nat=>[ob g #[v,iN a,iN n] _,_]) (show q.length+1=(q++[x]).length by rw[List.length_append];rfl)⟩⟩⟩
 have hl:=hr.l
 have ha:=hr.lt
 have hn:=hr.n
 refine fG Tryz.func242 λw cs=>?_
 exact ra (λq1=>[(3,pt (B0 q1) 0),(4,i6 0)]) (λq1=>[ob (B0 q1) #[iN x.k,iN x.w] 285]) λq1=>rF [(1,.l 2),(2,.c [0,1] [] (aa.v ((aa.at (rd':=[ob g #[v,iN a,iN q.length] 353,fv v arr]) (zM g v arr a q.length x (by(simp only[LL,hl];done)) Om Om) (atS (bO (λ_ h=>ap.sq h) (λ_ h=>h))))) λ_=>ALca Value.bool (show(pJ arr a q.length x)=false from(by rw[hr.has,bj hx]))))] 7 (rr (λ_=>[(1,.l 2),(2,.c [0,1] [0,1] (RC g v arr a q hr x Om))]) (λ_=>[(4,i6 0)]) [4] (λ_ L=>(L.set 0 (ob g #[v,iN a,i6 ((q.length+1:Nat):Int)] 353)).set 1 (fv v (arr.set ((a+q.length)%arr.length) x))) λq3=>lf ab.zero [0,1] [] [])
theorem RH(g:Nat)(v:Value)(arr:List Ak)(a:Nat)(q:List Ak)(hr:jB arr a q)(hq:0<q.length):aa Zz 269 #[pt g 0,i6 0] [ob g #[v,iN a,iN q.length] 353,fv v arr] [0,1] (λ_=>[ob g #[v,i6 (((a+1)%(arr.set a (⟨0,0⟩:Ak)).length:Nat):Int),i6 ((q.length-1:Nat):Int)] 353,fv v (arr.set a (⟨0,0⟩:Ak))]) (λ_=> .tuple #[.agg #[i6 (((arr.getD ((a+0)%arr.length) aJ).k:Nat):Int),i6 (((arr.getD ((a+0)%arr.length) aJ).w:Nat):Int)],i6 0]):=by
 have hl:=hr.l
 have ha:=hr.lt
 have hn:=hr.n
 have hmd:(a+0)%arr.length<arr.length:=ZC _ Om
 refine fG Tryz.func269 λw cs=>?_
 refine ra (λq1=>[(4,pt (B0 q1) 0),(5,i6 0)]) (λq1=>[ob (B0 q1) #[i6 0,i6 0] 285]) λq1=>ra (λq2=>[(6,pt (B0 q2) 0)]) (λq2=>[ob (B0 q2) #[i6 0,i6 0] 285]) λq2=>r0 [(7,.l 0)] [(18,.bool (decide ((q.length:Int)≤0)))] [] ?_
 have h4:(decide ((q.length:Int)≤0))=false:=by exact bj Om
 refine cF (decide ((q.length:Int)≤0)) h4 (rr (λ_=>[(3,.l 0),(6,.c [0,1] [] (aa.at (rd':=[ob g #[v,iN a,iN q.length] 353,fv v arr]) (vT g v arr a q.length 0 (by(simp only[LL,hl];done)) Om Om) (atS (bO (λ_ h=>ap.sq h) (λ_ h=>h))))),(7,cU mW v arr 1 ((a+0)%arr.length)),(8,qm mW v arr 1 ((a+0)%arr.length) 0 2),(10,.s 4)]) (λq5=>[(7,pt ((q5 9).ZK 0) 0)]) [] (λq5 L=>L++[ob ((q5 9).ZK 0) #[i6 (((arr.getD ((a+0)%arr.length) aJ).k:Nat):Int),i6 (((arr.getD ((a+0)%arr.length) aJ).w:Nat):Int)] 285]) λq5=>r0 [] [(8,i6 0)] [] ?_)
 refine lq (λk=>k≤0) (λ_=>[(8,i6 0)]) (λ_ L=>L) (λk=>0-k) 0 Om Kr Kr (λk hk7=>?_)
 refine rF [] 31 ?_
 refine lx ?_
 exact rs [(3,.l 0),(7,.l 0),(8,.l 3),(9,cU mW v arr 1 a),(10,sh mW v arr 1 a (⟨0,0⟩:Ak))] 1 (fv v (arr.set a (⟨0,0⟩:Ak))) (rs [(2,.c [0,1] [] (aa.at (rd':=[ob g #[v,iN a,iN q.length] 353,fv v (arr.set a (⟨0,0⟩:Ak))]) (vT g v (arr.set a (⟨0,0⟩:Ak)) a q.length 1 (by(simp only[LL,hl];done)) Om Om) (atS (bO (λ_ h=>ap.sq h) (λ_ h=>h))))),(5,.s 0)] 0 (ob g #[v,i6 (((a+1)%(arr.set a (⟨0,0⟩:Ak)).length:Nat):Int),iN q.length] 353) (rs [(3,.l 0),(4,.t (tb (a:=iN q.length) (b:=i6 1) λ_ _ _ _=>mo (a:=q.length) (b:=1) Om Om)),(7,.s 0)] 0 (ob g #[v,i6 (((a+1)%(arr.set a (⟨0,0⟩:Ak)).length:Nat):Int),i6 ((q.length-1:Nat):Int)] 353) (rr (λ_=>[(0,.l 4),(1,.s 2)]) (λ_=>[(5,i6 0)]) [5] (λ_ L=>L.set 2 (ob (B0 q1) #[i6 (((arr.getD ((a+0)%arr.length) aJ).k:Nat):Int),i6 (((arr.getD ((a+0)%arr.length) aJ).w:Nat):Int)] 285)) λq12=>lf ab.zero [0,1] [] [2])))
theorem RJ(g:Nat)(q:List Ak)(hq:0<q.length):aa Zz 247 #[pt g 0] [pk (bK g q)] [0] (λ_=>[pk (bK g q.tail)]) (λ_=> .tuple #[.agg #[i6 (((q.headD aJ).k:Nat):Int),i6 (((q.headD aJ).w:Nat):Int)],i6 0]):=aa.pkZ Tryz.func247 λL hL=>by
 obtain⟨v,arr,a,hr,rfl⟩:=hL
 refine⟨[0,1],λ_=>[ob g #[v,i6 (((a+1)%(arr.set a (⟨0,0⟩:Ak)).length:Nat):Int),i6 ((q.length-1:Nat):Int)] 353,fv v (arr.set a (⟨0,0⟩:Ak))],?_,rfl,λE=>⟨rfl,rfl,⟨_,_,_,hr.pop hq,ALca (λn:Nat=>[ob g #[v,i6 (((a+1)%(arr.set a (⟨0,0⟩:Ak)).length:Nat):Int),iN n] _,_]) (show q.length-1=q.tail.length by rw[List.length_tail])⟩⟩⟩
 have hl:=hr.l
 have ha:=hr.lt
 have hn:=hr.n
 refine fG Tryz.func247 λw cs=>?_
 refine ra (λq1=>[(2,pt (B0 q1) 0),(3,i6 0)]) (λq1=>[ob (B0 q1) #[i6 0,i6 0] 285]) λq1=>rr (λ_=>[(1,.c [0,1] [0,1] (RH g v arr a q hr Om)),(4,.s 2)]) (λ_=>[(3,i6 0)]) [3] (λ_ L=>((L.set 0 (ob g #[v,i6 (((a+1)%(arr.set a (⟨0,0⟩:Ak)).length:Nat):Int),i6 ((q.length-1:Nat):Int)] 353)).set 1 (fv v (arr.set a (⟨0,0⟩:Ak)))).set 2 (ob (B0 q1) #[i6 (((arr.getD ((a+0)%arr.length) aJ).k:Nat):Int),i6 (((arr.getD ((a+0)%arr.length) aJ).w:Nat):Int)] 285)) λq2=>?_
 exact am (.tuple #[.agg #[i6 (((arr.getD ((a+0)%arr.length) aJ).k:Nat):Int),i6 (((arr.getD ((a+0)%arr.length) aJ).w:Nat):Int)],i6 0]) ab.zero (by rw[←hr.first hq];rfl) [0,1] [] [2]
theorem RK(g:Nat)(v:Value)(arr:List Ak)(a:Nat)(q:List Ak)(hr:jB arr a q)(hq:q.length=0):aa Zz 269 #[pt g 0,i6 0] [ob g #[v,iN a,iN q.length] 353,fv v arr] [1] (λ_=>[fv v arr]) (λ_=> .tuple #[.agg #[i6 0,i6 0],i6 13]):=by
 have hl:=hr.l
 have ha:=hr.lt
 have hn:=hr.n
 refine fG Tryz.func269 λw cs=>?_
 refine ra (λq1=>[(4,pt (B0 q1) 0),(5,i6 0)]) (λq1=>[ob (B0 q1) #[i6 0,i6 0] 285]) λq1=>ra (λq2=>[(6,pt (B0 q2) 0)]) (λq2=>[ob (B0 q2) #[i6 0,i6 0] 285]) λq2=>r0 [(7,.l 0)] [(18,.bool (decide ((q.length:Int)≤0)))] [] ?_
 have h4:(decide ((q.length:Int)≤0))=true:=by exact cC Om
 exact cT (decide ((q.length:Int)≤0)) h4 (r0 [(0,.l 3),(1,.s 2)] [(5,i6 13)] [5] (lf ab.zero [1] [(0,0)] [2]))
theorem RL(g:Nat)(q:List Ak)(hq:q.length=0):aa Zz 247 #[pt g 0] [pk (bK g q)] [0] (λ_=>[pk (bK g q)]) (λ_=> .tuple #[.agg #[i6 0,i6 0],i6 13]):=aa.pkZ Tryz.func247 λL hL=>by
 obtain⟨v,arr,a,hr,rfl⟩:=hL
 refine⟨[1],λ_=>[fv v arr],?_,rfl,λE=>⟨rfl,rfl,⟨_,_,_,hr,rfl⟩⟩⟩
 have hl:=hr.l
 have ha:=hr.lt
 have hn:=hr.n
 refine fG Tryz.func247 λw cs=>?_
 exact ra (λq1=>[(2,pt (B0 q1) 0),(3,i6 0)]) (λq1=>[ob (B0 q1) #[i6 0,i6 0] 285]) λq1=>r0 [(1,.c [0,1] [1] (RK g v arr a q hr (by(simp only[LL,hl,hq];done)))),(4,.s 2)] [(3,i6 13)] [3] (lf ab.zero [1] [(0,0)] [2])
theorem Fz(g:Nat)(q:List Ak):aa Zz 247 #[pt g 0] [pk (bK g q)] [0] (λ_=>[pk (bK g q.tail)]) (λ_=> .tuple #[.agg #[i6 ((q.headD aJ).k:Int),i6 ((q.headD aJ).w:Int)],i6 (mw q)]):=by
 cases q with
 | nil=>exact RL g [] rfl
 | cons x q=>exact RJ g (x::q) (Nat.succ_pos _)
theorem RM:aa Zz 176 #[i6 256] [] [] (λE=>[ob (E.ZK 0) #[(E.val 0),i6 0,i6 0] 353,fv (E.val 0) (ZD 256 aJ)]) (λE=> .tuple #[pt ((E.ZK 0)) 0,i6 0]):=by
 refine fG Tryz.func176 λw cs=>?_
 exact r0 [] [(2,.pointer none),(3,i6 0)] [] (rF [] 9 (rr (λ_=>[(1,su mW 0 256)]) (λq3=>[(2,pt (B3 q3) 0),(3,i6 0)]) [2,3] (λq3 L=>L++[fv (.slice (some ⟨(q3 1).ZK 0,0,none⟩) 256 256) (ZD 256 aJ),ob (B3 q3) #[.slice (some ⟨(q3 1).ZK 0,0,none⟩) 256 256,i6 0,i6 0] 353]) λq3=>lf (.l [(q3 3).ZK 0] [] [.slice (some ⟨(q3 1).ZK 0,0,none⟩) 256 256]) [1,0] [] []))
theorem RN:aa Zz 176 #[i6 256] [] [] (λE=>[pk (bK (E.ZK 0) [])]) (λE=> .tuple #[pt ((E.ZK 0)) 0,i6 0]):=(RM).outs λE ds hs=>s5 ⟨_,_,_,Rz,rfl⟩ hs
end Go.Proofs.YtbcodenfkijdnaaGreat.E
