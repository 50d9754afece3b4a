/- WholeTold, in 7 texts: part 5. For every input; no condition. -/
import Derived.Test.YtbcodenfkijdnaaGreatPt4
set_option linter.unusedVariables false
set_option linter.unusedSimpArgs false
set_option maxRecDepth 100000
namespace Go.Proofs.YtbcodenfkijdnaaGreat
open Go Go.RowKit Go.Shelf
open Go.Proofs.Tryz renaming prog→gh
open List renaming replicate→mz,length_replicate→YV,mem_append_right→YW,sublist_append_right→YX,length_append→YZ,length_range→Y0,getD_eq_getElem?_getD→Y4,range→Y5,length_map→Y8,append_assoc→Za,getElem?_range→Zf,flatten→Zg,filter_append→Zi,sublist_append_left→Zl,not_mem_nil→Zm,map_append→Zn,append_nil→Zo,filter_nil→Zp,flatten_append→Zs,getElem?_map→Zv,getElem?_replicate→ZE,filter_cons_of_neg→ZF,filter_cons_of_pos→ZG,Perm→ZH,mem_append_left→ZI,mem_of_getElem?→ZJ,flatten_cons→ZO
open Nat renaming le_trans→YU,succ_le_succ→YY,le_succ_of_le→Y1,mul_assoc→Y2,mul_le_mul_right→Y3,mul_comm→Y6,zero_le→Y7,lt_of_lt_of_le→Y9,div_eq_of_lt→Zb,mod_eq_of_lt→Zc,le_mul_of_pos_right→Zd,le_succ→Ze,add_mul_mod_self_right→Zh,succ_mul→Zk,add_comm→Zq,add_mul_div_right→Zr,le_refl→Zt,lt_of_le_of_lt→Zu,zero_mul→Zw,add_zero→Zx,add_mul→ZA,mul_add_div→ZB,mul_add_mod→ZC,mod_lt→ZD,zero_add→ZK,div_lt_of_lt_mul→ZM,blt_eq→ZQ,le_of_not_lt→ZR,not_lt_zero→ZS,xor_self→ZT,zero_xor→ZU,xor_zero→ZV
open Classical renaming choose→Zj,choose_spec→Zz
open Option renaming map_some→Zy
open Go.Result renaming andThen_ok→ZL
open Int renaming le_refl→ZN
open Bool renaming and_eq_true→ZP
namespace E
def bG(c:Cf)(x:Ct)(n:Nat)(l:List UInt8)(m:Nat):Ct:=kH x<| bif (m:Int)==0 then x else bif decide (pc m=64) then ny c x (a2 x n) l false else bif !(cp (bK c x (a2 x n))==0) then ny c (jr c x n) (a2 x n) z6 true else ny c (jr c x n) (a2 x n) (iM (cU c x (a2 x n)) l m) false
def cv(c:Cf)(x:Ct)(n m:Nat):Int:=bif (m:Int)==0 then 30 else bif decide (pc m=64) then 0 else bif !(cp (bK c x (a2 x n))==0) then cp (bK c x (a2 x n)) else 0
theorem wh(l o:List UInt8)(m:Nat):(iM l o m).length=l.length:=vW o _ l
theorem Aq{c:Cf}{x:Ct}{K A:Nat}(h:bu c x K A){n:Nat}(e:n<(c.R*c.B*c.M-c.res)*c.C){l:List UInt8}(d:l.length=64)(m:Nat)(b:K+3≤1000000000):bu c (bG c x n l m) (K+3) (A+2):=by
 have a:=wg h e b;unfold bG;refine h.fix ?_;cases (m:Int)==0
 ·cases decide (pc m=64)
  ·cases !(cp (bK c x (a2 x n))==0)
   ·exact qy a ((wh ..).trans (oq _ (mO h.D _) _)) false
   ·exact qy a YV true
  ·exact(qy h d false).mono Om Om
 ·exact h.mono Om Om
def ke(c:Cf)(x:Ct):Ct:={x with U:=(x.U+1)%((c.R*c.B*c.M-c.res)*c.C)}
def lC(c:Cf)(x:Ct):Ct:=cI c (ke c x) x.U true
theorem Ar{c:Cf}{x:Ct}{K A:Nat}(h:bu c x K A):bu c (ke c x) K A:=⟨h.cf,h.s,h.D,h.gl,h.vl,h.nl,h.ly,h.run,ZD _ (by have:=h.U;omega),h.time⟩
theorem UH{c:Cf}{x:Ct}{K A:Nat}(h:bu c x K A)(a:K+3≤1000000000):bu c (lC c x) (K+3) (A+2):=GS (Ar h) h.U true a
theorem At(l y:List UInt8)(m:Nat)(b:l.length=64)(d:y.length=64)(c:m<18446744073709551616):aa gh 94 #[.agg (rB 64 l).toArray,.agg (rB 64 y).toArray,u6 (m:Int)] [] [] N0 (λ_=> .agg (rB 64 (iM l y m)).toArray):=by
 have a:=S4 l y m b d c;rwa [List.take_length] at a
theorem UI(b d o j k i p g a f e:Nat)(c:Cf)(x:Ct)(K A:Nat)(h:bu c x K A)(hA:A≤700000)(u:K+3≤1000000000)(n:Nat)(B:n<((c.R*c.B*c.M-c.res)*c.C)):aa gh 91 #[pt b 0,iN n] [pk (aV b d o j k i p g a f e c x)] [0] (λ_=>[pk (aV b d o j k i p g a f e c (cI c x n c.X))]) (λ_=> .tuple #[.agg (rB 64 (cU c x (a2 x n))).toArray,i6 (cp (bK c x (a2 x n)))]):=aa.pkZ Tryz.func91 λL y=>by
 obtain⟨v,rfl⟩:=y;refine⟨[0,2,3,4,5,6,7],λE=>[ob b #[pt d 0,pt a 0,pt e 0,iN x.U,(E.val 0)] 119,pk (au o j k (cI c x n c.X).s.r),pk (aF i p (cI c x n c.X).s.k),pk (aB g (cI c x n c.X).s.g),pk (dL e),pk (bk a f c (cI c x n c.X).V),b9 (E.val 0) ((cI c x n c.X).ns)],?_,rfl,λE=>⟨rfl,rfl,⟨_,rfl⟩⟩⟩;have q:=h.cf;have F:=q.E;have D:=q.E;have z:=h.dv Om;have C:=h.nl;exact fG Tryz.func91 λw cs=>ra (λr=>[(4,pt (B0 r) 0),(5,i6 0)]) (λr=>[ob (B0 r) (rB 64 z6).toArray 43]) λr=>rr (λ_=>[(5,.m (ld 0 (pt d 0))),(9,.m (ld 1 (.bool c.X))),(10,.c [0,1,2,3,4,5,6,7] [0,2,3,4,5,6,7] (GX b d o j k i p g a f e c x.s x.U x.ns x.V _ _ h v hA u n B c.X)),(13,.s 8)]) (λ_=>[(5,i6 (cp (bK c x (a2 x n))))]) [5] (λt L=>((((((L.set 0 (ob b #[pt d 0,pt a 0,pt e 0,iN x.U,((t 10).val 0)] 119)).set 2 ((pk (au o j k (cI c x n c.X).s.r)))).set 3 ((pk (aF i p (cI c x n c.X).s.k)))).set 4 ((pk (aB g (cI c x n c.X).s.g)))).set 6 ((pk (bk a f c (cI c x n c.X).V)))).set 7 (b9 ((t 10).val 0) ((cI c x n c.X).ns))).set 8 (ob (B0 r) (rB 64 (cU c x (a2 x n))).toArray 43)) λt=>aq (.tuple #[.agg (rB 64 (cU c x (a2 x n))).toArray,i6 (cp (bK c x (a2 x n)))]) (.l [] [] [((t 10).val 0)]) ba [0,2,3,4,5,6,7] [(1,1)] [8] (hf:=by kernel_rfl)
theorem UJ(l m i o p f t e d r g:Nat)(c:Cf)(s:Le)(a:Nat)(ns:List Nt)(V:Dv)(K A:Nat)(h:bu c ⟨s,a,ns,V⟩ K A)(v:Value)(n:Int)(u:bQ n ((((c.R*c.B*c.M-c.res)*c.C):Nat):Int)=false)(b:Bool):aa gh 83 #[pt l 0,i6 n,.bool b] [ob l #[pt m 0,pt d 0,pt g 0,iN a,v] 119,ob m (lA c i f e s.time) 122,pk (au i o p s.r),pk (aF f t s.k),pk (aB e s.g),pk (dL g),pk (bk d r c V),b9 v ns] [2,3,4,5,6,7] (λ_=>[pk (au i o p s.r),pk (aF f t s.k),pk (aB e s.g),pk (dL g),pk (bk d r c V),b9 v ns]) (λ_=> .tuple #[.agg (rB 64 z6).toArray,i6 30]):=by
 have x:=h.s.r;have q:bQ n (((s.r.m.R*s.r.m.B*s.r.m.M-s.r.m.res)*s.r.m.C:Nat):Int)=false:=by rw[h.ly.R,h.ly.B,h.ly.M,h.ly.C,h.ly.res];exact u
 exact fG Tryz.func83 λw cs=>ra (λj=>[(6,pt (B0 j) 0),(7,i6 0)]) (λj=>[ob (B0 j) (rB 64 z6).toArray 43]) λj=>rr (λ_=>[(2,.c [0,1,2] [2] (GW l m i o p f e d g c s.r x a s.time v n q)),(7,.s 9)]) (λk=>[(8,pt (B6 k) 0),(9,i6 30)]) [] (λk L=>L++[ob (B6 k) #[i6 0,i6 0,i6 0] 180]) λk=>rT [] 19 (r0 [(2,.s 8)] [(7,i6 30)] [7] (lf ab.zero [2,3,4,5,6,7] [(0,0),(1,1)] [8]))
theorem UK(b i o j l g p f d e k:Nat)(c:Cf)(x:Ct)(K A:Nat)(h:bu c x K A)(n:Int)(r:bQ n ((((c.R*c.B*c.M-c.res)*c.C):Nat):Int)=false):aa gh 91 #[pt b 0,i6 n] [pk (aV b i o j l g p f d e k c x)] [0] (λ_=>[pk (aV b i o j l g p f d e k c x)]) (λ_=> .tuple #[.agg (rB 64 z6).toArray,i6 30]):=aa.pkZ Tryz.func91 λL q=>by
 obtain⟨v,rfl⟩:=q;refine⟨[2,3,4,5,6,7],λ_=>[pk (au o j l x.s.r),pk (aF g p x.s.k),pk (aB f x.s.g),pk (dL k),pk (bk d e c x.V),b9 v x.ns],?_,rfl,λE=>⟨rfl,rfl,⟨_,rfl⟩⟩⟩;exact fG Tryz.func91 λw cs=>ra (λa=>[(4,pt (B0 a) 0),(5,i6 0)]) (λa=>[ob (B0 a) (rB 64 z6).toArray 43]) λa=>rr (λ_=>[(5,.m (ld 0 (pt i 0))),(9,.m (ld 1 (.bool c.X))),(10,.c [0,1,2,3,4,5,6,7] [2,3,4,5,6,7] (UJ b i o j l g p f d e k c x.s x.U x.ns x.V _ _ h v n r c.X)),(13,.s 8)]) (λ_=>[(5,i6 30)]) [5] (λ_ L=>L.set 8 (ob (B0 a) (rB 64 z6).toArray 43)) λt=>lf ab.zero [2,3,4,5,6,7] [(0,0),(1,1)] [8]
theorem GY(j q r D F o I k b g i:Nat)(c:Cf)(x:Ct)(K A:Nat)(h:bu c x K A)(hA:A≤700000)(W:K+3≤1000000000)(n:Nat)(X:n<((c.R*c.B*c.M-c.res)*c.C))(u:Value)(l:List UInt8)(hl:l.length=64)(m:Nat)(H:m<18446744073709551616)(v:Value):aa gh 93 #[pt j 0,iN n,u,u6 (m:Int)] [ob j #[pt q 0,pt b 0,pt i 0,iN x.U,v] 119,ob q (lA c r o k x.s.time) 122,pk (au r D F x.s.r),pk (aF o I x.s.k),pk (aB k x.s.g),pk (dL i),pk (bk b g c x.V),b9 v x.ns,.p (aP eB u l)] [0,2,3,4,5,6,7] (λE=>[ob j #[pt q 0,pt b 0,pt i 0,iN x.U,(E.val 0)] 119,pk (au r D F (bG c x n l m).s.r),pk (aF o I (bG c x n l m).s.k),pk (aB k (bG c x n l m).s.g),pk (dL i),pk (bk b g c (bG c x n l m).V),b9 (E.val 0) ((bG c x n l m).ns)]) (λ_=>i6 (cv c x n m)):=by
 have e:=h.cf;have hm:=e.E;have HM:=e.E;have P:=h.dv Om;have Z:=h.nl;have f:=wc h X;have hr:=h.s.r;have ht:=wg h X W;have G:=ht.dv Om;have z:=f.1;have y:=f.2.1;have Q:=f.2.2.1;have U:=f.2.2.2.1;have S:=f.2.2.2.2;have R:(cU c x (aU x.s.r.m x.s.r.j n)).length=64:=oq c.E (mO h.D _) _;have Y:=(wh (cU c x (aU x.s.r.m x.s.r.j n)) l m).trans R;have hz6:z6.length=64:=YV;refine fO Tryz.func93 8 rfl λN T=>fG Tryz.func93 λw cs=>r0 [] [(8,i6 0)] [] (rr (λ_=>[(2,.c [0,1,2] [2] (GV j q r D F o k b i c x.s.r hr x.U x.s.time v n S)),(7,.s 9)]) (λJ=>[(9,pt (B6 J) 0),(10,i6 0)]) [] (λJ L=>L++[ob (B6 J) #[i6 ((aU x.s.r.m x.s.r.j n:Nat):Int),i6 ((az x.s.r.m n:Nat):Int),i6 ((aO x.s.r.m.G x.s.r.m.R x.s.r.m.B x.s.r.m.M (az x.s.r.m n):Nat):Int)] 180]) λJ=>rr (λ_=>[(1,.c [8] [] (aa.at (rd':=[.c N]) (FZ u l (by with_reducible assumption)) (ei T (λ_ h=>h)))),(6,.s 10)]) (λM=>[(11,pt (B5 M) 0),(12,i6 0)]) [] (λM L=>L++[ob (B5 M) (rB 64 l).toArray 43]) λM=>r0 [] [(27,.bool ((m:Int)==0))] [] ?_);refine cE (m:Int) 0 (λt O=>?_) λt O=>?_
 ·exact r0 [] [(8,i6 30)] [8] (aq (i6 30) (.l [] [] [v]) (by unfold cv a2;(repeat (first | rw[t] | rw[ALct]))) [0,2,3,4,5,6,7] [(1,1),(8,8)] [] (hf:=by unfold bG kH jr a2 mQ mS;dsimp only;(repeat (first | rw[t] | rw[ALct]));kernel_rfl))
 refine r0 [(1,.c [] [] (SY m H))] [(38,.bool (decide (pc m=64)))] [] ?_;refine cB (decide (pc m=64)) (λB=>?_) λB=>?_
 ·exact rr (λ_=>[(2,.l 9),(3,.l 10),(4,.c [0,1,5,6] [5,6] (pr j q r o k b g i c e x.U x.s.time v x.V (by with_reducible exact P) (aU x.s.r.m x.s.r.j n) z y l (by with_reducible assumption) false))]) N0 [] (λ_ L=>L.set 6 ((pk (bk b g c (iC x.V ((aU x.s.r.m x.s.r.j n):Int) (fe c.E l ((aU x.s.r.m x.s.r.j n):Int) false) (bif false then 1 else 0)))))) λq9=>r0 [] [(8,i6 0)] [8] (aq (i6 0) (.l [] [] [v]) (by unfold cv a2;(repeat (first | rw[t] | rw[B] | rw[ALct] | rw[ALcf]))) [0,2,3,4,5,6,7] [(1,1),(8,8)] [] (hf:=by unfold bG kH jr a2 mQ mS;dsimp only;(repeat (first | rw[t] | rw[B] | rw[ALct] | rw[ALcf]));kernel_rfl))
 refine rr (λ_=>[(1,.l 9),(2,.c [0,1,2,3,4,5,6,7] [0,2,3,4,5,6,7] (Ao j q r D F o I k b g i c x.s x.U x.ns x.V _ _ h v hA W (aU x.s.r.m x.s.r.j n) (az x.s.r.m n) (aO x.s.r.m.G x.s.r.m.R x.s.r.m.B x.s.r.m.M (az x.s.r.m n)) z y Q U)),(8,.s 11),(9,.s 12)]) (λa=>[(13,pt (B6 a) 0),(14,pt (B7 a) 0)]) [] (λa L=>(((((L.set 0 (ob j #[pt q 0,pt b 0,pt i 0,iN x.U,((a 2).val 0)] 119)).set 2 ((pk (au r D F (b3 c x (aU x.s.r.m x.s.r.j n) (az x.s.r.m n) (aO x.s.r.m.G x.s.r.m.R x.s.r.m.B x.s.r.m.M (az x.s.r.m n))).s.r)))).set 3 ((pk (aF o I (b3 c x (aU x.s.r.m x.s.r.j n) (az x.s.r.m n) (aO x.s.r.m.G x.s.r.m.R x.s.r.m.B x.s.r.m.M (az x.s.r.m n))).s.k)))).set 4 ((pk (aB k (b3 c x (aU x.s.r.m x.s.r.j n) (az x.s.r.m n) (aO x.s.r.m.G x.s.r.m.R x.s.r.m.B x.s.r.m.M (az x.s.r.m n))).s.g)))).set 6 ((pk (bk b g c (b3 c x (aU x.s.r.m x.s.r.j n) (az x.s.r.m n) (aO x.s.r.m.G x.s.r.m.R x.s.r.m.B x.s.r.m.M (az x.s.r.m n))).V)))).set 7 (b9 ((a 2).val 0) ((b3 c x (aU x.s.r.m x.s.r.j n) (az x.s.r.m n) (aO x.s.r.m.G x.s.r.m.R x.s.r.m.B x.s.r.m.M (az x.s.r.m n))).ns))++[ob (B6 a) (rB 64 (cU c x (aU x.s.r.m x.s.r.j n))).toArray 43,ob (B7 a) #[i6 ((bK c x (aU x.s.r.m x.s.r.j n):Nat):Int),i6 ((gX c.E (l7 c x (aU x.s.r.m x.s.r.j n)) ((aU x.s.r.m x.s.r.j n):Int):Nat):Int)] 79]) λa=>r0 [(0,.l 12),(1,.c [] [] (Ap (bK c x (aU x.s.r.m x.s.r.j n)) (gX c.E (l7 c x (aU x.s.r.m x.s.r.j n)) ((aU x.s.r.m x.s.r.j n):Int))))] [(15,i6 (cp (bK c x (aU x.s.r.m x.s.r.j n))))] [] (r0 [] [(55,.bool ((cp (bK c x (aU x.s.r.m x.s.r.j n))) != 0))] [] ?_);refine m6 (cp (bK c x (aU x.s.r.m x.s.r.j n))) 0 (λd C=>?_) λd C=>?_
 ·exact rr (λ_=>[(2,.l 9),(4,.c [0,1,5,6] [5,6] (pr j q r o k b g i c e x.U x.s.time ((a 2).val 0) ((b3 c x (aU x.s.r.m x.s.r.j n) (az x.s.r.m n) (aO x.s.r.m.G x.s.r.m.R x.s.r.m.B x.s.r.m.M (az x.s.r.m n))).V) (by exact G) (aU x.s.r.m x.s.r.j n) z y z6 (by with_reducible assumption) true))]) N0 [] (λ_ L=>L.set 6 ((pk (bk b g c (iC ((b3 c x (aU x.s.r.m x.s.r.j n) (az x.s.r.m n) (aO x.s.r.m.G x.s.r.m.R x.s.r.m.B x.s.r.m.M (az x.s.r.m n))).V) ((aU x.s.r.m x.s.r.j n):Int) (fe c.E z6 ((aU x.s.r.m x.s.r.j n):Int) true) (bif true then 1 else 0)))))) λq15=>r0 [] [(8,i6 (cp (bK c x (aU x.s.r.m x.s.r.j n))))] [8] (aq (i6 (cp (bK c x (aU x.s.r.m x.s.r.j n)))) (.l [] [] [((a 2).val 0)]) (by unfold cv a2;(repeat (first | rw[t] | rw[B] | rw[d] | rw[ALct] | rw[ALcf]))) [0,2,3,4,5,6,7] [(1,1),(8,8)] [] (hf:=by unfold bG kH jr a2 mQ mS;dsimp only;(repeat (first | rw[t] | rw[B] | rw[d] | rw[ALct] | rw[ALcf]));kernel_rfl))
 exact rs [(2,.l 9),(3,.l 11),(4,.l 10),(6,.c [] [] (At (cU c x (aU x.s.r.m x.s.r.j n)) l m (by with_reducible assumption) (by with_reducible assumption) H)),(7,.c [0,1,5,6] [5,6] (pr j q r o k b g i c e x.U x.s.time ((a 2).val 0) ((b3 c x (aU x.s.r.m x.s.r.j n) (az x.s.r.m n) (aO x.s.r.m.G x.s.r.m.R x.s.r.m.B x.s.r.m.M (az x.s.r.m n))).V) (by exact G) (aU x.s.r.m x.s.r.j n) z y (iM (cU c x (aU x.s.r.m x.s.r.j n)) l m) (by with_reducible assumption) false))] 6 ((pk (bk b g c (iC ((b3 c x (aU x.s.r.m x.s.r.j n) (az x.s.r.m n) (aO x.s.r.m.G x.s.r.m.R x.s.r.m.B x.s.r.m.M (az x.s.r.m n))).V) ((aU x.s.r.m x.s.r.j n):Int) (fe c.E (iM (cU c x (aU x.s.r.m x.s.r.j n)) l m) ((aU x.s.r.m x.s.r.j n):Int) false) (bif false then 1 else 0))))) (r0 [] [(8,i6 0)] [8] (aq (i6 0) (.l [] [] [((a 2).val 0)]) (by unfold cv a2;(repeat (first | rw[t] | rw[B] | rw[d] | rw[ALcf]))) [0,2,3,4,5,6,7] [(1,1),(8,8)] [] (hf:=by unfold bG kH jr a2 mQ mS;dsimp only;(repeat (first | rw[t] | rw[B] | rw[d] | rw[ALcf]));kernel_rfl)))
theorem GZ(a i o j k g q f b e d:Nat)(c:Cf)(x:Ct)(K A:Nat)(h:bu c x K A)(hA:A≤700000)(t:K+3≤1000000000)(n:Nat)(z:n<((c.R*c.B*c.M-c.res)*c.C))(u:Value)(l:List UInt8)(y:l.length=64)(m:Nat)(r:m<18446744073709551616):aa gh 93 #[pt a 0,iN n,u,u6 (m:Int)] [pk (aV a i o j k g q f b e d c x),.p (aP eB u l)] [0] (λ_=>[pk (aV a i o j k g q f b e d c (bG c x n l m))]) (λ_=>i6 (cv c x n m)):=aa.pkZ Tryz.func93 λL w=>by
 obtain⟨v,rfl⟩:=w;exact⟨[0,2,3,4,5,6,7],λE=>[ob a #[pt i 0,pt b 0,pt d 0,iN x.U,(E.val 0)] 119,pk (au o j k (bG c x n l m).s.r),pk (aF g q (bG c x n l m).s.k),pk (aB f (bG c x n l m).s.g),pk (dL d),pk (bk b e c (bG c x n l m).V),b9 (E.val 0) ((bG c x n l m).ns)],GY a i o j k g q f b e d c x K A h hA t n z u l y m r v,rfl,λE=>⟨rfl,rfl,⟨_,rfl⟩⟩⟩
section
section
variable {R S B M C way r b w:Nat}
theorem UL(g:cC R S B M C)(c:r<R)(a:b<B)(d:w<M):mF way R B M r b w<R*B*M:=by
 have e:R*B*M=M*B*R:=by rw[Y6 (R*B),Y6 R,←Y2]
 have f:R*B*M=R*M*B:=by rw[Y2,Y6 B,Y2]
 match way with
 | 0=>exact sA d a c
 | 1=>rw[f];exact sA a d c
 | 2=>rw[e];exact sA c a d
 | k+3=>rw[e];exact sA c (qd g.pow a) d
end
def cV(r:Rp):Nat:=if r.j.A=1 then r.j.fr else mF r.m.G r.m.R r.m.B r.m.M r.j.fr (r.j.nx/r.m.C/r.m.M) (r.j.nx/r.m.C%r.m.M)
def dy(r:Rp):Nat:=if r.j.A=1 then aO r.m.G r.m.R r.m.B r.m.M r.j.fr else r.j.fr
theorem Au{r:Rp}(h:Yo r)(d:r.j.A≠0)(c:r.j.nx<gD r.j.A r.m.B r.m.M r.m.C):cV r<r.m.R*r.m.B*r.m.M∧dy r<r.m.R∧gZ r.m.R r.m.S r.m.B r.m.M r.m.C (a9 r.m r.j.A r.j.fr r.j.nx)∧gZ r.m.R r.m.S r.m.B r.m.M r.m.C (a9 r.m r.j.A r.j.tg r.j.nx):=by
 unfold cV dy;rcases h.j.k with e | ⟨e,a⟩ | ⟨e,a⟩
 ·rw[e] at d;exact absurd rfl d
 ·rw[e] at c⊢;exact⟨a.hf,sC h.m.O,Ai h.m a.hf c,Ai h.m a.ht c⟩
 ·rw[e] at c⊢;have f:=vE h.m (r:=r.j.fr) (i:=r.j.nx) (by have:=a.hf;omega) c;have:=a.t1;have:=h.m.rk;exact⟨UL h.m.O a.hf f.h1 f.h2,a.hf,Aj h.m (by have:=a.hf;omega) c,Aj h.m Om c⟩
theorem UM(e i j m o g q f a k d:Nat)(c:Cf)(x:Ct)(K A:Nat)(h:bu c x K A)(hA:A≤700000)(F:K+3≤1000000000)(n:Nat)(I:n<((c.R*c.B*c.M-c.res)*c.C))(u:Value)(l:List UInt8)(O:l.length=64):aa gh 92 #[pt e 0,iN n,u] [pk (aV e i j m o g q f a k d c x),.p (aP eB u l)] [0] (λ_=>[pk (aV e i j m o g q f a k d c (bG c x n l 18446744073709551615))]) (λ_=>i6 (cv c x n 18446744073709551615)):=aa.pkZ Tryz.func92 λL G=>by
 obtain⟨v,rfl⟩:=G;refine⟨[0,2,3,4,5,6,7],λE=>[ob e #[pt i 0,pt a 0,pt d 0,iN x.U,(E.val 0)] 119,pk (au j m o (bG c x n l 18446744073709551615).s.r),pk (aF g q (bG c x n l 18446744073709551615).s.k),pk (aB f (bG c x n l 18446744073709551615).s.g),pk (dL d),pk (bk a k c (bG c x n l 18446744073709551615).V),b9 (E.val 0) ((bG c x n l 18446744073709551615).ns)],?_,rfl,λE=>⟨rfl,rfl,⟨_,rfl⟩⟩⟩;have t:=h.cf;have P:=t.E;have N:=t.E;have H:=h.dv Om;have J:=h.nl;exact fO Tryz.func92 8 rfl λz D=>fG Tryz.func92 λw cs=>r0 [] [(6,i6 0)] [] (rr (λ_=>[(3,.c [0,1,2,3,4,5,6,7,8] [0,2,3,4,5,6,7] (aa.at (rd':=[ob e #[pt i 0,pt a 0,pt d 0,iN x.U,v] 119,ob i (lA c j g f x.s.time) 122,pk (au j m o x.s.r),pk (aF g q x.s.k),pk (aB f x.s.g),pk (dL d),pk (bk a k c x.V),b9 v x.ns,.c z]) (GY e i j m o g q f a k d c x _ _ h hA F n I u l (by with_reducible assumption) 18446744073709551615 Om v) (atS (atS (atS (atS (atS (atS (atS (atS (ei D (λ_ h=>h))))))))))))]) (λ_=>[(6,i6 (cv c x n 18446744073709551615))]) [6] (λy L=>(((((L.set 0 (ob e #[pt i 0,pt a 0,pt d 0,iN x.U,((y 3).val 0)] 119)).set 2 ((pk (au j m o (bG c x n l 18446744073709551615).s.r)))).set 3 ((pk (aF g q (bG c x n l 18446744073709551615).s.k)))).set 4 ((pk (aB f (bG c x n l 18446744073709551615).s.g)))).set 6 ((pk (bk a k c (bG c x n l 18446744073709551615).V)))).set 7 (b9 ((y 3).val 0) ((bG c x n l 18446744073709551615).ns))) λy=>lf (.l [] [] [((y 3).val 0)]) [0,2,3,4,5,6,7] [(1,1),(8,8)] [])
theorem G0(q t i y z f H e a G g:Nat)(c:Cf)(x:Ct)(K A:Nat)(h:bu c x K A)(n:Int)(I:bQ n ((((c.R*c.B*c.M-c.res)*c.C):Nat):Int)=false)(u:Value)(l:List UInt8)(N:l.length=64)(m:Nat)(v:Value):aa gh 93 #[pt q 0,i6 n,u,u6 (m:Int)] [ob q #[pt t 0,pt a 0,pt g 0,iN x.U,v] 119,ob t (lA c i f e x.s.time) 122,pk (au i y z x.s.r),pk (aF f H x.s.k),pk (aB e x.s.g),pk (dL g),pk (bk a G c x.V),b9 v x.ns,.p (aP eB u l)] [2,3,4,5,6,7] (λ_=>[pk (au i y z x.s.r),pk (aF f H x.s.k),pk (aB e x.s.g),pk (dL g),pk (bk a G c x.V),b9 v x.ns]) (λ_=>i6 30):=by
 have J:=h.s.r;have D:bQ n (((x.s.r.m.R*x.s.r.m.B*x.s.r.m.M-x.s.r.m.res)*x.s.r.m.C:Nat):Int)=false:=by rw[h.ly.R,h.ly.B,h.ly.M,h.ly.C,h.ly.res];exact I
 exact fO Tryz.func93 8 rfl λo F=>fG Tryz.func93 λw cs=>r0 [] [(8,i6 0)] [] (rr (λ_=>[(2,.c [0,1,2] [2] (GW q t i y z f e a g c x.s.r J x.U x.s.time v n D)),(7,.s 9)]) (λj=>[(9,pt (B6 j) 0),(10,i6 30)]) [] (λj L=>L++[ob (B6 j) #[i6 0,i6 0,i6 0] 180]) λj=>rr (λ_=>[(1,.c [8] [] (aa.at (rd':=[.c o]) (FZ u l (by with_reducible assumption)) (ei F (λ_ h=>h)))),(6,.s 10)]) (λk=>[(11,pt (B5 k) 0),(12,i6 0)]) [] (λk L=>L++[ob (B5 k) (rB 64 l).toArray 43]) λk=>rT [(3,.d),(4,.d),(7,.d),(8,.d)] 27 (r0 [] [(8,i6 30)] [8] (lf ab.zero [2,3,4,5,6,7] [(0,0),(1,1),(8,8)] [])))
theorem UN(a s o i k g q f d e j:Nat)(c:Cf)(x:Ct)(K A:Nat)(h:bu c x K A)(n:Int)(z:bQ n ((((c.R*c.B*c.M-c.res)*c.C):Nat):Int)=false)(u:Value)(l:List UInt8)(y:l.length=64)(m:Nat):aa gh 93 #[pt a 0,i6 n,u,u6 (m:Int)] [pk (aV a s o i k g q f d e j c x),.p (aP eB u l)] [0] (λ_=>[pk (aV a s o i k g q f d e j c x)]) (λ_=>i6 30):=aa.pkZ Tryz.func93 λL t=>by
 obtain⟨v,rfl⟩:=t;exact⟨[2,3,4,5,6,7],λ_=>[pk (au o i k x.s.r),pk (aF g q x.s.k),pk (aB f x.s.g),pk (dL j),pk (bk d e c x.V),b9 v x.ns],G0 a s o i k g q f d e j c x K A h n z u l y m v,rfl,λE=>⟨rfl,rfl,⟨_,rfl⟩⟩⟩
theorem UO(i k g m o e q d a j f:Nat)(c:Cf)(x:Ct)(K A:Nat)(h:bu c x K A)(n:Int)(z:bQ n ((((c.R*c.B*c.M-c.res)*c.C):Nat):Int)=false)(u:Value)(l:List UInt8)(D:l.length=64):aa gh 92 #[pt i 0,i6 n,u] [pk (aV i k g m o e q d a j f c x),.p (aP eB u l)] [0] (λ_=>[pk (aV i k g m o e q d a j f c x)]) (λ_=>i6 30):=aa.pkZ Tryz.func92 λL y=>by
 obtain⟨v,rfl⟩:=y;refine⟨[2,3,4,5,6,7],λ_=>[pk (au g m o x.s.r),pk (aF e q x.s.k),pk (aB d x.s.g),pk (dL f),pk (bk a j c x.V),b9 v x.ns],?_,rfl,λE=>⟨rfl,rfl,⟨_,rfl⟩⟩⟩;exact fO Tryz.func92 8 rfl λs t=>fG Tryz.func92 λw cs=>r0 [] [(6,i6 0)] [] (r0 [(3,.c [0,1,2,3,4,5,6,7,8] [2,3,4,5,6,7] (aa.at (rd':=[ob i #[pt k 0,pt a 0,pt f 0,iN x.U,v] 119,ob k (lA c g e d x.s.time) 122,pk (au g m o x.s.r),pk (aF e q x.s.k),pk (aB d x.s.g),pk (dL f),pk (bk a j c x.V),b9 v x.ns,.c s]) (G0 i k g m o e q d a j f c x _ _ h n z u l (by with_reducible assumption) 18446744073709551615 v) (atS (atS (atS (atS (atS (atS (atS (atS (ei t (λ_ h=>h))))))))))))] [(6,i6 30)] [6] (lf ab.zero [2,3,4,5,6,7] [(0,0),(1,1),(8,8)] []))
theorem UP(g i u p q o y n f k j:Nat)(c:Cf)(x:Ct)(K A:Nat)(h:bu c x K A)(hA:A≤700000)(H:K+3≤1000000000):aa gh 49 #[pt g 0] [pk (aV g i u p q o y n f k j c x)] [0] (λ_=>[pk (aV g i u p q o y n f k j c (lC c x))]) (λ_=> .tuple #[iN x.U,i6 (cp (bK c (ke c x) (a2 (ke c x) x.U)))]):=aa.pkZ Tryz.func49 λL I=>by
 obtain⟨v,rfl⟩:=I;refine⟨[0,2,3,4,5,6,7],λE=>[ob g #[pt i 0,pt f 0,pt j 0,i6 (((lC c x).U:Nat):Int),E.val 0] 119,pk (au u p q (lC c x).s.r),pk (aF o y (lC c x).s.k),pk (aB n (lC c x).s.g),pk (dL j),pk (bk f k c (lC c x).V),b9 (E.val 0) ((lC c x).ns)],?_,rfl,λE=>⟨rfl,rfl,⟨_,rfl⟩⟩⟩;have e:=h.cf;have Q:=e.E;have P:=e.E;have J:=h.dv Om;have O:=h.nl;have G:=e.ly;have F:=h.U;have N:=YU (Y3 c.C (Nat.sub_le (c.R*c.B*c.M) c.res)) e.O.bd.rbmc;have D:=Ar h;refine fG Tryz.func49 λw cs=>r0 [] [(2,i6 0),(3,i6 0)] [] (r0 [(3,.l 0)] [(4,iN x.U)] [] (rs [(2,ad x.U 1),(6,.m (ld 0 (pt i 0))),(10,.m (ls 1 ([iN c.R,iN c.S,iN c.B,iN c.M,iN c.C,iN c.G,iN c.res]))),(11,.c [] [] (zu c.R c.S c.B c.M c.C c.G c.res G)),(12,.t (tb (a:=i6 ((x.U+1:Nat):Int)) (b:=i6 (((((c.R*c.B)*c.M)-c.res)*c.C:Nat):Int)) λ_ _ _ _=>nM (a:=x.U+1) (d:=(((c.R*c.B)*c.M)-c.res)*c.C) Om)),(15,.s 0)] 0 (ob g #[pt i 0,pt f 0,pt j 0,i6 (((x.U+1)%((((c.R*c.B)*c.M)-c.res)*c.C):Nat):Int),v] 119) ?_));have h:=D;exact rr (λ_=>[(2,.c [0,1,2,3,4,5,6,7] [0,2,3,4,5,6,7] (GX g i u p q o y n f k j c x.s ((x.U+1)%((((c.R*c.B)*c.M)-c.res)*c.C)) x.ns x.V _ _ h v hA H x.U F true)),(7,.s 8)]) (λ_=>[(6,i6 (cp (bK c (⟨x.s,((x.U+1)%((((c.R*c.B)*c.M)-c.res)*c.C)),x.ns,x.V⟩:Ct) (a2 (⟨x.s,((x.U+1)%((((c.R*c.B)*c.M)-c.res)*c.C)),x.ns,x.V⟩:Ct) x.U))))]) [] (λz L=>(((((L.set 0 (ob g #[pt i 0,pt f 0,pt j 0,i6 (((x.U+1)%((((c.R*c.B)*c.M)-c.res)*c.C):Nat):Int),((z 2).val 0)] 119)).set 2 ((pk (au u p q (cI c (⟨x.s,((x.U+1)%((((c.R*c.B)*c.M)-c.res)*c.C)),x.ns,x.V⟩:Ct) x.U true).s.r)))).set 3 ((pk (aF o y (cI c (⟨x.s,((x.U+1)%((((c.R*c.B)*c.M)-c.res)*c.C)),x.ns,x.V⟩:Ct) x.U true).s.k)))).set 4 ((pk (aB n (cI c (⟨x.s,((x.U+1)%((((c.R*c.B)*c.M)-c.res)*c.C)),x.ns,x.V⟩:Ct) x.U true).s.g)))).set 6 ((pk (bk f k c (cI c (⟨x.s,((x.U+1)%((((c.R*c.B)*c.M)-c.res)*c.C)),x.ns,x.V⟩:Ct) x.U true).V)))).set 7 (b9 ((z 2).val 0) ((cI c (⟨x.s,((x.U+1)%((((c.R*c.B)*c.M)-c.res)*c.C)),x.ns,x.V⟩:Ct) x.U true).ns))++[ob (B6 z) (rB 64 (cU c (⟨x.s,((x.U+1)%((((c.R*c.B)*c.M)-c.res)*c.C)),x.ns,x.V⟩:Ct) (a2 (⟨x.s,((x.U+1)%((((c.R*c.B)*c.M)-c.res)*c.C)),x.ns,x.V⟩:Ct) x.U))).toArray 43]) λz=>r0 [] [(2,iN x.U),(3,i6 (cp (bK c (⟨x.s,((x.U+1)%((((c.R*c.B)*c.M)-c.res)*c.C)),x.ns,x.V⟩:Ct) (a2 (⟨x.s,((x.U+1)%((((c.R*c.B)*c.M)-c.res)*c.C)),x.ns,x.V⟩:Ct) x.U))))] [2,3] (aq (.tuple #[iN x.U,i6 (cp (bK c (⟨x.s,((x.U+1)%((((c.R*c.B)*c.M)-c.res)*c.C)),x.ns,x.V⟩:Ct) (a2 (⟨x.s,((x.U+1)%((((c.R*c.B)*c.M)-c.res)*c.C)),x.ns,x.V⟩:Ct) x.U)))]) (.l [] [] [((z 2).val 0)]) ba [0,2,3,4,5,6,7] [(1,1)] [] (hf:=by kernel_rfl))
end
theorem UQ(o j a f g u q p x:Nat)(c:Cf)(r:Rp)(d:Yo r)(k time:Nat)(v:Value)(i:Nat)(z:r.j.A=1)(n:r.j.fr<r.m.R*r.m.B*r.m.M):aa gh 85 #[pt o 0,iN i] [ob o #[pt j 0,pt p 0,pt x 0,iN k,v] 119,ob j (lA c a u q time) 122,pk (au a f g r)] [2] (λ_=>[pk (au a f g r)]) (λ_=> .agg #[iN i,iN r.j.fr,i6 ((aO r.m.G r.m.R r.m.B r.m.M r.j.fr:Nat):Int)]):=by
 have y:=d.m.O;have B:=d.m.ly.G;have A:=EX d.m n;exact fG Tryz.func85 λw cs=>ra (λh=>[(4,pt (B0 h) 0)]) (λh=>[ob (B0 h) #[i6 0,i6 0,i6 0] 180]) λh=>rr (λ_=>[(3,.m (ld 0 (pt j 0))),(6,.m (ld 1 (pt a 0))),(7,.c [2] [2] (zN a f g r d)),(11,.m (ld 0 (pt j 0))),(14,.m (ld 1 (pt a 0))),(15,.c [2] [2] (vP a f g r d)),(16,.c [2] [2] (FY a f g r d)),(17,.m (al 4)),(18,.m (al 5)),(19,.s 4),(20,.s 5)]) (λe=>[(5,pt ((e 17).y 0) 0),(6,pt ((e 18).y 0) 0)]) [] (λe L=>L++[ob ((e 17).y 0) #[iN r.j.A,iN r.j.fr,iN r.j.tg,iN r.j.nx] 70,ob ((e 18).y 0) #[iN r.m.R,iN r.m.S,iN r.m.B,iN r.m.M,iN r.m.C,iN r.m.G,iN r.m.res] 25]) λe=>rF [(1,.l 4),(2,.t (tk (show Value.bool ((r.j.A:Int)==2)= .bool false from ALca Value.bool (by rw[z];rfl))))] 30 (r0 [(1,.m (ls 5 ([iN r.m.R,iN r.m.S,iN r.m.B,iN r.m.M,iN r.m.C]))),(3,.m (ld 5 (iN r.m.G))),(5,.m (ld 4 (iN r.j.fr))),(6,.c [] [] (EW r.m.R r.m.S r.m.B r.m.M r.m.C y r.m.G Om r.j.fr Om)),] [(9,i6 ((gT r.m.G r.m.R r.m.B r.m.M r.j.fr:Nat):Int))] [] (rs [(2,.l 4),(4,.t (tv (av .shr 3 (.tmp 59) (.const (u6 14)) (i6 ((gT r.m.G r.m.R r.m.B r.m.M r.j.fr:Nat):Int)) (u6 14)) (λ_=>dJ (b:=((aO r.m.G r.m.R r.m.B r.m.M r.j.fr:Nat):Int)) (iE 14 Dc) Om))),(6,.s 3)] 3 (ob (B0 h) #[iN i,iN r.j.fr,i6 ((aO r.m.G r.m.R r.m.B r.m.M r.j.fr:Nat):Int)] 180) (lf ab.zero [2] [(0,0),(1,1)] [3])))
theorem UR(y k a g h D C B F:Nat)(c:Cf)(r:Rp)(e:Yo r)(n time:Nat)(v:Value)(i:Nat)(I:r.j.A=2)(H:i=kC r.m r.j.fr r.j.nx)(q:r.j.fr<r.m.R)(u:r.j.nx<r.m.B*r.m.M*r.m.C):aa gh 85 #[pt y 0,iN i] [ob y #[pt k 0,pt B 0,pt F 0,iN n,v] 119,ob k (lA c a D C time) 122,pk (au a g h r)] [2] (λ_=>[pk (au a g h r)]) (λ_=> .agg #[iN i,i6 ((mF r.m.G r.m.R r.m.B r.m.M r.j.fr (r.j.nx/r.m.C/r.m.M) (r.j.nx/r.m.C%r.m.M):Nat):Int),iN r.j.fr]):=by
 have z:=e.m.O;have x:=e.m.ly.G;have d:=vE e.m (r:=r.j.fr) Om u;have o:=d.h1;have p:=d.h2;have G:=d.h3;have A:=z.bd.c64;exact fG Tryz.func85 λw cs=>ra (λj=>[(4,pt (B0 j) 0)]) (λj=>[ob (B0 j) #[i6 0,i6 0,i6 0] 180]) λj=>rr (λ_=>[(3,.m (ld 0 (pt k 0))),(6,.m (ld 1 (pt a 0))),(7,.c [2] [2] (zN a g h r e)),(11,.m (ld 0 (pt k 0))),(14,.m (ld 1 (pt a 0))),(15,.c [2] [2] (vP a g h r e)),(16,.c [2] [2] (FY a g h r e)),(17,.m (al 4)),(18,.m (al 5)),(19,.s 4),(20,.s 5)]) (λf=>[(5,pt ((f 17).y 0) 0),(6,pt ((f 18).y 0) 0)]) [] (λf L=>L++[ob ((f 17).y 0) #[iN r.j.A,iN r.j.fr,iN r.j.tg,iN r.j.nx] 70,ob ((f 18).y 0) #[iN r.m.R,iN r.m.S,iN r.m.B,iN r.m.M,iN r.m.C,iN r.m.G,iN r.m.res] 25]) λf=>rT [(1,.l 4),(2,.t (tk (show Value.bool ((r.j.A:Int)==2)= .bool true from ALca Value.bool (by rw[I];rfl))))] 30 (r0 [(1,.m (ls 5 ([iN r.m.R,iN r.m.S,iN r.m.B,iN r.m.M,iN r.m.C]))),(3,.m (ld 5 (iN r.m.G))),(5,.t (tv (av .shr 3 (.tmp 36) (.const (u6 6)) (iN i) (u6 6)) (λ_=>dJ (b:=((r.j.fr*16384+r.j.nx/r.m.C/r.m.M*1024+r.j.nx/r.m.C%r.m.M:Nat):Int)) (iE 6 Dc) (by rw[H];unfold kC bU;omega)))),(6,.c [] [] (Qf r.m.R r.m.S r.m.B r.m.M r.m.C z r.m.G x r.j.fr (r.j.nx/r.m.C/r.m.M) (r.j.nx/r.m.C%r.m.M) q o p)),] [(7,i6 ((mF r.m.G r.m.R r.m.B r.m.M r.j.fr (r.j.nx/r.m.C/r.m.M) (r.j.nx/r.m.C%r.m.M):Nat):Int))] [] (rs [(3,.l 4),(5,.s 3)] 3 (ob (B0 j) #[iN i,i6 ((mF r.m.G r.m.R r.m.B r.m.M r.j.fr (r.j.nx/r.m.C/r.m.M) (r.j.nx/r.m.C%r.m.M):Nat):Int),iN r.j.fr] 180) (lf ab.zero [2] [(0,0),(1,1)] [3])))
theorem US(d f b g h l k j m:Nat)(c:Cf)(r:Rp)(o:Yo r)(a time:Nat)(v:Value)(i:Nat)(p:r.j.A≠0)(s:r.j.nx<gD r.j.A r.m.B r.m.M r.m.C)(q:i=a9 r.m r.j.A r.j.fr r.j.nx):aa gh 85 #[pt d 0,iN i] [ob d #[pt f 0,pt j 0,pt m 0,iN a,v] 119,ob f (lA c b l k time) 122,pk (au b g h r)] [2] (λ_=>[pk (au b g h r)]) (λ_=> .agg #[iN i,i6 ((cV r:Nat):Int),i6 ((dy r:Nat):Int)]):=by
 unfold cV dy;rcases o.j.k with e | ⟨e,n⟩ | ⟨e,n⟩
 ·rw[e] at p;exact absurd rfl p
 ·rw[ALifp e,ALifp e];exact UQ d f b g h l k j m c r o a time v i e n.hf
 ·rw[e] at s q;rw[ALifn Om,ALifn Om];exact UR d f b g h l k j m c r o a time v i e q n.hf s
def wi(y:Ct):Ct:={y with s:=iz y.s,ns:=y.ns++[(⟨3,0,0,0,0,0⟩:Nt)]}
def qz(x:Ct):Nat:=a9 x.s.r.m x.s.r.j.A x.s.r.j.fr x.s.r.j.nx
def wj(x:Ct):Nat:=a9 x.s.r.m x.s.r.j.A x.s.r.j.tg x.s.r.j.nx
def qA(x:Ct):Bool:=decide (cV x.s.r<x.s.r.m.R*x.s.r.m.B*x.s.r.m.M-x.s.r.m.res+x.s.r.m.Q)&& !x.s.r.m.P.getD (cV x.s.r) false
def wk(c:Cf)(x:Ct):Ct:=b3 c x (qz x) (cV x.s.r) (dy x.s.r)
def lD(c:Cf)(x:Ct):Ct:=bif qA x then ny c (wk c x) (wj x) (cU c x (qz x)) (decide (2≤((bK c x (qz x):Nat):Int))) else ny c x (wj x) z6 false
def jt(c:Cf)(x:Ct):Ct:=kH x (wi (lD c x))
theorem UT{c:Cf}{x:Ct}{K A:Nat}(h:bu c x K A)(a:x.s.r.j.A≠0)(e:K+3≤1000000000):bu c (lD c x) (K+3) (A+2)∧(lD c x).s.r.j=x.s.r.j∧(lD c x).s.r.m=x.s.r.m:=by
 have b:=Au h.s.r a (h.run a);unfold lD;cases qA x
 ·exact⟨(qy h YV false).mono Om Om,rfl,rfl⟩
 ·have d:=Al (i:=qz x) h b.2.1 b.1 e;exact⟨qy d (oq _ (mO h.D _) _) _,GQ c.I x.s _ a⟩
theorem UU{c:Cf}{x:Ct}{K A:Nat}(h:bu c x K A)(a:x.s.r.j.A≠0)(b:K+257≤1000000000):bu c (wi x) (K+257) (A+1):=by
 refine⟨h.cf,Ti h.s a (h.run a) b,h.D,h.gl,Y1 h.vl,?_,h.ly.tr (Tj x.s),Uy h.s.r a h.run,h.U,h.time⟩;show(x.ns++[_]).length≤A+1;rw[YZ];exact YY h.nl
theorem UW{c:Cf}{x:Ct}{K A:Nat}(h:bu c x K A)(a:x.s.r.j.A≠0)(f:K+260≤1000000000):bu c (jt c x) (K+260) (A+3):=by
 obtain⟨b,d,e⟩:=UT h a Om;exact h.fix (UU b (by rw[d];exact a) Om)
def qB(x:Ct):Ct:={x with s:=Ge x.s,ns:=x.ns++[(⟨2,0,0,0,0,0⟩:Nt)]}
def qC(x:Ct):Ct:={x with s:=Gf x.s,ns:=x.ns++[(⟨4,0,0,0,0,0⟩:Nt)]}
theorem UX{c:Cf}{x:Ct}{K A:Nat}(h:bu c x K A)(ht:x.s.time<1099511627776):bu c (qB x) K (A+1):=by
 refine⟨h.cf,Tl h.s,h.D,h.gl,Y1 h.vl,?_,h.ly,h.run,h.U,ht⟩;show(x.ns++[_]).length≤A+1;rw[YZ];exact YY h.nl
theorem UY{c:Cf}{x:Ct}{K A:Nat}(h:bu c x K A):bu c (qC x) K (A+1):=by
 refine⟨h.cf,Tm h.s,h.D,h.gl,Y1 h.vl,?_,h.ly,h.run,h.U,h.time⟩;show(x.ns++[_]).length≤A+1;rw[YZ];exact YY h.nl
theorem UZ(d b i m n a j f e p g:Nat)(c:Cf)(x:Ct)(K A:Nat)(h:bu c x K A)(hA:A≤700000)(ht:x.s.time<1099511627776):aa gh 51 #[pt d 0] [pk (aV d b i m n a j f e p g c x)] [0] (λ_=>[pk (aV d b i m n a j f e p g c (qB x))]) (λ_=>i6 0):=aa.pkZ Tryz.func51 λL r=>by
 obtain⟨v,rfl⟩:=r;refine⟨[0,1,2,3,4,5,6,7],λE=>[ob d #[pt b 0,pt e 0,pt g 0,iN x.U,(E.val 0)] 119,ob b (lA c i a f ((x.s.time+1:Nat))) 122,pk (au i m n x.s.r),pk (aF a j (mJ x.s.k)),pk (aB f x.s.g),pk (dL g),pk (bk e p c x.V),b9 (E.val 0) (x.ns++([(⟨2,0,0,0,0,0⟩:Nt)]))],?_,rfl,λE=>⟨rfl,rfl,⟨_,rfl⟩⟩⟩;have s:=h.s;have k:x.ns.length≤800000:=YU h.nl Om;have q:x.s.time≤1000000000000000:=by omega
 exact fG Tryz.func51 λw cs=>r0 [] [(2,i6 0)] [] (rF [(3,.l 0),(6,.l 1),(7,.t (tk (show Value.bool (decide (1099511627776≤(x.s.time:Int)))= .bool false from ALca Value.bool (by exact bj Om))))] 10 (rr (λ_=>[(2,.c [0,1,2,3,4,7] [0,1,2,3,4,7] (UF d b i m n a j f e g c x.s _ s x.U v x.ns k q))]) N0 [] (λo L=>(((L.set 0 (ob d #[pt b 0,pt e 0,pt g 0,iN x.U,((o 2).val 0)] 119)).set 1 (ob b (lA c i a f ((x.s.time+1:Nat))) 122)).set 3 ((pk (aF a j (mJ x.s.k))))).set 7 (b9 ((o 2).val 0) (x.ns++([(⟨2,0,0,0,0,0⟩:Nt)])))) λo=>r0 [] [(2,i6 0)] [2] (lf (.l [] [] [((o 2).val 0)]) [0,1,2,3,4,5,6,7] [] [])))
theorem U0(a f m j k i n d b p e:Nat)(c:Cf)(x:Ct)(K A:Nat)(h:bu c x K A)(hA:A≤700000):aa gh 52 #[pt a 0] [pk (aV a f m j k i n d b p e c x)] [0] (λ_=>[pk (aV a f m j k i n d b p e c (qC x))]) (λ_=>iN x.s.g.l.length):=aa.pkZ Tryz.func52 λL q=>by
 obtain⟨v,rfl⟩:=q;refine⟨[0,2,3,4,5,6,7],λE=>[ob a #[pt f 0,pt b 0,pt e 0,iN x.U,(E.val 0)] 119,pk (au m j k x.s.r),pk (aF i n x.s.k),pk (aB d (nm x.s.g)),pk (dL e),pk (bk b p c x.V),b9 (E.val 0) (x.ns++([(⟨4,0,0,0,0,0⟩:Nt)]))],?_,rfl,λE=>⟨rfl,rfl,⟨_,rfl⟩⟩⟩;have r:=h.s;have g:x.ns.length≤800000:=YU h.nl Om;exact fG Tryz.func52 λw cs=>r0 [] [(2,i6 0)] [] (r0 [(3,.l 0),(6,.l 1),(7,.c [4] [4] (FH d x.s.g))] [(3,iN x.s.g.l.length)] [] (rr (λ_=>[(2,.c [0,1,2,3,4,7] [0,2,3,4,7] (UG a f m j k i n d b e c x.s _ r x.U v x.ns g))]) N0 [] (λo L=>((L.set 0 (ob a #[pt f 0,pt b 0,pt e 0,iN x.U,((o 2).val 0)] 119)).set 4 ((pk (aB d (nm x.s.g))))).set 7 (b9 ((o 2).val 0) (x.ns++([(⟨4,0,0,0,0,0⟩:Nt)])))) λo=>r0 [] [(2,iN x.s.g.l.length)] [2] (lf (.l [] [] [((o 2).val 0)]) [0,2,3,4,5,6,7] [(1,1)] [])))
theorem U1(e k a b d j n i f g l:Nat)(c:Cf)(x:Ct)(K A:Nat)(h:bu c x K A)(p:x.s.r.j.A=0):aa gh 50 #[pt e 0] [pk (aV e k a b d j n i f g l c x)] [0] (λ_=>[pk (aV e k a b d j n i f g l c x)]) (λ_=>i6 51):=aa.pkZ Tryz.func50 λL o=>by
 obtain⟨v,rfl⟩:=o;refine⟨[2,3,4,5,6,7],λ_=>[pk (au a b d x.s.r),pk (aF j n x.s.k),pk (aB i x.s.g),pk (dL l),pk (bk f g c x.V),b9 v x.ns],?_,rfl,λE=>⟨rfl,rfl,⟨_,rfl⟩⟩⟩;have q:=h.s.r;exact fG Tryz.func50 λw cs=>r0 [] [(2,i6 0)] [] (r0 [(3,.m (ld 0 (pt k 0))),(6,.m (ld 1 (pt a 0))),(7,.c [2] [2] (RD a b d x.s.r q p)),] [(3,i6 0),(4,i6 0),(5,i6 51)] [] (rT [] 22 (r0 [] [(2,i6 51)] [2] (lf ab.zero [2,3,4,5,6,7] [(0,0),(1,1)] []))))
theorem U2(n e a o p i u f b t j:Nat)(c:Cf)(x:Ct)(K A:Nat)(h:bu c x K A)(hA:A≤700000)(hK:K+260≤1000000000)(B:x.s.r.j.A≠0):aa gh 50 #[pt n 0] [pk (aV n e a o p i u f b t j c x)] [0] (λ_=>[pk (aV n e a o p i u f b t j c (jt c x))]) (λ_=>i6 0):=aa.pkZ Tryz.func50 λL hL=>by
 obtain⟨v,rfl⟩:=hL;refine⟨[0,1,2,3,4,5,6,7],λE=>[ob n #[pt e 0,pt b 0,pt j 0,iN x.U,(E.val 0)] 119,ob e #[iN c.R,iN c.S,iN c.B,iN c.M,iN c.C,iN c.G,iN c.res,iN c.E,iN c.lr,iN c.er,iN c.lp,iN c.ep,iN c.J,iN c.I,iN c.log,.bool c.X,pt a 0,pt i 0,pt f 0,i6 (((jt c x).s.time:Nat):Int)] 122,pk (au a o p (jt c x).s.r),pk (aF i u (jt c x).s.k),pk (aB f (jt c x).s.g),pk (dL j),pk (bk b t c (jt c x).V),b9 (E.val 0) ((jt c x).ns)],?_,rfl,λE=>⟨rfl,rfl,⟨_,rfl⟩⟩⟩;have d:=h.cf;have hm:=d.E;have HM:=d.E;have S:=h.dv Om;have hnl:=h.nl;have F:=h.s.r;have D:=h.run B;have z:=Au F B D;have G:=z.1;have hsr:=z.2.1;have T:=(z.2.2.1.lay h.ly).bd d.O;have U:=(z.2.2.1.lay h.ly).has d.O;have H:=(z.2.2.2.lay h.ly).bd d.O;have I:=(z.2.2.2.lay h.ly).has d.O;have C:K+3≤1000000000:=by omega
 have ht:bu c (b3 c x (a9 x.s.r.m x.s.r.j.A x.s.r.j.fr x.s.r.j.nx) (cV x.s.r) (dy x.s.r)) (K+3) (A+1):=Al h z.2.1 z.1 C;have hts:=ht.s;have hs0:=h.s;have X:=GQ c.I x.s (mP c x (a9 x.s.r.m x.s.r.j.A x.s.r.j.fr x.s.r.j.nx) (cV x.s.r) (dy x.s.r)) B;have R:=ht.dv Om;have Z:(b3 c x (a9 x.s.r.m x.s.r.j.A x.s.r.j.fr x.s.r.j.nx) (cV x.s.r) (dy x.s.r)).ns.length≤800000:=YU ht.nl Om;have Y:x.ns.length≤800000:=YU h.nl Om;have Q:(b3 c x (a9 x.s.r.m x.s.r.j.A x.s.r.j.fr x.s.r.j.nx) (cV x.s.r) (dy x.s.r)).s.r.j.A≠0:=by show(dD _ _ _).r.j.A≠0;rw[X.1];exact B
 have W:(b3 c x (a9 x.s.r.m x.s.r.j.A x.s.r.j.fr x.s.r.j.nx) (cV x.s.r) (dy x.s.r)).s.r.j.nx<gD (b3 c x (a9 x.s.r.m x.s.r.j.A x.s.r.j.fr x.s.r.j.nx) (cV x.s.r) (dy x.s.r)).s.r.j.A (b3 c x (a9 x.s.r.m x.s.r.j.A x.s.r.j.fr x.s.r.j.nx) (cV x.s.r) (dy x.s.r)).s.r.m.B (b3 c x (a9 x.s.r.m x.s.r.j.A x.s.r.j.fr x.s.r.j.nx) (cV x.s.r) (dy x.s.r)).s.r.m.M (b3 c x (a9 x.s.r.m x.s.r.j.A x.s.r.j.fr x.s.r.j.nx) (cV x.s.r) (dy x.s.r)).s.r.m.C:=by show(dD _ _ _).r.j.nx<gD (dD _ _ _).r.j.A (dD _ _ _).r.m.B (dD _ _ _).r.m.M (dD _ _ _).r.m.C;rw[X.1,X.2];exact D
 have O:K+257≤1000000000:=by omega
 have P:K+3+257≤1000000000:=by omega
 have hln:(cU c x (a9 x.s.r.m x.s.r.j.A x.s.r.j.fr x.s.r.j.nx)).length=64:=oq c.E (mO h.D _) _;refine fG Tryz.func50 λw cs=>r0 [] [(2,i6 0)] [] (r0 [(3,.m (ld 0 (pt e 0))),(6,.m (ld 1 (pt a 0))),(7,.c [2] [2] (RC a o p x.s.r F B D)),] [(3,i6 ((a9 x.s.r.m x.s.r.j.A x.s.r.j.fr x.s.r.j.nx:Nat):Int)),(4,i6 ((a9 x.s.r.m x.s.r.j.A x.s.r.j.tg x.s.r.j.nx:Nat):Int)),(5,i6 0)] [] (rF [] 22 (rr (λ_=>[(2,.c [0,1,2] [2] (US n e a o p i f b j c x.s.r F x.U x.s.time v (a9 x.s.r.m x.s.r.j.A x.s.r.j.fr x.s.r.j.nx) B D rfl)),(4,.s 8)]) (λJ=>[(6,pt (B3 J) 0)]) [] (λJ L=>L++[ob (B3 J) #[i6 ((a9 x.s.r.m x.s.r.j.A x.s.r.j.fr x.s.r.j.nx:Nat):Int),i6 ((cV x.s.r:Nat):Int),i6 ((dy x.s.r:Nat):Int)] 180]) λJ=>r0 [(3,.l 0),(6,.l 1),(7,.c [2] [2] (vP a o p x.s.r F)),(9,.l 8),(10,.c [2] [2] (SQ a o p x.s.r F (cV x.s.r) G))] [(37,.bool (decide ((cV x.s.r)<x.s.r.m.R*x.s.r.m.B*x.s.r.m.M-x.s.r.m.res+x.s.r.m.Q)&& !x.s.r.m.P.getD (cV x.s.r) false))] [] ?_)));refine cB (decide ((cV x.s.r)<x.s.r.m.R*x.s.r.m.B*x.s.r.m.M-x.s.r.m.res+x.s.r.m.Q)&& !x.s.r.m.P.getD (cV x.s.r) false) (λN=>?_) λN=>?_
 ·exact rr (λ_=>[(1,.l 8),(2,.c [0,1,2,3,4,5,6,7] [0,2,3,4,5,6,7] (Ao n e a o p i u f b t j c x.s x.U x.ns x.V _ _ h v hA C (a9 x.s.r.m x.s.r.j.A x.s.r.j.fr x.s.r.j.nx) (cV x.s.r) (dy x.s.r) T U G hsr)),(8,.s 9),(9,.s 10)]) (λq=>[(7,pt (B6 q) 0),(8,pt (B7 q) 0)]) [] (λq L=>(((((L.set 0 (ob n #[pt e 0,pt b 0,pt j 0,iN x.U,((q 2).val 0)] 119)).set 2 ((pk (au a o p (b3 c x (a9 x.s.r.m x.s.r.j.A x.s.r.j.fr x.s.r.j.nx) (cV x.s.r) (dy x.s.r)).s.r)))).set 3 ((pk (aF i u (b3 c x (a9 x.s.r.m x.s.r.j.A x.s.r.j.fr x.s.r.j.nx) (cV x.s.r) (dy x.s.r)).s.k)))).set 4 ((pk (aB f (b3 c x (a9 x.s.r.m x.s.r.j.A x.s.r.j.fr x.s.r.j.nx) (cV x.s.r) (dy x.s.r)).s.g)))).set 6 ((pk (bk b t c (b3 c x (a9 x.s.r.m x.s.r.j.A x.s.r.j.fr x.s.r.j.nx) (cV x.s.r) (dy x.s.r)).V)))).set 7 (b9 ((q 2).val 0) ((b3 c x (a9 x.s.r.m x.s.r.j.A x.s.r.j.fr x.s.r.j.nx) (cV x.s.r) (dy x.s.r)).ns))++[ob (B6 q) (rB 64 (cU c x (a9 x.s.r.m x.s.r.j.A x.s.r.j.fr x.s.r.j.nx))).toArray 43,ob (B7 q) #[i6 ((bK c x (a9 x.s.r.m x.s.r.j.A x.s.r.j.fr x.s.r.j.nx):Nat):Int),i6 ((gX c.E (l7 c x (a9 x.s.r.m x.s.r.j.A x.s.r.j.fr x.s.r.j.nx)) ((a9 x.s.r.m x.s.r.j.A x.s.r.j.fr x.s.r.j.nx):Int):Nat):Int)] 79]) λq=>cl [ob n #[pt e 0,pt b 0,pt j 0,iN x.U,((q 2).val 0)] 119,ob e #[iN c.R,iN c.S,iN c.B,iN c.M,iN c.C,iN c.G,iN c.res,iN c.E,iN c.lr,iN c.er,iN c.lp,iN c.ep,iN c.J,iN c.I,iN c.log,.bool c.X,pt a 0,pt i 0,pt f 0,i6 (((b3 c x (a9 x.s.r.m x.s.r.j.A x.s.r.j.fr x.s.r.j.nx) (cV x.s.r) (dy x.s.r)).s.time:Nat):Int)] 122,pk (au a o p (b3 c x (a9 x.s.r.m x.s.r.j.A x.s.r.j.fr x.s.r.j.nx) (cV x.s.r) (dy x.s.r)).s.r),pk (aF i u (b3 c x (a9 x.s.r.m x.s.r.j.A x.s.r.j.fr x.s.r.j.nx) (cV x.s.r) (dy x.s.r)).s.k),pk (aB f (b3 c x (a9 x.s.r.m x.s.r.j.A x.s.r.j.fr x.s.r.j.nx) (cV x.s.r) (dy x.s.r)).s.g),pk (dL j),pk (bk b t c (b3 c x (a9 x.s.r.m x.s.r.j.A x.s.r.j.fr x.s.r.j.nx) (cV x.s.r) (dy x.s.r)).V),b9 ((q 2).val 0) ((b3 c x (a9 x.s.r.m x.s.r.j.A x.s.r.j.fr x.s.r.j.nx) (cV x.s.r) (dy x.s.r)).ns),ob (B3 J) #[i6 ((a9 x.s.r.m x.s.r.j.A x.s.r.j.fr x.s.r.j.nx:Nat):Int),i6 ((cV x.s.r:Nat):Int),i6 ((dy x.s.r:Nat):Int)] 180,ob (B6 q) (rB 64 (cU c x (a9 x.s.r.m x.s.r.j.A x.s.r.j.fr x.s.r.j.nx))).toArray 43,ob (B7 q) #[i6 ((bK c x (a9 x.s.r.m x.s.r.j.A x.s.r.j.fr x.s.r.j.nx):Nat):Int),i6 ((gX c.E (l7 c x (a9 x.s.r.m x.s.r.j.A x.s.r.j.fr x.s.r.j.nx)) ((a9 x.s.r.m x.s.r.j.A x.s.r.j.fr x.s.r.j.nx):Int):Nat):Int)] 79] (by skip;kernel_rfl) (rs [(2,.l 9),(4,.l 10),(6,.c [0,1,5,6] [5,6] (pr n e a i f b t j c d x.U ((b3 c x (a9 x.s.r.m x.s.r.j.A x.s.r.j.fr x.s.r.j.nx) (cV x.s.r) (dy x.s.r)).s.time) ((q 2).val 0) ((b3 c x (a9 x.s.r.m x.s.r.j.A x.s.r.j.fr x.s.r.j.nx) (cV x.s.r) (dy x.s.r)).V) (by with_reducible exact R) (a9 x.s.r.m x.s.r.j.A x.s.r.j.tg x.s.r.j.nx) H I (cU c x (a9 x.s.r.m x.s.r.j.A x.s.r.j.fr x.s.r.j.nx)) (by with_reducible assumption) (decide (2≤((bK c x (a9 x.s.r.m x.s.r.j.A x.s.r.j.fr x.s.r.j.nx):Nat):Int)))))] 6 ((pk (bk b t c (iC ((b3 c x (a9 x.s.r.m x.s.r.j.A x.s.r.j.fr x.s.r.j.nx) (cV x.s.r) (dy x.s.r)).V) ((a9 x.s.r.m x.s.r.j.A x.s.r.j.tg x.s.r.j.nx):Int) (fe c.E (cU c x (a9 x.s.r.m x.s.r.j.A x.s.r.j.fr x.s.r.j.nx)) ((a9 x.s.r.m x.s.r.j.A x.s.r.j.tg x.s.r.j.nx):Int) (decide (2≤((bK c x (a9 x.s.r.m x.s.r.j.A x.s.r.j.fr x.s.r.j.nx):Nat):Int)))) (bif (decide (2≤((bK c x (a9 x.s.r.m x.s.r.j.A x.s.r.j.fr x.s.r.j.nx):Nat):Int))) then 1 else 0))))) (rr (λ_=>[(2,.c [0,1,2,3,4,7] [0,2,3,4,7] (GU n e a o p i u f b j c ((b3 c x (a9 x.s.r.m x.s.r.j.A x.s.r.j.fr x.s.r.j.nx) (cV x.s.r) (dy x.s.r)).s) _ (by with_reducible exact hts) x.U ((q 2).val 0) ((b3 c x (a9 x.s.r.m x.s.r.j.A x.s.r.j.fr x.s.r.j.nx) (cV x.s.r) (dy x.s.r)).ns) (by with_reducible exact Z) (by with_reducible exact P) (by with_reducible exact Q) (by with_reducible exact W)))]) N0 [] (λM L=>((((L.set 0 (ob n #[pt e 0,pt b 0,pt j 0,iN x.U,((M 2).val 0)] 119)).set 2 ((pk (au a o p (iz ((b3 c x (a9 x.s.r.m x.s.r.j.A x.s.r.j.fr x.s.r.j.nx) (cV x.s.r) (dy x.s.r)).s)).r)))).set 3 ((pk (aF i u (iz ((b3 c x (a9 x.s.r.m x.s.r.j.A x.s.r.j.fr x.s.r.j.nx) (cV x.s.r) (dy x.s.r)).s)).k)))).set 4 ((pk (aB f (iz ((b3 c x (a9 x.s.r.m x.s.r.j.A x.s.r.j.fr x.s.r.j.nx) (cV x.s.r) (dy x.s.r)).s)).g)))).set 7 (b9 ((M 2).val 0) (((b3 c x (a9 x.s.r.m x.s.r.j.A x.s.r.j.fr x.s.r.j.nx) (cV x.s.r) (dy x.s.r)).ns)++([(⟨3,0,0,0,0,0⟩:Nt)])))) λM=>r0 [] [(2,i6 0)] [2] (lf (.l [] [] [((M 2).val 0)]) [0,1,2,3,4,5,6,7] [] [] (hf:=by unfold jt kH wi lD qA wk qz wj;dsimp only;(repeat (first | rw[N] | rw[ALct]));kernel_rfl))))
 exact rs [(3,.c [0,1,5,6] [5,6] (pr n e a i f b t j c d x.U x.s.time v x.V (by with_reducible exact S) (a9 x.s.r.m x.s.r.j.A x.s.r.j.tg x.s.r.j.nx) H I z6 ba false))] 6 ((pk (bk b t c (iC x.V ((a9 x.s.r.m x.s.r.j.A x.s.r.j.tg x.s.r.j.nx):Int) (fe c.E z6 ((a9 x.s.r.m x.s.r.j.A x.s.r.j.tg x.s.r.j.nx):Int) false) (bif false then 1 else 0))))) (rr (λ_=>[(2,.c [0,1,2,3,4,7] [0,2,3,4,7] (GU n e a o p i u f b j c x.s _ (by with_reducible exact hs0) x.U v x.ns (by with_reducible exact Y) (by with_reducible exact O) (by with_reducible exact B) (by with_reducible exact D)))]) N0 [] (λy L=>((((L.set 0 (ob n #[pt e 0,pt b 0,pt j 0,iN x.U,((y 2).val 0)] 119)).set 2 ((pk (au a o p (iz x.s).r)))).set 3 ((pk (aF i u (iz x.s).k)))).set 4 ((pk (aB f (iz x.s).g)))).set 7 (b9 ((y 2).val 0) (x.ns++([(⟨3,0,0,0,0,0⟩:Nt)])))) λy=>r0 [] [(2,i6 0)] [2] (lf (.l [] [] [((y 2).val 0)]) [0,1,2,3,4,5,6,7] [] [] (hf:=by unfold jt kH wi lD qA wk qz wj;dsimp only;(repeat (first | rw[N] | rw[ALcf]));kernel_rfl)))
section
section
variable {F:Fence} {n:Nat} {P:Program} {R:List Nat} {base:World} {Q:Exit→Act→World→Prop} {S:List It} {a:Sl} {sz:Nat} {es:Fe} {L:ah} {Ds:List Nat}
def Av(F:Fence)(n:Nat)(P:Program)(c:Code)(T:Exit→Act→World→Prop):Nat→Act→World→Prop
 | 0,_,_=>False
 | k+1,b,W=>c.wpIn F n P (Exit.then (Av F n P c T k) T) b W
def sZ(F:Fence)(n:Nat)(P:Program)(Q:Exit→Act→World→Prop)(S:List It)(k:Nat):Exit→Act→World→Prop:=Exit.then (Av F n P (gw S) (c6 F n P Q (bS S)) k) (c6 F n P Q (bS S))
theorem lu(N:Nat)(t:Go F n P R base (sZ F n P Q S N) [.c (gw S)] ⟨sz,es⟩ L Ds)(r:nP S=true:=by kernel_rfl):Go F n P R base Q S ⟨sz,es⟩ L Ds:=by
 classical
 refine⟨λb W s q=>dG 1000 S ?_⟩;rw[show dm 1000 S=_ from uq r];show(Code.loop (gw S)).wpIn F n P (c6 F n P Q (bS S)) b W
 let J:Nat→Act→World→Prop:=Av F n P (gw S) (c6 F n P Q (bS S))
 let μ:Act→World→Nat:=λb W=>if h: ∃j,J j b W then Zj (kR h) else 0
 have o: ∀b W,(∃j,J j b W)→J (μ b W) b W∧∀i,i<μ b W→¬J i b W:=by
  intro b W h;have e:μ b W=Zj (kR h):=dif_pos h;rw[e];exact Zz (kR h)
 refine wpIn_loop (λb W=>∃j,J j b W) μ ⟨N+1,t.out b W s q⟩ λb W p=>?_;have g:=(o b W p).1;obtain⟨m,v⟩: ∃m,m=μ b W:=⟨_,rfl⟩;rw[←v] at g;cases m with
 | zero=>exact g.elim
 | succ m=>
  refine wpIn_mono (show(gw S).wpIn F n P _ b W from g) λe f d l=>?_;cases e with
  | normal=>
   have k:J m f d:=l;have w:μ f d≤m:=ZR λu=>(o f d ⟨_,k⟩).2 _ u k;exact⟨⟨_,k⟩,by omega⟩
  | _=>exact l
theorem eO{k:Nat}{d:List It}(h:Go F n P R base (sZ F n P Q d k) [.c (gw d)] a L Ds)(f:(nf S).isEmpty=true:=by kernel_rfl):Go F n P R base (sZ F n P Q d (k+1)) S a L Ds:=by
 refine⟨λb W g e=>dG 1000 S ?_⟩;rw[show dm 1000 S=[] from List.isEmpty_iff.1 f];exact h.out b W g e
theorem ot{k:Nat}{c:List It}(e:Go F n P R base Q ((jV S (bS c)).getD []) a L Ds)(g:(jV S (bS c)).isSome=true:=by kernel_rfl):Go F n P R base (sZ F n P Q c k) S a L Ds:=by
 obtain⟨i,d⟩:=Option.isSome_iff_exists.1 g;rw[d] at e;exact⟨λb W h f=>ur d (e.out b W h f) λ_=>rfl⟩
instance {F:Fence} {n:Nat} {P:Program} {Q Q0:Exit→Act→World→Prop} {S0:List It} {k:Nat} [h:Rt Q Q0]:Rt (sZ F n P Q S0 k) Q0:=⟨λb W hq=>gN (S:=bS S0) (h.out b W hq)⟩
end
end
structure St where
 k:Int
 ln:Int
 d:List UInt8
 m:Nat
 f0:Int
 f1:Int
 f2:Int
 f3:Int
 f4:Int
 f5:Int
 f6:Int
 f7:Int
abbrev sL(k j:Int)(d:List UInt8)(m a b c e f g h i:Int):List Value:=([i6 k,i6 j]:List Value)++rB 64 d++([u6 m,i6 a,i6 b,i6 c,i6 e,i6 f,i6 g,i6 h,i6 i]:List Value)
abbrev sV(k j:Int)(d:List UInt8)(m a b c e f g h i:Int):Array Value:=(sL k j d m a b c e f g h i).toArray
def ax:St:=⟨0,0,mz 64 0,0,0,0,0,0,0,0,0,0⟩
def eSt(x:St):List Value:=[i6 x.k,i6 x.ln]++rB 64 x.d++[u6 (x.m:Int),i6 x.f0,i6 x.f1,i6 x.f2,i6 x.f3,i6 x.f4,i6 x.f5,i6 x.f6,i6 x.f7]
def U3:Kd gh St:=⟨eSt,[i6 0,i6 0]++mz 64 (u1 0)++[u6 0,i6 0,i6 0,i6 0,i6 0,i6 0,i6 0,i6 0,i6 0],32,50,ax,75,λ_=>rfl,rfl,λ_=>rfl,dT.mk' Kr Kr rfl⟩
theorem G1(b:Nat)(k n:Int)(d:List UInt8)(m:Nat)(c e f g h i j:Int):aa gh 95 #[pt b 67] [ob b (sV k n d m 1 c e f g h i j) 50] [] (λE=>[ob (E.y 0) #[pt b 68,pt b 69,pt b 70,pt b 71,pt b 73] 197]) (λE=> .slice (some ⟨(E.y 0),0,none⟩) 5 5):=by
 exact fG Tryz.func95 λw cs=>r0 [] [(2,.slice none 0 0)] [] (r0 [] [(3,pt b 68)] [] (r0 [(3,.l 0)] [(10,i6 1)] [] (rT [] 11 (rr (λa=>[(0,.v (pt b 68)),(1,.v (pt b 68)),(2,.v (pt b 68)),(3,.v (pt b 68)),(4,.v (pt b 68)),(5,.v (pt b 69)),(6,.v (pt b 68)),(7,.v (pt b 68)),(8,.v (pt b 70)),(9,.v (pt b 68)),(10,.v (pt b 68)),(11,.v (pt b 71)),(12,.v (pt b 67)),(13,.v (pt b 67)),(14,.v (pt b 73)),(15,.m (bs 1 5)),(16,.v (.slice (some ⟨(a 15).y 0,0,none⟩) 5 5))]) (λa=>[(2,.slice (some ⟨(a 15).y 0,0,none⟩) 5 5)]) [2] (λa L=>L++[ob ((a 15).y 0) #[pt b 68,pt b 69,pt b 70,pt b 71,pt b 73] 197]) λa=>lf (.l [(a 15).y 0] [] []) [1] [(0,0)] []))))
theorem G2(b:Nat)(k n:Int)(d:List UInt8)(m:Nat)(c e f g h i j:Int):aa gh 95 #[pt b 67] [ob b (sV k n d m 2 c e f g h i j) 50] [] (λE=>[ob (E.y 0) #[pt b 68,pt b 69,pt b 70,pt b 71,pt b 73,pt b 74] 197]) (λE=> .slice (some ⟨(E.y 0),0,none⟩) 6 6):=by
 exact fG Tryz.func95 λw cs=>r0 [] [(2,.slice none 0 0)] [] (r0 [] [(3,pt b 68)] [] (r0 [(3,.l 0)] [(10,i6 2)] [] (rF [] 11 (rT [] 29 (rr (λa=>[(0,.v (pt b 68)),(1,.v (pt b 68)),(2,.v (pt b 68)),(3,.v (pt b 68)),(4,.v (pt b 68)),(5,.v (pt b 69)),(6,.v (pt b 68)),(7,.v (pt b 68)),(8,.v (pt b 70)),(9,.v (pt b 68)),(10,.v (pt b 68)),(11,.v (pt b 71)),(12,.v (pt b 67)),(13,.v (pt b 67)),(14,.v (pt b 73)),(15,.v (pt b 67)),(16,.v (pt b 67)),(17,.v (pt b 74)),(18,.m (bs 1 6)),(19,.v (.slice (some ⟨(a 18).y 0,0,none⟩) 6 6))]) (λa=>[(2,.slice (some ⟨(a 18).y 0,0,none⟩) 6 6)]) [2] (λa L=>L++[ob ((a 18).y 0) #[pt b 68,pt b 69,pt b 70,pt b 71,pt b 73,pt b 74] 197]) λa=>lf (.l [(a 18).y 0] [] []) [1] [(0,0)] [])))))
theorem G3(b:Nat)(k n:Int)(d:List UInt8)(m:Nat)(c e f g h i j:Int):aa gh 95 #[pt b 67] [ob b (sV k n d m 3 c e f g h i j) 50] [] (λE=>[ob (E.y 0) #[pt b 68,pt b 69,pt b 70,pt b 72,pt b 74] 197]) (λE=> .slice (some ⟨(E.y 0),0,none⟩) 5 5):=by
 exact fG Tryz.func95 λw cs=>r0 [] [(2,.slice none 0 0)] [] (r0 [] [(3,pt b 68)] [] (r0 [(3,.l 0)] [(10,i6 3)] [] (rF [] 11 (rF [] 29 (rT [] 50 (rr (λa=>[(0,.v (pt b 68)),(1,.v (pt b 68)),(2,.v (pt b 68)),(3,.v (pt b 68)),(4,.v (pt b 68)),(5,.v (pt b 69)),(6,.v (pt b 68)),(7,.v (pt b 68)),(8,.v (pt b 70)),(9,.v (pt b 67)),(10,.v (pt b 67)),(11,.v (pt b 72)),(12,.v (pt b 67)),(13,.v (pt b 67)),(14,.v (pt b 74)),(15,.m (bs 1 5)),(16,.v (.slice (some ⟨(a 15).y 0,0,none⟩) 5 5))]) (λa=>[(2,.slice (some ⟨(a 15).y 0,0,none⟩) 5 5)]) [2] (λa L=>L++[ob ((a 15).y 0) #[pt b 68,pt b 69,pt b 70,pt b 72,pt b 74] 197]) λa=>lf (.l [(a 15).y 0] [] []) [1] [(0,0)] []))))))
theorem G4(b:Nat)(k n:Int)(d:List UInt8)(m:Nat)(c e f g h i j:Int):aa gh 95 #[pt b 67] [ob b (sV k n d m 4 c e f g h i j) 50] [] (λE=>[ob (E.y 0) #[pt b 68,pt b 69,pt b 71,pt b 72,pt b 74] 197]) (λE=> .slice (some ⟨(E.y 0),0,none⟩) 5 5):=by
 exact fG Tryz.func95 λw cs=>r0 [] [(2,.slice none 0 0)] [] (r0 [] [(3,pt b 68)] [] (r0 [(3,.l 0)] [(10,i6 4)] [] (rF [] 11 (rF [] 29 (rF [] 50 (rT [] 68 (rr (λa=>[(0,.v (pt b 68)),(1,.v (pt b 68)),(2,.v (pt b 68)),(3,.v (pt b 68)),(4,.v (pt b 68)),(5,.v (pt b 69)),(6,.v (pt b 68)),(7,.v (pt b 68)),(8,.v (pt b 71)),(9,.v (pt b 67)),(10,.v (pt b 67)),(11,.v (pt b 72)),(12,.v (pt b 67)),(13,.v (pt b 67)),(14,.v (pt b 74)),(15,.m (bs 1 5)),(16,.v (.slice (some ⟨(a 15).y 0,0,none⟩) 5 5))]) (λa=>[(2,.slice (some ⟨(a 15).y 0,0,none⟩) 5 5)]) [2] (λa L=>L++[ob ((a 15).y 0) #[pt b 68,pt b 69,pt b 71,pt b 72,pt b 74] 197]) λa=>lf (.l [(a 15).y 0] [] []) [1] [(0,0)] [])))))))
theorem G5(b:Nat)(k n:Int)(d:List UInt8)(m:Nat)(c e f g h i j:Int):aa gh 95 #[pt b 67] [ob b (sV k n d m 5 c e f g h i j) 50] [] (λE=>[ob (E.y 0) #[pt b 68,pt b 72,pt b 74] 197]) (λE=> .slice (some ⟨(E.y 0),0,none⟩) 3 3):=by
 exact fG Tryz.func95 λw cs=>r0 [] [(2,.slice none 0 0)] [] (r0 [] [(3,pt b 68)] [] (r0 [(3,.l 0)] [(10,i6 5)] [] (rF [] 11 (rF [] 29 (rF [] 50 (rF [] 68 (rT [] 86 (rr (λ_=>[(9,.m (bs 1 3))]) (λa=>[(2,.slice (some ⟨(a 9).y 0,0,none⟩) 3 3)]) [2] (λa L=>L++[ob ((a 9).y 0) #[pt b 68,pt b 72,pt b 74] 197]) λa=>lf (.l [(a 9).y 0] [] []) [1] [(0,0)] []))))))))
theorem G6(b:Nat)(k n:Int)(d:List UInt8)(m:Nat)(c e f g h i j:Int):aa gh 95 #[pt b 67] [ob b (sV k n d m 6 c e f g h i j) 50] [] (λE=>[ob (E.y 0) #[pt b 68,pt b 69,pt b 70,pt b 71] 197]) (λE=> .slice (some ⟨(E.y 0),0,none⟩) 4 4):=by
 exact fG Tryz.func95 λw cs=>r0 [] [(2,.slice none 0 0)] [] (r0 [] [(3,pt b 68)] [] (r0 [(3,.l 0)] [(10,i6 6)] [] (rF [] 11 (rF [] 29 (rF [] 50 (rF [] 68 (rF [] 86 (rT [] 98 (rr (λa=>[(0,.v (pt b 68)),(1,.v (pt b 68)),(2,.v (pt b 68)),(3,.v (pt b 68)),(4,.v (pt b 68)),(5,.v (pt b 69)),(6,.v (pt b 68)),(7,.v (pt b 68)),(8,.v (pt b 70)),(9,.v (pt b 68)),(10,.v (pt b 68)),(11,.v (pt b 71)),(12,.m (bs 1 4)),(13,.v (.slice (some ⟨(a 12).y 0,0,none⟩) 4 4))]) (λa=>[(2,.slice (some ⟨(a 12).y 0,0,none⟩) 4 4)]) [2] (λa L=>L++[ob ((a 12).y 0) #[pt b 68,pt b 69,pt b 70,pt b 71] 197]) λa=>lf (.l [(a 12).y 0] [] []) [1] [(0,0)] [])))))))))
theorem G7(b:Nat)(k j:Int)(d:List UInt8)(m:Nat)(a c e f g h i:Int):aa gh 95 #[pt b 67] [ob b (sV k j d m 7 a c e f g h i) 50] [] N0 (λ_=> .slice none 0 0):=by
 exact fG Tryz.func95 λw cs=>r0 [] [(2,.slice none 0 0)] [] (r0 [] [(3,pt b 68)] [] (r0 [(3,.l 0)] [(10,i6 7)] [] (rF [] 11 (rF [] 29 (rF [] 50 (rF [] 68 (rF [] 86 (rF [] 98 (r0 [] [(2,.slice none 0 0)] [2] (lf ab.zero [] [(0,0)] []))))))))))
theorem G8(b:Nat)(k u:Int)(d:List UInt8)(m:Nat)(a g h i j n o p:Int)(t:a<1∨6<a):aa gh 95 #[pt b 67] [ob b (sV k u d m a g h i j n o p) 50] [] N0 (λ_=> .slice none 0 0):=by
 refine fG Tryz.func95 λw cs=>r0 [] [(2,.slice none 0 0)] [] (r0 [] [(3,pt b 68)] [] (r0 [(3,.l 0)] [(10,i6 a)] [] (r0 [] [(11,.bool (a==1))] [] ?_)));have q:(a==1)=false:=by rw[dz];omega
 refine cF (a==1) q (r0 [] [(29,.bool (a==2))] [] ?_);have r:(a==2)=false:=by rw[dz];omega
 refine cF (a==2) r (r0 [] [(50,.bool (a==3))] [] ?_);have s:(a==3)=false:=by rw[dz];omega
 refine cF (a==3) s (r0 [] [(68,.bool (a==4))] [] ?_);have c:(a==4)=false:=by rw[dz];omega
 refine cF (a==4) c (r0 [] [(86,.bool (a==5))] [] ?_);have e:(a==5)=false:=by rw[dz];omega
 refine cF (a==5) e (r0 [] [(98,.bool (a==6))] [] ?_);have f:(a==6)=false:=by rw[dz];omega
 exact cF (a==6) f (r0 [] [(2,.slice none 0 0)] [2] (lf ab.zero [] [(0,0)] []))
theorem U4(ln:Int)(d:List UInt8)(m:Nat)(c e f g h i j k:Int)(n:d.length=64):aa gh 55 #[.agg (sV 1 ln d m c e f g h i j k)] [] [] N0 (λ_=> .agg (sV 1 ln z6 0 0 0 0 0 0 0 0 0)):=by
 exact fG Tryz.func55 λw cs=>ra (λa=>[(1,pt (B0 a) 0),(2,pt (B1 a) 0)]) (λa=>[ob (B0 a) (sV 1 ln d m c e f g h i j k) 50,ob (B1 a) (sV 0 0 z6 0 0 0 0 0 0 0 0 0) 50]) λa=>rr (λ_=>[(1,.l 0),(4,.s 2)]) (λb=>[(3,pt (B3 b) 0)]) [] (λb L=>L++[ob (B3 b) (sV 1 0 z6 0 0 0 0 0 0 0 0 0) 50]) λb=>r0 [(1,.l 0)] [(11,i6 1)] [] (rT [] 12 (rs [(1,.l 0),(3,.s 2)] 2 (ob (B3 b) (sV 1 ln z6 0 0 0 0 0 0 0 0 0) 50) (rs [(0,.l 2),(1,.s 1)] 1 (ob (B1 a) (sV 1 ln z6 0 0 0 0 0 0 0 0 0) 50) (lf ab.zero [] [] [1]))))
theorem U5(ln:Int)(d:List UInt8)(m:Nat)(c e f g h i j k:Int)(n:d.length=64):aa gh 55 #[.agg (sV 2 ln d m c e f g h i j k)] [] [] N0 (λ_=> .agg (sV 2 ln d 0 0 0 0 0 0 0 0 0)):=by
 exact fG Tryz.func55 λw cs=>ra (λa=>[(1,pt (B0 a) 0),(2,pt (B1 a) 0)]) (λa=>[ob (B0 a) (sV 2 ln d m c e f g h i j k) 50,ob (B1 a) (sV 0 0 z6 0 0 0 0 0 0 0 0 0) 50]) λa=>rr (λ_=>[(1,.l 0),(4,.s 2)]) (λb=>[(3,pt (B3 b) 0)]) [] (λb L=>L++[ob (B3 b) (sV 2 0 z6 0 0 0 0 0 0 0 0 0) 50]) λb=>r0 [(1,.l 0)] [(11,i6 2)] [] (rF [] 12 (rT [] 17 (rs [(1,.l 0),(3,.l 0),(5,.s 2),(7,.s 2)] 2 (ob (B3 b) (sV 2 ln d 0 0 0 0 0 0 0 0 0) 50) (rs [(0,.l 2),(1,.s 1)] 1 (ob (B1 a) (sV 2 ln d 0 0 0 0 0 0 0 0 0) 50) (lf ab.zero [] [] [1])))))
theorem U6(ln:Int)(d:List UInt8)(m:Nat)(c e f g h i j k:Int)(n:d.length=64):aa gh 55 #[.agg (sV 3 ln d m c e f g h i j k)] [] [] N0 (λ_=> .agg (sV 3 ln d m 0 0 0 0 0 0 0 0)):=by
 exact fG Tryz.func55 λw cs=>ra (λa=>[(1,pt (B0 a) 0),(2,pt (B1 a) 0)]) (λa=>[ob (B0 a) (sV 3 ln d m c e f g h i j k) 50,ob (B1 a) (sV 0 0 z6 0 0 0 0 0 0 0 0 0) 50]) λa=>rr (λ_=>[(1,.l 0),(4,.s 2)]) (λb=>[(3,pt (B3 b) 0)]) [] (λb L=>L++[ob (B3 b) (sV 3 0 z6 0 0 0 0 0 0 0 0 0) 50]) λb=>r0 [(1,.l 0)] [(11,i6 3)] [] (rF [] 12 (rF [] 17 (rT [] 25 (rs [(0,.v (pt (B0 a) 1)),(1,.m (ld 0 (i6 ln))),(2,.v (pt (B0 a) 2)),(3,.m (ls 0 (rB 64 d))),(4,.v (pt (B0 a) 66)),(5,.m (ld 0 (u6 (m:Int)))),(6,.v (pt (B3 b) 1)),(7,.s 2),(8,.v (pt (B3 b) 2)),(9,.s 2),(10,.v (pt (B3 b) 66)),(11,.s 2)] 2 (ob (B3 b) (sV 3 ln d m 0 0 0 0 0 0 0 0) 50) (rs [(0,.l 2),(1,.s 1)] 1 (ob (B1 a) (sV 3 ln d m 0 0 0 0 0 0 0 0) 50) (lf ab.zero [] [] [1]))))))
theorem U7(k p:Int)(d:List UInt8)(m:Nat)(e f g h i j n o:Int)(x:d.length=64)(u:4≤k)(v:k≤7):aa gh 55 #[.agg (sV k p d m e f g h i j n o)] [] [] N0 (λ_=> .agg (sV k 0 z6 0 0 0 0 0 0 0 0 0)):=by
 refine fG Tryz.func55 λw cs=>ra (λa=>[(1,pt (B0 a) 0),(2,pt (B1 a) 0)]) (λa=>[ob (B0 a) (sV k p d m e f g h i j n o) 50,ob (B1 a) (sV 0 0 z6 0 0 0 0 0 0 0 0 0) 50]) λa=>rr (λ_=>[(1,.l 0),(4,.s 2)]) (λb=>[(3,pt (B3 b) 0)]) [] (λb L=>L++[ob (B3 b) (sV k 0 z6 0 0 0 0 0 0 0 0 0) 50]) λb=>r0 [(1,.l 0)] [(11,i6 k)] [] (r0 [] [(12,.bool (k==1))] [] ?_);have q:(k==1)=false:=by rw[dz];omega
 refine cF (k==1) q (r0 [] [(17,.bool (k==2))] [] ?_);have r:(k==2)=false:=by rw[dz];omega
 refine cF (k==2) r (r0 [] [(25,.bool (k==3))] [] ?_);have t:(k==3)=false:=by rw[dz];omega
 refine cF (k==3) t (r0 [] [(36,.bool (k==8))] [] ?_);have c:(k==8)=false:=by rw[dz];omega
 exact cF (k==8) c (rs [(0,.l 2),(1,.s 1)] 1 (ob (B1 a) (sV k 0 z6 0 0 0 0 0 0 0 0 0) 50) (lf ab.zero [] [] [1]))
theorem U8(ln:Int)(d:List UInt8)(m:Nat)(f g i j o n p:Int)(q:d.length=64):aa gh 55 #[.agg (sV 8 ln d m 1 f g i j o n p)] [] [] N0 (λ_=> .agg (sV 8 0 z6 0 1 f g i j 0 n 0)):=by
 refine fG Tryz.func55 λw cs=>ra (λb=>[(1,pt (B0 b) 0),(2,pt (B1 b) 0)]) (λb=>[ob (B0 b) (sV 8 ln d m 1 f g i j o n p) 50,ob (B1 b) (sV 0 0 z6 0 0 0 0 0 0 0 0 0) 50]) λb=>rr (λ_=>[(1,.l 0),(4,.s 2)]) (λe=>[(3,pt (B3 e) 0)]) [] (λe L=>L++[ob (B3 e) (sV 8 0 z6 0 0 0 0 0 0 0 0 0) 50]) λe=>r0 [(1,.l 0)] [(11,i6 8)] [] (rF [] 12 (rF [] 17 (rF [] 25 (rT [] 36 (rs [(2,.l 0),(5,.s 2)] 2 (ob (B3 e) (sV 8 0 z6 0 1 0 0 0 0 0 0 0) 50) (rr (λ_=>[(1,.c [2] [3] (G1 (B3 e) 8 0 z6 0 0 0 0 0 0 0 0))]) (λh=>[(4,.slice (some ⟨(B1 h),0,none⟩) 5 5)]) [] (λh L=>L++[ob (B1 h) #[pt (B3 e) 68,pt (B3 e) 69,pt (B3 e) 70,pt (B3 e) 71,pt (B3 e) 73] 197]) λh=>rr (λ_=>[(1,.c [0] [4] (G1 (B0 b) 8 ln d m f g i j o n p))]) (λa=>[(46,.slice (some ⟨(B1 a),0,none⟩) 5 5),(47,i6 5),(48,i6 0)]) [] (λa L=>L++[ob (B1 a) #[pt (B0 b) 68,pt (B0 b) 69,pt (B0 b) 70,pt (B0 b) 71,pt (B0 b) 73] 197]) λa=>?_))))));refine lu 8 ?_;refine rT [] 49 (r0 [(1,.t (tv (Instr.indexAt 194 (.slice (some ⟨(B1 a),0,none⟩) 5 5) (i6 0)) (λ_=>bR (k:=0) (s:=1) Kr Om))),(2,.l 4)] [(5,i6 0),(6,pt (B0 b) 68)] [] (rs [(2,.t (tv (Instr.indexAt 194 (.slice (some ⟨(B1 h),0,none⟩) 5 5) (i6 0)) (λ_=>bR (k:=0) (s:=1) Kr Om))),(3,.l 3),(6,.l 0),(8,.s 2)] 2 (ob (B3 e) (sV 8 0 z6 0 1 f 0 0 0 0 0 0) 50) (r0 [] [(48,i6 1)] [48] ?_)));refine eO ?_;refine r0 [] [(49,.bool true)] [49] (cT _ rfl (r0 [(1,.t (tv (Instr.indexAt 194 (.slice (some ⟨(B1 a),0,none⟩) 5 5) (i6 1)) (λ_=>bR (k:=1) (s:=1) Kr Om))),(2,.l 4)] [(5,i6 1),(6,pt (B0 b) 69)] [5,6] (rs [(2,.t (tv (Instr.indexAt 194 (.slice (some ⟨(B1 h),0,none⟩) 5 5) (i6 1)) (λ_=>bR (k:=1) (s:=1) Kr Om))),(3,.l 3),(6,.l 0),(8,.s 2)] 2 (ob (B3 e) (sV 8 0 z6 0 1 f g 0 0 0 0 0) 50) (r0 [] [(48,i6 2)] [48] ?_))));refine eO ?_;refine r0 [] [(49,.bool true)] [49] (cT _ rfl (r0 [(1,.t (tv (Instr.indexAt 194 (.slice (some ⟨(B1 a),0,none⟩) 5 5) (i6 2)) (λ_=>bR (k:=2) (s:=1) Kr Om))),(2,.l 4)] [(5,i6 2),(6,pt (B0 b) 70)] [5,6] (rs [(2,.t (tv (Instr.indexAt 194 (.slice (some ⟨(B1 h),0,none⟩) 5 5) (i6 2)) (λ_=>bR (k:=2) (s:=1) Kr Om))),(3,.l 3),(6,.l 0),(8,.s 2)] 2 (ob (B3 e) (sV 8 0 z6 0 1 f g i 0 0 0 0) 50) (r0 [] [(48,i6 3)] [48] ?_))));refine eO ?_;refine r0 [] [(49,.bool true)] [49] (cT _ rfl (r0 [(1,.t (tv (Instr.indexAt 194 (.slice (some ⟨(B1 a),0,none⟩) 5 5) (i6 3)) (λ_=>bR (k:=3) (s:=1) Kr Om))),(2,.l 4)] [(5,i6 3),(6,pt (B0 b) 71)] [5,6] (rs [(2,.t (tv (Instr.indexAt 194 (.slice (some ⟨(B1 h),0,none⟩) 5 5) (i6 3)) (λ_=>bR (k:=3) (s:=1) Kr Om))),(3,.l 3),(6,.l 0),(8,.s 2)] 2 (ob (B3 e) (sV 8 0 z6 0 1 f g i j 0 0 0) 50) (r0 [] [(48,i6 4)] [48] ?_))));refine eO ?_;refine r0 [] [(49,.bool true)] [49] (cT _ rfl (r0 [(1,.t (tv (Instr.indexAt 194 (.slice (some ⟨(B1 a),0,none⟩) 5 5) (i6 4)) (λ_=>bR (k:=4) (s:=1) Kr Om))),(2,.l 4)] [(5,i6 4),(6,pt (B0 b) 73)] [5,6] (rs [(2,.t (tv (Instr.indexAt 194 (.slice (some ⟨(B1 h),0,none⟩) 5 5) (i6 4)) (λ_=>bR (k:=4) (s:=1) Kr Om))),(3,.l 3),(6,.l 0),(8,.s 2)] 2 (ob (B3 e) (sV 8 0 z6 0 1 f g i j 0 n 0) 50) (r0 [] [(48,i6 5)] [48] ?_))));refine eO ?_;refine r0 [] [(49,.bool false)] [49] (cF _ rfl ?_);refine ot ?_;exact rs [(0,.l 2),(1,.s 1)] 1 (ob (B1 b) (sV 8 0 z6 0 1 f g i j 0 n 0) 50) (lf ab.zero [] [] [1])
theorem U9(ln:Int)(d:List UInt8)(m:Nat)(f g i j p n o:Int)(q:d.length=64):aa gh 55 #[.agg (sV 8 ln d m 2 f g i j p n o)] [] [] N0 (λ_=> .agg (sV 8 0 z6 0 2 f g i j 0 n o)):=by
 refine fG Tryz.func55 λw cs=>ra (λb=>[(1,pt (B0 b) 0),(2,pt (B1 b) 0)]) (λb=>[ob (B0 b) (sV 8 ln d m 2 f g i j p n o) 50,ob (B1 b) (sV 0 0 z6 0 0 0 0 0 0 0 0 0) 50]) λb=>rr (λ_=>[(1,.l 0),(4,.s 2)]) (λe=>[(3,pt (B3 e) 0)]) [] (λe L=>L++[ob (B3 e) (sV 8 0 z6 0 0 0 0 0 0 0 0 0) 50]) λe=>r0 [(1,.l 0)] [(11,i6 8)] [] (rF [] 12 (rF [] 17 (rF [] 25 (rT [] 36 (rs [(2,.l 0),(5,.s 2)] 2 (ob (B3 e) (sV 8 0 z6 0 2 0 0 0 0 0 0 0) 50) (rr (λ_=>[(1,.c [2] [3] (G2 (B3 e) 8 0 z6 0 0 0 0 0 0 0 0))]) (λh=>[(4,.slice (some ⟨(B1 h),0,none⟩) 6 6)]) [] (λh L=>L++[ob (B1 h) #[pt (B3 e) 68,pt (B3 e) 69,pt (B3 e) 70,pt (B3 e) 71,pt (B3 e) 73,pt (B3 e) 74] 197]) λh=>rr (λ_=>[(1,.c [0] [4] (G2 (B0 b) 8 ln d m f g i j p n o))]) (λa=>[(46,.slice (some ⟨(B1 a),0,none⟩) 6 6),(47,i6 6),(48,i6 0)]) [] (λa L=>L++[ob (B1 a) #[pt (B0 b) 68,pt (B0 b) 69,pt (B0 b) 70,pt (B0 b) 71,pt (B0 b) 73,pt (B0 b) 74] 197]) λa=>?_))))));refine lu 8 ?_;refine rT [] 49 (r0 [(1,.t (tv (Instr.indexAt 194 (.slice (some ⟨(B1 a),0,none⟩) 6 6) (i6 0)) (λ_=>bR (k:=0) (s:=1) Kr Om))),(2,.l 4)] [(5,i6 0),(6,pt (B0 b) 68)] [] (rs [(2,.t (tv (Instr.indexAt 194 (.slice (some ⟨(B1 h),0,none⟩) 6 6) (i6 0)) (λ_=>bR (k:=0) (s:=1) Kr Om))),(3,.l 3),(6,.l 0),(8,.s 2)] 2 (ob (B3 e) (sV 8 0 z6 0 2 f 0 0 0 0 0 0) 50) (r0 [] [(48,i6 1)] [48] ?_)));refine eO ?_;refine r0 [] [(49,.bool true)] [49] (cT _ rfl (r0 [(1,.t (tv (Instr.indexAt 194 (.slice (some ⟨(B1 a),0,none⟩) 6 6) (i6 1)) (λ_=>bR (k:=1) (s:=1) Kr Om))),(2,.l 4)] [(5,i6 1),(6,pt (B0 b) 69)] [5,6] (rs [(2,.t (tv (Instr.indexAt 194 (.slice (some ⟨(B1 h),0,none⟩) 6 6) (i6 1)) (λ_=>bR (k:=1) (s:=1) Kr Om))),(3,.l 3),(6,.l 0),(8,.s 2)] 2 (ob (B3 e) (sV 8 0 z6 0 2 f g 0 0 0 0 0) 50) (r0 [] [(48,i6 2)] [48] ?_))));refine eO ?_;refine r0 [] [(49,.bool true)] [49] (cT _ rfl (r0 [(1,.t (tv (Instr.indexAt 194 (.slice (some ⟨(B1 a),0,none⟩) 6 6) (i6 2)) (λ_=>bR (k:=2) (s:=1) Kr Om))),(2,.l 4)] [(5,i6 2),(6,pt (B0 b) 70)] [5,6] (rs [(2,.t (tv (Instr.indexAt 194 (.slice (some ⟨(B1 h),0,none⟩) 6 6) (i6 2)) (λ_=>bR (k:=2) (s:=1) Kr Om))),(3,.l 3),(6,.l 0),(8,.s 2)] 2 (ob (B3 e) (sV 8 0 z6 0 2 f g i 0 0 0 0) 50) (r0 [] [(48,i6 3)] [48] ?_))));refine eO ?_;refine r0 [] [(49,.bool true)] [49] (cT _ rfl (r0 [(1,.t (tv (Instr.indexAt 194 (.slice (some ⟨(B1 a),0,none⟩) 6 6) (i6 3)) (λ_=>bR (k:=3) (s:=1) Kr Om))),(2,.l 4)] [(5,i6 3),(6,pt (B0 b) 71)] [5,6] (rs [(2,.t (tv (Instr.indexAt 194 (.slice (some ⟨(B1 h),0,none⟩) 6 6) (i6 3)) (λ_=>bR (k:=3) (s:=1) Kr Om))),(3,.l 3),(6,.l 0),(8,.s 2)] 2 (ob (B3 e) (sV 8 0 z6 0 2 f g i j 0 0 0) 50) (r0 [] [(48,i6 4)] [48] ?_))));refine eO ?_;refine r0 [] [(49,.bool true)] [49] (cT _ rfl (r0 [(1,.t (tv (Instr.indexAt 194 (.slice (some ⟨(B1 a),0,none⟩) 6 6) (i6 4)) (λ_=>bR (k:=4) (s:=1) Kr Om))),(2,.l 4)] [(5,i6 4),(6,pt (B0 b) 73)] [5,6] (rs [(2,.t (tv (Instr.indexAt 194 (.slice (some ⟨(B1 h),0,none⟩) 6 6) (i6 4)) (λ_=>bR (k:=4) (s:=1) Kr Om))),(3,.l 3),(6,.l 0),(8,.s 2)] 2 (ob (B3 e) (sV 8 0 z6 0 2 f g i j 0 n 0) 50) (r0 [] [(48,i6 5)] [48] ?_))));refine eO ?_;refine r0 [] [(49,.bool true)] [49] (cT _ rfl (r0 [(1,.t (tv (Instr.indexAt 194 (.slice (some ⟨(B1 a),0,none⟩) 6 6) (i6 5)) (λ_=>bR (k:=5) (s:=1) Kr Om))),(2,.l 4)] [(5,i6 5),(6,pt (B0 b) 74)] [5,6] (rs [(2,.t (tv (Instr.indexAt 194 (.slice (some ⟨(B1 h),0,none⟩) 6 6) (i6 5)) (λ_=>bR (k:=5) (s:=1) Kr Om))),(3,.l 3),(6,.l 0),(8,.s 2)] 2 (ob (B3 e) (sV 8 0 z6 0 2 f g i j 0 n o) 50) (r0 [] [(48,i6 6)] [48] ?_))));refine eO ?_;refine r0 [] [(49,.bool false)] [49] (cF _ rfl ?_);refine ot ?_;exact rs [(0,.l 2),(1,.s 1)] 1 (ob (B1 b) (sV 8 0 z6 0 2 f g i j 0 n o) 50) (lf ab.zero [] [] [1])
theorem Va(ln:Int)(d:List UInt8)(m:Nat)(f g i o j p n:Int)(q:d.length=64):aa gh 55 #[.agg (sV 8 ln d m 3 f g i o j p n)] [] [] N0 (λ_=> .agg (sV 8 0 z6 0 3 f g i 0 j 0 n)):=by
 refine fG Tryz.func55 λw cs=>ra (λb=>[(1,pt (B0 b) 0),(2,pt (B1 b) 0)]) (λb=>[ob (B0 b) (sV 8 ln d m 3 f g i o j p n) 50,ob (B1 b) (sV 0 0 z6 0 0 0 0 0 0 0 0 0) 50]) λb=>rr (λ_=>[(1,.l 0),(4,.s 2)]) (λe=>[(3,pt (B3 e) 0)]) [] (λe L=>L++[ob (B3 e) (sV 8 0 z6 0 0 0 0 0 0 0 0 0) 50]) λe=>r0 [(1,.l 0)] [(11,i6 8)] [] (rF [] 12 (rF [] 17 (rF [] 25 (rT [] 36 (rs [(2,.l 0),(5,.s 2)] 2 (ob (B3 e) (sV 8 0 z6 0 3 0 0 0 0 0 0 0) 50) (rr (λ_=>[(1,.c [2] [3] (G3 (B3 e) 8 0 z6 0 0 0 0 0 0 0 0))]) (λh=>[(4,.slice (some ⟨(B1 h),0,none⟩) 5 5)]) [] (λh L=>L++[ob (B1 h) #[pt (B3 e) 68,pt (B3 e) 69,pt (B3 e) 70,pt (B3 e) 72,pt (B3 e) 74] 197]) λh=>rr (λ_=>[(1,.c [0] [4] (G3 (B0 b) 8 ln d m f g i o j p n))]) (λa=>[(46,.slice (some ⟨(B1 a),0,none⟩) 5 5),(47,i6 5),(48,i6 0)]) [] (λa L=>L++[ob (B1 a) #[pt (B0 b) 68,pt (B0 b) 69,pt (B0 b) 70,pt (B0 b) 72,pt (B0 b) 74] 197]) λa=>?_))))));refine lu 8 ?_;refine rT [] 49 (r0 [(1,.t (tv (Instr.indexAt 194 (.slice (some ⟨(B1 a),0,none⟩) 5 5) (i6 0)) (λ_=>bR (k:=0) (s:=1) Kr Om))),(2,.l 4)] [(5,i6 0),(6,pt (B0 b) 68)] [] (rs [(2,.t (tv (Instr.indexAt 194 (.slice (some ⟨(B1 h),0,none⟩) 5 5) (i6 0)) (λ_=>bR (k:=0) (s:=1) Kr Om))),(3,.l 3),(6,.l 0),(8,.s 2)] 2 (ob (B3 e) (sV 8 0 z6 0 3 f 0 0 0 0 0 0) 50) (r0 [] [(48,i6 1)] [48] ?_)));refine eO ?_;refine r0 [] [(49,.bool true)] [49] (cT _ rfl (r0 [(1,.t (tv (Instr.indexAt 194 (.slice (some ⟨(B1 a),0,none⟩) 5 5) (i6 1)) (λ_=>bR (k:=1) (s:=1) Kr Om))),(2,.l 4)] [(5,i6 1),(6,pt (B0 b) 69)] [5,6] (rs [(2,.t (tv (Instr.indexAt 194 (.slice (some ⟨(B1 h),0,none⟩) 5 5) (i6 1)) (λ_=>bR (k:=1) (s:=1) Kr Om))),(3,.l 3),(6,.l 0),(8,.s 2)] 2 (ob (B3 e) (sV 8 0 z6 0 3 f g 0 0 0 0 0) 50) (r0 [] [(48,i6 2)] [48] ?_))));refine eO ?_;refine r0 [] [(49,.bool true)] [49] (cT _ rfl (r0 [(1,.t (tv (Instr.indexAt 194 (.slice (some ⟨(B1 a),0,none⟩) 5 5) (i6 2)) (λ_=>bR (k:=2) (s:=1) Kr Om))),(2,.l 4)] [(5,i6 2),(6,pt (B0 b) 70)] [5,6] (rs [(2,.t (tv (Instr.indexAt 194 (.slice (some ⟨(B1 h),0,none⟩) 5 5) (i6 2)) (λ_=>bR (k:=2) (s:=1) Kr Om))),(3,.l 3),(6,.l 0),(8,.s 2)] 2 (ob (B3 e) (sV 8 0 z6 0 3 f g i 0 0 0 0) 50) (r0 [] [(48,i6 3)] [48] ?_))));refine eO ?_;refine r0 [] [(49,.bool true)] [49] (cT _ rfl (r0 [(1,.t (tv (Instr.indexAt 194 (.slice (some ⟨(B1 a),0,none⟩) 5 5) (i6 3)) (λ_=>bR (k:=3) (s:=1) Kr Om))),(2,.l 4)] [(5,i6 3),(6,pt (B0 b) 72)] [5,6] (rs [(2,.t (tv (Instr.indexAt 194 (.slice (some ⟨(B1 h),0,none⟩) 5 5) (i6 3)) (λ_=>bR (k:=3) (s:=1) Kr Om))),(3,.l 3),(6,.l 0),(8,.s 2)] 2 (ob (B3 e) (sV 8 0 z6 0 3 f g i 0 j 0 0) 50) (r0 [] [(48,i6 4)] [48] ?_))));refine eO ?_;refine r0 [] [(49,.bool true)] [49] (cT _ rfl (r0 [(1,.t (tv (Instr.indexAt 194 (.slice (some ⟨(B1 a),0,none⟩) 5 5) (i6 4)) (λ_=>bR (k:=4) (s:=1) Kr Om))),(2,.l 4)] [(5,i6 4),(6,pt (B0 b) 74)] [5,6] (rs [(2,.t (tv (Instr.indexAt 194 (.slice (some ⟨(B1 h),0,none⟩) 5 5) (i6 4)) (λ_=>bR (k:=4) (s:=1) Kr Om))),(3,.l 3),(6,.l 0),(8,.s 2)] 2 (ob (B3 e) (sV 8 0 z6 0 3 f g i 0 j 0 n) 50) (r0 [] [(48,i6 5)] [48] ?_))));refine eO ?_;refine r0 [] [(49,.bool false)] [49] (cF _ rfl ?_);refine ot ?_;exact rs [(0,.l 2),(1,.s 1)] 1 (ob (B1 b) (sV 8 0 z6 0 3 f g i 0 j 0 n) 50) (lf ab.zero [] [] [1])
theorem Vb(ln:Int)(d:List UInt8)(m:Nat)(f g o i j p n:Int)(q:d.length=64):aa gh 55 #[.agg (sV 8 ln d m 4 f g o i j p n)] [] [] N0 (λ_=> .agg (sV 8 0 z6 0 4 f g 0 i j 0 n)):=by
 refine fG Tryz.func55 λw cs=>ra (λb=>[(1,pt (B0 b) 0),(2,pt (B1 b) 0)]) (λb=>[ob (B0 b) (sV 8 ln d m 4 f g o i j p n) 50,ob (B1 b) (sV 0 0 z6 0 0 0 0 0 0 0 0 0) 50]) λb=>rr (λ_=>[(1,.l 0),(4,.s 2)]) (λe=>[(3,pt (B3 e) 0)]) [] (λe L=>L++[ob (B3 e) (sV 8 0 z6 0 0 0 0 0 0 0 0 0) 50]) λe=>r0 [(1,.l 0)] [(11,i6 8)] [] (rF [] 12 (rF [] 17 (rF [] 25 (rT [] 36 (rs [(2,.l 0),(5,.s 2)] 2 (ob (B3 e) (sV 8 0 z6 0 4 0 0 0 0 0 0 0) 50) (rr (λ_=>[(1,.c [2] [3] (G4 (B3 e) 8 0 z6 0 0 0 0 0 0 0 0))]) (λh=>[(4,.slice (some ⟨(B1 h),0,none⟩) 5 5)]) [] (λh L=>L++[ob (B1 h) #[pt (B3 e) 68,pt (B3 e) 69,pt (B3 e) 71,pt (B3 e) 72,pt (B3 e) 74] 197]) λh=>rr (λ_=>[(1,.c [0] [4] (G4 (B0 b) 8 ln d m f g o i j p n))]) (λa=>[(46,.slice (some ⟨(B1 a),0,none⟩) 5 5),(47,i6 5),(48,i6 0)]) [] (λa L=>L++[ob (B1 a) #[pt (B0 b) 68,pt (B0 b) 69,pt (B0 b) 71,pt (B0 b) 72,pt (B0 b) 74] 197]) λa=>?_))))));refine lu 8 ?_;refine rT [] 49 (r0 [(1,.t (tv (Instr.indexAt 194 (.slice (some ⟨(B1 a),0,none⟩) 5 5) (i6 0)) (λ_=>bR (k:=0) (s:=1) Kr Om))),(2,.l 4)] [(5,i6 0),(6,pt (B0 b) 68)] [] (rs [(2,.t (tv (Instr.indexAt 194 (.slice (some ⟨(B1 h),0,none⟩) 5 5) (i6 0)) (λ_=>bR (k:=0) (s:=1) Kr Om))),(3,.l 3),(6,.l 0),(8,.s 2)] 2 (ob (B3 e) (sV 8 0 z6 0 4 f 0 0 0 0 0 0) 50) (r0 [] [(48,i6 1)] [48] ?_)));refine eO ?_;refine r0 [] [(49,.bool true)] [49] (cT _ rfl (r0 [(1,.t (tv (Instr.indexAt 194 (.slice (some ⟨(B1 a),0,none⟩) 5 5) (i6 1)) (λ_=>bR (k:=1) (s:=1) Kr Om))),(2,.l 4)] [(5,i6 1),(6,pt (B0 b) 69)] [5,6] (rs [(2,.t (tv (Instr.indexAt 194 (.slice (some ⟨(B1 h),0,none⟩) 5 5) (i6 1)) (λ_=>bR (k:=1) (s:=1) Kr Om))),(3,.l 3),(6,.l 0),(8,.s 2)] 2 (ob (B3 e) (sV 8 0 z6 0 4 f g 0 0 0 0 0) 50) (r0 [] [(48,i6 2)] [48] ?_))));refine eO ?_;refine r0 [] [(49,.bool true)] [49] (cT _ rfl (r0 [(1,.t (tv (Instr.indexAt 194 (.slice (some ⟨(B1 a),0,none⟩) 5 5) (i6 2)) (λ_=>bR (k:=2) (s:=1) Kr Om))),(2,.l 4)] [(5,i6 2),(6,pt (B0 b) 71)] [5,6] (rs [(2,.t (tv (Instr.indexAt 194 (.slice (some ⟨(B1 h),0,none⟩) 5 5) (i6 2)) (λ_=>bR (k:=2) (s:=1) Kr Om))),(3,.l 3),(6,.l 0),(8,.s 2)] 2 (ob (B3 e) (sV 8 0 z6 0 4 f g 0 i 0 0 0) 50) (r0 [] [(48,i6 3)] [48] ?_))));refine eO ?_;refine r0 [] [(49,.bool true)] [49] (cT _ rfl (r0 [(1,.t (tv (Instr.indexAt 194 (.slice (some ⟨(B1 a),0,none⟩) 5 5) (i6 3)) (λ_=>bR (k:=3) (s:=1) Kr Om))),(2,.l 4)] [(5,i6 3),(6,pt (B0 b) 72)] [5,6] (rs [(2,.t (tv (Instr.indexAt 194 (.slice (some ⟨(B1 h),0,none⟩) 5 5) (i6 3)) (λ_=>bR (k:=3) (s:=1) Kr Om))),(3,.l 3),(6,.l 0),(8,.s 2)] 2 (ob (B3 e) (sV 8 0 z6 0 4 f g 0 i j 0 0) 50) (r0 [] [(48,i6 4)] [48] ?_))));refine eO ?_;refine r0 [] [(49,.bool true)] [49] (cT _ rfl (r0 [(1,.t (tv (Instr.indexAt 194 (.slice (some ⟨(B1 a),0,none⟩) 5 5) (i6 4)) (λ_=>bR (k:=4) (s:=1) Kr Om))),(2,.l 4)] [(5,i6 4),(6,pt (B0 b) 74)] [5,6] (rs [(2,.t (tv (Instr.indexAt 194 (.slice (some ⟨(B1 h),0,none⟩) 5 5) (i6 4)) (λ_=>bR (k:=4) (s:=1) Kr Om))),(3,.l 3),(6,.l 0),(8,.s 2)] 2 (ob (B3 e) (sV 8 0 z6 0 4 f g 0 i j 0 n) 50) (r0 [] [(48,i6 5)] [48] ?_))));refine eO ?_;refine r0 [] [(49,.bool false)] [49] (cF _ rfl ?_);refine ot ?_;exact rs [(0,.l 2),(1,.s 1)] 1 (ob (B1 b) (sV 8 0 z6 0 4 f g 0 i j 0 n) 50) (lf ab.zero [] [] [1])
theorem Vc(ln:Int)(d:List UInt8)(m:Nat)(f j n o g p i:Int)(q:d.length=64):aa gh 55 #[.agg (sV 8 ln d m 5 f j n o g p i)] [] [] N0 (λ_=> .agg (sV 8 0 z6 0 5 f 0 0 0 g 0 i)):=by
 refine fG Tryz.func55 λw cs=>ra (λb=>[(1,pt (B0 b) 0),(2,pt (B1 b) 0)]) (λb=>[ob (B0 b) (sV 8 ln d m 5 f j n o g p i) 50,ob (B1 b) (sV 0 0 z6 0 0 0 0 0 0 0 0 0) 50]) λb=>rr (λ_=>[(1,.l 0),(4,.s 2)]) (λe=>[(3,pt (B3 e) 0)]) [] (λe L=>L++[ob (B3 e) (sV 8 0 z6 0 0 0 0 0 0 0 0 0) 50]) λe=>r0 [(1,.l 0)] [(11,i6 8)] [] (rF [] 12 (rF [] 17 (rF [] 25 (rT [] 36 (rs [(2,.l 0),(5,.s 2)] 2 (ob (B3 e) (sV 8 0 z6 0 5 0 0 0 0 0 0 0) 50) (rr (λ_=>[(1,.c [2] [3] (G5 (B3 e) 8 0 z6 0 0 0 0 0 0 0 0))]) (λh=>[(4,.slice (some ⟨(B1 h),0,none⟩) 3 3)]) [] (λh L=>L++[ob (B1 h) #[pt (B3 e) 68,pt (B3 e) 72,pt (B3 e) 74] 197]) λh=>rr (λ_=>[(1,.c [0] [4] (G5 (B0 b) 8 ln d m f j n o g p i))]) (λa=>[(46,.slice (some ⟨(B1 a),0,none⟩) 3 3),(47,i6 3),(48,i6 0)]) [] (λa L=>L++[ob (B1 a) #[pt (B0 b) 68,pt (B0 b) 72,pt (B0 b) 74] 197]) λa=>?_))))));refine lu 8 ?_;refine rT [] 49 (r0 [(1,.t (tv (Instr.indexAt 194 (.slice (some ⟨(B1 a),0,none⟩) 3 3) (i6 0)) (λ_=>bR (k:=0) (s:=1) Kr Om))),(2,.l 4)] [(5,i6 0),(6,pt (B0 b) 68)] [] (rs [(2,.t (tv (Instr.indexAt 194 (.slice (some ⟨(B1 h),0,none⟩) 3 3) (i6 0)) (λ_=>bR (k:=0) (s:=1) Kr Om))),(3,.l 3),(6,.l 0),(8,.s 2)] 2 (ob (B3 e) (sV 8 0 z6 0 5 f 0 0 0 0 0 0) 50) (r0 [] [(48,i6 1)] [48] ?_)));refine eO ?_;refine r0 [] [(49,.bool true)] [49] (cT _ rfl (r0 [(1,.t (tv (Instr.indexAt 194 (.slice (some ⟨(B1 a),0,none⟩) 3 3) (i6 1)) (λ_=>bR (k:=1) (s:=1) Kr Om))),(2,.l 4)] [(5,i6 1),(6,pt (B0 b) 72)] [5,6] (rs [(2,.t (tv (Instr.indexAt 194 (.slice (some ⟨(B1 h),0,none⟩) 3 3) (i6 1)) (λ_=>bR (k:=1) (s:=1) Kr Om))),(3,.l 3),(6,.l 0),(8,.s 2)] 2 (ob (B3 e) (sV 8 0 z6 0 5 f 0 0 0 g 0 0) 50) (r0 [] [(48,i6 2)] [48] ?_))));refine eO ?_;refine r0 [] [(49,.bool true)] [49] (cT _ rfl (r0 [(1,.t (tv (Instr.indexAt 194 (.slice (some ⟨(B1 a),0,none⟩) 3 3) (i6 2)) (λ_=>bR (k:=2) (s:=1) Kr Om))),(2,.l 4)] [(5,i6 2),(6,pt (B0 b) 74)] [5,6] (rs [(2,.t (tv (Instr.indexAt 194 (.slice (some ⟨(B1 h),0,none⟩) 3 3) (i6 2)) (λ_=>bR (k:=2) (s:=1) Kr Om))),(3,.l 3),(6,.l 0),(8,.s 2)] 2 (ob (B3 e) (sV 8 0 z6 0 5 f 0 0 0 g 0 i) 50) (r0 [] [(48,i6 3)] [48] ?_))));refine eO ?_;refine r0 [] [(49,.bool false)] [49] (cF _ rfl ?_);refine ot ?_;exact rs [(0,.l 2),(1,.s 1)] 1 (ob (B1 b) (sV 8 0 z6 0 5 f 0 0 0 g 0 i) 50) (lf ab.zero [] [] [1])
theorem Ve(ln:Int)(d:List UInt8)(m:Nat)(f g i j n o p:Int)(q:d.length=64):aa gh 55 #[.agg (sV 8 ln d m 6 f g i j n o p)] [] [] N0 (λ_=> .agg (sV 8 0 z6 0 6 f g i j 0 0 0)):=by
 refine fG Tryz.func55 λw cs=>ra (λb=>[(1,pt (B0 b) 0),(2,pt (B1 b) 0)]) (λb=>[ob (B0 b) (sV 8 ln d m 6 f g i j n o p) 50,ob (B1 b) (sV 0 0 z6 0 0 0 0 0 0 0 0 0) 50]) λb=>rr (λ_=>[(1,.l 0),(4,.s 2)]) (λe=>[(3,pt (B3 e) 0)]) [] (λe L=>L++[ob (B3 e) (sV 8 0 z6 0 0 0 0 0 0 0 0 0) 50]) λe=>r0 [(1,.l 0)] [(11,i6 8)] [] (rF [] 12 (rF [] 17 (rF [] 25 (rT [] 36 (rs [(2,.l 0),(5,.s 2)] 2 (ob (B3 e) (sV 8 0 z6 0 6 0 0 0 0 0 0 0) 50) (rr (λ_=>[(1,.c [2] [3] (G6 (B3 e) 8 0 z6 0 0 0 0 0 0 0 0))]) (λh=>[(4,.slice (some ⟨(B1 h),0,none⟩) 4 4)]) [] (λh L=>L++[ob (B1 h) #[pt (B3 e) 68,pt (B3 e) 69,pt (B3 e) 70,pt (B3 e) 71] 197]) λh=>rr (λ_=>[(1,.c [0] [4] (G6 (B0 b) 8 ln d m f g i j n o p))]) (λa=>[(46,.slice (some ⟨(B1 a),0,none⟩) 4 4),(47,i6 4),(48,i6 0)]) [] (λa L=>L++[ob (B1 a) #[pt (B0 b) 68,pt (B0 b) 69,pt (B0 b) 70,pt (B0 b) 71] 197]) λa=>?_))))));refine lu 8 ?_;refine rT [] 49 (r0 [(1,.t (tv (Instr.indexAt 194 (.slice (some ⟨(B1 a),0,none⟩) 4 4) (i6 0)) (λ_=>bR (k:=0) (s:=1) Kr Om))),(2,.l 4)] [(5,i6 0),(6,pt (B0 b) 68)] [] (rs [(2,.t (tv (Instr.indexAt 194 (.slice (some ⟨(B1 h),0,none⟩) 4 4) (i6 0)) (λ_=>bR (k:=0) (s:=1) Kr Om))),(3,.l 3),(6,.l 0),(8,.s 2)] 2 (ob (B3 e) (sV 8 0 z6 0 6 f 0 0 0 0 0 0) 50) (r0 [] [(48,i6 1)] [48] ?_)));refine eO ?_;refine r0 [] [(49,.bool true)] [49] (cT _ rfl (r0 [(1,.t (tv (Instr.indexAt 194 (.slice (some ⟨(B1 a),0,none⟩) 4 4) (i6 1)) (λ_=>bR (k:=1) (s:=1) Kr Om))),(2,.l 4)] [(5,i6 1),(6,pt (B0 b) 69)] [5,6] (rs [(2,.t (tv (Instr.indexAt 194 (.slice (some ⟨(B1 h),0,none⟩) 4 4) (i6 1)) (λ_=>bR (k:=1) (s:=1) Kr Om))),(3,.l 3),(6,.l 0),(8,.s 2)] 2 (ob (B3 e) (sV 8 0 z6 0 6 f g 0 0 0 0 0) 50) (r0 [] [(48,i6 2)] [48] ?_))));refine eO ?_;refine r0 [] [(49,.bool true)] [49] (cT _ rfl (r0 [(1,.t (tv (Instr.indexAt 194 (.slice (some ⟨(B1 a),0,none⟩) 4 4) (i6 2)) (λ_=>bR (k:=2) (s:=1) Kr Om))),(2,.l 4)] [(5,i6 2),(6,pt (B0 b) 70)] [5,6] (rs [(2,.t (tv (Instr.indexAt 194 (.slice (some ⟨(B1 h),0,none⟩) 4 4) (i6 2)) (λ_=>bR (k:=2) (s:=1) Kr Om))),(3,.l 3),(6,.l 0),(8,.s 2)] 2 (ob (B3 e) (sV 8 0 z6 0 6 f g i 0 0 0 0) 50) (r0 [] [(48,i6 3)] [48] ?_))));refine eO ?_;refine r0 [] [(49,.bool true)] [49] (cT _ rfl (r0 [(1,.t (tv (Instr.indexAt 194 (.slice (some ⟨(B1 a),0,none⟩) 4 4) (i6 3)) (λ_=>bR (k:=3) (s:=1) Kr Om))),(2,.l 4)] [(5,i6 3),(6,pt (B0 b) 71)] [5,6] (rs [(2,.t (tv (Instr.indexAt 194 (.slice (some ⟨(B1 h),0,none⟩) 4 4) (i6 3)) (λ_=>bR (k:=3) (s:=1) Kr Om))),(3,.l 3),(6,.l 0),(8,.s 2)] 2 (ob (B3 e) (sV 8 0 z6 0 6 f g i j 0 0 0) 50) (r0 [] [(48,i6 4)] [48] ?_))));refine eO ?_;refine r0 [] [(49,.bool false)] [49] (cF _ rfl ?_);refine ot ?_;exact rs [(0,.l 2),(1,.s 1)] 1 (ob (B1 b) (sV 8 0 z6 0 6 f g i j 0 0 0) 50) (lf ab.zero [] [] [1])
theorem Vf(ln:Int)(d:List UInt8)(m:Nat)(e f g h i j k:Int)(n:d.length=64):aa gh 55 #[.agg (sV 8 ln d m 7 e f g h i j k)] [] [] N0 (λ_=> .agg (sV 8 0 z6 0 7 0 0 0 0 0 0 0)):=by
 refine fG Tryz.func55 λw cs=>ra (λa=>[(1,pt (B0 a) 0),(2,pt (B1 a) 0)]) (λa=>[ob (B0 a) (sV 8 ln d m 7 e f g h i j k) 50,ob (B1 a) (sV 0 0 z6 0 0 0 0 0 0 0 0 0) 50]) λa=>rr (λ_=>[(1,.l 0),(4,.s 2)]) (λb=>[(3,pt (B3 b) 0)]) [] (λb L=>L++[ob (B3 b) (sV 8 0 z6 0 0 0 0 0 0 0 0 0) 50]) λb=>r0 [(1,.l 0)] [(11,i6 8)] [] (rF [] 12 (rF [] 17 (rF [] 25 (rT [] 36 (rs [(2,.l 0),(5,.s 2)] 2 (ob (B3 b) (sV 8 0 z6 0 7 0 0 0 0 0 0 0) 50) (r0 [(1,.c [2] [] (G7 (B3 b) 8 0 z6 0 0 0 0 0 0 0 0))] [(4,.slice none 0 0)] [] (r0 [(1,.c [0] [] (G7 (B0 a) 8 ln d m e f g h i j k))] [(46,.slice none 0 0),(47,i6 0),(48,i6 0)] [] ?_)))))));refine lu 8 ?_;refine rF [] 49 ?_;refine ot ?_;exact rs [(0,.l 2),(1,.s 1)] 1 (ob (B1 a) (sV 8 0 z6 0 7 0 0 0 0 0 0 0) 50) (lf ab.zero [] [] [1])
theorem Vg(ln:Int)(d:List UInt8)(m:Nat)(a f g h i j k n:Int)(p:d.length=64)(o:a<1∨7<a):aa gh 55 #[.agg (sV 8 ln d m a f g h i j k n)] [] [] N0 (λ_=> .agg (sV 8 0 z6 0 a 0 0 0 0 0 0 0)):=by
 refine fG Tryz.func55 λw cs=>ra (λb=>[(1,pt (B0 b) 0),(2,pt (B1 b) 0)]) (λb=>[ob (B0 b) (sV 8 ln d m a f g h i j k n) 50,ob (B1 b) (sV 0 0 z6 0 0 0 0 0 0 0 0 0) 50]) λb=>rr (λ_=>[(1,.l 0),(4,.s 2)]) (λe=>[(3,pt (B3 e) 0)]) [] (λe L=>L++[ob (B3 e) (sV 8 0 z6 0 0 0 0 0 0 0 0 0) 50]) λe=>r0 [(1,.l 0)] [(11,i6 8)] [] (rF [] 12 (rF [] 17 (rF [] 25 (rT [] 36 (rs [(2,.l 0),(5,.s 2)] 2 (ob (B3 e) (sV 8 0 z6 0 a 0 0 0 0 0 0 0) 50) (r0 [(1,.c [2] [] (G8 (B3 e) 8 0 z6 0 a 0 0 0 0 0 0 0 Om))] [(4,.slice none 0 0)] [] (r0 [(1,.c [0] [] (G8 (B0 b) 8 ln d m a f g h i j k n Om))] [(46,.slice none 0 0),(47,i6 0),(48,i6 0)] [] ?_)))))));refine lu 8 ?_;refine rF [] 49 ?_;refine ot ?_;exact rs [(0,.l 2),(1,.s 1)] 1 (ob (B1 b) (sV 8 0 z6 0 a 0 0 0 0 0 0 0) 50) (lf ab.zero [] [] [1])
theorem Vh(k l:Int)(d:List UInt8)(m:Nat)(b c e f g h i j:Int)(o:d.length=64)(n:k<1):aa gh 17 #[.agg (sV k l d m b c e f g h i j)] [] [] N0 (λ_=> .bool false):=by
 exact fG Tryz.func17 λw cs=>ra (λa=>[(1,pt (B0 a) 0),(2,.bool false)]) (λa=>[ob (B0 a) (sV k l d m b c e f g h i j) 50]) λa=>rT [(1,.m (ld 0 (i6 k))),(2,.t (tk (show Value.bool (decide (k<1))= .bool true from ALca Value.bool (by simp;omega)))),(4,.d),(5,.d),(6,.d),(9,.d),(10,.d),(11,.d),(12,.d)] 16 (r0 [] [(2,.bool false)] [2] (lf ab.zero [] [] []))
theorem Vi(k l:Int)(d:List UInt8)(m:Nat)(b c e f g h i j:Int)(o:d.length=64)(n:8<k):aa gh 17 #[.agg (sV k l d m b c e f g h i j)] [] [] N0 (λ_=> .bool false):=by
 exact fG Tryz.func17 λw cs=>ra (λa=>[(1,pt (B0 a) 0),(2,.bool false)]) (λa=>[ob (B0 a) (sV k l d m b c e f g h i j) 50]) λa=>rT [(1,.m (ld 0 (i6 k))),(2,.t (tk (show Value.bool (decide (k<1))= .bool false from ALca Value.bool (by simp;omega)))),(5,.m (ld 0 (i6 k))),(6,.t (tk (show Value.bool (decide (8<k))= .bool true from ALca Value.bool (by simp;omega)))),(9,.d),(10,.d),(11,.d),(12,.d)] 16 (r0 [] [(2,.bool false)] [2] (lf ab.zero [] [] []))
def wm(ln:Int)(d:List UInt8)(m:Nat)(a b c e f g h i:Int):Bool:=(bif !(((1==1&&(ln==ln&&true))&&decide (d=mz 64 0))&&((m:Int)==0&&(a==0&&(b==0&&(c==0&&(e==0&&(f==0&&(g==0&&(h==0&&(i==0&&true)))))))))) then false else true)
theorem Vj(ln:Int)(d:List UInt8)(m:Nat)(a b e f g h i j:Int)(n:d.length=64):aa gh 17 #[.agg (sV 1 ln d m a b e f g h i j)] [] [] N0 (λ_=> .bool (wm ln d m a b e f g h i j)):=by
 refine fG Tryz.func17 λw cs=>ra (λk=>[(1,pt (B0 k) 0),(2,.bool false)]) (λk=>[ob (B0 k) (sV 1 ln d m a b e f g h i j) 50]) λk=>r0 [(1,.m (ld 0 (i6 1))),(5,.m (ld 0 (i6 1))),(9,.m (ls 0 (sL 1 ln d m a b e f g h i j))),(10,.m (ls 0 (sL 1 ln d m a b e f g h i j))),(11,.c [] [] (U4 ln d m a b e f g h i j (by(simp only[LL,n,n];done)))),(12,.t (iS 50 λ_ _ _=>jB (xs:=([i6 1,i6 ln]:List Value)++rB 64 d++([u6 (m:Int),i6 a,i6 b,i6 e,i6 f,i6 g,i6 h,i6 i,i6 j]:List Value)) (ys:=([i6 1,i6 ln]:List Value)++rB 64 z6++([u6 0,i6 0,i6 0,i6 0,i6 0,i6 0,i6 0,i6 0,i6 0]:List Value)) Kr (fg Kr Kr (fg Kr Kr ba (jA n (show z6.length=64 by rfl))) ba)))] [(16,.bool (!(((1==1&&(ln==ln&&true))&&decide (d=mz 64 0))&&((m:Int)==0&&(a==0&&(b==0&&(e==0&&(f==0&&(g==0&&(h==0&&(i==0&&(j==0&&true))))))))))))] [] ?_;refine cB (!(((1==1&&(ln==ln&&true))&&decide (d=mz 64 0))&&((m:Int)==0&&(a==0&&(b==0&&(e==0&&(f==0&&(g==0&&(h==0&&(i==0&&(j==0&&true))))))))))) (λl=>?_) λl=>?_
 ·exact r0 [] [(2,.bool false)] [2] (aq (.bool false) ab.zero (by((try simp only[wm]);(repeat (first | rw[l] | rw[ALct])))<;>rfl) [] [] [])
 exact r0 [(1,.m (ld 0 (i6 1))),(4,.d),(5,.d),(6,.d),(7,.d),(8,.d),(9,.d),(10,.d),(11,.d),(12,.d),(13,.d)] [(2,.bool true)] [2] (aq (.bool true) ab.zero (by((try simp only[wm]);(repeat (first | rw[l] | rw[ALcf])))<;>rfl) [] [] [])
def wo(ln:Int)(m:Nat)(a b c d e f g h:Int):Bool:=(bif !(((2==2&&(ln==ln&&true))&&true)&&((m:Int)==0&&(a==0&&(b==0&&(c==0&&(d==0&&(e==0&&(f==0&&(g==0&&(h==0&&true)))))))))) then false else true)
theorem Vk(ln:Int)(d:List UInt8)(m:Nat)(a b e f g h i j:Int)(k:d.length=64):aa gh 17 #[.agg (sV 2 ln d m a b e f g h i j)] [] [] N0 (λ_=> .bool (wo ln m a b e f g h i j)):=by
 refine fG Tryz.func17 λw cs=>ra (λl=>[(1,pt (B0 l) 0),(2,.bool false)]) (λl=>[ob (B0 l) (sV 2 ln d m a b e f g h i j) 50]) λl=>r0 [(1,.m (ld 0 (i6 2))),(5,.m (ld 0 (i6 2))),(9,.m (ls 0 (sL 2 ln d m a b e f g h i j))),(10,.m (ls 0 (sL 2 ln d m a b e f g h i j))),(11,.c [] [] (U5 ln d m a b e f g h i j (by(simp only[LL,k,k];done)))),(12,.t (iS 50 λ_ _ _=>jB (xs:=([i6 2,i6 ln]:List Value)++rB 64 d++([u6 (m:Int),i6 a,i6 b,i6 e,i6 f,i6 g,i6 h,i6 i,i6 j]:List Value)) (ys:=([i6 2,i6 ln]:List Value)++rB 64 d++([u6 0,i6 0,i6 0,i6 0,i6 0,i6 0,i6 0,i6 0,i6 0]:List Value)) Kr (fg Kr Kr (fg Kr Kr ba ((jA k k).trans (c0 rfl))) ba)))] [(16,.bool (!(((2==2&&(ln==ln&&true))&&true)&&((m:Int)==0&&(a==0&&(b==0&&(e==0&&(f==0&&(g==0&&(h==0&&(i==0&&(j==0&&true))))))))))))] [] ?_;refine cB (!(((2==2&&(ln==ln&&true))&&true)&&((m:Int)==0&&(a==0&&(b==0&&(e==0&&(f==0&&(g==0&&(h==0&&(i==0&&(j==0&&true))))))))))) (λn=>?_) λn=>?_
 ·exact r0 [] [(2,.bool false)] [2] (aq (.bool false) ab.zero (by((try simp only[wo]);(repeat (first | rw[n] | rw[ALct])))<;>rfl) [] [] [])
 exact r0 [(1,.m (ld 0 (i6 2))),(4,.d),(5,.d),(6,.d),(7,.d),(8,.d),(9,.d),(10,.d),(11,.d),(12,.d),(13,.d)] [(2,.bool true)] [2] (aq (.bool true) ab.zero (by((try simp only[wo]);(repeat (first | rw[n] | rw[ALcf])))<;>rfl) [] [] [])
def wq(ln:Int)(m:Nat)(a b c d e f g h:Int):Bool:=(bif !(((3==3&&(ln==ln&&true))&&true)&&((m:Int)==(m:Int)&&(a==0&&(b==0&&(c==0&&(d==0&&(e==0&&(f==0&&(g==0&&(h==0&&true)))))))))) then false else true)
theorem Vl(ln:Int)(d:List UInt8)(m:Nat)(a b e f g h i j:Int)(k:d.length=64):aa gh 17 #[.agg (sV 3 ln d m a b e f g h i j)] [] [] N0 (λ_=> .bool (wq ln m a b e f g h i j)):=by
 refine fG Tryz.func17 λw cs=>ra (λl=>[(1,pt (B0 l) 0),(2,.bool false)]) (λl=>[ob (B0 l) (sV 3 ln d m a b e f g h i j) 50]) λl=>r0 [(1,.m (ld 0 (i6 3))),(5,.m (ld 0 (i6 3))),(9,.m (ls 0 (sL 3 ln d m a b e f g h i j))),(10,.m (ls 0 (sL 3 ln d m a b e f g h i j))),(11,.c [] [] (U6 ln d m a b e f g h i j (by(simp only[LL,k,k];done)))),(12,.t (iS 50 λ_ _ _=>jB (xs:=([i6 3,i6 ln]:List Value)++rB 64 d++([u6 (m:Int),i6 a,i6 b,i6 e,i6 f,i6 g,i6 h,i6 i,i6 j]:List Value)) (ys:=([i6 3,i6 ln]:List Value)++rB 64 d++([u6 (m:Int),i6 0,i6 0,i6 0,i6 0,i6 0,i6 0,i6 0,i6 0]:List Value)) Kr (fg Kr Kr (fg Kr Kr ba ((jA k k).trans (c0 rfl))) ba)))] [(16,.bool (!(((3==3&&(ln==ln&&true))&&true)&&((m:Int)==(m:Int)&&(a==0&&(b==0&&(e==0&&(f==0&&(g==0&&(h==0&&(i==0&&(j==0&&true))))))))))))] [] ?_;refine cB (!(((3==3&&(ln==ln&&true))&&true)&&((m:Int)==(m:Int)&&(a==0&&(b==0&&(e==0&&(f==0&&(g==0&&(h==0&&(i==0&&(j==0&&true))))))))))) (λn=>?_) λn=>?_
 ·exact r0 [] [(2,.bool false)] [2] (aq (.bool false) ab.zero (by((try simp only[wq]);(repeat (first | rw[n] | rw[ALct])))<;>rfl) [] [] [])
 exact r0 [(1,.m (ld 0 (i6 3))),(4,.d),(5,.d),(6,.d),(7,.d),(8,.d),(9,.d),(10,.d),(11,.d),(12,.d),(13,.d)] [(2,.bool true)] [2] (aq (.bool true) ab.zero (by((try simp only[wq]);(repeat (first | rw[n] | rw[ALcf])))<;>rfl) [] [] [])
def wu(k j:Int)(d:List UInt8)(m:Nat)(a b c e f g h i:Int):Bool:=(bif !(((k==k&&(j==0&&true))&&decide (d=mz 64 0))&&((m:Int)==0&&(a==0&&(b==0&&(c==0&&(e==0&&(f==0&&(g==0&&(h==0&&(i==0&&true)))))))))) then false else true)
theorem Vm(k l:Int)(d:List UInt8)(m:Nat)(a b e f g h i j:Int)(p:d.length=64)(q:4≤k)(r:k≤7):aa gh 17 #[.agg (sV k l d m a b e f g h i j)] [] [] N0 (λ_=> .bool (wu k l d m a b e f g h i j)):=by
 refine fG Tryz.func17 λw cs=>ra (λn=>[(1,pt (B0 n) 0),(2,.bool false)]) (λn=>[ob (B0 n) (sV k l d m a b e f g h i j) 50]) λn=>r0 [(1,.m (ld 0 (i6 k))),(2,.t (tk (show Value.bool (decide (k<1))= .bool false from ALca Value.bool (by simp;omega)))),(5,.m (ld 0 (i6 k))),(6,.t (tk (show Value.bool (decide (8<k))= .bool false from ALca Value.bool (by simp;omega)))),(9,.m (ls 0 (sL k l d m a b e f g h i j))),(10,.m (ls 0 (sL k l d m a b e f g h i j))),(11,.c [] [] (U7 k l d m a b e f g h i j (by(simp only[LL,p,p];done)) Om Om)),(12,.t (iS 50 λ_ _ _=>jB (xs:=([i6 k,i6 l]:List Value)++rB 64 d++([u6 (m:Int),i6 a,i6 b,i6 e,i6 f,i6 g,i6 h,i6 i,i6 j]:List Value)) (ys:=([i6 k,i6 0]:List Value)++rB 64 z6++([u6 0,i6 0,i6 0,i6 0,i6 0,i6 0,i6 0,i6 0,i6 0]:List Value)) Kr (fg Kr Kr (fg Kr Kr ba (jA p (show z6.length=64 by rfl))) ba)))] [(16,.bool (!(((k==k&&(l==0&&true))&&decide (d=mz 64 0))&&((m:Int)==0&&(a==0&&(b==0&&(e==0&&(f==0&&(g==0&&(h==0&&(i==0&&(j==0&&true))))))))))))] [] ?_;refine cB (!(((k==k&&(l==0&&true))&&decide (d=mz 64 0))&&((m:Int)==0&&(a==0&&(b==0&&(e==0&&(f==0&&(g==0&&(h==0&&(i==0&&(j==0&&true))))))))))) (λo=>?_) λo=>?_
 ·exact r0 [] [(2,.bool false)] [2] (aq (.bool false) ab.zero (by((try simp only[wu]);(repeat (first | rw[o] | rw[ALct])))<;>rfl) [] [] [])
 exact r0 [(1,.m (ld 0 (i6 k))),(2,.t (tk (show Value.bool (k != 8)= .bool true from ALca Value.bool (by rw[bne_iff_ne];omega)))),(4,.d),(5,.d),(6,.d),(7,.d),(8,.d),(9,.d),(10,.d),(11,.d),(12,.d),(13,.d)] [(2,.bool true)] [2] (aq (.bool true) ab.zero (by((try simp only[wu]);(repeat (first | rw[o] | rw[ALcf])))<;>rfl) [] [] [])
def wv(ln:Int)(d:List UInt8)(m:Nat)(a b c e g f h:Int):Bool:=(bif !(((8==8&&(ln==0&&true))&&decide (d=mz 64 0))&&((m:Int)==0&&(1==1&&(a==a&&(b==b&&(c==c&&(e==e&&(g==0&&(f==f&&(h==0&&true)))))))))) then false else true)
theorem Vn(ln:Int)(d:List UInt8)(m:Nat)(a b e f h g i:Int)(l:d.length=64):aa gh 17 #[.agg (sV 8 ln d m 1 a b e f h g i)] [] [] N0 (λ_=> .bool (wv ln d m a b e f h g i)):=by
 refine fG Tryz.func17 λw cs=>ra (λj=>[(1,pt (B0 j) 0),(2,.bool false)]) (λj=>[ob (B0 j) (sV 8 ln d m 1 a b e f h g i) 50]) λj=>r0 [(1,.m (ld 0 (i6 8))),(5,.m (ld 0 (i6 8))),(9,.m (ls 0 (sL 8 ln d m 1 a b e f h g i))),(10,.m (ls 0 (sL 8 ln d m 1 a b e f h g i))),(11,.c [] [] (U8 ln d m a b e f h g i (by(simp only[LL,l,l];done)))),(12,.t (iS 50 λ_ _ _=>jB (xs:=([i6 8,i6 ln]:List Value)++rB 64 d++([u6 (m:Int),i6 1,i6 a,i6 b,i6 e,i6 f,i6 h,i6 g,i6 i]:List Value)) (ys:=([i6 8,i6 0]:List Value)++rB 64 z6++([u6 0,i6 1,i6 a,i6 b,i6 e,i6 f,i6 0,i6 g,i6 0]:List Value)) Kr (fg Kr Kr (fg Kr Kr ba (jA l (show z6.length=64 by rfl))) ba)))] [(16,.bool (!(((8==8&&(ln==0&&true))&&decide (d=mz 64 0))&&((m:Int)==0&&(1==1&&(a==a&&(b==b&&(e==e&&(f==f&&(h==0&&(g==g&&(i==0&&true))))))))))))] [] ?_;refine cB (!(((8==8&&(ln==0&&true))&&decide (d=mz 64 0))&&((m:Int)==0&&(1==1&&(a==a&&(b==b&&(e==e&&(f==f&&(h==0&&(g==g&&(i==0&&true))))))))))) (λk=>?_) λk=>?_
 ·exact r0 [] [(2,.bool false)] [2] (aq (.bool false) ab.zero (by((try simp only[wv]);(repeat (first | rw[k] | rw[ALct])))<;>rfl) [] [] [])
 exact r0 [(1,.m (ld 0 (i6 8))),(6,.m (ld 0 (i6 1))),(11,.m (ld 0 (i6 1))),] [(2,.bool true)] [2] (aq (.bool true) ab.zero (by((try simp only[wv]);(repeat (first | rw[k] | rw[ALcf])))<;>rfl) [] [] [])
def wx(ln:Int)(d:List UInt8)(m:Nat)(a b c e h f g:Int):Bool:=(bif !(((8==8&&(ln==0&&true))&&decide (d=mz 64 0))&&((m:Int)==0&&(2==2&&(a==a&&(b==b&&(c==c&&(e==e&&(h==0&&(f==f&&(g==g&&true)))))))))) then false else true)
theorem Vo(ln:Int)(d:List UInt8)(m:Nat)(a b e f i g h:Int)(l:d.length=64):aa gh 17 #[.agg (sV 8 ln d m 2 a b e f i g h)] [] [] N0 (λ_=> .bool (wx ln d m a b e f i g h)):=by
 refine fG Tryz.func17 λw cs=>ra (λj=>[(1,pt (B0 j) 0),(2,.bool false)]) (λj=>[ob (B0 j) (sV 8 ln d m 2 a b e f i g h) 50]) λj=>r0 [(1,.m (ld 0 (i6 8))),(5,.m (ld 0 (i6 8))),(9,.m (ls 0 (sL 8 ln d m 2 a b e f i g h))),(10,.m (ls 0 (sL 8 ln d m 2 a b e f i g h))),(11,.c [] [] (U9 ln d m a b e f i g h (by(simp only[LL,l,l];done)))),(12,.t (iS 50 λ_ _ _=>jB (xs:=([i6 8,i6 ln]:List Value)++rB 64 d++([u6 (m:Int),i6 2,i6 a,i6 b,i6 e,i6 f,i6 i,i6 g,i6 h]:List Value)) (ys:=([i6 8,i6 0]:List Value)++rB 64 z6++([u6 0,i6 2,i6 a,i6 b,i6 e,i6 f,i6 0,i6 g,i6 h]:List Value)) Kr (fg Kr Kr (fg Kr Kr ba (jA l (show z6.length=64 by rfl))) ba)))] [(16,.bool (!(((8==8&&(ln==0&&true))&&decide (d=mz 64 0))&&((m:Int)==0&&(2==2&&(a==a&&(b==b&&(e==e&&(f==f&&(i==0&&(g==g&&(h==h&&true))))))))))))] [] ?_;refine cB (!(((8==8&&(ln==0&&true))&&decide (d=mz 64 0))&&((m:Int)==0&&(2==2&&(a==a&&(b==b&&(e==e&&(f==f&&(i==0&&(g==g&&(h==h&&true))))))))))) (λk=>?_) λk=>?_
 ·exact r0 [] [(2,.bool false)] [2] (aq (.bool false) ab.zero (by((try simp only[wx]);(repeat (first | rw[k] | rw[ALct])))<;>rfl) [] [] [])
 exact r0 [(1,.m (ld 0 (i6 8))),(6,.m (ld 0 (i6 2))),(11,.m (ld 0 (i6 2))),] [(2,.bool true)] [2] (aq (.bool true) ab.zero (by((try simp only[wx]);(repeat (first | rw[k] | rw[ALcf])))<;>rfl) [] [] [])
def wy(ln:Int)(d:List UInt8)(m:Nat)(a b c g e h f:Int):Bool:=(bif !(((8==8&&(ln==0&&true))&&decide (d=mz 64 0))&&((m:Int)==0&&(3==3&&(a==a&&(b==b&&(c==c&&(g==0&&(e==e&&(h==0&&(f==f&&true)))))))))) then false else true)
theorem Vp(ln:Int)(d:List UInt8)(m:Nat)(a b e h f i g:Int)(l:d.length=64):aa gh 17 #[.agg (sV 8 ln d m 3 a b e h f i g)] [] [] N0 (λ_=> .bool (wy ln d m a b e h f i g)):=by
 refine fG Tryz.func17 λw cs=>ra (λj=>[(1,pt (B0 j) 0),(2,.bool false)]) (λj=>[ob (B0 j) (sV 8 ln d m 3 a b e h f i g) 50]) λj=>r0 [(1,.m (ld 0 (i6 8))),(5,.m (ld 0 (i6 8))),(9,.m (ls 0 (sL 8 ln d m 3 a b e h f i g))),(10,.m (ls 0 (sL 8 ln d m 3 a b e h f i g))),(11,.c [] [] (Va ln d m a b e h f i g (by(simp only[LL,l,l];done)))),(12,.t (iS 50 λ_ _ _=>jB (xs:=([i6 8,i6 ln]:List Value)++rB 64 d++([u6 (m:Int),i6 3,i6 a,i6 b,i6 e,i6 h,i6 f,i6 i,i6 g]:List Value)) (ys:=([i6 8,i6 0]:List Value)++rB 64 z6++([u6 0,i6 3,i6 a,i6 b,i6 e,i6 0,i6 f,i6 0,i6 g]:List Value)) Kr (fg Kr Kr (fg Kr Kr ba (jA l (show z6.length=64 by rfl))) ba)))] [(16,.bool (!(((8==8&&(ln==0&&true))&&decide (d=mz 64 0))&&((m:Int)==0&&(3==3&&(a==a&&(b==b&&(e==e&&(h==0&&(f==f&&(i==0&&(g==g&&true))))))))))))] [] ?_;refine cB (!(((8==8&&(ln==0&&true))&&decide (d=mz 64 0))&&((m:Int)==0&&(3==3&&(a==a&&(b==b&&(e==e&&(h==0&&(f==f&&(i==0&&(g==g&&true))))))))))) (λk=>?_) λk=>?_
 ·exact r0 [] [(2,.bool false)] [2] (aq (.bool false) ab.zero (by((try simp only[wy]);(repeat (first | rw[k] | rw[ALct])))<;>rfl) [] [] [])
 exact r0 [(1,.m (ld 0 (i6 8))),(6,.m (ld 0 (i6 3))),(11,.m (ld 0 (i6 3))),] [(2,.bool true)] [2] (aq (.bool true) ab.zero (by((try simp only[wy]);(repeat (first | rw[k] | rw[ALcf])))<;>rfl) [] [] [])
def wz(ln:Int)(d:List UInt8)(m:Nat)(a b g c e h f:Int):Bool:=(bif !(((8==8&&(ln==0&&true))&&decide (d=mz 64 0))&&((m:Int)==0&&(4==4&&(a==a&&(b==b&&(g==0&&(c==c&&(e==e&&(h==0&&(f==f&&true)))))))))) then false else true)
theorem Vq(ln:Int)(d:List UInt8)(m:Nat)(a b h e f i g:Int)(l:d.length=64):aa gh 17 #[.agg (sV 8 ln d m 4 a b h e f i g)] [] [] N0 (λ_=> .bool (wz ln d m a b h e f i g)):=by
 refine fG Tryz.func17 λw cs=>ra (λj=>[(1,pt (B0 j) 0),(2,.bool false)]) (λj=>[ob (B0 j) (sV 8 ln d m 4 a b h e f i g) 50]) λj=>r0 [(1,.m (ld 0 (i6 8))),(5,.m (ld 0 (i6 8))),(9,.m (ls 0 (sL 8 ln d m 4 a b h e f i g))),(10,.m (ls 0 (sL 8 ln d m 4 a b h e f i g))),(11,.c [] [] (Vb ln d m a b h e f i g (by(simp only[LL,l,l];done)))),(12,.t (iS 50 λ_ _ _=>jB (xs:=([i6 8,i6 ln]:List Value)++rB 64 d++([u6 (m:Int),i6 4,i6 a,i6 b,i6 h,i6 e,i6 f,i6 i,i6 g]:List Value)) (ys:=([i6 8,i6 0]:List Value)++rB 64 z6++([u6 0,i6 4,i6 a,i6 b,i6 0,i6 e,i6 f,i6 0,i6 g]:List Value)) Kr (fg Kr Kr (fg Kr Kr ba (jA l (show z6.length=64 by rfl))) ba)))] [(16,.bool (!(((8==8&&(ln==0&&true))&&decide (d=mz 64 0))&&((m:Int)==0&&(4==4&&(a==a&&(b==b&&(h==0&&(e==e&&(f==f&&(i==0&&(g==g&&true))))))))))))] [] ?_;refine cB (!(((8==8&&(ln==0&&true))&&decide (d=mz 64 0))&&((m:Int)==0&&(4==4&&(a==a&&(b==b&&(h==0&&(e==e&&(f==f&&(i==0&&(g==g&&true))))))))))) (λk=>?_) λk=>?_
 ·exact r0 [] [(2,.bool false)] [2] (aq (.bool false) ab.zero (by((try simp only[wz]);(repeat (first | rw[k] | rw[ALct])))<;>rfl) [] [] [])
 exact r0 [(1,.m (ld 0 (i6 8))),(6,.m (ld 0 (i6 4))),(11,.m (ld 0 (i6 4))),] [(2,.bool true)] [2] (aq (.bool true) ab.zero (by((try simp only[wz]);(repeat (first | rw[k] | rw[ALcf])))<;>rfl) [] [] [])
def wA(ln:Int)(d:List UInt8)(m:Nat)(a e f g b h c:Int):Bool:=(bif !(((8==8&&(ln==0&&true))&&decide (d=mz 64 0))&&((m:Int)==0&&(5==5&&(a==a&&(e==0&&(f==0&&(g==0&&(b==b&&(h==0&&(c==c&&true)))))))))) then false else true)
theorem Vr(ln:Int)(d:List UInt8)(m:Nat)(a f g h b i e:Int)(l:d.length=64):aa gh 17 #[.agg (sV 8 ln d m 5 a f g h b i e)] [] [] N0 (λ_=> .bool (wA ln d m a f g h b i e)):=by
 refine fG Tryz.func17 λw cs=>ra (λj=>[(1,pt (B0 j) 0),(2,.bool false)]) (λj=>[ob (B0 j) (sV 8 ln d m 5 a f g h b i e) 50]) λj=>r0 [(1,.m (ld 0 (i6 8))),(5,.m (ld 0 (i6 8))),(9,.m (ls 0 (sL 8 ln d m 5 a f g h b i e))),(10,.m (ls 0 (sL 8 ln d m 5 a f g h b i e))),(11,.c [] [] (Vc ln d m a f g h b i e (by(simp only[LL,l,l];done)))),(12,.t (iS 50 λ_ _ _=>jB (xs:=([i6 8,i6 ln]:List Value)++rB 64 d++([u6 (m:Int),i6 5,i6 a,i6 f,i6 g,i6 h,i6 b,i6 i,i6 e]:List Value)) (ys:=([i6 8,i6 0]:List Value)++rB 64 z6++([u6 0,i6 5,i6 a,i6 0,i6 0,i6 0,i6 b,i6 0,i6 e]:List Value)) Kr (fg Kr Kr (fg Kr Kr ba (jA l (show z6.length=64 by rfl))) ba)))] [(16,.bool (!(((8==8&&(ln==0&&true))&&decide (d=mz 64 0))&&((m:Int)==0&&(5==5&&(a==a&&(f==0&&(g==0&&(h==0&&(b==b&&(i==0&&(e==e&&true))))))))))))] [] ?_;refine cB (!(((8==8&&(ln==0&&true))&&decide (d=mz 64 0))&&((m:Int)==0&&(5==5&&(a==a&&(f==0&&(g==0&&(h==0&&(b==b&&(i==0&&(e==e&&true))))))))))) (λk=>?_) λk=>?_
 ·exact r0 [] [(2,.bool false)] [2] (aq (.bool false) ab.zero (by((try simp only[wA]);(repeat (first | rw[k] | rw[ALct])))<;>rfl) [] [] [])
 exact r0 [(1,.m (ld 0 (i6 8))),(6,.m (ld 0 (i6 5))),(11,.m (ld 0 (i6 5))),] [(2,.bool true)] [2] (aq (.bool true) ab.zero (by((try simp only[wA]);(repeat (first | rw[k] | rw[ALcf])))<;>rfl) [] [] [])
def wB(ln:Int)(d:List UInt8)(m:Nat)(a b c e f g h:Int):Bool:=(bif !(((8==8&&(ln==0&&true))&&decide (d=mz 64 0))&&((m:Int)==0&&(6==6&&(a==a&&(b==b&&(c==c&&(e==e&&(f==0&&(g==0&&(h==0&&true)))))))))) then false else true)
theorem Vs(ln:Int)(d:List UInt8)(m:Nat)(a b e f g h i:Int)(l:d.length=64):aa gh 17 #[.agg (sV 8 ln d m 6 a b e f g h i)] [] [] N0 (λ_=> .bool (wB ln d m a b e f g h i)):=by
 refine fG Tryz.func17 λw cs=>ra (λj=>[(1,pt (B0 j) 0),(2,.bool false)]) (λj=>[ob (B0 j) (sV 8 ln d m 6 a b e f g h i) 50]) λj=>r0 [(1,.m (ld 0 (i6 8))),(5,.m (ld 0 (i6 8))),(9,.m (ls 0 (sL 8 ln d m 6 a b e f g h i))),(10,.m (ls 0 (sL 8 ln d m 6 a b e f g h i))),(11,.c [] [] (Ve ln d m a b e f g h i (by(simp only[LL,l,l];done)))),(12,.t (iS 50 λ_ _ _=>jB (xs:=([i6 8,i6 ln]:List Value)++rB 64 d++([u6 (m:Int),i6 6,i6 a,i6 b,i6 e,i6 f,i6 g,i6 h,i6 i]:List Value)) (ys:=([i6 8,i6 0]:List Value)++rB 64 z6++([u6 0,i6 6,i6 a,i6 b,i6 e,i6 f,i6 0,i6 0,i6 0]:List Value)) Kr (fg Kr Kr (fg Kr Kr ba (jA l (show z6.length=64 by rfl))) ba)))] [(16,.bool (!(((8==8&&(ln==0&&true))&&decide (d=mz 64 0))&&((m:Int)==0&&(6==6&&(a==a&&(b==b&&(e==e&&(f==f&&(g==0&&(h==0&&(i==0&&true))))))))))))] [] ?_;refine cB (!(((8==8&&(ln==0&&true))&&decide (d=mz 64 0))&&((m:Int)==0&&(6==6&&(a==a&&(b==b&&(e==e&&(f==f&&(g==0&&(h==0&&(i==0&&true))))))))))) (λk=>?_) λk=>?_
 ·exact r0 [] [(2,.bool false)] [2] (aq (.bool false) ab.zero (by((try simp only[wB]);(repeat (first | rw[k] | rw[ALct])))<;>rfl) [] [] [])
 exact r0 [(1,.m (ld 0 (i6 8))),(6,.m (ld 0 (i6 6))),(11,.m (ld 0 (i6 6))),] [(2,.bool true)] [2] (aq (.bool true) ab.zero (by((try simp only[wB]);(repeat (first | rw[k] | rw[ALcf])))<;>rfl) [] [] [])
def wE(ln:Int)(d:List UInt8)(m:Nat)(a b c e f g h:Int):Bool:=(bif !(((8==8&&(ln==0&&true))&&decide (d=mz 64 0))&&((m:Int)==0&&(7==7&&(a==0&&(b==0&&(c==0&&(e==0&&(f==0&&(g==0&&(h==0&&true)))))))))) then false else true)
theorem Vt(ln:Int)(d:List UInt8)(m:Nat)(a b e f g h i:Int)(l:d.length=64):aa gh 17 #[.agg (sV 8 ln d m 7 a b e f g h i)] [] [] N0 (λ_=> .bool (wE ln d m a b e f g h i)):=by
 refine fG Tryz.func17 λw cs=>ra (λj=>[(1,pt (B0 j) 0),(2,.bool false)]) (λj=>[ob (B0 j) (sV 8 ln d m 7 a b e f g h i) 50]) λj=>r0 [(1,.m (ld 0 (i6 8))),(5,.m (ld 0 (i6 8))),(9,.m (ls 0 (sL 8 ln d m 7 a b e f g h i))),(10,.m (ls 0 (sL 8 ln d m 7 a b e f g h i))),(11,.c [] [] (Vf ln d m a b e f g h i (by(simp only[LL,l,l];done)))),(12,.t (iS 50 λ_ _ _=>jB (xs:=([i6 8,i6 ln]:List Value)++rB 64 d++([u6 (m:Int),i6 7,i6 a,i6 b,i6 e,i6 f,i6 g,i6 h,i6 i]:List Value)) (ys:=([i6 8,i6 0]:List Value)++rB 64 z6++([u6 0,i6 7,i6 0,i6 0,i6 0,i6 0,i6 0,i6 0,i6 0]:List Value)) Kr (fg Kr Kr (fg Kr Kr ba (jA l (show z6.length=64 by rfl))) ba)))] [(16,.bool (!(((8==8&&(ln==0&&true))&&decide (d=mz 64 0))&&((m:Int)==0&&(7==7&&(a==0&&(b==0&&(e==0&&(f==0&&(g==0&&(h==0&&(i==0&&true))))))))))))] [] ?_;refine cB (!(((8==8&&(ln==0&&true))&&decide (d=mz 64 0))&&((m:Int)==0&&(7==7&&(a==0&&(b==0&&(e==0&&(f==0&&(g==0&&(h==0&&(i==0&&true))))))))))) (λk=>?_) λk=>?_
 ·exact r0 [] [(2,.bool false)] [2] (aq (.bool false) ab.zero (by((try simp only[wE]);(repeat (first | rw[k] | rw[ALct])))<;>rfl) [] [] [])
 exact r0 [(1,.m (ld 0 (i6 8))),(6,.m (ld 0 (i6 7))),(11,.m (ld 0 (i6 7))),] [(2,.bool true)] [2] (aq (.bool true) ab.zero (by((try simp only[wE]);(repeat (first | rw[k] | rw[ALcf])))<;>rfl) [] [] [])
def wF(ln:Int)(d:List UInt8)(m:Nat)(a b c e f g h i:Int):Bool:=(bif !(((8==8&&(ln==0&&true))&&decide (d=mz 64 0))&&((m:Int)==0&&(a==a&&(b==0&&(c==0&&(e==0&&(f==0&&(g==0&&(h==0&&(i==0&&true)))))))))) then false else(decide (1≤a))&&(decide (a≤7)))
theorem Vu(ln:Int)(d:List UInt8)(m:Nat)(a b e f g h i j:Int)(n:d.length=64)(o:a<1∨7<a):aa gh 17 #[.agg (sV 8 ln d m a b e f g h i j)] [] [] N0 (λ_=> .bool (wF ln d m a b e f g h i j)):=by
 refine fG Tryz.func17 λw cs=>ra (λk=>[(1,pt (B0 k) 0),(2,.bool false)]) (λk=>[ob (B0 k) (sV 8 ln d m a b e f g h i j) 50]) λk=>r0 [(1,.m (ld 0 (i6 8))),(5,.m (ld 0 (i6 8))),(9,.m (ls 0 (sL 8 ln d m a b e f g h i j))),(10,.m (ls 0 (sL 8 ln d m a b e f g h i j))),(11,.c [] [] (Vg ln d m a b e f g h i j (by(simp only[LL,n,n];done)) Om)),(12,.t (iS 50 λ_ _ _=>jB (xs:=([i6 8,i6 ln]:List Value)++rB 64 d++([u6 (m:Int),i6 a,i6 b,i6 e,i6 f,i6 g,i6 h,i6 i,i6 j]:List Value)) (ys:=([i6 8,i6 0]:List Value)++rB 64 z6++([u6 0,i6 a,i6 0,i6 0,i6 0,i6 0,i6 0,i6 0,i6 0]:List Value)) Kr (fg Kr Kr (fg Kr Kr ba (jA n (show z6.length=64 by rfl))) ba)))] [(16,.bool (!(((8==8&&(ln==0&&true))&&decide (d=mz 64 0))&&((m:Int)==0&&(a==a&&(b==0&&(e==0&&(f==0&&(g==0&&(h==0&&(i==0&&(j==0&&true))))))))))))] [] ?_;refine cB (!(((8==8&&(ln==0&&true))&&decide (d=mz 64 0))&&((m:Int)==0&&(a==a&&(b==0&&(e==0&&(f==0&&(g==0&&(h==0&&(i==0&&(j==0&&true))))))))))) (λl=>?_) λl=>?_
 ·exact r0 [] [(2,.bool false)] [2] (aq (.bool false) ab.zero (by((try simp only[wF]);(repeat (first | rw[l] | rw[ALct])))<;>rfl) [] [] [])
 exact r0 [(1,.m (ld 0 (i6 8))),(6,.m (ld 0 (i6 a))),(11,.m (ld 0 (i6 a))),] [(2,.bool ((decide (1≤a))&&(decide (a≤7))))] [2] (aq (.bool ((decide (1≤a))&&(decide (a≤7)))) ab.zero (by((try simp only[wF]);(repeat (first | rw[l] | rw[ALcf])))<;>rfl) [] [] [])
def ed(k j:Int)(d:List UInt8)(m:Nat)(a b c e f g h i:Int):Bool:=
 if k<1 then false else if 8<k then false else if k=1 then wm j d m a b c e f g h i else if k=2 then wo j m a b c e f g h i else if k=3 then wq j m a b c e f g h i else if k≤7 then wu k j d m a b c e f g h i else if a=1 then wv j d m b c e f g h i else if a=2 then wx j d m b c e f g h i else if a=3 then wy j d m b c e f g h i else if a=4 then wz j d m b c e f g h i else if a=5 then wA j d m b c e f g h i else if a=6 then wB j d m b c e f g h i else if a=7 then wE j d m b c e f g h i else wF j d m a b c e f g h i
def sR(s:St):Bool:=ed s.k s.ln s.d s.m s.f0 s.f1 s.f2 s.f3 s.f4 s.f5 s.f6 s.f7
theorem Vv{s:St}(h:sR s=true):1≤s.k∧s.k≤8:=by
 unfold sR ed at h;by_cases a:s.k<1
 ·rw[ALifp a] at h;cases h
 ·rw[ALifn a] at h;by_cases b:8<s.k
  ·rw[ALifp b] at h;cases h
  ·omega
theorem kf(k j:Int)(d:List UInt8)(m:Nat)(a b c e f g h i:Int)(l:d.length=64):aa gh 17 #[.agg ([i6 k,i6 j]++rB 64 d++[u6 (m:Int),i6 a,i6 b,i6 c,i6 e,i6 f,i6 g,i6 h,i6 i]).toArray] [] [] N0 (λ_=> .bool (ed k j d m a b c e f g h i)):=by
 unfold ed;by_cases n:k<1
 ·rw[ALifp n];exact Vh k j d m a b c e f g h i l n
 rw[ALifn n];by_cases o:8<k
 ·rw[ALifp o];exact Vi k j d m a b c e f g h i l o
 rw[ALifn o];by_cases x:k=1
 ·subst x;rw[ALifp rfl];exact Vj j d m a b c e f g h i l
 rw[ALifn x];by_cases y:k=2
 ·subst y;rw[ALifp rfl];exact Vk j d m a b c e f g h i l
 rw[ALifn y];by_cases z:k=3
 ·subst z;rw[ALifp rfl];exact Vl j d m a b c e f g h i l
 rw[ALifn z];by_cases p:k≤7
 ·rw[ALifp p];exact Vm k j d m a b c e f g h i l Om p
 rw[ALifn p];obtain rfl:k=8:=by omega
 by_cases q:a=1
 ·subst q;rw[ALifp rfl];exact Vn j d m b c e f g h i l
 rw[ALifn q];by_cases r:a=2
 ·subst r;rw[ALifp rfl];exact Vo j d m b c e f g h i l
 rw[ALifn r];by_cases s:a=3
 ·subst s;rw[ALifp rfl];exact Vp j d m b c e f g h i l
 rw[ALifn s];by_cases t:a=4
 ·subst t;rw[ALifp rfl];exact Vq j d m b c e f g h i l
 rw[ALifn t];by_cases u:a=5
 ·subst u;rw[ALifp rfl];exact Vr j d m b c e f g h i l
 rw[ALifn u];by_cases v:a=6
 ·subst v;rw[ALifp rfl];exact Vs j d m b c e f g h i l
 rw[ALifn v];by_cases w:a=7
 ·subst w;rw[ALifp rfl];exact Vt j d m b c e f g h i l
 rw[ALifn w];exact Vu j d m a b c e f g h i l Om
theorem s0{α:Type}{en:α→List Value}{d:α}{A C:List Value}{a off m:Nat}{ys:List α}{t:TypeId}(h1: ∀x,(en x).length=1)(hA:A.length=off)(h:ys.length=m):aP en (.slice (some ⟨a,off,none⟩) m m) ys [(a,.cells ((A++cD en d m ys++C).toArray) t (0,0))]:=by
 have e:((A++cD en d m ys++C).drop off).take (ao en ys).length=ao en ys:=by rw[kN h,Za,←hA,List.drop_left,List.take_left]
 exact⟨.inr ⟨a,off,_,t,(0,0),m,by rw[h],List.mem_singleton.2 rfl,e⟩,some ⟨a,off,none⟩,0,by rw[h];rfl⟩
theorem s4{P:Program}{T:TypeId}{w:World}{g off s N:Nat}(a:(P.underlying T,P.arrayLen T,iR P (P.elem T))=(some (.array N (P.elem T)),N,some s))(c:0<N):(Instr.sliceAt T (.pointer (some ⟨g,off,none⟩)) none none none).run P w= .ok (.slice (some ⟨g,off,none⟩) N N) w:=by
 have b:P.arrayLen T=N:=ALca (·.2.1) a;rw[run_sliceAt_array_all w T ⟨g,off,none⟩ (by rw[b];exact ALca (·.1) a),nJ (ALca (·.2.2) a),ZL];unfold slicedAt;rw[b,add_lit,Zw,ALifn Om];rfl
structure Ij where
 x0:Int
 x1:Int
 x2:Int
 x3:Int
 x4:Int
 x5:Int
 x6:Int
 x7:Int
 sc:Nat
 ac:Nat
def Vw:Ij:=⟨0,0,0,0,0,0,0,0,0,0⟩
def G9(x:Ij):List Value:=[i6 x.x0,i6 x.x1,i6 x.x2,i6 x.x3,i6 x.x4,i6 x.x5,i6 x.x6,i6 x.x7,iN x.sc,iN x.ac]
def Vx:Kd gh Ij:=⟨G9,[i6 0,i6 0,i6 0,i6 0,i6 0,i6 0,i6 0,i6 0,i6 0,i6 0],111,187,Vw,10,λ_=>rfl,rfl,λ_=>rfl,dT.mk' Kr Kr rfl⟩
abbrev gb(v:Value)(xs:List Ij):aC:= .p (ar G9 ([i6 0,i6 0,i6 0,i6 0,i6 0,i6 0,i6 0,i6 0,i6 0,i6 0]) 187 v xs)
structure Sv where
 k:Int
 ln:Int
 d:List UInt8
 m:Nat
 f0:Int
 f1:Int
 f2:Int
 f3:Int
 f4:Int
 f5:Int
 f6:Int
 f7:Int
 e:Int
 n:Int
 l:List UInt8
 w:List UInt8
 fi:Nat
 la:Nat
def Aw:Sv:=⟨0,0,mz 64 0,0,0,0,0,0,0,0,0,0,0,0,mz 64 0,mz 64 0,0,0⟩
def Ha(x:Sv):List Value:=[i6 x.k,i6 x.ln]++rB 64 x.d++[u6 (x.m:Int),i6 x.f0,i6 x.f1,i6 x.f2,i6 x.f3,i6 x.f4,i6 x.f5,i6 x.f6,i6 x.f7,i6 x.e,i6 x.n]++rB 64 x.l++rB 64 x.w++[iN x.fi,iN x.la]
def Ax:Kd gh Sv:=⟨Ha,[i6 0,i6 0]++mz 64 (u1 0)++[u6 0,i6 0,i6 0,i6 0,i6 0,i6 0,i6 0,i6 0,i6 0,i6 0,i6 0]++mz 64 (u1 0)++mz 64 (u1 0)++[i6 0,i6 0],112,149,Aw,207,λ_=>rfl,rfl,λ_=>rfl,dT.mk' Kr Kr rfl⟩
abbrev dh(v:Value)(xs:List Sv):aC:= .p (ar Ha ([i6 0,i6 0]++mz 64 (u1 0)++[u6 0,i6 0,i6 0,i6 0,i6 0,i6 0,i6 0,i6 0,i6 0,i6 0,i6 0]++mz 64 (u1 0)++mz 64 (u1 0)++[i6 0,i6 0]) 149 v xs)
structure Mc where
 x:Ct
 id:Int→List UInt8
 inj:List Ij
 sv:List Sv
 sc:Nat
 st:Nat
def pv:List UInt8:=mz 64 0
def wG(r:List UInt8):Value:= .agg (rB 64 r).toArray
abbrev cX(f:Int→List UInt8)(g:Nat):aC:= .p (lO wG pv f g)
abbrev bg(g a i m j l h n f b e k:Nat)(c:Cf)(x:Mc)(L:ah):Prop:=∃(gi:Nat) (d vs:Value),L=[ob g #[pt b 0,pt a 0,.map (some gi),d,vs,iN x.sc,iN x.st] 114,pk (aV a i m j l h n f b e k c x.x),cX x.id gi,gb d x.inj,dh vs x.sv]
structure eA (c:Cf) (x:Mc) (K A N:Nat):Prop where
 ct:bu c x.x K A
 il: ∀k,(x.id k).length=64
 jl:x.inj.length≤N
 sl:x.sv.length≤N
 sc:x.sc≤N
 st:x.st≤N
theorem lE(d h l i k g m f a b j:Nat)(c:Cf)(x:Ct):aa gh 42 #[pt a 0] [pk (aV d h l i k g m f a b j c x)] [0] (λ_=>[pk (aV d h l i k g m f a b j c x)]) (λ_=>iN x.V.l.length):=
 aa.inW (Ud a b c x.V) λL ⟨v,e⟩=>⟨6,by rw[e];rfl,v,by rw[e];rfl⟩
theorem Vy(g j n k m i o h a b l:Nat)(c:Cf)(x:Ct)(d:cZ c)(p:nu c x.V)(f:Fa):aa gh 90 #[pt a 0,.agg #[i6 f.x0,i6 f.x1,i6 f.x2,i6 f.x3,i6 f.x4,i6 f.x5,i6 f.x6,i6 f.x7]] [pk (aV g j n k m i o h a b l c x)] [0] (λ_=>[pk (aV g j n k m i o h a b l c {x with V:=nv c x.V f})]) (λ_=>i6 (gV c x.V.D f)):=
 aa.inW (Ue a b c d x.V p f) λL ⟨v,e⟩=>⟨6,by rw[e];rfl,v,by rw[e];rfl⟩
theorem Hb(v:Nat):cp v≠30:=by unfold cp;cases (v:Int)==3<;>cases (v:Int)==2<;>decide
theorem Hc(c:Cf)(x:Ct)(n m:Nat)(a:m≠0):cv c x n m≠30:=by
 unfold cv;rw[show((m:Int)==0)=false from dz.2 Om];cases decide (pc m=64)
 ·cases hv: !(cp (bK c x (a2 x n))==0)
  ·show(0:Int)≠30;decide
  ·exact Hb _
 ·show(0:Int)≠30;decide
def Hd(s:St)(e:Int)(l w:List UInt8)(a b:Nat):Sv:=⟨s.k,s.ln,s.d,s.m,s.f0,s.f1,s.f2,s.f3,s.f4,s.f5,s.f6,s.f7,e,0,l,w,a,b⟩
def He(c:Cf)(x:Mc)(n:Nat)(s:St):Mc:={x with x:=cI c x.x n c.X,sv:=x.sv++[Hd s (cp (bK c x.x (a2 x.x n))) (cU c x.x (a2 x.x n)) (x.id (n:Int)) x.x.V.l.length (cI c x.x n c.X).V.l.length]}
def wH(c:Cf)(x:Mc)(n m:Nat)(s:St):Mc:={x with x:=bG c x.x n s.d m,id:=du x.id (n:Int) (iM (x.id (n:Int)) s.d m),sv:=x.sv++[Hd s (cv c x.x n m) z6 (x.id (n:Int)) x.x.V.l.length (bG c x.x n s.d m).V.l.length]}
theorem Vz(g q D I F H C J B r z G:Nat)(c:Cf)(y:Ct)(K A:Nat)(h:bu c y K A)(hA:A≤700000)(O:K+3≤1000000000)(n:Nat)(R:n<((c.R*c.B*c.M-c.res)*c.C))(d:List UInt8)(T:d.length=64)(m:Nat)(a b e f i j o p:Int)(id:Int→List UInt8)(Q: ∀k,(id k).length=64)(sv:List Sv)(S:sv.length≤1000)(sc st u:Nat)(N vs:Value):aa gh 54 #[pt g 0,.agg (sV 1 (n:Int) d m a b e f i j o p)] [ob g #[pt r 0,pt q 0,.map (some u),N,vs,iN sc,iN st] 114,pk (aV q D I F H C J B r z G c y),cX id u,dh vs sv] [0,1,2,3] (λE=>[ob g #[pt r 0,pt q 0,.map (some u),N,(E.val 0),iN sc,iN st] 114,pk (aV q D I F H C J B r z G c (cI c y n c.X)),cX id u,dh (E.val 0) (sv++([(⟨1,(n:Int),d,m,a,b,e,f,i,j,o,p,(cp (bK c y (a2 y n))),0,cU c y (a2 y n),(id (n:Int)),y.V.l.length,(cI c y n c.X).V.l.length⟩:Sv)]))]) (λ_=> .agg (([i6 (cp (bK c y (a2 y n))),i6 0]:List Value)++rB 64 (cU c y (a2 y n))).toArray):=by
 have P:=h.cf;exact fG Tryz.func54 λw cs=>ra (λx=>[(3,pt (B0 x) 0),(4,pt (B1 x) 0)]) (λx=>[ob (B0 x) (sV 1 (n:Int) d m a b e f i j o p) 50,ob (B1 x) (([i6 0,i6 0]:List Value)++rB 64 z6).toArray 53]) λx=>rr (λ_=>[(0,.m (ls 4 (sL 1 (n:Int) d m a b e f i j o p))),(4,.m (ld 0 (.map (some u)))),(6,.m (ld 4 (iN n))),(7,.m (mg 2 (cX id u) u (n:Int) (λ_ h=>h))),(11,.m (ld 0 (pt r 0))),(12,.c [1] [1] (lE q D I F H C J B r z G c y)),(14,.m (al 6)),(15,.s 6)]) (λM=>[(5,pt ((M 14).y 0) 0)]) [] (λM L=>L++[ob ((M 14).y 0) (([i6 1,iN n]:List Value)++rB 64 d++([u6 (m:Int),i6 a,i6 b,i6 e,i6 f,i6 i,i6 j,i6 o,i6 p,i6 0,i6 0]:List Value)++rB 64 z6++rB 64 (id (n:Int))++([iN y.V.l.length,i6 0]:List Value)).toArray 149]) λM=>r0 [(1,.l 4)] [(21,i6 1)] [] (rT [] 35 (rr (λ_=>[(3,.m (ld 0 (pt q 0))),(5,.m (ld 4 (iN n))),(6,.c [1] [1] (UI q D I F H C J B r z G c y _ _ h hA O n R)),(12,.s 6),(15,.s 6)]) N0 [] (λ_ L=>(L.set 1 ((pk (aV q D I F H C J B r z G c (cI c y n c.X))))).set 6 (ob ((M 14).y 0) (([i6 1,iN n]:List Value)++rB 64 d++([u6 (m:Int),i6 a,i6 b,i6 e,i6 f,i6 i,i6 j,i6 o,i6 p,i6 (cp (bK c y (a2 y n))),i6 0]:List Value)++rB 64 (cU c y (a2 y n))++rB 64 (id (n:Int))++([iN y.V.l.length,i6 0]:List Value)).toArray 149)) λU=>rF [(2,.l 6),(3,.t (tk (show Value.bool ((cp (bK c y (a2 y n)))==30)= .bool false from ALca Value.bool (by exact dz.2 (Hb _)))))] 68 (rF [(1,.l 4)] 73 (rs [(3,.l 0),(4,.c [1] [1] (lE q D I F H C J B r z G c (cI c y n c.X))),(6,.s 6)] 6 (ob ((M 14).y 0) (([i6 1,iN n]:List Value)++rB 64 d++([u6 (m:Int),i6 a,i6 b,i6 e,i6 f,i6 i,i6 j,i6 o,i6 p,i6 (cp (bK c y (a2 y n))),i6 0]:List Value)++rB 64 (cU c y (a2 y n))++rB 64 (id (n:Int))++([iN y.V.l.length,i6 (((cI c y n c.X).V.l.length:Nat):Int)]:List Value)).toArray 149) (rr (λv=>[(4,.l 0),(5,.l 6),(6,.m (bs 7 1)),(7,e7 Ax (vs) sv 3 7 ([(⟨1,(n:Int),d,m,a,b,e,f,i,j,o,p,(cp (bK c y (a2 y n))),0,cU c y (a2 y n),(id (n:Int)),y.V.l.length,(cI c y n c.X).V.l.length⟩:Sv)])),(10,.m (fv 0 3 (dh ((v 7).val 0) (sv++([(⟨1,(n:Int),d,m,a,b,e,f,i,j,o,p,(cp (bK c y (a2 y n))),0,cU c y (a2 y n),(id (n:Int)),y.V.l.length,(cI c y n c.X).V.l.length⟩:Sv)]))) ((v 7).val 0) λbs h=>ar.one ((λ_ h=>h) bs h)))]) N0 [] (λv L=>(L.set 0 (ob g #[pt r 0,pt q 0,.map (some u),N,(v 7).val 0,iN sc,iN st] 114)).set 3 (dh ((v 7).val 0) (sv++([(⟨1,(n:Int),d,m,a,b,e,f,i,j,o,p,(cp (bK c y (a2 y n))),0,cU c y (a2 y n),(id (n:Int)),y.V.l.length,(cI c y n c.X).V.l.length⟩:Sv)])))++[ob (B6 v) (([i6 1,iN n]:List Value)++rB 64 d++([u6 (m:Int),i6 a,i6 b,i6 e,i6 f,i6 i,i6 j,i6 o,i6 p,i6 (cp (bK c y (a2 y n))),i6 0]:List Value)++rB 64 (cU c y (a2 y n))++rB 64 (id (n:Int))++([iN y.V.l.length,i6 (((cI c y n c.X).V.l.length:Nat):Int)]:List Value)).toArray 149]) λv=>rs [(1,.l 6),(2,.s 5)] 5 (ob (B1 x) (([i6 (cp (bK c y (a2 y n))),i6 0]:List Value)++rB 64 (cU c y (a2 y n))).toArray 53) (lf (.l [] [] [(v 7).val 0]) [0,1,2,3] [] [5]))))))
theorem VA(g a C H D G B I z b x F:Nat)(c:Cf)(y:Ct)(K A:Nat)(h:bu c y K A)(hA:A≤700000)(Q:K+3≤1000000000)(n:Int)(O:bQ n ((((c.R*c.B*c.M-c.res)*c.C):Nat):Int)=false)(d:List UInt8)(R:d.length=64)(m:Nat)(i j o p q r t u:Int)(id:Int→List UInt8)(N: ∀k,(id k).length=64)(sv:List Sv)(P:sv.length≤1000)(sc st e:Nat)(J vs:Value):aa gh 54 #[pt g 0,.agg (sV 1 n d m i j o p q r t u)] [ob g #[pt b 0,pt a 0,.map (some e),J,vs,iN sc,iN st] 114,pk (aV a C H D G B I z b x F c y),cX id e,dh vs sv] [0,1,2,3] (λ_=>[ob g #[pt b 0,pt a 0,.map (some e),J,vs,iN sc,iN st] 114,pk (aV a C H D G B I z b x F c y),cX id e,dh vs sv]) (λ_=> .agg (([i6 30,i6 0]:List Value)++rB 64 z6).toArray):=by
 have M:=h.cf;exact fG Tryz.func54 λw cs=>ra (λf=>[(3,pt (B0 f) 0),(4,pt (B1 f) 0)]) (λf=>[ob (B0 f) (sV 1 n d m i j o p q r t u) 50,ob (B1 f) (([i6 0,i6 0]:List Value)++rB 64 z6).toArray 53]) λf=>rr (λ_=>[(0,.m (ls 4 (sL 1 n d m i j o p q r t u))),(4,.m (ld 0 (.map (some e)))),(6,.m (ld 4 (i6 n))),(7,.m (mg 2 (cX id e) e n (λ_ h=>h))),(11,.m (ld 0 (pt b 0))),(12,.c [1] [1] (lE a C H D G B I z b x F c y)),(14,.m (al 6)),(15,.s 6)]) (λv=>[(5,pt ((v 14).y 0) 0)]) [] (λv L=>L++[ob ((v 14).y 0) (([i6 1,i6 n]:List Value)++rB 64 d++([u6 (m:Int),i6 i,i6 j,i6 o,i6 p,i6 q,i6 r,i6 t,i6 u,i6 0,i6 0]:List Value)++rB 64 z6++rB 64 (id n)++([iN y.V.l.length,i6 0]:List Value)).toArray 149]) λv=>r0 [(1,.l 4)] [(21,i6 1)] [] (rT [] 35 (rs [(3,.m (ld 0 (pt a 0))),(5,.m (ld 4 (i6 n))),(6,.c [1] [1] (UK a C H D G B I z b x F c y _ _ h n O)),(12,.s 6),(15,.s 6)] 6 (ob ((v 14).y 0) (([i6 1,i6 n]:List Value)++rB 64 d++([u6 (m:Int),i6 i,i6 j,i6 o,i6 p,i6 q,i6 r,i6 t,i6 u,i6 30,i6 0]:List Value)++rB 64 z6++rB 64 (id n)++([iN y.V.l.length,i6 0]:List Value)).toArray 149) (rT [(2,.l 6)] 68 (rs [(1,.l 6),(2,.s 5)] 5 (ob (B1 f) (([i6 30,i6 0]:List Value)++rB 64 z6).toArray 53) (lf ab.zero [0,1,2,3] [] [5])))))
theorem VB(g r D I F H B J z u x G:Nat)(c:Cf)(y:Ct)(K A:Nat)(h:bu c y K A)(hA:A≤700000)(U:K+3≤1000000000)(n:Int)(S:bQ n ((((c.R*c.B*c.M-c.res)*c.C):Nat):Int)=false)(d:List UInt8)(O:d.length=64)(m:Nat)(b e f i j o p q:Int)(id:Int→List UInt8)(R: ∀k,(id k).length=64)(sv:List Sv)(T:sv.length≤1000)(sc st v:Nat)(P vs:Value):aa gh 54 #[pt g 0,.agg (sV 2 n d m b e f i j o p q)] [ob g #[pt u 0,pt r 0,.map (some v),P,vs,iN sc,iN st] 114,pk (aV r D I F H B J z u x G c y),cX id v,dh vs sv] [0,1,2,3] (λ_=>[ob g #[pt u 0,pt r 0,.map (some v),P,vs,iN sc,iN st] 114,pk (aV r D I F H B J z u x G c y),cX id v,dh vs sv]) (λ_=> .agg (([i6 30,i6 0]:List Value)++rB 64 z6).toArray):=by
 have Q:=h.cf;exact fG Tryz.func54 λw cs=>ra (λa=>[(3,pt (B0 a) 0),(4,pt (B1 a) 0)]) (λa=>[ob (B0 a) (sV 2 n d m b e f i j o p q) 50,ob (B1 a) (([i6 0,i6 0]:List Value)++rB 64 z6).toArray 53]) λa=>rr (λ_=>[(0,.m (ls 4 (sL 2 n d m b e f i j o p q))),(4,.m (ld 0 (.map (some v)))),(6,.m (ld 4 (i6 n))),(7,.m (mg 2 (cX id v) v n (λ_ h=>h))),(11,.m (ld 0 (pt u 0))),(12,.c [1] [1] (lE r D I F H B J z u x G c y)),(14,.m (al 6)),(15,.s 6)]) (λM=>[(5,pt ((M 14).y 0) 0)]) [] (λM L=>L++[ob ((M 14).y 0) (([i6 2,i6 n]:List Value)++rB 64 d++([u6 (m:Int),i6 b,i6 e,i6 f,i6 i,i6 j,i6 o,i6 p,i6 q,i6 0,i6 0]:List Value)++rB 64 z6++rB 64 (id n)++([iN y.V.l.length,i6 0]:List Value)).toArray 149]) λM=>r0 [(1,.l 4)] [(21,i6 2)] [] (rF [] 35 (rT [] 51 (rs [(1,.s 4)] 4 (ob (B0 a) (sV 2 n d 18446744073709551615 b e f i j o p q) 50) (rs [(3,.m (ld 0 (pt r 0))),(5,.m (ld 4 (i6 n))),(7,.t (tv (Instr.sliceAt 43 (pt (B0 a) 2) none none none) (λ_=>s4 (s:=1) (N:=64) Kr Dc))),(8,.c [1,4] [1] (aa.at (rd':=[pk (aV r D I F H B J z u x G c y),ob (B0 a) (sV 2 n d 18446744073709551615 b e f i j o p q) 50]) (UO r D I F H B J z u x G c y _ _ h n S (.slice (some ⟨(a 0).y 0,2,none⟩) 64 64) d (by(simp only[LL,O,O];done))) (atS (ei (s0 (d:=0) (A:=([i6 2,i6 n]:List Value)) (C:=([u6 18446744073709551615,i6 b,i6 e,i6 f,i6 i,i6 j,i6 o,i6 p,i6 q]:List Value)) (λ_=>rfl) rfl O) (λ_ h=>h))))),(11,.s 6)] 6 (ob ((M 14).y 0) (([i6 2,i6 n]:List Value)++rB 64 d++([u6 (m:Int),i6 b,i6 e,i6 f,i6 i,i6 j,i6 o,i6 p,i6 q,i6 30,i6 0]:List Value)++rB 64 z6++rB 64 (id n)++([iN y.V.l.length,i6 0]:List Value)).toArray 149) (rT [(2,.l 6)] 68 (rs [(1,.l 6),(2,.s 5)] 5 (ob (B1 a) (([i6 30,i6 0]:List Value)++rB 64 z6).toArray 53) (lf ab.zero [0,1,2,3] [] [5])))))))
theorem VC(g b D I F H B J z e x G:Nat)(c:Cf)(y:Ct)(K A:Nat)(h:bu c y K A)(hA:A≤700000)(U:K+3≤1000000000)(n:Int)(S:bQ n ((((c.R*c.B*c.M-c.res)*c.C):Nat):Int)=false)(d:List UInt8)(O:d.length=64)(m:Nat)(f i j o p q r u:Int)(id:Int→List UInt8)(R: ∀k,(id k).length=64)(sv:List Sv)(T:sv.length≤1000)(sc st v:Nat)(P vs:Value):aa gh 54 #[pt g 0,.agg (sV 3 n d m f i j o p q r u)] [ob g #[pt e 0,pt b 0,.map (some v),P,vs,iN sc,iN st] 114,pk (aV b D I F H B J z e x G c y),cX id v,dh vs sv] [0,1,2,3] (λ_=>[ob g #[pt e 0,pt b 0,.map (some v),P,vs,iN sc,iN st] 114,pk (aV b D I F H B J z e x G c y),cX id v,dh vs sv]) (λ_=> .agg (([i6 30,i6 0]:List Value)++rB 64 z6).toArray):=by
 have Q:=h.cf;exact fG Tryz.func54 λw cs=>ra (λa=>[(3,pt (B0 a) 0),(4,pt (B1 a) 0)]) (λa=>[ob (B0 a) (sV 3 n d m f i j o p q r u) 50,ob (B1 a) (([i6 0,i6 0]:List Value)++rB 64 z6).toArray 53]) λa=>rr (λ_=>[(0,.m (ls 4 (sL 3 n d m f i j o p q r u))),(4,.m (ld 0 (.map (some v)))),(6,.m (ld 4 (i6 n))),(7,.m (mg 2 (cX id v) v n (λ_ h=>h))),(11,.m (ld 0 (pt e 0))),(12,.c [1] [1] (lE b D I F H B J z e x G c y)),(14,.m (al 6)),(15,.s 6)]) (λM=>[(5,pt ((M 14).y 0) 0)]) [] (λM L=>L++[ob ((M 14).y 0) (([i6 3,i6 n]:List Value)++rB 64 d++([u6 (m:Int),i6 f,i6 i,i6 j,i6 o,i6 p,i6 q,i6 r,i6 u,i6 0,i6 0]:List Value)++rB 64 z6++rB 64 (id n)++([iN y.V.l.length,i6 0]:List Value)).toArray 149]) λM=>r0 [(1,.l 4)] [(21,i6 3)] [] (rF [] 35 (rF [] 51 (rs [(3,.m (ld 0 (pt b 0))),(5,.m (ld 4 (i6 n))),(7,.t (tv (Instr.sliceAt 43 (pt (B0 a) 2) none none none) (λ_=>s4 (s:=1) (N:=64) Kr Dc))),(9,.m (ld 4 (u6 (m:Int)))),(10,.c [1,4] [1] (aa.at (rd':=[pk (aV b D I F H B J z e x G c y),ob (B0 a) (sV 3 n d m f i j o p q r u) 50]) (UN b D I F H B J z e x G c y _ _ h n S (.slice (some ⟨(a 0).y 0,2,none⟩) 64 64) d (by(simp only[LL,O,O];done)) m) (atS (ei (s0 (d:=0) (A:=([i6 3,i6 n]:List Value)) (C:=([u6 (m:Int),i6 f,i6 i,i6 j,i6 o,i6 p,i6 q,i6 r,i6 u]:List Value)) (λ_=>rfl) rfl O) (λ_ h=>h))))),(13,.s 6)] 6 (ob ((M 14).y 0) (([i6 3,i6 n]:List Value)++rB 64 d++([u6 (m:Int),i6 f,i6 i,i6 j,i6 o,i6 p,i6 q,i6 r,i6 u,i6 30,i6 0]:List Value)++rB 64 z6++rB 64 (id n)++([iN y.V.l.length,i6 0]:List Value)).toArray 149) (rT [(2,.l 6)] 68 (rs [(1,.l 6),(2,.s 5)] 5 (ob (B1 a) (([i6 30,i6 0]:List Value)++rB 64 z6).toArray 53) (lf ab.zero [0,1,2,3] [] [5]))))))
theorem VD(g r F J G I D M B u z H:Nat)(c:Cf)(y:Ct)(K A:Nat)(h:bu c y K A)(hA:A≤700000)(T:K+3≤1000000000)(n:Nat)(W:n<((c.R*c.B*c.M-c.res)*c.C))(d:List UInt8)(O:d.length=64)(m:Nat)(b e f i j o p q:Int)(id:Int→List UInt8)(R: ∀k,(id k).length=64)(sv:List Sv)(X:sv.length≤1000)(sc st v:Nat)(S vs:Value):aa gh 54 #[pt g 0,.agg (sV 2 (n:Int) d m b e f i j o p q)] [ob g #[pt u 0,pt r 0,.map (some v),S,vs,iN sc,iN st] 114,pk (aV r F J G I D M B u z H c y),cX id v,dh vs sv] [0,1,2,3] (λE=>[ob g #[pt u 0,pt r 0,.map (some v),S,(E.val 0),iN sc,iN st] 114,pk (aV r F J G I D M B u z H c (bG c y n d 18446744073709551615)),cX (du id (n:Int) (iM (id (n:Int)) d 18446744073709551615)) v,dh (E.val 0) (sv++([(⟨2,(n:Int),d,m,b,e,f,i,j,o,p,q,(cv c y n 18446744073709551615),0,mz 64 0,(id (n:Int)),y.V.l.length,(bG c y n d 18446744073709551615).V.l.length⟩:Sv)]))]) (λ_=> .agg (([i6 (cv c y n 18446744073709551615),i6 0]:List Value)++rB 64 z6).toArray):=by
 have U:=h.cf;have P:=R (n:Int);refine fG Tryz.func54 λw cs=>ra (λx=>[(3,pt (B0 x) 0),(4,pt (B1 x) 0)]) (λx=>[ob (B0 x) (sV 2 (n:Int) d m b e f i j o p q) 50,ob (B1 x) (([i6 0,i6 0]:List Value)++rB 64 z6).toArray 53]) λx=>rr (λ_=>[(0,.m (ls 4 (sL 2 (n:Int) d m b e f i j o p q))),(4,.m (ld 0 (.map (some v)))),(6,.m (ld 4 (iN n))),(7,.m (mg 2 (cX id v) v (n:Int) (λ_ h=>h))),(11,.m (ld 0 (pt u 0))),(12,.c [1] [1] (lE r F J G I D M B u z H c y)),(14,.m (al 6)),(15,.s 6)]) (λQ=>[(5,pt ((Q 14).y 0) 0)]) [] (λQ L=>L++[ob ((Q 14).y 0) (([i6 2,iN n]:List Value)++rB 64 d++([u6 (m:Int),i6 b,i6 e,i6 f,i6 i,i6 j,i6 o,i6 p,i6 q,i6 0,i6 0]:List Value)++rB 64 z6++rB 64 (id (n:Int))++([iN y.V.l.length,i6 0]:List Value)).toArray 149]) λQ=>r0 [(1,.l 4)] [(21,i6 2)] [] (rF [] 35 (rT [] 51 (rs [(1,.s 4)] 4 (ob (B0 x) (sV 2 (n:Int) d 18446744073709551615 b e f i j o p q) 50) (rr (λ_=>[(3,.m (ld 0 (pt r 0))),(5,.m (ld 4 (iN n))),(7,.t (tv (Instr.sliceAt 43 (pt (B0 x) 2) none none none) (λ_=>s4 (s:=1) (N:=64) Kr Dc))),(8,.c [1,4] [1] (aa.at (rd':=[pk (aV r F J G I D M B u z H c y),ob (B0 x) (sV 2 (n:Int) d 18446744073709551615 b e f i j o p q) 50]) (UM r F J G I D M B u z H c y _ _ h hA T n W (.slice (some ⟨(x 0).y 0,2,none⟩) 64 64) d (by(simp only[LL,O,P,O];done))) (atS (ei (s0 (d:=0) (A:=([i6 2,iN n]:List Value)) (C:=([u6 18446744073709551615,i6 b,i6 e,i6 f,i6 i,i6 j,i6 o,i6 p,i6 q]:List Value)) (λ_=>rfl) rfl O) (λ_ h=>h))))),(11,.s 6)]) N0 [] (λ_ L=>(L.set 1 ((pk (aV r F J G I D M B u z H c (bG c y n d 18446744073709551615))))).set 6 (ob ((Q 14).y 0) (([i6 2,iN n]:List Value)++rB 64 d++([u6 (m:Int),i6 b,i6 e,i6 f,i6 i,i6 j,i6 o,i6 p,i6 q,i6 (cv c y n 18446744073709551615),i6 0]:List Value)++rB 64 z6++rB 64 (id (n:Int))++([iN y.V.l.length,i6 0]:List Value)).toArray 149)) λY=>rF [(2,.l 6),(3,.t (tk (show Value.bool ((cv c y n 18446744073709551615)==30)= .bool false from ALca Value.bool (by exact dz.2 (Hc _ _ _ _ Dc)))))] 68 (rT [(1,.l 4)] 73 (rs [(3,.m (ld 0 (.map (some v)))),(5,.m (ld 4 (iN n))),(7,.m (ls 6 (rB 64 (id (n:Int))))),(9,.m (ls 4 (rB 64 d))),(11,.m (ld 4 (u6 18446744073709551615))),(12,.c [] [] (At (id (n:Int)) d 18446744073709551615 (by(simp only[LL,O,P,O];done)) (by(simp only[LL,O,P,O];done)) Om)),(13,.m (mu 2 v (n:Int) wG pv id (iM (id (n:Int)) d 18446744073709551615)))] 2 (cX (du id (n:Int) (iM (id (n:Int)) d 18446744073709551615)) v) (rs [(3,.l 0),(4,.c [1] [1] (lE r F J G I D M B u z H c (bG c y n d 18446744073709551615))),(6,.s 6)] 6 (ob ((Q 14).y 0) (([i6 2,iN n]:List Value)++rB 64 d++([u6 (m:Int),i6 b,i6 e,i6 f,i6 i,i6 j,i6 o,i6 p,i6 q,i6 (cv c y n 18446744073709551615),i6 0]:List Value)++rB 64 z6++rB 64 (id (n:Int))++([iN y.V.l.length,i6 (((bG c y n d 18446744073709551615).V.l.length:Nat):Int)]:List Value)).toArray 149) ?_)))))));exact rr (λa=>[(4,.l 0),(5,.l 6),(6,.m (bs 7 1)),(7,e7 Ax (vs) sv 3 7 ([(⟨2,(n:Int),d,m,b,e,f,i,j,o,p,q,(cv c y n 18446744073709551615),0,mz 64 0,(id (n:Int)),y.V.l.length,(bG c y n d 18446744073709551615).V.l.length⟩:Sv)])),(10,.m (fv 0 3 (dh ((a 7).val 0) (sv++([(⟨2,(n:Int),d,m,b,e,f,i,j,o,p,q,(cv c y n 18446744073709551615),0,mz 64 0,(id (n:Int)),y.V.l.length,(bG c y n d 18446744073709551615).V.l.length⟩:Sv)]))) ((a 7).val 0) λbs h=>ar.one ((λ_ h=>h) bs h)))]) N0 [] (λa L=>(L.set 0 (ob g #[pt u 0,pt r 0,.map (some v),S,(a 7).val 0,iN sc,iN st] 114)).set 3 (dh ((a 7).val 0) (sv++([(⟨2,(n:Int),d,m,b,e,f,i,j,o,p,q,(cv c y n 18446744073709551615),0,mz 64 0,(id (n:Int)),y.V.l.length,(bG c y n d 18446744073709551615).V.l.length⟩:Sv)])))++[ob (B6 a) (([i6 2,iN n]:List Value)++rB 64 d++([u6 (m:Int),i6 b,i6 e,i6 f,i6 i,i6 j,i6 o,i6 p,i6 q,i6 (cv c y n 18446744073709551615),i6 0]:List Value)++rB 64 z6++rB 64 (id (n:Int))++([iN y.V.l.length,i6 (((bG c y n d 18446744073709551615).V.l.length:Nat):Int)]:List Value)).toArray 149]) λa=>rs [(1,.l 6),(2,.s 5)] 5 (ob (B1 x) (([i6 (cv c y n 18446744073709551615),i6 0]:List Value)++rB 64 z6).toArray 53) (lf (.l [] [] [(a 7).val 0]) [0,1,2,3] [] [5])
theorem VE(g r F J G I D M B u z H:Nat)(c:Cf)(y:Ct)(K A:Nat)(h:bu c y K A)(hA:A≤700000)(W:K+3≤1000000000)(n:Nat)(Y:n<((c.R*c.B*c.M-c.res)*c.C))(d:List UInt8)(O:d.length=64)(m:Nat)(b e f i j o p q:Int)(R:m<18446744073709551616)(T:m≠0)(id:Int→List UInt8)(S: ∀k,(id k).length=64)(sv:List Sv)(Z:sv.length≤1000)(sc st v:Nat)(U vs:Value):aa gh 54 #[pt g 0,.agg (sV 3 (n:Int) d m b e f i j o p q)] [ob g #[pt u 0,pt r 0,.map (some v),U,vs,iN sc,iN st] 114,pk (aV r F J G I D M B u z H c y),cX id v,dh vs sv] [0,1,2,3] (λE=>[ob g #[pt u 0,pt r 0,.map (some v),U,(E.val 0),iN sc,iN st] 114,pk (aV r F J G I D M B u z H c (bG c y n d m)),cX (du id (n:Int) (iM (id (n:Int)) d m)) v,dh (E.val 0) (sv++([(⟨3,(n:Int),d,m,b,e,f,i,j,o,p,q,(cv c y n m),0,mz 64 0,(id (n:Int)),y.V.l.length,(bG c y n d m).V.l.length⟩:Sv)]))]) (λ_=> .agg (([i6 (cv c y n m),i6 0]:List Value)++rB 64 z6).toArray):=by
 have X:=h.cf;have P:=S (n:Int);refine fG Tryz.func54 λw cs=>ra (λx=>[(3,pt (B0 x) 0),(4,pt (B1 x) 0)]) (λx=>[ob (B0 x) (sV 3 (n:Int) d m b e f i j o p q) 50,ob (B1 x) (([i6 0,i6 0]:List Value)++rB 64 z6).toArray 53]) λx=>rr (λ_=>[(0,.m (ls 4 (sL 3 (n:Int) d m b e f i j o p q))),(4,.m (ld 0 (.map (some v)))),(6,.m (ld 4 (iN n))),(7,.m (mg 2 (cX id v) v (n:Int) (λ_ h=>h))),(11,.m (ld 0 (pt u 0))),(12,.c [1] [1] (lE r F J G I D M B u z H c y)),(14,.m (al 6)),(15,.s 6)]) (λQ=>[(5,pt ((Q 14).y 0) 0)]) [] (λQ L=>L++[ob ((Q 14).y 0) (([i6 3,iN n]:List Value)++rB 64 d++([u6 (m:Int),i6 b,i6 e,i6 f,i6 i,i6 j,i6 o,i6 p,i6 q,i6 0,i6 0]:List Value)++rB 64 z6++rB 64 (id (n:Int))++([iN y.V.l.length,i6 0]:List Value)).toArray 149]) λQ=>r0 [(1,.l 4)] [(21,i6 3)] [] (rF [] 35 (rF [] 51 (rr (λ_=>[(3,.m (ld 0 (pt r 0))),(5,.m (ld 4 (iN n))),(7,.t (tv (Instr.sliceAt 43 (pt (B0 x) 2) none none none) (λ_=>s4 (s:=1) (N:=64) Kr Dc))),(9,.m (ld 4 (u6 (m:Int)))),(10,.c [1,4] [1] (aa.at (rd':=[pk (aV r F J G I D M B u z H c y),ob (B0 x) (sV 3 (n:Int) d m b e f i j o p q) 50]) (GZ r F J G I D M B u z H c y _ _ h hA W n Y (.slice (some ⟨(x 0).y 0,2,none⟩) 64 64) d (by(simp only[LL,O,P,O];done)) m R) (atS (ei (s0 (d:=0) (A:=([i6 3,iN n]:List Value)) (C:=([u6 (m:Int),i6 b,i6 e,i6 f,i6 i,i6 j,i6 o,i6 p,i6 q]:List Value)) (λ_=>rfl) rfl O) (λ_ h=>h))))),(13,.s 6)]) N0 [] (λ_ L=>(L.set 1 ((pk (aV r F J G I D M B u z H c (bG c y n d m))))).set 6 (ob ((Q 14).y 0) (([i6 3,iN n]:List Value)++rB 64 d++([u6 (m:Int),i6 b,i6 e,i6 f,i6 i,i6 j,i6 o,i6 p,i6 q,i6 (cv c y n m),i6 0]:List Value)++rB 64 z6++rB 64 (id (n:Int))++([iN y.V.l.length,i6 0]:List Value)).toArray 149)) λq6=>rF [(2,.l 6),(3,.t (tk (show Value.bool ((cv c y n m)==30)= .bool false from ALca Value.bool (by exact dz.2 (Hc _ _ _ _ T)))))] 68 (rT [(1,.l 4)] 73 (rs [(3,.m (ld 0 (.map (some v)))),(5,.m (ld 4 (iN n))),(7,.m (ls 6 (rB 64 (id (n:Int))))),(9,.m (ls 4 (rB 64 d))),(11,.m (ld 4 (u6 (m:Int)))),(12,.c [] [] (At (id (n:Int)) d m (by(simp only[LL,O,P,O];done)) (by(simp only[LL,O,P,O];done)) R)),(13,.m (mu 2 v (n:Int) wG pv id (iM (id (n:Int)) d m)))] 2 (cX (du id (n:Int) (iM (id (n:Int)) d m)) v) (rs [(3,.l 0),(4,.c [1] [1] (lE r F J G I D M B u z H c (bG c y n d m))),(6,.s 6)] 6 (ob ((Q 14).y 0) (([i6 3,iN n]:List Value)++rB 64 d++([u6 (m:Int),i6 b,i6 e,i6 f,i6 i,i6 j,i6 o,i6 p,i6 q,i6 (cv c y n m),i6 0]:List Value)++rB 64 z6++rB 64 (id (n:Int))++([iN y.V.l.length,i6 (((bG c y n d m).V.l.length:Nat):Int)]:List Value)).toArray 149) (rr (λa=>[(4,.l 0),(5,.l 6),(6,.m (bs 7 1)),(7,e7 Ax (vs) sv 3 7 ([(⟨3,(n:Int),d,m,b,e,f,i,j,o,p,q,(cv c y n m),0,mz 64 0,(id (n:Int)),y.V.l.length,(bG c y n d m).V.l.length⟩:Sv)])),(10,.m (fv 0 3 (dh ((a 7).val 0) (sv++([(⟨3,(n:Int),d,m,b,e,f,i,j,o,p,q,(cv c y n m),0,mz 64 0,(id (n:Int)),y.V.l.length,(bG c y n d m).V.l.length⟩:Sv)]))) ((a 7).val 0) λbs h=>ar.one ((λ_ h=>h) bs h)))]) N0 [] (λa L=>(L.set 0 (ob g #[pt u 0,pt r 0,.map (some v),U,(a 7).val 0,iN sc,iN st] 114)).set 3 (dh ((a 7).val 0) (sv++([(⟨3,(n:Int),d,m,b,e,f,i,j,o,p,q,(cv c y n m),0,mz 64 0,(id (n:Int)),y.V.l.length,(bG c y n d m).V.l.length⟩:Sv)])))++[ob (B6 a) (([i6 3,iN n]:List Value)++rB 64 d++([u6 (m:Int),i6 b,i6 e,i6 f,i6 i,i6 j,i6 o,i6 p,i6 q,i6 (cv c y n m),i6 0]:List Value)++rB 64 z6++rB 64 (id (n:Int))++([iN y.V.l.length,i6 (((bG c y n d m).V.l.length:Nat):Int)]:List Value)).toArray 149]) λa=>?_)))))));exact rs [(1,.l 6),(2,.s 5)] 5 (ob (B1 x) (([i6 (cv c y n m),i6 0]:List Value)++rB 64 z6).toArray 53) (lf (.l [] [] [(a 7).val 0]) [0,1,2,3] [] [5])
def Hf(c:Cf)(x:Mc)(n:Nat)(d:List UInt8):Mc:={x with x:=bG c x.x n d 0}
theorem VF(g b D I F H B J z e x G:Nat)(c:Cf)(y:Ct)(K A:Nat)(h:bu c y K A)(hA:A≤700000)(Q:K+3≤1000000000)(n:Nat)(T:n<((c.R*c.B*c.M-c.res)*c.C))(d:List UInt8)(O:d.length=64)(f i j o p q r u:Int)(id:Int→List UInt8)(S: ∀k,(id k).length=64)(sv:List Sv)(U:sv.length≤1000)(sc st v:Nat)(P vs:Value):aa gh 54 #[pt g 0,.agg (sV 3 (n:Int) d 0 f i j o p q r u)] [ob g #[pt e 0,pt b 0,.map (some v),P,vs,iN sc,iN st] 114,pk (aV b D I F H B J z e x G c y),cX id v,dh vs sv] [0,1,2,3] (λ_=>[ob g #[pt e 0,pt b 0,.map (some v),P,vs,iN sc,iN st] 114,pk (aV b D I F H B J z e x G c (bG c y n d 0)),cX id v,dh vs sv]) (λ_=> .agg (([i6 (cv c y n 0),i6 0]:List Value)++rB 64 z6).toArray):=by
 have R:=h.cf;exact fG Tryz.func54 λw cs=>ra (λa=>[(3,pt (B0 a) 0),(4,pt (B1 a) 0)]) (λa=>[ob (B0 a) (sV 3 (n:Int) d 0 f i j o p q r u) 50,ob (B1 a) (([i6 0,i6 0]:List Value)++rB 64 z6).toArray 53]) λa=>rr (λ_=>[(0,.m (ls 4 (sL 3 (n:Int) d 0 f i j o p q r u))),(4,.m (ld 0 (.map (some v)))),(6,.m (ld 4 (iN n))),(7,.m (mg 2 (cX id v) v (n:Int) (λ_ h=>h))),(11,.m (ld 0 (pt e 0))),(12,.c [1] [1] (lE b D I F H B J z e x G c y)),(14,.m (al 6)),(15,.s 6)]) (λM=>[(5,pt ((M 14).y 0) 0)]) [] (λM L=>L++[ob ((M 14).y 0) (([i6 3,iN n]:List Value)++rB 64 d++([u6 0,i6 f,i6 i,i6 j,i6 o,i6 p,i6 q,i6 r,i6 u,i6 0,i6 0]:List Value)++rB 64 z6++rB 64 (id (n:Int))++([iN y.V.l.length,i6 0]:List Value)).toArray 149]) λM=>r0 [(1,.l 4)] [(21,i6 3)] [] (rF [] 35 (rF [] 51 (rr (λ_=>[(3,.m (ld 0 (pt b 0))),(5,.m (ld 4 (iN n))),(7,.t (tv (Instr.sliceAt 43 (pt (B0 a) 2) none none none) (λ_=>s4 (s:=1) (N:=64) Kr Dc))),(9,.m (ld 4 (u6 0))),(10,.c [1,4] [1] (aa.at (rd':=[pk (aV b D I F H B J z e x G c y),ob (B0 a) (sV 3 (n:Int) d 0 f i j o p q r u) 50]) (GZ b D I F H B J z e x G c y _ _ h hA Q n T (.slice (some ⟨(a 0).y 0,2,none⟩) 64 64) d (by(simp only[LL,O,O];done)) 0 Om) (atS (ei (s0 (d:=0) (A:=([i6 3,iN n]:List Value)) (C:=([u6 0,i6 f,i6 i,i6 j,i6 o,i6 p,i6 q,i6 r,i6 u]:List Value)) (λ_=>rfl) rfl O) (λ_ h=>h))))),(13,.s 6)]) N0 [] (λ_ L=>(L.set 1 ((pk (aV b D I F H B J z e x G c (bG c y n d 0))))).set 6 (ob ((M 14).y 0) (([i6 3,iN n]:List Value)++rB 64 d++([u6 0,i6 f,i6 i,i6 j,i6 o,i6 p,i6 q,i6 r,i6 u,i6 (cv c y n 0),i6 0]:List Value)++rB 64 z6++rB 64 (id (n:Int))++([iN y.V.l.length,i6 0]:List Value)).toArray 149)) λV=>rT [(2,.l 6),(3,.t (tk (show Value.bool ((cv c y n 0)==30)= .bool true from ALca Value.bool (by exact beq_iff_eq.2 rfl))))] 68 (rs [(1,.l 6),(2,.s 5)] 5 (ob (B1 a) (([i6 (cv c y n 0),i6 0]:List Value)++rB 64 z6).toArray 53) (lf ab.zero [0,1,2,3] [] [5])))))
def nz(c:Cf)(y:Ct)(f:Fa)(inj:List Ij)(sc:Nat):List Ij:=bif gV c y.V.D f==0 then inj++[⟨f.x0,f.x1,f.x2,f.x3,f.x4,f.x5,f.x6,f.x7,sc,y.V.l.length⟩] else inj
theorem VG(g o x D z C u F t n r B:Nat)(c:Cf)(y:Ct)(K A:Nat)(h:bu c y K A)(hA:A≤700000)(a b d e f i j k:Int)(inj:List Ij)(P:inj.length≤1000)(sc st J:Nat)(H vs:Value):aa gh 53 #[pt g 0,.agg #[i6 a,i6 b,i6 d,i6 e,i6 f,i6 i,i6 j,i6 k]] [ob g #[pt n 0,pt o 0,.map (some J),H,vs,iN sc,iN st] 114,pk (aV o x D z C u F t n r B c y),gb H inj] [0,1,2] (λE=>[ob g #[pt n 0,pt o 0,.map (some J),(E.val 0),vs,iN sc,iN st] 114,pk (aV o x D z C u F t n r B c ({y with V:=nv c y.V ⟨a,b,d,e,f,i,j,k⟩}:Ct)),gb (E.val 0) (nz c y (⟨a,b,d,e,f,i,j,k⟩:Fa) inj sc)]) (λ_=> .agg (([i6 (gV c y.V.D ⟨a,b,d,e,f,i,j,k⟩),i6 0]:List Value)++rB 64 z6).toArray):=by
 have N:=h.cf;have O:=h.dv Om;refine fG Tryz.func53 λw cs=>ra (λp=>[(3,pt (B0 p) 0),(4,pt (B1 p) 0)]) (λp=>[ob (B0 p) #[i6 a,i6 b,i6 d,i6 e,i6 f,i6 i,i6 j,i6 k] 48,ob (B1 p) (([i6 0,i6 0]:List Value)++rB 64 z6).toArray 53]) λp=>rr (λ_=>[(0,.m (ls 3 ([i6 a,i6 b,i6 d,i6 e,i6 f,i6 i,i6 j,i6 k]))),(1,.v (pt g 0)),(2,.v (pt g 0)),(3,.v (pt g 5)),(4,.m (ld 0 (iN sc))),(5,.v (pt g 0)),(6,.v (pt g 0)),(7,.v (pt g 0)),(8,.m (ld 0 (pt n 0))),(9,.c [1] [1] (lE o x D z C u F t n r B c y)),(10,.v (.agg #[i6 a,i6 b,i6 d,i6 e,i6 f,i6 i,i6 j,i6 k,iN sc,iN y.V.l.length])),(11,.m (al 5)),(12,.s 5)]) (λG=>[(5,pt ((G 11).y 0) 0)]) [] (λG L=>L++[ob ((G 11).y 0) #[i6 a,i6 b,i6 d,i6 e,i6 f,i6 i,i6 j,i6 k,iN sc,iN y.V.l.length] 187]) λG=>rr (λ_=>[(3,.l 0),(4,.l 3),(5,.c [1] [1] (Vy o x D z C u F t n r B c y N O ⟨a,b,d,e,f,i,j,k⟩))]) (λ_=>[(6,i6 (gV c y.V.D ⟨a,b,d,e,f,i,j,k⟩))]) [] (λ_ L=>L.set 1 ((pk (aV o x D z C u F t n r B c ({y with V:=nv c y.V ⟨a,b,d,e,f,i,j,k⟩}:Ct))))) λQ=>r0 [] [(25,.bool ((gV c y.V.D ⟨a,b,d,e,f,i,j,k⟩)==0))] [] ?_;refine cE (gV c y.V.D ⟨a,b,d,e,f,i,j,k⟩) 0 (λM I=>?_) λM I=>?_
 ·exact rr (λq=>[(4,.l 0),(5,.l 5),(6,.m (bs 6 1)),(7,e7 Vx (H) inj 2 6 ([(⟨a,b,d,e,f,i,j,k,sc,y.V.l.length⟩:Ij)])),(10,.m (fv 0 2 (gb ((q 7).val 0) (inj++([(⟨a,b,d,e,f,i,j,k,sc,y.V.l.length⟩:Ij)]))) ((q 7).val 0) λbs h=>ar.one ((λ_ h=>h) bs h)))]) N0 [] (λq L=>(L.set 0 (ob g #[pt n 0,pt o 0,.map (some J),(q 7).val 0,vs,iN sc,iN st] 114)).set 2 (gb ((q 7).val 0) (inj++([(⟨a,b,d,e,f,i,j,k,sc,y.V.l.length⟩:Ij)])))++[ob (B6 q) #[i6 a,i6 b,i6 d,i6 e,i6 f,i6 i,i6 j,i6 k,iN sc,iN y.V.l.length] 187]) λq=>rs [(2,.s 4)] 4 (ob (B1 p) (([i6 (gV c y.V.D ⟨a,b,d,e,f,i,j,k⟩),i6 0]:List Value)++rB 64 z6).toArray 53) (lf (.l [] [] [(q 7).val 0]) [0,1,2] [] [4] (hf:=by unfold nz;dsimp only;(repeat (first | rw[M] | rw[ALct]));kernel_rfl))
 exact rs [(2,.s 4)] 4 (ob (B1 p) (([i6 (gV c y.V.D ⟨a,b,d,e,f,i,j,k⟩),i6 0]:List Value)++rB 64 z6).toArray 53) (lf (.l [] [] [H]) [0,1,2] [] [4] (hf:=by unfold nz;dsimp only;(repeat (first | rw[M] | rw[ALcf]));kernel_rfl))
structure An where
 e:Int
 n:Int
 l:List UInt8
def VH:An:=⟨0,0,mz 64 0⟩
def wI(x:An):List Value:=[i6 x.e,i6 x.n]++rB 64 x.l
def Hg:Kd gh An:=⟨wI,[i6 0,i6 0]++mz 64 (u1 0),72,53,VH,66,λ_=>rfl,rfl,λ_=>rfl,dT.mk' Kr Kr rfl⟩
abbrev px(v:Value)(xs:List An):aC:= .p (ar wI ([i6 0,i6 0]++mz 64 (u1 0)) 53 v xs)
theorem VI(g t B G C F z H y u v D:Nat)(c:Cf)(x:Mc)(K A N:Nat)(b:eA c x K A N)(hA:A≤700000)(I:N≤1000)(k r:Int)(d:List UInt8)(J:d.length=64)(m:Nat)(e f i j n o p q:Int)(O:ed k r d m e f i j n o p q=false):aa gh 16 #[pt g 0,.agg (sV k r d m e f i j n o p q)] [pk (bg g t B G C F z H y u v D c x)] [0] (λ_=>[pk (bg g t B G C F z H y u v D c x)]) (λ_=> .agg (([i6 60,i6 0]:List Value)++rB 64 z6).toArray):=aa.pkZ Tryz.func16 λL M=>by
 obtain⟨gi,V,vs,rfl⟩:=M;refine⟨[1,2,3,4],λ_=>[pk (aV t B G C F z H y u v D c x.x),cX x.id gi,gb V x.inj,dh vs x.sv],?_,rfl,λE=>⟨rfl,rfl,⟨_,_,_,rfl⟩⟩⟩;have h:=b.ct;have P:=h.cf;have Q:=b.il;have T:x.sv.length≤1000:=YU b.sl I;have R:x.inj.length≤1000:=YU b.jl I;have S:=b.sc;have U:=b.st;exact fG Tryz.func16 λw cs=>ra (λa=>[(3,pt (B0 a) 0),(4,pt (B1 a) 0)]) (λa=>[ob (B0 a) (sV k r d m e f i j n o p q) 50,ob (B1 a) (([i6 0,i6 0]:List Value)++rB 64 z6).toArray 53]) λa=>rT [(0,.l 5),(1,.c [] [] (aa.v ((kf k r d m e f i j n o p q (by(simp only[LL,J,J];done)))) λ_=>ALca Value.bool (show(ed k r d m e f i j n o p q)=false from(by exact O))))] 9 (rs [(1,.s 6)] 6 (ob (B1 a) (([i6 60,i6 0]:List Value)++rB 64 z6).toArray 53) (lf ab.zero [1,2,3,4] [(0,0)] [6]))
theorem VJ(g a y D z C v F u b t B:Nat)(c:Cf)(x:Mc)(K A N:Nat)(f:eA c x K A N)(hA:A≤700000)(H:N≤1000)(J:K+3≤1000000000)(ln:Int)(d:List UInt8)(I:d.length=64)(m:Nat)(i j k n o p q r:Int)(O:ed 4 ln d m i j k n o p q r=true):aa gh 16 #[pt g 0,.agg (sV 4 ln d m i j k n o p q r)] [pk (bg g a y D z C v F u b t B c x)] [0] (λ_=>[pk (bg g a y D z C v F u b t B c ({x with x:=lC c x.x,sc:=x.sc+1,st:=x.st+1}:Mc))]) (λ_=> .agg (([i6 (cp (bK c (ke c x.x) (a2 (ke c x.x) x.x.U))),iN x.x.U]:List Value)++rB 64 z6).toArray):=aa.pkZ Tryz.func16 λL M=>by
 obtain⟨gi,G,vs,rfl⟩:=M;refine⟨[0,1,2,3,4],λ_=>[ob g #[pt b 0,pt a 0,.map (some gi),G,vs,i6 ((x.sc+1:Nat):Int),i6 ((x.st+1:Nat):Int)] 114,pk (aV a y D z C v F u b t B c (lC c x.x)),cX x.id gi,gb G x.inj,dh vs x.sv],?_,rfl,λE=>⟨rfl,rfl,⟨_,_,_,rfl⟩⟩⟩;have h:=f.ct;have P:=h.cf;have Q:=f.il;have T:x.sv.length≤1000:=YU f.sl H;have R:x.inj.length≤1000:=YU f.jl H;have S:=f.sc;have U:=f.st;exact fG Tryz.func16 λw cs=>ra (λe=>[(3,pt (B0 e) 0),(4,pt (B1 e) 0)]) (λe=>[ob (B0 e) (sV 4 ln d m i j k n o p q r) 50,ob (B1 e) (([i6 0,i6 0]:List Value)++rB 64 z6).toArray 53]) λe=>rF [(0,.l 5),(1,.c [] [] (aa.v ((kf 4 ln d m i j k n o p q r (by(simp only[LL,I,I];done)))) λ_=>ALca Value.bool (show(ed 4 ln d m i j k n o p q r)=true from(by exact O))))] 9 (rs [(3,.l 0),(4,ad x.st 1),(7,.s 0)] 0 (ob g #[pt b 0,pt a 0,.map (some gi),G,vs,iN x.sc,i6 ((x.st+1:Nat):Int)] 114) (r0 [(1,.l 5)] [(19,i6 4)] [] (rT [] 20 (rs [(3,.l 0),(4,ad x.sc 1),(7,.s 0)] 0 (ob g #[pt b 0,pt a 0,.map (some gi),G,vs,i6 ((x.sc+1:Nat):Int),i6 ((x.st+1:Nat):Int)] 114) (rr (λ_=>[(3,.l 0),(4,.c [1] [1] (UP a y D z C v F u b t B c x.x _ _ h hA J))]) (λ_=>[(5,iN x.x.U),(6,i6 (cp (bK c (ke c x.x) (a2 (ke c x.x) x.x.U))))]) [] (λ_ L=>L.set 1 ((pk (aV a y D z C v F u b t B c (lC c x.x))))) λV=>rs [(3,.s 6)] 6 (ob (B1 e) (([i6 (cp (bK c (ke c x.x) (a2 (ke c x.x) x.x.U))),iN x.x.U]:List Value)++rB 64 z6).toArray 53) (lf ab.zero [0,1,2,3,4] [] [6]))))))
theorem VK(g a y D z C v F u b t B:Nat)(c:Cf)(x:Mc)(K A N:Nat)(e:eA c x K A N)(hA:A≤700000)(H:N≤1000)(J:K+260≤1000000000)(P:x.x.s.r.j.A≠0)(ln:Int)(d:List UInt8)(I:d.length=64)(m:Nat)(i j k n o p q r:Int)(O:ed 5 ln d m i j k n o p q r=true):aa gh 16 #[pt g 0,.agg (sV 5 ln d m i j k n o p q r)] [pk (bg g a y D z C v F u b t B c x)] [0] (λ_=>[pk (bg g a y D z C v F u b t B c ({x with x:=jt c x.x,st:=x.st+1}:Mc))]) (λ_=> .agg (([i6 0,i6 0]:List Value)++rB 64 z6).toArray):=aa.pkZ Tryz.func16 λL M=>by
 obtain⟨gi,G,vs,rfl⟩:=M;refine⟨[0,1,2,3,4],λ_=>[ob g #[pt b 0,pt a 0,.map (some gi),G,vs,iN x.sc,i6 ((x.st+1:Nat):Int)] 114,pk (aV a y D z C v F u b t B c (jt c x.x)),cX x.id gi,gb G x.inj,dh vs x.sv],?_,rfl,λE=>⟨rfl,rfl,⟨_,_,_,rfl⟩⟩⟩;have h:=e.ct;have Q:=h.cf;have R:=e.il;have U:x.sv.length≤1000:=YU e.sl H;have S:x.inj.length≤1000:=YU e.jl H;have T:=e.sc;have V:=e.st;exact fG Tryz.func16 λw cs=>ra (λf=>[(3,pt (B0 f) 0),(4,pt (B1 f) 0)]) (λf=>[ob (B0 f) (sV 5 ln d m i j k n o p q r) 50,ob (B1 f) (([i6 0,i6 0]:List Value)++rB 64 z6).toArray 53]) λf=>rF [(0,.l 5),(1,.c [] [] (aa.v ((kf 5 ln d m i j k n o p q r (by(simp only[LL,I,I];done)))) λ_=>ALca Value.bool (show(ed 5 ln d m i j k n o p q r)=true from(by exact O))))] 9 (rs [(3,.l 0),(4,ad x.st 1),(7,.s 0)] 0 (ob g #[pt b 0,pt a 0,.map (some gi),G,vs,iN x.sc,i6 ((x.st+1:Nat):Int)] 114) (r0 [(1,.l 5)] [(19,i6 5)] [] (rF [] 20 (rT [] 40 (rs [(3,.l 0),(4,.c [1] [1] (U2 a y D z C v F u b t B c x.x _ _ h hA J P)),(6,.s 6)] 1 ((pk (aV a y D z C v F u b t B c (jt c x.x)))) (lf ab.zero [0,1,2,3,4] [] [6]))))))
theorem VL(g b y D z C v F u e t B:Nat)(c:Cf)(x:Mc)(K A N:Nat)(f:eA c x K A N)(hA:A≤700000)(H:N≤1000)(O:x.x.s.r.j.A=0)(ln:Int)(d:List UInt8)(I:d.length=64)(m:Nat)(i j k n o p q r:Int)(M:ed 5 ln d m i j k n o p q r=true):aa gh 16 #[pt g 0,.agg (sV 5 ln d m i j k n o p q r)] [pk (bg g b y D z C v F u e t B c x)] [0] (λ_=>[pk (bg g b y D z C v F u e t B c ({x with st:=x.st+1}:Mc))]) (λ_=> .agg (([i6 51,i6 0]:List Value)++rB 64 z6).toArray):=aa.pkZ Tryz.func16 λL J=>by
 obtain⟨gi,G,vs,rfl⟩:=J;refine⟨[0,1,2,3,4],λ_=>[ob g #[pt e 0,pt b 0,.map (some gi),G,vs,iN x.sc,i6 ((x.st+1:Nat):Int)] 114,pk (aV b y D z C v F u e t B c x.x),cX x.id gi,gb G x.inj,dh vs x.sv],?_,rfl,λE=>⟨rfl,rfl,⟨_,_,_,rfl⟩⟩⟩;have h:=f.ct;have P:=h.cf;have Q:=f.il;have T:x.sv.length≤1000:=YU f.sl H;have R:x.inj.length≤1000:=YU f.jl H;have S:=f.sc;have U:=f.st;exact fG Tryz.func16 λw cs=>ra (λa=>[(3,pt (B0 a) 0),(4,pt (B1 a) 0)]) (λa=>[ob (B0 a) (sV 5 ln d m i j k n o p q r) 50,ob (B1 a) (([i6 0,i6 0]:List Value)++rB 64 z6).toArray 53]) λa=>rF [(0,.l 5),(1,.c [] [] (aa.v ((kf 5 ln d m i j k n o p q r (by(simp only[LL,I,I];done)))) λ_=>ALca Value.bool (show(ed 5 ln d m i j k n o p q r)=true from(by exact M))))] 9 (rs [(3,.l 0),(4,ad x.st 1),(7,.s 0)] 0 (ob g #[pt e 0,pt b 0,.map (some gi),G,vs,iN x.sc,i6 ((x.st+1:Nat):Int)] 114) (r0 [(1,.l 5)] [(19,i6 5)] [] (rF [] 20 (rT [] 40 (rs [(3,.l 0),(4,.c [1] [1] (U1 b y D z C v F u e t B c x.x _ _ h O)),(6,.s 6)] 6 (ob (B1 a) (([i6 51,i6 0]:List Value)++rB 64 z6).toArray 53) (lf ab.zero [0,1,2,3,4] [] [6]))))))
theorem VM(g a y D z C v F u b t B:Nat)(c:Cf)(x:Mc)(K A N:Nat)(e:eA c x K A N)(hA:A≤700000)(H:N≤1000)(ht:x.x.s.time<1099511627776)(ln:Int)(d:List UInt8)(I:d.length=64)(m:Nat)(i j k n o p q r:Int)(M:ed 6 ln d m i j k n o p q r=true):aa gh 16 #[pt g 0,.agg (sV 6 ln d m i j k n o p q r)] [pk (bg g a y D z C v F u b t B c x)] [0] (λ_=>[pk (bg g a y D z C v F u b t B c ({x with x:=qB x.x,st:=x.st+1}:Mc))]) (λ_=> .agg (([i6 0,i6 0]:List Value)++rB 64 z6).toArray):=aa.pkZ Tryz.func16 λL J=>by
 obtain⟨gi,G,vs,rfl⟩:=J;refine⟨[0,1,2,3,4],λ_=>[ob g #[pt b 0,pt a 0,.map (some gi),G,vs,iN x.sc,i6 ((x.st+1:Nat):Int)] 114,pk (aV a y D z C v F u b t B c (qB x.x)),cX x.id gi,gb G x.inj,dh vs x.sv],?_,rfl,λE=>⟨rfl,rfl,⟨_,_,_,rfl⟩⟩⟩;have h:=e.ct;have O:=h.cf;have P:=e.il;have S:x.sv.length≤1000:=YU e.sl H;have Q:x.inj.length≤1000:=YU e.jl H;have R:=e.sc;have T:=e.st;exact fG Tryz.func16 λw cs=>ra (λf=>[(3,pt (B0 f) 0),(4,pt (B1 f) 0)]) (λf=>[ob (B0 f) (sV 6 ln d m i j k n o p q r) 50,ob (B1 f) (([i6 0,i6 0]:List Value)++rB 64 z6).toArray 53]) λf=>rF [(0,.l 5),(1,.c [] [] (aa.v ((kf 6 ln d m i j k n o p q r (by(simp only[LL,I,I];done)))) λ_=>ALca Value.bool (show(ed 6 ln d m i j k n o p q r)=true from(by exact M))))] 9 (rs [(3,.l 0),(4,ad x.st 1),(7,.s 0)] 0 (ob g #[pt b 0,pt a 0,.map (some gi),G,vs,iN x.sc,i6 ((x.st+1:Nat):Int)] 114) (r0 [(1,.l 5)] [(19,i6 6)] [] (rF [] 20 (rF [] 40 (rT [] 48 (rs [(3,.l 0),(4,.c [1] [1] (UZ a y D z C v F u b t B c x.x _ _ h hA ht)),(6,.s 6)] 1 ((pk (aV a y D z C v F u b t B c (qB x.x)))) (lf ab.zero [0,1,2,3,4] [] [6])))))))
theorem VN(g a y D z C v F u b t B:Nat)(c:Cf)(x:Mc)(K A N:Nat)(f:eA c x K A N)(hA:A≤700000)(H:N≤1000)(ln:Int)(d:List UInt8)(I:d.length=64)(m:Nat)(i j k n o p q r:Int)(M:ed 7 ln d m i j k n o p q r=true):aa gh 16 #[pt g 0,.agg (sV 7 ln d m i j k n o p q r)] [pk (bg g a y D z C v F u b t B c x)] [0] (λ_=>[pk (bg g a y D z C v F u b t B c ({x with x:=qC x.x,st:=x.st+1}:Mc))]) (λ_=> .agg (([i6 0,iN x.x.s.g.l.length]:List Value)++rB 64 z6).toArray):=aa.pkZ Tryz.func16 λL J=>by
 obtain⟨gi,G,vs,rfl⟩:=J;refine⟨[0,1,2,3,4],λ_=>[ob g #[pt b 0,pt a 0,.map (some gi),G,vs,iN x.sc,i6 ((x.st+1:Nat):Int)] 114,pk (aV a y D z C v F u b t B c (qC x.x)),cX x.id gi,gb G x.inj,dh vs x.sv],?_,rfl,λE=>⟨rfl,rfl,⟨_,_,_,rfl⟩⟩⟩;have h:=f.ct;have O:=h.cf;have P:=f.il;have S:x.sv.length≤1000:=YU f.sl H;have Q:x.inj.length≤1000:=YU f.jl H;have R:=f.sc;have T:=f.st;exact fG Tryz.func16 λw cs=>ra (λe=>[(3,pt (B0 e) 0),(4,pt (B1 e) 0)]) (λe=>[ob (B0 e) (sV 7 ln d m i j k n o p q r) 50,ob (B1 e) (([i6 0,i6 0]:List Value)++rB 64 z6).toArray 53]) λe=>rF [(0,.l 5),(1,.c [] [] (aa.v ((kf 7 ln d m i j k n o p q r (by(simp only[LL,I,I];done)))) λ_=>ALca Value.bool (show(ed 7 ln d m i j k n o p q r)=true from(by exact M))))] 9 (rs [(3,.l 0),(4,ad x.st 1),(7,.s 0)] 0 (ob g #[pt b 0,pt a 0,.map (some gi),G,vs,iN x.sc,i6 ((x.st+1:Nat):Int)] 114) (r0 [(1,.l 5)] [(19,i6 7)] [] (rF [] 20 (rF [] 40 (rF [] 48 (rT [] 56 (rr (λ_=>[(3,.l 0),(4,.c [1] [1] (U0 a y D z C v F u b t B c x.x _ _ h hA)),(6,.s 6)]) N0 [] (λ_ L=>(L.set 1 ((pk (aV a y D z C v F u b t B c (qC x.x))))).set 6 (ob (B1 e) (([i6 0,iN x.x.s.g.l.length]:List Value)++rB 64 z6).toArray 53)) λU=>lf ab.zero [0,1,2,3,4] [] [6])))))))
theorem VO(g p z F B D y G v q u C:Nat)(c:Cf)(x:Mc)(K A N:Nat)(t:eA c x K A N)(hA:A≤700000)(I:N≤1000)(ln:Int)(d:List UInt8)(J:d.length=64)(m:Nat)(a b e f i j k n:Int)(P:ed 8 ln d m a b e f i j k n=true):aa gh 16 #[pt g 0,.agg (sV 8 ln d m a b e f i j k n)] [pk (bg g p z F B D y G v q u C c x)] [0] (λ_=>[pk (bg g p z F B D y G v q u C c ({x with x:={x.x with V:=nv c x.x.V (⟨a,b,e,f,i,j,k,n⟩:Fa)},inj:=nz c x.x (⟨a,b,e,f,i,j,k,n⟩:Fa) x.inj x.sc,st:=x.st+1}:Mc))]) (λ_=> .agg (([i6 (gV c x.x.V.D ⟨a,b,e,f,i,j,k,n⟩),i6 0]:List Value)++rB 64 z6).toArray):=aa.pkZ Tryz.func16 λL O=>by
 obtain⟨gi,M,vs,rfl⟩:=O;refine⟨[0,1,2,3,4],λE=>[ob g #[pt q 0,pt p 0,.map (some gi),(E.val 0),vs,iN x.sc,i6 ((x.st+1:Nat):Int)] 114,pk (aV p z F B D y G v q u C c ({x.x with V:=nv c x.x.V ⟨a,b,e,f,i,j,k,n⟩}:Ct)),cX x.id gi,gb (E.val 0) (nz c x.x (⟨a,b,e,f,i,j,k,n⟩:Fa) x.inj x.sc),dh vs x.sv],?_,rfl,λE=>⟨rfl,rfl,⟨_,_,_,rfl⟩⟩⟩;have h:=t.ct;have Q:=h.cf;have R:=t.il;have T:x.sv.length≤1000:=YU t.sl I;have H:x.inj.length≤1000:=YU t.jl I;have S:=t.sc;have U:=t.st;exact fG Tryz.func16 λw cs=>ra (λr=>[(3,pt (B0 r) 0),(4,pt (B1 r) 0)]) (λr=>[ob (B0 r) (sV 8 ln d m a b e f i j k n) 50,ob (B1 r) (([i6 0,i6 0]:List Value)++rB 64 z6).toArray 53]) λr=>rF [(0,.l 5),(1,.c [] [] (aa.v ((kf 8 ln d m a b e f i j k n (by(simp only[LL,J,J];done)))) λ_=>ALca Value.bool (show(ed 8 ln d m a b e f i j k n)=true from(by exact P))))] 9 (rs [(3,.l 0),(4,ad x.st 1),(7,.s 0)] 0 (ob g #[pt q 0,pt p 0,.map (some gi),M,vs,iN x.sc,i6 ((x.st+1:Nat):Int)] 114) (r0 [(1,.l 5)] [(19,i6 8)] [] (rF [] 20 (rF [] 40 (rF [] 48 (rF [] 56 (rT [] 64 (rr (λ_=>[(2,.l 5),(3,.c [0,1,3] [0,1,3] (VG g p z F B D y G v q u C c x.x _ _ h hA a b e f i j k n x.inj H x.sc (x.st+1) gi M vs)),(4,.s 6)]) N0 [] (λo L=>(((L.set 0 (ob g #[pt q 0,pt p 0,.map (some gi),((o 3).val 0),vs,iN x.sc,i6 ((x.st+1:Nat):Int)] 114)).set 1 ((pk (aV p z F B D y G v q u C c ({x.x with V:=nv c x.x.V ⟨a,b,e,f,i,j,k,n⟩}:Ct))))).set 3 (gb ((o 3).val 0) (nz c x.x (⟨a,b,e,f,i,j,k,n⟩:Fa) x.inj x.sc))).set 6 (ob (B1 r) (([i6 (gV c x.x.V.D ⟨a,b,e,f,i,j,k,n⟩),i6 0]:List Value)++rB 64 z6).toArray 53)) λo=>lf (.l [] [] [((o 3).val 0)]) [0,1,2,3,4] [] [6]))))))))
theorem VP(g q B G C F z H y r v D:Nat)(c:Cf)(x:Mc)(K A N:Nat)(u:eA c x K A N)(hA:A≤700000)(P:N≤1000)(Q:K+3≤1000000000)(n:Nat)(W:n<((c.R*c.B*c.M-c.res)*c.C))(d:List UInt8)(J:d.length=64)(m:Nat)(a b e f i j k o:Int)(S:ed 1 (n:Int) d m a b e f i j k o=true):aa gh 16 #[pt g 0,.agg (sV 1 (n:Int) d m a b e f i j k o)] [pk (bg g q B G C F z H y r v D c x)] [0] (λ_=>[pk (bg g q B G C F z H y r v D c (He c ({x with st:=x.st+1}:Mc) n (⟨1,(n:Int),d,m,a,b,e,f,i,j,k,o⟩:St):Mc))]) (λ_=> .agg (([i6 (cp (bK c x.x (a2 x.x n))),i6 0]:List Value)++rB 64 (cU c x.x (a2 x.x n))).toArray):=aa.pkZ Tryz.func16 λL R=>by
 obtain⟨gi,I,vs,rfl⟩:=R;refine⟨[0,1,2,3,4],λE=>[ob g #[pt r 0,pt q 0,.map (some gi),I,(E.val 0),iN x.sc,i6 ((x.st+1:Nat):Int)] 114,pk (aV q B G C F z H y r v D c (cI c x.x n c.X)),cX x.id gi,gb I x.inj,dh (E.val 0) (x.sv++([(⟨1,(n:Int),d,m,a,b,e,f,i,j,k,o,(cp (bK c x.x (a2 x.x n))),0,cU c x.x (a2 x.x n),(x.id (n:Int)),x.x.V.l.length,(cI c x.x n c.X).V.l.length⟩:Sv)]))],?_,rfl,λE=>⟨rfl,rfl,⟨_,_,_,rfl⟩⟩⟩;have h:=u.ct;have T:=h.cf;have M:=u.il;have O:x.sv.length≤1000:=YU u.sl P;have U:x.inj.length≤1000:=YU u.jl P;have X:=u.sc;have Y:=u.st;exact fG Tryz.func16 λw cs=>ra (λt=>[(3,pt (B0 t) 0),(4,pt (B1 t) 0)]) (λt=>[ob (B0 t) (sV 1 (n:Int) d m a b e f i j k o) 50,ob (B1 t) (([i6 0,i6 0]:List Value)++rB 64 z6).toArray 53]) λt=>rF [(0,.l 5),(1,.c [] [] (aa.v ((kf 1 (n:Int) d m a b e f i j k o (by(simp only[LL,J,J];done)))) λ_=>ALca Value.bool (show(ed 1 (n:Int) d m a b e f i j k o)=true from(by exact S))))] 9 (rs [(3,.l 0),(4,ad x.st 1),(7,.s 0)] 0 (ob g #[pt r 0,pt q 0,.map (some gi),I,vs,iN x.sc,i6 ((x.st+1:Nat):Int)] 114) (r0 [(1,.l 5)] [(19,i6 1)] [] (rF [] 20 (rF [] 40 (rF [] 48 (rF [] 56 (rF [] 64 (rr (λ_=>[(1,.l 5),(2,.c [0,1,2,4] [0,1,2,4] (Vz g q B G C F z H y r v D c x.x _ _ h hA Q n W d (by(simp only[LL,J,J];done)) m a b e f i j k o x.id M x.sv O x.sc (x.st+1) gi I vs)),(3,.s 6)]) N0 [] (λp L=>(((L.set 0 (ob g #[pt r 0,pt q 0,.map (some gi),I,((p 2).val 0),iN x.sc,i6 ((x.st+1:Nat):Int)] 114)).set 1 ((pk (aV q B G C F z H y r v D c (cI c x.x n c.X))))).set 4 (dh ((p 2).val 0) (x.sv++([(⟨1,(n:Int),d,m,a,b,e,f,i,j,k,o,(cp (bK c x.x (a2 x.x n))),0,cU c x.x (a2 x.x n),(x.id (n:Int)),x.x.V.l.length,(cI c x.x n c.X).V.l.length⟩:Sv)])))).set 6 (ob (B1 t) (([i6 (cp (bK c x.x (a2 x.x n))),i6 0]:List Value)++rB 64 (cU c x.x (a2 x.x n))).toArray 53)) λp=>lf (.l [] [] [((p 2).val 0)]) [0,1,2,3,4] [] [6]))))))))
theorem VQ(g q B G C F z H y r v D:Nat)(c:Cf)(x:Mc)(K A N:Nat)(u:eA c x K A N)(hA:A≤700000)(P:N≤1000)(Q:K+3≤1000000000)(n:Nat)(W:n<((c.R*c.B*c.M-c.res)*c.C))(d:List UInt8)(J:d.length=64)(m:Nat)(a b e f i j k o:Int)(S:ed 2 (n:Int) d m a b e f i j k o=true):aa gh 16 #[pt g 0,.agg (sV 2 (n:Int) d m a b e f i j k o)] [pk (bg g q B G C F z H y r v D c x)] [0] (λ_=>[pk (bg g q B G C F z H y r v D c (wH c ({x with st:=x.st+1}:Mc) n 18446744073709551615 (⟨2,(n:Int),d,m,a,b,e,f,i,j,k,o⟩:St):Mc))]) (λ_=> .agg (([i6 (cv c x.x n 18446744073709551615),i6 0]:List Value)++rB 64 z6).toArray):=aa.pkZ Tryz.func16 λL R=>by
 obtain⟨gi,I,vs,rfl⟩:=R;refine⟨[0,1,2,3,4],λE=>[ob g #[pt r 0,pt q 0,.map (some gi),I,(E.val 0),iN x.sc,i6 ((x.st+1:Nat):Int)] 114,pk (aV q B G C F z H y r v D c (bG c x.x n d 18446744073709551615)),cX (du x.id (n:Int) (iM (x.id (n:Int)) d 18446744073709551615)) gi,gb I x.inj,dh (E.val 0) (x.sv++([(⟨2,(n:Int),d,m,a,b,e,f,i,j,k,o,(cv c x.x n 18446744073709551615),0,mz 64 0,(x.id (n:Int)),x.x.V.l.length,(bG c x.x n d 18446744073709551615).V.l.length⟩:Sv)]))],?_,rfl,λE=>⟨rfl,rfl,⟨_,_,_,rfl⟩⟩⟩;have h:=u.ct;have T:=h.cf;have M:=u.il;have O:x.sv.length≤1000:=YU u.sl P;have U:x.inj.length≤1000:=YU u.jl P;have X:=u.sc;have Y:=u.st;exact fG Tryz.func16 λw cs=>ra (λt=>[(3,pt (B0 t) 0),(4,pt (B1 t) 0)]) (λt=>[ob (B0 t) (sV 2 (n:Int) d m a b e f i j k o) 50,ob (B1 t) (([i6 0,i6 0]:List Value)++rB 64 z6).toArray 53]) λt=>rF [(0,.l 5),(1,.c [] [] (aa.v ((kf 2 (n:Int) d m a b e f i j k o (by(simp only[LL,J,J];done)))) λ_=>ALca Value.bool (show(ed 2 (n:Int) d m a b e f i j k o)=true from(by exact S))))] 9 (rs [(3,.l 0),(4,ad x.st 1),(7,.s 0)] 0 (ob g #[pt r 0,pt q 0,.map (some gi),I,vs,iN x.sc,i6 ((x.st+1:Nat):Int)] 114) (r0 [(1,.l 5)] [(19,i6 2)] [] (rF [] 20 (rF [] 40 (rF [] 48 (rF [] 56 (rF [] 64 (rr (λ_=>[(1,.l 5),(2,.c [0,1,2,4] [0,1,2,4] (VD g q B G C F z H y r v D c x.x _ _ h hA Q n W d (by(simp only[LL,J,J];done)) m a b e f i j k o x.id M x.sv O x.sc (x.st+1) gi I vs)),(3,.s 6)]) N0 [] (λp L=>((((L.set 0 (ob g #[pt r 0,pt q 0,.map (some gi),I,((p 2).val 0),iN x.sc,i6 ((x.st+1:Nat):Int)] 114)).set 1 ((pk (aV q B G C F z H y r v D c (bG c x.x n d 18446744073709551615))))).set 2 (cX (du x.id (n:Int) (iM (x.id (n:Int)) d 18446744073709551615)) gi)).set 4 (dh ((p 2).val 0) (x.sv++([(⟨2,(n:Int),d,m,a,b,e,f,i,j,k,o,(cv c x.x n 18446744073709551615),0,mz 64 0,(x.id (n:Int)),x.x.V.l.length,(bG c x.x n d 18446744073709551615).V.l.length⟩:Sv)])))).set 6 (ob (B1 t) (([i6 (cv c x.x n 18446744073709551615),i6 0]:List Value)++rB 64 z6).toArray 53)) λp=>lf (.l [] [] [((p 2).val 0)]) [0,1,2,3,4] [] [6]))))))))
theorem VR(g q B G C F z H y r v D:Nat)(c:Cf)(x:Mc)(K A N:Nat)(u:eA c x K A N)(hA:A≤700000)(R:N≤1000)(S:K+3≤1000000000)(n:Nat)(Y:n<((c.R*c.B*c.M-c.res)*c.C))(d:List UInt8)(J:d.length=64)(m:Nat)(a b e f i j k o:Int)(U:ed 3 (n:Int) d m a b e f i j k o=true)(P:m<18446744073709551616)(O:m≠0):aa gh 16 #[pt g 0,.agg (sV 3 (n:Int) d m a b e f i j k o)] [pk (bg g q B G C F z H y r v D c x)] [0] (λ_=>[pk (bg g q B G C F z H y r v D c (wH c ({x with st:=x.st+1}:Mc) n m (⟨3,(n:Int),d,m,a,b,e,f,i,j,k,o⟩:St):Mc))]) (λ_=> .agg (([i6 (cv c x.x n m),i6 0]:List Value)++rB 64 z6).toArray):=aa.pkZ Tryz.func16 λL T=>by
 obtain⟨gi,I,vs,rfl⟩:=T;refine⟨[0,1,2,3,4],λE=>[ob g #[pt r 0,pt q 0,.map (some gi),I,(E.val 0),iN x.sc,i6 ((x.st+1:Nat):Int)] 114,pk (aV q B G C F z H y r v D c (bG c x.x n d m)),cX (du x.id (n:Int) (iM (x.id (n:Int)) d m)) gi,gb I x.inj,dh (E.val 0) (x.sv++([(⟨3,(n:Int),d,m,a,b,e,f,i,j,k,o,(cv c x.x n m),0,mz 64 0,(x.id (n:Int)),x.x.V.l.length,(bG c x.x n d m).V.l.length⟩:Sv)]))],?_,rfl,λE=>⟨rfl,rfl,⟨_,_,_,rfl⟩⟩⟩;have h:=u.ct;have W:=h.cf;have M:=u.il;have Q:x.sv.length≤1000:=YU u.sl R;have X:x.inj.length≤1000:=YU u.jl R;have Z:=u.sc;have hst:=u.st;exact fG Tryz.func16 λw cs=>ra (λt=>[(3,pt (B0 t) 0),(4,pt (B1 t) 0)]) (λt=>[ob (B0 t) (sV 3 (n:Int) d m a b e f i j k o) 50,ob (B1 t) (([i6 0,i6 0]:List Value)++rB 64 z6).toArray 53]) λt=>rF [(0,.l 5),(1,.c [] [] (aa.v ((kf 3 (n:Int) d m a b e f i j k o (by(simp only[LL,J,J];done)))) λ_=>ALca Value.bool (show(ed 3 (n:Int) d m a b e f i j k o)=true from(by exact U))))] 9 (rs [(3,.l 0),(4,ad x.st 1),(7,.s 0)] 0 (ob g #[pt r 0,pt q 0,.map (some gi),I,vs,iN x.sc,i6 ((x.st+1:Nat):Int)] 114) (r0 [(1,.l 5)] [(19,i6 3)] [] (rF [] 20 (rF [] 40 (rF [] 48 (rF [] 56 (rF [] 64 (rr (λ_=>[(1,.l 5),(2,.c [0,1,2,4] [0,1,2,4] (VE g q B G C F z H y r v D c x.x _ _ h hA S n Y d (by(simp only[LL,J,J];done)) m a b e f i j k o P O x.id M x.sv Q x.sc (x.st+1) gi I vs)),(3,.s 6)]) N0 [] (λp L=>((((L.set 0 (ob g #[pt r 0,pt q 0,.map (some gi),I,((p 2).val 0),iN x.sc,i6 ((x.st+1:Nat):Int)] 114)).set 1 ((pk (aV q B G C F z H y r v D c (bG c x.x n d m))))).set 2 (cX (du x.id (n:Int) (iM (x.id (n:Int)) d m)) gi)).set 4 (dh ((p 2).val 0) (x.sv++([(⟨3,(n:Int),d,m,a,b,e,f,i,j,k,o,(cv c x.x n m),0,mz 64 0,(x.id (n:Int)),x.x.V.l.length,(bG c x.x n d m).V.l.length⟩:Sv)])))).set 6 (ob (B1 t) (([i6 (cv c x.x n m),i6 0]:List Value)++rB 64 z6).toArray 53)) λp=>lf (.l [] [] [((p 2).val 0)]) [0,1,2,3,4] [] [6]))))))))
theorem VS(g a y D z C v F u b t B:Nat)(c:Cf)(x:Mc)(K A N:Nat)(r:eA c x K A N)(hA:A≤700000)(M:N≤1000)(O:K+3≤1000000000)(n:Nat)(T:n<((c.R*c.B*c.M-c.res)*c.C))(d:List UInt8)(G:d.length=64)(f i j k m o p q:Int)(Q:ed 3 (n:Int) d 0 f i j k m o p q=true):aa gh 16 #[pt g 0,.agg (sV 3 (n:Int) d 0 f i j k m o p q)] [pk (bg g a y D z C v F u b t B c x)] [0] (λ_=>[pk (bg g a y D z C v F u b t B c (Hf c ({x with st:=x.st+1}:Mc) n d:Mc))]) (λ_=> .agg (([i6 (cv c x.x n 0),i6 0]:List Value)++rB 64 z6).toArray):=aa.pkZ Tryz.func16 λL P=>by
 obtain⟨gi,H,vs,rfl⟩:=P;refine⟨[0,1,2,3,4],λ_=>[ob g #[pt b 0,pt a 0,.map (some gi),H,vs,iN x.sc,i6 ((x.st+1:Nat):Int)] 114,pk (aV a y D z C v F u b t B c (bG c x.x n d 0)),cX x.id gi,gb H x.inj,dh vs x.sv],?_,rfl,λE=>⟨rfl,rfl,⟨_,_,_,rfl⟩⟩⟩;have h:=r.ct;have R:=h.cf;have I:=r.il;have J:x.sv.length≤1000:=YU r.sl M;have S:x.inj.length≤1000:=YU r.jl M;have U:=r.sc;have V:=r.st;exact fG Tryz.func16 λw cs=>ra (λe=>[(3,pt (B0 e) 0),(4,pt (B1 e) 0)]) (λe=>[ob (B0 e) (sV 3 (n:Int) d 0 f i j k m o p q) 50,ob (B1 e) (([i6 0,i6 0]:List Value)++rB 64 z6).toArray 53]) λe=>rF [(0,.l 5),(1,.c [] [] (aa.v ((kf 3 (n:Int) d 0 f i j k m o p q (by(simp only[LL,G,G];done)))) λ_=>ALca Value.bool (show(ed 3 (n:Int) d 0 f i j k m o p q)=true from(by exact Q))))] 9 (rs [(3,.l 0),(4,ad x.st 1),(7,.s 0)] 0 (ob g #[pt b 0,pt a 0,.map (some gi),H,vs,iN x.sc,i6 ((x.st+1:Nat):Int)] 114) (r0 [(1,.l 5)] [(19,i6 3)] [] (rF [] 20 (rF [] 40 (rF [] 48 (rF [] 56 (rF [] 64 (rr (λ_=>[(1,.l 5),(2,.c [0,1,2,4] [0,1,2,4] (VF g a y D z C v F u b t B c x.x _ _ h hA O n T d (by(simp only[LL,G,G];done)) f i j k m o p q x.id I x.sv J x.sc (x.st+1) gi H vs)),(3,.s 6)]) N0 [] (λ_ L=>(L.set 1 ((pk (aV a y D z C v F u b t B c (bG c x.x n d 0))))).set 6 (ob (B1 e) (([i6 (cv c x.x n 0),i6 0]:List Value)++rB 64 z6).toArray 53)) λW=>lf ab.zero [0,1,2,3,4] [] [6]))))))))
theorem VT(g p y D z C v F u q t B:Nat)(c:Cf)(x:Mc)(K A N:Nat)(r:eA c x K A N)(hA:A≤700000)(M:N≤1000)(O:K+3≤1000000000)(ln:Int)(T:bQ ln ((((c.R*c.B*c.M-c.res)*c.C):Nat):Int)=false)(d:List UInt8)(G:d.length=64)(m:Nat)(b e f i j k n o:Int)(Q:ed 1 ln d m b e f i j k n o=true):aa gh 16 #[pt g 0,.agg (sV 1 ln d m b e f i j k n o)] [pk (bg g p y D z C v F u q t B c x)] [0] (λ_=>[pk (bg g p y D z C v F u q t B c ({x with st:=x.st+1}:Mc))]) (λ_=> .agg (([i6 30,i6 0]:List Value)++rB 64 z6).toArray):=aa.pkZ Tryz.func16 λL P=>by
 obtain⟨gi,H,vs,rfl⟩:=P;refine⟨[0,1,2,3,4],λ_=>[ob g #[pt q 0,pt p 0,.map (some gi),H,vs,iN x.sc,i6 ((x.st+1:Nat):Int)] 114,pk (aV p y D z C v F u q t B c x.x),cX x.id gi,gb H x.inj,dh vs x.sv],?_,rfl,λE=>⟨rfl,rfl,⟨_,_,_,rfl⟩⟩⟩;have h:=r.ct;have R:=h.cf;have I:=r.il;have J:x.sv.length≤1000:=YU r.sl M;have S:x.inj.length≤1000:=YU r.jl M;have U:=r.sc;have V:=r.st;exact fG Tryz.func16 λw cs=>ra (λa=>[(3,pt (B0 a) 0),(4,pt (B1 a) 0)]) (λa=>[ob (B0 a) (sV 1 ln d m b e f i j k n o) 50,ob (B1 a) (([i6 0,i6 0]:List Value)++rB 64 z6).toArray 53]) λa=>rF [(0,.l 5),(1,.c [] [] (aa.v ((kf 1 ln d m b e f i j k n o (by(simp only[LL,G,G];done)))) λ_=>ALca Value.bool (show(ed 1 ln d m b e f i j k n o)=true from(by exact Q))))] 9 (rs [(3,.l 0),(4,ad x.st 1),(7,.s 0)] 0 (ob g #[pt q 0,pt p 0,.map (some gi),H,vs,iN x.sc,i6 ((x.st+1:Nat):Int)] 114) (r0 [(1,.l 5)] [(19,i6 1)] [] (rF [] 20 (rF [] 40 (rF [] 48 (rF [] 56 (rF [] 64 (rs [(1,.l 5),(2,.c [0,1,2,4] [0,1,2,4] (VA g p y D z C v F u q t B c x.x _ _ h hA O ln T d (by(simp only[LL,G,G];done)) m b e f i j k n o x.id I x.sv J x.sc (x.st+1) gi H vs)),(3,.s 6)] 6 (ob (B1 a) (([i6 30,i6 0]:List Value)++rB 64 z6).toArray 53) (lf ab.zero [0,1,2,3,4] [] [6])))))))))
theorem VU(g p y D z C v F u q t B:Nat)(c:Cf)(x:Mc)(K A N:Nat)(r:eA c x K A N)(hA:A≤700000)(M:N≤1000)(O:K+3≤1000000000)(ln:Int)(T:bQ ln ((((c.R*c.B*c.M-c.res)*c.C):Nat):Int)=false)(d:List UInt8)(G:d.length=64)(m:Nat)(b e f i j k n o:Int)(Q:ed 2 ln d m b e f i j k n o=true):aa gh 16 #[pt g 0,.agg (sV 2 ln d m b e f i j k n o)] [pk (bg g p y D z C v F u q t B c x)] [0] (λ_=>[pk (bg g p y D z C v F u q t B c ({x with st:=x.st+1}:Mc))]) (λ_=> .agg (([i6 30,i6 0]:List Value)++rB 64 z6).toArray):=aa.pkZ Tryz.func16 λL P=>by
 obtain⟨gi,H,vs,rfl⟩:=P;refine⟨[0,1,2,3,4],λ_=>[ob g #[pt q 0,pt p 0,.map (some gi),H,vs,iN x.sc,i6 ((x.st+1:Nat):Int)] 114,pk (aV p y D z C v F u q t B c x.x),cX x.id gi,gb H x.inj,dh vs x.sv],?_,rfl,λE=>⟨rfl,rfl,⟨_,_,_,rfl⟩⟩⟩;have h:=r.ct;have R:=h.cf;have I:=r.il;have J:x.sv.length≤1000:=YU r.sl M;have S:x.inj.length≤1000:=YU r.jl M;have U:=r.sc;have V:=r.st;exact fG Tryz.func16 λw cs=>ra (λa=>[(3,pt (B0 a) 0),(4,pt (B1 a) 0)]) (λa=>[ob (B0 a) (sV 2 ln d m b e f i j k n o) 50,ob (B1 a) (([i6 0,i6 0]:List Value)++rB 64 z6).toArray 53]) λa=>rF [(0,.l 5),(1,.c [] [] (aa.v ((kf 2 ln d m b e f i j k n o (by(simp only[LL,G,G];done)))) λ_=>ALca Value.bool (show(ed 2 ln d m b e f i j k n o)=true from(by exact Q))))] 9 (rs [(3,.l 0),(4,ad x.st 1),(7,.s 0)] 0 (ob g #[pt q 0,pt p 0,.map (some gi),H,vs,iN x.sc,i6 ((x.st+1:Nat):Int)] 114) (r0 [(1,.l 5)] [(19,i6 2)] [] (rF [] 20 (rF [] 40 (rF [] 48 (rF [] 56 (rF [] 64 (rs [(1,.l 5),(2,.c [0,1,2,4] [0,1,2,4] (VB g p y D z C v F u q t B c x.x _ _ h hA O ln T d (by(simp only[LL,G,G];done)) m b e f i j k n o x.id I x.sv J x.sc (x.st+1) gi H vs)),(3,.s 6)] 6 (ob (B1 a) (([i6 30,i6 0]:List Value)++rB 64 z6).toArray 53) (lf ab.zero [0,1,2,3,4] [] [6])))))))))
theorem VV(g p y D z C v F u q t B:Nat)(c:Cf)(x:Mc)(K A N:Nat)(r:eA c x K A N)(hA:A≤700000)(M:N≤1000)(O:K+3≤1000000000)(ln:Int)(T:bQ ln ((((c.R*c.B*c.M-c.res)*c.C):Nat):Int)=false)(d:List UInt8)(G:d.length=64)(m:Nat)(b e f i j k n o:Int)(Q:ed 3 ln d m b e f i j k n o=true):aa gh 16 #[pt g 0,.agg (sV 3 ln d m b e f i j k n o)] [pk (bg g p y D z C v F u q t B c x)] [0] (λ_=>[pk (bg g p y D z C v F u q t B c ({x with st:=x.st+1}:Mc))]) (λ_=> .agg (([i6 30,i6 0]:List Value)++rB 64 z6).toArray):=aa.pkZ Tryz.func16 λL P=>by
 obtain⟨gi,H,vs,rfl⟩:=P;refine⟨[0,1,2,3,4],λ_=>[ob g #[pt q 0,pt p 0,.map (some gi),H,vs,iN x.sc,i6 ((x.st+1:Nat):Int)] 114,pk (aV p y D z C v F u q t B c x.x),cX x.id gi,gb H x.inj,dh vs x.sv],?_,rfl,λE=>⟨rfl,rfl,⟨_,_,_,rfl⟩⟩⟩;have h:=r.ct;have R:=h.cf;have I:=r.il;have J:x.sv.length≤1000:=YU r.sl M;have S:x.inj.length≤1000:=YU r.jl M;have U:=r.sc;have V:=r.st;exact fG Tryz.func16 λw cs=>ra (λa=>[(3,pt (B0 a) 0),(4,pt (B1 a) 0)]) (λa=>[ob (B0 a) (sV 3 ln d m b e f i j k n o) 50,ob (B1 a) (([i6 0,i6 0]:List Value)++rB 64 z6).toArray 53]) λa=>rF [(0,.l 5),(1,.c [] [] (aa.v ((kf 3 ln d m b e f i j k n o (by(simp only[LL,G,G];done)))) λ_=>ALca Value.bool (show(ed 3 ln d m b e f i j k n o)=true from(by exact Q))))] 9 (rs [(3,.l 0),(4,ad x.st 1),(7,.s 0)] 0 (ob g #[pt q 0,pt p 0,.map (some gi),H,vs,iN x.sc,i6 ((x.st+1:Nat):Int)] 114) (r0 [(1,.l 5)] [(19,i6 3)] [] (rF [] 20 (rF [] 40 (rF [] 48 (rF [] 56 (rF [] 64 (rs [(1,.l 5),(2,.c [0,1,2,4] [0,1,2,4] (VC g p y D z C v F u q t B c x.x _ _ h hA O ln T d (by(simp only[LL,G,G];done)) m b e f i j k n o x.id I x.sv J x.sc (x.st+1) gi H vs)),(3,.s 6)] 6 (ob (B1 a) (([i6 30,i6 0]:List Value)++rB 64 z6).toArray 53) (lf ab.zero [0,1,2,3,4] [] [6])))))))))
def jO(c:Cf):Nat:=(c.R*c.B*c.M-c.res)*c.C
abbrev wJ(s:St):Fa:=⟨s.f0,s.f1,s.f2,s.f3,s.f4,s.f5,s.f6,s.f7⟩
abbrev l8:List UInt8:=mz 64 0
def jP(c:Cf)(x:Mc)(s:St):Mc:=
 if bQ s.ln ((jO c:Nat):Int)=true then
  if s.k=1 then He c x s.ln.toNat s
  else if s.k=2 then wH c x s.ln.toNat 18446744073709551615 s
  else if s.m=0 then Hf c x s.ln.toNat s.d
  else wH c x s.ln.toNat s.m s
 else x
def Hh(c:Cf)(x:Mc)(s:St):An:=
 if bQ s.ln ((jO c:Nat):Int)=true then
  if s.k=1 then⟨cp (bK c x.x (a2 x.x s.ln.toNat)),0,cU c x.x (a2 x.x s.ln.toNat)⟩
  else if s.k=2 then⟨cv c x.x s.ln.toNat 18446744073709551615,0,l8⟩
  else if s.m=0 then⟨30,0,l8⟩
  else⟨cv c x.x s.ln.toNat s.m,0,l8⟩
 else⟨30,0,l8⟩
def fq(c:Cf)(x:Mc)(s:St):Mc:=
 if sR s=true then
  if s.k=4 then{x with x:=lC c x.x,sc:=x.sc+1,st:=x.st+1}
  else if s.k=5 then if x.x.s.r.j.A=0 then{x with st:=x.st+1} else{x with x:=jt c x.x,st:=x.st+1}
  else if s.k=6 then{x with x:=qB x.x,st:=x.st+1}
  else if s.k=7 then{x with x:=qC x.x,st:=x.st+1}
  else if s.k=8 then{x with x:={x.x with V:=nv c x.x.V (wJ s)},inj:=nz c x.x (wJ s) x.inj x.sc,st:=x.st+1}
  else jP c {x with st:=x.st+1} s
 else x
def gj(c:Cf)(x:Mc)(s:St):An:=
 if sR s=true then
  if s.k=4 then⟨cp (bK c (ke c x.x) (a2 (ke c x.x) x.x.U)),(x.x.U:Int),l8⟩
  else if s.k=5 then if x.x.s.r.j.A=0 then⟨51,0,l8⟩ else⟨0,0,l8⟩
  else if s.k=6 then⟨0,0,l8⟩
  else if s.k=7 then⟨0,(x.x.s.g.l.length:Int),l8⟩
  else if s.k=8 then⟨gV c x.x.V.D (wJ s),0,l8⟩
  else Hh c x s
 else⟨60,0,l8⟩
structure StOk (s:St):Prop where
 d:s.d.length=64
 m:s.m<18446744073709551616
theorem VW(g e l r o q j t i f h p:Nat)(c:Cf)(x:Mc)(K A N:Nat)(u:eA c x K A N)(hA:A≤700000)(v:N≤1000)(X:K+260≤1000000000)(ht:x.x.s.time<1099511627776)(s:St)(hs:StOk s):aa gh 16 #[pt g 0,.agg (eSt s).toArray] [pk (bg g e l r o q j t i f h p c x)] [0] (λ_=>[pk (bg g e l r o q j t i f h p c (fq c x s))]) (λ_=> .agg (wI (gj c x s)).toArray):=by
 obtain⟨w,hm⟩:=hs;by_cases a:sR s=true
 ·have Y:=Vv a;unfold fq gj;rw[ALifp a,ALifp a];obtain⟨k,J,d,m,y,z,B,C,D,F,G,H⟩:=s;have b:K+3≤1000000000:=by omega
  by_cases R:k=4
  ·subst R;exact VJ g e l r o q j t i f h p c x K A N u hA v b J d w m y z B C D F G H a
  by_cases S:k=5
  ·subst S;by_cases I:x.x.s.r.j.A=0
   ·rw[ALifn (show ¬(5:Int)=4 by decide),ALifp rfl,ALifp I,ALifn (show ¬(5:Int)=4 by decide),ALifp rfl,ALifp I];exact VL g e l r o q j t i f h p c x K A N u hA v I J d w m y z B C D F G H a
   ·rw[ALifn (show ¬(5:Int)=4 by decide),ALifp rfl,ALifn I,ALifn (show ¬(5:Int)=4 by decide),ALifp rfl,ALifn I];exact VK g e l r o q j t i f h p c x K A N u hA v X I J d w m y z B C D F G H a
  by_cases T:k=6
  ·subst T;exact VM g e l r o q j t i f h p c x K A N u hA v ht J d w m y z B C D F G H a
  by_cases U:k=7
  ·subst U;exact VN g e l r o q j t i f h p c x K A N u hA v J d w m y z B C D F G H a
  by_cases V:k=8
  ·subst V;exact VO g e l r o q j t i f h p c x K A N u hA v J d w m y z B C D F G H a
  rw[ALifn R,ALifn S,ALifn T,ALifn U,ALifn V,ALifn R,ALifn S,ALifn T,ALifn U,ALifn V];unfold jP Hh;have Z:1≤k∧k≤8:=Y;by_cases I:bQ J ((jO c:Nat):Int)=true
  ·obtain⟨W,b2⟩:=lS.1 I;obtain⟨n,rfl⟩: ∃n:Nat,J=(n:Int):=⟨J.toNat,(Int.toNat_of_nonneg W).symm⟩;have O:n<jO c:=by omega
   rw[ALifp I,ALifp I];by_cases P:k=1
   ·subst P;exact VP g e l r o q j t i f h p c x K A N u hA v b n O d w m y z B C D F G H a
   by_cases Q:k=2
   ·subst Q;exact VQ g e l r o q j t i f h p c x K A N u hA v b n O d w m y z B C D F G H a
   obtain rfl:k=3:=by omega
   by_cases L:m=0
   ·subst L;exact VS g e l r o q j t i f h p c x K A N u hA v b n O d w y z B C D F G H a
   ·rw[ALifn (show ¬(3:Int)=1 by decide),ALifn (show ¬(3:Int)=2 by decide),ALifn L,ALifn (show ¬(3:Int)=1 by decide),ALifn (show ¬(3:Int)=2 by decide),ALifn L];exact VR g e l r o q j t i f h p c x K A N u hA v b n O d w m y z B C D F G H a hm L
  ·rw[ALifn I,ALifn I];have M:bQ J ((jO c:Nat):Int)=false:=by simpa using I
   by_cases P:k=1
   ·subst P;exact VT g e l r o q j t i f h p c x K A N u hA v b J M d w m y z B C D F G H a
   by_cases Q:k=2
   ·subst Q;exact VU g e l r o q j t i f h p c x K A N u hA v b J M d w m y z B C D F G H a
   obtain rfl:k=3:=by omega
   exact VV g e l r o q j t i f h p c x K A N u hA v b J M d w m y z B C D F G H a
 ·unfold fq gj;rw[ALifn a,ALifn a];exact VI g e l r o q j t i f h p c x K A N u hA v s.k s.ln s.d w s.m s.f0 s.f1 s.f2 s.f3 s.f4 s.f5 s.f6 s.f7 (by simpa [sR] using a)
theorem eA.mono{c:Cf}{x:Mc}{K A N d b e:Nat}(h:eA c x K A N)(f:K≤d)(hA:A≤b)(a:N≤e):eA c x d b e:=⟨h.ct.mono f hA,h.il,YU h.jl a,YU h.sl a,YU h.sc a,YU h.st a⟩
theorem Hi{c:Cf}{i:Int}(h:bQ i ((jO c:Nat):Int)=true):i.toNat<(c.R*c.B*c.M-c.res)*c.C:=by
 have:=lS.1 h;unfold jO at this;omega
theorem VX(c:Cf)(y:Ct)(f:Fa)(l:List Ij)(sc:Nat):(nz c y f l sc).length≤l.length+1:=by
 unfold nz;cases gV c y.V.D f==0
 ·exact Ze _
 ·exact Nat.le_of_eq YZ
theorem VY{c:Cf}{x:Mc}{K A N:Nat}(h:eA c x K A N){s:St}(hs:StOk s)(b:K+3≤1000000000):eA c (jP c x s) (K+3) (A+2) (N+1):=by
 have a:eA c x (K+3) (A+2) (N+1):=h.mono Om Om Om;unfold jP
 split
 ·rename_i f;have d:=Hi f;have e: ∀(l:List UInt8),l.length=64→∀k,(du x.id ((s.ln.toNat:Nat):Int) l k).length=64:=λl g k=>sS h.il _ g k;have mg: ∀m,(iM (x.id ((s.ln.toNat:Nat):Int)) s.d m).length=64:=λm=>(wh ..).trans (h.il _);have ls: ∀y:Sv,(x.sv++[y]).length≤N+1:=λy=>by rw[YZ];exact YY h.sl
  split
  ·exact⟨GS h.ct d _ b,h.il,a.jl,ls _,a.sc,a.st⟩
  ·split
   ·exact⟨Aq h.ct d hs.d _ b,e _ (mg _),a.jl,ls _,a.sc,a.st⟩
   ·split
    ·exact⟨Aq h.ct d hs.d _ b,h.il,a.jl,a.sl,a.sc,a.st⟩
    ·exact⟨Aq h.ct d hs.d _ b,e _ (mg _),a.jl,ls _,a.sc,a.st⟩
 ·exact a
theorem VZ{c:Cf}{x:Mc}{K A N:Nat}(h:eA c x K A N){s:St}(hs:StOk s)(f:K+260≤1000000000)(ht:x.x.s.time<1099511627776):eA c (fq c x s) (K+260) (A+3) (N+1):=by
 have a:eA c x (K+260) (A+3) (N+1):=h.mono Om Om Om;have d: ∀{y:Ct},bu c y (K+260) (A+3)→eA c {x with x:=y,st:=x.st+1} (K+260) (A+3) (N+1):=λg=>⟨g,a.il,a.jl,a.sl,a.sc,YY h.st⟩;unfold fq
 split
 ·split
  ·exact⟨(UH h.ct Om).mono Om Om,a.il,a.jl,a.sl,YY h.sc,YY h.st⟩
  ·split
   ·split
    ·exact d a.ct
    ·rename_i i;exact d (UW h.ct i f)
   ·split
    ·exact d ((UX h.ct ht).mono Om Om)
    ·split
     ·exact d ((UY h.ct).mono Om Om)
     ·split
      ·have g:bu c {x.x with V:=nv c x.x.V (wJ s)} K A:=⟨h.ct.cf,h.ct.s,T6 h.ct.D _,h.ct.gl,h.ct.vl,h.ct.nl,h.ct.ly,h.ct.run,h.ct.U,h.ct.time⟩;exact⟨g.mono Om Om,a.il,YU (VX ..) (YY h.jl),a.sl,a.sc,YY h.st⟩
      ·have g:eA c {x with st:=x.st+1} K A (N+1):=⟨h.ct,h.il,Y1 h.jl,Y1 h.sl,Y1 h.sc,YY h.st⟩;have e:=VY (x:={x with st:=x.st+1}) (N:=N+1) g hs Om;have b:(jP c {x with st:=x.st+1} s).sv.length≤N+1∧(jP c {x with st:=x.st+1} s).inj=x.inj∧(jP c {x with st:=x.st+1} s).sc=x.sc∧(jP c {x with st:=x.st+1} s).st=x.st+1:=by
        have ls: ∀y:Sv,(x.sv++[y]).length≤N+1:=λy=>by rw[YZ];exact YY h.sl
        unfold jP
        split
        ·split
         ·exact⟨ls _,rfl,rfl,rfl⟩
         ·split
          ·exact⟨ls _,rfl,rfl,rfl⟩
          ·split
           ·exact⟨a.sl,rfl,rfl,rfl⟩
           ·exact⟨ls _,rfl,rfl,rfl⟩
        ·exact⟨a.sl,rfl,rfl,rfl⟩
       exact⟨e.ct.mono Om Om,e.il,by rw[b.2.1];exact a.jl,b.1,by rw[b.2.2.1];exact a.sc,by rw[b.2.2.2];exact YY h.st⟩
 ·exact a
theorem V0(c:Cf)(x:Mc)(s:St):(jP c x s).x.s.time=x.x.s.time:=by
 unfold jP
 split
 ·split
  ·rfl
  ·split
   ·rfl
   ·split<;>rfl
 ·rfl
theorem V1(c:Cf)(x:Mc)(s:St):(fq c x s).x.s.time≤x.x.s.time+1:=by
 unfold fq
 split
 ·split
  ·exact Ze _
  ·split
   ·split
    ·exact Ze _
    ·exact Ze _
   ·split
    ·exact Zt _
    ·split
     ·exact Ze _
     ·split
      ·exact Ze _
      ·rw[V0];exact Ze _
 ·exact Ze _
def qD(M C r j:Nat):Nat:=bU r (j/C/M) (j/C%M) (j%C)
theorem V2{B M C b w c:Nat}(k:b<B)(f:w<M)(d:c<C):b*(M*C)+w*C+c<B*M*C∧(b*(M*C)+w*C+c)/C/M=b∧(b*(M*C)+w*C+c)/C%M=w∧(b*(M*C)+w*C+c)%C=c:=by
 have e:b*(M*C)+w*C+c=(b*M+w)*C+c:=by rw[ZA,Y2]
 have a:(b*(M*C)+w*C+c)/C=b*M+w:=by
  rw[e,Y6,ZB Om,Zb d,Zx]
 have g:(b*M+w)/M=b:=by rw[Y6,ZB Om,Zb f,Zx]
 have h:(b*M+w)%M=w:=by rw[Y6,ZC,Zc f]
 refine⟨?_,by rw[a,g],by rw[a,h],by rw[e,Y6,ZC,Zc d]⟩;rw[e];have i:b*M+w+1≤B*M:=by
  have:(b+1)*M≤B*M:=Y3 M k;rw[Zk] at this;omega
 have j:(b*M+w+1)*C≤B*M*C:=Y3 C i;rw[Zk] at j;omega
theorem V3{B M C r b w c:Nat}(g:b<B)(i:w<M)(h:c<C):((Y5 (B*M*C)).map (qD M C r))[b*(M*C)+w*C+c]? =some (bU r b w c):=by
 obtain⟨a,d,e,f⟩:=V2 g i h;rw[Zv,Zf a,Zy];unfold qD;rw[d,e,f]
theorem V4(a p1 p2 p3:Nat)(h0:a<8)(h1:p1<16)(h2:p2<1024)(b:p3<64):aa gh 102 #[.agg #[iN a,iN p1,iN p2,iN p3]] [] [] N0 (λ_=>i6 ((bU a p1 p2 p3:Nat):Int)):=by
 have:=EL (a:Int) p1 p2 p3 Om Om Om Om Om Om Om Om;rwa [vw] at this
theorem V5(m n R S B M C r:Nat)(s:cC R S B M C)(N:r<R+S):e4 5 gh 101 #[pt m 0,pt n 0] (λ(i:Nat)=>#[iN i]) ((Y5 (B*M*C)).map (qD M C r)) (Zg [[(m,.cells #[iN R,iN S,iN B,iN M,iN C] 23 (0,0))],[(n,.cells #[iN r] 3 (0,0))]]):=by
 have a:=s.bd;have q:=a.r8;have h:=a.b16;have G:=a.m10;have H:=a.c64;refine gi (KO:=[[(m,.cells #[iN R,iN S,iN B,iN M,iN C] 23 (0,0))],[(n,.cells #[iN r] 3 (0,0))]]) Tryz.func101 (λO T Q X V t J I=>?_);refine rF [(0,.l 0),(1,.l 1),(3,.c [] [] (aa.v ((sd R S B M C s (r:Int) 0 0 0)) λ_=>ALca Value.bool (show(hold R S B M C (r:Int) 0 0 0)=true from(by exact(ig.hold (p1:=0) (p2:=0) (p3:=0) ⟨N,a.b1,a.m1,a.c1⟩)))))] 11 (r0 [(1,.l 0)] [(13,iN B),(14,i6 0)] [] ?_);refine jW (λb=>b≤B) (λb=>[(14,iN b)]) (λ_ L=>L) (λb=>B-b) (λb=>b*(M*C)) 0 Om (by(rw[Zw]);exact I) Kr Kr (λb U W K k=>?_);refine r0 [] [(15,.bool (decide ((b:Int)<(B:Int))))] [] ?_;refine cc (b:Int) (B:Int) (λq o=>?_) λq o=>?_
 ·refine r0 [] [(4,iN b)] [] (r0 [(1,.l 0)] [(18,iN M),(19,i6 0)] [] ?_);refine jW (λw=>w≤M) (λw=>[(19,iN w)]) (λ_ L=>L) (λw=>M-w) (λw=>b*(M*C)+w*C) 0 Om (by(rw[Zw,Zx]);exact k) Kr Kr (λw x A u d=>?_);refine r0 [] [(20,.bool (decide ((w:Int)<(M:Int))))] [] ?_;refine cc (w:Int) (M:Int) (λh f=>?_) λh f=>?_
  ·refine r0 [] [(5,iN w)] [] (r0 [(1,.l 0)] [(23,iN C),(24,i6 0)] [] ?_);refine jW (λc=>c≤C) (λc=>[(24,iN c)]) (λ_ L=>L) (λc=>C-c) (λc=>b*(M*C)+w*C+c) 0 Om d Kr Kr (λc y D v e=>?_);refine r0 [] [(25,.bool (decide ((c:Int)<(C:Int))))] [] ?_;refine cc (c:Int) (C:Int) (λp g=>?_) λp g=>?_
   ·refine r0 [] [(6,iN c)] [] ?_;refine iy t J e 7 (λ_=>[(1,.l 1),(6,.c [] [] (V4 r b w c Om Om Om Om))]) (λ_=>[(27,.func (.yield O) #[] #[]),(33,i6 ((bU r b w c:Nat):Int))]) [] (λ_ L=>L) N0 [0,1] (V3 Om Om Om) (λP z F j=>?_);refine cF _ rfl (r0 [(0,ad c 1)] [(24,i6 ((c+1:Nat):Int))] [24] ?_);exact iG (c+1) Om j Om Kr [0,1] Kr
   obtain rfl:C=c:=by omega
   refine jX ?_;refine r0 [(0,ad w 1)] [(19,i6 ((w+1:Nat):Int))] [19] ?_;exact iG (w+1) Om (by(rw[Zk,←Nat.add_assoc]);exact e) Om Kr [0,1] Kr
  obtain rfl:M=w:=by omega
  refine jX ?_;refine r0 [(0,ad b 1)] [(14,i6 ((b+1:Nat):Int))] [14] ?_;exact iG (b+1) Om (by(rw[Zk]);exact d) Om Kr [0,1] Kr
 obtain rfl:B=b:=by omega
 refine jX ?_;exact kV t k (by rw[Y8,Y0,Y2]) [] [0,1]
theorem V6(R S B M C r:Nat):aa gh 66 #[.agg #[iN R,iN S,iN B,iN M,iN C],iN r] [] [] (λE=>[ob (E.y 0) #[iN R,iN S,iN B,iN M,iN C] 23,ob (E.y 1) #[iN r] 3]) (λE=> .func (.func 101) #[] #[pt ((E.y 0)) 0,pt ((E.y 1)) 0]):=by
 exact fG Tryz.func66 λw cs=>ra (λa=>[(2,pt (B0 a) 0),(3,pt (B1 a) 0),(4,.nilFunc)]) (λa=>[ob (B0 a) #[iN R,iN S,iN B,iN M,iN C] 23,ob (B1 a) #[iN r] 3]) λa=>r0 [] [(4,.func (.func 101) #[] #[pt (B0 a) 0,pt (B1 a) 0])] [4] (lf (.l [(a 0).y 0,(a 1).y 0] [] []) [0,1] [] [])
theorem V7(e g d p o q n a:Nat)(v:Value)(l:List Nt)(bs:aA)(m:aP Am v l bs)(M:l.length≤1000000)(B:n≤1000000):e4 5 gh 59 #[pt e 0,pt g 0] (λ(x:Nat×Nt)=>#[i6 (x.1:Int),.agg #[i6 (x.2.k:Int),i6 (x.2.v:Int),i6 (x.2.f:Int),i6 (x.2.i:Int),i6 (x.2.h:Int),i6 (x.2.r:Int)]]) ((Y5 (l.length-n)).map λk=>(n+k,l.getD (n+k) e3)) (Zg [[(e,.cells #[iN n] 3 (0,0))],[(g,.cells #[pt d 0] 37 (0,0))],[(d,.cells #[pt p 0,pt o 0,pt q 0,iN a,v] 119 (0,0))],bs]):=by
 refine gi (KO:=[[(e,.cells #[iN n] 3 (0,0))],[(g,.cells #[pt d 0] 37 (0,0))],[(d,.cells #[pt p 0,pt o 0,pt q 0,iN a,v] 119 (0,0))],bs]) Tryz.func59 (λC F D K I s z y=>?_);refine r0 [(0,.l 0),(1,.t (tv (Builtin.max_ #[3,3] 3 #[iN n,i6 0]) (λ_=>pH _ _ _ _)))] [(4,i6 (max (n:Int) 0))] [] ?_;refine jW (λk=>k≤(l.length-n)) (λk=>[(4,i6 ((n+k:Nat):Int))]) (λ_ L=>L) (λk=>(l.length-n)-k) (λk=>k) 0 Om y (by rw[GF];kernel_rfl) Kr (λk G J A c=>?_);refine r0 [(1,.l 1),(4,.l 2),(5,eD m.1 3)] [(13,.bool (decide (((n+k:Nat):Int)<(l.length:Int))))] [] ?_;refine cc ((n+k:Nat):Int) (l.length:Int) (λw j=>?_) λw j=>?_
 ·refine iy s z c 9 (λ_=>[(2,.l 1),(5,.l 2),(7,fh m.1 3 (n+k) 6),(8,m7 sY m.1 3 (n+k) 0 6)]) (λ_=>[(16,.func (.yield C) #[] #[]),(17,i6 ((n+k:Nat):Int)),(24,.agg #[i6 (((l.getD (n+k) e3).k:Nat):Int),i6 (((l.getD (n+k) e3).v:Nat):Int),i6 (((l.getD (n+k) e3).f:Nat):Int),i6 (((l.getD (n+k) e3).i:Nat):Int),i6 (((l.getD (n+k) e3).h:Nat):Int),i6 (((l.getD (n+k) e3).r:Nat):Int)])]) [] (λ_ L=>L) N0 [0,1,2,3] (nI Om) (λN H u b=>?_);refine cF _ rfl (r0 [(1,ad (n+k) 1)] [(4,i6 (((n+k)+1:Nat):Int))] [4] ?_);exact iG (k+1) Om b Om Kr [0,1,2,3] Kr
 refine jX ?_;exact kV s c (by(rw[Y8,Y0];omega)) [] [0,1,2,3]
section
section
variable {P:Program} {m m' l lr:Nat} {w:World} {Rp:Ending→World→Prop}
theorem V8{f:FuncId}{t:Array Value}{a b:Code}(h:RoundIn Fence.wide m P l f t a b w Rp):RoundIn Fence.wide m' P l f t a b w Rp:=⟨h.1,λc cs _=>h.2 c cs (room_wide _)⟩
theorem V9{f:FuncId}{t:Array Value}{a b:Code}(h:RoundIn Fence.wide m P l f t a b w Rp):RoundIn (Fence.wide.inRound lr) m' P l f t a b w Rp:=⟨h.1,λc cs _=>h.2 c cs (room_wide _)⟩
theorem Wb{args:Array Value}(h:YieldAt Fence.wide m P l args w Rp):YieldAt Fence.wide m' P l args w Rp:=
 let ⟨fn,t,a,b,h1,h2⟩:=h
 ⟨fn,t,a,b,h1,V8 h2⟩
end
theorem oz.lv{α:Type}{n n':Nat}{P:Program}{g:Nat}{lb:Array Value}{encs:α→Array Value}{xs:List α}{K:Nat→Prop}{St:(Nat→Prop)→World→Prop}(h:oz Fence.wide n P g lb encs xs K St):oz Fence.wide n' P g lb encs xs K St:=
 λl J Jx W O k o p q r f=>callsIn_wide.2 (callsIn_wide.1 (h l J Jx W O k o p q (λi x d e a b c=>Wb (r i x d e a b c)) f))
def Hj{α:Type}(P:Program)(l:Nat)(J Jx:Nat→(Nat→Prop)→World→Prop)(KO:aA)(W0:World)(encs:α→Array Value)(xs:List α):Prop:=
 ∀i x f a,xs[i]? =some x→J i f a→W0.heap.size≤a.heap.size→YieldAt Fence.wide 4 P l (encs x) a λe d=>∃c,gK (λb=>∃x∈KO,x.1=b) f c a d∧((e= .returned (.bool true)∧J (i+1) c d)∨(e= .returned (.bool false)∧Jx (i+1) c d))
def s5(P:Program)(fn:Func)(J Jx:Nat→(Nat→Prop)→World→Prop)(N:Nat):Exit→Act→World→Prop:=
 bodyPostM Fence.wide 5 P fn λe b=>(∃v,e= .returned v)∧((∃a,J N a b)∨∃i,i<N∧∃a,Jx (i+1) a b)
section
variable {α:Type} {P:Program} {gf:Nat} {fn:Func} {lb:Array Value} {encs:α→Array Value} {xs:List α} {KO:List aA} {J Jx:Nat→(Nat→Prop)→World→Prop} {W0:World} {l j:Nat}
theorem Wc(hf:P.funcs[gf]? =some fn)(h: ∀l J Jx W0 R,gA J→gA Jx→Hj P l J Jx KO.flatten W0 encs xs→Hid (fw J KO W0 0 R W0)→Go Fence.wide 5 P R W0 (s5 P fn J Jx xs.length) [.c (kp fn)] ⟨fn.ntmps,nQ 0 (.func (.yield l) #[] #[]::lb.toList)⟩ (KO.map .c) [])
  (n:(fn.body.isSome,Nat.ble (lb.size+1) fn.ntmps)=(true,true):=by kernel_rfl):e4 5 P gf lb encs xs KO.flatten:=by
 intro l J Jx W O f t d u x p;have b:fC J KO.flatten W [] 0 W:=⟨⟨O,p,λ_ h=>by simp at h,u⟩,Zt _,by simpa using f⟩;obtain⟨R,s,e⟩:=iT.start (iT.zero b);obtain⟨c,k⟩:=Option.isSome_iff_exists.1 (ALca (·.1) n);have y:lb.size+1≤fn.ntmps:=Nat.le_of_ble_eq_true (ALca (·.2) n);refine callsIn_of_wp_marks hf k trivial ?_ rfl;have o:(#[Value.func (.yield l) #[] #[]]++lb).size=lb.size+1:=by simp;omega
 have g:=(h l J Jx W R t d x s).out {tmps:=(#[Value.func (.yield l) #[] #[]]++lb)++Array.replicate (fn.ntmps-(#[Value.func (.yield l) #[] #[]]++lb).size) undef,defers:=[]} W ⟨by rw[Array.size_append,o,Array.size_replicate];show _=fn.ntmps;omega,λi v hv=>?_,rfl⟩ (by simpa using e.out)
 ·rw[show kp fn=c by unfold kp;rw[k];rfl] at g;exact g
 ·obtain⟨_,a⟩:=rv hv;rw[Nat.sub_zero] at a;have q:i<lb.size+1:=by have:=(List.getElem?_eq_some_iff.1 a).1;simpa using this
  have r:(#[Value.func (.yield l) #[] #[]]++lb)[i]? =some v:=by rw[←Array.getElem?_toList];simpa using a
  rw[Array.getD_eq_getD_getElem?,Array.getElem?_append_left (by rw[o];exact q),r];rfl
theorem wK{α β:Type}(f:α→β): ∀l:List α,(l.map λx=>[f x]).flatten=l.map f
 | []=>rfl
 | x::l=>by rw[List.map_cons,ZO,wK f l];rfl
theorem Ay{R:List Nat}{base W:World}(h:aH R base [] W):cr R base [] W:=by
 obtain⟨cs,b,a⟩:=h.conc;obtain rfl:=nD b;exact a
theorem Hk{N:Nat}{b:Act}{W:World}{Ds:List Nat}(c:fn.results.toList=[])(o:b.defers=Ds.map jS)(p:eh (Ds.map dM) W)(h: ∀a,cr ((Ds.map dM).map (·.1)) W [] a→(∃d,J N d a)∨∃i,i<N∧∃d,Jx (i+1) d a):s5 P fn J Jx N .ret b W:=by
 show LeavesInM Fence.wide 5 P fn b.tmps _ b.defers .returning W;rw[o];have k:aH ((Ds.map dM).map (·.1)) W ([]++Ds.map mk) W:=by
  have e:=aH.start (w:=W) (qW Ds) (by rw[wK];exact p);rw[wK] at e;exact e
 obtain⟨q,f,g⟩:=aH.seg (L:=[]) k;exact Bw f g [] (by rw[c];rfl) λa n=>⟨⟨_,rfl⟩,h a (Ay n)⟩
structure AI (J:Nat→(Nat→Prop)→World→Prop) (K Lo:aA) (W0:World) (j:Nat) (O1:Nat→Prop) (V:World):Prop where
 ex: ∃O,J j O V∧(∀x∈Lo,¬O x.1)∧∀b,O b→O1 b
 own: ∀x∈K++Lo,O1 x.1
 lt: ∀b,O1 b→b<V.heap.size
 sz:W0.heap.size≤V.heap.size
 has:eh (K++Lo) V
theorem AI.turn{K f:aA}{a:Nat→Prop}{V c:World}(i:gA J)(h:AI J K f W0 j a V)(t:eQ (λb=>¬a b) V c):AI J K f W0 j a c:=
 let ⟨O,h1,h2,h3⟩:=h.ex
 ⟨⟨O,i _ O V c h1 (t.mono λb d k=>d (h3 b k)),h2,h3⟩,h.own,λb d=>Y9 (h.lt b d) t.size,YU h.sz t.size,⟨λx g=>t.heap (λe=>e (h.own x g)) (h.has.obj x g),h.has.nd⟩⟩
theorem cr.turnA{R:List Nat}{base W:World}{L:aA}{S:Nat→Prop}(h:cr R base L W)(c: ∀b,b<base.heap.size→b∈R→¬S b→W.heap[b]? =base.heap[b]?):eQ S base W:=
 ⟨h.os,h.tape,h.output,h.size,λb a d=>if hx:b∈R then c b a hx d else h.far b a hx⟩
theorem Wd{R:List Nat}{base:World}{Q:Exit→Act→World→Prop}{S:List It}{a:Nat}{es:Fe}{L:ah}{A:World→Prop}{vs:Array Value}{lr:Nat}(N:Nat)(hs:bD→List (Nat×cb P))(h:bD→Fe)(dr:List Nat)(Le:bD→ah→ah)
  (F: ∀η W,aH R base (Le η L) W→YieldAt Fence.wide 4 P l vs W λe g=>(e= .returned (.bool true)∧A g)∨(e= .returned (.bool false)∧∀b,Q .ret b g))
  (hk: ∀η g,A g→Go (Fence.wide.inRound lr) 3 P [] g Q (bS S) ⟨a,(iF P (ay S) a ((ay S).drop (N+1)) ((iV S N,.bool true)::(h η++ek dr es))).1⟩ [] [])
  (he: ∀η,((lP S,true),(ff ((ay S).take N) ⟨a,es⟩ (tP N S ⟨a,es⟩ L (mR Le L) hs) η 0 ((ay S).take N) (nS N S ⟨a,es⟩ L hs η)).map a8.lhs,uC (eR S) (ay S) N (λk=>(jw (eR S) ((ay S).take N)).getD k []),(Y5 (mR Le L)).map (λp=>(tP N S ⟨a,es⟩ L (mR Le L) hs).at η p ((ay S).take N).length),(h η).map (λx=>kQ ((ay S).take N) ⟨a,es⟩ (tP N S ⟨a,es⟩ L (mR Le L) hs) η x.1),mq ((ay S).take N) es (h η) dr)=
   ((true,true),(ff ((ay S).take N) ⟨a,es⟩ (tP N S ⟨a,es⟩ L (mR Le L) hs) η 0 ((ay S).take N) (nS N S ⟨a,es⟩ L hs η)).map a8.rhs,true,(Le η L).map some,(h η).map (λx=>some x.2),true):=by intro _;kernel_rfl)
  (H: ∀η,(uE S N l a (h η++ek dr es) vs.toList,(iF P (ay S) a ((ay S).drop (N+1)) ((iV S N,.bool true)::(h η++ek dr es))).2.map a8.lhs,(iF P (ay S) a ((ay S).drop (N+1)) ((iV S N,.bool false)::(h η++ek dr es))).2.map a8.lhs,rG 10 (bS S) (iF P (ay S) a ((ay S).drop (N+1)) ((iV S N,.bool false)::(h η++ek dr es))).1)=
   ((true,some vs.toList,some (.func (.yield l) #[] #[])),(iF P (ay S) a ((ay S).drop (N+1)) ((iV S N,.bool true)::(h η++ek dr es))).2.map a8.rhs,(iF P (ay S) a ((ay S).drop (N+1)) ((iV S N,.bool false)::(h η++ek dr es))).2.map a8.rhs,true):=by intro _;kernel_rfl)
  (hm:P.follows .mixedOrders=true:=by kernel_rfl):Go (Fence.wide.inRound lr) 3 P R base Q S ⟨a,es⟩ L []:=by
 refine Cx hm N hs h dr Le (λη b W z hO=>?_) he;have f:=ALca (λx=>x.1) (H η);have s:=ALca (λx=>x.2.1) (H η);have t:=ALca (λx=>x.2.2.1) (H η);have u:=ALca (λx=>x.2.2.2) (H η);simp only at f s t u;obtain⟨T,y,K,O,D,i⟩:=F η W (by simpa using hO);unfold uE at f
 split at f
 ·rename_i o ho
  split at f
  ·rename_i xo I ats C;simp only[Prod.mk.injEq,ZP,Option.some.injEq] at f;obtain⟨⟨⟨⟨⟨g1,g2⟩,g3⟩,g4⟩,G⟩,g6,g7⟩:=f;obtain⟨d,B⟩:=Option.isSome_iff_exists.1 g4;have v:iV S N=d:=by unfold iV;rw[ho];simp [B]
   have Y:(ay S).drop N=o::(ay S).drop (N+1):=by
    obtain⟨Z,e⟩:=List.getElem?_eq_some_iff.1 (show(ay S)[N]? =some o from ho);rw[List.drop_eq_getElem_cons Z,e]
   rw[Y];have hw:Region.wanted o (yielded (ay S).toArray b.tmps)=true:=xQ z g1;unfold wpListIn;rw[ALifp hw];have hxo:b.eval xo= .func (.yield l) #[] #[]:=(m9 z g2).trans g7;have X:I.map b.eval=vs:=by
    apply Array.toList_inj.1;rw[Array.toList_map,←g6];exact List.map_congr_left λq hq=>m9 z (List.all_eq_true.1 g3 q hq)
   have r:(execOp b.eval o).run P W= .ok (.round l T y K O) W:=by
    unfold execOp;simp only[C,resolve,hxo,Deferred.ofValue,Sem.run_bind,Sem.run_pure,ZL,invoke];rw[X];simpa using D
   unfold Oper.wpIn;refine⟨λ_ _=>trivial,?_⟩;rw[Oper.semAt_plain (Fence.wide.inRound lr) _ o (λc hc=>by rw[C] at hc;cases hc),r,Oper.uponIn_round];refine⟨λ_=>by omega,(V9 i).mono ?_⟩;rintro e g (⟨rfl,U⟩ | ⟨rfl,U⟩)
   ·rw[v] at s;have h4:=hk η g U;rw[v] at h4;show wpListIn (Fence.wide.inRound lr) 3 P (ay S).toArray _ ((ay S).drop (N+1)) (b.put o.dst (.bool true)) g;rw[B];have V:d<a:=by rw[B] at G;exact ZQ▸G
    exact rE (z.put V _) (a8.all s) λM n=>h4.out M g n (xT g)
   ·rw[v] at t u;show wpListIn (Fence.wide.inRound lr) 3 P (ay S).toArray _ ((ay S).drop (N+1)) (b.put o.dst (.bool false)) g;rw[B];have V:d<a:=by rw[B] at G;exact ZQ▸G
    exact rE (z.put V _) (a8.all t) λM n=>xR 10 u n (U M)
  ·simp at f
 ·simp at f
theorem Hl{F:Fence}{n:Nat}{R:List Nat}{base:World}{Q:Exit→Act→World→Prop}{S:List It}{a:Sl}{L:ah}{Ds:List Nat}(h: ∀b W,Fr a Ds b→aH R base (L++Ds.map mk) W→Q .normal b W)(d:(nf S).isEmpty=true:=by kernel_rfl):Go F n P R base Q S a L Ds:=by
 refine⟨λb W e c=>dG 1000 S ?_⟩;rw[show dm 1000 S=[] from List.isEmpty_iff.1 d];exact h b W e c
end
end
section
section
variable {α:Type} {P:Program} {fn:Func} {encs:α→Array Value} {xs ys:List α} {KO LO KI:List aA} {J Jx:Nat→(Nat→Prop)→World→Prop} {W0:World} {l j:Nat} {R:List Nat} {base:World} {Q:Exit→Act→World→Prop} {S:List It} {sz:Nat} {es:Fe} {L:ah} {Ds:List Nat}
theorem We{K A M:aA}{d:Nat×Obj}(h:(K++(A++M)).Pairwise λx y=>x.1≠y.1)(a: ∀x∈K++(A++M),x.1≠d.1):(K++(A++d::M)).Pairwise λx y=>x.1≠y.1:=by
 have hp:ZH (K++(A++d::M)) (d::(K++(A++M))):=by
  rw[←Za,←Za];exact List.perm_middle
 refine(List.Perm.pairwise_iff (λ{x y} h=>Ne.symm h) hp).2 (List.pairwise_cons.2 ⟨λx b=>Ne.symm (a x b),h⟩)
theorem Wf{g2:Nat}{lb2:Array Value}(ea:α→Fe)(hJ:gA J)(hJx:gA Jx)(hY:Hj P l J Jx KO.flatten W0 encs xs)(hI:Hid (fw J KO W0 j R base))(hit:e4 5 P g2 lb2 encs ys KI.flatten)(eg:Enters P g2)
  (hys: ∀i y,ys[i]? =some y→xs[j+i]? =some y) (hQ: ∀b W,s5 P fn J Jx xs.length .ret b W→Q .ret b W) (hres:fn.results.toList=[])
  (ps:List Nat) (hKI: ∀x∈KI.flatten,x∈LO.flatten) (hKn:KI.flatten.Sublist LO.flatten)
  (hasg: ∀(lr:Nat) (y:α) (R1:List Nat) (W1:World) (Q1:Exit→Act→World→Prop),(∀b W,Fr ⟨sz,ea y++ek [] (gB (cj S) (encs y).toList++es)⟩ [] b→aH R1 W1 [] W→Q1 .normal b W)→Go (Fence.wide.inRound lr) 3 P R1 W1 Q1 [.c (jE S)] ⟨sz,gB (cj S) (encs y).toList++es⟩ [] [])
  (hbod: ∀(lr:Nat) (y:α) (R1:List Nat) (W1:World) (Q1:Exit→Act→World→Prop),(∀W,aH R1 W1 ((KO++LO).map .c) W→YieldAt Fence.wide 4 P l (encs y) W λe w=>(e= .returned (.bool true)∧∀b W'',aH [] w [] W''→Q1 .normal b W'')∨(e= .returned (.bool false)∧∀b,Q1 .ret b w))→Go (Fence.wide.inRound lr) 3 P R1 W1 Q1 [.c (kU S)] ⟨sz,ea y++ek [] (gB (cj S) (encs y).toList++es)⟩ ((KO++LO).map .c) [])
  (hk: ∀(D:Nat) (R':List Nat) (w:World),Hid (fw J KO W0 (j+ys.length) R' w)→Go Fence.wide 5 P R' w Q (bS S) ⟨sz,es⟩ ((KO++LO).map .c) (D::Ds))
  (hps: ∀x,(encs x).size=(cj S).length)
  (hc:(m8 S,(⟨sz,es⟩:Sl).ev (fV S),(cj S).all (Nat.blt · sz),dj (ps.map λp=>[p]).flatten,(ps.map λp=>[p]).map λg=>g.map λp=>L[p]?)=(true,.func (.func g2) #[] lb2,true,true,(((KO++LO).map aC.c).map λx=>[x]).map λN=>N.map some):=by kernel_rfl)
  (hkn:(match fV S with | .tmp i=>(lk es i).isSome | _=>true)=true:=by kernel_rfl):Go Fence.wide 5 P R base Q S ⟨sz,es⟩ L Ds:=by
 have c1:=ALca (λx=>x.1) hc;have c2:=ALca (λx=>x.2.1) hc;have c3:=ALca (λx=>x.2.2.1) hc;have c4:=ALca (λx=>x.2.2.2) hc;simp only at c1 c2 c3 c4;refine⟨λb W f hO=>dG 1000 S ?_⟩;rw[show dm 1000 S=_ from xO c1];show(Code.rangeFunc (fV S) (cj S).toArray (jE S) (kU S)).wpIn Fence.wide 5 P (c6 Fence.wide 5 P Q (bS S)) b W;have H:b.eval (fV S)= .func (.func g2) #[] lb2:=by
  rw[f.ev λi hi=>by rw[hi] at hkn;exact hkn];exact c2
 have hO1:aH R base (KO.map .c++(LO.map .c++Ds.map mk)) W:=by
  have h:=hO.under (L':=(KO++LO).map .c) λh=>h.pick ps _ c4;rwa [Zn,Za] at h
 obtain⟨ds,hds,A⟩:=fw.step hI hJ hO1;have e9:ds.flatten=LO.flatten++Ds.map dM:=by
  obtain⟨d1,d2,rfl,o,h2⟩:=nH hds;rw[Zs,rm o,pD h2]
 rw[e9] at A;obtain⟨m,d⟩: ∃m,LO.flatten++Ds.map dM=m:=⟨_,rfl⟩;rw[d] at A;obtain⟨O,hO0,hO2,hO3⟩:=A.ex;have q:=A.has;have Z: ∀x∈LO.flatten,x∈m:=λx a=>by rw[←d];exact ZI _ a
 have K: ∀x∈KI.flatten,x∈m:=λx a=>Z x (hKI x a);have B: ∀x∈KO.flatten++m,x.1<W.heap.size:=λx a=>(Array.getElem?_eq_some_iff.1 (q.obj x a)).1;have ndKI:KI.flatten.Pairwise λx y=>x.1≠y.1:=by
  have o:=(List.pairwise_append.1 q.nd).2.1;rw[←d] at o;exact(List.pairwise_append.1 o).1.sublist hKn
 have hA0:AI J KO.flatten m W0 (j+0) (λb=>b<W.heap.size) W:=⟨⟨O,hO0,hO2,hO3⟩,B,λ_ h=>h,A.sz,q⟩;refine By (F:=Fence.wide) (n:=5) rfl Om H trivial eg (oz.lv (n':=4) hit) (λb=>b<W.heap.size) ?_ (λ_ h=>h) ?_ (λx=>by rw[hps x];simp) (λi k V=>AI J KO.flatten m W0 (j+i) k V) (λc i k V=>c= .ret∧AI Jx KO.flatten m W0 (j+i) k V) (λi k V V' h t=>h.turn hJ t) (λc i k V V' h t=>⟨h.1,h.2.turn hJx t⟩) hA0 ?_ ?_ ?_
 ·intro V hV k _;exact⟨λx a=>(hV x.1 (B x (YW _ (K x a)))).trans (q.obj x (YW _ (K x a))),ndKI⟩
 ·rintro b ⟨x,a,rfl⟩;exact B x (YW _ (K x a))
 ·intro lr i y k V hy hsz hA;have hsz2:(encs y).toList.length=(cj S).length:=by rw[Array.length_toList];exact hps y
  have hlt: ∀p∈cj S,p<b.tmps.size:=λp hp=>by rw[f.size];exact ZQ▸List.all_eq_true.1 c3 p hp
  have hfr:Fr ⟨sz,gB (cj S) (encs y).toList++es⟩ [] {tmps:=g5 b.tmps (cj S).toArray (encs y),defers:=[]}:=by
   have ee:encs y=(encs y).toList.toArray:=by simp
   refine⟨?_,λi v hv=>?_,rfl⟩
   ·show(g5 b.tmps (cj S).toArray (encs y)).size=sz;rw[ee,uB];exact f.size
   ·show(g5 b.tmps (cj S).toArray (encs y)).getD i undef=v;rw[ee,uA _ _ _ i hsz2.symm hlt];simp only[pN] at hv;cases o:lk (gB (cj S) (encs y).toList) i with
    | some u=>rw[o] at hv;cases hv;rfl
    | none=>rw[o] at hv;exact f.get i v hv
  have o:=(hasg lr y [] V (λe b' Wa=>e= .normal∧Fr ⟨sz,ea y++ek [] (gB (cj S) (encs y).toList++es)⟩ [] b'∧aH [] V [] Wa) λb' Wa o h2=>⟨rfl,o,h2⟩).out _ V hfr (xT V);refine wpIn_mono (show(jE S).wpIn (Fence.wide.inRound lr) 3 P _ _ V from o) λe a' Wa hq=>?_;obtain⟨rfl,hf',hO'⟩:=hq;have sO:=Ay hO';refine⟨k,⟨sO.size,λ_ _ h=>h,λb h=>Y9 (hA.lt b h) sO.size,λb f _=>sO.far b f (by simp)⟩,λU hU hUs=>?_⟩;have z:AI J KO.flatten m W0 (j+i) k U:=(hA.turn hJ (sO.turnA λb _ a _=>by simp at a)).turn hJ hU;have hHU:eh (KO++LO).flatten U:=by
   rw[Zs];have hs:(KO.flatten++LO.flatten).Sublist (KO.flatten++m):=by rw[←d,←Za];exact Zl _ _
   exact⟨λx a=>z.has.obj x (hs.subset a),z.has.nd.sublist hs⟩
  have oU:aH (bN (KO++LO).flatten) U ((KO++LO).map .c) U:=aH.start (uh _) hHU;refine(hbod lr y (bN (KO++LO).flatten) U (Bx (λb=>∃x∈KI.flatten,x.1=b) (λi k V=>AI J KO.flatten m W0 (j+i) k V) (λc i k V=>c= .ret∧AI Jx KO.flatten m W0 (j+i) k V) (i+1) k U) λW2 h2=>?_).out a' U hf' (by rw[List.map_nil,Zo];exact oU);obtain⟨cs2,hs2,G⟩:=h2.conc;rw[rm hs2] at G;have Y: ∀b,b<U.heap.size→W2.heap[b]? =U.heap[b]? :=λb f=>by
   by_cases a:b∈bN (KO++LO).flatten
   ·obtain⟨x,s,rfl⟩:=List.mem_map.1 a;exact(G.obj x s).trans (hHU.obj x s).symm
   ·exact G.far b f a
  have tU: ∀T:Nat→Prop,eQ T U W2:=λT=>⟨G.os,G.tape,G.output,G.size,λb f _=>Y b f⟩;have r:AI J KO.flatten m W0 (j+i) k W2:=z.turn hJ (tU _);obtain⟨O,q1,X,q3⟩:=r.ex;obtain⟨fn',t',ag',bd',r1,r2⟩:=hY (j+i) y O W2 (hys i y hy) q1 r.sz;refine⟨fn',t',ag',bd',r1,r2.mono ?_⟩;rintro e w ⟨O',H,h4⟩;have lt2: ∀x∈KO.flatten++m,x.1<W2.heap.size:=λx a=>(Array.getElem?_eq_some_iff.1 (r.has.obj x a)).1;have gr:gK (λb=>∃x∈KI.flatten,x.1=b) k (λb=>k b∨O' b) U w:=by
   refine⟨YU G.size H.size,λb f h=>?_,λb h=>?_,λb f hk=>?_⟩
   ·exact h.elim id λh=>q3 b (H.old b (Y9 f G.size) h)
   ·exact h.elim (λh=>Y9 (z.lt b h) (YU G.size H.size)) (H.new b)
   ·refine(H.keep b (Y9 f G.size) (.inl ?_)).trans (Y b f);rcases hk with hk | ⟨x,a,rfl⟩
    ·exact λM=>hk (q3 b M)
    ·exact X x (K x a)
  have ai: ∀{J':Nat→(Nat→Prop)→World→Prop},J' (j+i+1) O' w→AI J' KO.flatten m W0 (j+(i+1)) (λb=>k b∨O' b) w:=λh=>
   ⟨⟨O',h,λx a M=>X x a (H.old _ (lt2 x (YW _ a)) M),λb h=> .inr h⟩,λx a=> .inl (z.own x a),λb h=>gr.new b h,YU r.sz H.size,
    ⟨λx a=>(H.keep x.1 (lt2 x a) ((List.mem_append.1 a).elim (λh=> .inr ⟨x,h,rfl⟩) λh=> .inl (X x h))).trans (r.has.obj x a),r.has.nd⟩⟩
  rcases h4 with⟨rfl,h5⟩ | ⟨rfl,h5⟩
  ·refine .inl ⟨rfl,λb' W'' h=>?_⟩;have s3:=Ay h;exact⟨_,gr.trans ⟨s3.size,λ_ _ h=>h,λb h=>Y9 (gr.new b h) s3.size,λb f _=>s3.far b f (by simp)⟩,(ai h5).turn hJ (s3.turnA λb _ a _=>by simp at a)⟩
  ·exact .inr ⟨rfl,λb'=>⟨_,gr,rfl,ai h5⟩⟩
 ·intro D k V hD C hA hd;have hI2:iT J KO W0 (LO.map .c++(D::Ds).map mk) (j+ys.length) V:=by
   refine⟨LO++(D::Ds).map (λD=>[dM D]),kj (uh LO) (qW _),?_⟩;have ef:(LO++(D::Ds).map (λD=>[dM D])).flatten=LO.flatten++dM D::Ds.map dM:=by
    rw[Zs,wK];rfl
   rw[ef];obtain⟨O,q1,X,q3⟩:=hA.ex;have I: ∀x∈KO.flatten++m,x.1≠D:=λx a e=>C (e▸hA.own x a);refine⟨⟨O,q1,λx a=>?_,λb h=>hA.lt b (q3 b h)⟩,hA.sz,⟨λx a=>?_,?_⟩⟩
   ·rcases List.mem_append.1 a with a | a
    ·exact X x (Z x a)
    ·rcases List.mem_cons.1 a with rfl | a
     ·exact λM=>C (q3 _ M)
     ·exact X x (by rw[←d];exact YW _ a)
   ·rcases List.mem_append.1 a with a | a
    ·exact hA.has.obj x (ZI _ a)
    ·rcases List.mem_append.1 a with a | a
     ·exact hA.has.obj x (YW _ (Z x a))
     ·rcases List.mem_cons.1 a with rfl | a
      ·exact hd
      ·exact hA.has.obj x (YW _ (by rw[←d];exact YW _ a))
   ·rw[←d] at I;exact We (by rw[d];exact hA.has.nd) I
  obtain⟨R',hC,hO5⟩:=iT.start hI2;refine(hk D R' V hC).out _ V ⟨f.size,f.get,by show jS D::b.defers=_;rw[f.defers];rfl⟩ ?_;rw[Zn,Za];exact hO5.out
 ·rintro D c i k V hD C hi ⟨rfl,hA⟩ hd;obtain⟨O,q1,X,q3⟩:=hA.ex;have I: ∀x∈KO.flatten++m,x.1≠D:=λx a e=>C (e▸hA.own x a);have hM:eh ((D::Ds).map dM) V:=by
   refine⟨λx a=>?_,?_⟩
   ·rcases List.mem_cons.1 a with rfl | a
    ·exact hd
    ·exact hA.has.obj x (YW _ (by rw[←d];exact YW _ a))
   ·have o:=(List.pairwise_append.1 hA.has.nd).2.1;rw[←d] at o;exact List.pairwise_cons.2 ⟨λx a=>Ne.symm (I x (YW _ (by rw[←d];exact YW _ a))),(List.pairwise_append.1 o).2.1⟩
  refine wpIn_ret (gN (hQ _ V (Hk (Ds:=D::Ds) hres (by show jS D::b.defers=_;rw[f.defers];rfl) hM λw hW=> .inr ⟨j+i,?_,O,?_⟩)))
  ·obtain⟨y,hy⟩:=List.getElem?_eq_some_iff.2 ⟨hi,rfl⟩ |>λh=>(⟨_,h⟩: ∃y,ys[i]? =some y);exact(List.getElem?_eq_some_iff.1 (hys i y hy)).1
  ·refine hJx _ O V w q1 (hW.turnA λb _ a hn=>?_);obtain⟨x,s,rfl⟩:=List.mem_map.1 a;refine absurd (λM=>?_) hn;rcases List.mem_cons.1 s with rfl | s
   ·exact C (q3 _ M)
   ·exact X x (by rw[←d];exact YW _ s) M
def Hm(J:Nat→(Nat→Prop)→World→Prop)(KO:List aA)(W0:World)(I:Nat→Prop)(e:Nat→Fe)(a:Nat→ah)(m c:Nat→Nat)(sz:Nat)(st:Fe)(i:Nat)(b:Act)(W:World):Prop:=∃(k:Nat) (E:List Nat) (R:List Nat) (base:World),I k∧Hid (fw J KO W0 (c k) R base)∧m k<i∧Fr ⟨sz,e k++st⟩ E b∧aH R base (a k++E.map mk) W
def Az(P:Program)(J:Nat→(Nat→Prop)→World→Prop)(KO:List aA)(W0:World)(Q:Exit→Act→World→Prop)(S:List It)(I:Nat→Prop)(e:Nat→Fe)(a:Nat→ah)(m c:Nat→Nat)(sz:Nat)(st:Fe)(i:Nat):Exit→Act→World→Prop
 | .normal,b,W=>Hm J KO W0 I e a m c sz st i b W
 | x,b,W=>c6 Fence.wide 5 P Q S x b W
theorem Wg(I:Nat→Prop)(e:Nat→Fe)(o:Nat→ah→ah)(m c:Nat→Nat)(f:Nat)(h0:I f)(v:Hid (fw J KO W0 (c f) R base))(q:((e f).map λx=>lk es x.1)=(e f).map λx=>some x.2)(w:L=o f L)
  (F: ∀(k:Nat) (E:List Nat) (p:List Nat) (d:World),I k→Hid (fw J KO W0 (c k) p d)→Go Fence.wide 5 P p d (Az P J KO W0 Q (bS S) I e (λk=>o k L) m c sz (jC S es) (m k)) [.c (gw S)] ⟨sz,e k++jC S es⟩ (o k L) E) (y:nP S=true:=by kernel_rfl):Go Fence.wide 5 P R base Q S ⟨sz,es⟩ L Ds:=by
 classical
 refine⟨λb W z r=>dG 1000 S ?_⟩;rw[show dm 1000 S=_ from uq y];show(Code.loop (gw S)).wpIn Fence.wide 5 P (c6 Fence.wide 5 P Q (bS S)) b W
 let g:Nat→Act→World→Prop:=Hm J KO W0 I e (λk=>o k L) m c sz (jC S es)
 let μ:Act→World→Nat:=λb W=>if h: ∃j,g j b W then Zj (kR h) else 0
 have u: ∀b W,(∃j,g j b W)→g (μ b W) b W∧∀i,i<μ b W→¬g i b W:=by
  intro b W h;have e:μ b W=Zj (kR h):=dif_pos h;rw[e];exact Zz (kR h)
 refine wpIn_loop (λb W=>∃j,g j b W) μ ⟨m f+1,f,Ds,R,base,h0,v,Nat.lt_succ_self _,Fr.stay (a:=⟨sz,es⟩) z q,by have h:=r;rw[w] at h;exact h⟩ λb W n=>?_;obtain⟨k,E,p,d,B,hC,D,A,r⟩:=(u b W n).1;refine wpIn_mono (show(gw S).wpIn Fence.wide 5 P _ b W from(F k E p d B hC).out b W A r) λe t s q=>?_;cases e with
 | normal=>
  have n:g (m k) t s:=q;exact⟨⟨_,n⟩,Zu (ZR λC=>(u t s ⟨_,n⟩).2 _ C n) D⟩
 | _=>exact q
theorem Wh{I:Nat→Prop}{e:Nat→Fe}{n:Nat→ah}{m c:Nat→Nat}{o:List It}{d:Nat}{st:Fe}{i:Nat}(k:Nat)(q:I k)(hC:Hid (fw J KO W0 (c k) R base))(w:m k<i)(v:((e k++st).map λx=>lk es x.1)=(e k++st).map λx=>some x.2)(f:List Nat)(r:(dj (f.map λp=>[p]).flatten,(f.map λp=>[p]).map λg=>g.map λp=>L[p]?)=(true,((n k).map λx=>[x]).map λN=>N.map some))(t:(nf S).isEmpty=true:=by kernel_rfl)(y:sz=d:=by rfl):
  Go Fence.wide 5 P R base (Az P J KO W0 Q o I e n m c d st i) S ⟨sz,es⟩ L Ds:=by
 subst y;refine⟨λb W u s=>dG 1000 S ?_⟩;rw[show dm 1000 S=[] from List.isEmpty_iff.1 t];exact⟨k,Ds,R,base,q,hC,w,Fr.told (a:=⟨sz,es⟩) u v,s.under λh=>h.pick f _ r⟩
theorem Wi{I:Nat→Prop}{e:Nat→Fe}{h:Nat→ah}{m c:Nat→Nat}{a:List It}{d:Nat}{st:Fe}{i:Nat}(g:Go Fence.wide 5 P R base Q ((jV S a).getD []) ⟨sz,es⟩ L Ds)(n:(jV S a).isSome=true:=by kernel_rfl):Go Fence.wide 5 P R base (Az P J KO W0 Q a I e h m c d st i) S ⟨sz,es⟩ L Ds:=by
 obtain⟨p,f⟩:=Option.isSome_iff_exists.1 n;rw[f] at g;exact⟨λb W o k=>ur f (g.out b W o k) λ_=>rfl⟩
theorem Wj(n:gA J)(s:Hid (fw J KO W0 j R base))(z:j=xs.length)(m:List Nat)
  (hp:(dj (m.map λp=>[p]).flatten,(m.map λp=>[p]).map λg=>g.map λp=>L[p]?)=(true,((KO.map aC.c).map λx=>[x]).map λN=>N.map some):=by kernel_rfl) (d:fn.results.toList=[]:=by kernel_rfl) (v:(nf S).isEmpty=true:=by kernel_rfl):Go Fence.wide 5 P R base (s5 P fn J Jx xs.length) S ⟨sz,es⟩ L Ds:=by
 refine⟨λb W y u=>dG 1000 S ?_⟩;rw[show dm 1000 S=[] from List.isEmpty_iff.1 v];have e:aH R base (KO.map .c++Ds.map mk) W:=u.under λh=>h.pick m _ hp;obtain⟨D,f,a⟩:=fw.step s n e;have q:=pD f;rw[q] at a;obtain⟨O,B,C,F⟩:=a.ex;have t:eh (Ds.map dM) W:=⟨λx i=>a.has.obj x (YW _ i),(List.pairwise_append.1 a.has.nd).2.1⟩;have r:s5 P fn J Jx xs.length .ret b W:=Hk (Ds:=Ds) d y.defers t λo w=> .inl ⟨O,by
  rw[←z];refine n _ O W o B (w.turnA λb _ i A=>?_);obtain⟨x,k,rfl⟩:=List.mem_map.1 i;exact absurd (C x k) A⟩
 exact r
end
end
def iD(B M C i:Nat):Nat:=qD M C (i/(B*M*C)) (i%(B*M*C))
def wL(R S B M C:Nat):List Nat:=(Y5 ((R+S)*(B*M*C))).map (iD B M C)
theorem Wk{R S B M C k i y:Nat}(c:k<R+S)(h:((Y5 (B*M*C)).map (qD M C k))[i]? =some y):(wL R S B M C)[k*(B*M*C)+i]? =some y:=by
 have a:i<B*M*C:=by have:=(List.getElem?_eq_some_iff.1 h).1;simpa using this
 rw[Zv,Zf a,Zy] at h;have b:k*(B*M*C)+i<(R+S)*(B*M*C):=by
  have:(k+1)*(B*M*C)≤(R+S)*(B*M*C):=Y3 _ c;rw[Zk] at this;omega
 unfold wL;rw[Zv,Zf b,Zy];unfold iD;rw[Y6 k,ZB Om,Zb a,ZC,Zc a,Zx];exact h
theorem Wl{R S B M C:Nat}(b:cC R S B M C)(k:Nat):hold R S B M C (k:Int) 0 0 0=decide ((k:Int)<((R+S:Nat):Int)):=by
 have a:=b.bd;have c:=a.b1;have d:=a.m1;have e:=a.c1;unfold hold bQ;rw[c0 (show(0:Int)≤(k:Int) by omega),c0 (show(0:Int)<(B:Int) by omega),c0 (show(0:Int)<(M:Int) by omega),c0 (show(0:Int)<(C:Int) by omega)];simp
theorem Wm(j R S B M C:Nat)(m:cC R S B M C):e4 5 gh 103 #[pt j 0] (λ(i:Nat)=>#[iN i]) (wL R S B M C) (Zg [[(j,.cells #[iN R,iN S,iN B,iN M,iN C] 23 (0,0))]]):=by
 refine Wc (KO:=[[(j,.cells #[iN R,iN S,iN B,iN M,iN C] 23 (0,0))]]) Tryz.func103 (λq O N V T r o G A=>?_);refine ra (λg=>[(2,pt (B0 g) 0)]) (λg=>[ob (B0 g) #[.func (.yield q) #[] #[]] 65]) λg=>r0 [] [(3,i6 0)] [] ?_;refine Wg (KO:=[[(j,.cells #[iN R,iN S,iN B,iN M,iN C] 23 (0,0))]]) (λk=>k≤R+S) (λk=>[(3,iN k)]) (λ_ L=>L) (λk=>R+S-k) (λk=>k*(B*M*C)) 0 Om (by rw[Zw];exact A) Kr Kr (λk E Q U I e=>?_);refine r0 [(0,.l 0),(3,.c [] [] (aa.v (sd R S B M C m (k:Int) 0 0 0) λ_=>ALca Value.bool (Wl m k)))] [(8,.bool (decide ((k:Int)<((R+S:Nat):Int))))] [] ?_;refine cc (k:Int) ((R+S:Nat):Int) (λw n=>?_) λw n=>?_
 ·refine rr (λ_=>[(0,.l 0),(2,.c [] [2,3] (V6 R S B M C k))]) (λa=>[(13,.func (.func 101) #[] #[pt (B2 a) 0,pt ((a 2).y 1) 0])]) [] (λa L=>L++[ob (B2 a) #[iN R,iN S,iN B,iN M,iN C] 23,ob ((a 2).y 1) #[iN k] 3]) λa=>?_;have f:k<R+S:=by omega
  have z:=m.bd.r8;refine Wf (encs:=λ(i:Nat)=>#[iN i]) (λy=>[(4,iN y)]) (LO:=[[((g 0).y 0,.cells #[.func (.yield q) #[] #[]] 65 (0,0))],[((a 2).y 0,.cells #[iN R,iN S,iN B,iN M,iN C] 23 (0,0))],[((a 2).y 1,.cells #[iN k] 3 (0,0))]]) (KI:=[[((a 2).y 0,.cells #[iN R,iN S,iN B,iN M,iN C] 23 (0,0))],[((a 2).y 1,.cells #[iN k] 3 (0,0))]]) r o G e (V5 (B2 a) ((a 2).y 1) R S B M C k m f) (enters_of Tryz.func101 Kr rfl) (λi y h=>Wk f h) (λb W h=>gN h) Kr [0,1,2,3] (λx J=>List.mem_cons_of_mem _ J) (List.sublist_cons_self _ _) (λK y t v s h=>?asg) (λK y t v s h=>?bod) (λD P u d=>?rest) (λ_=>rfl)
  case asg=>
   refine r0 [] [(4,iN y)] [] ?_;exact Hl λb W H p=>h b W H (by simpa using p)
  case bod=>
   refine Wd 2 (λ_=>[(0,.l 1)]) (λ_=>[(15,.func (.yield q) #[] #[]),(16,iN y)]) [] (λ_ L=>L) (vs:=#[iN y]) (λη W F=>h W F) (λη u hA=>?_);refine cF _ rfl ?_;exact Hl λb W _ p=>hA b W (by simpa using p)
  case rest=>
   refine r0 [(1,ad k 1)] [(3,i6 ((k+1:Nat):Int))] [3] ?_;exact Wh (k+1) Om (by rw[Y8,Y0] at d;rw[Zk];exact d) Om Kr [0,1] Kr
 refine Wi ?_;exact Wj r e (by unfold wL;rw[Y8,Y0,show k=R+S by omega]) [0]
section
theorem Wn(R S B M C:Nat):aa gh 67 #[.agg #[iN R,iN S,iN B,iN M,iN C]] [] [] (λE=>[ob (E.y 0) #[iN R,iN S,iN B,iN M,iN C] 23]) (λE=> .func (.func 103) #[] #[pt ((E.y 0)) 0]):=by
 exact fG Tryz.func67 λw cs=>ra (λa=>[(1,pt (B0 a) 0),(2,.nilFunc)]) (λa=>[ob (B0 a) #[iN R,iN S,iN B,iN M,iN C] 23]) λa=>r0 [] [(2,.func (.func 103) #[] #[pt (B0 a) 0])] [2] (lf (.l [(a 0).y 0] [] []) [0] [] [])
theorem Wo{R S B M C:Nat}(c:cC R S B M C){i:Nat}(d:i<(R+S)*(B*M*C)):iD B M C i<8388608∧fY R S B M C ((iD B M C i:Nat):Int)=true:=by
 have b:=c.bd;have l:=b.m1;have k:=b.c1;have f:0<B*M*C:=Nat.pos_of_ne_zero λe=>by rw[e,Nat.mul_zero] at d;omega
 have g:i/(B*M*C)<R+S:=ZM (by rw[Y6];exact d);have h:i%(B*M*C)<B*M*C:=ZD _ f;have j:i%(B*M*C)/C/M<B:=by
  rw[Nat.div_div_eq_div_mul];have e:C*M*B=B*M*C:=by rw[Y6 (C*M) B,Y6 C M,Y2]
  exact ZM (by rw[e];exact h)
 have a:ig R S B M C (i/(B*M*C)) (i%(B*M*C)/C/M) (i%(B*M*C)/C%M) (i%(B*M*C)%C):=⟨g,j,ZD _ l,ZD _ k⟩;refine⟨zr b a,?_⟩;show fY R S B M C ((bU _ _ _ _:Nat):Int)=true;rw[←vw];exact Ad c a.hold
def eP(c:Cf):Nat→Dv
 | 0=>sU
 | k+1=>iC (eP c k) ((iD c.B c.M c.C k:Nat):Int) (fe c.E z6 ((iD c.B c.M c.C k:Nat):Int) false) (bif false then 1 else 0)
theorem AA(c:Cf): ∀k,iB c (eP c k).D∧(∀i,((eP c k).W i).length=72)∧(eP c k).l.length≤k
 | 0=>⟨T2 c,λ_=>YV,Zt _⟩
 | k+1=>by
  obtain⟨a,b,d⟩:=AA c k;refine⟨Gy a _ (qx _ YV _ _),sS b _ (qx _ YV _ _),?_⟩;show((eP c k).l++[_]).length≤k+1;rw[YZ];exact YY d
theorem Wp(c:Cf)(k:Nat):eP c (k+1)=iC (eP c k) ((iD c.B c.M c.C k:Nat):Int) (fe c.E z6 ((iD c.B c.M c.C k:Nat):Int) false) (bif false then 1 else 0):=rfl
attribute [local irreducible] eP
theorem Wq(gd ge:Nat)(c:Cf)(V:Dv):aa gh 113 #[pt ge 0] [pk (bk gd ge c V)] [0] (λ_=>[pk (bk gd ge c V)]) (λ_=> .agg #[iN c.R,iN c.S,iN c.B,iN c.M,iN c.C]):=
 aa.inW (T4 ge c V.D) λL ⟨gm,a,v,e⟩=>⟨1,by rw[e];rfl,gm,a,v,by rw[e];rfl⟩
theorem Hn(gd ge:Nat)(c:Cf)(V:Dv):aa gh 107 #[pt ge 0] [pk (bk gd ge c V)] [0] (λ_=>[pk (bk gd ge c V)]) (λ_=>iN c.E):=
 aa.inW (Ab ge c V.D) λL ⟨gm,a,v,e⟩=>⟨1,by rw[e];rfl,gm,a,v,by rw[e];rfl⟩
theorem Ws(gd ge:Nat)(c:Cf)(d:cZ c):aa gh 82 #[.agg (cA c),pt gd 0] [pk (bk gd ge c (eP c 0))] [0] (λE=>[pk (bk gd ge c (eP c ((c.R+c.S)*(c.B*c.M*c.C)))),ob (E.y 0) #[pt ((E.y 1)) 0,pt gd 0,pt ((E.y 2)) 0,i6 0,.slice none 0 0] 119,ob (E.y 1) #[iN c.R,iN c.S,iN c.B,iN c.M,iN c.C,iN c.G,iN c.res,iN c.E,iN c.lr,iN c.er,iN c.lp,iN c.ep,iN c.J,iN c.I,iN c.log,.bool c.X,pt ((E.y 3)) 0,pt ((E.y 4)) 0,pt ((E.y 5)) 0,i6 0] 122,pk (dL (E.y 2)),pk (au (E.y 3) (((E.y 6))) (((E.y 7))) ⟨lU c.R c.S c.B c.M c.C c.G c.res,lW,[]⟩),pk (aF (E.y 4) (((E.y 8))) (pf c.lr c.er c.lp c.ep c.J c.I c.R)),pk (aB (E.y 5) (o8 c.log))]) (λE=> .tuple #[pt ((E.y 0)) 0,i6 0]):=by
 have p:=d.O;have v:(c.R+c.S)*(c.B*c.M*c.C)≤4096:=by have u:=p.bd.all;rwa [Y2,Y2,←Y2 c.B] at u
 have x:z6.length=64:=YV;refine fG Tryz.func82 λw cs=>ra (λo=>[(2,pt (B0 o) 0),(4,.pointer none),(5,i6 0)]) (λo=>[ob (B0 o) (cA c) 31]) λo=>rF [(0,.l 1),(1,.c [] [] (zW c d))] 10 (rF [(1,.c [0] [0] (Ah gd ge c (eP c 0))),(2,.c [0] [0] (Wq gd ge c (eP c 0))),(5,.l 1),(6,.t (TH.cast (iS 23 λ_ _ _=>jB (xs:=[iN c.R,iN c.S,iN c.B,iN c.M,iN c.C]) (ys:=[iN c.R,iN c.S,iN c.B,iN c.M,iN c.C]) Kr ba) (show Value.bool (!((c.R:Int)==(c.R:Int)&&((c.S:Int)==(c.S:Int)&&((c.B:Int)==(c.B:Int)&&((c.M:Int)==(c.M:Int)&&((c.C:Int)==(c.C:Int)&&true))))))= .bool false from ALca Value.bool (by simp))))] 14 (rF [(1,.c [0] [0] (Ah gd ge c (eP c 0))),(2,.c [0] [0] (Hn gd ge c (eP c 0))),(4,.l 1),(5,.t (tk (show Value.bool ((c.E:Int) != (c.E:Int))= .bool false from ALca Value.bool (by simp))))] 22 (rr (λ_=>[(0,.l 1),(1,.c [] [2,3,4,5] (SO c d))]) (λa=>[(6,pt ((B1 a)) 0),(7,i6 0)]) [] (λa L=>L++[ob (B1 a) #[iN c.R,iN c.S,iN c.B,iN c.M,iN c.C,iN c.G,iN c.res,iN c.E,iN c.lr,iN c.er,iN c.lp,iN c.ep,iN c.J,iN c.I,iN c.log,.bool c.X,pt (((a 1).y 1)) 0,pt (((a 1).y 2)) 0,pt (((a 1).y 3)) 0,i6 0] 122,pk (au ((a 1).y 1) (((a 1).y 4)) (((a 1).y 5)) ⟨lU c.R c.S c.B c.M c.C c.G c.res,lW,[]⟩),pk (aF ((a 1).y 2) (((a 1).y 6)) (pf c.lr c.er c.lp c.ep c.J c.I c.R)),pk (aB ((a 1).y 3) (o8 c.log))]) λa=>rF [] 35 (rr (λ_=>[(2,.c [] [6] (Ul)),(6,.s 8)]) (λb=>[(8,pt (B5 b) 0)]) [] (λb L=>L++[pk (dL (B2 b)),ob (B4 b) #[pt ((B1 a)) 0,pt gd 0,pt ((B2 b)) 0,i6 0,.slice none 0 0] 119,ob (B5 b) #[pt (B4 b) 0] 37]) λb=>rr (λ_=>[(2,.l 1),(3,.c [] [9] (Wn c.R c.S c.B c.M c.C))]) (λh=>[(45,.func (.func 103) #[] #[pt ((B3 h)) 0])]) [] (λh L=>L++[ob (B3 h) #[iN c.R,iN c.S,iN c.B,iN c.M,iN c.C] 23]) λh=>?_))));refine nR (encs:=λ(i:Nat)=>#[iN i]) (xs:=(Y5 ((c.R+c.S)*(c.B*c.M*c.C))).map (iD c.B c.M c.C)) (KO:=[[((B3 h),.cells #[iN c.R,iN c.S,iN c.B,iN c.M,iN c.C] 23 (0,0))]]) (Wm (B3 h) c.R c.S c.B c.M c.C p) (enters_of Tryz.func103 Kr rfl) (λk=>k≤(c.R+c.S)*(c.B*c.M*c.C)) (λk L=>L.set 0 ((pk (bk gd ge c (eP c k))))) [9] Om Kr (λD k F z B r e=>?_) (λy e=>?_)
 ·obtain⟨g,rfl⟩:=mi r;have j:=Wo p g;have m:=j.1;have n:=j.2;have f:=AA c k;have q:nu c (eP c k):=⟨f.1,f.2.1,YU f.2.2 Om⟩;refine r0 [] [(9,i6 ((iD c.B c.M c.C k:Nat):Int))] [] ?_;refine ag [9] (λA C=>?_);exact rs [(0,.l 8),(3,.c [7,2,6,0] [6,0] (pr (B4 b) (B1 a) ((a 1).y 1) ((a 1).y 2) ((a 1).y 3) gd ge (B2 b) c d 0 0 (.slice none 0 0) (eP c k) q (iD c.B c.M c.C k) m n z6 ba false))] 0 ((pk (bk gd ge c (iC (eP c k) ((iD c.B c.M c.C k):Int) (fe c.E z6 ((iD c.B c.M c.C k):Int) false) (bif false then 1 else 0))))) (ne _ ⟨Om,rfl⟩ [0,1,2,3,4,5,6,7,8,9] (by rw[Wp];kernel_rfl))
 refine cl [pk (bk gd ge c (eP c ((c.R+c.S)*(c.B*c.M*c.C)))),ob (B0 o) (cA c) 31,ob (B1 a) #[iN c.R,iN c.S,iN c.B,iN c.M,iN c.C,iN c.G,iN c.res,iN c.E,iN c.lr,iN c.er,iN c.lp,iN c.ep,iN c.J,iN c.I,iN c.log,.bool c.X,pt (((a 1).y 1)) 0,pt (((a 1).y 2)) 0,pt (((a 1).y 3)) 0,i6 0] 122,pk (au ((a 1).y 1) (((a 1).y 4)) (((a 1).y 5)) ⟨lU c.R c.S c.B c.M c.C c.G c.res,lW,[]⟩),pk (aF ((a 1).y 2) (((a 1).y 6)) (pf c.lr c.er c.lp c.ep c.J c.I c.R)),pk (aB ((a 1).y 3) (o8 c.log)),pk (dL (B2 b)),ob (B4 b) #[pt ((B1 a)) 0,pt gd 0,pt ((B2 b)) 0,i6 0,.slice none 0 0] 119,ob (B5 b) #[pt (B4 b) 0] 37,ob (B3 h) #[iN c.R,iN c.S,iN c.B,iN c.M,iN c.C] 23] (by rw[Y8,Y0];kernel_rfl) ?_;simp only[Y8,Y0] at e;exact r0 [(0,.l 8)] [(4,pt (B4 b) 0),(5,i6 0)] [4,5] (lf (.l [(b 4).y 0,(B1 a),(B2 b),((a 1).y 1),((a 1).y 2),((a 1).y 3),(a 1).y 4,(a 1).y 5,(a 1).y 6] [] []) [0,7,2,6,3,4,5] [] [])
end
theorem aa.outsP{P:Program}{f:FuncId}{args:Array Value}{rd:ah}{O:List Nat}{wt wt':ab→ah}{v:ab→Value}(h:aa P f args rd O wt v)(o: ∀E ds,bo (wt E) ds→∃a,bo (wt' E) a∧ZH a.flatten ds.flatten):aa P f args rd O wt' v:=
 ⟨h.ent,λw cs m l=>(callsIn_wide (n:=6)).1 ((callsIn_wide.2 (h.out w cs m l)).mono λe p k=>by
  obtain⟨E,ds,g,i,b⟩:=k;obtain⟨a,j,c⟩:=o E ds i;exact⟨E,a,g,j,⟨b.os,b.tape,b.output,b.size,λx d=>b.obj x (c.mem_iff.1 d),λx d=>b.new x (c.mem_iff.1 d),(c.pairwise_iff (λ{x y} h=>Ne.symm h)).2 b.nd,b.far⟩⟩)⟩
theorem Wt{ds:List aA}{is js:List Nat}(h:ZH is js):ZH (is.map λi=>ds.getD i []).flatten (js.map λi=>ds.getD i []).flatten:=(h.map _).flatten
def s6(c:Cf):Ct:=⟨⟨⟨lU c.R c.S c.B c.M c.C c.G c.res,lW,[]⟩,pf c.lr c.er c.lp c.ep c.J c.I c.R,o8 c.log,0⟩,0,[],eP c ((c.R+c.S)*(c.B*c.M*c.C))⟩
def ak(c:Cf):Mc:=⟨s6 c,λ_=>pv,[],[],0,0⟩
theorem Wu(gd ge:Nat)(c:Cf)(j:cZ c):aa gh 82 #[.agg (cA c),pt gd 0] [pk (bk gd ge c sU)] [0] (λE=>[pk (aV (E.y 0) (E.y 1) (E.y 3) (E.y 6) (E.y 7) (E.y 4) (E.y 8) (E.y 5) gd ge (E.y 2) c (s6 c))]) (λE=> .tuple #[pt (E.y 0) 0,i6 0]):=by
 refine(Ws gd ge c j).outsP λE ds a=>?_;obtain⟨b,_,rfl,k,a⟩:=Yp a;obtain⟨d,_,rfl,l,a⟩:=Yp a;obtain⟨e,_,rfl,m,a⟩:=Yp a;obtain⟨f,_,rfl,n,a⟩:=Yp a;obtain⟨g,_,rfl,o,a⟩:=Yp a;obtain⟨h,_,rfl,p,a⟩:=Yp a;obtain⟨i,_,rfl,q,a⟩:=Yp a;obtain rfl:=nD a;refine⟨[([d,e,g,h,i,f,b,[]]:List aA).flatten],⟨⟨_,[d,e,g,h,i,f,b,[]],⟨.slice none 0 0,rfl⟩,⟨l,m,o,p,q,n,k,ar.nil none,trivial⟩,rfl⟩,trivial⟩,?_⟩;have hp:=Wt (ds:=[b,d,e,f,g,h,i]) (is:=[1,2,4,5,6,3,0]) (js:=[0,1,2,3,4,5,6]) Dc;simpa using hp
theorem Wv(c:Cf)(e:cZ c):aa gh 48 #[.agg (cA c)] [] [] (λE=>[ob (E.y 0) #[pt ((E.y 10)) 0,pt ((E.y 1)) 0,.map (some (E.y 2)),.slice none 0 0,.slice none 0 0,i6 0,i6 0] 114,pk (aV (E.y 1) ((E.y 3)) ((E.y 4)) ((E.y 5)) ((E.y 6)) ((E.y 7)) ((E.y 8)) ((E.y 9)) ((E.y 10)) ((E.y 11)) ((E.y 12)) c (s6 c)),cX (λ_=>pv) (E.y 2)]) (λE=> .tuple #[pt ((E.y 0)) 0,i6 0]):=by
 exact fG Tryz.func48 λw cs=>ra (λf=>[(1,pt (B0 f) 0),(2,.pointer none),(3,i6 0)]) (λf=>[ob (B0 f) (cA c) 31]) λf=>rr (λ_=>[(2,.l 0),(4,.l 0),(5,.c [] [1] (Uk c e))]) (λb=>[(4,pt ((B5 b)) 0),(5,i6 0)]) [] (λb L=>L++[pk (bk (B5 b) ((b 5).y 1) c sU)]) λb=>rF [] 17 (rr (λ_=>[(0,.l 0),(2,.c [1] [1] (Wu (B5 b) ((b 5).y 1) c e))]) (λa=>[(6,pt ((B2 a)) 0),(5,i6 0)]) [5] (λa L=>L.set 1 ((pk (aV (B2 a) ((a 2).y 1) ((a 2).y 3) ((a 2).y 6) ((a 2).y 7) ((a 2).y 4) ((a 2).y 8) ((a 2).y 5) (B5 b) ((b 5).y 1) ((a 2).y 2) c (s6 c))))) λa=>rF [] 26 (rr (λ_=>[(2,.m (mm 2 wG pv))]) (λd=>[(2,pt (B4 d) 0),(3,i6 0)]) [2,3] (λd L=>L++[cX (λ_=>pv) (B2 d),ob (B4 d) #[pt ((B5 b)) 0,pt ((B2 a)) 0,.map (some (B2 d)),.slice none 0 0,.slice none 0 0,i6 0,i6 0] 114]) λd=>lf (.l [(d 4).y 0,(B2 a),(d 2).y 0,(a 2).y 1,(a 2).y 3,(a 2).y 6,(a 2).y 7,(a 2).y 4,(a 2).y 8,(a 2).y 5,(b 5).y 0,(b 5).y 1,(a 2).y 2] [] []) [3,1,2] [] []))
theorem Ww{R S B M C way a:Nat}(h:ij R S B M C way a):bp (lU R S B M C way a):=
 ⟨h,Y0,YV,YV,Y7 _,Y7 _,λi c=>by
  show(Y5 _).getD i 0<_;have b:i<R*B*M-a:=c;rw[Y4,Zf b];show i<R*B*M;omega,λi c=> .inl (by
  show(mz R (-1:Int)).getD i 0= -1;have b:i<R:=c;rw[Y4,ZE,ALifp b];rfl)⟩
theorem Ho{α:Type}(n i:Nat)(d:α):(mz n d).getD i d=d:=by
 rw[Y4,ZE]
 split<;>rfl
theorem Wx{ev:Nat}(h:1≤ev):eY ev bh.l bh.a:=⟨Y7 _,h⟩
theorem Wy{c:Cf}(h:cZ c):cR (s6 c).s 1:=by
 refine⟨⟨Ww h.ly,⟨.inl rfl⟩,λa d=>absurd d Zm,Y7 _,⟨λx _=>Ho _ _ _⟩⟩,⟨h.r,h.p,h.h1,h.h2,?_,λi b=>?_,⟨Y7 _,h.m1,h.m2,λi b=>absurd b (ZS _)⟩⟩,⟨Y7 _,h.l1,h.l2,by show 1≤1000000000;omega⟩,Zt _,YV⟩
 ·have e:=h.O.bd.r8;show(mz c.R bh).length≤8;rw[YV];omega
 ·show eY c.er ((mz c.R bh).getD i bh).l ((mz c.R bh).getD i bh).a;rw[Ho];exact Wx h.r.e1
theorem Wz{c:Cf}(h:cZ c):eA c (ak c) 1 4096 0:=by
 have b:=h.O.bd;have a:(c.R+c.S)*(c.B*c.M*c.C)≤4096:=by have g:=b.all;rwa [Y2,Y2,←Y2 c.B] at g
 obtain⟨d,e,f⟩:=AA c ((c.R+c.S)*(c.B*c.M*c.C));refine⟨⟨h,Wy h,d,e,YU f a,Y7 _,⟨rfl,rfl,rfl,rfl,rfl,rfl,rfl⟩,λq=>absurd rfl q,?_,Y7 _⟩,λ_=>YV,Y7 _,Y7 _,Y7 _,Y7 _⟩;have:=h.ly.rp;exact Nat.mul_pos Om b.c1
theorem WA(c:Cf)(a:cZ c):aa gh 48 #[.agg (cA c)] [] [] (λE=>[pk (bg (E.y 0) (E.y 1) (E.y 3) (E.y 4) (E.y 5) (E.y 6) (E.y 7) (E.y 8) (E.y 9) (E.y 10) (E.y 11) (E.y 12) c (ak c))]) (λE=> .tuple #[pt (E.y 0) 0,i6 0]):=
 (Wv c a).outs λE d b=>GC ⟨_,_,_,rfl⟩ b
theorem WB{j k:Nat}(b:k≤j)(h:(((2^j:Nat):Int)==((2^k:Nat):Int))=false):k+1≤j:=by
 rcases Nat.lt_or_ge k j with a | a
 ·exact a
 ·obtain rfl:k=j:=Nat.le_antisymm b a;simp at h
theorem Hp{j k a:Nat}(b:k≤j)(h:2^j≤a):((2^k:Nat):Int)≤(a:Int):=by
 have:=Nat.pow_le_pow_right (n:=2) Dc b;omega
theorem WC(j a:Nat)(h:2^j≤a)(i:a≤1024):aa gh 111 #[i6 ((2^j:Nat):Int),iN a] [] [] N0 (λ_=> .bool true):=by
 refine fG Tryz.func111 λw cs=>r0 [] [(4,.bool false)] [] (r0 [] [(5,i6 1)] [] ?_);refine lq (λk=>k≤j) (λk=>[(5,i6 ((2^k:Nat):Int))]) (λ_ L=>L) (λk=>j-k) 0 Om Kr Kr (λk c=>?_);have d:=c;have f:=Hp d h;refine rT [(2,.t (tk (show Value.bool (decide (((2^k:Nat):Int)≤(a:Int)))= .bool true from ALca Value.bool (by exact c0 (Hp As h)))))] 8 (r0 [] [(13,.bool (((2^j:Nat):Int)==((2^k:Nat):Int)))] [] ?_);refine cE ((2^j:Nat):Int) ((2^k:Nat):Int) (λe b=>?_) λe b=>?_
 ·exact r0 [] [(4,.bool true)] [] (lf ab.zero [] [] [])
 refine r0 [(1,ml (2^k) 2)] [(5,i6 (((2^k)*2:Nat):Int))] [5] ?_;have g:k+1≤j:=WB As As;exact le (k+1) Om Om Kr [] Kr
theorem WD{n b:Nat}(f:b≤1024)(h:fl (n:Int) (b:Int)=true): ∃j,n=2^j∧2^j≤b:=by
 have c:=EI Om h;have d:=mC h;simp only[List.mem_cons,Zm,or_false] at c;have a: ∀j,n=2^j→∃j,n=2^j∧2^j≤b:=λj e=>⟨j,e,by rw[←e];omega⟩;rcases c with h | h | h | h | h | h | h | h | h | h | h
 ·exact a 0 h
 ·exact a 1 h
 ·exact a 2 h
 ·exact a 3 h
 ·exact a 4 h
 ·exact a 5 h
 ·exact a 6 h
 ·exact a 7 h
 ·exact a 8 h
 ·exact a 9 h
 ·exact a 10 h
theorem wN(n a:Nat)(b:a≤1024)(h:fl (n:Int) (a:Int)=true):aa gh 111 #[iN n,iN a] [] [] N0 (λ_=> .bool true):=by
 obtain⟨j,rfl,c⟩:=WD b h;exact WC j a c b
structure WE (R S B M C:Nat):Prop where
 r:fl (R:Int) 8=true
 b:fl (B:Int) 16=true
 m:fl (M:Int) 1024=true
 c:fl (C:Int) 64=true
theorem cC.p{R S B M C:Nat}(h:cC R S B M C):WE R S B M C:=by
 have h:=h.ok;unfold ja at h;simp only[ZP,decide_eq_true_eq] at h;obtain⟨⟨⟨⟨⟨⟨a,e⟩,f⟩,b⟩,c⟩,d⟩,g⟩:=h;exact⟨a,b,c,d⟩
theorem WG(R S B M C:Nat)(g:cC R S B M C):aa gh 80 #[.agg #[iN R,iN S,iN B,iN M,iN C]] [] [] N0 (λ_=> .bool true):=by
 have b:=g.p;have a:=g.bd;have l:=a.r8;have i:=a.b16;have h:=a.m10;have j:=a.c64;have e:=a.all;have f:(R+S)*B*M≤4096:=YU (Zd _ a.c1) e;have k:(R+S)*B≤4096:=YU (Zd _ a.m1) f;exact fG Tryz.func80 λw cs=>ra (λd=>[(1,pt (B0 d) 0),(2,.bool false)]) (λd=>[ob (B0 d) #[iN R,iN S,iN B,iN M,iN C] 170]) λd=>rF [(1,.m (ld 0 (iN R))),(2,.c [] [] (wN R 8 Om (by exact b.r))),(6,.m (ld 0 (iN B))),(7,.c [] [] (wN B 16 Om (by exact b.b))),(12,.m (ld 0 (iN M))),(13,.c [] [] (wN M 1024 Om (by exact b.m))),(18,.m (ld 0 (iN C))),(19,.c [] [] (wN C 64 Om (by exact b.c))),(24,.m (ld 0 (iN S))),(25,.t (tk (show Value.bool (decide ((S:Int)<0))= .bool false from ALca Value.bool (by exact bj Om)))),(29,.m (ld 0 (iN S))),(31,.m (ld 0 (iN R))),(32,sI 8 ((R:Int)) Om),(33,.t (tk (show Value.bool (decide ((8-(R:Int))<(S:Int)))= .bool false from ALca Value.bool (by exact bj Om))))] 37 (r0 [(1,.m (ld 0 (iN R))),(3,.m (ld 0 (iN S))),(4,ad R S),(6,.m (ld 0 (iN B))),(7,ml (R+S) B),(9,.m (ld 0 (iN M))),(10,ml ((R+S)*B) M),(12,.m (ld 0 (iN C))),(13,ml (((R+S)*B)*M) C),] [(2,.bool (decide ((((((R+S)*B)*M)*C:Nat):Int)≤4096)))] [2] (aq (.bool (decide ((((((R+S)*B)*M)*C:Nat):Int)≤4096))) ab.zero (by exact ALca Value.bool (c0 Om)) [] [] []))
theorem WH(r s b m c way g mode n j k i a heavy f:Int)(e:Bool)(h:mK r s b m c way g mode n j k i a heavy f=false):aa gh 47 #[.agg #[i6 r,i6 s,i6 b,i6 m,i6 c,i6 way,i6 g,i6 mode,i6 n,i6 j,i6 k,i6 i,i6 a,i6 heavy,i6 f,.bool e]] [] [] N0 (λ_=> .bool false):=by
 exact fG Tryz.func47 λw cs=>ra (λo=>[(1,pt (B0 o) 0),(2,.bool false)]) (λo=>[ob (B0 o) #[i6 r,i6 s,i6 b,i6 m,i6 c,i6 way,i6 g,i6 mode,i6 n,i6 j,i6 k,i6 i,i6 a,i6 heavy,i6 f,.bool e] 31]) λo=>rr (λ_=>[(2,.l 0),(4,.s 1)]) (λp=>[(3,pt (B3 p) 0)]) [] (λp L=>L++[ob (B3 p) #[i6 r,i6 s,i6 b,i6 m,i6 c] 23]) λp=>r0 [(0,.m (ls 0 ([i6 r,i6 s,i6 b,i6 m,i6 c,i6 way,i6 g,i6 mode,i6 n,i6 j,i6 k,i6 i,i6 a,i6 heavy,i6 f,.bool e]))),(1,.c [] [] (aa.v ((FX r s b m c way g mode n j k i a heavy f e)) λ_=>ALca Value.bool (show(mK r s b m c way g mode n j k i a heavy f)=false from(by exact h)))),(3,.d),(4,.d),(7,.d),(8,.d),(9,.d),(10,.d),(11,.d),(12,.d),(13,.d),(14,.d),(15,.d),(16,.d),(17,.d),(18,.d),(19,.d),(20,.d),(21,.d)] [(2,.bool false)] [2] (lf ab.zero [] [] [])
theorem Hq(c:Cf)(b:cZ c):aa gh 47 #[.agg (cA c)] [] [] N0 (λ_=> .bool (decide ((((((c.R+c.S)*c.B)*c.M)*c.C:Nat):Int)≤100))):=by
 have h:=b.O;have a:=h.bd;have j:=a.r8;have f:=a.all;have g:(c.R+c.S)*c.B*c.M≤4096:=YU (Zd _ a.c1) f;have i:(c.R+c.S)*c.B≤4096:=YU (Zd _ a.m1) g;exact fG Tryz.func47 λw cs=>ra (λd=>[(1,pt (B0 d) 0),(2,.bool false)]) (λd=>[ob (B0 d) (cA c) 31]) λd=>rr (λ_=>[(2,.l 0),(4,.s 1)]) (λe=>[(3,pt (B3 e) 0)]) [] (λe L=>L++[ob (B3 e) #[iN c.R,iN c.S,iN c.B,iN c.M,iN c.C] 23]) λe=>r0 [(0,.m (ls 0 ([iN c.R,iN c.S,iN c.B,iN c.M,iN c.C,iN c.G,iN c.res,iN c.E,iN c.lr,iN c.er,iN c.lp,iN c.ep,iN c.J,iN c.I,iN c.log,.bool c.X]))),(1,.c [] [] (zW c b)),(3,.m (ls 1 ([iN c.R,iN c.S,iN c.B,iN c.M,iN c.C]))),(4,.c [] [] (WG c.R c.S c.B c.M c.C h)),(8,.m (ld 1 (iN c.R))),(10,.m (ld 1 (iN c.S))),(11,ad c.R c.S),(13,.m (ld 1 (iN c.B))),(14,ml (c.R+c.S) c.B),(16,.m (ld 1 (iN c.M))),(17,ml ((c.R+c.S)*c.B) c.M),(19,.m (ld 1 (iN c.C))),(20,ml (((c.R+c.S)*c.B)*c.M) c.C),] [(2,.bool (decide ((((((c.R+c.S)*c.B)*c.M)*c.C:Nat):Int)≤100)))] [2] (lf ab.zero [] [] [])
def ou(c:Cf):Bool:=decide ((c.R+c.S)*c.B*c.M*c.C≤100)
theorem WI(r s b m c way f mode k i j g a heavy e:Int)(d:Bool)(h:mK r s b m c way f mode k i j g a heavy e=false):aa gh 12 #[.agg #[i6 r,i6 s,i6 b,i6 m,i6 c,i6 way,i6 f,i6 mode,i6 k,i6 i,i6 j,i6 g,i6 a,i6 heavy,i6 e,.bool d]] [] [] N0 (λ_=> .pointer none):=by
 exact fG Tryz.func12 λw cs=>ra (λn=>[(1,pt (B0 n) 0),(2,.pointer none)]) (λn=>[ob (B0 n) #[i6 r,i6 s,i6 b,i6 m,i6 c,i6 way,i6 f,i6 mode,i6 k,i6 i,i6 j,i6 g,i6 a,i6 heavy,i6 e,.bool d] 31]) λn=>rT [(0,.l 0),(1,.c [] [] (WH r s b m c way f mode k i j g a heavy e d h))] 7 (r0 [] [(2,.pointer none)] [2] (lf ab.zero [] [] []))
theorem Hr(x:Int):aa gh 173 #[i6 x] [] [] N0 (λ_=> .agg (rB 3 ([aN x,aN (x/256),(aN (x/65536))&&& (127:UInt8)])).toArray):=by
 exact fG Tryz.func173 λw cs=>ra (λe=>[(2,pt (B0 e) 0)]) (λe=>[ob (B0 e) (rB 3 (mz 3 0)).toArray 262]) λe=>rs [(1,.t (tc (k:= .i64) (l:= .u8) (a:=i6 x) λ_ _ _ c d=>ox c d)),(3,.t (tv (av .shr 3 (.tmp 5) (.const (u6 8)) (i6 x) (u6 8)) (λ_=>iE 8 Dc))),(4,.t (tc (k:= .i64) (l:= .u8) (a:=i6 (x/256)) λ_ _ _ c d=>ox c d)),(6,.t (tv (av .shr 3 (.tmp 8) (.const (u6 16)) (i6 x) (u6 16)) (λ_=>iE 16 Dc))),(7,.t (tc (k:= .i64) (l:= .u8) (a:=i6 (x/65536)) λ_ _ _ c d=>ox c d)),(8,.t (tb (a:=u1 ((aN (x/65536)).toNat:Int)) (b:=u1 127) λ_ _ _ _=>xn (aN (x/65536)) ((127:UInt8)))),(10,.s 0)] 0 (ob (B0 e) (rB 3 ([aN x,aN (x/256),(aN (x/65536))&&& (127:UInt8)])).toArray 262) (lf ab.zero [] [] [0])
def ow(mode:Nat)(a b:Int):Bool:=(bif (mode:Int)==1 then((pc ((a%8388608).toNat)%2:Nat):Int) != ((pc ((b%8388608).toNat)%2:Nat):Int) else !(decide ([aN a,aN (a/256),(aN (a/65536))&&& (127:UInt8)]=[aN b,aN (b/256),(aN (b/65536))&&& (127:UInt8)])))
theorem WJ(mode:Nat)(a b:Int):aa gh 135 #[iN mode,i6 a,i6 b] [] [] N0 (λ_=> .bool (ow mode a b)):=by
 refine fG Tryz.func135 λw cs=>r0 [] [(6,.bool false)] [] (r0 [] [(8,.bool ((mode:Int)==1))] [] ?_);refine cE (mode:Int) 1 (λe d=>?_) λe d=>?_
 ·exact r0 [(1,.c [] [] (uY a)),(3,.c [] [] (uY b))] [(6,.bool (((pc ((a%8388608).toNat)%2:Nat):Int) != ((pc ((b%8388608).toNat)%2:Nat):Int)))] [6] (aq (.bool (((pc ((a%8388608).toNat)%2:Nat):Int) != ((pc ((b%8388608).toNat)%2:Nat):Int))) ab.zero (by((try simp only[ow]);(repeat (first | rw[e] | rw[ALct])))<;>rfl) [] [] [])
 exact r0 [(1,.c [] [] (Hr a)),(3,.c [] [] (Hr b)),(4,.t (iS 262 λ_ _ _=>jB (xs:=rB 3 ([aN a,aN (a/256),(aN (a/65536))&&& (127:UInt8)])) (ys:=rB 3 ([aN b,aN (b/256),(aN (b/65536))&&& (127:UInt8)])) Kr (jA (show([aN a,aN (a/256),(aN (a/65536))&&& (127:UInt8)]).length=3 by rfl) (show([aN b,aN (b/256),(aN (b/65536))&&& (127:UInt8)]).length=3 by rfl))))] [(6,.bool (!(decide ([aN a,aN (a/256),(aN (a/65536))&&& (127:UInt8)]=[aN b,aN (b/256),(aN (b/65536))&&& (127:UInt8)]))))] [6] (aq (.bool (!(decide ([aN a,aN (a/256),(aN (a/65536))&&& (127:UInt8)]=[aN b,aN (b/256),(aN (b/65536))&&& (127:UInt8)])))) ab.zero (by((try simp only[ow]);(repeat (first | rw[e] | rw[ALcf])))<;>rfl) [] [] [])
def s7(a:Int)(x:Ac):Int:=(bif !(kd x) then max a (bif x.mr then(x.ex+1) else x.ex) else a)
def s8(a:Bool)(x:Ac):Bool:=(bif !(kd x) then a else true)
def s9(dr:Bool)(x:Ac):Bool:=(bif !(kd x) then dr else(dr||x.dr)||(decide (0<x.ex)))
def ta(tl:Bool)(mode:Nat)(x:Ac):Bool:=(bif !(kd x) then tl else(bif ((!x.wr)&&(!x.dr))&&(!(ow mode x.ix x.wt)) then false else tl))
theorem WK(e:Int)(b d f:Bool)(mode:Nat)(x:Ac)(h0:0≤x.ex)(h1:x.ex≤1000000):aa gh 108 #[.agg #[i6 e,.bool b,.bool d,.bool f],iN mode,.agg #[.bool x.wr,i6 x.ix,i6 x.wt,.bool x.dr,i6 x.ex,.bool x.mr]] [] [] N0 (λ_=> .agg #[i6 (s7 e x),.bool (s8 b x),.bool (s9 d x),.bool (ta f mode x)]):=by
 refine fG Tryz.func108 λw cs=>ra (λa=>[(3,pt (B0 a) 0),(5,pt (B1 a) 0),(6,pt (B2 a) 0)]) (λa=>[ob (B0 a) #[i6 e,.bool b,.bool d,.bool f] 166,ob (B1 a) #[.bool x.wr,i6 x.ix,i6 x.wt,.bool x.dr,i6 x.ex,.bool x.mr] 90,ob (B2 a) #[i6 0,.bool false,.bool false,.bool false] 166]) λa=>r0 [(0,.l 1),(1,.c [] [] (GH x))] [(10,.bool (!(kd x)))] [] ?_;refine cB (!(kd x)) (λh=>?_) λh=>?_
 ·refine r0 [(1,.l 1)] [(7,i6 x.ex)] [] (r0 [(1,.l 1)] [(14,.bool x.mr)] [] ?_);refine cJ (x.mr) (λc=>[(7,i6 (bif c then(x.ex+1) else x.ex))]) (λ_=>[ob (B0 a) #[i6 e,.bool b,.bool d,.bool f] 166,ob (B1 a) #[.bool x.wr,i6 x.ix,i6 x.wt,.bool x.dr,i6 x.ex,.bool x.mr] 90,ob (B2 a) #[i6 0,.bool false,.bool false,.bool false] 166]) (λi=>?_) (λi=>?_) ?_
  ·refine r0 [(1,aI x.ex (1) Om)] [(7,i6 (x.ex+1))] [7] ?_;exact cm Kr [0,1,2] Kr
  ·exact cm Kr [0,1,2] Kr
  exact rs [(1,.l 0),(3,.t (tv (Builtin.max_ #[3,3] 3 #[i6 e,i6 (bif x.mr then(x.ex+1) else x.ex)]) (λ_=>pH _ _ _ _))),(5,.s 0)] 0 (ob (B0 a) #[i6 (max e (bif x.mr then(x.ex+1) else x.ex)),.bool b,.bool d,.bool f] 166) (rs [(0,.l 0),(1,.s 2)] 2 (ob (B2 a) #[i6 (max e (bif x.mr then(x.ex+1) else x.ex)),.bool b,.bool d,.bool f] 166) (aq (.agg #[i6 (max e (bif x.mr then(x.ex+1) else x.ex)),.bool b,.bool d,.bool f]) ab.zero (by((try simp only[s7,s8,s9,ta]);(repeat (first | rw[h] | rw[ALct])))<;>rfl) [] [] [2]))
 refine rs [(1,.s 0)] 0 (ob (B0 a) #[i6 e,.bool true,.bool d,.bool f] 166) (rs [(1,.m (ld 0 (.bool d))),(5,.m (ld 1 (.bool x.dr))),(9,.m (ld 1 (i6 x.ex))),(13,.s 0)] 0 (ob (B0 a) #[i6 e,.bool true,.bool ((d||x.dr)||(decide (0<x.ex))),.bool f] 166) (r0 [(1,.m (ld 1 (.bool x.wr))),(6,.m (ld 1 (.bool x.dr))),(12,.m (ld 1 (i6 x.ix))),(15,.m (ld 1 (i6 x.wt))),(16,.c [] [] (WJ mode x.ix x.wt))] [(55,.bool (((!x.wr)&&(!x.dr))&&(!(ow mode x.ix x.wt))))] [] ?_));refine cJ (((!x.wr)&&(!x.dr))&&(!(ow mode x.ix x.wt))) N0 (λc=>[ob (B0 a) #[i6 e,.bool true,.bool ((d||x.dr)||(decide (0<x.ex))),.bool (bif c then false else f)] 166,ob (B1 a) #[.bool x.wr,i6 x.ix,i6 x.wt,.bool x.dr,i6 x.ex,.bool x.mr] 90,ob (B2 a) #[i6 0,.bool false,.bool false,.bool false] 166]) (λg=>?_) (λg=>?_) ?_
 ·refine rr (λ_=>[(1,.s 0)]) N0 [] (λ_ L=>L.set 0 (ob (B0 a) #[i6 e,.bool true,.bool ((d||x.dr)||(decide (0<x.ex))),.bool false] 166)) λj=>?_;exact cm Kr [0,1,2] Kr
 ·exact cm Kr [0,1,2] Kr
 exact rs [(0,.l 0),(1,.s 2)] 2 (ob (B2 a) #[i6 e,.bool true,.bool ((d||x.dr)||(decide (0<x.ex))),.bool (bif ((!x.wr)&&(!x.dr))&&(!(ow mode x.ix x.wt)) then false else f)] 166) (aq (.agg #[i6 e,.bool true,.bool ((d||x.dr)||(decide (0<x.ex))),.bool (bif ((!x.wr)&&(!x.dr))&&(!(ow mode x.ix x.wt)) then false else f)]) ab.zero (by((try simp only[s7,s8,s9,ta]);(repeat (first | rw[h] | rw[ALcf])))<;>rfl) [] [] [2])
section
section
variable {f:FuncId} {args:Array Value} {v:ab→Value} {g gc gl gr gm gq gk gt gg gd ge go:Nat} {c:Cf} {x:Mc} {y:Ct}
theorem td(h:aa gh f args [pk (aV gc gl gr gm gq gk gt gg gd ge go c x.x)] [0] (λ_=>[pk (aV gc gl gr gm gq gk gt gg gd ge go c x.x)]) v):aa gh f args [pk (bg g gc gl gr gm gq gk gt gg gd ge go c x)] [0] (λ_=>[pk (bg g gc gl gr gm gq gk gt gg gd ge go c x)]) v:=
 aa.inW h λL ⟨gi,a,vs,e⟩=>⟨1,by rw[e];rfl,gi,a,vs,by rw[e];rfl⟩
theorem Yk(h:aa gh f args [pk (au gr gm gq y.s.r)] [0] (λ_=>[pk (au gr gm gq y.s.r)]) v):aa gh f args [pk (aV gc gl gr gm gq gk gt gg gd ge go c y)] [0] (λ_=>[pk (aV gc gl gr gm gq gk gt gg gd ge go c y)]) v:=
 aa.inW h λL ⟨u,e⟩=>⟨2,by rw[e];rfl,u,by rw[e];rfl⟩
theorem WL(h:aa gh f args [pk (aB gg y.s.g)] [0] (λ_=>[pk (aB gg y.s.g)]) v):aa gh f args [pk (aV gc gl gr gm gq gk gt gg gd ge go c y)] [0] (λ_=>[pk (aV gc gl gr gm gq gk gt gg gd ge go c y)]) v:=
 aa.inW h λL ⟨u,e⟩=>⟨4,by rw[e];rfl,u,by rw[e];rfl⟩
theorem Ht(h:aa gh f args [pk (bk gd ge c y.V)] [0] (λ_=>[pk (bk gd ge c y.V)]) v):aa gh f args [pk (aV gc gl gr gm gq gk gt gg gd ge go c y)] [0] (λ_=>[pk (aV gc gl gr gm gq gk gt gg gd ge go c y)]) v:=
 aa.inW h λL ⟨u,e⟩=>⟨6,by rw[e];rfl,u,by rw[e];rfl⟩
end
theorem WM(gc gl gr gm gq gk gt gg gd ge go:Nat)(c:Cf)(x:Ct):aa gh 14 #[pt gc 0] [pk (aV gc gl gr gm gq gk gt gg gd ge go c x)] [0] (λ_=>[pk (aV gc gl gr gm gq gk gt gg gd ge go c x)]) (λ_=>pt gg 0):=aa.pkZ Tryz.func14 λL a=>by
 obtain⟨v,rfl⟩:=a;refine⟨[2,3,4,5,6,7],λ_=>[pk (au gr gm gq x.s.r),pk (aF gk gt x.s.k),pk (aB gg x.s.g),pk (dL go),pk (bk gd ge c x.V),b9 v x.ns],?_,rfl,λE=>⟨rfl,rfl,⟨_,rfl⟩⟩⟩;exact fG Tryz.func14 λw cs=>r0 [] [(2,.pointer none)] [] (r0 [(3,.l 0),(6,.l 1)] [(2,pt gg 0)] [2] (lf ab.zero [2,3,4,5,6,7] [(0,0),(1,1)] []))
theorem Hu(g gc gl gr gm gq gk gt gg gd ge go:Nat)(c:Cf)(x:Mc):aa gh 13 #[pt g 0] [pk (bg g gc gl gr gm gq gk gt gg gd ge go c x)] [0] (λ_=>[pk (bg g gc gl gr gm gq gk gt gg gd ge go c x)]) (λ_=>pt gc 0):=aa.pkZ Tryz.func13 λL a=>by
 obtain⟨gi,b,vs,rfl⟩:=a;refine⟨[1,2,3,4],λ_=>[pk (aV gc gl gr gm gq gk gt gg gd ge go c x.x),cX x.id gi,gb b x.inj,dh vs x.sv],?_,rfl,λE=>⟨rfl,rfl,⟨_,_,_,rfl⟩⟩⟩;exact fG Tryz.func13 λw cs=>r0 [] [(2,.pointer none)] [] (r0 [(3,.l 0)] [(2,pt gc 0)] [2] (lf ab.zero [1,2,3,4] [(0,0)] []))
theorem wO(g gc gl gr gm gq gk gt gg gd ge go:Nat)(c:Cf)(x:Mc):aa gh 30 #[pt g 0] [pk (bg g gc gl gr gm gq gk gt gg gd ge go c x)] [0] (λ_=>[pk (bg g gc gl gr gm gq gk gt gg gd ge go c x)]) (λ_=>pt gd 0):=aa.pkZ Tryz.func30 λL a=>by
 obtain⟨gi,b,vs,rfl⟩:=a;refine⟨[1,2,3,4],λ_=>[pk (aV gc gl gr gm gq gk gt gg gd ge go c x.x),cX x.id gi,gb b x.inj,dh vs x.sv],?_,rfl,λE=>⟨rfl,rfl,⟨_,_,_,rfl⟩⟩⟩;exact fG Tryz.func30 λw cs=>r0 [] [(2,.pointer none)] [] (r0 [(3,.l 0)] [(2,pt gd 0)] [2] (lf ab.zero [1,2,3,4] [(0,0)] []))
theorem WN(g gc gl gr gm gq gk gt gg gd ge go:Nat)(c:Cf)(x:Mc):aa gh 14 #[pt gc 0] [pk (bg g gc gl gr gm gq gk gt gg gd ge go c x)] [0] (λ_=>[pk (bg g gc gl gr gm gq gk gt gg gd ge go c x)]) (λ_=>pt gg 0):=td (WM gc gl gr gm gq gk gt gg gd ge go c x.x)
theorem WO(g gc gl gr gm gq gk gt gg gd ge go:Nat)(c:Cf)(x:Mc):aa gh 20 #[pt gg 0] [pk (bg g gc gl gr gm gq gk gt gg gd ge go c x)] [0] (λ_=>[pk (bg g gc gl gr gm gq gk gt gg gd ge go c x)]) (λ_=>iN x.x.s.g.l.length):=td (WL (FH gg x.x.s.g))
theorem WQ(g gc gl gr gm gq gk gt gg gd ge go:Nat)(c:Cf)(x:Mc):aa gh 42 #[pt gd 0] [pk (bg g gc gl gr gm gq gk gt gg gd ge go c x)] [0] (λ_=>[pk (bg g gc gl gr gm gq gk gt gg gd ge go c x)]) (λ_=>iN x.x.V.l.length):=td (lE gc gl gr gm gq gk gt gg gd ge go c x.x)
theorem WR(g gc gl gr gm gq gk gt gg gd ge go:Nat)(c:Cf)(x:Mc):aa gh 36 #[pt gd 0] [pk (bg g gc gl gr gm gq gk gt gg gd ge go c x)] [0] (λ_=>[pk (bg g gc gl gr gm gq gk gt gg gd ge go c x)]) (λ_=>pt ge 0):=td (Ht (Ah gd ge c x.x.V))
theorem WS(g gc gl gr gm gq gk gt gg gd ge go:Nat)(c:Cf)(x:Mc):aa gh 107 #[pt ge 0] [pk (bg g gc gl gr gm gq gk gt gg gd ge go c x)] [0] (λ_=>[pk (bg g gc gl gr gm gq gk gt gg gd ge go c x)]) (λ_=>iN c.E):=td (Ht (Hn gd ge c x.x.V))
end
section
theorem WT{α:Type}{a b d e f g c i j k l m n h o p q r:List α}:(Zg [a,b,d,c]).Sublist (Zg [a,b,([o,([i,j,k,l,m,n,([d,e,f,g,c]:List (List α)).flatten,h]:List (List α)).flatten,p,q,r]:List (List α)).flatten]):=by
 simp only[ZO,List.flatten_nil,Zo];refine List.Sublist.append (List.Sublist.refl _) (List.Sublist.append (List.Sublist.refl _) ?_);have s:(d++c).Sublist (d++(e++(f++(g++c)))):=List.Sublist.append (List.Sublist.refl _) ((YX g c).trans ((YX f _).trans (YX e _)));have t:(d++(e++(f++(g++c)))).Sublist (d++(e++(f++(g++c)))++h):=Zl _ _;have u:(d++(e++(f++(g++c)))++h).Sublist (i++(j++(k++(l++(m++(n++(d++(e++(f++(g++c)))++h))))))):=
  (YX n _).trans ((YX m _).trans ((YX l _).trans ((YX k _).trans ((YX j _).trans (YX i _)))))
 exact(s.trans (t.trans u)).trans ((Zl _ _).trans (YX o _))
theorem Hv(e f n g s w B y A u C t i p z:Nat)(c:Cf)(x:Mc)(F:x.x.V.l.length≤1000000)(m:n≤1000000)(bs:aA)(h:nN (bg g s w B y A u C t i p z c x) bs):e4 5 gh 60 #[pt e 0,pt f 0] (λ(x:Nat×Ac)=>#[i6 (x.1:Int),.agg #[.bool (x.2.wr),i6 (x.2.ix),i6 (x.2.wt),.bool (x.2.dr),i6 (x.2.ex),.bool (x.2.mr)]]) ((Y5 (x.x.V.l.length-n)).map λk=>(n+k,x.x.V.l.getD (n+k) aD)) (Zg [[(e,.cells #[iN n] 3 (0,0))],[(f,.cells #[pt i 0] 84 (0,0))],bs]):=by
 obtain⟨L,Q,⟨gi,vj,vs,rfl⟩,d,rfl⟩:=h;obtain⟨K,_,rfl,h0,d⟩:=Yp d;obtain⟨M,_,rfl,D,d⟩:=Yp d;obtain⟨N,_,rfl,h2,d⟩:=Yp d;obtain⟨O,_,rfl,h3,d⟩:=Yp d;obtain⟨P,_,rfl,h4,d⟩:=Yp d;obtain rfl:=nD d;obtain⟨I,Z,⟨v1,rfl⟩,a,rfl⟩:=D;obtain⟨R,_,rfl,i0,a⟩:=Yp a;obtain⟨S,_,rfl,i1,a⟩:=Yp a;obtain⟨T,_,rfl,i2,a⟩:=Yp a;obtain⟨U,_,rfl,i3,a⟩:=Yp a;obtain⟨V,_,rfl,i4,a⟩:=Yp a;obtain⟨W,_,rfl,i5,a⟩:=Yp a;obtain⟨X,_,rfl,o,a⟩:=Yp a;obtain⟨Y,_,rfl,i7,a⟩:=Yp a;obtain rfl:=nD a;obtain⟨J,fs,⟨l,j,v,rfl⟩,b,rfl⟩:=o;obtain⟨q,_,rfl,G,b⟩:=Yp b;obtain⟨f1,_,rfl,j1,b⟩:=Yp b;obtain⟨f2,_,rfl,j2,b⟩:=Yp b;obtain⟨f3,_,rfl,j3,b⟩:=Yp b;obtain⟨r,_,rfl,H,b⟩:=Yp b;obtain rfl:=nD b;obtain rfl:q=_:=G;exact(Uj e f i p l j n v x.x.V.l r (ar.sq H) F m).mono WT
structure Lk where
 ex:Int
 ast:Bool
 dr:Bool
 tl:Bool
def WU:Lk:=⟨0,false,false,true⟩
def Hw(mode:Nat)(l:Lk)(x:Ac):Lk:=⟨s7 l.ex x,s8 l.ast x,s9 l.dr x,ta l.tl mode x⟩
def dq(mode:Nat)(l:List Ac):Nat→Lk
 | 0=>WU
 | k+1=>Hw mode (dq mode l k) (l.getD (0+k) aD)
theorem WV(mode:Nat)(l:List Ac)(k:Nat):dq mode l (k+1)=Hw mode (dq mode l k) (l.getD (0+k) aD):=rfl
theorem WW(mode:Nat)(l:List Ac):dq mode l 0=⟨0,false,false,true⟩:=rfl
attribute [local irreducible] dq
theorem WX(g e j p m o i q h a f n:Nat)(c:Cf)(x:Mc)(N:x.x.V.l.length≤900000)(F: ∀k,0≤(x.x.V.l.getD k aD).ex∧(x.x.V.l.getD k aD).ex≤1000000):aa gh 77 #[pt g 0,i6 0,iN x.x.V.l.length] [pk (bg g e j p m o i q h a f n c x)] [0] (λ_=>[pk (bg g e j p m o i q h a f n c x)]) (λ_=> .agg #[i6 ((dq c.E x.x.V.l (x.x.V.l.length-0)).ex),.bool ((dq c.E x.x.V.l (x.x.V.l.length-0)).ast),.bool ((dq c.E x.x.V.l (x.x.V.l.length-0)).dr),.bool ((dq c.E x.x.V.l (x.x.V.l.length-0)).tl)]):=by
 refine fG Tryz.func77 λw cs=>ra (λr=>[(5,pt (B0 r) 0),(6,pt (B1 r) 0)]) (λr=>[ob (B0 r) #[iN x.x.V.l.length] 3,ob (B1 r) #[i6 0,.bool false,.bool false,.bool false] 166]) λr=>rr (λ_=>[(2,.s 3)]) (λv=>[(7,pt (B1 v) 0)]) [] (λv L=>L++[ob (B1 v) #[i6 0,.bool false,.bool false,.bool true] 166]) λv=>rr (λ_=>[(1,.c [0] [0] (wO g e j p m o i q h a f n c x)),(2,.c [0] [0] (WR g e j p m o i q h a f n c x)),(3,.c [0] [0] (WS g e j p m o i q h a f n c x)),(5,.s 4)]) (λB=>[(8,pt (B4 B) 0)]) [] (λB L=>L++[ob (B4 B) #[iN c.E] 3]) λB=>rr (λ_=>[(1,.c [0] [0] (wO g e j p m o i q h a f n c x)),(3,.c [] [5,6] (GG a 0))]) (λb=>[(19,.func (.func 60) #[] #[pt ((B3 b)) 0,pt (((b 3).y 1)) 0])]) [] (λb L=>L++[ob (B3 b) #[i6 ((0:Nat):Int)] 3,ob ((b 3).y 1) #[pt a 0] 84]) λb=>?_;refine ck 0 (nN (bg g e j p m o i q h a f n c x)) (λd y=>?_);refine nR (encs:=λ(x:Nat×Ac)=>#[i6 (x.1:Int),.agg #[.bool (x.2.wr),i6 (x.2.ix),i6 (x.2.wt),.bool (x.2.dr),i6 (x.2.ex),.bool (x.2.mr)]]) (xs:=(Y5 (x.x.V.l.length-0)).map (λk=>(0+k,x.x.V.l.getD (0+k) aD))) (KO:=[[((B3 b),.cells #[i6 ((0:Nat):Int)] 3 (0,0))],[(((b 3).y 1),.cells #[pt a 0] 84 (0,0))],d]) (Hv (B3 b) ((b 3).y 1) 0 g e j p m o i q h a f n c x Om Om d y) (enters_of Tryz.func60 Kr rfl) (λk=>k≤x.x.V.l.length-0) (λk L=>L.set 3 (ob (B1 v) #[i6 ((dq c.E x.x.V.l k).ex),.bool ((dq c.E x.x.V.l k).ast),.bool ((dq c.E x.x.V.l k).dr),.bool ((dq c.E x.x.V.l k).tl)] 166)) [5,6,0] Om (by rw[WW];kernel_rfl) (λO k P I K C z=>?_) (λH z=>?_)
 ·obtain⟨A,rfl⟩:=mi C;have D:=A;have G:=F (0+k);refine r0 [] [(9,i6 ((0+k:Nat):Int))] [] (rr (λ_=>[(1,.s 7)]) (λu=>[(10,pt (B0 u) 0)]) [] (λu L=>L++[ob (B0 u) #[.bool ((x.x.V.l.getD (0+k) aD).wr),i6 ((x.x.V.l.getD (0+k) aD).ix),i6 ((x.x.V.l.getD (0+k) aD).wt),.bool ((x.x.V.l.getD (0+k) aD).dr),i6 ((x.x.V.l.getD (0+k) aD).ex),.bool ((x.x.V.l.getD (0+k) aD).mr)] 90]) λu=>?_);refine ag [5,6,0] (λJ M=>?_);exact rF [(1,.l 1),(2,.t (tk (show Value.bool (decide ((x.x.V.l.length:Int)≤((0+k:Nat):Int)))= .bool false from ALca Value.bool (by exact bj Om))))] 24 (rs [(0,.l 3),(1,.l 4),(2,.l 7),(3,.c [] [] (WK ((dq c.E x.x.V.l k).ex) ((dq c.E x.x.V.l k).ast) ((dq c.E x.x.V.l k).dr) ((dq c.E x.x.V.l k).tl) c.E (x.x.V.l.getD (0+k) aD) Om Om)),(4,.s 3)] 3 (ob (B1 v) #[i6 (s7 ((dq c.E x.x.V.l k).ex) (x.x.V.l.getD (0+k) aD)),.bool (s8 ((dq c.E x.x.V.l k).ast) (x.x.V.l.getD (0+k) aD)),.bool (s9 ((dq c.E x.x.V.l k).dr) (x.x.V.l.getD (0+k) aD)),.bool (ta ((dq c.E x.x.V.l k).tl) c.E (x.x.V.l.getD (0+k) aD))] 166) (ne _ ⟨Om,rfl⟩ [0,1,2,3,4,5,6] (by rw[WV];kernel_rfl)))
 refine cl [.c d,ob (B0 r) #[iN x.x.V.l.length] 3,ob (B1 r) #[i6 0,.bool false,.bool false,.bool false] 166,ob (B1 v) #[i6 ((dq c.E x.x.V.l (x.x.V.l.length-0)).ex),.bool ((dq c.E x.x.V.l (x.x.V.l.length-0)).ast),.bool ((dq c.E x.x.V.l (x.x.V.l.length-0)).dr),.bool ((dq c.E x.x.V.l (x.x.V.l.length-0)).tl)] 166,ob (B4 B) #[iN c.E] 3,ob (B3 b) #[i6 ((0:Nat):Int)] 3,ob ((b 3).y 1) #[pt a 0] 84] (by rw[Y8,Y0];kernel_rfl) ?_;simp only[Y8,Y0] at z;exact cw 0 (.c d) ((pk (bg g e j p m o i q h a f n c x))) (cP y) (rs [(0,.l 3),(1,.s 2)] 2 (ob (B1 r) #[i6 ((dq c.E x.x.V.l (x.x.V.l.length-0)).ex),.bool ((dq c.E x.x.V.l (x.x.V.l.length-0)).ast),.bool ((dq c.E x.x.V.l (x.x.V.l.length-0)).dr),.bool ((dq c.E x.x.V.l (x.x.V.l.length-0)).tl)] 166) (lf ab.zero [0] [] [2]))
end
def te(mode:Nat)(l:List Ac):Bool:=(!(dq mode l (l.length-0)).ast)&&decide ((dq mode l (l.length-0)).ex≤1)
structure tf (l:List Ac):Prop where
 ex: ∀k,0≤(l.getD k aD).ex∧(l.getD k aD).ex≤1000000
theorem WY(g a h m i k f n e b d j:Nat)(c:Cf)(x:Mc)(p:x.x.V.l.length≤900000)(q:tf x.x.V.l):aa gh 41 #[pt g 0] [pk (bg g a h m i k f n e b d j c x)] [0] (λ_=>[pk (bg g a h m i k f n e b d j c x)]) (λ_=> .bool (te c.E x.x.V.l)):=by
 exact fG Tryz.func41 λw cs=>r0 [] [(2,.bool false)] [] (rr (λ_=>[(2,.c [0] [0] (wO g a h m i k f n e b d j c x)),(3,.c [0] [0] (WQ g a h m i k f n e b d j c x)),(4,.c [0] [0] (WX g a h m i k f n e b d j c x p q.ex)),(6,.s 1)]) (λo=>[(3,pt (B5 o) 0)]) [] (λo L=>L++[ob (B5 o) #[i6 ((dq c.E x.x.V.l (x.x.V.l.length-0)).ex),.bool ((dq c.E x.x.V.l (x.x.V.l.length-0)).ast),.bool ((dq c.E x.x.V.l (x.x.V.l.length-0)).dr),.bool ((dq c.E x.x.V.l (x.x.V.l.length-0)).tl)] 166]) λo=>r0 [(1,.l 1),(5,.l 1)] [(2,.bool ((!((dq c.E x.x.V.l (x.x.V.l.length-0)).ast))&&(decide (((dq c.E x.x.V.l (x.x.V.l.length-0)).ex)≤1))))] [2] (aq (.bool ((!((dq c.E x.x.V.l (x.x.V.l.length-0)).ast))&&(decide (((dq c.E x.x.V.l (x.x.V.l.length-0)).ex)≤1)))) ab.zero ba [0] [] []))
structure Yl (q:List Sv):Prop where
 l: ∀k,(q.getD k Aw).l.length=64
 w: ∀k,(q.getD k Aw).w.length=64
theorem Hx{c:Cf}{b:Bool}(h:ou c=b):decide ((((((c.R+c.S)*c.B)*c.M)*c.C:Nat):Int)≤100)=b:=by
 rw[←h];unfold ou;exact decide_eq_decide.2 Om
theorem WZ(c:Cf)(b:cZ c)(hs:ou c=false):aa gh 12 #[.agg (cA c)] [] [] N0 (λ_=> .pointer none):=by
 exact fG Tryz.func12 λw cs=>ra (λa=>[(1,pt (B0 a) 0),(2,.pointer none)]) (λa=>[ob (B0 a) (cA c) 31]) λa=>rT [(0,.l 0),(1,.c [] [] (aa.v ((Hq c b)) λ_=>ALca Value.bool (show(decide ((((((c.R+c.S)*c.B)*c.M)*c.C:Nat):Int)≤100))=false from(by exact Hx hs))))] 7 (r0 [] [(2,.pointer none)] [2] (lf ab.zero [] [] []))
theorem AB(c:Cf)(b:cZ c)(hs:ou c=true):aa gh 12 #[.agg (cA c)] [] [] (λE=>[pk (bg (E.y 0) ((E.y 1)) ((E.y 2)) ((E.y 3)) ((E.y 4)) ((E.y 5)) ((E.y 6)) ((E.y 7)) ((E.y 8)) ((E.y 9)) ((E.y 10)) ((E.y 11)) c (ak c))]) (λE=>pt ((E.y 0)) 0):=by
 exact fG Tryz.func12 λw cs=>ra (λd=>[(1,pt (B0 d) 0),(2,.pointer none)]) (λd=>[ob (B0 d) (cA c) 31]) λd=>rF [(0,.l 0),(1,.c [] [] (aa.v ((Hq c b)) λ_=>ALca Value.bool (show(decide ((((((c.R+c.S)*c.B)*c.M)*c.C:Nat):Int)≤100))=true from(by exact Hx hs))))] 7 (rr (λ_=>[(0,.l 0),(1,.c [] [1] (WA c b))]) (λa=>[(3,pt ((B1 a)) 0),(4,i6 0)]) [] (λa L=>L++[pk (bg (B1 a) ((a 1).y 1) ((a 1).y 3) ((a 1).y 4) ((a 1).y 5) ((a 1).y 6) ((a 1).y 7) ((a 1).y 8) ((a 1).y 9) ((a 1).y 10) ((a 1).y 11) ((a 1).y 12) c (ak c))]) λa=>rF [] 14 (r0 [] [(2,pt ((B1 a)) 0)] [2] (lf (.l [(B1 a),(a 1).y 1,(a 1).y 3,(a 1).y 4,(a 1).y 5,(a 1).y 6,(a 1).y 7,(a 1).y 8,(a 1).y 9,(a 1).y 10,(a 1).y 11,(a 1).y 12] [] []) [1] [] [])))
theorem W4:aa gh 45 #[] [] [] N0 (λ_=> .agg #[i6 1,i6 0,i6 1,i6 2,i6 2,i6 0,i6 0,i6 1,i6 9,i6 9,i6 9,i6 9,i6 2,i6 2,i6 4,.bool true]):=by
 exact fG Tryz.func45 λw cs=>ra (λa=>[(0,pt (B0 a) 0)]) (λa=>[ob (B0 a) #[i6 0,i6 0,i6 0,i6 0,i6 0,i6 0,i6 0,i6 0,i6 0,i6 0,i6 0,i6 0,i6 0,i6 0,i6 0,.bool false] 31]) λa=>rr (λ_=>[(2,.s 1)]) (λb=>[(1,pt (B1 b) 0)]) [] (λb L=>L++[ob (B1 b) #[i6 9,i6 9] 27]) λb=>rs [(2,.l 1),(3,.l 1),(6,.s 0)] 0 (ob (B0 a) #[i6 1,i6 0,i6 1,i6 2,i6 2,i6 0,i6 0,i6 1,i6 9,i6 9,i6 9,i6 9,i6 2,i6 2,i6 4,.bool true] 31) (lf ab.zero [] [] [0])
structure GM (c:Cf) (x:Mc) (n:Nat):Prop where
 ok:eA c x (1+260*n) (4096+3*n) n
 t:x.x.s.time≤n
theorem GM.start{c:Cf}(h:cZ c):GM c (ak c) 0:=⟨Wz h,Zt _⟩
theorem GM.step{c:Cf}{x:Mc}{n:Nat}(h:GM c x n)(a:n≤900){s:St}(hs:StOk s):GM c (fq c x s) (n+1):=
 ⟨(VZ h.ok hs Om (Zu h.t Om)).mono Om Om Om,YU (V1 c x s) (YY h.t)⟩
theorem GM.vl{c:Cf}{x:Mc}{n:Nat}(h:GM c x n)(a:n≤900):x.x.V.l.length≤7000:=YU h.ok.ct.vl Om
theorem wP(g a i m j l f o e b d k:Nat)(c:Cf)(x:Mc)(n:Nat)(h:GM c x n)(p:n≤900)(s:St)(hs:StOk s):aa gh 16 #[pt g 0,.agg (eSt s).toArray] [pk (bg g a i m j l f o e b d k c x)] [0] (λ_=>[pk (bg g a i m j l f o e b d k c (fq c x s))]) (λ_=> .agg (wI (gj c x s)).toArray):=
 VW g a i m j l f o e b d k c x _ _ _ h.ok Om Om Om (Zu h.t Om) s hs
def dE:Cf:=⟨1,0,1,2,2,0,0,1,9,9,9,9,2,2,4,true⟩
def Hy:St:=⟨2,1,eZ 6 64,0,0,0,0,0,0,0,0,0⟩
def Hz:St:=⟨8,0,mz 64 0,0,1,0,0,0,1,0,40,0⟩
def th:St:=⟨1,1,mz 64 0,0,0,0,0,0,0,0,0,0⟩
def wQ:Mc:=fq dE (fq dE (ak dE) Hy) Hz
def AD:Mc:=fq dE wQ th
abbrev AE:St:=⟨2,1,(eZ (6:UInt8) 64),0,0,0,0,0,0,0,0,0⟩
abbrev AF:St:=⟨8,0,z6,0,1,0,0,0,1,0,40,0⟩
abbrev wR:St:=⟨1,1,z6,0,0,0,0,0,0,0,0,0⟩
abbrev wS:Mc:=fq dE (ak dE) AE
abbrev tj:Mc:=fq dE wS AF
abbrev kJ:Mc:=fq dE tj wR
abbrev gz:An:=gj dE tj wR
theorem W5:(gj dE wQ th).e=0:=by decide+kernel
theorem W6:(gj dE wQ th).n=0:=by decide+kernel
theorem HA:(gj dE wQ th).l=eZ 6 64:=by decide+kernel
theorem W7:AD.x.s.g.l.length=1:=by decide+kernel
theorem W8:te 1 AD.x.V.l=true:=by decide+kernel
theorem W9:AD.x.V.l.all (λa=>decide (0≤a.ex)&&decide (a.ex≤1000000))=true:=by decide+kernel
theorem Xa{l:List Ac}(h:l.all (λa=>decide (0≤a.ex)&&decide (a.ex≤1000000))=true):tf l:=⟨λk=>by
 rw[Y4];cases c:l[k]? with
 | none=>exact⟨ZN _,by decide⟩
 | some a=>
  have b:=List.all_eq_true.1 h a (ZJ c);simpa using b⟩
theorem AG(x:UInt8):(eZ x 64).length=64:=by unfold eZ;rw[YZ,YV,YV]
theorem HC:cZ dE:=⟨⟨⟨by decide⟩,by decide,by decide,by decide⟩,.inl rfl,⟨by decide,by decide,by decide,by decide⟩,⟨by decide,by decide,by decide,by decide⟩,by decide,by decide,by decide,by decide,by decide,by decide⟩
theorem HD:StOk Hy:=⟨AG 6,by decide⟩
theorem HE:StOk Hz:=⟨YV,by decide⟩
theorem HF:StOk th:=⟨YV,by decide⟩
section
theorem Xb:aa gh 12 #[.agg #[i6 1,i6 0,i6 1,i6 2,i6 2,i6 0,i6 0,i6 1,i6 9,i6 9,i6 9,i6 9,i6 2,i6 2,i6 4,.bool true]] [] [] (λE=>[pk (bg (E.y 0) (E.y 1) (E.y 2) (E.y 3) (E.y 4) (E.y 5) (E.y 6) (E.y 7) (E.y 8) (E.y 9) (E.y 10) (E.y 11) dE (ak dE))]) (λE=>pt (E.y 0) 0):=AB dE HC Dc
attribute [local irreducible] fq gj ak te
theorem Xc:(((gz.e)==0&&((gz.n)==0&&true))&&decide (gz.l=eZ (6:UInt8) 64))=true:=by
 have a:gz.e=0:=W5;have b:gz.n=0:=W6;have c:gz.l=eZ (6:UInt8) 64:=HA;rw[a,b,c];simp
theorem Xd:gz.l.length=64:=by
 have a:gz.l=eZ (6:UInt8) 64:=HA;rw[a];exact AG 6
theorem Xe:(((kJ.x.s.g.l.length:Nat):Int)==1)=true:=by
 have a:kJ.x.s.g.l.length=1:=W7;rw[a];rfl
theorem Xf:te dE.E kJ.x.V.l=true:=W8
theorem HG:GM dE (ak dE) 0:=GM.start HC
theorem HH:GM dE wS 1:=HG.step Dc HD
theorem HI:GM dE tj 2:=HH.step Dc HE
theorem Xg:GM dE kJ 3:=HI.step Dc HF
theorem Xh:kJ.x.V.l.length≤900000:=YU (Xg.vl Dc) Dc
theorem Xi:tf kJ.x.V.l:=Xa W9
theorem Xj:StOk AE:=HD
theorem Xk:StOk AF:=HE
theorem Xl:StOk wR:=HF
theorem wT:aa gh 11 #[] [] [] N0 (λ_=> .bool true):=by
 have h:z6.length=64:=YV;have g:=AG 6;have f:=Xd;exact fG Tryz.func11 λw cs=>r0 [] [(0,.bool false)] [] (rr (λ_=>[(0,.c [] [] (W4)),(2,.s 0)]) (λb=>[(1,pt (B1 b) 0)]) [] (λb L=>L++[ob (B1 b) #[i6 1,i6 0,i6 1,i6 2,i6 2,i6 0,i6 0,i6 1,i6 9,i6 9,i6 9,i6 9,i6 2,i6 2,i6 4,.bool true] 31]) λb=>rr (λ_=>[(0,.l 0),(1,.c [] [1] (Xb))]) (λa=>[(2,pt ((B1 a)) 0)]) [] (λa L=>L++[pk (bg (B1 a) ((a 1).y 1) ((a 1).y 2) ((a 1).y 3) ((a 1).y 4) ((a 1).y 5) ((a 1).y 6) ((a 1).y 7) ((a 1).y 8) ((a 1).y 9) ((a 1).y 10) ((a 1).y 11) dE (ak dE))]) λa=>rF [] 9 (rr (λ_=>[(0,.c [] [] (S2 (6:UInt8))),(2,.s 2)]) (λd=>[(3,pt (B1 d) 0)]) [] (λd L=>L++[ob (B1 d) (rB 64 (eZ (6:UInt8) 64)).toArray 43]) λd=>rs [(1,.l 2),(3,.c [1] [1] (wP (B1 a) ((a 1).y 1) ((a 1).y 2) ((a 1).y 3) ((a 1).y 4) ((a 1).y 5) ((a 1).y 6) ((a 1).y 7) ((a 1).y 8) ((a 1).y 9) ((a 1).y 10) ((a 1).y 11) dE (ak dE) _ (by with_reducible exact HG) Dc AE (by with_reducible exact Xj)))] 1 ((pk (bg (B1 a) ((a 1).y 1) ((a 1).y 2) ((a 1).y 3) ((a 1).y 4) ((a 1).y 5) ((a 1).y 6) ((a 1).y 7) ((a 1).y 8) ((a 1).y 9) ((a 1).y 10) ((a 1).y 11) dE wS))) (rs [(4,.c [1] [1] (wP (B1 a) ((a 1).y 1) ((a 1).y 2) ((a 1).y 3) ((a 1).y 4) ((a 1).y 5) ((a 1).y 6) ((a 1).y 7) ((a 1).y 8) ((a 1).y 9) ((a 1).y 10) ((a 1).y 11) dE wS _ (by with_reducible exact HH) Dc AF (by with_reducible exact Xk)))] 1 ((pk (bg (B1 a) ((a 1).y 1) ((a 1).y 2) ((a 1).y 3) ((a 1).y 4) ((a 1).y 5) ((a 1).y 6) ((a 1).y 7) ((a 1).y 8) ((a 1).y 9) ((a 1).y 10) ((a 1).y 11) dE tj))) (rr (λ_=>[(2,.c [1] [1] (wP (B1 a) ((a 1).y 1) ((a 1).y 2) ((a 1).y 3) ((a 1).y 4) ((a 1).y 5) ((a 1).y 6) ((a 1).y 7) ((a 1).y 8) ((a 1).y 9) ((a 1).y 10) ((a 1).y 11) dE tj _ (by with_reducible exact HI) Dc wR (by with_reducible exact Xl))),(4,.s 3)]) (λe=>[(4,pt (B3 e) 0)]) [] (λe L=>L.set 1 ((pk (bg (B1 a) ((a 1).y 1) ((a 1).y 2) ((a 1).y 3) ((a 1).y 4) ((a 1).y 5) ((a 1).y 6) ((a 1).y 7) ((a 1).y 8) ((a 1).y 9) ((a 1).y 10) ((a 1).y 11) dE kJ)))++[ob (B3 e) (([i6 (gz.e),i6 (gz.n)]:List Value)++rB 64 (gz.l)).toArray 53]) λe=>r0 [(0,.m (ls 3 (([i6 (gz.e),i6 (gz.n)]:List Value)++rB 64 (gz.l)))),(1,.m (ls 2 (rB 64 (eZ (6:UInt8) 64)))),(2,.v (.agg (([i6 0,i6 0]:List Value)++rB 64 (eZ (6:UInt8) 64)).toArray)),(3,.t (TH.cast (iS 53 λ_ _ _=>xr (xs:=([i6 (gz.e),i6 (gz.n)]:List Value)++rB 64 (gz.l)) (ys:=([i6 0,i6 0]:List Value)++rB 64 (eZ (6:UInt8) 64)) Kr (fg Kr Kr ba (jA (show(gz.l).length=64 by(simp only[LL,g,f];done)) (show(eZ (6:UInt8) 64).length=64 by rfl)))) (show Value.bool ((((gz.e)==0&&((gz.n)==0&&true))&&decide (gz.l=eZ (6:UInt8) 64)))= .bool true from ALca Value.bool (by exact Xc)))),(4,.v (.bool true)),(5,.v (pt ((B1 a)) 0)),(6,.c [1] [1] (Hu (B1 a) ((a 1).y 1) ((a 1).y 2) ((a 1).y 3) ((a 1).y 4) ((a 1).y 5) ((a 1).y 6) ((a 1).y 7) ((a 1).y 8) ((a 1).y 9) ((a 1).y 10) ((a 1).y 11) dE kJ)),(7,.c [1] [1] (WN (B1 a) ((a 1).y 1) ((a 1).y 2) ((a 1).y 3) ((a 1).y 4) ((a 1).y 5) ((a 1).y 6) ((a 1).y 7) ((a 1).y 8) ((a 1).y 9) ((a 1).y 10) ((a 1).y 11) dE kJ)),(8,.c [1] [1] (WO (B1 a) ((a 1).y 1) ((a 1).y 2) ((a 1).y 3) ((a 1).y 4) ((a 1).y 5) ((a 1).y 6) ((a 1).y 7) ((a 1).y 8) ((a 1).y 9) ((a 1).y 10) ((a 1).y 11) dE kJ)),(9,.t (tk (show Value.bool (((kJ.x.s.g.l.length:Nat):Int)==1)= .bool true from ALca Value.bool (by exact Xe)))),(11,.v (.bool true)),(12,.v (pt ((B1 a)) 0)),(13,.c [1] [1] (aa.v ((WY (B1 a) ((a 1).y 1) ((a 1).y 2) ((a 1).y 3) ((a 1).y 4) ((a 1).y 5) ((a 1).y 6) ((a 1).y 7) ((a 1).y 8) ((a 1).y 9) ((a 1).y 10) ((a 1).y 11) dE kJ Xh Xi)) λ_=>ALca Value.bool (show(te dE.E kJ.x.V.l)=true from(by exact Xf)))),(15,.v (.bool true))] [(0,.bool true)] [0] (lf ab.zero [] [] [])))))
end
section
def aj(c:Cf)(x:Mc)(l:List St):Nat→Mc
 | 0=>x
 | k+1=>fq c (aj c x l k) (l.getD k ax)
def kg(c:Cf)(x:Mc)(l:List St):Nat→List An
 | 0=>[]
 | k+1=>kg c x l k++[gj c (aj c x l k) (l.getD k ax)]
theorem Xm(c:Cf)(x:Mc)(l:List St):aj c x l 0=x:=rfl
theorem Xn(c:Cf)(x:Mc)(l:List St)(k:Nat):aj c x l (k+1)=fq c (aj c x l k) (l.getD k ax):=rfl
theorem Xo(c:Cf)(x:Mc)(l:List St):kg c x l 0=[]:=rfl
theorem HJ(c:Cf)(x:Mc)(l:List St)(k:Nat):kg c x l (k+1)=kg c x l k++[gj c (aj c x l k) (l.getD k ax)]:=rfl
theorem HK(c:Cf)(x:Mc)(l:List St): ∀k,(kg c x l k).length=k
 | 0=>rfl
 | k+1=>by rw[HJ,YZ,HK];rfl
structure qE (l:List St):Prop where
 a: ∀k,StOk (l.getD k ax)
theorem wU{c:Cf}{x:Mc}{n:Nat}(h:GM c x n){l:List St}(hs:qE l): ∀k,n+k≤900→GM c (aj c x l k) (n+k)
 | 0,_=>h
 | k+1,a=>(wU h hs k Om).step Om (hs.a k)
attribute [local irreducible] aj kg fq gj
theorem Xp(g i t A u z r B q j o y:Nat)(c:Cf)(x:Mc)(n:Nat)(h:GM c x n)(v:Value)(l:List St)(P:n+l.length≤900)(hs:qE l):aa gh 28 #[pt g 0,v] [pk (bg g i t A u z r B q j o y c x),.p (aP eSt v l)] [0] (λE=>[pk (bg g i t A u z r B q j o y c (aj c x l l.length)),px (E.val 0) (kg c x l l.length)]) (λE=>(E.val 0)):=by
 refine fO Tryz.func28 1 rfl λJ b=>fG Tryz.func28 λw cs=>r0 [] [(4,.slice none 0 0)] [] (r0 [] [(5,.slice none 0 0)] [] (r0 [(1,eD b.1 1)] [(8,v),(9,iN l.length),(10,i6 0)] [] (cz Hg ?_)));refine mv (λk _=>k≤l.length) (λk a=>[(10,iN k),(5,a)]) (λk a L=>(L.set 0 ((pk (bg g i t A u z r B q j o y c (aj c x l k))))).set 2 (px a (kg c x l k))) (λk _=>l.length-k) 0 (.slice none 0 0) Om Kr (by rw[Xm,Xo];kernel_rfl) (λk a H=>?_);have N:=H;have G:=wU h hs k Om;have I:n+k≤900:=by omega
 have C:=hs.a k;have O:=C.d;have M:=HK c x l k;refine r0 [] [(11,.bool (decide ((k:Int)<(l.length:Int))))] [] ?_;refine cc (k:Int) (l.length:Int) (λK F=>?_) λK F=>?_
 ·exact rr (λ_=>[(0,fh b.1 1 k 75),(1,m7 U3 b.1 1 k 0 75),(3,.s 3)]) (λD=>[(7,pt (B2 D) 0)]) [] (λD L=>L++[ob (B2 D) (sV ((l.getD k ax).k) ((l.getD k ax).ln) ((l.getD k ax).d) ((l.getD k ax).m:Nat) ((l.getD k ax).f0) ((l.getD k ax).f1) ((l.getD k ax).f2) ((l.getD k ax).f3) ((l.getD k ax).f4) ((l.getD k ax).f5) ((l.getD k ax).f6) ((l.getD k ax).f7)) 50]) λD=>rr (λ_=>[(2,.l 3),(3,.c [0] [0] (wP g i t A u z r B q j o y c (aj c x l k) _ G I (⟨((l.getD k ax).k),((l.getD k ax).ln),((l.getD k ax).d),((l.getD k ax).m),((l.getD k ax).f0),((l.getD k ax).f1),((l.getD k ax).f2),((l.getD k ax).f3),((l.getD k ax).f4),((l.getD k ax).f5),((l.getD k ax).f6),((l.getD k ax).f7)⟩:St) C)),(4,.m (bs 4 1)),(5,e7 Hg (a) (kg c x l k) 2 4 ([(⟨((gj c (aj c x l k) (⟨((l.getD k ax).k),((l.getD k ax).ln),((l.getD k ax).d),((l.getD k ax).m),((l.getD k ax).f0),((l.getD k ax).f1),((l.getD k ax).f2),((l.getD k ax).f3),((l.getD k ax).f4),((l.getD k ax).f5),((l.getD k ax).f6),((l.getD k ax).f7)⟩:St)).e),((gj c (aj c x l k) (⟨((l.getD k ax).k),((l.getD k ax).ln),((l.getD k ax).d),((l.getD k ax).m),((l.getD k ax).f0),((l.getD k ax).f1),((l.getD k ax).f2),((l.getD k ax).f3),((l.getD k ax).f4),((l.getD k ax).f5),((l.getD k ax).f6),((l.getD k ax).f7)⟩:St)).n),(gj c (aj c x l k) (⟨((l.getD k ax).k),((l.getD k ax).ln),((l.getD k ax).d),((l.getD k ax).m),((l.getD k ax).f0),((l.getD k ax).f1),((l.getD k ax).f2),((l.getD k ax).f3),((l.getD k ax).f4),((l.getD k ax).f5),((l.getD k ax).f6),((l.getD k ax).f7)⟩:St)).l⟩:An)]))]) (λf=>[(5,(f 5).val 0)]) [5] (λf L=>(L.set 0 ((pk (bg g i t A u z r B q j o y c (fq c (aj c x l k) (⟨((l.getD k ax).k),((l.getD k ax).ln),((l.getD k ax).d),((l.getD k ax).m),((l.getD k ax).f0),((l.getD k ax).f1),((l.getD k ax).f2),((l.getD k ax).f3),((l.getD k ax).f4),((l.getD k ax).f5),((l.getD k ax).f6),((l.getD k ax).f7)⟩:St)))))).set 2 (px ((f 5).val 0) ((kg c x l k)++([(⟨((gj c (aj c x l k) (⟨((l.getD k ax).k),((l.getD k ax).ln),((l.getD k ax).d),((l.getD k ax).m),((l.getD k ax).f0),((l.getD k ax).f1),((l.getD k ax).f2),((l.getD k ax).f3),((l.getD k ax).f4),((l.getD k ax).f5),((l.getD k ax).f6),((l.getD k ax).f7)⟩:St)).e),((gj c (aj c x l k) (⟨((l.getD k ax).k),((l.getD k ax).ln),((l.getD k ax).d),((l.getD k ax).m),((l.getD k ax).f0),((l.getD k ax).f1),((l.getD k ax).f2),((l.getD k ax).f3),((l.getD k ax).f4),((l.getD k ax).f5),((l.getD k ax).f6),((l.getD k ax).f7)⟩:St)).n),(gj c (aj c x l k) (⟨((l.getD k ax).k),((l.getD k ax).ln),((l.getD k ax).d),((l.getD k ax).m),((l.getD k ax).f0),((l.getD k ax).f1),((l.getD k ax).f2),((l.getD k ax).f3),((l.getD k ax).f4),((l.getD k ax).f5),((l.getD k ax).f6),((l.getD k ax).f7)⟩:St)).l⟩:An)])))++[ob (B4 f) (([i6 ((gj c (aj c x l k) (⟨((l.getD k ax).k),((l.getD k ax).ln),((l.getD k ax).d),((l.getD k ax).m),((l.getD k ax).f0),((l.getD k ax).f1),((l.getD k ax).f2),((l.getD k ax).f3),((l.getD k ax).f4),((l.getD k ax).f5),((l.getD k ax).f6),((l.getD k ax).f7)⟩:St)).e),i6 ((gj c (aj c x l k) (⟨((l.getD k ax).k),((l.getD k ax).ln),((l.getD k ax).d),((l.getD k ax).m),((l.getD k ax).f0),((l.getD k ax).f1),((l.getD k ax).f2),((l.getD k ax).f3),((l.getD k ax).f4),((l.getD k ax).f5),((l.getD k ax).f6),((l.getD k ax).f7)⟩:St)).n)]:List Value)++rB 64 ((gj c (aj c x l k) (⟨((l.getD k ax).k),((l.getD k ax).ln),((l.getD k ax).d),((l.getD k ax).m),((l.getD k ax).f0),((l.getD k ax).f1),((l.getD k ax).f2),((l.getD k ax).f3),((l.getD k ax).f4),((l.getD k ax).f5),((l.getD k ax).f6),((l.getD k ax).f7)⟩:St)).l)).toArray 53]) λf=>r0 [(0,ad k 1)] [(10,i6 ((k+1:Nat):Int))] [10] (kS (k+1) ((f 5).val 0) Om Om Kr [0,1,2] (by rw[Xn,HJ];kernel_rfl))
 obtain rfl:l.length=k:=by omega
 refine kT ?_;exact r0 [] [(4,a)] [4] (lf (.l [] [] [a]) [0,2] [(1,1)] [])
end
section
structure mT (c:Cf) (p:Ac→Prop):Prop where
 w: ∀i (t:Int) d,p ⟨true,i,t,d,0,false⟩
 r: ∀V i,p (lB c V i)
section
variable {c:Cf} {p:Ac→Prop} {x:Ct}
theorem AH{l:List Ac}{a:Ac}(h: ∀a∈l,p a)(d:p a): ∀b∈l++[a],p b:=λb f=>(List.mem_append.1 f).elim (h b) λe=>by rw[List.mem_singleton.1 e];exact d
theorem qF(hp:mT c p)(h: ∀a∈x.V.l,p a)(i:Nat)(l:List UInt8)(q:Bool): ∀a∈(ny c x i l q).V.l,p a:=AH h (hp.w _ _ _)
theorem AJ(hp:mT c p)(h: ∀a∈x.V.l,p a)(i b r:Nat): ∀a∈(b3 c x i b r).V.l,p a:=AH h (hp.r _ _)
theorem HL(hp:mT c p)(h: ∀a∈x.V.l,p a)(n:Nat)(b:Bool): ∀a∈(cI c x n b).V.l,p a:=by
 have d:=AJ hp h (a2 x n) (mQ x n) (mS x n);unfold cI;cases (((bK c x (a2 x n):Nat):Int)==1)&&b
 ·exact d
 ·exact qF (x:=jr c x n) hp d _ _ _
theorem HN(hp:mT c p)(h: ∀a∈x.V.l,p a)(n:Nat)(l:List UInt8)(m:Nat): ∀a∈(bG c x n l m).V.l,p a:=by
 have b:=AJ hp h (a2 x n) (mQ x n) (mS x n);unfold bG;cases (m:Int)==0
 ·cases decide (pc m=64)
  ·cases !(cp (bK c x (a2 x n))==0)
   ·exact qF (x:=jr c x n) hp b _ _ _
   ·exact qF (x:=jr c x n) hp b _ _ _
  ·exact qF hp h _ _ _
 ·exact h
theorem Xq(hp:mT c p)(h: ∀a∈x.V.l,p a): ∀a∈(jt c x).V.l,p a:=by
 show ∀a∈(lD c x).V.l,p a;unfold lD;cases qA x
 ·exact qF hp h _ _ _
 ·exact qF (x:=wk c x) hp (AJ hp h _ _ _) _ _ _
end
theorem Xr{c:Cf}{p:Ac→Prop}{x:Mc}(hp:mT c p)(h: ∀a∈x.x.V.l,p a)(s:St): ∀a∈(jP c x s).x.V.l,p a:=by
 unfold jP
 split
 ·split
  ·exact HL hp h _ _
  ·split
   ·exact HN hp h _ _ _
   ·split<;>exact HN hp h _ _ _
 ·exact h
theorem Xs{c:Cf}{p:Ac→Prop}{x:Mc}(hp:mT c p)(h: ∀a∈x.x.V.l,p a)(s:St): ∀a∈(fq c x s).x.V.l,p a:=by
 unfold fq
 split
 ·split
  ·exact HL (x:=ke c x.x) hp h _ _
  ·split
   ·split
    ·exact h
    ·exact Xq hp h
   ·split
    ·exact h
    ·split
     ·exact h
     ·split
      ·exact h
      ·exact Xr (x:={x with st:=x.st+1}) hp h s
 ·exact h
theorem HO{c:Cf}{p:Ac→Prop}(hp:mT c p): ∀k,∀a∈(eP c k).l,p a
 | 0=>λa b=>absurd b Zm
 | k+1=>AH (HO hp k) (hp.w _ _ _)
theorem HP{c:Cf}{p:Ac→Prop}(hp:mT c p)(l:List St): ∀k,∀a∈(aj c (ak c) l k).x.V.l,p a
 | 0=>HO hp _
 | k+1=>Xs hp (HP hp l k) _
theorem Xu(m:Int)(xs ys:List UInt8):b0 m xs ys≤288:=by
 unfold b0;rw[u5];intro i _;have a:=z8 (m:=m) (xs:=xs) (ys:=ys) (aT m*i) (aT m);have b:=v9 m;have d:wC m xs ys i≤8*aT m:=a;omega
theorem Xv(c:Cf):mT c λa=>0≤a.ex∧a.ex≤1000000:=⟨λ_ _ _=>⟨ZN _,by show(0:Int)≤1000000;decide⟩,λV i=>by
 have h:=Xu (c.E:Int) (b8 c V.D i) (V.W (a1 V.D i));show 0≤((b0 _ _ _:Nat):Int)∧((b0 _ _ _:Nat):Int)≤1000000;omega⟩
theorem Xw{l:List Ac}(h: ∀a∈l,0≤a.ex∧a.ex≤1000000):tf l:=⟨λk=>by
 rw[Y4];cases b:l[k]? with
 | none=>exact⟨ZN _,by decide⟩
 | some a=>exact h a (ZJ b)⟩
end
section
structure Ym (a:Ac):Prop where
 s:kd a=false
 e:a.ex≤1
section
variable {c:Cf} {x:Ct} {K A:Nat} {id:Int→List UInt8}
theorem bu.ln(h:bu c x K A){n:Nat}(a:n<jO c):n<(x.s.r.m.R*x.s.r.m.B*x.s.r.m.M-x.s.r.m.res)*x.s.r.m.C:=by rw[h.ly.R,h.ly.B,h.ly.M,h.ly.C,h.ly.res];exact a
theorem HQ{a:Ac}(h:kd a=false):a.dr=false∧a.wt=a.ix:=by
 unfold kd at h;rw[Bool.or_eq_false_iff] at h;exact⟨h.1,by simpa using h.2⟩
end
end
theorem Xy{f:Int→List UInt8}{i j:Int}{a b:List UInt8}(h:j=i→a=b)(g:j≠i→f j=b):du f i a j=b:=by
 unfold du
 split
 ·rename_i e;exact h e
 ·rename_i e;exact g e
theorem Xz(c:Cf)(n:Nat):(eP c (n+1)).W=du (eP c n).W ((iD c.B c.M c.C n:Nat):Int) (fe c.E z6 ((iD c.B c.M c.C n:Nat):Int) false):=rfl
theorem XA{c:Cf}{i:Nat}(n:Nat): ∀k,k<n→i=iD c.B c.M c.C k→(eP c n).W ((i:Nat):Int)=fe c.E z6 ((i:Nat):Int) false:=by
 induction n with
 | zero=>exact λk a=>absurd a (ZS k)
 | succ n ih=>
  intro k a e;rw[Xz];refine Xy (λq=>?_) λq=>?_
  ·rw[q]
  ·refine ih k ?_ e;rcases Nat.lt_succ_iff_lt_or_eq.1 a with h | h
   ·exact h
   ·exact absurd (by rw[e,h]) q
theorem XB{c:Cf}(s:cZ c){i:Nat}(h:gZ c.R c.S c.B c.M c.C i): ∃k,k<(c.R+c.S)*(c.B*c.M*c.C)∧i=iD c.B c.M c.C k:=by
 obtain⟨l,a,b,e,rfl,d⟩:=h.ex;have g:=s.O.bd;have hC:=g.c1;have r:=g.m1;have hB:=g.b1;have j:(a*c.M+b)*c.C+e<c.B*c.M*c.C:=by
  have q:a*c.M+b<c.B*c.M:=by
   have:(a+1)*c.M≤c.B*c.M:=Y3 _ d.h1;rw[ZA] at this;have:=d.h2;omega
  have f:(a*c.M+b+1)*c.C≤c.B*c.M*c.C:=Y3 _ q;rw[ZA] at f;have:=d.h3;omega
 refine⟨l*(c.B*c.M*c.C)+((a*c.M+b)*c.C+e),?_,?_⟩
 ·have f:(l+1)*(c.B*c.M*c.C)≤(c.R+c.S)*(c.B*c.M*c.C):=Y3 _ d.h0;rw[ZA] at f;omega
 ·unfold iD qD;have hp:0<c.B*c.M*c.C:=by omega
  rw[Zq,Zr _ _ hp,Zb j,ZK,Zh,Zc j];have m:((a*c.M+b)*c.C+e)/c.C=a*c.M+b:=by rw[Zq,Zr _ _ hC,Zb d.h3,ZK]
  have n:((a*c.M+b)*c.C+e)%c.C=e:=by rw[Zq,Zh,Zc d.h3]
  have o:(a*c.M+b)/c.M=a:=by rw[Zq,Zr _ _ r,Zb d.h2,ZK]
  have p:(a*c.M+b)%c.M=b:=by rw[Zq,Zh,Zc d.h2]
  rw[m,n,o,p]
section
theorem HR{l:List UInt8}{x:Int}{p:Bool}{ys:List UInt8}{k:Nat}(h:(eU (zD l ys k) (zK l x p ys k)+p.toNat)%2=1):1≤dK ys x k:=by
 have b:=va l x p ys x k;rw[ZT,vb,ZU] at b;have hp:=OL (p4 l ys k) (p6 l x p ys k);have d:nj (aE (w9 ys k) 0 8) ((w9 ys k).getD 8 0) ((iJ x:Nat):Int)≠0:=by
  intro e;rw[e] at b;cases p with
  | false=>
   rw[show Hs.mark false.toNat 73=0 from rfl,ZV] at b;rw[←b,show pc 0=0 from rfl] at hp;have h:(eU (zD l ys k) (zK l x false ys k)+0)%2=1:=h;omega
  | true=>
   rw[show Hs.mark true.toNat 73=Hs.col 73 from rfl] at b;have j:ky (zD l ys k) (zK l x true ys k)=Hs.col 73:=by
    have g:=ALca (λz=>z^^^Hs.col 73) b;simp only[ZU,Nat.xor_assoc,ZT,ZV] at g;exact g.symm
   have m:=Hs.col_odd (i:=73) Dc;rw[j] at hp;have h:(eU (zD l ys k) (zK l x true ys k)+1)%2=1:=h;omega
 obtain⟨⟨v,a⟩,hv⟩: ∃V,Hs.verdict (nj (aE (w9 ys k) 0 8) ((w9 ys k).getD 8 0) ((iJ x:Nat):Int))=V:=⟨_,rfl⟩;have f:v≠0:=by
  intro e;subst e;unfold Hs.verdict at hv;rw[ALifn d] at hv
  split at hv
  ·cases hv
  ·split at hv
   ·cases hv
   ·split at hv<;>cases hv
 rw[p7 hv,ALifn f]
 split
 ·decide
 ·split<;>decide
theorem XC{s:Nat→UInt8}{i:Int}{a:UInt8}(h:dx s=⟨0,i,a⟩): ∀j,j<4→s j=0:=by
 by_cases b:jY s
 ·obtain⟨d,e,f,g⟩:=b;intro j k;rcases(show j=0∨j=1∨j=2∨j=3 by omega) with rfl | rfl | rfl | rfl
  ·exact d
  ·exact e
  ·exact f
  ·exact g
 ·unfold dx at h;rw[ALifn b] at h
  split at h
  ·split at h<;>cases h
  ·cases h
theorem HS{l:List UInt8}(n:l.length=64){x:Int}{p:Bool}{r:List UInt8}(o:r.length=72){k:Nat}(m:k<2)(h1:1≤(et (eC l x p r x false k) 39).length)(h:(et (eC l x p r x false k) 39).length≤4):1≤cK r x k:=by
 have b:=sb n x p o x false m;obtain⟨⟨s,t,a⟩,hv⟩: ∃V,dx (Sy (eC l x p r x false k))=V:=⟨_,rfl⟩;have g:s≠0:=by
  intro e;subst e;have q:=y1 h (XC hv);have:et (eC l x p r x false k) 39=[]:=by
   apply List.eq_nil_iff_forall_not_mem.2;intro i j;obtain⟨d,f⟩:=p9.1 j;exact f (q i d)
  rw[this] at h1;exact absurd h1 Dc
 rw[qc (b.trans hv),ALifn g]
 split
 ·decide
 ·split<;>decide
structure l9 (m v n:Nat) (p:Bool):Prop where
 a:v=0→0<n→3+m≤n
 b:v=1→n≠1→2+m≤n
 z:n=0→v=0
 o:n=1→p=false→v=1
theorem XD{m:Nat}(v:m=1∨m=2){l r:List UInt8}(g:l.length=64)(b:r.length=72)(x:Int)(p:Bool):l9 m (jN m r x) (b0 (m:Int) (fe m l x p) r+p.toNat) p:=by
 unfold jN nw;rcases v with rfl | rfl
 ·show l9 1 (jK ((Y5 8).map (dK r x))).toNat (b0 1 (bf 9 (dP l x p) 8) r+p.toNat) p;have t:=vc ((Y5 8).map (dK r x));cases p with
  | false=>
   obtain⟨e,a⟩: ∃e,b0 1 (bf 9 (dP l x false) 8) r=e:=⟨_,rfl⟩;show l9 1 _ (b0 1 (bf 9 (dP l x false) 8) r+0) false;by_cases o:e≤1
   ·have i:=(Pd g b (x:=x) Om).2.1;rw[a] at i⊢;rw[i];exact⟨by omega,by omega,by omega,by omega⟩
   by_cases i:e=2
   ·have j:=Pe (l:=l) b (x:=x) Om;rw[a];exact⟨by omega,by omega,by omega,by omega⟩
   by_cases j:e=3
   ·obtain⟨k,d,n⟩:=vf b (m:=2) (a.trans j);have q:=o1 (o2 (f:=dK r x) d);have s:=HR (l:=l) (x:=x) (p:=false) (ys:=r) (k:=k) (by rw[n];rfl);rw[a];exact⟨by omega,by omega,by omega,by omega⟩
   ·rw[a];exact⟨by omega,by omega,by omega,by omega⟩
  | true=>
   obtain⟨e,a⟩: ∃e,b0 1 (bf 9 (dP l x true) 8) r=e:=⟨_,rfl⟩;show l9 1 _ (b0 1 (bf 9 (dP l x true) 8) r+1) true;by_cases o:e≤1
   ·have i:=Pf (l:=l) b (x:=x) Om;rw[a];exact⟨by omega,by omega,by omega,λ_ h=>by cases h⟩
   by_cases j:e=2
   ·obtain⟨k,d,n⟩:=vf b (m:=1) (a.trans j);have q:=o1 (o2 (f:=dK r x) d);have s:=HR (l:=l) (x:=x) (p:=true) (ys:=r) (k:=k) (by rw[n];rfl);rw[a];exact⟨by omega,by omega,by omega,by omega⟩
   ·rw[a];exact⟨by omega,by omega,by omega,by omega⟩
 ·show l9 2 (jK ((Y5 2).map (cK r x))).toNat (b0 2 (bf 36 (cN l x p) 2) r+p.toNat) p;have t:=vc ((Y5 2).map (cK r x));cases p with
  | false=>
   obtain⟨e,a⟩: ∃e,b0 2 (bf 36 (cN l x false) 2) r=e:=⟨_,rfl⟩;show l9 2 _ (b0 2 (bf 36 (cN l x false) 2) r+0) false;by_cases o:e≤1
   ·have i:=(PH g b (x:=x) Om).2.1;rw[a] at i⊢;rw[i];exact⟨by omega,by omega,by omega,by omega⟩
   by_cases i:e≤3
   ·have j:=PI g b (x:=x) Om Om;rw[a];exact⟨by omega,by omega,by omega,by omega⟩
   by_cases j:e=4
   ·obtain⟨k,d,n⟩:=vp g b (m:=3) (a.trans j);have q:=o1 (o2 (f:=cK r x) d);have u:=EF g (x:=x) b d;have s:=HS g (x:=x) (p:=false) b d Om Om;rw[a];exact⟨by omega,by omega,by omega,by omega⟩
   ·rw[a];exact⟨by omega,by omega,by omega,by omega⟩
  | true=>
   obtain⟨e,a⟩: ∃e,b0 2 (bf 36 (cN l x true) 2) r=e:=⟨_,rfl⟩;show l9 2 _ (b0 2 (bf 36 (cN l x true) 2) r+1) true;by_cases o:e≤2
   ·have i:=PJ g b (x:=x) Om;rw[a];exact⟨by omega,by omega,by omega,λ_ h=>by cases h⟩
   by_cases j:e=3
   ·obtain⟨k,d,n⟩:=vp g b (m:=2) (a.trans j);have q:=o1 (o2 (f:=cK r x) d);have u:=(EE g (x:=x) b d).1;have s:=HS g (x:=x) (p:=true) b d Om Om;rw[a];exact⟨by omega,by omega,by omega,by omega⟩
   ·rw[a];exact⟨by omega,by omega,by omega,by omega⟩
structure XE (c:Cf) (V:Dv) (i:Nat):Prop where
 e: ∃(l:List UInt8) (p:Bool),l.length=64∧V.W (i:Int)=fe c.E l (i:Int) p∧V.Z (i:Int)=bif p then 1 else 0
def XF(c:Cf)(V:Dv):Prop:=∀i,gZ c.R c.S c.B c.M c.C i→XE c V i
def XG(m:Nat)(a:Ac)(n:Nt):Prop:=kd a=false→l9 m n.v (a.ex.toNat+a.mr.toNat) a.mr∧0≤a.ex
def gI(l:List Ac):List Ac:=l.filter λa=> !a.wr
def kK(l:List Nt):List Nt:=l.filter λn=>(n.k:Int)==1
theorem AK{l:List Ac}{a:Ac}(h:a.wr=true):gI (l++[a])=gI l:=by
 unfold gI;rw[Zi,ZF (by rw[h];decide),Zp,Zo]
theorem HT{l:List Ac}{a:Ac}(h:a.wr=false):gI (l++[a])=gI l++[a]:=by
 unfold gI;rw[Zi,ZG (by rw[h];rfl),Zp]
theorem wV{l:List Nt}{n:Nt}(h:n.k≠1):kK (l++[n])=kK l:=by
 unfold kK;rw[Zi,ZF (by intro e;have:=eq_of_beq e;omega),Zp,Zo]
theorem HU{l:List Nt}{n:Nt}(h:n.k=1):kK (l++[n])=kK l++[n]:=by
 unfold kK;rw[Zi,ZG (by rw[h];rfl),Zp]
structure eK (c:Cf) (x:Ct):Prop where
 g:XF c x.V
 p: ∃ps:List (Ac×Nt),gI x.V.l=ps.map (·.1)∧kK x.ns=ps.map (·.2)∧∀q∈ps,XG c.E q.1 q.2
section
variable {c:Cf} {x:Ct} {K A:Nat}
theorem qG(h:eK c x)(i:Nat){l:List UInt8}(n:l.length=64)(p:Bool):eK c (ny c x i l p):=by
 obtain⟨r,f,g,j⟩:=h.p;refine⟨λk m=>?_,r,?_,g,j⟩
 ·by_cases e:k=i
  ·subst e;exact⟨l,p,n,ALifp rfl,ALifp rfl⟩
  ·obtain⟨o,q,a,b,d⟩:=(h.g k m).e;exact⟨o,q,a,(ALifn Om).trans b,(ALifn Om).trans d⟩
 ·show gI (x.V.l++[_])=_;rw[AK rfl];exact f
theorem AM(h:bu c x K A)(b:eK c x){i:Nat}(z:gZ c.R c.S c.B c.M c.C i)(d r:Nat):eK c (b3 c x i d r):=by
 obtain⟨C,v,w,y⟩:=b.p;refine⟨λk B=>⟨(b.g k B).e⟩,C++[(lB c x.V (i:Int),mP c x i d r)],?_,?_,λq a=>?_⟩
 ·show gI (x.V.l++[lB c x.V (i:Int)])=_;rw[HT rfl,v,Zn];rfl
 ·show kK (x.ns++[mP c x i d r])=_;rw[HU rfl,w,Zn];rfl
 ·rcases List.mem_append.1 a with a | a
  ·exact y q a
  ·rw[List.mem_singleton.1 a];intro j;obtain⟨l,p,f,n,o⟩:=(b.g i z).e;have g:a1 x.V.D (i:Int)=(i:Int):=(HQ j).2;have s:cS x.V.D=false:=(HQ j).1;have m:=mO h.D (i:Int);have t:(lB c x.V (i:Int)).ex=((b0 (c.E:Int) (fe c.E l (i:Int) p) (b8 c x.V.D (i:Int)):Nat):Int):=by
    show((b0 (c.E:Int) (b8 c x.V.D (i:Int)) (x.V.W (a1 x.V.D (i:Int))):Nat):Int)=_;rw[g,n,OD m (qx _ f _ _)]
   have u:(lB c x.V (i:Int)).mr=p:=by
    show(bif !(cS x.V.D) then x.V.Z (a1 x.V.D (i:Int))==1 else false)=p;rw[s,g,o];cases p<;>rfl
   show l9 c.E (bK c x i) ((lB c x.V (i:Int)).ex.toNat+(lB c x.V (i:Int)).mr.toNat) (lB c x.V (i:Int)).mr∧0≤(lB c x.V (i:Int)).ex;rw[t,u];exact⟨XD h.cf.E f m (i:Int) p,Int.natCast_nonneg _⟩
theorem HV(h:bu c x K A){n:Nat}(a:n<jO c):gZ c.R c.S c.B c.M c.C (a2 x n):=(GR h.s.r.m h.s.r.j (h.ln a)).lay h.ly
theorem eK.fix{y:Ct}(h:eK c y):eK c (kH x y):=⟨h.g,h.p⟩
theorem AN(h:bu c x K A)(i:Nat):(cU c x i).length=64:=oq _ (mO h.D _) _
theorem HW(h:bu c x K A)(d:eK c x){n:Nat}(e:n<jO c)(b:Bool):eK c (cI c x n b):=by
 have a:eK c (jr c x n):=AM h d (HV h e) _ _;unfold cI;refine eK.fix ?_;cases (((bK c x (a2 x n):Nat):Int)==1)&&b
 ·exact a
 ·exact qG a _ (AN h _) _
theorem AO(h:bu c x K A)(a:eK c x){n:Nat}(e:n<jO c){l:List UInt8}(d:l.length=64)(m:Nat):eK c (bG c x n l m):=by
 have b:eK c (jr c x n):=AM h a (HV h e) _ _;unfold bG;cases (m:Int)==0
 ·cases decide (pc m=64)
  ·cases !(cp (bK c x (a2 x n))==0)
   ·exact eK.fix (qG b _ ((wh ..).trans (AN h _)) _)
   ·exact eK.fix (qG b _ YV _)
  ·exact eK.fix (qG a _ d _)
 ·exact a
theorem XH(h:bu c x K A)(b:eK c x)(d:x.s.r.j.A≠0):eK c (jt c x):=by
 have i:=Au h.s.r d (h.run d);have a:eK c (lD c x):=by
  unfold lD;cases qA x
  ·exact qG b _ YV _
  ·exact qG (AM h b (i.2.2.1.lay h.ly) _ _) _ (AN h _) _
 obtain⟨j,e,f,g⟩:=a.p;refine⟨a.g,j,e,?_,g⟩;show kK ((lD c x).ns++[(⟨3,0,0,0,0,0⟩:Nt)])=_;rw[wV Dc];exact f
end
theorem XI{c:Cf}{x:Mc}{K A N:Nat}(h:eA c x K A N){s:St}(hs:StOk s)(a:eK c x.x):eK c (jP c x s).x:=by
 unfold jP;by_cases d:bQ s.ln ((jO c:Nat):Int)=true
 ·have b:s.ln.toNat<jO c:=Hi d;rw[ALifp d]
  split
  ·exact HW h.ct a b _
  ·split
   ·exact AO h.ct a b hs.d _
   ·split
    ·exact AO h.ct a b hs.d _
    ·exact AO h.ct a b hs.d _
 ·rw[ALifn d];exact a
theorem XJ{c:Cf}{x:Mc}{K A N:Nat}(h:eA c x K A N){s:St}(hs:StOk s)(a:eK c x.x):eK c (fq c x s).x:=by
 unfold fq
 split
 ·split
  ·exact HW (Ar h.ct) (x:=ke c x.x) ⟨a.g,a.p⟩ h.ct.U true
  ·split
   ·split
    ·exact a
    ·rename_i j;exact XH h.ct a j
   ·split
    ·obtain⟨g,b,d,f⟩:=a.p;refine⟨a.g,g,b,?_,f⟩;show kK (x.x.ns++[(⟨2,0,0,0,0,0⟩:Nt)])=_;rw[wV Dc];exact d
    ·split
     ·obtain⟨g,b,d,f⟩:=a.p;refine⟨a.g,g,b,?_,f⟩;show kK (x.x.ns++[(⟨4,0,0,0,0,0⟩:Nt)])=_;rw[wV Dc];exact d
     ·split
      ·exact⟨λi k=>⟨(a.g i k).e⟩,a.p⟩
      ·exact XI (x:={x with st:=x.st+1}) (N:=N+1) ⟨h.ct,h.il,Y1 h.jl,Y1 h.sl,Y1 h.sc,YY h.st⟩ hs a
 ·exact a
theorem HX(c:Cf): ∀n,gI (eP c n).l=[]∧∀i:Int,(eP c n).Z i=0
 | 0=>⟨rfl,λ_=>rfl⟩
 | n+1=>by
  obtain⟨a,b⟩:=HX c n;refine⟨?_,λi=>?_⟩
  ·show gI ((eP c n).l++[_])=_;rw[AK rfl];exact a
  ·show du (eP c n).Z _ (bif false then 1 else 0) i=0;unfold du
   split
   ·rfl
   ·exact b i
theorem XK{c:Cf}(d:cZ c):eK c (ak c).x:=by
 obtain⟨a,b⟩:=HX c ((c.R+c.S)*(c.B*c.M*c.C));refine⟨λi f=>?_,[],a,rfl,λq h=>absurd h Zm⟩;obtain⟨k,g,e⟩:=XB d f;exact⟨mz 64 0,false,YV,XA _ k g e,b _⟩
theorem HY{c:Cf}(a:cZ c){l:List St}(hs:qE l): ∀k,k≤900→eK c (aj c (ak c) l k).x
 | 0,_=>XK a
 | k+1,b=>XJ (wU (GM.start a) hs k Om).ok (hs.a k) (HY a hs k Om)
end
end E
end Go.Proofs.YtbcodenfkijdnaaGreat
