/- WholeModes, in 7 texts: part 5. For every input; no condition. -/
import Derived.Test.YtbcodenfkijdnaaGreatPm4
set_option linter.unusedVariables false
set_option linter.unusedSimpArgs false
set_option maxRecDepth 100000
namespace Go.Proofs.YtbcodenfkijdnaaGreat
open Go Go.RowKit Go.Shelf
open Go.Proofs.Tryz renaming prog→Zl
open List renaming replicate→Zm,length_replicate→Zo,getD_eq_getElem?_getD→Zp,mem_append_right→Zq,sublist_append_right→Zr,range→Zt,length_range→Zu,length_append→Zx,getElem?_eq_getElem→Zy,mem_append_left→Zz,length_map→ZE,append_assoc→ZF,getElem?_range→ZH,getElem?_replicate→ZI,mem_cons_self→ZJ,flatten→ZQ,getElem?_map→ZV,sublist_append_left→ZW,flatten_append→ZY,not_mem_nil→Z5,Perm→aaa,mem_cons_of_mem→aab,mem_of_getElem?→aac,flatten_cons→aag,map_append→aaj,append_nil→aak
open Nat renaming le_trans→Zn,succ_le_succ→Zs,le_succ_of_le→Zv,mul_assoc→Zw,mul_comm→ZA,zero_le→ZB,div_eq_of_lt→ZC,lt_of_lt_of_le→ZD,mod_lt→ZG,le_mul_of_pos_right→ZK,noConfusion→ZL,le_succ→ZM,add_mul_div_right→ZN,mod_eq_of_lt→ZO,mul_le_mul_right→ZP,add_mul_mod_self_right→ZR,succ_mul→ZT,add_comm→ZU,not_lt_zero→ZX,le_refl→ZZ,lt_of_le_of_lt→Z0,zero_mul→Z1,add_zero→Z2,zero_add→Z6,mul_add_div→Z8,mul_add_mod→Z9,div_lt_of_lt_mul→aae,blt_eq→aah,le_of_not_lt→aai,div_add_mod→aal,le_of_eq→aam
open Classical renaming choose→ZS,choose_spec→Z7
open Option renaming map_some→Z3,getD_some→aaf
open Bool renaming and_eq_true→Z4
open Go.Result renaming andThen_ok→aad
namespace E
def bE(c:Cf)(x:Ct)(n:Nat)(l:List UInt8)(m:Nat):Ct:=kt x<| bif (m:Int)==0 then x else bif decide (pc m=64) then mo c x (aA x n) l false else bif !(cb (bC c x (aA x n))==0) then mo c (kr c x n) (aA x n) z6 true else mo c (kr c x n) (aA x n) (fI (cx c x (aA x n)) l m) false
def cc(c:Cf)(x:Ct)(n m:Nat):Int:=bif (m:Int)==0 then 30 else bif decide (pc m=64) then 0 else bif !(cb (bC c x (aA x n))==0) then cb (bC c x (aA x n)) else 0
theorem wG(l o:List UInt8)(m:Nat):(fI l o m).length=l.length:=wm o _ l
theorem AS{c:Cf}{x:Ct}{K A:Nat}(h:ba c x K A){n:Nat}(e:n<(c.R*c.B*c.M-c.res)*c.C){l:List UInt8}(d:l.length=64)(m:Nat)(b:K+3≤1000000000):ba c (bE c x n l m) (K+3) (A+2):=by
 have a:=qT h e b;unfold bE;refine h.fix ?_;cases (m:Int)==0
 ·cases decide (pc m=64)
  ·cases !(cb (bC c x (aA x n))==0)
   ·exact qS a ((wG ..).trans (nI _ (lH h.D _) _)) false
   ·exact qS a Zo true
  ·exact(qS h d false).mono Om Om
 ·exact h.mono Om Om
def jH(c:Cf)(x:Ct):Ct:={x with U:=(x.U+1)%((c.R*c.B*c.M-c.res)*c.C)}
def lM(c:Cf)(x:Ct):Ct:=cy c (jH c x) x.U true
theorem qU{c:Cf}{x:Ct}{K A:Nat}(h:ba c x K A):ba c (jH c x) K A:=⟨h.cf,h.s,h.D,h.gl,h.vl,h.nl,h.ly,h.run,ZG _ (by have:=h.U;omega),h.time⟩
theorem Vl{c:Cf}{x:Ct}{K A:Nat}(h:ba c x K A)(a:K+3≤1000000000):ba c (lM c x) (K+3) (A+2):=G6 (qU h) h.U true a
theorem AT(l y:List UInt8)(m:Nat)(b:l.length=64)(d:y.length=64)(c:m<18446744073709551616):aa Zl 94 #[.agg (rB 64 l).toArray,.agg (rB 64 y).toArray,u6 (m:Int)] [] [] N0 (λ_=> .agg (rB 64 (fI l y m)).toArray):=by
 have a:=TG l y m b d c;rwa [List.take_length] at a
theorem Vm(b d o j k i p g a f e:Nat)(c:Cf)(x:Ct)(K A:Nat)(h:ba c x K A)(hA:A≤700000)(u:K+3≤1000000000)(n:Nat)(B:n<((c.R*c.B*c.M-c.res)*c.C)):aa Zl 91 #[pt b 0,iN n] [pk (aV b d o j k i p g a f e c x)] [0] (λ_=>[pk (aV b d o j k i p g a f e c (cy c x n c.W))]) (λ_=> .tuple #[.agg (rB 64 (cx c x (aA x n))).toArray,i6 (cb (bC c x (aA x n)))]):=aa.pkZ Tryz.func91 λL y=>by
 obtain⟨v,rfl⟩:=y;refine⟨[0,2,3,4,5,6,7],λE=>[ob b #[pt d 0,pt a 0,pt e 0,iN x.U,(E.val 0)] 119,pk (au o j k (cy c x n c.W).s.r),pk (aD i p (cy c x n c.W).s.k),pk (az g (cy c x n c.W).s.g),pk (dN e),pk (bo a f c (cy c x n c.W).V),b8 (E.val 0) ((cy c x n c.W).ns)],?_,rfl,λE=>⟨rfl,rfl,⟨_,rfl⟩⟩⟩;have q:=h.cf;have F:=q.E;have D:=q.E;have z:=h.dv Om;have C:=h.nl;exact fG Tryz.func91 λw cs=>ra (λr=>[(4,pt (B0 r) 0),(5,i6 0)]) (λr=>[ob (B0 r) (rB 64 z6).toArray 43]) λr=>rr (λ_=>[(5,.m (ld 0 (pt d 0))),(9,.m (ld 1 (.bool c.W))),(10,.c [0,1,2,3,4,5,6,7] [0,2,3,4,5,6,7] (Hb b d o j k i p g a f e c x.s x.U x.ns x.V _ _ h v hA u n B c.W)),(13,.s 8)]) (λ_=>[(5,i6 (cb (bC c x (aA x n))))]) [5] (λt L=>((((((L.set 0 (ob b #[pt d 0,pt a 0,pt e 0,iN x.U,((t 10).val 0)] 119)).set 2 ((pk (au o j k (cy c x n c.W).s.r)))).set 3 ((pk (aD i p (cy c x n c.W).s.k)))).set 4 ((pk (az g (cy c x n c.W).s.g)))).set 6 ((pk (bo a f c (cy c x n c.W).V)))).set 7 (b8 ((t 10).val 0) ((cy c x n c.W).ns))).set 8 (ob (B0 r) (rB 64 (cx c x (aA x n))).toArray 43)) λt=>ao (.tuple #[.agg (rB 64 (cx c x (aA x n))).toArray,i6 (cb (bC c x (aA x n)))]) (.l [] [] [((t 10).val 0)]) bc [0,2,3,4,5,6,7] [(1,1)] [8] (hf:=by kernel_rfl)
theorem Vn(l m i o p f t e d r g:Nat)(c:Cf)(s:Le)(a:Nat)(ns:List Nt)(V:Dv)(K A:Nat)(h:ba c ⟨s,a,ns,V⟩ K A)(v:Value)(n:Int)(u:bL n ((((c.R*c.B*c.M-c.res)*c.C):Nat):Int)=false)(b:Bool):aa Zl 83 #[pt l 0,i6 n,.bool b] [ob l #[pt m 0,pt d 0,pt g 0,iN a,v] 119,ob m (lA c i f e s.time) 122,pk (au i o p s.r),pk (aD f t s.k),pk (az e s.g),pk (dN g),pk (bo d r c V),b8 v ns] [2,3,4,5,6,7] (λ_=>[pk (au i o p s.r),pk (aD f t s.k),pk (az e s.g),pk (dN g),pk (bo d r c V),b8 v ns]) (λ_=> .tuple #[.agg (rB 64 z6).toArray,i6 30]):=by
 have x:=h.s.r;have q:bL n (((s.r.m.R*s.r.m.B*s.r.m.M-s.r.m.res)*s.r.m.C:Nat):Int)=false:=by rw[h.ly.R,h.ly.B,h.ly.M,h.ly.C,h.ly.res];exact u
 exact fG Tryz.func83 λw cs=>ra (λj=>[(6,pt (B0 j) 0),(7,i6 0)]) (λj=>[ob (B0 j) (rB 64 z6).toArray 43]) λj=>rr (λ_=>[(2,.c [0,1,2] [2] (Ha l m i o p f e d g c s.r x a s.time v n q)),(7,.s 9)]) (λk=>[(8,pt (B6 k) 0),(9,i6 30)]) [] (λk L=>L++[ob (B6 k) #[i6 0,i6 0,i6 0] 180]) λk=>rT [] 19 (r0 [(2,.s 8)] [(7,i6 30)] [7] (lf ab.zero [2,3,4,5,6,7] [(0,0),(1,1)] [8]))
theorem Vo(b i o j l g p f d e k:Nat)(c:Cf)(x:Ct)(K A:Nat)(h:ba c x K A)(n:Int)(r:bL n ((((c.R*c.B*c.M-c.res)*c.C):Nat):Int)=false):aa Zl 91 #[pt b 0,i6 n] [pk (aV b i o j l g p f d e k c x)] [0] (λ_=>[pk (aV b i o j l g p f d e k c x)]) (λ_=> .tuple #[.agg (rB 64 z6).toArray,i6 30]):=aa.pkZ Tryz.func91 λL q=>by
 obtain⟨v,rfl⟩:=q;refine⟨[2,3,4,5,6,7],λ_=>[pk (au o j l x.s.r),pk (aD g p x.s.k),pk (az f x.s.g),pk (dN k),pk (bo d e c x.V),b8 v x.ns],?_,rfl,λE=>⟨rfl,rfl,⟨_,rfl⟩⟩⟩;exact fG Tryz.func91 λw cs=>ra (λa=>[(4,pt (B0 a) 0),(5,i6 0)]) (λa=>[ob (B0 a) (rB 64 z6).toArray 43]) λa=>rr (λ_=>[(5,.m (ld 0 (pt i 0))),(9,.m (ld 1 (.bool c.W))),(10,.c [0,1,2,3,4,5,6,7] [2,3,4,5,6,7] (Vn b i o j l g p f d e k c x.s x.U x.ns x.V _ _ h v n r c.W)),(13,.s 8)]) (λ_=>[(5,i6 30)]) [5] (λ_ L=>L.set 8 (ob (B0 a) (rB 64 z6).toArray 43)) λt=>lf ab.zero [2,3,4,5,6,7] [(0,0),(1,1)] [8]
theorem Hc(j q r D F o I k b g i:Nat)(c:Cf)(x:Ct)(K A:Nat)(h:ba c x K A)(hA:A≤700000)(W:K+3≤1000000000)(n:Nat)(X:n<((c.R*c.B*c.M-c.res)*c.C))(u:Value)(l:List UInt8)(hl:l.length=64)(m:Nat)(H:m<18446744073709551616)(v:Value):aa Zl 93 #[pt j 0,iN n,u,u6 (m:Int)] [ob j #[pt q 0,pt b 0,pt i 0,iN x.U,v] 119,ob q (lA c r o k x.s.time) 122,pk (au r D F x.s.r),pk (aD o I x.s.k),pk (az k x.s.g),pk (dN i),pk (bo b g c x.V),b8 v x.ns,.p (aK eB u l)] [0,2,3,4,5,6,7] (λE=>[ob j #[pt q 0,pt b 0,pt i 0,iN x.U,(E.val 0)] 119,pk (au r D F (bE c x n l m).s.r),pk (aD o I (bE c x n l m).s.k),pk (az k (bE c x n l m).s.g),pk (dN i),pk (bo b g c (bE c x n l m).V),b8 (E.val 0) ((bE c x n l m).ns)]) (λ_=>i6 (cc c x n m)):=by
 have e:=h.cf;have hm:=e.E;have HM:=e.E;have P:=h.dv Om;have Z:=h.nl;have f:=wE h X;have hr:=h.s.r;have ht:=qT h X W;have G:=ht.dv Om;have z:=f.1;have y:=f.2.1;have Q:=f.2.2.1;have U:=f.2.2.2.1;have S:=f.2.2.2.2;have R:(cx c x (aJ x.s.r.m x.s.r.j n)).length=64:=nI c.E (lH h.D _) _;have Y:=(wG (cx c x (aJ x.s.r.m x.s.r.j n)) l m).trans R;have hz6:z6.length=64:=Zo;refine fO Tryz.func93 8 rfl λN T=>fG Tryz.func93 λw cs=>r0 [] [(8,i6 0)] [] (rr (λ_=>[(2,.c [0,1,2] [2] (G9 j q r D F o k b i c x.s.r hr x.U x.s.time v n S)),(7,.s 9)]) (λJ=>[(9,pt (B6 J) 0),(10,i6 0)]) [] (λJ L=>L++[ob (B6 J) #[i6 ((aJ x.s.r.m x.s.r.j n:Nat):Int),i6 ((aq x.s.r.m n:Nat):Int),i6 ((aG x.s.r.m.G x.s.r.m.R x.s.r.m.B x.s.r.m.M (aq x.s.r.m n):Nat):Int)] 180]) λJ=>rr (λ_=>[(1,.c [8] [] (aa.at (rd':=[.c N]) (Gg u l (by with_reducible assumption)) (eD T (λ_ h=>h)))),(6,.s 10)]) (λM=>[(11,pt (B5 M) 0),(12,i6 0)]) [] (λM L=>L++[ob (B5 M) (rB 64 l).toArray 43]) λM=>r0 [] [(27,.bool ((m:Int)==0))] [] ?_);refine cX (m:Int) 0 (λt O=>?_) λt O=>?_
 ·exact r0 [] [(8,i6 30)] [8] (ao (i6 30) (.l [] [] [v]) (by unfold cc aA;(repeat (first | rw[t] | rw[ALct]))) [0,2,3,4,5,6,7] [(1,1),(8,8)] [] (hf:=by unfold bE kt kr aA lK lL;dsimp only;(repeat (first | rw[t] | rw[ALct]));kernel_rfl))
 refine r0 [(1,.c [] [] (TA m H))] [(38,.bool (decide (pc m=64)))] [] ?_;refine cB (decide (pc m=64)) (λB=>?_) λB=>?_
 ·exact rr (λ_=>[(2,.l 9),(3,.l 10),(4,.c [0,1,5,6] [5,6] (pL j q r o k b g i c e x.U x.s.time v x.V (by with_reducible exact P) (aJ x.s.r.m x.s.r.j n) z y l (by with_reducible assumption) false))]) N0 [] (λ_ L=>L.set 6 ((pk (bo b g c (iL x.V ((aJ x.s.r.m x.s.r.j n):Int) (eu c.E l ((aJ x.s.r.m x.s.r.j n):Int) false) (bif false then 1 else 0)))))) λq9=>r0 [] [(8,i6 0)] [8] (ao (i6 0) (.l [] [] [v]) (by unfold cc aA;(repeat (first | rw[t] | rw[B] | rw[ALct] | rw[ALcf]))) [0,2,3,4,5,6,7] [(1,1),(8,8)] [] (hf:=by unfold bE kt kr aA lK lL;dsimp only;(repeat (first | rw[t] | rw[B] | rw[ALct] | rw[ALcf]));kernel_rfl))
 refine rr (λ_=>[(1,.l 9),(2,.c [0,1,2,3,4,5,6,7] [0,2,3,4,5,6,7] (AQ j q r D F o I k b g i c x.s x.U x.ns x.V _ _ h v hA W (aJ x.s.r.m x.s.r.j n) (aq x.s.r.m n) (aG x.s.r.m.G x.s.r.m.R x.s.r.m.B x.s.r.m.M (aq x.s.r.m n)) z y Q U)),(8,.s 11),(9,.s 12)]) (λa=>[(13,pt (B6 a) 0),(14,pt (B7 a) 0)]) [] (λa L=>(((((L.set 0 (ob j #[pt q 0,pt b 0,pt i 0,iN x.U,((a 2).val 0)] 119)).set 2 ((pk (au r D F (bX c x (aJ x.s.r.m x.s.r.j n) (aq x.s.r.m n) (aG x.s.r.m.G x.s.r.m.R x.s.r.m.B x.s.r.m.M (aq x.s.r.m n))).s.r)))).set 3 ((pk (aD o I (bX c x (aJ x.s.r.m x.s.r.j n) (aq x.s.r.m n) (aG x.s.r.m.G x.s.r.m.R x.s.r.m.B x.s.r.m.M (aq x.s.r.m n))).s.k)))).set 4 ((pk (az k (bX c x (aJ x.s.r.m x.s.r.j n) (aq x.s.r.m n) (aG x.s.r.m.G x.s.r.m.R x.s.r.m.B x.s.r.m.M (aq x.s.r.m n))).s.g)))).set 6 ((pk (bo b g c (bX c x (aJ x.s.r.m x.s.r.j n) (aq x.s.r.m n) (aG x.s.r.m.G x.s.r.m.R x.s.r.m.B x.s.r.m.M (aq x.s.r.m n))).V)))).set 7 (b8 ((a 2).val 0) ((bX c x (aJ x.s.r.m x.s.r.j n) (aq x.s.r.m n) (aG x.s.r.m.G x.s.r.m.R x.s.r.m.B x.s.r.m.M (aq x.s.r.m n))).ns))++[ob (B6 a) (rB 64 (cx c x (aJ x.s.r.m x.s.r.j n))).toArray 43,ob (B7 a) #[i6 ((bC c x (aJ x.s.r.m x.s.r.j n):Nat):Int),i6 ((ib c.E (kq c x (aJ x.s.r.m x.s.r.j n)) ((aJ x.s.r.m x.s.r.j n):Int):Nat):Int)] 79]) λa=>r0 [(0,.l 12),(1,.c [] [] (AR (bC c x (aJ x.s.r.m x.s.r.j n)) (ib c.E (kq c x (aJ x.s.r.m x.s.r.j n)) ((aJ x.s.r.m x.s.r.j n):Int))))] [(15,i6 (cb (bC c x (aJ x.s.r.m x.s.r.j n))))] [] (r0 [] [(55,.bool ((cb (bC c x (aJ x.s.r.m x.s.r.j n))) != 0))] [] ?_);refine m9 (cb (bC c x (aJ x.s.r.m x.s.r.j n))) 0 (λd C=>?_) λd C=>?_
 ·exact rr (λ_=>[(2,.l 9),(4,.c [0,1,5,6] [5,6] (pL j q r o k b g i c e x.U x.s.time ((a 2).val 0) ((bX c x (aJ x.s.r.m x.s.r.j n) (aq x.s.r.m n) (aG x.s.r.m.G x.s.r.m.R x.s.r.m.B x.s.r.m.M (aq x.s.r.m n))).V) (by exact G) (aJ x.s.r.m x.s.r.j n) z y z6 (by with_reducible assumption) true))]) N0 [] (λ_ L=>L.set 6 ((pk (bo b g c (iL ((bX c x (aJ x.s.r.m x.s.r.j n) (aq x.s.r.m n) (aG x.s.r.m.G x.s.r.m.R x.s.r.m.B x.s.r.m.M (aq x.s.r.m n))).V) ((aJ x.s.r.m x.s.r.j n):Int) (eu c.E z6 ((aJ x.s.r.m x.s.r.j n):Int) true) (bif true then 1 else 0)))))) λq15=>r0 [] [(8,i6 (cb (bC c x (aJ x.s.r.m x.s.r.j n))))] [8] (ao (i6 (cb (bC c x (aJ x.s.r.m x.s.r.j n)))) (.l [] [] [((a 2).val 0)]) (by unfold cc aA;(repeat (first | rw[t] | rw[B] | rw[d] | rw[ALct] | rw[ALcf]))) [0,2,3,4,5,6,7] [(1,1),(8,8)] [] (hf:=by unfold bE kt kr aA lK lL;dsimp only;(repeat (first | rw[t] | rw[B] | rw[d] | rw[ALct] | rw[ALcf]));kernel_rfl))
 exact rs [(2,.l 9),(3,.l 11),(4,.l 10),(6,.c [] [] (AT (cx c x (aJ x.s.r.m x.s.r.j n)) l m (by with_reducible assumption) (by with_reducible assumption) H)),(7,.c [0,1,5,6] [5,6] (pL j q r o k b g i c e x.U x.s.time ((a 2).val 0) ((bX c x (aJ x.s.r.m x.s.r.j n) (aq x.s.r.m n) (aG x.s.r.m.G x.s.r.m.R x.s.r.m.B x.s.r.m.M (aq x.s.r.m n))).V) (by exact G) (aJ x.s.r.m x.s.r.j n) z y (fI (cx c x (aJ x.s.r.m x.s.r.j n)) l m) (by with_reducible assumption) false))] 6 ((pk (bo b g c (iL ((bX c x (aJ x.s.r.m x.s.r.j n) (aq x.s.r.m n) (aG x.s.r.m.G x.s.r.m.R x.s.r.m.B x.s.r.m.M (aq x.s.r.m n))).V) ((aJ x.s.r.m x.s.r.j n):Int) (eu c.E (fI (cx c x (aJ x.s.r.m x.s.r.j n)) l m) ((aJ x.s.r.m x.s.r.j n):Int) false) (bif false then 1 else 0))))) (r0 [] [(8,i6 0)] [8] (ao (i6 0) (.l [] [] [((a 2).val 0)]) (by unfold cc aA;(repeat (first | rw[t] | rw[B] | rw[d] | rw[ALcf]))) [0,2,3,4,5,6,7] [(1,1),(8,8)] [] (hf:=by unfold bE kt kr aA lK lL;dsimp only;(repeat (first | rw[t] | rw[B] | rw[d] | rw[ALcf]));kernel_rfl)))
theorem Hd(a i o j k g q f b e d:Nat)(c:Cf)(x:Ct)(K A:Nat)(h:ba c x K A)(hA:A≤700000)(t:K+3≤1000000000)(n:Nat)(z:n<((c.R*c.B*c.M-c.res)*c.C))(u:Value)(l:List UInt8)(y:l.length=64)(m:Nat)(r:m<18446744073709551616):aa Zl 93 #[pt a 0,iN n,u,u6 (m:Int)] [pk (aV a i o j k g q f b e d c x),.p (aK eB u l)] [0] (λ_=>[pk (aV a i o j k g q f b e d c (bE c x n l m))]) (λ_=>i6 (cc c x n m)):=aa.pkZ Tryz.func93 λL w=>by
 obtain⟨v,rfl⟩:=w;exact⟨[0,2,3,4,5,6,7],λE=>[ob a #[pt i 0,pt b 0,pt d 0,iN x.U,(E.val 0)] 119,pk (au o j k (bE c x n l m).s.r),pk (aD g q (bE c x n l m).s.k),pk (az f (bE c x n l m).s.g),pk (dN d),pk (bo b e c (bE c x n l m).V),b8 (E.val 0) ((bE c x n l m).ns)],Hc a i o j k g q f b e d c x K A h hA t n z u l y m r v,rfl,λE=>⟨rfl,rfl,⟨_,rfl⟩⟩⟩
section
section
variable {R S B M C way r b w:Nat}
theorem Vp(g:cG R S B M C)(c:r<R)(a:b<B)(d:w<M):mf way R B M r b w<R*B*M:=by
 have e:R*B*M=M*B*R:=by rw[ZA (R*B),ZA R,←Zw]
 have f:R*B*M=R*M*B:=by rw[Zw,ZA B,Zw]
 match way with
 | 0=>exact tf d a c
 | 1=>rw[f];exact tf a d c
 | 2=>rw[e];exact tf c a d
 | k+3=>rw[e];exact tf c (qu g.pow a) d
end
def cH(r:Rp):Nat:=if r.j.A=1 then r.j.fr else mf r.m.G r.m.R r.m.B r.m.M r.j.fr (r.j.nx/r.m.C/r.m.M) (r.j.nx/r.m.C%r.m.M)
def dz(r:Rp):Nat:=if r.j.A=1 then aG r.m.G r.m.R r.m.B r.m.M r.j.fr else r.j.fr
theorem He{r:Rp}(h:aO r)(d:r.j.A≠0)(c:r.j.nx<eH r.j.A r.m.B r.m.M r.m.C):cH r<r.m.R*r.m.B*r.m.M∧dz r<r.m.R∧jG r.m.R r.m.S r.m.B r.m.M r.m.C (aU r.m r.j.A r.j.fr r.j.nx)∧jG r.m.R r.m.S r.m.B r.m.M r.m.C (aU r.m r.j.A r.j.tg r.j.nx):=by
 unfold cH dz;rcases h.j.k with e | ⟨e,a⟩ | ⟨e,a⟩
 ·rw[e] at d;exact absurd rfl d
 ·rw[e] at c⊢;exact⟨a.hf,nw h.m.O,AN h.m a.hf c,AN h.m a.ht c⟩
 ·rw[e] at c⊢;have f:=ot h.m (r:=r.j.fr) (i:=r.j.nx) (by have:=a.hf;omega) c;have:=a.t1;have:=h.m.rk;exact⟨Vp h.m.O a.hf f.h1 f.h2,a.hf,AO h.m (by have:=a.hf;omega) c,AO h.m Om c⟩
theorem Vq(e i j m o g q f a k d:Nat)(c:Cf)(x:Ct)(K A:Nat)(h:ba c x K A)(hA:A≤700000)(F:K+3≤1000000000)(n:Nat)(I:n<((c.R*c.B*c.M-c.res)*c.C))(u:Value)(l:List UInt8)(O:l.length=64):aa Zl 92 #[pt e 0,iN n,u] [pk (aV e i j m o g q f a k d c x),.p (aK eB u l)] [0] (λ_=>[pk (aV e i j m o g q f a k d c (bE c x n l 18446744073709551615))]) (λ_=>i6 (cc c x n 18446744073709551615)):=aa.pkZ Tryz.func92 λL G=>by
 obtain⟨v,rfl⟩:=G;refine⟨[0,2,3,4,5,6,7],λE=>[ob e #[pt i 0,pt a 0,pt d 0,iN x.U,(E.val 0)] 119,pk (au j m o (bE c x n l 18446744073709551615).s.r),pk (aD g q (bE c x n l 18446744073709551615).s.k),pk (az f (bE c x n l 18446744073709551615).s.g),pk (dN d),pk (bo a k c (bE c x n l 18446744073709551615).V),b8 (E.val 0) ((bE c x n l 18446744073709551615).ns)],?_,rfl,λE=>⟨rfl,rfl,⟨_,rfl⟩⟩⟩;have t:=h.cf;have P:=t.E;have N:=t.E;have H:=h.dv Om;have J:=h.nl;exact fO Tryz.func92 8 rfl λz D=>fG Tryz.func92 λw cs=>r0 [] [(6,i6 0)] [] (rr (λ_=>[(3,.c [0,1,2,3,4,5,6,7,8] [0,2,3,4,5,6,7] (aa.at (rd':=[ob e #[pt i 0,pt a 0,pt d 0,iN x.U,v] 119,ob i (lA c j g f x.s.time) 122,pk (au j m o x.s.r),pk (aD g q x.s.k),pk (az f x.s.g),pk (dN d),pk (bo a k c x.V),b8 v x.ns,.c z]) (Hc e i j m o g q f a k d c x _ _ h hA F n I u l (by with_reducible assumption) 18446744073709551615 Om v) (atS (atS (atS (atS (atS (atS (atS (atS (eD D (λ_ h=>h))))))))))))]) (λ_=>[(6,i6 (cc c x n 18446744073709551615))]) [6] (λy L=>(((((L.set 0 (ob e #[pt i 0,pt a 0,pt d 0,iN x.U,((y 3).val 0)] 119)).set 2 ((pk (au j m o (bE c x n l 18446744073709551615).s.r)))).set 3 ((pk (aD g q (bE c x n l 18446744073709551615).s.k)))).set 4 ((pk (az f (bE c x n l 18446744073709551615).s.g)))).set 6 ((pk (bo a k c (bE c x n l 18446744073709551615).V)))).set 7 (b8 ((y 3).val 0) ((bE c x n l 18446744073709551615).ns))) λy=>lf (.l [] [] [((y 3).val 0)]) [0,2,3,4,5,6,7] [(1,1),(8,8)] [])
theorem Hf(q t i y z f H e a G g:Nat)(c:Cf)(x:Ct)(K A:Nat)(h:ba c x K A)(n:Int)(I:bL n ((((c.R*c.B*c.M-c.res)*c.C):Nat):Int)=false)(u:Value)(l:List UInt8)(N:l.length=64)(m:Nat)(v:Value):aa Zl 93 #[pt q 0,i6 n,u,u6 (m:Int)] [ob q #[pt t 0,pt a 0,pt g 0,iN x.U,v] 119,ob t (lA c i f e x.s.time) 122,pk (au i y z x.s.r),pk (aD f H x.s.k),pk (az e x.s.g),pk (dN g),pk (bo a G c x.V),b8 v x.ns,.p (aK eB u l)] [2,3,4,5,6,7] (λ_=>[pk (au i y z x.s.r),pk (aD f H x.s.k),pk (az e x.s.g),pk (dN g),pk (bo a G c x.V),b8 v x.ns]) (λ_=>i6 30):=by
 have J:=h.s.r;have D:bL n (((x.s.r.m.R*x.s.r.m.B*x.s.r.m.M-x.s.r.m.res)*x.s.r.m.C:Nat):Int)=false:=by rw[h.ly.R,h.ly.B,h.ly.M,h.ly.C,h.ly.res];exact I
 exact fO Tryz.func93 8 rfl λo F=>fG Tryz.func93 λw cs=>r0 [] [(8,i6 0)] [] (rr (λ_=>[(2,.c [0,1,2] [2] (Ha q t i y z f e a g c x.s.r J x.U x.s.time v n D)),(7,.s 9)]) (λj=>[(9,pt (B6 j) 0),(10,i6 30)]) [] (λj L=>L++[ob (B6 j) #[i6 0,i6 0,i6 0] 180]) λj=>rr (λ_=>[(1,.c [8] [] (aa.at (rd':=[.c o]) (Gg u l (by with_reducible assumption)) (eD F (λ_ h=>h)))),(6,.s 10)]) (λk=>[(11,pt (B5 k) 0),(12,i6 0)]) [] (λk L=>L++[ob (B5 k) (rB 64 l).toArray 43]) λk=>rT [(3,.d),(4,.d),(7,.d),(8,.d)] 27 (r0 [] [(8,i6 30)] [8] (lf ab.zero [2,3,4,5,6,7] [(0,0),(1,1),(8,8)] [])))
theorem Vr(a s o i k g q f d e j:Nat)(c:Cf)(x:Ct)(K A:Nat)(h:ba c x K A)(n:Int)(z:bL n ((((c.R*c.B*c.M-c.res)*c.C):Nat):Int)=false)(u:Value)(l:List UInt8)(y:l.length=64)(m:Nat):aa Zl 93 #[pt a 0,i6 n,u,u6 (m:Int)] [pk (aV a s o i k g q f d e j c x),.p (aK eB u l)] [0] (λ_=>[pk (aV a s o i k g q f d e j c x)]) (λ_=>i6 30):=aa.pkZ Tryz.func93 λL t=>by
 obtain⟨v,rfl⟩:=t;exact⟨[2,3,4,5,6,7],λ_=>[pk (au o i k x.s.r),pk (aD g q x.s.k),pk (az f x.s.g),pk (dN j),pk (bo d e c x.V),b8 v x.ns],Hf a s o i k g q f d e j c x K A h n z u l y m v,rfl,λE=>⟨rfl,rfl,⟨_,rfl⟩⟩⟩
theorem Vs(i k g m o e q d a j f:Nat)(c:Cf)(x:Ct)(K A:Nat)(h:ba c x K A)(n:Int)(z:bL n ((((c.R*c.B*c.M-c.res)*c.C):Nat):Int)=false)(u:Value)(l:List UInt8)(D:l.length=64):aa Zl 92 #[pt i 0,i6 n,u] [pk (aV i k g m o e q d a j f c x),.p (aK eB u l)] [0] (λ_=>[pk (aV i k g m o e q d a j f c x)]) (λ_=>i6 30):=aa.pkZ Tryz.func92 λL y=>by
 obtain⟨v,rfl⟩:=y;refine⟨[2,3,4,5,6,7],λ_=>[pk (au g m o x.s.r),pk (aD e q x.s.k),pk (az d x.s.g),pk (dN f),pk (bo a j c x.V),b8 v x.ns],?_,rfl,λE=>⟨rfl,rfl,⟨_,rfl⟩⟩⟩;exact fO Tryz.func92 8 rfl λs t=>fG Tryz.func92 λw cs=>r0 [] [(6,i6 0)] [] (r0 [(3,.c [0,1,2,3,4,5,6,7,8] [2,3,4,5,6,7] (aa.at (rd':=[ob i #[pt k 0,pt a 0,pt f 0,iN x.U,v] 119,ob k (lA c g e d x.s.time) 122,pk (au g m o x.s.r),pk (aD e q x.s.k),pk (az d x.s.g),pk (dN f),pk (bo a j c x.V),b8 v x.ns,.c s]) (Hf i k g m o e q d a j f c x _ _ h n z u l (by with_reducible assumption) 18446744073709551615 v) (atS (atS (atS (atS (atS (atS (atS (atS (eD t (λ_ h=>h))))))))))))] [(6,i6 30)] [6] (lf ab.zero [2,3,4,5,6,7] [(0,0),(1,1),(8,8)] []))
theorem Vt(g i u p q o y n f k j:Nat)(c:Cf)(x:Ct)(K A:Nat)(h:ba c x K A)(hA:A≤700000)(H:K+3≤1000000000):aa Zl 49 #[pt g 0] [pk (aV g i u p q o y n f k j c x)] [0] (λ_=>[pk (aV g i u p q o y n f k j c (lM c x))]) (λ_=> .tuple #[iN x.U,i6 (cb (bC c (jH c x) (aA (jH c x) x.U)))]):=aa.pkZ Tryz.func49 λL I=>by
 obtain⟨v,rfl⟩:=I;refine⟨[0,2,3,4,5,6,7],λE=>[ob g #[pt i 0,pt f 0,pt j 0,i6 (((lM c x).U:Nat):Int),E.val 0] 119,pk (au u p q (lM c x).s.r),pk (aD o y (lM c x).s.k),pk (az n (lM c x).s.g),pk (dN j),pk (bo f k c (lM c x).V),b8 (E.val 0) ((lM c x).ns)],?_,rfl,λE=>⟨rfl,rfl,⟨_,rfl⟩⟩⟩;have e:=h.cf;have Q:=e.E;have P:=e.E;have J:=h.dv Om;have O:=h.nl;have G:=e.ly;have F:=h.U;have N:=Zn (ZP c.C (Nat.sub_le (c.R*c.B*c.M) c.res)) e.O.bd.rbmc;have D:=qU h;refine fG Tryz.func49 λw cs=>r0 [] [(2,i6 0),(3,i6 0)] [] (r0 [(3,.l 0)] [(4,iN x.U)] [] (rs [(2,ad x.U 1),(6,.m (ld 0 (pt i 0))),(10,.m (ls 1 ([iN c.R,iN c.S,iN c.B,iN c.M,iN c.C,iN c.G,iN c.res]))),(11,.c [] [] (zR c.R c.S c.B c.M c.C c.G c.res G)),(12,.t (tb (a:=i6 ((x.U+1:Nat):Int)) (b:=i6 (((((c.R*c.B)*c.M)-c.res)*c.C:Nat):Int)) λ_ _ _ _=>nZ (a:=x.U+1) (d:=(((c.R*c.B)*c.M)-c.res)*c.C) Om)),(15,.s 0)] 0 (ob g #[pt i 0,pt f 0,pt j 0,i6 (((x.U+1)%((((c.R*c.B)*c.M)-c.res)*c.C):Nat):Int),v] 119) ?_));have h:=D;exact rr (λ_=>[(2,.c [0,1,2,3,4,5,6,7] [0,2,3,4,5,6,7] (Hb g i u p q o y n f k j c x.s ((x.U+1)%((((c.R*c.B)*c.M)-c.res)*c.C)) x.ns x.V _ _ h v hA H x.U F true)),(7,.s 8)]) (λ_=>[(6,i6 (cb (bC c (⟨x.s,((x.U+1)%((((c.R*c.B)*c.M)-c.res)*c.C)),x.ns,x.V⟩:Ct) (aA (⟨x.s,((x.U+1)%((((c.R*c.B)*c.M)-c.res)*c.C)),x.ns,x.V⟩:Ct) x.U))))]) [] (λz L=>(((((L.set 0 (ob g #[pt i 0,pt f 0,pt j 0,i6 (((x.U+1)%((((c.R*c.B)*c.M)-c.res)*c.C):Nat):Int),((z 2).val 0)] 119)).set 2 ((pk (au u p q (cy c (⟨x.s,((x.U+1)%((((c.R*c.B)*c.M)-c.res)*c.C)),x.ns,x.V⟩:Ct) x.U true).s.r)))).set 3 ((pk (aD o y (cy c (⟨x.s,((x.U+1)%((((c.R*c.B)*c.M)-c.res)*c.C)),x.ns,x.V⟩:Ct) x.U true).s.k)))).set 4 ((pk (az n (cy c (⟨x.s,((x.U+1)%((((c.R*c.B)*c.M)-c.res)*c.C)),x.ns,x.V⟩:Ct) x.U true).s.g)))).set 6 ((pk (bo f k c (cy c (⟨x.s,((x.U+1)%((((c.R*c.B)*c.M)-c.res)*c.C)),x.ns,x.V⟩:Ct) x.U true).V)))).set 7 (b8 ((z 2).val 0) ((cy c (⟨x.s,((x.U+1)%((((c.R*c.B)*c.M)-c.res)*c.C)),x.ns,x.V⟩:Ct) x.U true).ns))++[ob (B6 z) (rB 64 (cx c (⟨x.s,((x.U+1)%((((c.R*c.B)*c.M)-c.res)*c.C)),x.ns,x.V⟩:Ct) (aA (⟨x.s,((x.U+1)%((((c.R*c.B)*c.M)-c.res)*c.C)),x.ns,x.V⟩:Ct) x.U))).toArray 43]) λz=>r0 [] [(2,iN x.U),(3,i6 (cb (bC c (⟨x.s,((x.U+1)%((((c.R*c.B)*c.M)-c.res)*c.C)),x.ns,x.V⟩:Ct) (aA (⟨x.s,((x.U+1)%((((c.R*c.B)*c.M)-c.res)*c.C)),x.ns,x.V⟩:Ct) x.U))))] [2,3] (ao (.tuple #[iN x.U,i6 (cb (bC c (⟨x.s,((x.U+1)%((((c.R*c.B)*c.M)-c.res)*c.C)),x.ns,x.V⟩:Ct) (aA (⟨x.s,((x.U+1)%((((c.R*c.B)*c.M)-c.res)*c.C)),x.ns,x.V⟩:Ct) x.U)))]) (.l [] [] [((z 2).val 0)]) bc [0,2,3,4,5,6,7] [(1,1)] [] (hf:=by kernel_rfl))
end
theorem Vu(o j a f g u q p x:Nat)(c:Cf)(r:Rp)(d:aO r)(k time:Nat)(v:Value)(i:Nat)(z:r.j.A=1)(n:r.j.fr<r.m.R*r.m.B*r.m.M):aa Zl 85 #[pt o 0,iN i] [ob o #[pt j 0,pt p 0,pt x 0,iN k,v] 119,ob j (lA c a u q time) 122,pk (au a f g r)] [2] (λ_=>[pk (au a f g r)]) (λ_=> .agg #[iN i,iN r.j.fr,i6 ((aG r.m.G r.m.R r.m.B r.m.M r.j.fr:Nat):Int)]):=by
 have y:=d.m.O;have B:=d.m.ly.G;have A:=Fl d.m n;exact fG Tryz.func85 λw cs=>ra (λh=>[(4,pt (B0 h) 0)]) (λh=>[ob (B0 h) #[i6 0,i6 0,i6 0] 180]) λh=>rr (λ_=>[(3,.m (ld 0 (pt j 0))),(6,.m (ld 1 (pt a 0))),(7,.c [2] [2] (z9 a f g r d)),(11,.m (ld 0 (pt j 0))),(14,.m (ld 1 (pt a 0))),(15,.c [2] [2] (wc a f g r d)),(16,.c [2] [2] (Gf a f g r d)),(17,.m (al 4)),(18,.m (al 5)),(19,.s 4),(20,.s 5)]) (λe=>[(5,pt ((e 17).y 0) 0),(6,pt ((e 18).y 0) 0)]) [] (λe L=>L++[ob ((e 17).y 0) #[iN r.j.A,iN r.j.fr,iN r.j.tg,iN r.j.nx] 70,ob ((e 18).y 0) #[iN r.m.R,iN r.m.S,iN r.m.B,iN r.m.M,iN r.m.C,iN r.m.G,iN r.m.res] 25]) λe=>rF [(1,.l 4),(2,.t (tk (show Value.bool ((r.j.A:Int)==2)= .bool false from ALca Value.bool (by rw[z];rfl))))] 30 (r0 [(1,.m (ls 5 ([iN r.m.R,iN r.m.S,iN r.m.B,iN r.m.M,iN r.m.C]))),(3,.m (ld 5 (iN r.m.G))),(5,.m (ld 4 (iN r.j.fr))),(6,.c [] [] (Fk r.m.R r.m.S r.m.B r.m.M r.m.C y r.m.G Om r.j.fr Om)),] [(9,i6 ((hZ r.m.G r.m.R r.m.B r.m.M r.j.fr:Nat):Int))] [] (rs [(2,.l 4),(4,.t (tv (av .shr 3 (.tmp 59) (.const (u6 14)) (i6 ((hZ r.m.G r.m.R r.m.B r.m.M r.j.fr:Nat):Int)) (u6 14)) (λ_=>dM (b:=((aG r.m.G r.m.R r.m.B r.m.M r.j.fr:Nat):Int)) (iO 14 Dc) Om))),(6,.s 3)] 3 (ob (B0 h) #[iN i,iN r.j.fr,i6 ((aG r.m.G r.m.R r.m.B r.m.M r.j.fr:Nat):Int)] 180) (lf ab.zero [2] [(0,0),(1,1)] [3])))
theorem Vv(y k a g h D C B F:Nat)(c:Cf)(r:Rp)(e:aO r)(n time:Nat)(v:Value)(i:Nat)(I:r.j.A=2)(H:i=iC r.m r.j.fr r.j.nx)(q:r.j.fr<r.m.R)(u:r.j.nx<r.m.B*r.m.M*r.m.C):aa Zl 85 #[pt y 0,iN i] [ob y #[pt k 0,pt B 0,pt F 0,iN n,v] 119,ob k (lA c a D C time) 122,pk (au a g h r)] [2] (λ_=>[pk (au a g h r)]) (λ_=> .agg #[iN i,i6 ((mf r.m.G r.m.R r.m.B r.m.M r.j.fr (r.j.nx/r.m.C/r.m.M) (r.j.nx/r.m.C%r.m.M):Nat):Int),iN r.j.fr]):=by
 have z:=e.m.O;have x:=e.m.ly.G;have d:=ot e.m (r:=r.j.fr) Om u;have o:=d.h1;have p:=d.h2;have G:=d.h3;have A:=z.bd.c64;exact fG Tryz.func85 λw cs=>ra (λj=>[(4,pt (B0 j) 0)]) (λj=>[ob (B0 j) #[i6 0,i6 0,i6 0] 180]) λj=>rr (λ_=>[(3,.m (ld 0 (pt k 0))),(6,.m (ld 1 (pt a 0))),(7,.c [2] [2] (z9 a g h r e)),(11,.m (ld 0 (pt k 0))),(14,.m (ld 1 (pt a 0))),(15,.c [2] [2] (wc a g h r e)),(16,.c [2] [2] (Gf a g h r e)),(17,.m (al 4)),(18,.m (al 5)),(19,.s 4),(20,.s 5)]) (λf=>[(5,pt ((f 17).y 0) 0),(6,pt ((f 18).y 0) 0)]) [] (λf L=>L++[ob ((f 17).y 0) #[iN r.j.A,iN r.j.fr,iN r.j.tg,iN r.j.nx] 70,ob ((f 18).y 0) #[iN r.m.R,iN r.m.S,iN r.m.B,iN r.m.M,iN r.m.C,iN r.m.G,iN r.m.res] 25]) λf=>rT [(1,.l 4),(2,.t (tk (show Value.bool ((r.j.A:Int)==2)= .bool true from ALca Value.bool (by rw[I];rfl))))] 30 (r0 [(1,.m (ls 5 ([iN r.m.R,iN r.m.S,iN r.m.B,iN r.m.M,iN r.m.C]))),(3,.m (ld 5 (iN r.m.G))),(5,.t (tv (av .shr 3 (.tmp 36) (.const (u6 6)) (iN i) (u6 6)) (λ_=>dM (b:=((r.j.fr*16384+r.j.nx/r.m.C/r.m.M*1024+r.j.nx/r.m.C%r.m.M:Nat):Int)) (iO 6 Dc) (by rw[H];unfold iC bI;omega)))),(6,.c [] [] (QO r.m.R r.m.S r.m.B r.m.M r.m.C z r.m.G x r.j.fr (r.j.nx/r.m.C/r.m.M) (r.j.nx/r.m.C%r.m.M) q o p)),] [(7,i6 ((mf r.m.G r.m.R r.m.B r.m.M r.j.fr (r.j.nx/r.m.C/r.m.M) (r.j.nx/r.m.C%r.m.M):Nat):Int))] [] (rs [(3,.l 4),(5,.s 3)] 3 (ob (B0 j) #[iN i,i6 ((mf r.m.G r.m.R r.m.B r.m.M r.j.fr (r.j.nx/r.m.C/r.m.M) (r.j.nx/r.m.C%r.m.M):Nat):Int),iN r.j.fr] 180) (lf ab.zero [2] [(0,0),(1,1)] [3])))
theorem Vw(d f b g h l k j m:Nat)(c:Cf)(r:Rp)(o:aO r)(a time:Nat)(v:Value)(i:Nat)(p:r.j.A≠0)(s:r.j.nx<eH r.j.A r.m.B r.m.M r.m.C)(q:i=aU r.m r.j.A r.j.fr r.j.nx):aa Zl 85 #[pt d 0,iN i] [ob d #[pt f 0,pt j 0,pt m 0,iN a,v] 119,ob f (lA c b l k time) 122,pk (au b g h r)] [2] (λ_=>[pk (au b g h r)]) (λ_=> .agg #[iN i,i6 ((cH r:Nat):Int),i6 ((dz r:Nat):Int)]):=by
 unfold cH dz;rcases o.j.k with e | ⟨e,n⟩ | ⟨e,n⟩
 ·rw[e] at p;exact absurd rfl p
 ·rw[ALifp e,ALifp e];exact Vu d f b g h l k j m c r o a time v i e n.hf
 ·rw[e] at s q;rw[ALifn Om,ALifn Om];exact Vv d f b g h l k j m c r o a time v i e q n.hf s
def wH(y:Ct):Ct:={y with s:=iJ y.s,ns:=y.ns++[(⟨3,0,0,0,0,0⟩:Nt)]}
def kT(x:Ct):Nat:=aU x.s.r.m x.s.r.j.A x.s.r.j.fr x.s.r.j.nx
def oB(x:Ct):Nat:=aU x.s.r.m x.s.r.j.A x.s.r.j.tg x.s.r.j.nx
def nJ(x:Ct):Bool:=decide (cH x.s.r<x.s.r.m.R*x.s.r.m.B*x.s.r.m.M-x.s.r.m.res+x.s.r.m.P)&& !x.s.r.m.Q.getD (cH x.s.r) false
def AU(c:Cf)(x:Ct):Ct:=bX c x (kT x) (cH x.s.r) (dz x.s.r)
def gK(c:Cf)(x:Ct):Ct:=bif nJ x then mo c (AU c x) (oB x) (cx c x (kT x)) (decide (2≤((bC c x (kT x):Nat):Int))) else mo c x (oB x) z6 false
def iM(c:Cf)(x:Ct):Ct:=kt x (wH (gK c x))
theorem Hg{c:Cf}{x:Ct}{K A:Nat}(h:ba c x K A)(a:x.s.r.j.A≠0)(e:K+3≤1000000000):ba c (gK c x) (K+3) (A+2)∧(gK c x).s.r.j=x.s.r.j∧(gK c x).s.r.m=x.s.r.m:=by
 have b:=He h.s.r a (h.run a);unfold gK;cases nJ x
 ·exact⟨(qS h Zo false).mono Om Om,rfl,rfl⟩
 ·have d:=AP (i:=kT x) h b.2.1 b.1 e;exact⟨qS d (nI _ (lH h.D _) _) _,G4 c.H x.s _ a⟩
theorem Vx{c:Cf}{x:Ct}{K A:Nat}(h:ba c x K A)(a:x.s.r.j.A≠0)(b:K+257≤1000000000):ba c (wH x) (K+257) (A+1):=by
 refine⟨h.cf,TV h.s a (h.run a) b,h.D,h.gl,Zv h.vl,?_,h.ly.tr (TW x.s),Vb h.s.r a h.run,h.U,h.time⟩;show(x.ns++[_]).length≤A+1;rw[Zx];exact Zs h.nl
theorem Vy{c:Cf}{x:Ct}{K A:Nat}(h:ba c x K A)(a:x.s.r.j.A≠0)(f:K+260≤1000000000):ba c (iM c x) (K+260) (A+3):=by
 obtain⟨b,d,e⟩:=Hg h a Om;exact h.fix (Vx b (by rw[d];exact a) Om)
def qV(x:Ct):Ct:={x with s:=Gu x.s,ns:=x.ns++[(⟨2,0,0,0,0,0⟩:Nt)]}
def qW(x:Ct):Ct:={x with s:=Gv x.s,ns:=x.ns++[(⟨4,0,0,0,0,0⟩:Nt)]}
theorem Vz{c:Cf}{x:Ct}{K A:Nat}(h:ba c x K A)(ht:x.s.time<1099511627776):ba c (qV x) K (A+1):=by
 refine⟨h.cf,TX h.s,h.D,h.gl,Zv h.vl,?_,h.ly,h.run,h.U,ht⟩;show(x.ns++[_]).length≤A+1;rw[Zx];exact Zs h.nl
theorem VA{c:Cf}{x:Ct}{K A:Nat}(h:ba c x K A):ba c (qW x) K (A+1):=by
 refine⟨h.cf,TZ h.s,h.D,h.gl,Zv h.vl,?_,h.ly,h.run,h.U,h.time⟩;show(x.ns++[_]).length≤A+1;rw[Zx];exact Zs h.nl
theorem VB(d b i m n a j f e p g:Nat)(c:Cf)(x:Ct)(K A:Nat)(h:ba c x K A)(hA:A≤700000)(ht:x.s.time<1099511627776):aa Zl 51 #[pt d 0] [pk (aV d b i m n a j f e p g c x)] [0] (λ_=>[pk (aV d b i m n a j f e p g c (qV x))]) (λ_=>i6 0):=aa.pkZ Tryz.func51 λL r=>by
 obtain⟨v,rfl⟩:=r;refine⟨[0,1,2,3,4,5,6,7],λE=>[ob d #[pt b 0,pt e 0,pt g 0,iN x.U,(E.val 0)] 119,ob b (lA c i a f ((x.s.time+1:Nat))) 122,pk (au i m n x.s.r),pk (aD a j (mQ x.s.k)),pk (az f x.s.g),pk (dN g),pk (bo e p c x.V),b8 (E.val 0) (x.ns++([(⟨2,0,0,0,0,0⟩:Nt)]))],?_,rfl,λE=>⟨rfl,rfl,⟨_,rfl⟩⟩⟩;have s:=h.s;have k:x.ns.length≤800000:=Zn h.nl Om;have q:x.s.time≤1000000000000000:=by omega
 exact fG Tryz.func51 λw cs=>r0 [] [(2,i6 0)] [] (rF [(3,.l 0),(6,.l 1),(7,.t (tk (show Value.bool (decide (1099511627776≤(x.s.time:Int)))= .bool false from ALca Value.bool (by exact bl Om))))] 10 (rr (λ_=>[(2,.c [0,1,2,3,4,7] [0,1,2,3,4,7] (Vj d b i m n a j f e g c x.s _ s x.U v x.ns k q))]) N0 [] (λo L=>(((L.set 0 (ob d #[pt b 0,pt e 0,pt g 0,iN x.U,((o 2).val 0)] 119)).set 1 (ob b (lA c i a f ((x.s.time+1:Nat))) 122)).set 3 ((pk (aD a j (mQ x.s.k))))).set 7 (b8 ((o 2).val 0) (x.ns++([(⟨2,0,0,0,0,0⟩:Nt)])))) λo=>r0 [] [(2,i6 0)] [2] (lf (.l [] [] [((o 2).val 0)]) [0,1,2,3,4,5,6,7] [] [])))
theorem VC(a f m j k i n d b p e:Nat)(c:Cf)(x:Ct)(K A:Nat)(h:ba c x K A)(hA:A≤700000):aa Zl 52 #[pt a 0] [pk (aV a f m j k i n d b p e c x)] [0] (λ_=>[pk (aV a f m j k i n d b p e c (qW x))]) (λ_=>iN x.s.g.l.length):=aa.pkZ Tryz.func52 λL q=>by
 obtain⟨v,rfl⟩:=q;refine⟨[0,2,3,4,5,6,7],λE=>[ob a #[pt f 0,pt b 0,pt e 0,iN x.U,(E.val 0)] 119,pk (au m j k x.s.r),pk (aD i n x.s.k),pk (az d (nA x.s.g)),pk (dN e),pk (bo b p c x.V),b8 (E.val 0) (x.ns++([(⟨4,0,0,0,0,0⟩:Nt)]))],?_,rfl,λE=>⟨rfl,rfl,⟨_,rfl⟩⟩⟩;have r:=h.s;have g:x.ns.length≤800000:=Zn h.nl Om;exact fG Tryz.func52 λw cs=>r0 [] [(2,i6 0)] [] (r0 [(3,.l 0),(6,.l 1),(7,.c [4] [4] (FZ d x.s.g))] [(3,iN x.s.g.l.length)] [] (rr (λ_=>[(2,.c [0,1,2,3,4,7] [0,2,3,4,7] (Vk a f m j k i n d b e c x.s _ r x.U v x.ns g))]) N0 [] (λo L=>((L.set 0 (ob a #[pt f 0,pt b 0,pt e 0,iN x.U,((o 2).val 0)] 119)).set 4 ((pk (az d (nA x.s.g))))).set 7 (b8 ((o 2).val 0) (x.ns++([(⟨4,0,0,0,0,0⟩:Nt)])))) λo=>r0 [] [(2,iN x.s.g.l.length)] [2] (lf (.l [] [] [((o 2).val 0)]) [0,2,3,4,5,6,7] [(1,1)] [])))
theorem VD(e k a b d j n i f g l:Nat)(c:Cf)(x:Ct)(K A:Nat)(h:ba c x K A)(p:x.s.r.j.A=0):aa Zl 50 #[pt e 0] [pk (aV e k a b d j n i f g l c x)] [0] (λ_=>[pk (aV e k a b d j n i f g l c x)]) (λ_=>i6 51):=aa.pkZ Tryz.func50 λL o=>by
 obtain⟨v,rfl⟩:=o;refine⟨[2,3,4,5,6,7],λ_=>[pk (au a b d x.s.r),pk (aD j n x.s.k),pk (az i x.s.g),pk (dN l),pk (bo f g c x.V),b8 v x.ns],?_,rfl,λE=>⟨rfl,rfl,⟨_,rfl⟩⟩⟩;have q:=h.s.r;exact fG Tryz.func50 λw cs=>r0 [] [(2,i6 0)] [] (r0 [(3,.m (ld 0 (pt k 0))),(6,.m (ld 1 (pt a 0))),(7,.c [2] [2] (Sh a b d x.s.r q p)),] [(3,i6 0),(4,i6 0),(5,i6 51)] [] (rT [] 22 (r0 [] [(2,i6 51)] [2] (lf ab.zero [2,3,4,5,6,7] [(0,0),(1,1)] []))))
theorem VE(n e a o p i u f b t j:Nat)(c:Cf)(x:Ct)(K A:Nat)(h:ba c x K A)(hA:A≤700000)(hK:K+260≤1000000000)(B:x.s.r.j.A≠0):aa Zl 50 #[pt n 0] [pk (aV n e a o p i u f b t j c x)] [0] (λ_=>[pk (aV n e a o p i u f b t j c (iM c x))]) (λ_=>i6 0):=aa.pkZ Tryz.func50 λL hL=>by
 obtain⟨v,rfl⟩:=hL;refine⟨[0,1,2,3,4,5,6,7],λE=>[ob n #[pt e 0,pt b 0,pt j 0,iN x.U,(E.val 0)] 119,ob e #[iN c.R,iN c.S,iN c.B,iN c.M,iN c.C,iN c.G,iN c.res,iN c.E,iN c.lr,iN c.er,iN c.lp,iN c.ep,iN c.I,iN c.H,iN c.log,.bool c.W,pt a 0,pt i 0,pt f 0,i6 (((iM c x).s.time:Nat):Int)] 122,pk (au a o p (iM c x).s.r),pk (aD i u (iM c x).s.k),pk (az f (iM c x).s.g),pk (dN j),pk (bo b t c (iM c x).V),b8 (E.val 0) ((iM c x).ns)],?_,rfl,λE=>⟨rfl,rfl,⟨_,rfl⟩⟩⟩;have d:=h.cf;have hm:=d.E;have HM:=d.E;have S:=h.dv Om;have hnl:=h.nl;have F:=h.s.r;have D:=h.run B;have z:=He F B D;have G:=z.1;have hsr:=z.2.1;have T:=(z.2.2.1.lay h.ly).bd d.O;have U:=(z.2.2.1.lay h.ly).has d.O;have H:=(z.2.2.2.lay h.ly).bd d.O;have I:=(z.2.2.2.lay h.ly).has d.O;have C:K+3≤1000000000:=by omega
 have ht:ba c (bX c x (aU x.s.r.m x.s.r.j.A x.s.r.j.fr x.s.r.j.nx) (cH x.s.r) (dz x.s.r)) (K+3) (A+1):=AP h z.2.1 z.1 C;have hts:=ht.s;have hs0:=h.s;have X:=G4 c.H x.s (kS c x (aU x.s.r.m x.s.r.j.A x.s.r.j.fr x.s.r.j.nx) (cH x.s.r) (dz x.s.r)) B;have R:=ht.dv Om;have Z:(bX c x (aU x.s.r.m x.s.r.j.A x.s.r.j.fr x.s.r.j.nx) (cH x.s.r) (dz x.s.r)).ns.length≤800000:=Zn ht.nl Om;have Y:x.ns.length≤800000:=Zn h.nl Om;have Q:(bX c x (aU x.s.r.m x.s.r.j.A x.s.r.j.fr x.s.r.j.nx) (cH x.s.r) (dz x.s.r)).s.r.j.A≠0:=by show(dh _ _ _).r.j.A≠0;rw[X.1];exact B
 have W:(bX c x (aU x.s.r.m x.s.r.j.A x.s.r.j.fr x.s.r.j.nx) (cH x.s.r) (dz x.s.r)).s.r.j.nx<eH (bX c x (aU x.s.r.m x.s.r.j.A x.s.r.j.fr x.s.r.j.nx) (cH x.s.r) (dz x.s.r)).s.r.j.A (bX c x (aU x.s.r.m x.s.r.j.A x.s.r.j.fr x.s.r.j.nx) (cH x.s.r) (dz x.s.r)).s.r.m.B (bX c x (aU x.s.r.m x.s.r.j.A x.s.r.j.fr x.s.r.j.nx) (cH x.s.r) (dz x.s.r)).s.r.m.M (bX c x (aU x.s.r.m x.s.r.j.A x.s.r.j.fr x.s.r.j.nx) (cH x.s.r) (dz x.s.r)).s.r.m.C:=by show(dh _ _ _).r.j.nx<eH (dh _ _ _).r.j.A (dh _ _ _).r.m.B (dh _ _ _).r.m.M (dh _ _ _).r.m.C;rw[X.1,X.2];exact D
 have O:K+257≤1000000000:=by omega
 have P:K+3+257≤1000000000:=by omega
 have hln:(cx c x (aU x.s.r.m x.s.r.j.A x.s.r.j.fr x.s.r.j.nx)).length=64:=nI c.E (lH h.D _) _;refine fG Tryz.func50 λw cs=>r0 [] [(2,i6 0)] [] (r0 [(3,.m (ld 0 (pt e 0))),(6,.m (ld 1 (pt a 0))),(7,.c [2] [2] (Sg a o p x.s.r F B D)),] [(3,i6 ((aU x.s.r.m x.s.r.j.A x.s.r.j.fr x.s.r.j.nx:Nat):Int)),(4,i6 ((aU x.s.r.m x.s.r.j.A x.s.r.j.tg x.s.r.j.nx:Nat):Int)),(5,i6 0)] [] (rF [] 22 (rr (λ_=>[(2,.c [0,1,2] [2] (Vw n e a o p i f b j c x.s.r F x.U x.s.time v (aU x.s.r.m x.s.r.j.A x.s.r.j.fr x.s.r.j.nx) B D rfl)),(4,.s 8)]) (λJ=>[(6,pt (B3 J) 0)]) [] (λJ L=>L++[ob (B3 J) #[i6 ((aU x.s.r.m x.s.r.j.A x.s.r.j.fr x.s.r.j.nx:Nat):Int),i6 ((cH x.s.r:Nat):Int),i6 ((dz x.s.r:Nat):Int)] 180]) λJ=>r0 [(3,.l 0),(6,.l 1),(7,.c [2] [2] (wc a o p x.s.r F)),(9,.l 8),(10,.c [2] [2] (Tt a o p x.s.r F (cH x.s.r) G))] [(37,.bool (decide ((cH x.s.r)<x.s.r.m.R*x.s.r.m.B*x.s.r.m.M-x.s.r.m.res+x.s.r.m.P)&& !x.s.r.m.Q.getD (cH x.s.r) false))] [] ?_)));refine cB (decide ((cH x.s.r)<x.s.r.m.R*x.s.r.m.B*x.s.r.m.M-x.s.r.m.res+x.s.r.m.P)&& !x.s.r.m.Q.getD (cH x.s.r) false) (λN=>?_) λN=>?_
 ·exact rr (λ_=>[(1,.l 8),(2,.c [0,1,2,3,4,5,6,7] [0,2,3,4,5,6,7] (AQ n e a o p i u f b t j c x.s x.U x.ns x.V _ _ h v hA C (aU x.s.r.m x.s.r.j.A x.s.r.j.fr x.s.r.j.nx) (cH x.s.r) (dz x.s.r) T U G hsr)),(8,.s 9),(9,.s 10)]) (λq=>[(7,pt (B6 q) 0),(8,pt (B7 q) 0)]) [] (λq L=>(((((L.set 0 (ob n #[pt e 0,pt b 0,pt j 0,iN x.U,((q 2).val 0)] 119)).set 2 ((pk (au a o p (bX c x (aU x.s.r.m x.s.r.j.A x.s.r.j.fr x.s.r.j.nx) (cH x.s.r) (dz x.s.r)).s.r)))).set 3 ((pk (aD i u (bX c x (aU x.s.r.m x.s.r.j.A x.s.r.j.fr x.s.r.j.nx) (cH x.s.r) (dz x.s.r)).s.k)))).set 4 ((pk (az f (bX c x (aU x.s.r.m x.s.r.j.A x.s.r.j.fr x.s.r.j.nx) (cH x.s.r) (dz x.s.r)).s.g)))).set 6 ((pk (bo b t c (bX c x (aU x.s.r.m x.s.r.j.A x.s.r.j.fr x.s.r.j.nx) (cH x.s.r) (dz x.s.r)).V)))).set 7 (b8 ((q 2).val 0) ((bX c x (aU x.s.r.m x.s.r.j.A x.s.r.j.fr x.s.r.j.nx) (cH x.s.r) (dz x.s.r)).ns))++[ob (B6 q) (rB 64 (cx c x (aU x.s.r.m x.s.r.j.A x.s.r.j.fr x.s.r.j.nx))).toArray 43,ob (B7 q) #[i6 ((bC c x (aU x.s.r.m x.s.r.j.A x.s.r.j.fr x.s.r.j.nx):Nat):Int),i6 ((ib c.E (kq c x (aU x.s.r.m x.s.r.j.A x.s.r.j.fr x.s.r.j.nx)) ((aU x.s.r.m x.s.r.j.A x.s.r.j.fr x.s.r.j.nx):Int):Nat):Int)] 79]) λq=>cl [ob n #[pt e 0,pt b 0,pt j 0,iN x.U,((q 2).val 0)] 119,ob e #[iN c.R,iN c.S,iN c.B,iN c.M,iN c.C,iN c.G,iN c.res,iN c.E,iN c.lr,iN c.er,iN c.lp,iN c.ep,iN c.I,iN c.H,iN c.log,.bool c.W,pt a 0,pt i 0,pt f 0,i6 (((bX c x (aU x.s.r.m x.s.r.j.A x.s.r.j.fr x.s.r.j.nx) (cH x.s.r) (dz x.s.r)).s.time:Nat):Int)] 122,pk (au a o p (bX c x (aU x.s.r.m x.s.r.j.A x.s.r.j.fr x.s.r.j.nx) (cH x.s.r) (dz x.s.r)).s.r),pk (aD i u (bX c x (aU x.s.r.m x.s.r.j.A x.s.r.j.fr x.s.r.j.nx) (cH x.s.r) (dz x.s.r)).s.k),pk (az f (bX c x (aU x.s.r.m x.s.r.j.A x.s.r.j.fr x.s.r.j.nx) (cH x.s.r) (dz x.s.r)).s.g),pk (dN j),pk (bo b t c (bX c x (aU x.s.r.m x.s.r.j.A x.s.r.j.fr x.s.r.j.nx) (cH x.s.r) (dz x.s.r)).V),b8 ((q 2).val 0) ((bX c x (aU x.s.r.m x.s.r.j.A x.s.r.j.fr x.s.r.j.nx) (cH x.s.r) (dz x.s.r)).ns),ob (B3 J) #[i6 ((aU x.s.r.m x.s.r.j.A x.s.r.j.fr x.s.r.j.nx:Nat):Int),i6 ((cH x.s.r:Nat):Int),i6 ((dz x.s.r:Nat):Int)] 180,ob (B6 q) (rB 64 (cx c x (aU x.s.r.m x.s.r.j.A x.s.r.j.fr x.s.r.j.nx))).toArray 43,ob (B7 q) #[i6 ((bC c x (aU x.s.r.m x.s.r.j.A x.s.r.j.fr x.s.r.j.nx):Nat):Int),i6 ((ib c.E (kq c x (aU x.s.r.m x.s.r.j.A x.s.r.j.fr x.s.r.j.nx)) ((aU x.s.r.m x.s.r.j.A x.s.r.j.fr x.s.r.j.nx):Int):Nat):Int)] 79] (by skip;kernel_rfl) (rs [(2,.l 9),(4,.l 10),(6,.c [0,1,5,6] [5,6] (pL n e a i f b t j c d x.U ((bX c x (aU x.s.r.m x.s.r.j.A x.s.r.j.fr x.s.r.j.nx) (cH x.s.r) (dz x.s.r)).s.time) ((q 2).val 0) ((bX c x (aU x.s.r.m x.s.r.j.A x.s.r.j.fr x.s.r.j.nx) (cH x.s.r) (dz x.s.r)).V) (by with_reducible exact R) (aU x.s.r.m x.s.r.j.A x.s.r.j.tg x.s.r.j.nx) H I (cx c x (aU x.s.r.m x.s.r.j.A x.s.r.j.fr x.s.r.j.nx)) (by with_reducible assumption) (decide (2≤((bC c x (aU x.s.r.m x.s.r.j.A x.s.r.j.fr x.s.r.j.nx):Nat):Int)))))] 6 ((pk (bo b t c (iL ((bX c x (aU x.s.r.m x.s.r.j.A x.s.r.j.fr x.s.r.j.nx) (cH x.s.r) (dz x.s.r)).V) ((aU x.s.r.m x.s.r.j.A x.s.r.j.tg x.s.r.j.nx):Int) (eu c.E (cx c x (aU x.s.r.m x.s.r.j.A x.s.r.j.fr x.s.r.j.nx)) ((aU x.s.r.m x.s.r.j.A x.s.r.j.tg x.s.r.j.nx):Int) (decide (2≤((bC c x (aU x.s.r.m x.s.r.j.A x.s.r.j.fr x.s.r.j.nx):Nat):Int)))) (bif (decide (2≤((bC c x (aU x.s.r.m x.s.r.j.A x.s.r.j.fr x.s.r.j.nx):Nat):Int))) then 1 else 0))))) (rr (λ_=>[(2,.c [0,1,2,3,4,7] [0,2,3,4,7] (G8 n e a o p i u f b j c ((bX c x (aU x.s.r.m x.s.r.j.A x.s.r.j.fr x.s.r.j.nx) (cH x.s.r) (dz x.s.r)).s) _ (by with_reducible exact hts) x.U ((q 2).val 0) ((bX c x (aU x.s.r.m x.s.r.j.A x.s.r.j.fr x.s.r.j.nx) (cH x.s.r) (dz x.s.r)).ns) (by with_reducible exact Z) (by with_reducible exact P) (by with_reducible exact Q) (by with_reducible exact W)))]) N0 [] (λM L=>((((L.set 0 (ob n #[pt e 0,pt b 0,pt j 0,iN x.U,((M 2).val 0)] 119)).set 2 ((pk (au a o p (iJ ((bX c x (aU x.s.r.m x.s.r.j.A x.s.r.j.fr x.s.r.j.nx) (cH x.s.r) (dz x.s.r)).s)).r)))).set 3 ((pk (aD i u (iJ ((bX c x (aU x.s.r.m x.s.r.j.A x.s.r.j.fr x.s.r.j.nx) (cH x.s.r) (dz x.s.r)).s)).k)))).set 4 ((pk (az f (iJ ((bX c x (aU x.s.r.m x.s.r.j.A x.s.r.j.fr x.s.r.j.nx) (cH x.s.r) (dz x.s.r)).s)).g)))).set 7 (b8 ((M 2).val 0) (((bX c x (aU x.s.r.m x.s.r.j.A x.s.r.j.fr x.s.r.j.nx) (cH x.s.r) (dz x.s.r)).ns)++([(⟨3,0,0,0,0,0⟩:Nt)])))) λM=>r0 [] [(2,i6 0)] [2] (lf (.l [] [] [((M 2).val 0)]) [0,1,2,3,4,5,6,7] [] [] (hf:=by unfold iM kt wH gK nJ AU kT oB;dsimp only;(repeat (first | rw[N] | rw[ALct]));kernel_rfl))))
 exact rs [(3,.c [0,1,5,6] [5,6] (pL n e a i f b t j c d x.U x.s.time v x.V (by with_reducible exact S) (aU x.s.r.m x.s.r.j.A x.s.r.j.tg x.s.r.j.nx) H I z6 bc false))] 6 ((pk (bo b t c (iL x.V ((aU x.s.r.m x.s.r.j.A x.s.r.j.tg x.s.r.j.nx):Int) (eu c.E z6 ((aU x.s.r.m x.s.r.j.A x.s.r.j.tg x.s.r.j.nx):Int) false) (bif false then 1 else 0))))) (rr (λ_=>[(2,.c [0,1,2,3,4,7] [0,2,3,4,7] (G8 n e a o p i u f b j c x.s _ (by with_reducible exact hs0) x.U v x.ns (by with_reducible exact Y) (by with_reducible exact O) (by with_reducible exact B) (by with_reducible exact D)))]) N0 [] (λy L=>((((L.set 0 (ob n #[pt e 0,pt b 0,pt j 0,iN x.U,((y 2).val 0)] 119)).set 2 ((pk (au a o p (iJ x.s).r)))).set 3 ((pk (aD i u (iJ x.s).k)))).set 4 ((pk (az f (iJ x.s).g)))).set 7 (b8 ((y 2).val 0) (x.ns++([(⟨3,0,0,0,0,0⟩:Nt)])))) λy=>r0 [] [(2,i6 0)] [2] (lf (.l [] [] [((y 2).val 0)]) [0,1,2,3,4,5,6,7] [] [] (hf:=by unfold iM kt wH gK nJ AU kT oB;dsimp only;(repeat (first | rw[N] | rw[ALcf]));kernel_rfl)))
section
section
variable {F:Fence} {n:Nat} {P:Program} {R:List Nat} {base:World} {Q:Exit→Act→World→Prop} {S:List It} {a:Sl} {sz:Nat} {es:Fe} {L:aj} {Ds:List Nat}
def AV(F:Fence)(n:Nat)(P:Program)(c:Code)(T:Exit→Act→World→Prop):Nat→Act→World→Prop
 | 0,_,_=>False
 | k+1,b,W=>c.wpIn F n P (Exit.then (AV F n P c T k) T) b W
def tF(F:Fence)(n:Nat)(P:Program)(Q:Exit→Act→World→Prop)(S:List It)(k:Nat):Exit→Act→World→Prop:=Exit.then (AV F n P (gD S) (dc F n P Q (bS S)) k) (dc F n P Q (bS S))
theorem lu(N:Nat)(t:Go F n P R base (tF F n P Q S N) [.c (gD S)] ⟨sz,es⟩ L Ds)(r:n1 S=true:=by kernel_rfl):Go F n P R base Q S ⟨sz,es⟩ L Ds:=by
 classical
 refine⟨λb W s q=>dI 1000 S ?_⟩;rw[show du 1000 S=_ from uV r];show(Code.loop (gD S)).wpIn F n P (dc F n P Q (bS S)) b W
 let J:Nat→Act→World→Prop:=AV F n P (gD S) (dc F n P Q (bS S))
 let μ:Act→World→Nat:=λb W=>if h: ∃j,J j b W then ZS (k5 h) else 0
 have o: ∀b W,(∃j,J j b W)→J (μ b W) b W∧∀i,i<μ b W→¬J i b W:=by
  intro b W h;have e:μ b W=ZS (k5 h):=dif_pos h;rw[e];exact Z7 (k5 h)
 refine wpIn_loop (λb W=>∃j,J j b W) μ ⟨N+1,t.out b W s q⟩ λb W p=>?_;have g:=(o b W p).1;obtain⟨m,v⟩: ∃m,m=μ b W:=⟨_,rfl⟩;rw[←v] at g;cases m with
 | zero=>exact g.elim
 | succ m=>
  refine wpIn_mono (show(gD S).wpIn F n P _ b W from g) λe f d l=>?_;cases e with
  | normal=>
   have k:J m f d:=l;have w:μ f d≤m:=aai λu=>(o f d ⟨_,k⟩).2 _ u k;exact⟨⟨_,k⟩,by omega⟩
  | _=>exact l
theorem e4{k:Nat}{d:List It}(h:Go F n P R base (tF F n P Q d k) [.c (gD d)] a L Ds)(f:(nf S).isEmpty=true:=by kernel_rfl):Go F n P R base (tF F n P Q d (k+1)) S a L Ds:=by
 refine⟨λb W g e=>dI 1000 S ?_⟩;rw[show du 1000 S=[] from List.isEmpty_iff.1 f];exact h.out b W g e
theorem oC{k:Nat}{c:List It}(e:Go F n P R base Q ((j8 S (bS c)).getD []) a L Ds)(g:(j8 S (bS c)).isSome=true:=by kernel_rfl):Go F n P R base (tF F n P Q c k) S a L Ds:=by
 obtain⟨i,d⟩:=Option.isSome_iff_exists.1 g;rw[d] at e;exact⟨λb W h f=>uW d (e.out b W h f) λ_=>rfl⟩
instance {F:Fence} {n:Nat} {P:Program} {Q Q0:Exit→Act→World→Prop} {S0:List It} {k:Nat} [h:Rt Q Q0]:Rt (tF F n P Q S0 k) Q0:=⟨λb W hq=>gZ (S:=bS S0) (h.out b W hq)⟩
end
end
structure St where
 k:Int
 ln:Int
 d:List UInt8
 m:Nat
 f0:Int
 f1:Int
 f2:Int
 f3:Int
 f4:Int
 f5:Int
 f6:Int
 f7:Int
abbrev sL(k j:Int)(d:List UInt8)(m a b c e f g h i:Int):List Value:=([i6 k,i6 j]:List Value)++rB 64 d++([u6 m,i6 a,i6 b,i6 c,i6 e,i6 f,i6 g,i6 h,i6 i]:List Value)
abbrev sV(k j:Int)(d:List UInt8)(m a b c e f g h i:Int):Array Value:=(sL k j d m a b c e f g h i).toArray
def ae:St:=⟨0,0,Zm 64 0,0,0,0,0,0,0,0,0,0⟩
def eSt(x:St):List Value:=[i6 x.k,i6 x.ln]++rB 64 x.d++[u6 (x.m:Int),i6 x.f0,i6 x.f1,i6 x.f2,i6 x.f3,i6 x.f4,i6 x.f5,i6 x.f6,i6 x.f7]
def VF:Kd Zl St:=⟨eSt,[i6 0,i6 0]++Zm 64 (u1 0)++[u6 0,i6 0,i6 0,i6 0,i6 0,i6 0,i6 0,i6 0,i6 0],32,50,ae,75,λ_=>rfl,rfl,λ_=>rfl,ec.mk' Kr Kr rfl⟩
theorem Hh(b:Nat)(k n:Int)(d:List UInt8)(m:Nat)(c e f g h i j:Int):aa Zl 95 #[pt b 67] [ob b (sV k n d m 1 c e f g h i j) 50] [] (λE=>[ob (E.y 0) #[pt b 68,pt b 69,pt b 70,pt b 71,pt b 73] 197]) (λE=> .slice (some ⟨(E.y 0),0,none⟩) 5 5):=by
 exact fG Tryz.func95 λw cs=>r0 [] [(2,.slice none 0 0)] [] (r0 [] [(3,pt b 68)] [] (r0 [(3,.l 0)] [(10,i6 1)] [] (rT [] 11 (rr (λa=>[(0,.v (pt b 68)),(1,.v (pt b 68)),(2,.v (pt b 68)),(3,.v (pt b 68)),(4,.v (pt b 68)),(5,.v (pt b 69)),(6,.v (pt b 68)),(7,.v (pt b 68)),(8,.v (pt b 70)),(9,.v (pt b 68)),(10,.v (pt b 68)),(11,.v (pt b 71)),(12,.v (pt b 67)),(13,.v (pt b 67)),(14,.v (pt b 73)),(15,.m (bs 1 5)),(16,.v (.slice (some ⟨(a 15).y 0,0,none⟩) 5 5))]) (λa=>[(2,.slice (some ⟨(a 15).y 0,0,none⟩) 5 5)]) [2] (λa L=>L++[ob ((a 15).y 0) #[pt b 68,pt b 69,pt b 70,pt b 71,pt b 73] 197]) λa=>lf (.l [(a 15).y 0] [] []) [1] [(0,0)] []))))
theorem Hi(b:Nat)(k n:Int)(d:List UInt8)(m:Nat)(c e f g h i j:Int):aa Zl 95 #[pt b 67] [ob b (sV k n d m 2 c e f g h i j) 50] [] (λE=>[ob (E.y 0) #[pt b 68,pt b 69,pt b 70,pt b 71,pt b 73,pt b 74] 197]) (λE=> .slice (some ⟨(E.y 0),0,none⟩) 6 6):=by
 exact fG Tryz.func95 λw cs=>r0 [] [(2,.slice none 0 0)] [] (r0 [] [(3,pt b 68)] [] (r0 [(3,.l 0)] [(10,i6 2)] [] (rF [] 11 (rT [] 29 (rr (λa=>[(0,.v (pt b 68)),(1,.v (pt b 68)),(2,.v (pt b 68)),(3,.v (pt b 68)),(4,.v (pt b 68)),(5,.v (pt b 69)),(6,.v (pt b 68)),(7,.v (pt b 68)),(8,.v (pt b 70)),(9,.v (pt b 68)),(10,.v (pt b 68)),(11,.v (pt b 71)),(12,.v (pt b 67)),(13,.v (pt b 67)),(14,.v (pt b 73)),(15,.v (pt b 67)),(16,.v (pt b 67)),(17,.v (pt b 74)),(18,.m (bs 1 6)),(19,.v (.slice (some ⟨(a 18).y 0,0,none⟩) 6 6))]) (λa=>[(2,.slice (some ⟨(a 18).y 0,0,none⟩) 6 6)]) [2] (λa L=>L++[ob ((a 18).y 0) #[pt b 68,pt b 69,pt b 70,pt b 71,pt b 73,pt b 74] 197]) λa=>lf (.l [(a 18).y 0] [] []) [1] [(0,0)] [])))))
theorem Hj(b:Nat)(k n:Int)(d:List UInt8)(m:Nat)(c e f g h i j:Int):aa Zl 95 #[pt b 67] [ob b (sV k n d m 3 c e f g h i j) 50] [] (λE=>[ob (E.y 0) #[pt b 68,pt b 69,pt b 70,pt b 72,pt b 74] 197]) (λE=> .slice (some ⟨(E.y 0),0,none⟩) 5 5):=by
 exact fG Tryz.func95 λw cs=>r0 [] [(2,.slice none 0 0)] [] (r0 [] [(3,pt b 68)] [] (r0 [(3,.l 0)] [(10,i6 3)] [] (rF [] 11 (rF [] 29 (rT [] 50 (rr (λa=>[(0,.v (pt b 68)),(1,.v (pt b 68)),(2,.v (pt b 68)),(3,.v (pt b 68)),(4,.v (pt b 68)),(5,.v (pt b 69)),(6,.v (pt b 68)),(7,.v (pt b 68)),(8,.v (pt b 70)),(9,.v (pt b 67)),(10,.v (pt b 67)),(11,.v (pt b 72)),(12,.v (pt b 67)),(13,.v (pt b 67)),(14,.v (pt b 74)),(15,.m (bs 1 5)),(16,.v (.slice (some ⟨(a 15).y 0,0,none⟩) 5 5))]) (λa=>[(2,.slice (some ⟨(a 15).y 0,0,none⟩) 5 5)]) [2] (λa L=>L++[ob ((a 15).y 0) #[pt b 68,pt b 69,pt b 70,pt b 72,pt b 74] 197]) λa=>lf (.l [(a 15).y 0] [] []) [1] [(0,0)] []))))))
theorem Hk(b:Nat)(k n:Int)(d:List UInt8)(m:Nat)(c e f g h i j:Int):aa Zl 95 #[pt b 67] [ob b (sV k n d m 4 c e f g h i j) 50] [] (λE=>[ob (E.y 0) #[pt b 68,pt b 69,pt b 71,pt b 72,pt b 74] 197]) (λE=> .slice (some ⟨(E.y 0),0,none⟩) 5 5):=by
 exact fG Tryz.func95 λw cs=>r0 [] [(2,.slice none 0 0)] [] (r0 [] [(3,pt b 68)] [] (r0 [(3,.l 0)] [(10,i6 4)] [] (rF [] 11 (rF [] 29 (rF [] 50 (rT [] 68 (rr (λa=>[(0,.v (pt b 68)),(1,.v (pt b 68)),(2,.v (pt b 68)),(3,.v (pt b 68)),(4,.v (pt b 68)),(5,.v (pt b 69)),(6,.v (pt b 68)),(7,.v (pt b 68)),(8,.v (pt b 71)),(9,.v (pt b 67)),(10,.v (pt b 67)),(11,.v (pt b 72)),(12,.v (pt b 67)),(13,.v (pt b 67)),(14,.v (pt b 74)),(15,.m (bs 1 5)),(16,.v (.slice (some ⟨(a 15).y 0,0,none⟩) 5 5))]) (λa=>[(2,.slice (some ⟨(a 15).y 0,0,none⟩) 5 5)]) [2] (λa L=>L++[ob ((a 15).y 0) #[pt b 68,pt b 69,pt b 71,pt b 72,pt b 74] 197]) λa=>lf (.l [(a 15).y 0] [] []) [1] [(0,0)] [])))))))
theorem Hl(b:Nat)(k n:Int)(d:List UInt8)(m:Nat)(c e f g h i j:Int):aa Zl 95 #[pt b 67] [ob b (sV k n d m 5 c e f g h i j) 50] [] (λE=>[ob (E.y 0) #[pt b 68,pt b 72,pt b 74] 197]) (λE=> .slice (some ⟨(E.y 0),0,none⟩) 3 3):=by
 exact fG Tryz.func95 λw cs=>r0 [] [(2,.slice none 0 0)] [] (r0 [] [(3,pt b 68)] [] (r0 [(3,.l 0)] [(10,i6 5)] [] (rF [] 11 (rF [] 29 (rF [] 50 (rF [] 68 (rT [] 86 (rr (λ_=>[(9,.m (bs 1 3))]) (λa=>[(2,.slice (some ⟨(a 9).y 0,0,none⟩) 3 3)]) [2] (λa L=>L++[ob ((a 9).y 0) #[pt b 68,pt b 72,pt b 74] 197]) λa=>lf (.l [(a 9).y 0] [] []) [1] [(0,0)] []))))))))
theorem Hm(b:Nat)(k n:Int)(d:List UInt8)(m:Nat)(c e f g h i j:Int):aa Zl 95 #[pt b 67] [ob b (sV k n d m 6 c e f g h i j) 50] [] (λE=>[ob (E.y 0) #[pt b 68,pt b 69,pt b 70,pt b 71] 197]) (λE=> .slice (some ⟨(E.y 0),0,none⟩) 4 4):=by
 exact fG Tryz.func95 λw cs=>r0 [] [(2,.slice none 0 0)] [] (r0 [] [(3,pt b 68)] [] (r0 [(3,.l 0)] [(10,i6 6)] [] (rF [] 11 (rF [] 29 (rF [] 50 (rF [] 68 (rF [] 86 (rT [] 98 (rr (λa=>[(0,.v (pt b 68)),(1,.v (pt b 68)),(2,.v (pt b 68)),(3,.v (pt b 68)),(4,.v (pt b 68)),(5,.v (pt b 69)),(6,.v (pt b 68)),(7,.v (pt b 68)),(8,.v (pt b 70)),(9,.v (pt b 68)),(10,.v (pt b 68)),(11,.v (pt b 71)),(12,.m (bs 1 4)),(13,.v (.slice (some ⟨(a 12).y 0,0,none⟩) 4 4))]) (λa=>[(2,.slice (some ⟨(a 12).y 0,0,none⟩) 4 4)]) [2] (λa L=>L++[ob ((a 12).y 0) #[pt b 68,pt b 69,pt b 70,pt b 71] 197]) λa=>lf (.l [(a 12).y 0] [] []) [1] [(0,0)] [])))))))))
theorem Hn(b:Nat)(k j:Int)(d:List UInt8)(m:Nat)(a c e f g h i:Int):aa Zl 95 #[pt b 67] [ob b (sV k j d m 7 a c e f g h i) 50] [] N0 (λ_=> .slice none 0 0):=by
 exact fG Tryz.func95 λw cs=>r0 [] [(2,.slice none 0 0)] [] (r0 [] [(3,pt b 68)] [] (r0 [(3,.l 0)] [(10,i6 7)] [] (rF [] 11 (rF [] 29 (rF [] 50 (rF [] 68 (rF [] 86 (rF [] 98 (r0 [] [(2,.slice none 0 0)] [2] (lf ab.zero [] [(0,0)] []))))))))))
theorem Ho(b:Nat)(k u:Int)(d:List UInt8)(m:Nat)(a g h i j n o p:Int)(t:a<1∨6<a):aa Zl 95 #[pt b 67] [ob b (sV k u d m a g h i j n o p) 50] [] N0 (λ_=> .slice none 0 0):=by
 refine fG Tryz.func95 λw cs=>r0 [] [(2,.slice none 0 0)] [] (r0 [] [(3,pt b 68)] [] (r0 [(3,.l 0)] [(10,i6 a)] [] (r0 [] [(11,.bool (a==1))] [] ?_)));have q:(a==1)=false:=by rw[db];omega
 refine cF (a==1) q (r0 [] [(29,.bool (a==2))] [] ?_);have r:(a==2)=false:=by rw[db];omega
 refine cF (a==2) r (r0 [] [(50,.bool (a==3))] [] ?_);have s:(a==3)=false:=by rw[db];omega
 refine cF (a==3) s (r0 [] [(68,.bool (a==4))] [] ?_);have c:(a==4)=false:=by rw[db];omega
 refine cF (a==4) c (r0 [] [(86,.bool (a==5))] [] ?_);have e:(a==5)=false:=by rw[db];omega
 refine cF (a==5) e (r0 [] [(98,.bool (a==6))] [] ?_);have f:(a==6)=false:=by rw[db];omega
 exact cF (a==6) f (r0 [] [(2,.slice none 0 0)] [2] (lf ab.zero [] [(0,0)] []))
theorem VG(ln:Int)(d:List UInt8)(m:Nat)(c e f g h i j k:Int)(n:d.length=64):aa Zl 55 #[.agg (sV 1 ln d m c e f g h i j k)] [] [] N0 (λ_=> .agg (sV 1 ln z6 0 0 0 0 0 0 0 0 0)):=by
 exact fG Tryz.func55 λw cs=>ra (λa=>[(1,pt (B0 a) 0),(2,pt (B1 a) 0)]) (λa=>[ob (B0 a) (sV 1 ln d m c e f g h i j k) 50,ob (B1 a) (sV 0 0 z6 0 0 0 0 0 0 0 0 0) 50]) λa=>rr (λ_=>[(1,.l 0),(4,.s 2)]) (λb=>[(3,pt (B3 b) 0)]) [] (λb L=>L++[ob (B3 b) (sV 1 0 z6 0 0 0 0 0 0 0 0 0) 50]) λb=>r0 [(1,.l 0)] [(11,i6 1)] [] (rT [] 12 (rs [(1,.l 0),(3,.s 2)] 2 (ob (B3 b) (sV 1 ln z6 0 0 0 0 0 0 0 0 0) 50) (rs [(0,.l 2),(1,.s 1)] 1 (ob (B1 a) (sV 1 ln z6 0 0 0 0 0 0 0 0 0) 50) (lf ab.zero [] [] [1]))))
theorem VH(ln:Int)(d:List UInt8)(m:Nat)(c e f g h i j k:Int)(n:d.length=64):aa Zl 55 #[.agg (sV 2 ln d m c e f g h i j k)] [] [] N0 (λ_=> .agg (sV 2 ln d 0 0 0 0 0 0 0 0 0)):=by
 exact fG Tryz.func55 λw cs=>ra (λa=>[(1,pt (B0 a) 0),(2,pt (B1 a) 0)]) (λa=>[ob (B0 a) (sV 2 ln d m c e f g h i j k) 50,ob (B1 a) (sV 0 0 z6 0 0 0 0 0 0 0 0 0) 50]) λa=>rr (λ_=>[(1,.l 0),(4,.s 2)]) (λb=>[(3,pt (B3 b) 0)]) [] (λb L=>L++[ob (B3 b) (sV 2 0 z6 0 0 0 0 0 0 0 0 0) 50]) λb=>r0 [(1,.l 0)] [(11,i6 2)] [] (rF [] 12 (rT [] 17 (rs [(1,.l 0),(3,.l 0),(5,.s 2),(7,.s 2)] 2 (ob (B3 b) (sV 2 ln d 0 0 0 0 0 0 0 0 0) 50) (rs [(0,.l 2),(1,.s 1)] 1 (ob (B1 a) (sV 2 ln d 0 0 0 0 0 0 0 0 0) 50) (lf ab.zero [] [] [1])))))
theorem VI(ln:Int)(d:List UInt8)(m:Nat)(c e f g h i j k:Int)(n:d.length=64):aa Zl 55 #[.agg (sV 3 ln d m c e f g h i j k)] [] [] N0 (λ_=> .agg (sV 3 ln d m 0 0 0 0 0 0 0 0)):=by
 exact fG Tryz.func55 λw cs=>ra (λa=>[(1,pt (B0 a) 0),(2,pt (B1 a) 0)]) (λa=>[ob (B0 a) (sV 3 ln d m c e f g h i j k) 50,ob (B1 a) (sV 0 0 z6 0 0 0 0 0 0 0 0 0) 50]) λa=>rr (λ_=>[(1,.l 0),(4,.s 2)]) (λb=>[(3,pt (B3 b) 0)]) [] (λb L=>L++[ob (B3 b) (sV 3 0 z6 0 0 0 0 0 0 0 0 0) 50]) λb=>r0 [(1,.l 0)] [(11,i6 3)] [] (rF [] 12 (rF [] 17 (rT [] 25 (rs [(0,.v (pt (B0 a) 1)),(1,.m (ld 0 (i6 ln))),(2,.v (pt (B0 a) 2)),(3,.m (ls 0 (rB 64 d))),(4,.v (pt (B0 a) 66)),(5,.m (ld 0 (u6 (m:Int)))),(6,.v (pt (B3 b) 1)),(7,.s 2),(8,.v (pt (B3 b) 2)),(9,.s 2),(10,.v (pt (B3 b) 66)),(11,.s 2)] 2 (ob (B3 b) (sV 3 ln d m 0 0 0 0 0 0 0 0) 50) (rs [(0,.l 2),(1,.s 1)] 1 (ob (B1 a) (sV 3 ln d m 0 0 0 0 0 0 0 0) 50) (lf ab.zero [] [] [1]))))))
theorem VJ(k p:Int)(d:List UInt8)(m:Nat)(e f g h i j n o:Int)(x:d.length=64)(u:4≤k)(v:k≤7):aa Zl 55 #[.agg (sV k p d m e f g h i j n o)] [] [] N0 (λ_=> .agg (sV k 0 z6 0 0 0 0 0 0 0 0 0)):=by
 refine fG Tryz.func55 λw cs=>ra (λa=>[(1,pt (B0 a) 0),(2,pt (B1 a) 0)]) (λa=>[ob (B0 a) (sV k p d m e f g h i j n o) 50,ob (B1 a) (sV 0 0 z6 0 0 0 0 0 0 0 0 0) 50]) λa=>rr (λ_=>[(1,.l 0),(4,.s 2)]) (λb=>[(3,pt (B3 b) 0)]) [] (λb L=>L++[ob (B3 b) (sV k 0 z6 0 0 0 0 0 0 0 0 0) 50]) λb=>r0 [(1,.l 0)] [(11,i6 k)] [] (r0 [] [(12,.bool (k==1))] [] ?_);have q:(k==1)=false:=by rw[db];omega
 refine cF (k==1) q (r0 [] [(17,.bool (k==2))] [] ?_);have r:(k==2)=false:=by rw[db];omega
 refine cF (k==2) r (r0 [] [(25,.bool (k==3))] [] ?_);have t:(k==3)=false:=by rw[db];omega
 refine cF (k==3) t (r0 [] [(36,.bool (k==8))] [] ?_);have c:(k==8)=false:=by rw[db];omega
 exact cF (k==8) c (rs [(0,.l 2),(1,.s 1)] 1 (ob (B1 a) (sV k 0 z6 0 0 0 0 0 0 0 0 0) 50) (lf ab.zero [] [] [1]))
theorem VK(ln:Int)(d:List UInt8)(m:Nat)(f g i j o n p:Int)(q:d.length=64):aa Zl 55 #[.agg (sV 8 ln d m 1 f g i j o n p)] [] [] N0 (λ_=> .agg (sV 8 0 z6 0 1 f g i j 0 n 0)):=by
 refine fG Tryz.func55 λw cs=>ra (λb=>[(1,pt (B0 b) 0),(2,pt (B1 b) 0)]) (λb=>[ob (B0 b) (sV 8 ln d m 1 f g i j o n p) 50,ob (B1 b) (sV 0 0 z6 0 0 0 0 0 0 0 0 0) 50]) λb=>rr (λ_=>[(1,.l 0),(4,.s 2)]) (λe=>[(3,pt (B3 e) 0)]) [] (λe L=>L++[ob (B3 e) (sV 8 0 z6 0 0 0 0 0 0 0 0 0) 50]) λe=>r0 [(1,.l 0)] [(11,i6 8)] [] (rF [] 12 (rF [] 17 (rF [] 25 (rT [] 36 (rs [(2,.l 0),(5,.s 2)] 2 (ob (B3 e) (sV 8 0 z6 0 1 0 0 0 0 0 0 0) 50) (rr (λ_=>[(1,.c [2] [3] (Hh (B3 e) 8 0 z6 0 0 0 0 0 0 0 0))]) (λh=>[(4,.slice (some ⟨(B1 h),0,none⟩) 5 5)]) [] (λh L=>L++[ob (B1 h) #[pt (B3 e) 68,pt (B3 e) 69,pt (B3 e) 70,pt (B3 e) 71,pt (B3 e) 73] 197]) λh=>rr (λ_=>[(1,.c [0] [4] (Hh (B0 b) 8 ln d m f g i j o n p))]) (λa=>[(46,.slice (some ⟨(B1 a),0,none⟩) 5 5),(47,i6 5),(48,i6 0)]) [] (λa L=>L++[ob (B1 a) #[pt (B0 b) 68,pt (B0 b) 69,pt (B0 b) 70,pt (B0 b) 71,pt (B0 b) 73] 197]) λa=>?_))))));refine lu 8 ?_;refine rT [] 49 (r0 [(1,.t (tv (Instr.indexAt 194 (.slice (some ⟨(B1 a),0,none⟩) 5 5) (i6 0)) (λ_=>bR (k:=0) (s:=1) Kr Om))),(2,.l 4)] [(5,i6 0),(6,pt (B0 b) 68)] [] (rs [(2,.t (tv (Instr.indexAt 194 (.slice (some ⟨(B1 h),0,none⟩) 5 5) (i6 0)) (λ_=>bR (k:=0) (s:=1) Kr Om))),(3,.l 3),(6,.l 0),(8,.s 2)] 2 (ob (B3 e) (sV 8 0 z6 0 1 f 0 0 0 0 0 0) 50) (r0 [] [(48,i6 1)] [48] ?_)));refine e4 ?_;refine r0 [] [(49,.bool true)] [49] (cT _ rfl (r0 [(1,.t (tv (Instr.indexAt 194 (.slice (some ⟨(B1 a),0,none⟩) 5 5) (i6 1)) (λ_=>bR (k:=1) (s:=1) Kr Om))),(2,.l 4)] [(5,i6 1),(6,pt (B0 b) 69)] [5,6] (rs [(2,.t (tv (Instr.indexAt 194 (.slice (some ⟨(B1 h),0,none⟩) 5 5) (i6 1)) (λ_=>bR (k:=1) (s:=1) Kr Om))),(3,.l 3),(6,.l 0),(8,.s 2)] 2 (ob (B3 e) (sV 8 0 z6 0 1 f g 0 0 0 0 0) 50) (r0 [] [(48,i6 2)] [48] ?_))));refine e4 ?_;refine r0 [] [(49,.bool true)] [49] (cT _ rfl (r0 [(1,.t (tv (Instr.indexAt 194 (.slice (some ⟨(B1 a),0,none⟩) 5 5) (i6 2)) (λ_=>bR (k:=2) (s:=1) Kr Om))),(2,.l 4)] [(5,i6 2),(6,pt (B0 b) 70)] [5,6] (rs [(2,.t (tv (Instr.indexAt 194 (.slice (some ⟨(B1 h),0,none⟩) 5 5) (i6 2)) (λ_=>bR (k:=2) (s:=1) Kr Om))),(3,.l 3),(6,.l 0),(8,.s 2)] 2 (ob (B3 e) (sV 8 0 z6 0 1 f g i 0 0 0 0) 50) (r0 [] [(48,i6 3)] [48] ?_))));refine e4 ?_;refine r0 [] [(49,.bool true)] [49] (cT _ rfl (r0 [(1,.t (tv (Instr.indexAt 194 (.slice (some ⟨(B1 a),0,none⟩) 5 5) (i6 3)) (λ_=>bR (k:=3) (s:=1) Kr Om))),(2,.l 4)] [(5,i6 3),(6,pt (B0 b) 71)] [5,6] (rs [(2,.t (tv (Instr.indexAt 194 (.slice (some ⟨(B1 h),0,none⟩) 5 5) (i6 3)) (λ_=>bR (k:=3) (s:=1) Kr Om))),(3,.l 3),(6,.l 0),(8,.s 2)] 2 (ob (B3 e) (sV 8 0 z6 0 1 f g i j 0 0 0) 50) (r0 [] [(48,i6 4)] [48] ?_))));refine e4 ?_;refine r0 [] [(49,.bool true)] [49] (cT _ rfl (r0 [(1,.t (tv (Instr.indexAt 194 (.slice (some ⟨(B1 a),0,none⟩) 5 5) (i6 4)) (λ_=>bR (k:=4) (s:=1) Kr Om))),(2,.l 4)] [(5,i6 4),(6,pt (B0 b) 73)] [5,6] (rs [(2,.t (tv (Instr.indexAt 194 (.slice (some ⟨(B1 h),0,none⟩) 5 5) (i6 4)) (λ_=>bR (k:=4) (s:=1) Kr Om))),(3,.l 3),(6,.l 0),(8,.s 2)] 2 (ob (B3 e) (sV 8 0 z6 0 1 f g i j 0 n 0) 50) (r0 [] [(48,i6 5)] [48] ?_))));refine e4 ?_;refine r0 [] [(49,.bool false)] [49] (cF _ rfl ?_);refine oC ?_;exact rs [(0,.l 2),(1,.s 1)] 1 (ob (B1 b) (sV 8 0 z6 0 1 f g i j 0 n 0) 50) (lf ab.zero [] [] [1])
theorem VL(ln:Int)(d:List UInt8)(m:Nat)(f g i j p n o:Int)(q:d.length=64):aa Zl 55 #[.agg (sV 8 ln d m 2 f g i j p n o)] [] [] N0 (λ_=> .agg (sV 8 0 z6 0 2 f g i j 0 n o)):=by
 refine fG Tryz.func55 λw cs=>ra (λb=>[(1,pt (B0 b) 0),(2,pt (B1 b) 0)]) (λb=>[ob (B0 b) (sV 8 ln d m 2 f g i j p n o) 50,ob (B1 b) (sV 0 0 z6 0 0 0 0 0 0 0 0 0) 50]) λb=>rr (λ_=>[(1,.l 0),(4,.s 2)]) (λe=>[(3,pt (B3 e) 0)]) [] (λe L=>L++[ob (B3 e) (sV 8 0 z6 0 0 0 0 0 0 0 0 0) 50]) λe=>r0 [(1,.l 0)] [(11,i6 8)] [] (rF [] 12 (rF [] 17 (rF [] 25 (rT [] 36 (rs [(2,.l 0),(5,.s 2)] 2 (ob (B3 e) (sV 8 0 z6 0 2 0 0 0 0 0 0 0) 50) (rr (λ_=>[(1,.c [2] [3] (Hi (B3 e) 8 0 z6 0 0 0 0 0 0 0 0))]) (λh=>[(4,.slice (some ⟨(B1 h),0,none⟩) 6 6)]) [] (λh L=>L++[ob (B1 h) #[pt (B3 e) 68,pt (B3 e) 69,pt (B3 e) 70,pt (B3 e) 71,pt (B3 e) 73,pt (B3 e) 74] 197]) λh=>rr (λ_=>[(1,.c [0] [4] (Hi (B0 b) 8 ln d m f g i j p n o))]) (λa=>[(46,.slice (some ⟨(B1 a),0,none⟩) 6 6),(47,i6 6),(48,i6 0)]) [] (λa L=>L++[ob (B1 a) #[pt (B0 b) 68,pt (B0 b) 69,pt (B0 b) 70,pt (B0 b) 71,pt (B0 b) 73,pt (B0 b) 74] 197]) λa=>?_))))));refine lu 8 ?_;refine rT [] 49 (r0 [(1,.t (tv (Instr.indexAt 194 (.slice (some ⟨(B1 a),0,none⟩) 6 6) (i6 0)) (λ_=>bR (k:=0) (s:=1) Kr Om))),(2,.l 4)] [(5,i6 0),(6,pt (B0 b) 68)] [] (rs [(2,.t (tv (Instr.indexAt 194 (.slice (some ⟨(B1 h),0,none⟩) 6 6) (i6 0)) (λ_=>bR (k:=0) (s:=1) Kr Om))),(3,.l 3),(6,.l 0),(8,.s 2)] 2 (ob (B3 e) (sV 8 0 z6 0 2 f 0 0 0 0 0 0) 50) (r0 [] [(48,i6 1)] [48] ?_)));refine e4 ?_;refine r0 [] [(49,.bool true)] [49] (cT _ rfl (r0 [(1,.t (tv (Instr.indexAt 194 (.slice (some ⟨(B1 a),0,none⟩) 6 6) (i6 1)) (λ_=>bR (k:=1) (s:=1) Kr Om))),(2,.l 4)] [(5,i6 1),(6,pt (B0 b) 69)] [5,6] (rs [(2,.t (tv (Instr.indexAt 194 (.slice (some ⟨(B1 h),0,none⟩) 6 6) (i6 1)) (λ_=>bR (k:=1) (s:=1) Kr Om))),(3,.l 3),(6,.l 0),(8,.s 2)] 2 (ob (B3 e) (sV 8 0 z6 0 2 f g 0 0 0 0 0) 50) (r0 [] [(48,i6 2)] [48] ?_))));refine e4 ?_;refine r0 [] [(49,.bool true)] [49] (cT _ rfl (r0 [(1,.t (tv (Instr.indexAt 194 (.slice (some ⟨(B1 a),0,none⟩) 6 6) (i6 2)) (λ_=>bR (k:=2) (s:=1) Kr Om))),(2,.l 4)] [(5,i6 2),(6,pt (B0 b) 70)] [5,6] (rs [(2,.t (tv (Instr.indexAt 194 (.slice (some ⟨(B1 h),0,none⟩) 6 6) (i6 2)) (λ_=>bR (k:=2) (s:=1) Kr Om))),(3,.l 3),(6,.l 0),(8,.s 2)] 2 (ob (B3 e) (sV 8 0 z6 0 2 f g i 0 0 0 0) 50) (r0 [] [(48,i6 3)] [48] ?_))));refine e4 ?_;refine r0 [] [(49,.bool true)] [49] (cT _ rfl (r0 [(1,.t (tv (Instr.indexAt 194 (.slice (some ⟨(B1 a),0,none⟩) 6 6) (i6 3)) (λ_=>bR (k:=3) (s:=1) Kr Om))),(2,.l 4)] [(5,i6 3),(6,pt (B0 b) 71)] [5,6] (rs [(2,.t (tv (Instr.indexAt 194 (.slice (some ⟨(B1 h),0,none⟩) 6 6) (i6 3)) (λ_=>bR (k:=3) (s:=1) Kr Om))),(3,.l 3),(6,.l 0),(8,.s 2)] 2 (ob (B3 e) (sV 8 0 z6 0 2 f g i j 0 0 0) 50) (r0 [] [(48,i6 4)] [48] ?_))));refine e4 ?_;refine r0 [] [(49,.bool true)] [49] (cT _ rfl (r0 [(1,.t (tv (Instr.indexAt 194 (.slice (some ⟨(B1 a),0,none⟩) 6 6) (i6 4)) (λ_=>bR (k:=4) (s:=1) Kr Om))),(2,.l 4)] [(5,i6 4),(6,pt (B0 b) 73)] [5,6] (rs [(2,.t (tv (Instr.indexAt 194 (.slice (some ⟨(B1 h),0,none⟩) 6 6) (i6 4)) (λ_=>bR (k:=4) (s:=1) Kr Om))),(3,.l 3),(6,.l 0),(8,.s 2)] 2 (ob (B3 e) (sV 8 0 z6 0 2 f g i j 0 n 0) 50) (r0 [] [(48,i6 5)] [48] ?_))));refine e4 ?_;refine r0 [] [(49,.bool true)] [49] (cT _ rfl (r0 [(1,.t (tv (Instr.indexAt 194 (.slice (some ⟨(B1 a),0,none⟩) 6 6) (i6 5)) (λ_=>bR (k:=5) (s:=1) Kr Om))),(2,.l 4)] [(5,i6 5),(6,pt (B0 b) 74)] [5,6] (rs [(2,.t (tv (Instr.indexAt 194 (.slice (some ⟨(B1 h),0,none⟩) 6 6) (i6 5)) (λ_=>bR (k:=5) (s:=1) Kr Om))),(3,.l 3),(6,.l 0),(8,.s 2)] 2 (ob (B3 e) (sV 8 0 z6 0 2 f g i j 0 n o) 50) (r0 [] [(48,i6 6)] [48] ?_))));refine e4 ?_;refine r0 [] [(49,.bool false)] [49] (cF _ rfl ?_);refine oC ?_;exact rs [(0,.l 2),(1,.s 1)] 1 (ob (B1 b) (sV 8 0 z6 0 2 f g i j 0 n o) 50) (lf ab.zero [] [] [1])
theorem VM(ln:Int)(d:List UInt8)(m:Nat)(f g i o j p n:Int)(q:d.length=64):aa Zl 55 #[.agg (sV 8 ln d m 3 f g i o j p n)] [] [] N0 (λ_=> .agg (sV 8 0 z6 0 3 f g i 0 j 0 n)):=by
 refine fG Tryz.func55 λw cs=>ra (λb=>[(1,pt (B0 b) 0),(2,pt (B1 b) 0)]) (λb=>[ob (B0 b) (sV 8 ln d m 3 f g i o j p n) 50,ob (B1 b) (sV 0 0 z6 0 0 0 0 0 0 0 0 0) 50]) λb=>rr (λ_=>[(1,.l 0),(4,.s 2)]) (λe=>[(3,pt (B3 e) 0)]) [] (λe L=>L++[ob (B3 e) (sV 8 0 z6 0 0 0 0 0 0 0 0 0) 50]) λe=>r0 [(1,.l 0)] [(11,i6 8)] [] (rF [] 12 (rF [] 17 (rF [] 25 (rT [] 36 (rs [(2,.l 0),(5,.s 2)] 2 (ob (B3 e) (sV 8 0 z6 0 3 0 0 0 0 0 0 0) 50) (rr (λ_=>[(1,.c [2] [3] (Hj (B3 e) 8 0 z6 0 0 0 0 0 0 0 0))]) (λh=>[(4,.slice (some ⟨(B1 h),0,none⟩) 5 5)]) [] (λh L=>L++[ob (B1 h) #[pt (B3 e) 68,pt (B3 e) 69,pt (B3 e) 70,pt (B3 e) 72,pt (B3 e) 74] 197]) λh=>rr (λ_=>[(1,.c [0] [4] (Hj (B0 b) 8 ln d m f g i o j p n))]) (λa=>[(46,.slice (some ⟨(B1 a),0,none⟩) 5 5),(47,i6 5),(48,i6 0)]) [] (λa L=>L++[ob (B1 a) #[pt (B0 b) 68,pt (B0 b) 69,pt (B0 b) 70,pt (B0 b) 72,pt (B0 b) 74] 197]) λa=>?_))))));refine lu 8 ?_;refine rT [] 49 (r0 [(1,.t (tv (Instr.indexAt 194 (.slice (some ⟨(B1 a),0,none⟩) 5 5) (i6 0)) (λ_=>bR (k:=0) (s:=1) Kr Om))),(2,.l 4)] [(5,i6 0),(6,pt (B0 b) 68)] [] (rs [(2,.t (tv (Instr.indexAt 194 (.slice (some ⟨(B1 h),0,none⟩) 5 5) (i6 0)) (λ_=>bR (k:=0) (s:=1) Kr Om))),(3,.l 3),(6,.l 0),(8,.s 2)] 2 (ob (B3 e) (sV 8 0 z6 0 3 f 0 0 0 0 0 0) 50) (r0 [] [(48,i6 1)] [48] ?_)));refine e4 ?_;refine r0 [] [(49,.bool true)] [49] (cT _ rfl (r0 [(1,.t (tv (Instr.indexAt 194 (.slice (some ⟨(B1 a),0,none⟩) 5 5) (i6 1)) (λ_=>bR (k:=1) (s:=1) Kr Om))),(2,.l 4)] [(5,i6 1),(6,pt (B0 b) 69)] [5,6] (rs [(2,.t (tv (Instr.indexAt 194 (.slice (some ⟨(B1 h),0,none⟩) 5 5) (i6 1)) (λ_=>bR (k:=1) (s:=1) Kr Om))),(3,.l 3),(6,.l 0),(8,.s 2)] 2 (ob (B3 e) (sV 8 0 z6 0 3 f g 0 0 0 0 0) 50) (r0 [] [(48,i6 2)] [48] ?_))));refine e4 ?_;refine r0 [] [(49,.bool true)] [49] (cT _ rfl (r0 [(1,.t (tv (Instr.indexAt 194 (.slice (some ⟨(B1 a),0,none⟩) 5 5) (i6 2)) (λ_=>bR (k:=2) (s:=1) Kr Om))),(2,.l 4)] [(5,i6 2),(6,pt (B0 b) 70)] [5,6] (rs [(2,.t (tv (Instr.indexAt 194 (.slice (some ⟨(B1 h),0,none⟩) 5 5) (i6 2)) (λ_=>bR (k:=2) (s:=1) Kr Om))),(3,.l 3),(6,.l 0),(8,.s 2)] 2 (ob (B3 e) (sV 8 0 z6 0 3 f g i 0 0 0 0) 50) (r0 [] [(48,i6 3)] [48] ?_))));refine e4 ?_;refine r0 [] [(49,.bool true)] [49] (cT _ rfl (r0 [(1,.t (tv (Instr.indexAt 194 (.slice (some ⟨(B1 a),0,none⟩) 5 5) (i6 3)) (λ_=>bR (k:=3) (s:=1) Kr Om))),(2,.l 4)] [(5,i6 3),(6,pt (B0 b) 72)] [5,6] (rs [(2,.t (tv (Instr.indexAt 194 (.slice (some ⟨(B1 h),0,none⟩) 5 5) (i6 3)) (λ_=>bR (k:=3) (s:=1) Kr Om))),(3,.l 3),(6,.l 0),(8,.s 2)] 2 (ob (B3 e) (sV 8 0 z6 0 3 f g i 0 j 0 0) 50) (r0 [] [(48,i6 4)] [48] ?_))));refine e4 ?_;refine r0 [] [(49,.bool true)] [49] (cT _ rfl (r0 [(1,.t (tv (Instr.indexAt 194 (.slice (some ⟨(B1 a),0,none⟩) 5 5) (i6 4)) (λ_=>bR (k:=4) (s:=1) Kr Om))),(2,.l 4)] [(5,i6 4),(6,pt (B0 b) 74)] [5,6] (rs [(2,.t (tv (Instr.indexAt 194 (.slice (some ⟨(B1 h),0,none⟩) 5 5) (i6 4)) (λ_=>bR (k:=4) (s:=1) Kr Om))),(3,.l 3),(6,.l 0),(8,.s 2)] 2 (ob (B3 e) (sV 8 0 z6 0 3 f g i 0 j 0 n) 50) (r0 [] [(48,i6 5)] [48] ?_))));refine e4 ?_;refine r0 [] [(49,.bool false)] [49] (cF _ rfl ?_);refine oC ?_;exact rs [(0,.l 2),(1,.s 1)] 1 (ob (B1 b) (sV 8 0 z6 0 3 f g i 0 j 0 n) 50) (lf ab.zero [] [] [1])
theorem VN(ln:Int)(d:List UInt8)(m:Nat)(f g o i j p n:Int)(q:d.length=64):aa Zl 55 #[.agg (sV 8 ln d m 4 f g o i j p n)] [] [] N0 (λ_=> .agg (sV 8 0 z6 0 4 f g 0 i j 0 n)):=by
 refine fG Tryz.func55 λw cs=>ra (λb=>[(1,pt (B0 b) 0),(2,pt (B1 b) 0)]) (λb=>[ob (B0 b) (sV 8 ln d m 4 f g o i j p n) 50,ob (B1 b) (sV 0 0 z6 0 0 0 0 0 0 0 0 0) 50]) λb=>rr (λ_=>[(1,.l 0),(4,.s 2)]) (λe=>[(3,pt (B3 e) 0)]) [] (λe L=>L++[ob (B3 e) (sV 8 0 z6 0 0 0 0 0 0 0 0 0) 50]) λe=>r0 [(1,.l 0)] [(11,i6 8)] [] (rF [] 12 (rF [] 17 (rF [] 25 (rT [] 36 (rs [(2,.l 0),(5,.s 2)] 2 (ob (B3 e) (sV 8 0 z6 0 4 0 0 0 0 0 0 0) 50) (rr (λ_=>[(1,.c [2] [3] (Hk (B3 e) 8 0 z6 0 0 0 0 0 0 0 0))]) (λh=>[(4,.slice (some ⟨(B1 h),0,none⟩) 5 5)]) [] (λh L=>L++[ob (B1 h) #[pt (B3 e) 68,pt (B3 e) 69,pt (B3 e) 71,pt (B3 e) 72,pt (B3 e) 74] 197]) λh=>rr (λ_=>[(1,.c [0] [4] (Hk (B0 b) 8 ln d m f g o i j p n))]) (λa=>[(46,.slice (some ⟨(B1 a),0,none⟩) 5 5),(47,i6 5),(48,i6 0)]) [] (λa L=>L++[ob (B1 a) #[pt (B0 b) 68,pt (B0 b) 69,pt (B0 b) 71,pt (B0 b) 72,pt (B0 b) 74] 197]) λa=>?_))))));refine lu 8 ?_;refine rT [] 49 (r0 [(1,.t (tv (Instr.indexAt 194 (.slice (some ⟨(B1 a),0,none⟩) 5 5) (i6 0)) (λ_=>bR (k:=0) (s:=1) Kr Om))),(2,.l 4)] [(5,i6 0),(6,pt (B0 b) 68)] [] (rs [(2,.t (tv (Instr.indexAt 194 (.slice (some ⟨(B1 h),0,none⟩) 5 5) (i6 0)) (λ_=>bR (k:=0) (s:=1) Kr Om))),(3,.l 3),(6,.l 0),(8,.s 2)] 2 (ob (B3 e) (sV 8 0 z6 0 4 f 0 0 0 0 0 0) 50) (r0 [] [(48,i6 1)] [48] ?_)));refine e4 ?_;refine r0 [] [(49,.bool true)] [49] (cT _ rfl (r0 [(1,.t (tv (Instr.indexAt 194 (.slice (some ⟨(B1 a),0,none⟩) 5 5) (i6 1)) (λ_=>bR (k:=1) (s:=1) Kr Om))),(2,.l 4)] [(5,i6 1),(6,pt (B0 b) 69)] [5,6] (rs [(2,.t (tv (Instr.indexAt 194 (.slice (some ⟨(B1 h),0,none⟩) 5 5) (i6 1)) (λ_=>bR (k:=1) (s:=1) Kr Om))),(3,.l 3),(6,.l 0),(8,.s 2)] 2 (ob (B3 e) (sV 8 0 z6 0 4 f g 0 0 0 0 0) 50) (r0 [] [(48,i6 2)] [48] ?_))));refine e4 ?_;refine r0 [] [(49,.bool true)] [49] (cT _ rfl (r0 [(1,.t (tv (Instr.indexAt 194 (.slice (some ⟨(B1 a),0,none⟩) 5 5) (i6 2)) (λ_=>bR (k:=2) (s:=1) Kr Om))),(2,.l 4)] [(5,i6 2),(6,pt (B0 b) 71)] [5,6] (rs [(2,.t (tv (Instr.indexAt 194 (.slice (some ⟨(B1 h),0,none⟩) 5 5) (i6 2)) (λ_=>bR (k:=2) (s:=1) Kr Om))),(3,.l 3),(6,.l 0),(8,.s 2)] 2 (ob (B3 e) (sV 8 0 z6 0 4 f g 0 i 0 0 0) 50) (r0 [] [(48,i6 3)] [48] ?_))));refine e4 ?_;refine r0 [] [(49,.bool true)] [49] (cT _ rfl (r0 [(1,.t (tv (Instr.indexAt 194 (.slice (some ⟨(B1 a),0,none⟩) 5 5) (i6 3)) (λ_=>bR (k:=3) (s:=1) Kr Om))),(2,.l 4)] [(5,i6 3),(6,pt (B0 b) 72)] [5,6] (rs [(2,.t (tv (Instr.indexAt 194 (.slice (some ⟨(B1 h),0,none⟩) 5 5) (i6 3)) (λ_=>bR (k:=3) (s:=1) Kr Om))),(3,.l 3),(6,.l 0),(8,.s 2)] 2 (ob (B3 e) (sV 8 0 z6 0 4 f g 0 i j 0 0) 50) (r0 [] [(48,i6 4)] [48] ?_))));refine e4 ?_;refine r0 [] [(49,.bool true)] [49] (cT _ rfl (r0 [(1,.t (tv (Instr.indexAt 194 (.slice (some ⟨(B1 a),0,none⟩) 5 5) (i6 4)) (λ_=>bR (k:=4) (s:=1) Kr Om))),(2,.l 4)] [(5,i6 4),(6,pt (B0 b) 74)] [5,6] (rs [(2,.t (tv (Instr.indexAt 194 (.slice (some ⟨(B1 h),0,none⟩) 5 5) (i6 4)) (λ_=>bR (k:=4) (s:=1) Kr Om))),(3,.l 3),(6,.l 0),(8,.s 2)] 2 (ob (B3 e) (sV 8 0 z6 0 4 f g 0 i j 0 n) 50) (r0 [] [(48,i6 5)] [48] ?_))));refine e4 ?_;refine r0 [] [(49,.bool false)] [49] (cF _ rfl ?_);refine oC ?_;exact rs [(0,.l 2),(1,.s 1)] 1 (ob (B1 b) (sV 8 0 z6 0 4 f g 0 i j 0 n) 50) (lf ab.zero [] [] [1])
theorem VO(ln:Int)(d:List UInt8)(m:Nat)(f j n o g p i:Int)(q:d.length=64):aa Zl 55 #[.agg (sV 8 ln d m 5 f j n o g p i)] [] [] N0 (λ_=> .agg (sV 8 0 z6 0 5 f 0 0 0 g 0 i)):=by
 refine fG Tryz.func55 λw cs=>ra (λb=>[(1,pt (B0 b) 0),(2,pt (B1 b) 0)]) (λb=>[ob (B0 b) (sV 8 ln d m 5 f j n o g p i) 50,ob (B1 b) (sV 0 0 z6 0 0 0 0 0 0 0 0 0) 50]) λb=>rr (λ_=>[(1,.l 0),(4,.s 2)]) (λe=>[(3,pt (B3 e) 0)]) [] (λe L=>L++[ob (B3 e) (sV 8 0 z6 0 0 0 0 0 0 0 0 0) 50]) λe=>r0 [(1,.l 0)] [(11,i6 8)] [] (rF [] 12 (rF [] 17 (rF [] 25 (rT [] 36 (rs [(2,.l 0),(5,.s 2)] 2 (ob (B3 e) (sV 8 0 z6 0 5 0 0 0 0 0 0 0) 50) (rr (λ_=>[(1,.c [2] [3] (Hl (B3 e) 8 0 z6 0 0 0 0 0 0 0 0))]) (λh=>[(4,.slice (some ⟨(B1 h),0,none⟩) 3 3)]) [] (λh L=>L++[ob (B1 h) #[pt (B3 e) 68,pt (B3 e) 72,pt (B3 e) 74] 197]) λh=>rr (λ_=>[(1,.c [0] [4] (Hl (B0 b) 8 ln d m f j n o g p i))]) (λa=>[(46,.slice (some ⟨(B1 a),0,none⟩) 3 3),(47,i6 3),(48,i6 0)]) [] (λa L=>L++[ob (B1 a) #[pt (B0 b) 68,pt (B0 b) 72,pt (B0 b) 74] 197]) λa=>?_))))));refine lu 8 ?_;refine rT [] 49 (r0 [(1,.t (tv (Instr.indexAt 194 (.slice (some ⟨(B1 a),0,none⟩) 3 3) (i6 0)) (λ_=>bR (k:=0) (s:=1) Kr Om))),(2,.l 4)] [(5,i6 0),(6,pt (B0 b) 68)] [] (rs [(2,.t (tv (Instr.indexAt 194 (.slice (some ⟨(B1 h),0,none⟩) 3 3) (i6 0)) (λ_=>bR (k:=0) (s:=1) Kr Om))),(3,.l 3),(6,.l 0),(8,.s 2)] 2 (ob (B3 e) (sV 8 0 z6 0 5 f 0 0 0 0 0 0) 50) (r0 [] [(48,i6 1)] [48] ?_)));refine e4 ?_;refine r0 [] [(49,.bool true)] [49] (cT _ rfl (r0 [(1,.t (tv (Instr.indexAt 194 (.slice (some ⟨(B1 a),0,none⟩) 3 3) (i6 1)) (λ_=>bR (k:=1) (s:=1) Kr Om))),(2,.l 4)] [(5,i6 1),(6,pt (B0 b) 72)] [5,6] (rs [(2,.t (tv (Instr.indexAt 194 (.slice (some ⟨(B1 h),0,none⟩) 3 3) (i6 1)) (λ_=>bR (k:=1) (s:=1) Kr Om))),(3,.l 3),(6,.l 0),(8,.s 2)] 2 (ob (B3 e) (sV 8 0 z6 0 5 f 0 0 0 g 0 0) 50) (r0 [] [(48,i6 2)] [48] ?_))));refine e4 ?_;refine r0 [] [(49,.bool true)] [49] (cT _ rfl (r0 [(1,.t (tv (Instr.indexAt 194 (.slice (some ⟨(B1 a),0,none⟩) 3 3) (i6 2)) (λ_=>bR (k:=2) (s:=1) Kr Om))),(2,.l 4)] [(5,i6 2),(6,pt (B0 b) 74)] [5,6] (rs [(2,.t (tv (Instr.indexAt 194 (.slice (some ⟨(B1 h),0,none⟩) 3 3) (i6 2)) (λ_=>bR (k:=2) (s:=1) Kr Om))),(3,.l 3),(6,.l 0),(8,.s 2)] 2 (ob (B3 e) (sV 8 0 z6 0 5 f 0 0 0 g 0 i) 50) (r0 [] [(48,i6 3)] [48] ?_))));refine e4 ?_;refine r0 [] [(49,.bool false)] [49] (cF _ rfl ?_);refine oC ?_;exact rs [(0,.l 2),(1,.s 1)] 1 (ob (B1 b) (sV 8 0 z6 0 5 f 0 0 0 g 0 i) 50) (lf ab.zero [] [] [1])
theorem VP(ln:Int)(d:List UInt8)(m:Nat)(f g i j n o p:Int)(q:d.length=64):aa Zl 55 #[.agg (sV 8 ln d m 6 f g i j n o p)] [] [] N0 (λ_=> .agg (sV 8 0 z6 0 6 f g i j 0 0 0)):=by
 refine fG Tryz.func55 λw cs=>ra (λb=>[(1,pt (B0 b) 0),(2,pt (B1 b) 0)]) (λb=>[ob (B0 b) (sV 8 ln d m 6 f g i j n o p) 50,ob (B1 b) (sV 0 0 z6 0 0 0 0 0 0 0 0 0) 50]) λb=>rr (λ_=>[(1,.l 0),(4,.s 2)]) (λe=>[(3,pt (B3 e) 0)]) [] (λe L=>L++[ob (B3 e) (sV 8 0 z6 0 0 0 0 0 0 0 0 0) 50]) λe=>r0 [(1,.l 0)] [(11,i6 8)] [] (rF [] 12 (rF [] 17 (rF [] 25 (rT [] 36 (rs [(2,.l 0),(5,.s 2)] 2 (ob (B3 e) (sV 8 0 z6 0 6 0 0 0 0 0 0 0) 50) (rr (λ_=>[(1,.c [2] [3] (Hm (B3 e) 8 0 z6 0 0 0 0 0 0 0 0))]) (λh=>[(4,.slice (some ⟨(B1 h),0,none⟩) 4 4)]) [] (λh L=>L++[ob (B1 h) #[pt (B3 e) 68,pt (B3 e) 69,pt (B3 e) 70,pt (B3 e) 71] 197]) λh=>rr (λ_=>[(1,.c [0] [4] (Hm (B0 b) 8 ln d m f g i j n o p))]) (λa=>[(46,.slice (some ⟨(B1 a),0,none⟩) 4 4),(47,i6 4),(48,i6 0)]) [] (λa L=>L++[ob (B1 a) #[pt (B0 b) 68,pt (B0 b) 69,pt (B0 b) 70,pt (B0 b) 71] 197]) λa=>?_))))));refine lu 8 ?_;refine rT [] 49 (r0 [(1,.t (tv (Instr.indexAt 194 (.slice (some ⟨(B1 a),0,none⟩) 4 4) (i6 0)) (λ_=>bR (k:=0) (s:=1) Kr Om))),(2,.l 4)] [(5,i6 0),(6,pt (B0 b) 68)] [] (rs [(2,.t (tv (Instr.indexAt 194 (.slice (some ⟨(B1 h),0,none⟩) 4 4) (i6 0)) (λ_=>bR (k:=0) (s:=1) Kr Om))),(3,.l 3),(6,.l 0),(8,.s 2)] 2 (ob (B3 e) (sV 8 0 z6 0 6 f 0 0 0 0 0 0) 50) (r0 [] [(48,i6 1)] [48] ?_)));refine e4 ?_;refine r0 [] [(49,.bool true)] [49] (cT _ rfl (r0 [(1,.t (tv (Instr.indexAt 194 (.slice (some ⟨(B1 a),0,none⟩) 4 4) (i6 1)) (λ_=>bR (k:=1) (s:=1) Kr Om))),(2,.l 4)] [(5,i6 1),(6,pt (B0 b) 69)] [5,6] (rs [(2,.t (tv (Instr.indexAt 194 (.slice (some ⟨(B1 h),0,none⟩) 4 4) (i6 1)) (λ_=>bR (k:=1) (s:=1) Kr Om))),(3,.l 3),(6,.l 0),(8,.s 2)] 2 (ob (B3 e) (sV 8 0 z6 0 6 f g 0 0 0 0 0) 50) (r0 [] [(48,i6 2)] [48] ?_))));refine e4 ?_;refine r0 [] [(49,.bool true)] [49] (cT _ rfl (r0 [(1,.t (tv (Instr.indexAt 194 (.slice (some ⟨(B1 a),0,none⟩) 4 4) (i6 2)) (λ_=>bR (k:=2) (s:=1) Kr Om))),(2,.l 4)] [(5,i6 2),(6,pt (B0 b) 70)] [5,6] (rs [(2,.t (tv (Instr.indexAt 194 (.slice (some ⟨(B1 h),0,none⟩) 4 4) (i6 2)) (λ_=>bR (k:=2) (s:=1) Kr Om))),(3,.l 3),(6,.l 0),(8,.s 2)] 2 (ob (B3 e) (sV 8 0 z6 0 6 f g i 0 0 0 0) 50) (r0 [] [(48,i6 3)] [48] ?_))));refine e4 ?_;refine r0 [] [(49,.bool true)] [49] (cT _ rfl (r0 [(1,.t (tv (Instr.indexAt 194 (.slice (some ⟨(B1 a),0,none⟩) 4 4) (i6 3)) (λ_=>bR (k:=3) (s:=1) Kr Om))),(2,.l 4)] [(5,i6 3),(6,pt (B0 b) 71)] [5,6] (rs [(2,.t (tv (Instr.indexAt 194 (.slice (some ⟨(B1 h),0,none⟩) 4 4) (i6 3)) (λ_=>bR (k:=3) (s:=1) Kr Om))),(3,.l 3),(6,.l 0),(8,.s 2)] 2 (ob (B3 e) (sV 8 0 z6 0 6 f g i j 0 0 0) 50) (r0 [] [(48,i6 4)] [48] ?_))));refine e4 ?_;refine r0 [] [(49,.bool false)] [49] (cF _ rfl ?_);refine oC ?_;exact rs [(0,.l 2),(1,.s 1)] 1 (ob (B1 b) (sV 8 0 z6 0 6 f g i j 0 0 0) 50) (lf ab.zero [] [] [1])
theorem VQ(ln:Int)(d:List UInt8)(m:Nat)(e f g h i j k:Int)(n:d.length=64):aa Zl 55 #[.agg (sV 8 ln d m 7 e f g h i j k)] [] [] N0 (λ_=> .agg (sV 8 0 z6 0 7 0 0 0 0 0 0 0)):=by
 refine fG Tryz.func55 λw cs=>ra (λa=>[(1,pt (B0 a) 0),(2,pt (B1 a) 0)]) (λa=>[ob (B0 a) (sV 8 ln d m 7 e f g h i j k) 50,ob (B1 a) (sV 0 0 z6 0 0 0 0 0 0 0 0 0) 50]) λa=>rr (λ_=>[(1,.l 0),(4,.s 2)]) (λb=>[(3,pt (B3 b) 0)]) [] (λb L=>L++[ob (B3 b) (sV 8 0 z6 0 0 0 0 0 0 0 0 0) 50]) λb=>r0 [(1,.l 0)] [(11,i6 8)] [] (rF [] 12 (rF [] 17 (rF [] 25 (rT [] 36 (rs [(2,.l 0),(5,.s 2)] 2 (ob (B3 b) (sV 8 0 z6 0 7 0 0 0 0 0 0 0) 50) (r0 [(1,.c [2] [] (Hn (B3 b) 8 0 z6 0 0 0 0 0 0 0 0))] [(4,.slice none 0 0)] [] (r0 [(1,.c [0] [] (Hn (B0 a) 8 ln d m e f g h i j k))] [(46,.slice none 0 0),(47,i6 0),(48,i6 0)] [] ?_)))))));refine lu 8 ?_;refine rF [] 49 ?_;refine oC ?_;exact rs [(0,.l 2),(1,.s 1)] 1 (ob (B1 a) (sV 8 0 z6 0 7 0 0 0 0 0 0 0) 50) (lf ab.zero [] [] [1])
theorem VR(ln:Int)(d:List UInt8)(m:Nat)(a f g h i j k n:Int)(p:d.length=64)(o:a<1∨7<a):aa Zl 55 #[.agg (sV 8 ln d m a f g h i j k n)] [] [] N0 (λ_=> .agg (sV 8 0 z6 0 a 0 0 0 0 0 0 0)):=by
 refine fG Tryz.func55 λw cs=>ra (λb=>[(1,pt (B0 b) 0),(2,pt (B1 b) 0)]) (λb=>[ob (B0 b) (sV 8 ln d m a f g h i j k n) 50,ob (B1 b) (sV 0 0 z6 0 0 0 0 0 0 0 0 0) 50]) λb=>rr (λ_=>[(1,.l 0),(4,.s 2)]) (λe=>[(3,pt (B3 e) 0)]) [] (λe L=>L++[ob (B3 e) (sV 8 0 z6 0 0 0 0 0 0 0 0 0) 50]) λe=>r0 [(1,.l 0)] [(11,i6 8)] [] (rF [] 12 (rF [] 17 (rF [] 25 (rT [] 36 (rs [(2,.l 0),(5,.s 2)] 2 (ob (B3 e) (sV 8 0 z6 0 a 0 0 0 0 0 0 0) 50) (r0 [(1,.c [2] [] (Ho (B3 e) 8 0 z6 0 a 0 0 0 0 0 0 0 Om))] [(4,.slice none 0 0)] [] (r0 [(1,.c [0] [] (Ho (B0 b) 8 ln d m a f g h i j k n Om))] [(46,.slice none 0 0),(47,i6 0),(48,i6 0)] [] ?_)))))));refine lu 8 ?_;refine rF [] 49 ?_;refine oC ?_;exact rs [(0,.l 2),(1,.s 1)] 1 (ob (B1 b) (sV 8 0 z6 0 a 0 0 0 0 0 0 0) 50) (lf ab.zero [] [] [1])
theorem VS(k l:Int)(d:List UInt8)(m:Nat)(b c e f g h i j:Int)(o:d.length=64)(n:k<1):aa Zl 17 #[.agg (sV k l d m b c e f g h i j)] [] [] N0 (λ_=> .bool false):=by
 exact fG Tryz.func17 λw cs=>ra (λa=>[(1,pt (B0 a) 0),(2,.bool false)]) (λa=>[ob (B0 a) (sV k l d m b c e f g h i j) 50]) λa=>rT [(1,.m (ld 0 (i6 k))),(2,.t (tk (show Value.bool (decide (k<1))= .bool true from ALca Value.bool (by simp;omega)))),(4,.d),(5,.d),(6,.d),(9,.d),(10,.d),(11,.d),(12,.d)] 16 (r0 [] [(2,.bool false)] [2] (lf ab.zero [] [] []))
theorem VT(k l:Int)(d:List UInt8)(m:Nat)(b c e f g h i j:Int)(o:d.length=64)(n:8<k):aa Zl 17 #[.agg (sV k l d m b c e f g h i j)] [] [] N0 (λ_=> .bool false):=by
 exact fG Tryz.func17 λw cs=>ra (λa=>[(1,pt (B0 a) 0),(2,.bool false)]) (λa=>[ob (B0 a) (sV k l d m b c e f g h i j) 50]) λa=>rT [(1,.m (ld 0 (i6 k))),(2,.t (tk (show Value.bool (decide (k<1))= .bool false from ALca Value.bool (by simp;omega)))),(5,.m (ld 0 (i6 k))),(6,.t (tk (show Value.bool (decide (8<k))= .bool true from ALca Value.bool (by simp;omega)))),(9,.d),(10,.d),(11,.d),(12,.d)] 16 (r0 [] [(2,.bool false)] [2] (lf ab.zero [] [] []))
def wI(ln:Int)(d:List UInt8)(m:Nat)(a b c e f g h i:Int):Bool:=(bif !(((1==1&&(ln==ln&&true))&&decide (d=Zm 64 0))&&((m:Int)==0&&(a==0&&(b==0&&(c==0&&(e==0&&(f==0&&(g==0&&(h==0&&(i==0&&true)))))))))) then false else true)
theorem VU(ln:Int)(d:List UInt8)(m:Nat)(a b e f g h i j:Int)(n:d.length=64):aa Zl 17 #[.agg (sV 1 ln d m a b e f g h i j)] [] [] N0 (λ_=> .bool (wI ln d m a b e f g h i j)):=by
 refine fG Tryz.func17 λw cs=>ra (λk=>[(1,pt (B0 k) 0),(2,.bool false)]) (λk=>[ob (B0 k) (sV 1 ln d m a b e f g h i j) 50]) λk=>r0 [(1,.m (ld 0 (i6 1))),(5,.m (ld 0 (i6 1))),(9,.m (ls 0 (sL 1 ln d m a b e f g h i j))),(10,.m (ls 0 (sL 1 ln d m a b e f g h i j))),(11,.c [] [] (VG ln d m a b e f g h i j (by(simp only[LL,n,n];done)))),(12,.t (ig 50 λ_ _ _=>jg (xs:=([i6 1,i6 ln]:List Value)++rB 64 d++([u6 (m:Int),i6 a,i6 b,i6 e,i6 f,i6 g,i6 h,i6 i,i6 j]:List Value)) (ys:=([i6 1,i6 ln]:List Value)++rB 64 z6++([u6 0,i6 0,i6 0,i6 0,i6 0,i6 0,i6 0,i6 0,i6 0]:List Value)) Kr (fh Kr Kr (fh Kr Kr bc (iP n (show z6.length=64 by rfl))) bc)))] [(16,.bool (!(((1==1&&(ln==ln&&true))&&decide (d=Zm 64 0))&&((m:Int)==0&&(a==0&&(b==0&&(e==0&&(f==0&&(g==0&&(h==0&&(i==0&&(j==0&&true))))))))))))] [] ?_;refine cB (!(((1==1&&(ln==ln&&true))&&decide (d=Zm 64 0))&&((m:Int)==0&&(a==0&&(b==0&&(e==0&&(f==0&&(g==0&&(h==0&&(i==0&&(j==0&&true))))))))))) (λl=>?_) λl=>?_
 ·exact r0 [] [(2,.bool false)] [2] (ao (.bool false) ab.zero (by((try simp only[wI]);(repeat (first | rw[l] | rw[ALct])))<;>rfl) [] [] [])
 exact r0 [(1,.m (ld 0 (i6 1))),(4,.d),(5,.d),(6,.d),(7,.d),(8,.d),(9,.d),(10,.d),(11,.d),(12,.d),(13,.d)] [(2,.bool true)] [2] (ao (.bool true) ab.zero (by((try simp only[wI]);(repeat (first | rw[l] | rw[ALcf])))<;>rfl) [] [] [])
def wJ(ln:Int)(m:Nat)(a b c d e f g h:Int):Bool:=(bif !(((2==2&&(ln==ln&&true))&&true)&&((m:Int)==0&&(a==0&&(b==0&&(c==0&&(d==0&&(e==0&&(f==0&&(g==0&&(h==0&&true)))))))))) then false else true)
theorem VV(ln:Int)(d:List UInt8)(m:Nat)(a b e f g h i j:Int)(k:d.length=64):aa Zl 17 #[.agg (sV 2 ln d m a b e f g h i j)] [] [] N0 (λ_=> .bool (wJ ln m a b e f g h i j)):=by
 refine fG Tryz.func17 λw cs=>ra (λl=>[(1,pt (B0 l) 0),(2,.bool false)]) (λl=>[ob (B0 l) (sV 2 ln d m a b e f g h i j) 50]) λl=>r0 [(1,.m (ld 0 (i6 2))),(5,.m (ld 0 (i6 2))),(9,.m (ls 0 (sL 2 ln d m a b e f g h i j))),(10,.m (ls 0 (sL 2 ln d m a b e f g h i j))),(11,.c [] [] (VH ln d m a b e f g h i j (by(simp only[LL,k,k];done)))),(12,.t (ig 50 λ_ _ _=>jg (xs:=([i6 2,i6 ln]:List Value)++rB 64 d++([u6 (m:Int),i6 a,i6 b,i6 e,i6 f,i6 g,i6 h,i6 i,i6 j]:List Value)) (ys:=([i6 2,i6 ln]:List Value)++rB 64 d++([u6 0,i6 0,i6 0,i6 0,i6 0,i6 0,i6 0,i6 0,i6 0]:List Value)) Kr (fh Kr Kr (fh Kr Kr bc ((iP k k).trans (cC rfl))) bc)))] [(16,.bool (!(((2==2&&(ln==ln&&true))&&true)&&((m:Int)==0&&(a==0&&(b==0&&(e==0&&(f==0&&(g==0&&(h==0&&(i==0&&(j==0&&true))))))))))))] [] ?_;refine cB (!(((2==2&&(ln==ln&&true))&&true)&&((m:Int)==0&&(a==0&&(b==0&&(e==0&&(f==0&&(g==0&&(h==0&&(i==0&&(j==0&&true))))))))))) (λn=>?_) λn=>?_
 ·exact r0 [] [(2,.bool false)] [2] (ao (.bool false) ab.zero (by((try simp only[wJ]);(repeat (first | rw[n] | rw[ALct])))<;>rfl) [] [] [])
 exact r0 [(1,.m (ld 0 (i6 2))),(4,.d),(5,.d),(6,.d),(7,.d),(8,.d),(9,.d),(10,.d),(11,.d),(12,.d),(13,.d)] [(2,.bool true)] [2] (ao (.bool true) ab.zero (by((try simp only[wJ]);(repeat (first | rw[n] | rw[ALcf])))<;>rfl) [] [] [])
def wK(ln:Int)(m:Nat)(a b c d e f g h:Int):Bool:=(bif !(((3==3&&(ln==ln&&true))&&true)&&((m:Int)==(m:Int)&&(a==0&&(b==0&&(c==0&&(d==0&&(e==0&&(f==0&&(g==0&&(h==0&&true)))))))))) then false else true)
theorem VW(ln:Int)(d:List UInt8)(m:Nat)(a b e f g h i j:Int)(k:d.length=64):aa Zl 17 #[.agg (sV 3 ln d m a b e f g h i j)] [] [] N0 (λ_=> .bool (wK ln m a b e f g h i j)):=by
 refine fG Tryz.func17 λw cs=>ra (λl=>[(1,pt (B0 l) 0),(2,.bool false)]) (λl=>[ob (B0 l) (sV 3 ln d m a b e f g h i j) 50]) λl=>r0 [(1,.m (ld 0 (i6 3))),(5,.m (ld 0 (i6 3))),(9,.m (ls 0 (sL 3 ln d m a b e f g h i j))),(10,.m (ls 0 (sL 3 ln d m a b e f g h i j))),(11,.c [] [] (VI ln d m a b e f g h i j (by(simp only[LL,k,k];done)))),(12,.t (ig 50 λ_ _ _=>jg (xs:=([i6 3,i6 ln]:List Value)++rB 64 d++([u6 (m:Int),i6 a,i6 b,i6 e,i6 f,i6 g,i6 h,i6 i,i6 j]:List Value)) (ys:=([i6 3,i6 ln]:List Value)++rB 64 d++([u6 (m:Int),i6 0,i6 0,i6 0,i6 0,i6 0,i6 0,i6 0,i6 0]:List Value)) Kr (fh Kr Kr (fh Kr Kr bc ((iP k k).trans (cC rfl))) bc)))] [(16,.bool (!(((3==3&&(ln==ln&&true))&&true)&&((m:Int)==(m:Int)&&(a==0&&(b==0&&(e==0&&(f==0&&(g==0&&(h==0&&(i==0&&(j==0&&true))))))))))))] [] ?_;refine cB (!(((3==3&&(ln==ln&&true))&&true)&&((m:Int)==(m:Int)&&(a==0&&(b==0&&(e==0&&(f==0&&(g==0&&(h==0&&(i==0&&(j==0&&true))))))))))) (λn=>?_) λn=>?_
 ·exact r0 [] [(2,.bool false)] [2] (ao (.bool false) ab.zero (by((try simp only[wK]);(repeat (first | rw[n] | rw[ALct])))<;>rfl) [] [] [])
 exact r0 [(1,.m (ld 0 (i6 3))),(4,.d),(5,.d),(6,.d),(7,.d),(8,.d),(9,.d),(10,.d),(11,.d),(12,.d),(13,.d)] [(2,.bool true)] [2] (ao (.bool true) ab.zero (by((try simp only[wK]);(repeat (first | rw[n] | rw[ALcf])))<;>rfl) [] [] [])
def wL(k j:Int)(d:List UInt8)(m:Nat)(a b c e f g h i:Int):Bool:=(bif !(((k==k&&(j==0&&true))&&decide (d=Zm 64 0))&&((m:Int)==0&&(a==0&&(b==0&&(c==0&&(e==0&&(f==0&&(g==0&&(h==0&&(i==0&&true)))))))))) then false else true)
theorem VX(k l:Int)(d:List UInt8)(m:Nat)(a b e f g h i j:Int)(p:d.length=64)(q:4≤k)(r:k≤7):aa Zl 17 #[.agg (sV k l d m a b e f g h i j)] [] [] N0 (λ_=> .bool (wL k l d m a b e f g h i j)):=by
 refine fG Tryz.func17 λw cs=>ra (λn=>[(1,pt (B0 n) 0),(2,.bool false)]) (λn=>[ob (B0 n) (sV k l d m a b e f g h i j) 50]) λn=>r0 [(1,.m (ld 0 (i6 k))),(2,.t (tk (show Value.bool (decide (k<1))= .bool false from ALca Value.bool (by simp;omega)))),(5,.m (ld 0 (i6 k))),(6,.t (tk (show Value.bool (decide (8<k))= .bool false from ALca Value.bool (by simp;omega)))),(9,.m (ls 0 (sL k l d m a b e f g h i j))),(10,.m (ls 0 (sL k l d m a b e f g h i j))),(11,.c [] [] (VJ k l d m a b e f g h i j (by(simp only[LL,p,p];done)) Om Om)),(12,.t (ig 50 λ_ _ _=>jg (xs:=([i6 k,i6 l]:List Value)++rB 64 d++([u6 (m:Int),i6 a,i6 b,i6 e,i6 f,i6 g,i6 h,i6 i,i6 j]:List Value)) (ys:=([i6 k,i6 0]:List Value)++rB 64 z6++([u6 0,i6 0,i6 0,i6 0,i6 0,i6 0,i6 0,i6 0,i6 0]:List Value)) Kr (fh Kr Kr (fh Kr Kr bc (iP p (show z6.length=64 by rfl))) bc)))] [(16,.bool (!(((k==k&&(l==0&&true))&&decide (d=Zm 64 0))&&((m:Int)==0&&(a==0&&(b==0&&(e==0&&(f==0&&(g==0&&(h==0&&(i==0&&(j==0&&true))))))))))))] [] ?_;refine cB (!(((k==k&&(l==0&&true))&&decide (d=Zm 64 0))&&((m:Int)==0&&(a==0&&(b==0&&(e==0&&(f==0&&(g==0&&(h==0&&(i==0&&(j==0&&true))))))))))) (λo=>?_) λo=>?_
 ·exact r0 [] [(2,.bool false)] [2] (ao (.bool false) ab.zero (by((try simp only[wL]);(repeat (first | rw[o] | rw[ALct])))<;>rfl) [] [] [])
 exact r0 [(1,.m (ld 0 (i6 k))),(2,.t (tk (show Value.bool (k != 8)= .bool true from ALca Value.bool (by rw[bne_iff_ne];omega)))),(4,.d),(5,.d),(6,.d),(7,.d),(8,.d),(9,.d),(10,.d),(11,.d),(12,.d),(13,.d)] [(2,.bool true)] [2] (ao (.bool true) ab.zero (by((try simp only[wL]);(repeat (first | rw[o] | rw[ALcf])))<;>rfl) [] [] [])
def wN(ln:Int)(d:List UInt8)(m:Nat)(a b c e g f h:Int):Bool:=(bif !(((8==8&&(ln==0&&true))&&decide (d=Zm 64 0))&&((m:Int)==0&&(1==1&&(a==a&&(b==b&&(c==c&&(e==e&&(g==0&&(f==f&&(h==0&&true)))))))))) then false else true)
theorem VY(ln:Int)(d:List UInt8)(m:Nat)(a b e f h g i:Int)(l:d.length=64):aa Zl 17 #[.agg (sV 8 ln d m 1 a b e f h g i)] [] [] N0 (λ_=> .bool (wN ln d m a b e f h g i)):=by
 refine fG Tryz.func17 λw cs=>ra (λj=>[(1,pt (B0 j) 0),(2,.bool false)]) (λj=>[ob (B0 j) (sV 8 ln d m 1 a b e f h g i) 50]) λj=>r0 [(1,.m (ld 0 (i6 8))),(5,.m (ld 0 (i6 8))),(9,.m (ls 0 (sL 8 ln d m 1 a b e f h g i))),(10,.m (ls 0 (sL 8 ln d m 1 a b e f h g i))),(11,.c [] [] (VK ln d m a b e f h g i (by(simp only[LL,l,l];done)))),(12,.t (ig 50 λ_ _ _=>jg (xs:=([i6 8,i6 ln]:List Value)++rB 64 d++([u6 (m:Int),i6 1,i6 a,i6 b,i6 e,i6 f,i6 h,i6 g,i6 i]:List Value)) (ys:=([i6 8,i6 0]:List Value)++rB 64 z6++([u6 0,i6 1,i6 a,i6 b,i6 e,i6 f,i6 0,i6 g,i6 0]:List Value)) Kr (fh Kr Kr (fh Kr Kr bc (iP l (show z6.length=64 by rfl))) bc)))] [(16,.bool (!(((8==8&&(ln==0&&true))&&decide (d=Zm 64 0))&&((m:Int)==0&&(1==1&&(a==a&&(b==b&&(e==e&&(f==f&&(h==0&&(g==g&&(i==0&&true))))))))))))] [] ?_;refine cB (!(((8==8&&(ln==0&&true))&&decide (d=Zm 64 0))&&((m:Int)==0&&(1==1&&(a==a&&(b==b&&(e==e&&(f==f&&(h==0&&(g==g&&(i==0&&true))))))))))) (λk=>?_) λk=>?_
 ·exact r0 [] [(2,.bool false)] [2] (ao (.bool false) ab.zero (by((try simp only[wN]);(repeat (first | rw[k] | rw[ALct])))<;>rfl) [] [] [])
 exact r0 [(1,.m (ld 0 (i6 8))),(6,.m (ld 0 (i6 1))),(11,.m (ld 0 (i6 1))),] [(2,.bool true)] [2] (ao (.bool true) ab.zero (by((try simp only[wN]);(repeat (first | rw[k] | rw[ALcf])))<;>rfl) [] [] [])
def wO(ln:Int)(d:List UInt8)(m:Nat)(a b c e h f g:Int):Bool:=(bif !(((8==8&&(ln==0&&true))&&decide (d=Zm 64 0))&&((m:Int)==0&&(2==2&&(a==a&&(b==b&&(c==c&&(e==e&&(h==0&&(f==f&&(g==g&&true)))))))))) then false else true)
theorem VZ(ln:Int)(d:List UInt8)(m:Nat)(a b e f i g h:Int)(l:d.length=64):aa Zl 17 #[.agg (sV 8 ln d m 2 a b e f i g h)] [] [] N0 (λ_=> .bool (wO ln d m a b e f i g h)):=by
 refine fG Tryz.func17 λw cs=>ra (λj=>[(1,pt (B0 j) 0),(2,.bool false)]) (λj=>[ob (B0 j) (sV 8 ln d m 2 a b e f i g h) 50]) λj=>r0 [(1,.m (ld 0 (i6 8))),(5,.m (ld 0 (i6 8))),(9,.m (ls 0 (sL 8 ln d m 2 a b e f i g h))),(10,.m (ls 0 (sL 8 ln d m 2 a b e f i g h))),(11,.c [] [] (VL ln d m a b e f i g h (by(simp only[LL,l,l];done)))),(12,.t (ig 50 λ_ _ _=>jg (xs:=([i6 8,i6 ln]:List Value)++rB 64 d++([u6 (m:Int),i6 2,i6 a,i6 b,i6 e,i6 f,i6 i,i6 g,i6 h]:List Value)) (ys:=([i6 8,i6 0]:List Value)++rB 64 z6++([u6 0,i6 2,i6 a,i6 b,i6 e,i6 f,i6 0,i6 g,i6 h]:List Value)) Kr (fh Kr Kr (fh Kr Kr bc (iP l (show z6.length=64 by rfl))) bc)))] [(16,.bool (!(((8==8&&(ln==0&&true))&&decide (d=Zm 64 0))&&((m:Int)==0&&(2==2&&(a==a&&(b==b&&(e==e&&(f==f&&(i==0&&(g==g&&(h==h&&true))))))))))))] [] ?_;refine cB (!(((8==8&&(ln==0&&true))&&decide (d=Zm 64 0))&&((m:Int)==0&&(2==2&&(a==a&&(b==b&&(e==e&&(f==f&&(i==0&&(g==g&&(h==h&&true))))))))))) (λk=>?_) λk=>?_
 ·exact r0 [] [(2,.bool false)] [2] (ao (.bool false) ab.zero (by((try simp only[wO]);(repeat (first | rw[k] | rw[ALct])))<;>rfl) [] [] [])
 exact r0 [(1,.m (ld 0 (i6 8))),(6,.m (ld 0 (i6 2))),(11,.m (ld 0 (i6 2))),] [(2,.bool true)] [2] (ao (.bool true) ab.zero (by((try simp only[wO]);(repeat (first | rw[k] | rw[ALcf])))<;>rfl) [] [] [])
def wP(ln:Int)(d:List UInt8)(m:Nat)(a b c g e h f:Int):Bool:=(bif !(((8==8&&(ln==0&&true))&&decide (d=Zm 64 0))&&((m:Int)==0&&(3==3&&(a==a&&(b==b&&(c==c&&(g==0&&(e==e&&(h==0&&(f==f&&true)))))))))) then false else true)
theorem V0(ln:Int)(d:List UInt8)(m:Nat)(a b e h f i g:Int)(l:d.length=64):aa Zl 17 #[.agg (sV 8 ln d m 3 a b e h f i g)] [] [] N0 (λ_=> .bool (wP ln d m a b e h f i g)):=by
 refine fG Tryz.func17 λw cs=>ra (λj=>[(1,pt (B0 j) 0),(2,.bool false)]) (λj=>[ob (B0 j) (sV 8 ln d m 3 a b e h f i g) 50]) λj=>r0 [(1,.m (ld 0 (i6 8))),(5,.m (ld 0 (i6 8))),(9,.m (ls 0 (sL 8 ln d m 3 a b e h f i g))),(10,.m (ls 0 (sL 8 ln d m 3 a b e h f i g))),(11,.c [] [] (VM ln d m a b e h f i g (by(simp only[LL,l,l];done)))),(12,.t (ig 50 λ_ _ _=>jg (xs:=([i6 8,i6 ln]:List Value)++rB 64 d++([u6 (m:Int),i6 3,i6 a,i6 b,i6 e,i6 h,i6 f,i6 i,i6 g]:List Value)) (ys:=([i6 8,i6 0]:List Value)++rB 64 z6++([u6 0,i6 3,i6 a,i6 b,i6 e,i6 0,i6 f,i6 0,i6 g]:List Value)) Kr (fh Kr Kr (fh Kr Kr bc (iP l (show z6.length=64 by rfl))) bc)))] [(16,.bool (!(((8==8&&(ln==0&&true))&&decide (d=Zm 64 0))&&((m:Int)==0&&(3==3&&(a==a&&(b==b&&(e==e&&(h==0&&(f==f&&(i==0&&(g==g&&true))))))))))))] [] ?_;refine cB (!(((8==8&&(ln==0&&true))&&decide (d=Zm 64 0))&&((m:Int)==0&&(3==3&&(a==a&&(b==b&&(e==e&&(h==0&&(f==f&&(i==0&&(g==g&&true))))))))))) (λk=>?_) λk=>?_
 ·exact r0 [] [(2,.bool false)] [2] (ao (.bool false) ab.zero (by((try simp only[wP]);(repeat (first | rw[k] | rw[ALct])))<;>rfl) [] [] [])
 exact r0 [(1,.m (ld 0 (i6 8))),(6,.m (ld 0 (i6 3))),(11,.m (ld 0 (i6 3))),] [(2,.bool true)] [2] (ao (.bool true) ab.zero (by((try simp only[wP]);(repeat (first | rw[k] | rw[ALcf])))<;>rfl) [] [] [])
def wQ(ln:Int)(d:List UInt8)(m:Nat)(a b g c e h f:Int):Bool:=(bif !(((8==8&&(ln==0&&true))&&decide (d=Zm 64 0))&&((m:Int)==0&&(4==4&&(a==a&&(b==b&&(g==0&&(c==c&&(e==e&&(h==0&&(f==f&&true)))))))))) then false else true)
theorem V1(ln:Int)(d:List UInt8)(m:Nat)(a b h e f i g:Int)(l:d.length=64):aa Zl 17 #[.agg (sV 8 ln d m 4 a b h e f i g)] [] [] N0 (λ_=> .bool (wQ ln d m a b h e f i g)):=by
 refine fG Tryz.func17 λw cs=>ra (λj=>[(1,pt (B0 j) 0),(2,.bool false)]) (λj=>[ob (B0 j) (sV 8 ln d m 4 a b h e f i g) 50]) λj=>r0 [(1,.m (ld 0 (i6 8))),(5,.m (ld 0 (i6 8))),(9,.m (ls 0 (sL 8 ln d m 4 a b h e f i g))),(10,.m (ls 0 (sL 8 ln d m 4 a b h e f i g))),(11,.c [] [] (VN ln d m a b h e f i g (by(simp only[LL,l,l];done)))),(12,.t (ig 50 λ_ _ _=>jg (xs:=([i6 8,i6 ln]:List Value)++rB 64 d++([u6 (m:Int),i6 4,i6 a,i6 b,i6 h,i6 e,i6 f,i6 i,i6 g]:List Value)) (ys:=([i6 8,i6 0]:List Value)++rB 64 z6++([u6 0,i6 4,i6 a,i6 b,i6 0,i6 e,i6 f,i6 0,i6 g]:List Value)) Kr (fh Kr Kr (fh Kr Kr bc (iP l (show z6.length=64 by rfl))) bc)))] [(16,.bool (!(((8==8&&(ln==0&&true))&&decide (d=Zm 64 0))&&((m:Int)==0&&(4==4&&(a==a&&(b==b&&(h==0&&(e==e&&(f==f&&(i==0&&(g==g&&true))))))))))))] [] ?_;refine cB (!(((8==8&&(ln==0&&true))&&decide (d=Zm 64 0))&&((m:Int)==0&&(4==4&&(a==a&&(b==b&&(h==0&&(e==e&&(f==f&&(i==0&&(g==g&&true))))))))))) (λk=>?_) λk=>?_
 ·exact r0 [] [(2,.bool false)] [2] (ao (.bool false) ab.zero (by((try simp only[wQ]);(repeat (first | rw[k] | rw[ALct])))<;>rfl) [] [] [])
 exact r0 [(1,.m (ld 0 (i6 8))),(6,.m (ld 0 (i6 4))),(11,.m (ld 0 (i6 4))),] [(2,.bool true)] [2] (ao (.bool true) ab.zero (by((try simp only[wQ]);(repeat (first | rw[k] | rw[ALcf])))<;>rfl) [] [] [])
def wR(ln:Int)(d:List UInt8)(m:Nat)(a e f g b h c:Int):Bool:=(bif !(((8==8&&(ln==0&&true))&&decide (d=Zm 64 0))&&((m:Int)==0&&(5==5&&(a==a&&(e==0&&(f==0&&(g==0&&(b==b&&(h==0&&(c==c&&true)))))))))) then false else true)
theorem V2(ln:Int)(d:List UInt8)(m:Nat)(a f g h b i e:Int)(l:d.length=64):aa Zl 17 #[.agg (sV 8 ln d m 5 a f g h b i e)] [] [] N0 (λ_=> .bool (wR ln d m a f g h b i e)):=by
 refine fG Tryz.func17 λw cs=>ra (λj=>[(1,pt (B0 j) 0),(2,.bool false)]) (λj=>[ob (B0 j) (sV 8 ln d m 5 a f g h b i e) 50]) λj=>r0 [(1,.m (ld 0 (i6 8))),(5,.m (ld 0 (i6 8))),(9,.m (ls 0 (sL 8 ln d m 5 a f g h b i e))),(10,.m (ls 0 (sL 8 ln d m 5 a f g h b i e))),(11,.c [] [] (VO ln d m a f g h b i e (by(simp only[LL,l,l];done)))),(12,.t (ig 50 λ_ _ _=>jg (xs:=([i6 8,i6 ln]:List Value)++rB 64 d++([u6 (m:Int),i6 5,i6 a,i6 f,i6 g,i6 h,i6 b,i6 i,i6 e]:List Value)) (ys:=([i6 8,i6 0]:List Value)++rB 64 z6++([u6 0,i6 5,i6 a,i6 0,i6 0,i6 0,i6 b,i6 0,i6 e]:List Value)) Kr (fh Kr Kr (fh Kr Kr bc (iP l (show z6.length=64 by rfl))) bc)))] [(16,.bool (!(((8==8&&(ln==0&&true))&&decide (d=Zm 64 0))&&((m:Int)==0&&(5==5&&(a==a&&(f==0&&(g==0&&(h==0&&(b==b&&(i==0&&(e==e&&true))))))))))))] [] ?_;refine cB (!(((8==8&&(ln==0&&true))&&decide (d=Zm 64 0))&&((m:Int)==0&&(5==5&&(a==a&&(f==0&&(g==0&&(h==0&&(b==b&&(i==0&&(e==e&&true))))))))))) (λk=>?_) λk=>?_
 ·exact r0 [] [(2,.bool false)] [2] (ao (.bool false) ab.zero (by((try simp only[wR]);(repeat (first | rw[k] | rw[ALct])))<;>rfl) [] [] [])
 exact r0 [(1,.m (ld 0 (i6 8))),(6,.m (ld 0 (i6 5))),(11,.m (ld 0 (i6 5))),] [(2,.bool true)] [2] (ao (.bool true) ab.zero (by((try simp only[wR]);(repeat (first | rw[k] | rw[ALcf])))<;>rfl) [] [] [])
def wS(ln:Int)(d:List UInt8)(m:Nat)(a b c e f g h:Int):Bool:=(bif !(((8==8&&(ln==0&&true))&&decide (d=Zm 64 0))&&((m:Int)==0&&(6==6&&(a==a&&(b==b&&(c==c&&(e==e&&(f==0&&(g==0&&(h==0&&true)))))))))) then false else true)
theorem V3(ln:Int)(d:List UInt8)(m:Nat)(a b e f g h i:Int)(l:d.length=64):aa Zl 17 #[.agg (sV 8 ln d m 6 a b e f g h i)] [] [] N0 (λ_=> .bool (wS ln d m a b e f g h i)):=by
 refine fG Tryz.func17 λw cs=>ra (λj=>[(1,pt (B0 j) 0),(2,.bool false)]) (λj=>[ob (B0 j) (sV 8 ln d m 6 a b e f g h i) 50]) λj=>r0 [(1,.m (ld 0 (i6 8))),(5,.m (ld 0 (i6 8))),(9,.m (ls 0 (sL 8 ln d m 6 a b e f g h i))),(10,.m (ls 0 (sL 8 ln d m 6 a b e f g h i))),(11,.c [] [] (VP ln d m a b e f g h i (by(simp only[LL,l,l];done)))),(12,.t (ig 50 λ_ _ _=>jg (xs:=([i6 8,i6 ln]:List Value)++rB 64 d++([u6 (m:Int),i6 6,i6 a,i6 b,i6 e,i6 f,i6 g,i6 h,i6 i]:List Value)) (ys:=([i6 8,i6 0]:List Value)++rB 64 z6++([u6 0,i6 6,i6 a,i6 b,i6 e,i6 f,i6 0,i6 0,i6 0]:List Value)) Kr (fh Kr Kr (fh Kr Kr bc (iP l (show z6.length=64 by rfl))) bc)))] [(16,.bool (!(((8==8&&(ln==0&&true))&&decide (d=Zm 64 0))&&((m:Int)==0&&(6==6&&(a==a&&(b==b&&(e==e&&(f==f&&(g==0&&(h==0&&(i==0&&true))))))))))))] [] ?_;refine cB (!(((8==8&&(ln==0&&true))&&decide (d=Zm 64 0))&&((m:Int)==0&&(6==6&&(a==a&&(b==b&&(e==e&&(f==f&&(g==0&&(h==0&&(i==0&&true))))))))))) (λk=>?_) λk=>?_
 ·exact r0 [] [(2,.bool false)] [2] (ao (.bool false) ab.zero (by((try simp only[wS]);(repeat (first | rw[k] | rw[ALct])))<;>rfl) [] [] [])
 exact r0 [(1,.m (ld 0 (i6 8))),(6,.m (ld 0 (i6 6))),(11,.m (ld 0 (i6 6))),] [(2,.bool true)] [2] (ao (.bool true) ab.zero (by((try simp only[wS]);(repeat (first | rw[k] | rw[ALcf])))<;>rfl) [] [] [])
def wT(ln:Int)(d:List UInt8)(m:Nat)(a b c e f g h:Int):Bool:=(bif !(((8==8&&(ln==0&&true))&&decide (d=Zm 64 0))&&((m:Int)==0&&(7==7&&(a==0&&(b==0&&(c==0&&(e==0&&(f==0&&(g==0&&(h==0&&true)))))))))) then false else true)
theorem V4(ln:Int)(d:List UInt8)(m:Nat)(a b e f g h i:Int)(l:d.length=64):aa Zl 17 #[.agg (sV 8 ln d m 7 a b e f g h i)] [] [] N0 (λ_=> .bool (wT ln d m a b e f g h i)):=by
 refine fG Tryz.func17 λw cs=>ra (λj=>[(1,pt (B0 j) 0),(2,.bool false)]) (λj=>[ob (B0 j) (sV 8 ln d m 7 a b e f g h i) 50]) λj=>r0 [(1,.m (ld 0 (i6 8))),(5,.m (ld 0 (i6 8))),(9,.m (ls 0 (sL 8 ln d m 7 a b e f g h i))),(10,.m (ls 0 (sL 8 ln d m 7 a b e f g h i))),(11,.c [] [] (VQ ln d m a b e f g h i (by(simp only[LL,l,l];done)))),(12,.t (ig 50 λ_ _ _=>jg (xs:=([i6 8,i6 ln]:List Value)++rB 64 d++([u6 (m:Int),i6 7,i6 a,i6 b,i6 e,i6 f,i6 g,i6 h,i6 i]:List Value)) (ys:=([i6 8,i6 0]:List Value)++rB 64 z6++([u6 0,i6 7,i6 0,i6 0,i6 0,i6 0,i6 0,i6 0,i6 0]:List Value)) Kr (fh Kr Kr (fh Kr Kr bc (iP l (show z6.length=64 by rfl))) bc)))] [(16,.bool (!(((8==8&&(ln==0&&true))&&decide (d=Zm 64 0))&&((m:Int)==0&&(7==7&&(a==0&&(b==0&&(e==0&&(f==0&&(g==0&&(h==0&&(i==0&&true))))))))))))] [] ?_;refine cB (!(((8==8&&(ln==0&&true))&&decide (d=Zm 64 0))&&((m:Int)==0&&(7==7&&(a==0&&(b==0&&(e==0&&(f==0&&(g==0&&(h==0&&(i==0&&true))))))))))) (λk=>?_) λk=>?_
 ·exact r0 [] [(2,.bool false)] [2] (ao (.bool false) ab.zero (by((try simp only[wT]);(repeat (first | rw[k] | rw[ALct])))<;>rfl) [] [] [])
 exact r0 [(1,.m (ld 0 (i6 8))),(6,.m (ld 0 (i6 7))),(11,.m (ld 0 (i6 7))),] [(2,.bool true)] [2] (ao (.bool true) ab.zero (by((try simp only[wT]);(repeat (first | rw[k] | rw[ALcf])))<;>rfl) [] [] [])
def wU(ln:Int)(d:List UInt8)(m:Nat)(a b c e f g h i:Int):Bool:=(bif !(((8==8&&(ln==0&&true))&&decide (d=Zm 64 0))&&((m:Int)==0&&(a==a&&(b==0&&(c==0&&(e==0&&(f==0&&(g==0&&(h==0&&(i==0&&true)))))))))) then false else(decide (1≤a))&&(decide (a≤7)))
theorem V5(ln:Int)(d:List UInt8)(m:Nat)(a b e f g h i j:Int)(n:d.length=64)(o:a<1∨7<a):aa Zl 17 #[.agg (sV 8 ln d m a b e f g h i j)] [] [] N0 (λ_=> .bool (wU ln d m a b e f g h i j)):=by
 refine fG Tryz.func17 λw cs=>ra (λk=>[(1,pt (B0 k) 0),(2,.bool false)]) (λk=>[ob (B0 k) (sV 8 ln d m a b e f g h i j) 50]) λk=>r0 [(1,.m (ld 0 (i6 8))),(5,.m (ld 0 (i6 8))),(9,.m (ls 0 (sL 8 ln d m a b e f g h i j))),(10,.m (ls 0 (sL 8 ln d m a b e f g h i j))),(11,.c [] [] (VR ln d m a b e f g h i j (by(simp only[LL,n,n];done)) Om)),(12,.t (ig 50 λ_ _ _=>jg (xs:=([i6 8,i6 ln]:List Value)++rB 64 d++([u6 (m:Int),i6 a,i6 b,i6 e,i6 f,i6 g,i6 h,i6 i,i6 j]:List Value)) (ys:=([i6 8,i6 0]:List Value)++rB 64 z6++([u6 0,i6 a,i6 0,i6 0,i6 0,i6 0,i6 0,i6 0,i6 0]:List Value)) Kr (fh Kr Kr (fh Kr Kr bc (iP n (show z6.length=64 by rfl))) bc)))] [(16,.bool (!(((8==8&&(ln==0&&true))&&decide (d=Zm 64 0))&&((m:Int)==0&&(a==a&&(b==0&&(e==0&&(f==0&&(g==0&&(h==0&&(i==0&&(j==0&&true))))))))))))] [] ?_;refine cB (!(((8==8&&(ln==0&&true))&&decide (d=Zm 64 0))&&((m:Int)==0&&(a==a&&(b==0&&(e==0&&(f==0&&(g==0&&(h==0&&(i==0&&(j==0&&true))))))))))) (λl=>?_) λl=>?_
 ·exact r0 [] [(2,.bool false)] [2] (ao (.bool false) ab.zero (by((try simp only[wU]);(repeat (first | rw[l] | rw[ALct])))<;>rfl) [] [] [])
 exact r0 [(1,.m (ld 0 (i6 8))),(6,.m (ld 0 (i6 a))),(11,.m (ld 0 (i6 a))),] [(2,.bool ((decide (1≤a))&&(decide (a≤7))))] [2] (ao (.bool ((decide (1≤a))&&(decide (a≤7)))) ab.zero (by((try simp only[wU]);(repeat (first | rw[l] | rw[ALcf])))<;>rfl) [] [] [])
def ew(k j:Int)(d:List UInt8)(m:Nat)(a b c e f g h i:Int):Bool:=
 if k<1 then false else if 8<k then false else if k=1 then wI j d m a b c e f g h i else if k=2 then wJ j m a b c e f g h i else if k=3 then wK j m a b c e f g h i else if k≤7 then wL k j d m a b c e f g h i else if a=1 then wN j d m b c e f g h i else if a=2 then wO j d m b c e f g h i else if a=3 then wP j d m b c e f g h i else if a=4 then wQ j d m b c e f g h i else if a=5 then wR j d m b c e f g h i else if a=6 then wS j d m b c e f g h i else if a=7 then wT j d m b c e f g h i else wU j d m a b c e f g h i
def sR(s:St):Bool:=ew s.k s.ln s.d s.m s.f0 s.f1 s.f2 s.f3 s.f4 s.f5 s.f6 s.f7
theorem V6{s:St}(h:sR s=true):1≤s.k∧s.k≤8:=by
 unfold sR ew at h;by_cases a:s.k<1
 ·rw[ALifp a] at h;cases h
 ·rw[ALifn a] at h;by_cases b:8<s.k
  ·rw[ALifp b] at h;cases h
  ·omega
theorem ku(k j:Int)(d:List UInt8)(m:Nat)(a b c e f g h i:Int)(l:d.length=64):aa Zl 17 #[.agg ([i6 k,i6 j]++rB 64 d++[u6 (m:Int),i6 a,i6 b,i6 c,i6 e,i6 f,i6 g,i6 h,i6 i]).toArray] [] [] N0 (λ_=> .bool (ew k j d m a b c e f g h i)):=by
 unfold ew;by_cases n:k<1
 ·rw[ALifp n];exact VS k j d m a b c e f g h i l n
 rw[ALifn n];by_cases o:8<k
 ·rw[ALifp o];exact VT k j d m a b c e f g h i l o
 rw[ALifn o];by_cases x:k=1
 ·subst x;rw[ALifp rfl];exact VU j d m a b c e f g h i l
 rw[ALifn x];by_cases y:k=2
 ·subst y;rw[ALifp rfl];exact VV j d m a b c e f g h i l
 rw[ALifn y];by_cases z:k=3
 ·subst z;rw[ALifp rfl];exact VW j d m a b c e f g h i l
 rw[ALifn z];by_cases p:k≤7
 ·rw[ALifp p];exact VX k j d m a b c e f g h i l Om p
 rw[ALifn p];obtain rfl:k=8:=by omega
 by_cases q:a=1
 ·subst q;rw[ALifp rfl];exact VY j d m b c e f g h i l
 rw[ALifn q];by_cases r:a=2
 ·subst r;rw[ALifp rfl];exact VZ j d m b c e f g h i l
 rw[ALifn r];by_cases s:a=3
 ·subst s;rw[ALifp rfl];exact V0 j d m b c e f g h i l
 rw[ALifn s];by_cases t:a=4
 ·subst t;rw[ALifp rfl];exact V1 j d m b c e f g h i l
 rw[ALifn t];by_cases u:a=5
 ·subst u;rw[ALifp rfl];exact V2 j d m b c e f g h i l
 rw[ALifn u];by_cases v:a=6
 ·subst v;rw[ALifp rfl];exact V3 j d m b c e f g h i l
 rw[ALifn v];by_cases w:a=7
 ·subst w;rw[ALifp rfl];exact V4 j d m b c e f g h i l
 rw[ALifn w];exact V5 j d m a b c e f g h i l Om
theorem tH{α:Type}{en:α→List Value}{d:α}{A C:List Value}{a off m:Nat}{ys:List α}{t:TypeId}(h1: ∀x,(en x).length=1)(hA:A.length=off)(h:ys.length=m):aK en (.slice (some ⟨a,off,none⟩) m m) ys [(a,.cells ((A++cN en d m ys++C).toArray) t (0,0))]:=by
 have e:((A++cN en d m ys++C).drop off).take (ak en ys).length=ak en ys:=by rw[kX h,ZF,←hA,List.drop_left,List.take_left]
 exact⟨.inr ⟨a,off,_,t,(0,0),m,by rw[h],List.mem_singleton.2 rfl,e⟩,some ⟨a,off,none⟩,0,by rw[h];rfl⟩
theorem tI{P:Program}{T:TypeId}{w:World}{g off s N:Nat}(a:(P.underlying T,P.arrayLen T,jf P (P.elem T))=(some (.array N (P.elem T)),N,some s))(c:0<N):(Instr.sliceAt T (.pointer (some ⟨g,off,none⟩)) none none none).run P w= .ok (.slice (some ⟨g,off,none⟩) N N) w:=by
 have b:P.arrayLen T=N:=ALca (·.2.1) a;rw[run_sliceAt_array_all w T ⟨g,off,none⟩ (by rw[b];exact ALca (·.1) a),nX (ALca (·.2.2) a),aad];unfold slicedAt;rw[b,add_lit,Z1,ALifn Om];rfl
structure Ij where
 x0:Int
 x1:Int
 x2:Int
 x3:Int
 x4:Int
 x5:Int
 x6:Int
 x7:Int
 sc:Nat
 ac:Nat
def V7:Ij:=⟨0,0,0,0,0,0,0,0,0,0⟩
def Hp(x:Ij):List Value:=[i6 x.x0,i6 x.x1,i6 x.x2,i6 x.x3,i6 x.x4,i6 x.x5,i6 x.x6,i6 x.x7,iN x.sc,iN x.ac]
def V8:Kd Zl Ij:=⟨Hp,[i6 0,i6 0,i6 0,i6 0,i6 0,i6 0,i6 0,i6 0,i6 0,i6 0],111,187,V7,10,λ_=>rfl,rfl,λ_=>rfl,ec.mk' Kr Kr rfl⟩
abbrev gp(v:Value)(xs:List Ij):aB:= .p (ar Hp ([i6 0,i6 0,i6 0,i6 0,i6 0,i6 0,i6 0,i6 0,i6 0,i6 0]) 187 v xs)
structure Sv where
 k:Int
 ln:Int
 d:List UInt8
 m:Nat
 f0:Int
 f1:Int
 f2:Int
 f3:Int
 f4:Int
 f5:Int
 f6:Int
 f7:Int
 e:Int
 n:Int
 l:List UInt8
 w:List UInt8
 fi:Nat
 la:Nat
def aX:Sv:=⟨0,0,Zm 64 0,0,0,0,0,0,0,0,0,0,0,0,Zm 64 0,Zm 64 0,0,0⟩
def qX(x:Sv):List Value:=[i6 x.k,i6 x.ln]++rB 64 x.d++[u6 (x.m:Int),i6 x.f0,i6 x.f1,i6 x.f2,i6 x.f3,i6 x.f4,i6 x.f5,i6 x.f6,i6 x.f7,i6 x.e,i6 x.n]++rB 64 x.l++rB 64 x.w++[iN x.fi,iN x.la]
def wV:Kd Zl Sv:=⟨qX,[i6 0,i6 0]++Zm 64 (u1 0)++[u6 0,i6 0,i6 0,i6 0,i6 0,i6 0,i6 0,i6 0,i6 0,i6 0,i6 0]++Zm 64 (u1 0)++Zm 64 (u1 0)++[i6 0,i6 0],112,149,aX,207,λ_=>rfl,rfl,λ_=>rfl,ec.mk' Kr Kr rfl⟩
abbrev c6(v:Value)(xs:List Sv):aB:= .p (ar qX ([i6 0,i6 0]++Zm 64 (u1 0)++[u6 0,i6 0,i6 0,i6 0,i6 0,i6 0,i6 0,i6 0,i6 0,i6 0,i6 0]++Zm 64 (u1 0)++Zm 64 (u1 0)++[i6 0,i6 0]) 149 v xs)
structure Mc where
 x:Ct
 id:Int→List UInt8
 inj:List Ij
 sv:List Sv
 sc:Nat
 st:Nat
def pM:List UInt8:=Zm 64 0
def wW(r:List UInt8):Value:= .agg (rB 64 r).toArray
abbrev cV(f:Int→List UInt8)(g:Nat):aB:= .p (l0 wW pM f g)
abbrev a7(g a i m j l h n f b e k:Nat)(c:Cf)(x:Mc)(L:aj):Prop:=∃(gi:Nat) (d vs:Value),L=[ob g #[pt b 0,pt a 0,.map (some gi),d,vs,iN x.sc,iN x.st] 114,pk (aV a i m j l h n f b e k c x.x),cV x.id gi,gp d x.inj,c6 vs x.sv]
structure dF (c:Cf) (x:Mc) (K A N:Nat):Prop where
 ct:ba c x.x K A
 il: ∀k,(x.id k).length=64
 jl:x.inj.length≤N
 sl:x.sv.length≤N
 sc:x.sc≤N
 st:x.st≤N
theorem lN(d h l i k g m f a b j:Nat)(c:Cf)(x:Ct):aa Zl 42 #[pt a 0] [pk (aV d h l i k g m f a b j c x)] [0] (λ_=>[pk (aV d h l i k g m f a b j c x)]) (λ_=>iN x.V.l.length):=
 aa.inW (UM a b c x.V) λL ⟨v,e⟩=>⟨6,by rw[e];rfl,v,by rw[e];rfl⟩
theorem V9(g j n k m i o h a b l:Nat)(c:Cf)(x:Ct)(d:b6 c)(p:nE c x.V)(f:Fa):aa Zl 90 #[pt a 0,.agg #[i6 f.x0,i6 f.x1,i6 f.x2,i6 f.x3,i6 f.x4,i6 f.x5,i6 f.x6,i6 f.x7]] [pk (aV g j n k m i o h a b l c x)] [0] (λ_=>[pk (aV g j n k m i o h a b l c {x with V:=nG c x.V f})]) (λ_=>i6 (ia c x.V.D f)):=
 aa.inW (UN a b c d x.V p f) λL ⟨v,e⟩=>⟨6,by rw[e];rfl,v,by rw[e];rfl⟩
theorem Hq(v:Nat):cb v≠30:=by unfold cb;cases (v:Int)==3<;>cases (v:Int)==2<;>decide
theorem Hr(c:Cf)(x:Ct)(n m:Nat)(a:m≠0):cc c x n m≠30:=by
 unfold cc;rw[show((m:Int)==0)=false from db.2 Om];cases decide (pc m=64)
 ·cases hv: !(cb (bC c x (aA x n))==0)
  ·show(0:Int)≠30;decide
  ·exact Hq _
 ·show(0:Int)≠30;decide
def Ht(s:St)(e:Int)(l w:List UInt8)(a b:Nat):Sv:=⟨s.k,s.ln,s.d,s.m,s.f0,s.f1,s.f2,s.f3,s.f4,s.f5,s.f6,s.f7,e,0,l,w,a,b⟩
def Hu(c:Cf)(x:Mc)(n:Nat)(s:St):Mc:={x with x:=cy c x.x n c.W,sv:=x.sv++[Ht s (cb (bC c x.x (aA x.x n))) (cx c x.x (aA x.x n)) (x.id (n:Int)) x.x.V.l.length (cy c x.x n c.W).V.l.length]}
def qY(c:Cf)(x:Mc)(n m:Nat)(s:St):Mc:={x with x:=bE c x.x n s.d m,id:=b3 x.id (n:Int) (fI (x.id (n:Int)) s.d m),sv:=x.sv++[Ht s (cc c x.x n m) z6 (x.id (n:Int)) x.x.V.l.length (bE c x.x n s.d m).V.l.length]}
theorem Wb(g q D I F H C J B r z G:Nat)(c:Cf)(y:Ct)(K A:Nat)(h:ba c y K A)(hA:A≤700000)(O:K+3≤1000000000)(n:Nat)(R:n<((c.R*c.B*c.M-c.res)*c.C))(d:List UInt8)(T:d.length=64)(m:Nat)(a b e f i j o p:Int)(id:Int→List UInt8)(Q: ∀k,(id k).length=64)(sv:List Sv)(S:sv.length≤1000)(sc st u:Nat)(N vs:Value):aa Zl 54 #[pt g 0,.agg (sV 1 (n:Int) d m a b e f i j o p)] [ob g #[pt r 0,pt q 0,.map (some u),N,vs,iN sc,iN st] 114,pk (aV q D I F H C J B r z G c y),cV id u,c6 vs sv] [0,1,2,3] (λE=>[ob g #[pt r 0,pt q 0,.map (some u),N,(E.val 0),iN sc,iN st] 114,pk (aV q D I F H C J B r z G c (cy c y n c.W)),cV id u,c6 (E.val 0) (sv++([(⟨1,(n:Int),d,m,a,b,e,f,i,j,o,p,(cb (bC c y (aA y n))),0,cx c y (aA y n),(id (n:Int)),y.V.l.length,(cy c y n c.W).V.l.length⟩:Sv)]))]) (λ_=> .agg (([i6 (cb (bC c y (aA y n))),i6 0]:List Value)++rB 64 (cx c y (aA y n))).toArray):=by
 have P:=h.cf;exact fG Tryz.func54 λw cs=>ra (λx=>[(3,pt (B0 x) 0),(4,pt (B1 x) 0)]) (λx=>[ob (B0 x) (sV 1 (n:Int) d m a b e f i j o p) 50,ob (B1 x) (([i6 0,i6 0]:List Value)++rB 64 z6).toArray 53]) λx=>rr (λ_=>[(0,.m (ls 4 (sL 1 (n:Int) d m a b e f i j o p))),(4,.m (ld 0 (.map (some u)))),(6,.m (ld 4 (iN n))),(7,.m (mg 2 (cV id u) u (n:Int) (λ_ h=>h))),(11,.m (ld 0 (pt r 0))),(12,.c [1] [1] (lN q D I F H C J B r z G c y)),(14,.m (al 6)),(15,.s 6)]) (λM=>[(5,pt ((M 14).y 0) 0)]) [] (λM L=>L++[ob ((M 14).y 0) (([i6 1,iN n]:List Value)++rB 64 d++([u6 (m:Int),i6 a,i6 b,i6 e,i6 f,i6 i,i6 j,i6 o,i6 p,i6 0,i6 0]:List Value)++rB 64 z6++rB 64 (id (n:Int))++([iN y.V.l.length,i6 0]:List Value)).toArray 149]) λM=>r0 [(1,.l 4)] [(21,i6 1)] [] (rT [] 35 (rr (λ_=>[(3,.m (ld 0 (pt q 0))),(5,.m (ld 4 (iN n))),(6,.c [1] [1] (Vm q D I F H C J B r z G c y _ _ h hA O n R)),(12,.s 6),(15,.s 6)]) N0 [] (λ_ L=>(L.set 1 ((pk (aV q D I F H C J B r z G c (cy c y n c.W))))).set 6 (ob ((M 14).y 0) (([i6 1,iN n]:List Value)++rB 64 d++([u6 (m:Int),i6 a,i6 b,i6 e,i6 f,i6 i,i6 j,i6 o,i6 p,i6 (cb (bC c y (aA y n))),i6 0]:List Value)++rB 64 (cx c y (aA y n))++rB 64 (id (n:Int))++([iN y.V.l.length,i6 0]:List Value)).toArray 149)) λU=>rF [(2,.l 6),(3,.t (tk (show Value.bool ((cb (bC c y (aA y n)))==30)= .bool false from ALca Value.bool (by exact db.2 (Hq _)))))] 68 (rF [(1,.l 4)] 73 (rs [(3,.l 0),(4,.c [1] [1] (lN q D I F H C J B r z G c (cy c y n c.W))),(6,.s 6)] 6 (ob ((M 14).y 0) (([i6 1,iN n]:List Value)++rB 64 d++([u6 (m:Int),i6 a,i6 b,i6 e,i6 f,i6 i,i6 j,i6 o,i6 p,i6 (cb (bC c y (aA y n))),i6 0]:List Value)++rB 64 (cx c y (aA y n))++rB 64 (id (n:Int))++([iN y.V.l.length,i6 (((cy c y n c.W).V.l.length:Nat):Int)]:List Value)).toArray 149) (rr (λv=>[(4,.l 0),(5,.l 6),(6,.m (bs 7 1)),(7,fC wV (vs) sv 3 7 ([(⟨1,(n:Int),d,m,a,b,e,f,i,j,o,p,(cb (bC c y (aA y n))),0,cx c y (aA y n),(id (n:Int)),y.V.l.length,(cy c y n c.W).V.l.length⟩:Sv)])),(10,.m (fS 0 3 (c6 ((v 7).val 0) (sv++([(⟨1,(n:Int),d,m,a,b,e,f,i,j,o,p,(cb (bC c y (aA y n))),0,cx c y (aA y n),(id (n:Int)),y.V.l.length,(cy c y n c.W).V.l.length⟩:Sv)]))) ((v 7).val 0) λbs h=>ar.one ((λ_ h=>h) bs h)))]) N0 [] (λv L=>(L.set 0 (ob g #[pt r 0,pt q 0,.map (some u),N,(v 7).val 0,iN sc,iN st] 114)).set 3 (c6 ((v 7).val 0) (sv++([(⟨1,(n:Int),d,m,a,b,e,f,i,j,o,p,(cb (bC c y (aA y n))),0,cx c y (aA y n),(id (n:Int)),y.V.l.length,(cy c y n c.W).V.l.length⟩:Sv)])))++[ob (B6 v) (([i6 1,iN n]:List Value)++rB 64 d++([u6 (m:Int),i6 a,i6 b,i6 e,i6 f,i6 i,i6 j,i6 o,i6 p,i6 (cb (bC c y (aA y n))),i6 0]:List Value)++rB 64 (cx c y (aA y n))++rB 64 (id (n:Int))++([iN y.V.l.length,i6 (((cy c y n c.W).V.l.length:Nat):Int)]:List Value)).toArray 149]) λv=>rs [(1,.l 6),(2,.s 5)] 5 (ob (B1 x) (([i6 (cb (bC c y (aA y n))),i6 0]:List Value)++rB 64 (cx c y (aA y n))).toArray 53) (lf (.l [] [] [(v 7).val 0]) [0,1,2,3] [] [5]))))))
theorem Wc(g a C H D G B I z b x F:Nat)(c:Cf)(y:Ct)(K A:Nat)(h:ba c y K A)(hA:A≤700000)(Q:K+3≤1000000000)(n:Int)(O:bL n ((((c.R*c.B*c.M-c.res)*c.C):Nat):Int)=false)(d:List UInt8)(R:d.length=64)(m:Nat)(i j o p q r t u:Int)(id:Int→List UInt8)(N: ∀k,(id k).length=64)(sv:List Sv)(P:sv.length≤1000)(sc st e:Nat)(J vs:Value):aa Zl 54 #[pt g 0,.agg (sV 1 n d m i j o p q r t u)] [ob g #[pt b 0,pt a 0,.map (some e),J,vs,iN sc,iN st] 114,pk (aV a C H D G B I z b x F c y),cV id e,c6 vs sv] [0,1,2,3] (λ_=>[ob g #[pt b 0,pt a 0,.map (some e),J,vs,iN sc,iN st] 114,pk (aV a C H D G B I z b x F c y),cV id e,c6 vs sv]) (λ_=> .agg (([i6 30,i6 0]:List Value)++rB 64 z6).toArray):=by
 have M:=h.cf;exact fG Tryz.func54 λw cs=>ra (λf=>[(3,pt (B0 f) 0),(4,pt (B1 f) 0)]) (λf=>[ob (B0 f) (sV 1 n d m i j o p q r t u) 50,ob (B1 f) (([i6 0,i6 0]:List Value)++rB 64 z6).toArray 53]) λf=>rr (λ_=>[(0,.m (ls 4 (sL 1 n d m i j o p q r t u))),(4,.m (ld 0 (.map (some e)))),(6,.m (ld 4 (i6 n))),(7,.m (mg 2 (cV id e) e n (λ_ h=>h))),(11,.m (ld 0 (pt b 0))),(12,.c [1] [1] (lN a C H D G B I z b x F c y)),(14,.m (al 6)),(15,.s 6)]) (λv=>[(5,pt ((v 14).y 0) 0)]) [] (λv L=>L++[ob ((v 14).y 0) (([i6 1,i6 n]:List Value)++rB 64 d++([u6 (m:Int),i6 i,i6 j,i6 o,i6 p,i6 q,i6 r,i6 t,i6 u,i6 0,i6 0]:List Value)++rB 64 z6++rB 64 (id n)++([iN y.V.l.length,i6 0]:List Value)).toArray 149]) λv=>r0 [(1,.l 4)] [(21,i6 1)] [] (rT [] 35 (rs [(3,.m (ld 0 (pt a 0))),(5,.m (ld 4 (i6 n))),(6,.c [1] [1] (Vo a C H D G B I z b x F c y _ _ h n O)),(12,.s 6),(15,.s 6)] 6 (ob ((v 14).y 0) (([i6 1,i6 n]:List Value)++rB 64 d++([u6 (m:Int),i6 i,i6 j,i6 o,i6 p,i6 q,i6 r,i6 t,i6 u,i6 30,i6 0]:List Value)++rB 64 z6++rB 64 (id n)++([iN y.V.l.length,i6 0]:List Value)).toArray 149) (rT [(2,.l 6)] 68 (rs [(1,.l 6),(2,.s 5)] 5 (ob (B1 f) (([i6 30,i6 0]:List Value)++rB 64 z6).toArray 53) (lf ab.zero [0,1,2,3] [] [5])))))
theorem Wd(g r D I F H B J z u x G:Nat)(c:Cf)(y:Ct)(K A:Nat)(h:ba c y K A)(hA:A≤700000)(U:K+3≤1000000000)(n:Int)(S:bL n ((((c.R*c.B*c.M-c.res)*c.C):Nat):Int)=false)(d:List UInt8)(O:d.length=64)(m:Nat)(b e f i j o p q:Int)(id:Int→List UInt8)(R: ∀k,(id k).length=64)(sv:List Sv)(T:sv.length≤1000)(sc st v:Nat)(P vs:Value):aa Zl 54 #[pt g 0,.agg (sV 2 n d m b e f i j o p q)] [ob g #[pt u 0,pt r 0,.map (some v),P,vs,iN sc,iN st] 114,pk (aV r D I F H B J z u x G c y),cV id v,c6 vs sv] [0,1,2,3] (λ_=>[ob g #[pt u 0,pt r 0,.map (some v),P,vs,iN sc,iN st] 114,pk (aV r D I F H B J z u x G c y),cV id v,c6 vs sv]) (λ_=> .agg (([i6 30,i6 0]:List Value)++rB 64 z6).toArray):=by
 have Q:=h.cf;exact fG Tryz.func54 λw cs=>ra (λa=>[(3,pt (B0 a) 0),(4,pt (B1 a) 0)]) (λa=>[ob (B0 a) (sV 2 n d m b e f i j o p q) 50,ob (B1 a) (([i6 0,i6 0]:List Value)++rB 64 z6).toArray 53]) λa=>rr (λ_=>[(0,.m (ls 4 (sL 2 n d m b e f i j o p q))),(4,.m (ld 0 (.map (some v)))),(6,.m (ld 4 (i6 n))),(7,.m (mg 2 (cV id v) v n (λ_ h=>h))),(11,.m (ld 0 (pt u 0))),(12,.c [1] [1] (lN r D I F H B J z u x G c y)),(14,.m (al 6)),(15,.s 6)]) (λM=>[(5,pt ((M 14).y 0) 0)]) [] (λM L=>L++[ob ((M 14).y 0) (([i6 2,i6 n]:List Value)++rB 64 d++([u6 (m:Int),i6 b,i6 e,i6 f,i6 i,i6 j,i6 o,i6 p,i6 q,i6 0,i6 0]:List Value)++rB 64 z6++rB 64 (id n)++([iN y.V.l.length,i6 0]:List Value)).toArray 149]) λM=>r0 [(1,.l 4)] [(21,i6 2)] [] (rF [] 35 (rT [] 51 (rs [(1,.s 4)] 4 (ob (B0 a) (sV 2 n d 18446744073709551615 b e f i j o p q) 50) (rs [(3,.m (ld 0 (pt r 0))),(5,.m (ld 4 (i6 n))),(7,.t (tv (Instr.sliceAt 43 (pt (B0 a) 2) none none none) (λ_=>tI (s:=1) (N:=64) Kr Dc))),(8,.c [1,4] [1] (aa.at (rd':=[pk (aV r D I F H B J z u x G c y),ob (B0 a) (sV 2 n d 18446744073709551615 b e f i j o p q) 50]) (Vs r D I F H B J z u x G c y _ _ h n S (.slice (some ⟨(a 0).y 0,2,none⟩) 64 64) d (by(simp only[LL,O,O];done))) (atS (eD (tH (d:=0) (A:=([i6 2,i6 n]:List Value)) (C:=([u6 18446744073709551615,i6 b,i6 e,i6 f,i6 i,i6 j,i6 o,i6 p,i6 q]:List Value)) (λ_=>rfl) rfl O) (λ_ h=>h))))),(11,.s 6)] 6 (ob ((M 14).y 0) (([i6 2,i6 n]:List Value)++rB 64 d++([u6 (m:Int),i6 b,i6 e,i6 f,i6 i,i6 j,i6 o,i6 p,i6 q,i6 30,i6 0]:List Value)++rB 64 z6++rB 64 (id n)++([iN y.V.l.length,i6 0]:List Value)).toArray 149) (rT [(2,.l 6)] 68 (rs [(1,.l 6),(2,.s 5)] 5 (ob (B1 a) (([i6 30,i6 0]:List Value)++rB 64 z6).toArray 53) (lf ab.zero [0,1,2,3] [] [5])))))))
theorem We(g b D I F H B J z e x G:Nat)(c:Cf)(y:Ct)(K A:Nat)(h:ba c y K A)(hA:A≤700000)(U:K+3≤1000000000)(n:Int)(S:bL n ((((c.R*c.B*c.M-c.res)*c.C):Nat):Int)=false)(d:List UInt8)(O:d.length=64)(m:Nat)(f i j o p q r u:Int)(id:Int→List UInt8)(R: ∀k,(id k).length=64)(sv:List Sv)(T:sv.length≤1000)(sc st v:Nat)(P vs:Value):aa Zl 54 #[pt g 0,.agg (sV 3 n d m f i j o p q r u)] [ob g #[pt e 0,pt b 0,.map (some v),P,vs,iN sc,iN st] 114,pk (aV b D I F H B J z e x G c y),cV id v,c6 vs sv] [0,1,2,3] (λ_=>[ob g #[pt e 0,pt b 0,.map (some v),P,vs,iN sc,iN st] 114,pk (aV b D I F H B J z e x G c y),cV id v,c6 vs sv]) (λ_=> .agg (([i6 30,i6 0]:List Value)++rB 64 z6).toArray):=by
 have Q:=h.cf;exact fG Tryz.func54 λw cs=>ra (λa=>[(3,pt (B0 a) 0),(4,pt (B1 a) 0)]) (λa=>[ob (B0 a) (sV 3 n d m f i j o p q r u) 50,ob (B1 a) (([i6 0,i6 0]:List Value)++rB 64 z6).toArray 53]) λa=>rr (λ_=>[(0,.m (ls 4 (sL 3 n d m f i j o p q r u))),(4,.m (ld 0 (.map (some v)))),(6,.m (ld 4 (i6 n))),(7,.m (mg 2 (cV id v) v n (λ_ h=>h))),(11,.m (ld 0 (pt e 0))),(12,.c [1] [1] (lN b D I F H B J z e x G c y)),(14,.m (al 6)),(15,.s 6)]) (λM=>[(5,pt ((M 14).y 0) 0)]) [] (λM L=>L++[ob ((M 14).y 0) (([i6 3,i6 n]:List Value)++rB 64 d++([u6 (m:Int),i6 f,i6 i,i6 j,i6 o,i6 p,i6 q,i6 r,i6 u,i6 0,i6 0]:List Value)++rB 64 z6++rB 64 (id n)++([iN y.V.l.length,i6 0]:List Value)).toArray 149]) λM=>r0 [(1,.l 4)] [(21,i6 3)] [] (rF [] 35 (rF [] 51 (rs [(3,.m (ld 0 (pt b 0))),(5,.m (ld 4 (i6 n))),(7,.t (tv (Instr.sliceAt 43 (pt (B0 a) 2) none none none) (λ_=>tI (s:=1) (N:=64) Kr Dc))),(9,.m (ld 4 (u6 (m:Int)))),(10,.c [1,4] [1] (aa.at (rd':=[pk (aV b D I F H B J z e x G c y),ob (B0 a) (sV 3 n d m f i j o p q r u) 50]) (Vr b D I F H B J z e x G c y _ _ h n S (.slice (some ⟨(a 0).y 0,2,none⟩) 64 64) d (by(simp only[LL,O,O];done)) m) (atS (eD (tH (d:=0) (A:=([i6 3,i6 n]:List Value)) (C:=([u6 (m:Int),i6 f,i6 i,i6 j,i6 o,i6 p,i6 q,i6 r,i6 u]:List Value)) (λ_=>rfl) rfl O) (λ_ h=>h))))),(13,.s 6)] 6 (ob ((M 14).y 0) (([i6 3,i6 n]:List Value)++rB 64 d++([u6 (m:Int),i6 f,i6 i,i6 j,i6 o,i6 p,i6 q,i6 r,i6 u,i6 30,i6 0]:List Value)++rB 64 z6++rB 64 (id n)++([iN y.V.l.length,i6 0]:List Value)).toArray 149) (rT [(2,.l 6)] 68 (rs [(1,.l 6),(2,.s 5)] 5 (ob (B1 a) (([i6 30,i6 0]:List Value)++rB 64 z6).toArray 53) (lf ab.zero [0,1,2,3] [] [5]))))))
theorem Wf(g r F J G I D M B u z H:Nat)(c:Cf)(y:Ct)(K A:Nat)(h:ba c y K A)(hA:A≤700000)(T:K+3≤1000000000)(n:Nat)(W:n<((c.R*c.B*c.M-c.res)*c.C))(d:List UInt8)(O:d.length=64)(m:Nat)(b e f i j o p q:Int)(id:Int→List UInt8)(R: ∀k,(id k).length=64)(sv:List Sv)(X:sv.length≤1000)(sc st v:Nat)(S vs:Value):aa Zl 54 #[pt g 0,.agg (sV 2 (n:Int) d m b e f i j o p q)] [ob g #[pt u 0,pt r 0,.map (some v),S,vs,iN sc,iN st] 114,pk (aV r F J G I D M B u z H c y),cV id v,c6 vs sv] [0,1,2,3] (λE=>[ob g #[pt u 0,pt r 0,.map (some v),S,(E.val 0),iN sc,iN st] 114,pk (aV r F J G I D M B u z H c (bE c y n d 18446744073709551615)),cV (b3 id (n:Int) (fI (id (n:Int)) d 18446744073709551615)) v,c6 (E.val 0) (sv++([(⟨2,(n:Int),d,m,b,e,f,i,j,o,p,q,(cc c y n 18446744073709551615),0,Zm 64 0,(id (n:Int)),y.V.l.length,(bE c y n d 18446744073709551615).V.l.length⟩:Sv)]))]) (λ_=> .agg (([i6 (cc c y n 18446744073709551615),i6 0]:List Value)++rB 64 z6).toArray):=by
 have U:=h.cf;have P:=R (n:Int);refine fG Tryz.func54 λw cs=>ra (λx=>[(3,pt (B0 x) 0),(4,pt (B1 x) 0)]) (λx=>[ob (B0 x) (sV 2 (n:Int) d m b e f i j o p q) 50,ob (B1 x) (([i6 0,i6 0]:List Value)++rB 64 z6).toArray 53]) λx=>rr (λ_=>[(0,.m (ls 4 (sL 2 (n:Int) d m b e f i j o p q))),(4,.m (ld 0 (.map (some v)))),(6,.m (ld 4 (iN n))),(7,.m (mg 2 (cV id v) v (n:Int) (λ_ h=>h))),(11,.m (ld 0 (pt u 0))),(12,.c [1] [1] (lN r F J G I D M B u z H c y)),(14,.m (al 6)),(15,.s 6)]) (λQ=>[(5,pt ((Q 14).y 0) 0)]) [] (λQ L=>L++[ob ((Q 14).y 0) (([i6 2,iN n]:List Value)++rB 64 d++([u6 (m:Int),i6 b,i6 e,i6 f,i6 i,i6 j,i6 o,i6 p,i6 q,i6 0,i6 0]:List Value)++rB 64 z6++rB 64 (id (n:Int))++([iN y.V.l.length,i6 0]:List Value)).toArray 149]) λQ=>r0 [(1,.l 4)] [(21,i6 2)] [] (rF [] 35 (rT [] 51 (rs [(1,.s 4)] 4 (ob (B0 x) (sV 2 (n:Int) d 18446744073709551615 b e f i j o p q) 50) (rr (λ_=>[(3,.m (ld 0 (pt r 0))),(5,.m (ld 4 (iN n))),(7,.t (tv (Instr.sliceAt 43 (pt (B0 x) 2) none none none) (λ_=>tI (s:=1) (N:=64) Kr Dc))),(8,.c [1,4] [1] (aa.at (rd':=[pk (aV r F J G I D M B u z H c y),ob (B0 x) (sV 2 (n:Int) d 18446744073709551615 b e f i j o p q) 50]) (Vq r F J G I D M B u z H c y _ _ h hA T n W (.slice (some ⟨(x 0).y 0,2,none⟩) 64 64) d (by(simp only[LL,O,P,O];done))) (atS (eD (tH (d:=0) (A:=([i6 2,iN n]:List Value)) (C:=([u6 18446744073709551615,i6 b,i6 e,i6 f,i6 i,i6 j,i6 o,i6 p,i6 q]:List Value)) (λ_=>rfl) rfl O) (λ_ h=>h))))),(11,.s 6)]) N0 [] (λ_ L=>(L.set 1 ((pk (aV r F J G I D M B u z H c (bE c y n d 18446744073709551615))))).set 6 (ob ((Q 14).y 0) (([i6 2,iN n]:List Value)++rB 64 d++([u6 (m:Int),i6 b,i6 e,i6 f,i6 i,i6 j,i6 o,i6 p,i6 q,i6 (cc c y n 18446744073709551615),i6 0]:List Value)++rB 64 z6++rB 64 (id (n:Int))++([iN y.V.l.length,i6 0]:List Value)).toArray 149)) λY=>rF [(2,.l 6),(3,.t (tk (show Value.bool ((cc c y n 18446744073709551615)==30)= .bool false from ALca Value.bool (by exact db.2 (Hr _ _ _ _ Dc)))))] 68 (rT [(1,.l 4)] 73 (rs [(3,.m (ld 0 (.map (some v)))),(5,.m (ld 4 (iN n))),(7,.m (ls 6 (rB 64 (id (n:Int))))),(9,.m (ls 4 (rB 64 d))),(11,.m (ld 4 (u6 18446744073709551615))),(12,.c [] [] (AT (id (n:Int)) d 18446744073709551615 (by(simp only[LL,O,P,O];done)) (by(simp only[LL,O,P,O];done)) Om)),(13,.m (mu 2 v (n:Int) wW pM id (fI (id (n:Int)) d 18446744073709551615)))] 2 (cV (b3 id (n:Int) (fI (id (n:Int)) d 18446744073709551615)) v) (rs [(3,.l 0),(4,.c [1] [1] (lN r F J G I D M B u z H c (bE c y n d 18446744073709551615))),(6,.s 6)] 6 (ob ((Q 14).y 0) (([i6 2,iN n]:List Value)++rB 64 d++([u6 (m:Int),i6 b,i6 e,i6 f,i6 i,i6 j,i6 o,i6 p,i6 q,i6 (cc c y n 18446744073709551615),i6 0]:List Value)++rB 64 z6++rB 64 (id (n:Int))++([iN y.V.l.length,i6 (((bE c y n d 18446744073709551615).V.l.length:Nat):Int)]:List Value)).toArray 149) ?_)))))));exact rr (λa=>[(4,.l 0),(5,.l 6),(6,.m (bs 7 1)),(7,fC wV (vs) sv 3 7 ([(⟨2,(n:Int),d,m,b,e,f,i,j,o,p,q,(cc c y n 18446744073709551615),0,Zm 64 0,(id (n:Int)),y.V.l.length,(bE c y n d 18446744073709551615).V.l.length⟩:Sv)])),(10,.m (fS 0 3 (c6 ((a 7).val 0) (sv++([(⟨2,(n:Int),d,m,b,e,f,i,j,o,p,q,(cc c y n 18446744073709551615),0,Zm 64 0,(id (n:Int)),y.V.l.length,(bE c y n d 18446744073709551615).V.l.length⟩:Sv)]))) ((a 7).val 0) λbs h=>ar.one ((λ_ h=>h) bs h)))]) N0 [] (λa L=>(L.set 0 (ob g #[pt u 0,pt r 0,.map (some v),S,(a 7).val 0,iN sc,iN st] 114)).set 3 (c6 ((a 7).val 0) (sv++([(⟨2,(n:Int),d,m,b,e,f,i,j,o,p,q,(cc c y n 18446744073709551615),0,Zm 64 0,(id (n:Int)),y.V.l.length,(bE c y n d 18446744073709551615).V.l.length⟩:Sv)])))++[ob (B6 a) (([i6 2,iN n]:List Value)++rB 64 d++([u6 (m:Int),i6 b,i6 e,i6 f,i6 i,i6 j,i6 o,i6 p,i6 q,i6 (cc c y n 18446744073709551615),i6 0]:List Value)++rB 64 z6++rB 64 (id (n:Int))++([iN y.V.l.length,i6 (((bE c y n d 18446744073709551615).V.l.length:Nat):Int)]:List Value)).toArray 149]) λa=>rs [(1,.l 6),(2,.s 5)] 5 (ob (B1 x) (([i6 (cc c y n 18446744073709551615),i6 0]:List Value)++rB 64 z6).toArray 53) (lf (.l [] [] [(a 7).val 0]) [0,1,2,3] [] [5])
theorem Wg(g r F J G I D M B u z H:Nat)(c:Cf)(y:Ct)(K A:Nat)(h:ba c y K A)(hA:A≤700000)(W:K+3≤1000000000)(n:Nat)(Y:n<((c.R*c.B*c.M-c.res)*c.C))(d:List UInt8)(O:d.length=64)(m:Nat)(b e f i j o p q:Int)(R:m<18446744073709551616)(T:m≠0)(id:Int→List UInt8)(S: ∀k,(id k).length=64)(sv:List Sv)(Z:sv.length≤1000)(sc st v:Nat)(U vs:Value):aa Zl 54 #[pt g 0,.agg (sV 3 (n:Int) d m b e f i j o p q)] [ob g #[pt u 0,pt r 0,.map (some v),U,vs,iN sc,iN st] 114,pk (aV r F J G I D M B u z H c y),cV id v,c6 vs sv] [0,1,2,3] (λE=>[ob g #[pt u 0,pt r 0,.map (some v),U,(E.val 0),iN sc,iN st] 114,pk (aV r F J G I D M B u z H c (bE c y n d m)),cV (b3 id (n:Int) (fI (id (n:Int)) d m)) v,c6 (E.val 0) (sv++([(⟨3,(n:Int),d,m,b,e,f,i,j,o,p,q,(cc c y n m),0,Zm 64 0,(id (n:Int)),y.V.l.length,(bE c y n d m).V.l.length⟩:Sv)]))]) (λ_=> .agg (([i6 (cc c y n m),i6 0]:List Value)++rB 64 z6).toArray):=by
 have X:=h.cf;have P:=S (n:Int);refine fG Tryz.func54 λw cs=>ra (λx=>[(3,pt (B0 x) 0),(4,pt (B1 x) 0)]) (λx=>[ob (B0 x) (sV 3 (n:Int) d m b e f i j o p q) 50,ob (B1 x) (([i6 0,i6 0]:List Value)++rB 64 z6).toArray 53]) λx=>rr (λ_=>[(0,.m (ls 4 (sL 3 (n:Int) d m b e f i j o p q))),(4,.m (ld 0 (.map (some v)))),(6,.m (ld 4 (iN n))),(7,.m (mg 2 (cV id v) v (n:Int) (λ_ h=>h))),(11,.m (ld 0 (pt u 0))),(12,.c [1] [1] (lN r F J G I D M B u z H c y)),(14,.m (al 6)),(15,.s 6)]) (λQ=>[(5,pt ((Q 14).y 0) 0)]) [] (λQ L=>L++[ob ((Q 14).y 0) (([i6 3,iN n]:List Value)++rB 64 d++([u6 (m:Int),i6 b,i6 e,i6 f,i6 i,i6 j,i6 o,i6 p,i6 q,i6 0,i6 0]:List Value)++rB 64 z6++rB 64 (id (n:Int))++([iN y.V.l.length,i6 0]:List Value)).toArray 149]) λQ=>r0 [(1,.l 4)] [(21,i6 3)] [] (rF [] 35 (rF [] 51 (rr (λ_=>[(3,.m (ld 0 (pt r 0))),(5,.m (ld 4 (iN n))),(7,.t (tv (Instr.sliceAt 43 (pt (B0 x) 2) none none none) (λ_=>tI (s:=1) (N:=64) Kr Dc))),(9,.m (ld 4 (u6 (m:Int)))),(10,.c [1,4] [1] (aa.at (rd':=[pk (aV r F J G I D M B u z H c y),ob (B0 x) (sV 3 (n:Int) d m b e f i j o p q) 50]) (Hd r F J G I D M B u z H c y _ _ h hA W n Y (.slice (some ⟨(x 0).y 0,2,none⟩) 64 64) d (by(simp only[LL,O,P,O];done)) m R) (atS (eD (tH (d:=0) (A:=([i6 3,iN n]:List Value)) (C:=([u6 (m:Int),i6 b,i6 e,i6 f,i6 i,i6 j,i6 o,i6 p,i6 q]:List Value)) (λ_=>rfl) rfl O) (λ_ h=>h))))),(13,.s 6)]) N0 [] (λ_ L=>(L.set 1 ((pk (aV r F J G I D M B u z H c (bE c y n d m))))).set 6 (ob ((Q 14).y 0) (([i6 3,iN n]:List Value)++rB 64 d++([u6 (m:Int),i6 b,i6 e,i6 f,i6 i,i6 j,i6 o,i6 p,i6 q,i6 (cc c y n m),i6 0]:List Value)++rB 64 z6++rB 64 (id (n:Int))++([iN y.V.l.length,i6 0]:List Value)).toArray 149)) λq6=>rF [(2,.l 6),(3,.t (tk (show Value.bool ((cc c y n m)==30)= .bool false from ALca Value.bool (by exact db.2 (Hr _ _ _ _ T)))))] 68 (rT [(1,.l 4)] 73 (rs [(3,.m (ld 0 (.map (some v)))),(5,.m (ld 4 (iN n))),(7,.m (ls 6 (rB 64 (id (n:Int))))),(9,.m (ls 4 (rB 64 d))),(11,.m (ld 4 (u6 (m:Int)))),(12,.c [] [] (AT (id (n:Int)) d m (by(simp only[LL,O,P,O];done)) (by(simp only[LL,O,P,O];done)) R)),(13,.m (mu 2 v (n:Int) wW pM id (fI (id (n:Int)) d m)))] 2 (cV (b3 id (n:Int) (fI (id (n:Int)) d m)) v) (rs [(3,.l 0),(4,.c [1] [1] (lN r F J G I D M B u z H c (bE c y n d m))),(6,.s 6)] 6 (ob ((Q 14).y 0) (([i6 3,iN n]:List Value)++rB 64 d++([u6 (m:Int),i6 b,i6 e,i6 f,i6 i,i6 j,i6 o,i6 p,i6 q,i6 (cc c y n m),i6 0]:List Value)++rB 64 z6++rB 64 (id (n:Int))++([iN y.V.l.length,i6 (((bE c y n d m).V.l.length:Nat):Int)]:List Value)).toArray 149) (rr (λa=>[(4,.l 0),(5,.l 6),(6,.m (bs 7 1)),(7,fC wV (vs) sv 3 7 ([(⟨3,(n:Int),d,m,b,e,f,i,j,o,p,q,(cc c y n m),0,Zm 64 0,(id (n:Int)),y.V.l.length,(bE c y n d m).V.l.length⟩:Sv)])),(10,.m (fS 0 3 (c6 ((a 7).val 0) (sv++([(⟨3,(n:Int),d,m,b,e,f,i,j,o,p,q,(cc c y n m),0,Zm 64 0,(id (n:Int)),y.V.l.length,(bE c y n d m).V.l.length⟩:Sv)]))) ((a 7).val 0) λbs h=>ar.one ((λ_ h=>h) bs h)))]) N0 [] (λa L=>(L.set 0 (ob g #[pt u 0,pt r 0,.map (some v),U,(a 7).val 0,iN sc,iN st] 114)).set 3 (c6 ((a 7).val 0) (sv++([(⟨3,(n:Int),d,m,b,e,f,i,j,o,p,q,(cc c y n m),0,Zm 64 0,(id (n:Int)),y.V.l.length,(bE c y n d m).V.l.length⟩:Sv)])))++[ob (B6 a) (([i6 3,iN n]:List Value)++rB 64 d++([u6 (m:Int),i6 b,i6 e,i6 f,i6 i,i6 j,i6 o,i6 p,i6 q,i6 (cc c y n m),i6 0]:List Value)++rB 64 z6++rB 64 (id (n:Int))++([iN y.V.l.length,i6 (((bE c y n d m).V.l.length:Nat):Int)]:List Value)).toArray 149]) λa=>?_)))))));exact rs [(1,.l 6),(2,.s 5)] 5 (ob (B1 x) (([i6 (cc c y n m),i6 0]:List Value)++rB 64 z6).toArray 53) (lf (.l [] [] [(a 7).val 0]) [0,1,2,3] [] [5])
def Hv(c:Cf)(x:Mc)(n:Nat)(d:List UInt8):Mc:={x with x:=bE c x.x n d 0}
theorem Wh(g b D I F H B J z e x G:Nat)(c:Cf)(y:Ct)(K A:Nat)(h:ba c y K A)(hA:A≤700000)(Q:K+3≤1000000000)(n:Nat)(T:n<((c.R*c.B*c.M-c.res)*c.C))(d:List UInt8)(O:d.length=64)(f i j o p q r u:Int)(id:Int→List UInt8)(S: ∀k,(id k).length=64)(sv:List Sv)(U:sv.length≤1000)(sc st v:Nat)(P vs:Value):aa Zl 54 #[pt g 0,.agg (sV 3 (n:Int) d 0 f i j o p q r u)] [ob g #[pt e 0,pt b 0,.map (some v),P,vs,iN sc,iN st] 114,pk (aV b D I F H B J z e x G c y),cV id v,c6 vs sv] [0,1,2,3] (λ_=>[ob g #[pt e 0,pt b 0,.map (some v),P,vs,iN sc,iN st] 114,pk (aV b D I F H B J z e x G c (bE c y n d 0)),cV id v,c6 vs sv]) (λ_=> .agg (([i6 (cc c y n 0),i6 0]:List Value)++rB 64 z6).toArray):=by
 have R:=h.cf;exact fG Tryz.func54 λw cs=>ra (λa=>[(3,pt (B0 a) 0),(4,pt (B1 a) 0)]) (λa=>[ob (B0 a) (sV 3 (n:Int) d 0 f i j o p q r u) 50,ob (B1 a) (([i6 0,i6 0]:List Value)++rB 64 z6).toArray 53]) λa=>rr (λ_=>[(0,.m (ls 4 (sL 3 (n:Int) d 0 f i j o p q r u))),(4,.m (ld 0 (.map (some v)))),(6,.m (ld 4 (iN n))),(7,.m (mg 2 (cV id v) v (n:Int) (λ_ h=>h))),(11,.m (ld 0 (pt e 0))),(12,.c [1] [1] (lN b D I F H B J z e x G c y)),(14,.m (al 6)),(15,.s 6)]) (λM=>[(5,pt ((M 14).y 0) 0)]) [] (λM L=>L++[ob ((M 14).y 0) (([i6 3,iN n]:List Value)++rB 64 d++([u6 0,i6 f,i6 i,i6 j,i6 o,i6 p,i6 q,i6 r,i6 u,i6 0,i6 0]:List Value)++rB 64 z6++rB 64 (id (n:Int))++([iN y.V.l.length,i6 0]:List Value)).toArray 149]) λM=>r0 [(1,.l 4)] [(21,i6 3)] [] (rF [] 35 (rF [] 51 (rr (λ_=>[(3,.m (ld 0 (pt b 0))),(5,.m (ld 4 (iN n))),(7,.t (tv (Instr.sliceAt 43 (pt (B0 a) 2) none none none) (λ_=>tI (s:=1) (N:=64) Kr Dc))),(9,.m (ld 4 (u6 0))),(10,.c [1,4] [1] (aa.at (rd':=[pk (aV b D I F H B J z e x G c y),ob (B0 a) (sV 3 (n:Int) d 0 f i j o p q r u) 50]) (Hd b D I F H B J z e x G c y _ _ h hA Q n T (.slice (some ⟨(a 0).y 0,2,none⟩) 64 64) d (by(simp only[LL,O,O];done)) 0 Om) (atS (eD (tH (d:=0) (A:=([i6 3,iN n]:List Value)) (C:=([u6 0,i6 f,i6 i,i6 j,i6 o,i6 p,i6 q,i6 r,i6 u]:List Value)) (λ_=>rfl) rfl O) (λ_ h=>h))))),(13,.s 6)]) N0 [] (λ_ L=>(L.set 1 ((pk (aV b D I F H B J z e x G c (bE c y n d 0))))).set 6 (ob ((M 14).y 0) (([i6 3,iN n]:List Value)++rB 64 d++([u6 0,i6 f,i6 i,i6 j,i6 o,i6 p,i6 q,i6 r,i6 u,i6 (cc c y n 0),i6 0]:List Value)++rB 64 z6++rB 64 (id (n:Int))++([iN y.V.l.length,i6 0]:List Value)).toArray 149)) λV=>rT [(2,.l 6),(3,.t (tk (show Value.bool ((cc c y n 0)==30)= .bool true from ALca Value.bool (by exact beq_iff_eq.2 rfl))))] 68 (rs [(1,.l 6),(2,.s 5)] 5 (ob (B1 a) (([i6 (cc c y n 0),i6 0]:List Value)++rB 64 z6).toArray 53) (lf ab.zero [0,1,2,3] [] [5])))))
def nK(c:Cf)(y:Ct)(f:Fa)(inj:List Ij)(sc:Nat):List Ij:=bif ia c y.V.D f==0 then inj++[⟨f.x0,f.x1,f.x2,f.x3,f.x4,f.x5,f.x6,f.x7,sc,y.V.l.length⟩] else inj
theorem Wi(g o x D z C u F t n r B:Nat)(c:Cf)(y:Ct)(K A:Nat)(h:ba c y K A)(hA:A≤700000)(a b d e f i j k:Int)(inj:List Ij)(P:inj.length≤1000)(sc st J:Nat)(H vs:Value):aa Zl 53 #[pt g 0,.agg #[i6 a,i6 b,i6 d,i6 e,i6 f,i6 i,i6 j,i6 k]] [ob g #[pt n 0,pt o 0,.map (some J),H,vs,iN sc,iN st] 114,pk (aV o x D z C u F t n r B c y),gp H inj] [0,1,2] (λE=>[ob g #[pt n 0,pt o 0,.map (some J),(E.val 0),vs,iN sc,iN st] 114,pk (aV o x D z C u F t n r B c ({y with V:=nG c y.V ⟨a,b,d,e,f,i,j,k⟩}:Ct)),gp (E.val 0) (nK c y (⟨a,b,d,e,f,i,j,k⟩:Fa) inj sc)]) (λ_=> .agg (([i6 (ia c y.V.D ⟨a,b,d,e,f,i,j,k⟩),i6 0]:List Value)++rB 64 z6).toArray):=by
 have N:=h.cf;have O:=h.dv Om;refine fG Tryz.func53 λw cs=>ra (λp=>[(3,pt (B0 p) 0),(4,pt (B1 p) 0)]) (λp=>[ob (B0 p) #[i6 a,i6 b,i6 d,i6 e,i6 f,i6 i,i6 j,i6 k] 48,ob (B1 p) (([i6 0,i6 0]:List Value)++rB 64 z6).toArray 53]) λp=>rr (λ_=>[(0,.m (ls 3 ([i6 a,i6 b,i6 d,i6 e,i6 f,i6 i,i6 j,i6 k]))),(1,.v (pt g 0)),(2,.v (pt g 0)),(3,.v (pt g 5)),(4,.m (ld 0 (iN sc))),(5,.v (pt g 0)),(6,.v (pt g 0)),(7,.v (pt g 0)),(8,.m (ld 0 (pt n 0))),(9,.c [1] [1] (lN o x D z C u F t n r B c y)),(10,.v (.agg #[i6 a,i6 b,i6 d,i6 e,i6 f,i6 i,i6 j,i6 k,iN sc,iN y.V.l.length])),(11,.m (al 5)),(12,.s 5)]) (λG=>[(5,pt ((G 11).y 0) 0)]) [] (λG L=>L++[ob ((G 11).y 0) #[i6 a,i6 b,i6 d,i6 e,i6 f,i6 i,i6 j,i6 k,iN sc,iN y.V.l.length] 187]) λG=>rr (λ_=>[(3,.l 0),(4,.l 3),(5,.c [1] [1] (V9 o x D z C u F t n r B c y N O ⟨a,b,d,e,f,i,j,k⟩))]) (λ_=>[(6,i6 (ia c y.V.D ⟨a,b,d,e,f,i,j,k⟩))]) [] (λ_ L=>L.set 1 ((pk (aV o x D z C u F t n r B c ({y with V:=nG c y.V ⟨a,b,d,e,f,i,j,k⟩}:Ct))))) λQ=>r0 [] [(25,.bool ((ia c y.V.D ⟨a,b,d,e,f,i,j,k⟩)==0))] [] ?_;refine cX (ia c y.V.D ⟨a,b,d,e,f,i,j,k⟩) 0 (λM I=>?_) λM I=>?_
 ·exact rr (λq=>[(4,.l 0),(5,.l 5),(6,.m (bs 6 1)),(7,fC V8 (H) inj 2 6 ([(⟨a,b,d,e,f,i,j,k,sc,y.V.l.length⟩:Ij)])),(10,.m (fS 0 2 (gp ((q 7).val 0) (inj++([(⟨a,b,d,e,f,i,j,k,sc,y.V.l.length⟩:Ij)]))) ((q 7).val 0) λbs h=>ar.one ((λ_ h=>h) bs h)))]) N0 [] (λq L=>(L.set 0 (ob g #[pt n 0,pt o 0,.map (some J),(q 7).val 0,vs,iN sc,iN st] 114)).set 2 (gp ((q 7).val 0) (inj++([(⟨a,b,d,e,f,i,j,k,sc,y.V.l.length⟩:Ij)])))++[ob (B6 q) #[i6 a,i6 b,i6 d,i6 e,i6 f,i6 i,i6 j,i6 k,iN sc,iN y.V.l.length] 187]) λq=>rs [(2,.s 4)] 4 (ob (B1 p) (([i6 (ia c y.V.D ⟨a,b,d,e,f,i,j,k⟩),i6 0]:List Value)++rB 64 z6).toArray 53) (lf (.l [] [] [(q 7).val 0]) [0,1,2] [] [4] (hf:=by unfold nK;dsimp only;(repeat (first | rw[M] | rw[ALct]));kernel_rfl))
 exact rs [(2,.s 4)] 4 (ob (B1 p) (([i6 (ia c y.V.D ⟨a,b,d,e,f,i,j,k⟩),i6 0]:List Value)++rB 64 z6).toArray 53) (lf (.l [] [] [H]) [0,1,2] [] [4] (hf:=by unfold nK;dsimp only;(repeat (first | rw[M] | rw[ALcf]));kernel_rfl))
structure An where
 e:Int
 n:Int
 l:List UInt8
def wX(x:An):List Value:=[i6 x.e,i6 x.n]++rB 64 x.l
theorem Wj(g t B G C F z H y u v D:Nat)(c:Cf)(x:Mc)(K A N:Nat)(b:dF c x K A N)(hA:A≤700000)(I:N≤1000)(k r:Int)(d:List UInt8)(J:d.length=64)(m:Nat)(e f i j n o p q:Int)(O:ew k r d m e f i j n o p q=false):aa Zl 16 #[pt g 0,.agg (sV k r d m e f i j n o p q)] [pk (a7 g t B G C F z H y u v D c x)] [0] (λ_=>[pk (a7 g t B G C F z H y u v D c x)]) (λ_=> .agg (([i6 60,i6 0]:List Value)++rB 64 z6).toArray):=aa.pkZ Tryz.func16 λL M=>by
 obtain⟨gi,V,vs,rfl⟩:=M;refine⟨[1,2,3,4],λ_=>[pk (aV t B G C F z H y u v D c x.x),cV x.id gi,gp V x.inj,c6 vs x.sv],?_,rfl,λE=>⟨rfl,rfl,⟨_,_,_,rfl⟩⟩⟩;have h:=b.ct;have P:=h.cf;have Q:=b.il;have T:x.sv.length≤1000:=Zn b.sl I;have R:x.inj.length≤1000:=Zn b.jl I;have S:=b.sc;have U:=b.st;exact fG Tryz.func16 λw cs=>ra (λa=>[(3,pt (B0 a) 0),(4,pt (B1 a) 0)]) (λa=>[ob (B0 a) (sV k r d m e f i j n o p q) 50,ob (B1 a) (([i6 0,i6 0]:List Value)++rB 64 z6).toArray 53]) λa=>rT [(0,.l 5),(1,.c [] [] (aa.v ((ku k r d m e f i j n o p q (by(simp only[LL,J,J];done)))) λ_=>ALca Value.bool (show(ew k r d m e f i j n o p q)=false from(by exact O))))] 9 (rs [(1,.s 6)] 6 (ob (B1 a) (([i6 60,i6 0]:List Value)++rB 64 z6).toArray 53) (lf ab.zero [1,2,3,4] [(0,0)] [6]))
theorem Wk(g a y D z C v F u b t B:Nat)(c:Cf)(x:Mc)(K A N:Nat)(f:dF c x K A N)(hA:A≤700000)(H:N≤1000)(J:K+3≤1000000000)(ln:Int)(d:List UInt8)(I:d.length=64)(m:Nat)(i j k n o p q r:Int)(O:ew 4 ln d m i j k n o p q r=true):aa Zl 16 #[pt g 0,.agg (sV 4 ln d m i j k n o p q r)] [pk (a7 g a y D z C v F u b t B c x)] [0] (λ_=>[pk (a7 g a y D z C v F u b t B c ({x with x:=lM c x.x,sc:=x.sc+1,st:=x.st+1}:Mc))]) (λ_=> .agg (([i6 (cb (bC c (jH c x.x) (aA (jH c x.x) x.x.U))),iN x.x.U]:List Value)++rB 64 z6).toArray):=aa.pkZ Tryz.func16 λL M=>by
 obtain⟨gi,G,vs,rfl⟩:=M;refine⟨[0,1,2,3,4],λ_=>[ob g #[pt b 0,pt a 0,.map (some gi),G,vs,i6 ((x.sc+1:Nat):Int),i6 ((x.st+1:Nat):Int)] 114,pk (aV a y D z C v F u b t B c (lM c x.x)),cV x.id gi,gp G x.inj,c6 vs x.sv],?_,rfl,λE=>⟨rfl,rfl,⟨_,_,_,rfl⟩⟩⟩;have h:=f.ct;have P:=h.cf;have Q:=f.il;have T:x.sv.length≤1000:=Zn f.sl H;have R:x.inj.length≤1000:=Zn f.jl H;have S:=f.sc;have U:=f.st;exact fG Tryz.func16 λw cs=>ra (λe=>[(3,pt (B0 e) 0),(4,pt (B1 e) 0)]) (λe=>[ob (B0 e) (sV 4 ln d m i j k n o p q r) 50,ob (B1 e) (([i6 0,i6 0]:List Value)++rB 64 z6).toArray 53]) λe=>rF [(0,.l 5),(1,.c [] [] (aa.v ((ku 4 ln d m i j k n o p q r (by(simp only[LL,I,I];done)))) λ_=>ALca Value.bool (show(ew 4 ln d m i j k n o p q r)=true from(by exact O))))] 9 (rs [(3,.l 0),(4,ad x.st 1),(7,.s 0)] 0 (ob g #[pt b 0,pt a 0,.map (some gi),G,vs,iN x.sc,i6 ((x.st+1:Nat):Int)] 114) (r0 [(1,.l 5)] [(19,i6 4)] [] (rT [] 20 (rs [(3,.l 0),(4,ad x.sc 1),(7,.s 0)] 0 (ob g #[pt b 0,pt a 0,.map (some gi),G,vs,i6 ((x.sc+1:Nat):Int),i6 ((x.st+1:Nat):Int)] 114) (rr (λ_=>[(3,.l 0),(4,.c [1] [1] (Vt a y D z C v F u b t B c x.x _ _ h hA J))]) (λ_=>[(5,iN x.x.U),(6,i6 (cb (bC c (jH c x.x) (aA (jH c x.x) x.x.U))))]) [] (λ_ L=>L.set 1 ((pk (aV a y D z C v F u b t B c (lM c x.x))))) λV=>rs [(3,.s 6)] 6 (ob (B1 e) (([i6 (cb (bC c (jH c x.x) (aA (jH c x.x) x.x.U))),iN x.x.U]:List Value)++rB 64 z6).toArray 53) (lf ab.zero [0,1,2,3,4] [] [6]))))))
theorem Wl(g a y D z C v F u b t B:Nat)(c:Cf)(x:Mc)(K A N:Nat)(e:dF c x K A N)(hA:A≤700000)(H:N≤1000)(J:K+260≤1000000000)(P:x.x.s.r.j.A≠0)(ln:Int)(d:List UInt8)(I:d.length=64)(m:Nat)(i j k n o p q r:Int)(O:ew 5 ln d m i j k n o p q r=true):aa Zl 16 #[pt g 0,.agg (sV 5 ln d m i j k n o p q r)] [pk (a7 g a y D z C v F u b t B c x)] [0] (λ_=>[pk (a7 g a y D z C v F u b t B c ({x with x:=iM c x.x,st:=x.st+1}:Mc))]) (λ_=> .agg (([i6 0,i6 0]:List Value)++rB 64 z6).toArray):=aa.pkZ Tryz.func16 λL M=>by
 obtain⟨gi,G,vs,rfl⟩:=M;refine⟨[0,1,2,3,4],λ_=>[ob g #[pt b 0,pt a 0,.map (some gi),G,vs,iN x.sc,i6 ((x.st+1:Nat):Int)] 114,pk (aV a y D z C v F u b t B c (iM c x.x)),cV x.id gi,gp G x.inj,c6 vs x.sv],?_,rfl,λE=>⟨rfl,rfl,⟨_,_,_,rfl⟩⟩⟩;have h:=e.ct;have Q:=h.cf;have R:=e.il;have U:x.sv.length≤1000:=Zn e.sl H;have S:x.inj.length≤1000:=Zn e.jl H;have T:=e.sc;have V:=e.st;exact fG Tryz.func16 λw cs=>ra (λf=>[(3,pt (B0 f) 0),(4,pt (B1 f) 0)]) (λf=>[ob (B0 f) (sV 5 ln d m i j k n o p q r) 50,ob (B1 f) (([i6 0,i6 0]:List Value)++rB 64 z6).toArray 53]) λf=>rF [(0,.l 5),(1,.c [] [] (aa.v ((ku 5 ln d m i j k n o p q r (by(simp only[LL,I,I];done)))) λ_=>ALca Value.bool (show(ew 5 ln d m i j k n o p q r)=true from(by exact O))))] 9 (rs [(3,.l 0),(4,ad x.st 1),(7,.s 0)] 0 (ob g #[pt b 0,pt a 0,.map (some gi),G,vs,iN x.sc,i6 ((x.st+1:Nat):Int)] 114) (r0 [(1,.l 5)] [(19,i6 5)] [] (rF [] 20 (rT [] 40 (rs [(3,.l 0),(4,.c [1] [1] (VE a y D z C v F u b t B c x.x _ _ h hA J P)),(6,.s 6)] 1 ((pk (aV a y D z C v F u b t B c (iM c x.x)))) (lf ab.zero [0,1,2,3,4] [] [6]))))))
theorem Wm(g b y D z C v F u e t B:Nat)(c:Cf)(x:Mc)(K A N:Nat)(f:dF c x K A N)(hA:A≤700000)(H:N≤1000)(O:x.x.s.r.j.A=0)(ln:Int)(d:List UInt8)(I:d.length=64)(m:Nat)(i j k n o p q r:Int)(M:ew 5 ln d m i j k n o p q r=true):aa Zl 16 #[pt g 0,.agg (sV 5 ln d m i j k n o p q r)] [pk (a7 g b y D z C v F u e t B c x)] [0] (λ_=>[pk (a7 g b y D z C v F u e t B c ({x with st:=x.st+1}:Mc))]) (λ_=> .agg (([i6 51,i6 0]:List Value)++rB 64 z6).toArray):=aa.pkZ Tryz.func16 λL J=>by
 obtain⟨gi,G,vs,rfl⟩:=J;refine⟨[0,1,2,3,4],λ_=>[ob g #[pt e 0,pt b 0,.map (some gi),G,vs,iN x.sc,i6 ((x.st+1:Nat):Int)] 114,pk (aV b y D z C v F u e t B c x.x),cV x.id gi,gp G x.inj,c6 vs x.sv],?_,rfl,λE=>⟨rfl,rfl,⟨_,_,_,rfl⟩⟩⟩;have h:=f.ct;have P:=h.cf;have Q:=f.il;have T:x.sv.length≤1000:=Zn f.sl H;have R:x.inj.length≤1000:=Zn f.jl H;have S:=f.sc;have U:=f.st;exact fG Tryz.func16 λw cs=>ra (λa=>[(3,pt (B0 a) 0),(4,pt (B1 a) 0)]) (λa=>[ob (B0 a) (sV 5 ln d m i j k n o p q r) 50,ob (B1 a) (([i6 0,i6 0]:List Value)++rB 64 z6).toArray 53]) λa=>rF [(0,.l 5),(1,.c [] [] (aa.v ((ku 5 ln d m i j k n o p q r (by(simp only[LL,I,I];done)))) λ_=>ALca Value.bool (show(ew 5 ln d m i j k n o p q r)=true from(by exact M))))] 9 (rs [(3,.l 0),(4,ad x.st 1),(7,.s 0)] 0 (ob g #[pt e 0,pt b 0,.map (some gi),G,vs,iN x.sc,i6 ((x.st+1:Nat):Int)] 114) (r0 [(1,.l 5)] [(19,i6 5)] [] (rF [] 20 (rT [] 40 (rs [(3,.l 0),(4,.c [1] [1] (VD b y D z C v F u e t B c x.x _ _ h O)),(6,.s 6)] 6 (ob (B1 a) (([i6 51,i6 0]:List Value)++rB 64 z6).toArray 53) (lf ab.zero [0,1,2,3,4] [] [6]))))))
theorem Wn(g a y D z C v F u b t B:Nat)(c:Cf)(x:Mc)(K A N:Nat)(e:dF c x K A N)(hA:A≤700000)(H:N≤1000)(ht:x.x.s.time<1099511627776)(ln:Int)(d:List UInt8)(I:d.length=64)(m:Nat)(i j k n o p q r:Int)(M:ew 6 ln d m i j k n o p q r=true):aa Zl 16 #[pt g 0,.agg (sV 6 ln d m i j k n o p q r)] [pk (a7 g a y D z C v F u b t B c x)] [0] (λ_=>[pk (a7 g a y D z C v F u b t B c ({x with x:=qV x.x,st:=x.st+1}:Mc))]) (λ_=> .agg (([i6 0,i6 0]:List Value)++rB 64 z6).toArray):=aa.pkZ Tryz.func16 λL J=>by
 obtain⟨gi,G,vs,rfl⟩:=J;refine⟨[0,1,2,3,4],λ_=>[ob g #[pt b 0,pt a 0,.map (some gi),G,vs,iN x.sc,i6 ((x.st+1:Nat):Int)] 114,pk (aV a y D z C v F u b t B c (qV x.x)),cV x.id gi,gp G x.inj,c6 vs x.sv],?_,rfl,λE=>⟨rfl,rfl,⟨_,_,_,rfl⟩⟩⟩;have h:=e.ct;have O:=h.cf;have P:=e.il;have S:x.sv.length≤1000:=Zn e.sl H;have Q:x.inj.length≤1000:=Zn e.jl H;have R:=e.sc;have T:=e.st;exact fG Tryz.func16 λw cs=>ra (λf=>[(3,pt (B0 f) 0),(4,pt (B1 f) 0)]) (λf=>[ob (B0 f) (sV 6 ln d m i j k n o p q r) 50,ob (B1 f) (([i6 0,i6 0]:List Value)++rB 64 z6).toArray 53]) λf=>rF [(0,.l 5),(1,.c [] [] (aa.v ((ku 6 ln d m i j k n o p q r (by(simp only[LL,I,I];done)))) λ_=>ALca Value.bool (show(ew 6 ln d m i j k n o p q r)=true from(by exact M))))] 9 (rs [(3,.l 0),(4,ad x.st 1),(7,.s 0)] 0 (ob g #[pt b 0,pt a 0,.map (some gi),G,vs,iN x.sc,i6 ((x.st+1:Nat):Int)] 114) (r0 [(1,.l 5)] [(19,i6 6)] [] (rF [] 20 (rF [] 40 (rT [] 48 (rs [(3,.l 0),(4,.c [1] [1] (VB a y D z C v F u b t B c x.x _ _ h hA ht)),(6,.s 6)] 1 ((pk (aV a y D z C v F u b t B c (qV x.x)))) (lf ab.zero [0,1,2,3,4] [] [6])))))))
theorem Wo(g a y D z C v F u b t B:Nat)(c:Cf)(x:Mc)(K A N:Nat)(f:dF c x K A N)(hA:A≤700000)(H:N≤1000)(ln:Int)(d:List UInt8)(I:d.length=64)(m:Nat)(i j k n o p q r:Int)(M:ew 7 ln d m i j k n o p q r=true):aa Zl 16 #[pt g 0,.agg (sV 7 ln d m i j k n o p q r)] [pk (a7 g a y D z C v F u b t B c x)] [0] (λ_=>[pk (a7 g a y D z C v F u b t B c ({x with x:=qW x.x,st:=x.st+1}:Mc))]) (λ_=> .agg (([i6 0,iN x.x.s.g.l.length]:List Value)++rB 64 z6).toArray):=aa.pkZ Tryz.func16 λL J=>by
 obtain⟨gi,G,vs,rfl⟩:=J;refine⟨[0,1,2,3,4],λ_=>[ob g #[pt b 0,pt a 0,.map (some gi),G,vs,iN x.sc,i6 ((x.st+1:Nat):Int)] 114,pk (aV a y D z C v F u b t B c (qW x.x)),cV x.id gi,gp G x.inj,c6 vs x.sv],?_,rfl,λE=>⟨rfl,rfl,⟨_,_,_,rfl⟩⟩⟩;have h:=f.ct;have O:=h.cf;have P:=f.il;have S:x.sv.length≤1000:=Zn f.sl H;have Q:x.inj.length≤1000:=Zn f.jl H;have R:=f.sc;have T:=f.st;exact fG Tryz.func16 λw cs=>ra (λe=>[(3,pt (B0 e) 0),(4,pt (B1 e) 0)]) (λe=>[ob (B0 e) (sV 7 ln d m i j k n o p q r) 50,ob (B1 e) (([i6 0,i6 0]:List Value)++rB 64 z6).toArray 53]) λe=>rF [(0,.l 5),(1,.c [] [] (aa.v ((ku 7 ln d m i j k n o p q r (by(simp only[LL,I,I];done)))) λ_=>ALca Value.bool (show(ew 7 ln d m i j k n o p q r)=true from(by exact M))))] 9 (rs [(3,.l 0),(4,ad x.st 1),(7,.s 0)] 0 (ob g #[pt b 0,pt a 0,.map (some gi),G,vs,iN x.sc,i6 ((x.st+1:Nat):Int)] 114) (r0 [(1,.l 5)] [(19,i6 7)] [] (rF [] 20 (rF [] 40 (rF [] 48 (rT [] 56 (rr (λ_=>[(3,.l 0),(4,.c [1] [1] (VC a y D z C v F u b t B c x.x _ _ h hA)),(6,.s 6)]) N0 [] (λ_ L=>(L.set 1 ((pk (aV a y D z C v F u b t B c (qW x.x))))).set 6 (ob (B1 e) (([i6 0,iN x.x.s.g.l.length]:List Value)++rB 64 z6).toArray 53)) λU=>lf ab.zero [0,1,2,3,4] [] [6])))))))
theorem Wp(g p z F B D y G v q u C:Nat)(c:Cf)(x:Mc)(K A N:Nat)(t:dF c x K A N)(hA:A≤700000)(I:N≤1000)(ln:Int)(d:List UInt8)(J:d.length=64)(m:Nat)(a b e f i j k n:Int)(P:ew 8 ln d m a b e f i j k n=true):aa Zl 16 #[pt g 0,.agg (sV 8 ln d m a b e f i j k n)] [pk (a7 g p z F B D y G v q u C c x)] [0] (λ_=>[pk (a7 g p z F B D y G v q u C c ({x with x:={x.x with V:=nG c x.x.V (⟨a,b,e,f,i,j,k,n⟩:Fa)},inj:=nK c x.x (⟨a,b,e,f,i,j,k,n⟩:Fa) x.inj x.sc,st:=x.st+1}:Mc))]) (λ_=> .agg (([i6 (ia c x.x.V.D ⟨a,b,e,f,i,j,k,n⟩),i6 0]:List Value)++rB 64 z6).toArray):=aa.pkZ Tryz.func16 λL O=>by
 obtain⟨gi,M,vs,rfl⟩:=O;refine⟨[0,1,2,3,4],λE=>[ob g #[pt q 0,pt p 0,.map (some gi),(E.val 0),vs,iN x.sc,i6 ((x.st+1:Nat):Int)] 114,pk (aV p z F B D y G v q u C c ({x.x with V:=nG c x.x.V ⟨a,b,e,f,i,j,k,n⟩}:Ct)),cV x.id gi,gp (E.val 0) (nK c x.x (⟨a,b,e,f,i,j,k,n⟩:Fa) x.inj x.sc),c6 vs x.sv],?_,rfl,λE=>⟨rfl,rfl,⟨_,_,_,rfl⟩⟩⟩;have h:=t.ct;have Q:=h.cf;have R:=t.il;have T:x.sv.length≤1000:=Zn t.sl I;have H:x.inj.length≤1000:=Zn t.jl I;have S:=t.sc;have U:=t.st;exact fG Tryz.func16 λw cs=>ra (λr=>[(3,pt (B0 r) 0),(4,pt (B1 r) 0)]) (λr=>[ob (B0 r) (sV 8 ln d m a b e f i j k n) 50,ob (B1 r) (([i6 0,i6 0]:List Value)++rB 64 z6).toArray 53]) λr=>rF [(0,.l 5),(1,.c [] [] (aa.v ((ku 8 ln d m a b e f i j k n (by(simp only[LL,J,J];done)))) λ_=>ALca Value.bool (show(ew 8 ln d m a b e f i j k n)=true from(by exact P))))] 9 (rs [(3,.l 0),(4,ad x.st 1),(7,.s 0)] 0 (ob g #[pt q 0,pt p 0,.map (some gi),M,vs,iN x.sc,i6 ((x.st+1:Nat):Int)] 114) (r0 [(1,.l 5)] [(19,i6 8)] [] (rF [] 20 (rF [] 40 (rF [] 48 (rF [] 56 (rT [] 64 (rr (λ_=>[(2,.l 5),(3,.c [0,1,3] [0,1,3] (Wi g p z F B D y G v q u C c x.x _ _ h hA a b e f i j k n x.inj H x.sc (x.st+1) gi M vs)),(4,.s 6)]) N0 [] (λo L=>(((L.set 0 (ob g #[pt q 0,pt p 0,.map (some gi),((o 3).val 0),vs,iN x.sc,i6 ((x.st+1:Nat):Int)] 114)).set 1 ((pk (aV p z F B D y G v q u C c ({x.x with V:=nG c x.x.V ⟨a,b,e,f,i,j,k,n⟩}:Ct))))).set 3 (gp ((o 3).val 0) (nK c x.x (⟨a,b,e,f,i,j,k,n⟩:Fa) x.inj x.sc))).set 6 (ob (B1 r) (([i6 (ia c x.x.V.D ⟨a,b,e,f,i,j,k,n⟩),i6 0]:List Value)++rB 64 z6).toArray 53)) λo=>lf (.l [] [] [((o 3).val 0)]) [0,1,2,3,4] [] [6]))))))))
theorem Wq(g q B G C F z H y r v D:Nat)(c:Cf)(x:Mc)(K A N:Nat)(u:dF c x K A N)(hA:A≤700000)(P:N≤1000)(Q:K+3≤1000000000)(n:Nat)(W:n<((c.R*c.B*c.M-c.res)*c.C))(d:List UInt8)(J:d.length=64)(m:Nat)(a b e f i j k o:Int)(S:ew 1 (n:Int) d m a b e f i j k o=true):aa Zl 16 #[pt g 0,.agg (sV 1 (n:Int) d m a b e f i j k o)] [pk (a7 g q B G C F z H y r v D c x)] [0] (λ_=>[pk (a7 g q B G C F z H y r v D c (Hu c ({x with st:=x.st+1}:Mc) n (⟨1,(n:Int),d,m,a,b,e,f,i,j,k,o⟩:St):Mc))]) (λ_=> .agg (([i6 (cb (bC c x.x (aA x.x n))),i6 0]:List Value)++rB 64 (cx c x.x (aA x.x n))).toArray):=aa.pkZ Tryz.func16 λL R=>by
 obtain⟨gi,I,vs,rfl⟩:=R;refine⟨[0,1,2,3,4],λE=>[ob g #[pt r 0,pt q 0,.map (some gi),I,(E.val 0),iN x.sc,i6 ((x.st+1:Nat):Int)] 114,pk (aV q B G C F z H y r v D c (cy c x.x n c.W)),cV x.id gi,gp I x.inj,c6 (E.val 0) (x.sv++([(⟨1,(n:Int),d,m,a,b,e,f,i,j,k,o,(cb (bC c x.x (aA x.x n))),0,cx c x.x (aA x.x n),(x.id (n:Int)),x.x.V.l.length,(cy c x.x n c.W).V.l.length⟩:Sv)]))],?_,rfl,λE=>⟨rfl,rfl,⟨_,_,_,rfl⟩⟩⟩;have h:=u.ct;have T:=h.cf;have M:=u.il;have O:x.sv.length≤1000:=Zn u.sl P;have U:x.inj.length≤1000:=Zn u.jl P;have X:=u.sc;have Y:=u.st;exact fG Tryz.func16 λw cs=>ra (λt=>[(3,pt (B0 t) 0),(4,pt (B1 t) 0)]) (λt=>[ob (B0 t) (sV 1 (n:Int) d m a b e f i j k o) 50,ob (B1 t) (([i6 0,i6 0]:List Value)++rB 64 z6).toArray 53]) λt=>rF [(0,.l 5),(1,.c [] [] (aa.v ((ku 1 (n:Int) d m a b e f i j k o (by(simp only[LL,J,J];done)))) λ_=>ALca Value.bool (show(ew 1 (n:Int) d m a b e f i j k o)=true from(by exact S))))] 9 (rs [(3,.l 0),(4,ad x.st 1),(7,.s 0)] 0 (ob g #[pt r 0,pt q 0,.map (some gi),I,vs,iN x.sc,i6 ((x.st+1:Nat):Int)] 114) (r0 [(1,.l 5)] [(19,i6 1)] [] (rF [] 20 (rF [] 40 (rF [] 48 (rF [] 56 (rF [] 64 (rr (λ_=>[(1,.l 5),(2,.c [0,1,2,4] [0,1,2,4] (Wb g q B G C F z H y r v D c x.x _ _ h hA Q n W d (by(simp only[LL,J,J];done)) m a b e f i j k o x.id M x.sv O x.sc (x.st+1) gi I vs)),(3,.s 6)]) N0 [] (λp L=>(((L.set 0 (ob g #[pt r 0,pt q 0,.map (some gi),I,((p 2).val 0),iN x.sc,i6 ((x.st+1:Nat):Int)] 114)).set 1 ((pk (aV q B G C F z H y r v D c (cy c x.x n c.W))))).set 4 (c6 ((p 2).val 0) (x.sv++([(⟨1,(n:Int),d,m,a,b,e,f,i,j,k,o,(cb (bC c x.x (aA x.x n))),0,cx c x.x (aA x.x n),(x.id (n:Int)),x.x.V.l.length,(cy c x.x n c.W).V.l.length⟩:Sv)])))).set 6 (ob (B1 t) (([i6 (cb (bC c x.x (aA x.x n))),i6 0]:List Value)++rB 64 (cx c x.x (aA x.x n))).toArray 53)) λp=>lf (.l [] [] [((p 2).val 0)]) [0,1,2,3,4] [] [6]))))))))
theorem Ws(g q B G C F z H y r v D:Nat)(c:Cf)(x:Mc)(K A N:Nat)(u:dF c x K A N)(hA:A≤700000)(P:N≤1000)(Q:K+3≤1000000000)(n:Nat)(W:n<((c.R*c.B*c.M-c.res)*c.C))(d:List UInt8)(J:d.length=64)(m:Nat)(a b e f i j k o:Int)(S:ew 2 (n:Int) d m a b e f i j k o=true):aa Zl 16 #[pt g 0,.agg (sV 2 (n:Int) d m a b e f i j k o)] [pk (a7 g q B G C F z H y r v D c x)] [0] (λ_=>[pk (a7 g q B G C F z H y r v D c (qY c ({x with st:=x.st+1}:Mc) n 18446744073709551615 (⟨2,(n:Int),d,m,a,b,e,f,i,j,k,o⟩:St):Mc))]) (λ_=> .agg (([i6 (cc c x.x n 18446744073709551615),i6 0]:List Value)++rB 64 z6).toArray):=aa.pkZ Tryz.func16 λL R=>by
 obtain⟨gi,I,vs,rfl⟩:=R;refine⟨[0,1,2,3,4],λE=>[ob g #[pt r 0,pt q 0,.map (some gi),I,(E.val 0),iN x.sc,i6 ((x.st+1:Nat):Int)] 114,pk (aV q B G C F z H y r v D c (bE c x.x n d 18446744073709551615)),cV (b3 x.id (n:Int) (fI (x.id (n:Int)) d 18446744073709551615)) gi,gp I x.inj,c6 (E.val 0) (x.sv++([(⟨2,(n:Int),d,m,a,b,e,f,i,j,k,o,(cc c x.x n 18446744073709551615),0,Zm 64 0,(x.id (n:Int)),x.x.V.l.length,(bE c x.x n d 18446744073709551615).V.l.length⟩:Sv)]))],?_,rfl,λE=>⟨rfl,rfl,⟨_,_,_,rfl⟩⟩⟩;have h:=u.ct;have T:=h.cf;have M:=u.il;have O:x.sv.length≤1000:=Zn u.sl P;have U:x.inj.length≤1000:=Zn u.jl P;have X:=u.sc;have Y:=u.st;exact fG Tryz.func16 λw cs=>ra (λt=>[(3,pt (B0 t) 0),(4,pt (B1 t) 0)]) (λt=>[ob (B0 t) (sV 2 (n:Int) d m a b e f i j k o) 50,ob (B1 t) (([i6 0,i6 0]:List Value)++rB 64 z6).toArray 53]) λt=>rF [(0,.l 5),(1,.c [] [] (aa.v ((ku 2 (n:Int) d m a b e f i j k o (by(simp only[LL,J,J];done)))) λ_=>ALca Value.bool (show(ew 2 (n:Int) d m a b e f i j k o)=true from(by exact S))))] 9 (rs [(3,.l 0),(4,ad x.st 1),(7,.s 0)] 0 (ob g #[pt r 0,pt q 0,.map (some gi),I,vs,iN x.sc,i6 ((x.st+1:Nat):Int)] 114) (r0 [(1,.l 5)] [(19,i6 2)] [] (rF [] 20 (rF [] 40 (rF [] 48 (rF [] 56 (rF [] 64 (rr (λ_=>[(1,.l 5),(2,.c [0,1,2,4] [0,1,2,4] (Wf g q B G C F z H y r v D c x.x _ _ h hA Q n W d (by(simp only[LL,J,J];done)) m a b e f i j k o x.id M x.sv O x.sc (x.st+1) gi I vs)),(3,.s 6)]) N0 [] (λp L=>((((L.set 0 (ob g #[pt r 0,pt q 0,.map (some gi),I,((p 2).val 0),iN x.sc,i6 ((x.st+1:Nat):Int)] 114)).set 1 ((pk (aV q B G C F z H y r v D c (bE c x.x n d 18446744073709551615))))).set 2 (cV (b3 x.id (n:Int) (fI (x.id (n:Int)) d 18446744073709551615)) gi)).set 4 (c6 ((p 2).val 0) (x.sv++([(⟨2,(n:Int),d,m,a,b,e,f,i,j,k,o,(cc c x.x n 18446744073709551615),0,Zm 64 0,(x.id (n:Int)),x.x.V.l.length,(bE c x.x n d 18446744073709551615).V.l.length⟩:Sv)])))).set 6 (ob (B1 t) (([i6 (cc c x.x n 18446744073709551615),i6 0]:List Value)++rB 64 z6).toArray 53)) λp=>lf (.l [] [] [((p 2).val 0)]) [0,1,2,3,4] [] [6]))))))))
theorem Wt(g q B G C F z H y r v D:Nat)(c:Cf)(x:Mc)(K A N:Nat)(u:dF c x K A N)(hA:A≤700000)(R:N≤1000)(S:K+3≤1000000000)(n:Nat)(Y:n<((c.R*c.B*c.M-c.res)*c.C))(d:List UInt8)(J:d.length=64)(m:Nat)(a b e f i j k o:Int)(U:ew 3 (n:Int) d m a b e f i j k o=true)(P:m<18446744073709551616)(O:m≠0):aa Zl 16 #[pt g 0,.agg (sV 3 (n:Int) d m a b e f i j k o)] [pk (a7 g q B G C F z H y r v D c x)] [0] (λ_=>[pk (a7 g q B G C F z H y r v D c (qY c ({x with st:=x.st+1}:Mc) n m (⟨3,(n:Int),d,m,a,b,e,f,i,j,k,o⟩:St):Mc))]) (λ_=> .agg (([i6 (cc c x.x n m),i6 0]:List Value)++rB 64 z6).toArray):=aa.pkZ Tryz.func16 λL T=>by
 obtain⟨gi,I,vs,rfl⟩:=T;refine⟨[0,1,2,3,4],λE=>[ob g #[pt r 0,pt q 0,.map (some gi),I,(E.val 0),iN x.sc,i6 ((x.st+1:Nat):Int)] 114,pk (aV q B G C F z H y r v D c (bE c x.x n d m)),cV (b3 x.id (n:Int) (fI (x.id (n:Int)) d m)) gi,gp I x.inj,c6 (E.val 0) (x.sv++([(⟨3,(n:Int),d,m,a,b,e,f,i,j,k,o,(cc c x.x n m),0,Zm 64 0,(x.id (n:Int)),x.x.V.l.length,(bE c x.x n d m).V.l.length⟩:Sv)]))],?_,rfl,λE=>⟨rfl,rfl,⟨_,_,_,rfl⟩⟩⟩;have h:=u.ct;have W:=h.cf;have M:=u.il;have Q:x.sv.length≤1000:=Zn u.sl R;have X:x.inj.length≤1000:=Zn u.jl R;have Z:=u.sc;have hst:=u.st;exact fG Tryz.func16 λw cs=>ra (λt=>[(3,pt (B0 t) 0),(4,pt (B1 t) 0)]) (λt=>[ob (B0 t) (sV 3 (n:Int) d m a b e f i j k o) 50,ob (B1 t) (([i6 0,i6 0]:List Value)++rB 64 z6).toArray 53]) λt=>rF [(0,.l 5),(1,.c [] [] (aa.v ((ku 3 (n:Int) d m a b e f i j k o (by(simp only[LL,J,J];done)))) λ_=>ALca Value.bool (show(ew 3 (n:Int) d m a b e f i j k o)=true from(by exact U))))] 9 (rs [(3,.l 0),(4,ad x.st 1),(7,.s 0)] 0 (ob g #[pt r 0,pt q 0,.map (some gi),I,vs,iN x.sc,i6 ((x.st+1:Nat):Int)] 114) (r0 [(1,.l 5)] [(19,i6 3)] [] (rF [] 20 (rF [] 40 (rF [] 48 (rF [] 56 (rF [] 64 (rr (λ_=>[(1,.l 5),(2,.c [0,1,2,4] [0,1,2,4] (Wg g q B G C F z H y r v D c x.x _ _ h hA S n Y d (by(simp only[LL,J,J];done)) m a b e f i j k o P O x.id M x.sv Q x.sc (x.st+1) gi I vs)),(3,.s 6)]) N0 [] (λp L=>((((L.set 0 (ob g #[pt r 0,pt q 0,.map (some gi),I,((p 2).val 0),iN x.sc,i6 ((x.st+1:Nat):Int)] 114)).set 1 ((pk (aV q B G C F z H y r v D c (bE c x.x n d m))))).set 2 (cV (b3 x.id (n:Int) (fI (x.id (n:Int)) d m)) gi)).set 4 (c6 ((p 2).val 0) (x.sv++([(⟨3,(n:Int),d,m,a,b,e,f,i,j,k,o,(cc c x.x n m),0,Zm 64 0,(x.id (n:Int)),x.x.V.l.length,(bE c x.x n d m).V.l.length⟩:Sv)])))).set 6 (ob (B1 t) (([i6 (cc c x.x n m),i6 0]:List Value)++rB 64 z6).toArray 53)) λp=>lf (.l [] [] [((p 2).val 0)]) [0,1,2,3,4] [] [6]))))))))
theorem Wu(g a y D z C v F u b t B:Nat)(c:Cf)(x:Mc)(K A N:Nat)(r:dF c x K A N)(hA:A≤700000)(M:N≤1000)(O:K+3≤1000000000)(n:Nat)(T:n<((c.R*c.B*c.M-c.res)*c.C))(d:List UInt8)(G:d.length=64)(f i j k m o p q:Int)(Q:ew 3 (n:Int) d 0 f i j k m o p q=true):aa Zl 16 #[pt g 0,.agg (sV 3 (n:Int) d 0 f i j k m o p q)] [pk (a7 g a y D z C v F u b t B c x)] [0] (λ_=>[pk (a7 g a y D z C v F u b t B c (Hv c ({x with st:=x.st+1}:Mc) n d:Mc))]) (λ_=> .agg (([i6 (cc c x.x n 0),i6 0]:List Value)++rB 64 z6).toArray):=aa.pkZ Tryz.func16 λL P=>by
 obtain⟨gi,H,vs,rfl⟩:=P;refine⟨[0,1,2,3,4],λ_=>[ob g #[pt b 0,pt a 0,.map (some gi),H,vs,iN x.sc,i6 ((x.st+1:Nat):Int)] 114,pk (aV a y D z C v F u b t B c (bE c x.x n d 0)),cV x.id gi,gp H x.inj,c6 vs x.sv],?_,rfl,λE=>⟨rfl,rfl,⟨_,_,_,rfl⟩⟩⟩;have h:=r.ct;have R:=h.cf;have I:=r.il;have J:x.sv.length≤1000:=Zn r.sl M;have S:x.inj.length≤1000:=Zn r.jl M;have U:=r.sc;have V:=r.st;exact fG Tryz.func16 λw cs=>ra (λe=>[(3,pt (B0 e) 0),(4,pt (B1 e) 0)]) (λe=>[ob (B0 e) (sV 3 (n:Int) d 0 f i j k m o p q) 50,ob (B1 e) (([i6 0,i6 0]:List Value)++rB 64 z6).toArray 53]) λe=>rF [(0,.l 5),(1,.c [] [] (aa.v ((ku 3 (n:Int) d 0 f i j k m o p q (by(simp only[LL,G,G];done)))) λ_=>ALca Value.bool (show(ew 3 (n:Int) d 0 f i j k m o p q)=true from(by exact Q))))] 9 (rs [(3,.l 0),(4,ad x.st 1),(7,.s 0)] 0 (ob g #[pt b 0,pt a 0,.map (some gi),H,vs,iN x.sc,i6 ((x.st+1:Nat):Int)] 114) (r0 [(1,.l 5)] [(19,i6 3)] [] (rF [] 20 (rF [] 40 (rF [] 48 (rF [] 56 (rF [] 64 (rr (λ_=>[(1,.l 5),(2,.c [0,1,2,4] [0,1,2,4] (Wh g a y D z C v F u b t B c x.x _ _ h hA O n T d (by(simp only[LL,G,G];done)) f i j k m o p q x.id I x.sv J x.sc (x.st+1) gi H vs)),(3,.s 6)]) N0 [] (λ_ L=>(L.set 1 ((pk (aV a y D z C v F u b t B c (bE c x.x n d 0))))).set 6 (ob (B1 e) (([i6 (cc c x.x n 0),i6 0]:List Value)++rB 64 z6).toArray 53)) λW=>lf ab.zero [0,1,2,3,4] [] [6]))))))))
theorem Wv(g p y D z C v F u q t B:Nat)(c:Cf)(x:Mc)(K A N:Nat)(r:dF c x K A N)(hA:A≤700000)(M:N≤1000)(O:K+3≤1000000000)(ln:Int)(T:bL ln ((((c.R*c.B*c.M-c.res)*c.C):Nat):Int)=false)(d:List UInt8)(G:d.length=64)(m:Nat)(b e f i j k n o:Int)(Q:ew 1 ln d m b e f i j k n o=true):aa Zl 16 #[pt g 0,.agg (sV 1 ln d m b e f i j k n o)] [pk (a7 g p y D z C v F u q t B c x)] [0] (λ_=>[pk (a7 g p y D z C v F u q t B c ({x with st:=x.st+1}:Mc))]) (λ_=> .agg (([i6 30,i6 0]:List Value)++rB 64 z6).toArray):=aa.pkZ Tryz.func16 λL P=>by
 obtain⟨gi,H,vs,rfl⟩:=P;refine⟨[0,1,2,3,4],λ_=>[ob g #[pt q 0,pt p 0,.map (some gi),H,vs,iN x.sc,i6 ((x.st+1:Nat):Int)] 114,pk (aV p y D z C v F u q t B c x.x),cV x.id gi,gp H x.inj,c6 vs x.sv],?_,rfl,λE=>⟨rfl,rfl,⟨_,_,_,rfl⟩⟩⟩;have h:=r.ct;have R:=h.cf;have I:=r.il;have J:x.sv.length≤1000:=Zn r.sl M;have S:x.inj.length≤1000:=Zn r.jl M;have U:=r.sc;have V:=r.st;exact fG Tryz.func16 λw cs=>ra (λa=>[(3,pt (B0 a) 0),(4,pt (B1 a) 0)]) (λa=>[ob (B0 a) (sV 1 ln d m b e f i j k n o) 50,ob (B1 a) (([i6 0,i6 0]:List Value)++rB 64 z6).toArray 53]) λa=>rF [(0,.l 5),(1,.c [] [] (aa.v ((ku 1 ln d m b e f i j k n o (by(simp only[LL,G,G];done)))) λ_=>ALca Value.bool (show(ew 1 ln d m b e f i j k n o)=true from(by exact Q))))] 9 (rs [(3,.l 0),(4,ad x.st 1),(7,.s 0)] 0 (ob g #[pt q 0,pt p 0,.map (some gi),H,vs,iN x.sc,i6 ((x.st+1:Nat):Int)] 114) (r0 [(1,.l 5)] [(19,i6 1)] [] (rF [] 20 (rF [] 40 (rF [] 48 (rF [] 56 (rF [] 64 (rs [(1,.l 5),(2,.c [0,1,2,4] [0,1,2,4] (Wc g p y D z C v F u q t B c x.x _ _ h hA O ln T d (by(simp only[LL,G,G];done)) m b e f i j k n o x.id I x.sv J x.sc (x.st+1) gi H vs)),(3,.s 6)] 6 (ob (B1 a) (([i6 30,i6 0]:List Value)++rB 64 z6).toArray 53) (lf ab.zero [0,1,2,3,4] [] [6])))))))))
theorem Ww(g p y D z C v F u q t B:Nat)(c:Cf)(x:Mc)(K A N:Nat)(r:dF c x K A N)(hA:A≤700000)(M:N≤1000)(O:K+3≤1000000000)(ln:Int)(T:bL ln ((((c.R*c.B*c.M-c.res)*c.C):Nat):Int)=false)(d:List UInt8)(G:d.length=64)(m:Nat)(b e f i j k n o:Int)(Q:ew 2 ln d m b e f i j k n o=true):aa Zl 16 #[pt g 0,.agg (sV 2 ln d m b e f i j k n o)] [pk (a7 g p y D z C v F u q t B c x)] [0] (λ_=>[pk (a7 g p y D z C v F u q t B c ({x with st:=x.st+1}:Mc))]) (λ_=> .agg (([i6 30,i6 0]:List Value)++rB 64 z6).toArray):=aa.pkZ Tryz.func16 λL P=>by
 obtain⟨gi,H,vs,rfl⟩:=P;refine⟨[0,1,2,3,4],λ_=>[ob g #[pt q 0,pt p 0,.map (some gi),H,vs,iN x.sc,i6 ((x.st+1:Nat):Int)] 114,pk (aV p y D z C v F u q t B c x.x),cV x.id gi,gp H x.inj,c6 vs x.sv],?_,rfl,λE=>⟨rfl,rfl,⟨_,_,_,rfl⟩⟩⟩;have h:=r.ct;have R:=h.cf;have I:=r.il;have J:x.sv.length≤1000:=Zn r.sl M;have S:x.inj.length≤1000:=Zn r.jl M;have U:=r.sc;have V:=r.st;exact fG Tryz.func16 λw cs=>ra (λa=>[(3,pt (B0 a) 0),(4,pt (B1 a) 0)]) (λa=>[ob (B0 a) (sV 2 ln d m b e f i j k n o) 50,ob (B1 a) (([i6 0,i6 0]:List Value)++rB 64 z6).toArray 53]) λa=>rF [(0,.l 5),(1,.c [] [] (aa.v ((ku 2 ln d m b e f i j k n o (by(simp only[LL,G,G];done)))) λ_=>ALca Value.bool (show(ew 2 ln d m b e f i j k n o)=true from(by exact Q))))] 9 (rs [(3,.l 0),(4,ad x.st 1),(7,.s 0)] 0 (ob g #[pt q 0,pt p 0,.map (some gi),H,vs,iN x.sc,i6 ((x.st+1:Nat):Int)] 114) (r0 [(1,.l 5)] [(19,i6 2)] [] (rF [] 20 (rF [] 40 (rF [] 48 (rF [] 56 (rF [] 64 (rs [(1,.l 5),(2,.c [0,1,2,4] [0,1,2,4] (Wd g p y D z C v F u q t B c x.x _ _ h hA O ln T d (by(simp only[LL,G,G];done)) m b e f i j k n o x.id I x.sv J x.sc (x.st+1) gi H vs)),(3,.s 6)] 6 (ob (B1 a) (([i6 30,i6 0]:List Value)++rB 64 z6).toArray 53) (lf ab.zero [0,1,2,3,4] [] [6])))))))))
theorem Wx(g p y D z C v F u q t B:Nat)(c:Cf)(x:Mc)(K A N:Nat)(r:dF c x K A N)(hA:A≤700000)(M:N≤1000)(O:K+3≤1000000000)(ln:Int)(T:bL ln ((((c.R*c.B*c.M-c.res)*c.C):Nat):Int)=false)(d:List UInt8)(G:d.length=64)(m:Nat)(b e f i j k n o:Int)(Q:ew 3 ln d m b e f i j k n o=true):aa Zl 16 #[pt g 0,.agg (sV 3 ln d m b e f i j k n o)] [pk (a7 g p y D z C v F u q t B c x)] [0] (λ_=>[pk (a7 g p y D z C v F u q t B c ({x with st:=x.st+1}:Mc))]) (λ_=> .agg (([i6 30,i6 0]:List Value)++rB 64 z6).toArray):=aa.pkZ Tryz.func16 λL P=>by
 obtain⟨gi,H,vs,rfl⟩:=P;refine⟨[0,1,2,3,4],λ_=>[ob g #[pt q 0,pt p 0,.map (some gi),H,vs,iN x.sc,i6 ((x.st+1:Nat):Int)] 114,pk (aV p y D z C v F u q t B c x.x),cV x.id gi,gp H x.inj,c6 vs x.sv],?_,rfl,λE=>⟨rfl,rfl,⟨_,_,_,rfl⟩⟩⟩;have h:=r.ct;have R:=h.cf;have I:=r.il;have J:x.sv.length≤1000:=Zn r.sl M;have S:x.inj.length≤1000:=Zn r.jl M;have U:=r.sc;have V:=r.st;exact fG Tryz.func16 λw cs=>ra (λa=>[(3,pt (B0 a) 0),(4,pt (B1 a) 0)]) (λa=>[ob (B0 a) (sV 3 ln d m b e f i j k n o) 50,ob (B1 a) (([i6 0,i6 0]:List Value)++rB 64 z6).toArray 53]) λa=>rF [(0,.l 5),(1,.c [] [] (aa.v ((ku 3 ln d m b e f i j k n o (by(simp only[LL,G,G];done)))) λ_=>ALca Value.bool (show(ew 3 ln d m b e f i j k n o)=true from(by exact Q))))] 9 (rs [(3,.l 0),(4,ad x.st 1),(7,.s 0)] 0 (ob g #[pt q 0,pt p 0,.map (some gi),H,vs,iN x.sc,i6 ((x.st+1:Nat):Int)] 114) (r0 [(1,.l 5)] [(19,i6 3)] [] (rF [] 20 (rF [] 40 (rF [] 48 (rF [] 56 (rF [] 64 (rs [(1,.l 5),(2,.c [0,1,2,4] [0,1,2,4] (We g p y D z C v F u q t B c x.x _ _ h hA O ln T d (by(simp only[LL,G,G];done)) m b e f i j k n o x.id I x.sv J x.sc (x.st+1) gi H vs)),(3,.s 6)] 6 (ob (B1 a) (([i6 30,i6 0]:List Value)++rB 64 z6).toArray 53) (lf ab.zero [0,1,2,3,4] [] [6])))))))))
def di(c:Cf):Nat:=(c.R*c.B*c.M-c.res)*c.C
abbrev wY(s:St):Fa:=⟨s.f0,s.f1,s.f2,s.f3,s.f4,s.f5,s.f6,s.f7⟩
abbrev gM:List UInt8:=Zm 64 0
def jc(c:Cf)(x:Mc)(s:St):Mc:=
 if bL s.ln ((di c:Nat):Int)=true then
  if s.k=1 then Hu c x s.ln.toNat s
  else if s.k=2 then qY c x s.ln.toNat 18446744073709551615 s
  else if s.m=0 then Hv c x s.ln.toNat s.d
  else qY c x s.ln.toNat s.m s
 else x
def wZ(c:Cf)(x:Mc)(s:St):An:=
 if bL s.ln ((di c:Nat):Int)=true then
  if s.k=1 then⟨cb (bC c x.x (aA x.x s.ln.toNat)),0,cx c x.x (aA x.x s.ln.toNat)⟩
  else if s.k=2 then⟨cc c x.x s.ln.toNat 18446744073709551615,0,gM⟩
  else if s.m=0 then⟨30,0,gM⟩
  else⟨cc c x.x s.ln.toNat s.m,0,gM⟩
 else⟨30,0,gM⟩
def dn(c:Cf)(x:Mc)(s:St):Mc:=
 if sR s=true then
  if s.k=4 then{x with x:=lM c x.x,sc:=x.sc+1,st:=x.st+1}
  else if s.k=5 then if x.x.s.r.j.A=0 then{x with st:=x.st+1} else{x with x:=iM c x.x,st:=x.st+1}
  else if s.k=6 then{x with x:=qV x.x,st:=x.st+1}
  else if s.k=7 then{x with x:=qW x.x,st:=x.st+1}
  else if s.k=8 then{x with x:={x.x with V:=nG c x.x.V (wY s)},inj:=nK c x.x (wY s) x.inj x.sc,st:=x.st+1}
  else jc c {x with st:=x.st+1} s
 else x
def dT(c:Cf)(x:Mc)(s:St):An:=
 if sR s=true then
  if s.k=4 then⟨cb (bC c (jH c x.x) (aA (jH c x.x) x.x.U)),(x.x.U:Int),gM⟩
  else if s.k=5 then if x.x.s.r.j.A=0 then⟨51,0,gM⟩ else⟨0,0,gM⟩
  else if s.k=6 then⟨0,0,gM⟩
  else if s.k=7 then⟨0,(x.x.s.g.l.length:Int),gM⟩
  else if s.k=8 then⟨ia c x.x.V.D (wY s),0,gM⟩
  else wZ c x s
 else⟨60,0,gM⟩
structure StOk (s:St):Prop where
 d:s.d.length=64
 m:s.m<18446744073709551616
theorem Wy(g e l r o q j t i f h p:Nat)(c:Cf)(x:Mc)(K A N:Nat)(u:dF c x K A N)(hA:A≤700000)(v:N≤1000)(X:K+260≤1000000000)(ht:x.x.s.time<1099511627776)(s:St)(hs:StOk s):aa Zl 16 #[pt g 0,.agg (eSt s).toArray] [pk (a7 g e l r o q j t i f h p c x)] [0] (λ_=>[pk (a7 g e l r o q j t i f h p c (dn c x s))]) (λ_=> .agg (wX (dT c x s)).toArray):=by
 obtain⟨w,hm⟩:=hs;by_cases a:sR s=true
 ·have Y:=V6 a;unfold dn dT;rw[ALifp a,ALifp a];obtain⟨k,J,d,m,y,z,B,C,D,F,G,H⟩:=s;have b:K+3≤1000000000:=by omega
  by_cases R:k=4
  ·subst R;exact Wk g e l r o q j t i f h p c x K A N u hA v b J d w m y z B C D F G H a
  by_cases S:k=5
  ·subst S;by_cases I:x.x.s.r.j.A=0
   ·rw[ALifn (show ¬(5:Int)=4 by decide),ALifp rfl,ALifp I,ALifn (show ¬(5:Int)=4 by decide),ALifp rfl,ALifp I];exact Wm g e l r o q j t i f h p c x K A N u hA v I J d w m y z B C D F G H a
   ·rw[ALifn (show ¬(5:Int)=4 by decide),ALifp rfl,ALifn I,ALifn (show ¬(5:Int)=4 by decide),ALifp rfl,ALifn I];exact Wl g e l r o q j t i f h p c x K A N u hA v X I J d w m y z B C D F G H a
  by_cases T:k=6
  ·subst T;exact Wn g e l r o q j t i f h p c x K A N u hA v ht J d w m y z B C D F G H a
  by_cases U:k=7
  ·subst U;exact Wo g e l r o q j t i f h p c x K A N u hA v J d w m y z B C D F G H a
  by_cases V:k=8
  ·subst V;exact Wp g e l r o q j t i f h p c x K A N u hA v J d w m y z B C D F G H a
  rw[ALifn R,ALifn S,ALifn T,ALifn U,ALifn V,ALifn R,ALifn S,ALifn T,ALifn U,ALifn V];unfold jc wZ;have Z:1≤k∧k≤8:=Y;by_cases I:bL J ((di c:Nat):Int)=true
  ·obtain⟨W,b2⟩:=mc.1 I;obtain⟨n,rfl⟩: ∃n:Nat,J=(n:Int):=⟨J.toNat,(Int.toNat_of_nonneg W).symm⟩;have O:n<di c:=by omega
   rw[ALifp I,ALifp I];by_cases P:k=1
   ·subst P;exact Wq g e l r o q j t i f h p c x K A N u hA v b n O d w m y z B C D F G H a
   by_cases Q:k=2
   ·subst Q;exact Ws g e l r o q j t i f h p c x K A N u hA v b n O d w m y z B C D F G H a
   obtain rfl:k=3:=by omega
   by_cases L:m=0
   ·subst L;exact Wu g e l r o q j t i f h p c x K A N u hA v b n O d w y z B C D F G H a
   ·rw[ALifn (show ¬(3:Int)=1 by decide),ALifn (show ¬(3:Int)=2 by decide),ALifn L,ALifn (show ¬(3:Int)=1 by decide),ALifn (show ¬(3:Int)=2 by decide),ALifn L];exact Wt g e l r o q j t i f h p c x K A N u hA v b n O d w m y z B C D F G H a hm L
  ·rw[ALifn I,ALifn I];have M:bL J ((di c:Nat):Int)=false:=by simpa using I
   by_cases P:k=1
   ·subst P;exact Wv g e l r o q j t i f h p c x K A N u hA v b J M d w m y z B C D F G H a
   by_cases Q:k=2
   ·subst Q;exact Ww g e l r o q j t i f h p c x K A N u hA v b J M d w m y z B C D F G H a
   obtain rfl:k=3:=by omega
   exact Wx g e l r o q j t i f h p c x K A N u hA v b J M d w m y z B C D F G H a
 ·unfold dn dT;rw[ALifn a,ALifn a];exact Wj g e l r o q j t i f h p c x K A N u hA v s.k s.ln s.d w s.m s.f0 s.f1 s.f2 s.f3 s.f4 s.f5 s.f6 s.f7 (by simpa [sR] using a)
theorem dF.mono{c:Cf}{x:Mc}{K A N d b e:Nat}(h:dF c x K A N)(f:K≤d)(hA:A≤b)(a:N≤e):dF c x d b e:=⟨h.ct.mono f hA,h.il,Zn h.jl a,Zn h.sl a,Zn h.sc a,Zn h.st a⟩
theorem AW{c:Cf}{i:Int}(h:bL i ((di c:Nat):Int)=true):i.toNat<(c.R*c.B*c.M-c.res)*c.C:=by
 have:=mc.1 h;unfold di at this;omega
theorem Wz(c:Cf)(y:Ct)(f:Fa)(l:List Ij)(sc:Nat):(nK c y f l sc).length≤l.length+1:=by
 unfold nK;cases ia c y.V.D f==0
 ·exact ZM _
 ·exact aam Zx
theorem WA{c:Cf}{x:Mc}{K A N:Nat}(h:dF c x K A N){s:St}(hs:StOk s)(b:K+3≤1000000000):dF c (jc c x s) (K+3) (A+2) (N+1):=by
 have a:dF c x (K+3) (A+2) (N+1):=h.mono Om Om Om;unfold jc
 split
 ·rename_i f;have d:=AW f;have e: ∀(l:List UInt8),l.length=64→∀k,(b3 x.id ((s.ln.toNat:Nat):Int) l k).length=64:=λl g k=>tA h.il _ g k;have mg: ∀m,(fI (x.id ((s.ln.toNat:Nat):Int)) s.d m).length=64:=λm=>(wG ..).trans (h.il _);have ls: ∀y:Sv,(x.sv++[y]).length≤N+1:=λy=>by rw[Zx];exact Zs h.sl
  split
  ·exact⟨G6 h.ct d _ b,h.il,a.jl,ls _,a.sc,a.st⟩
  ·split
   ·exact⟨AS h.ct d hs.d _ b,e _ (mg _),a.jl,ls _,a.sc,a.st⟩
   ·split
    ·exact⟨AS h.ct d hs.d _ b,h.il,a.jl,a.sl,a.sc,a.st⟩
    ·exact⟨AS h.ct d hs.d _ b,e _ (mg _),a.jl,ls _,a.sc,a.st⟩
 ·exact a
theorem WB{c:Cf}{x:Mc}{K A N:Nat}(h:dF c x K A N){s:St}(hs:StOk s)(f:K+260≤1000000000)(ht:x.x.s.time<1099511627776):dF c (dn c x s) (K+260) (A+3) (N+1):=by
 have a:dF c x (K+260) (A+3) (N+1):=h.mono Om Om Om;have d: ∀{y:Ct},ba c y (K+260) (A+3)→dF c {x with x:=y,st:=x.st+1} (K+260) (A+3) (N+1):=λg=>⟨g,a.il,a.jl,a.sl,a.sc,Zs h.st⟩;unfold dn
 split
 ·split
  ·exact⟨(Vl h.ct Om).mono Om Om,a.il,a.jl,a.sl,Zs h.sc,Zs h.st⟩
  ·split
   ·split
    ·exact d a.ct
    ·rename_i i;exact d (Vy h.ct i f)
   ·split
    ·exact d ((Vz h.ct ht).mono Om Om)
    ·split
     ·exact d ((VA h.ct).mono Om Om)
     ·split
      ·have g:ba c {x.x with V:=nG c x.x.V (wY s)} K A:=⟨h.ct.cf,h.ct.s,UF h.ct.D _,h.ct.gl,h.ct.vl,h.ct.nl,h.ct.ly,h.ct.run,h.ct.U,h.ct.time⟩;exact⟨g.mono Om Om,a.il,Zn (Wz ..) (Zs h.jl),a.sl,a.sc,Zs h.st⟩
      ·have g:dF c {x with st:=x.st+1} K A (N+1):=⟨h.ct,h.il,Zv h.jl,Zv h.sl,Zv h.sc,Zs h.st⟩;have e:=WA (x:={x with st:=x.st+1}) (N:=N+1) g hs Om;have b:(jc c {x with st:=x.st+1} s).sv.length≤N+1∧(jc c {x with st:=x.st+1} s).inj=x.inj∧(jc c {x with st:=x.st+1} s).sc=x.sc∧(jc c {x with st:=x.st+1} s).st=x.st+1:=by
        have ls: ∀y:Sv,(x.sv++[y]).length≤N+1:=λy=>by rw[Zx];exact Zs h.sl
        unfold jc
        split
        ·split
         ·exact⟨ls _,rfl,rfl,rfl⟩
         ·split
          ·exact⟨ls _,rfl,rfl,rfl⟩
          ·split
           ·exact⟨a.sl,rfl,rfl,rfl⟩
           ·exact⟨ls _,rfl,rfl,rfl⟩
        ·exact⟨a.sl,rfl,rfl,rfl⟩
       exact⟨e.ct.mono Om Om,e.il,by rw[b.2.1];exact a.jl,b.1,by rw[b.2.2.1];exact a.sc,by rw[b.2.2.2];exact Zs h.st⟩
 ·exact a
theorem WC(c:Cf)(x:Mc)(s:St):(jc c x s).x.s.time=x.x.s.time:=by
 unfold jc
 split
 ·split
  ·rfl
  ·split
   ·rfl
   ·split<;>rfl
 ·rfl
theorem WD(c:Cf)(x:Mc)(s:St):(dn c x s).x.s.time≤x.x.s.time+1:=by
 unfold dn
 split
 ·split
  ·exact ZM _
  ·split
   ·split
    ·exact ZM _
    ·exact ZM _
   ·split
    ·exact ZZ _
    ·split
     ·exact ZM _
     ·split
      ·exact ZM _
      ·rw[WC];exact ZM _
 ·exact ZM _
def qZ(M C r j:Nat):Nat:=bI r (j/C/M) (j/C%M) (j%C)
theorem WE{B M C b w c:Nat}(k:b<B)(f:w<M)(d:c<C):b*(M*C)+w*C+c<B*M*C∧(b*(M*C)+w*C+c)/C/M=b∧(b*(M*C)+w*C+c)/C%M=w∧(b*(M*C)+w*C+c)%C=c:=by
 have e:b*(M*C)+w*C+c=(b*M+w)*C+c:=by rw[Nat.add_mul,Zw]
 have a:(b*(M*C)+w*C+c)/C=b*M+w:=by
  rw[e,ZA,Z8 Om,ZC d,Z2]
 have g:(b*M+w)/M=b:=by rw[ZA,Z8 Om,ZC f,Z2]
 have h:(b*M+w)%M=w:=by rw[ZA,Z9,ZO f]
 refine⟨?_,by rw[a,g],by rw[a,h],by rw[e,ZA,Z9,ZO d]⟩;rw[e];have i:b*M+w+1≤B*M:=by
  have:(b+1)*M≤B*M:=ZP M k;rw[ZT] at this;omega
 have j:(b*M+w+1)*C≤B*M*C:=ZP C i;rw[ZT] at j;omega
theorem WG{B M C r b w c:Nat}(g:b<B)(i:w<M)(h:c<C):((Zt (B*M*C)).map (qZ M C r))[b*(M*C)+w*C+c]? =some (bI r b w c):=by
 obtain⟨a,d,e,f⟩:=WE g i h;rw[ZV,ZH a,Z3];unfold qZ;rw[d,e,f]
theorem WH(a p1 p2 p3:Nat)(h0:a<8)(h1:p1<16)(h2:p2<1024)(b:p3<64):aa Zl 102 #[.agg #[iN a,iN p1,iN p2,iN p3]] [] [] N0 (λ_=>i6 ((bI a p1 p2 p3:Nat):Int)):=by
 have:=E6 (a:Int) p1 p2 p3 Om Om Om Om Om Om Om Om;rwa [vQ] at this
theorem WI(m n R S B M C r:Nat)(s:cG R S B M C)(N:r<R+S):ft 5 Zl 101 #[pt m 0,pt n 0] (λ(i:Nat)=>#[iN i]) ((Zt (B*M*C)).map (qZ M C r)) (ZQ [[(m,.cells #[iN R,iN S,iN B,iN M,iN C] 23 (0,0))],[(n,.cells #[iN r] 3 (0,0))]]):=by
 have a:=s.bd;have q:=a.r8;have h:=a.b16;have G:=a.m10;have H:=a.c64;refine gi (KO:=[[(m,.cells #[iN R,iN S,iN B,iN M,iN C] 23 (0,0))],[(n,.cells #[iN r] 3 (0,0))]]) Tryz.func101 (λO T Q X V t J I=>?_);refine rF [(0,.l 0),(1,.l 1),(3,.c [] [] (aa.v ((sX R S B M C s (r:Int) 0 0 0)) λ_=>ALca Value.bool (show(hold R S B M C (r:Int) 0 0 0)=true from(by exact(gR.hold (p1:=0) (p2:=0) (p3:=0) ⟨N,a.b1,a.m1,a.c1⟩)))))] 11 (r0 [(1,.l 0)] [(13,iN B),(14,i6 0)] [] ?_);refine j9 (λb=>b≤B) (λb=>[(14,iN b)]) (λ_ L=>L) (λb=>B-b) (λb=>b*(M*C)) 0 Om (by(rw[Z1]);exact I) Kr Kr (λb U W K k=>?_);refine r0 [] [(15,.bool (decide ((b:Int)<(B:Int))))] [] ?_;refine cj (b:Int) (B:Int) (λq o=>?_) λq o=>?_
 ·refine r0 [] [(4,iN b)] [] (r0 [(1,.l 0)] [(18,iN M),(19,i6 0)] [] ?_);refine j9 (λw=>w≤M) (λw=>[(19,iN w)]) (λ_ L=>L) (λw=>M-w) (λw=>b*(M*C)+w*C) 0 Om (by(rw[Z1,Z2]);exact k) Kr Kr (λw x A u d=>?_);refine r0 [] [(20,.bool (decide ((w:Int)<(M:Int))))] [] ?_;refine cj (w:Int) (M:Int) (λh f=>?_) λh f=>?_
  ·refine r0 [] [(5,iN w)] [] (r0 [(1,.l 0)] [(23,iN C),(24,i6 0)] [] ?_);refine j9 (λc=>c≤C) (λc=>[(24,iN c)]) (λ_ L=>L) (λc=>C-c) (λc=>b*(M*C)+w*C+c) 0 Om d Kr Kr (λc y D v e=>?_);refine r0 [] [(25,.bool (decide ((c:Int)<(C:Int))))] [] ?_;refine cj (c:Int) (C:Int) (λp g=>?_) λp g=>?_
   ·refine r0 [] [(6,iN c)] [] ?_;refine iy t J e 7 (λ_=>[(1,.l 1),(6,.c [] [] (WH r b w c Om Om Om Om))]) (λ_=>[(27,.func (.yield O) #[] #[]),(33,i6 ((bI r b w c:Nat):Int))]) [] (λ_ L=>L) N0 [0,1] (WG Om Om Om) (λP z F j=>?_);refine cF _ rfl (r0 [(0,ad c 1)] [(24,i6 ((c+1:Nat):Int))] [24] ?_);exact iR (c+1) Om j Om Kr [0,1] Kr
   obtain rfl:C=c:=by omega
   refine ka ?_;refine r0 [(0,ad w 1)] [(19,i6 ((w+1:Nat):Int))] [19] ?_;exact iR (w+1) Om (by(rw[ZT,←Nat.add_assoc]);exact e) Om Kr [0,1] Kr
  obtain rfl:M=w:=by omega
  refine ka ?_;refine r0 [(0,ad b 1)] [(14,i6 ((b+1:Nat):Int))] [14] ?_;exact iR (b+1) Om (by(rw[ZT]);exact d) Om Kr [0,1] Kr
 obtain rfl:B=b:=by omega
 refine ka ?_;exact k7 t k (by rw[ZE,Zu,Zw]) [] [0,1]
theorem WJ(R S B M C r:Nat):aa Zl 66 #[.agg #[iN R,iN S,iN B,iN M,iN C],iN r] [] [] (λE=>[ob (E.y 0) #[iN R,iN S,iN B,iN M,iN C] 23,ob (E.y 1) #[iN r] 3]) (λE=> .func (.func 101) #[] #[pt ((E.y 0)) 0,pt ((E.y 1)) 0]):=by
 exact fG Tryz.func66 λw cs=>ra (λa=>[(2,pt (B0 a) 0),(3,pt (B1 a) 0),(4,.nilFunc)]) (λa=>[ob (B0 a) #[iN R,iN S,iN B,iN M,iN C] 23,ob (B1 a) #[iN r] 3]) λa=>r0 [] [(4,.func (.func 101) #[] #[pt (B0 a) 0,pt (B1 a) 0])] [4] (lf (.l [(a 0).y 0,(a 1).y 0] [] []) [0,1] [] [])
theorem WK(f:Nat)(v:Value)(l:List Sv)(bs:ay)(h:aK qX v l bs)(F:l.length≤1000000):ft 5 Zl 133 #[pt f 0] (λ(x:Sv)=>#[.agg ([i6 (x.k),i6 (x.ln)]++rB 64 (x.d)++[u6 ((x.m:Nat):Int),i6 (x.f0),i6 (x.f1),i6 (x.f2),i6 (x.f3),i6 (x.f4),i6 (x.f5),i6 (x.f6),i6 (x.f7),i6 (x.e),i6 (x.n)]++rB 64 (x.l)++rB 64 (x.w)++[iN x.fi,iN x.la]).toArray]) (l) (ZQ [[(f,.cells #[v] 112 (0,0))],bs]):=by
 refine gi (KO:=[[(f,.cells #[v] 112 (0,0))],bs]) Tryz.func133 (λu z y D B i r q=>?_);refine r0 [(0,.l 0),(1,eP h.1 1)] [(5,v),(6,iN l.length),(7,i6 0)] [] ?_;refine j9 (λk=>k≤l.length) (λk=>[(7,iN k)]) (λ_ L=>L) (λk=>l.length-k) (λk=>k) 0 Om q Kr Kr (λk A C t b=>?_);refine r0 [] [(8,.bool (decide ((k:Int)<(l.length:Int))))] [] ?_;refine cj (k:Int) (l.length:Int) (λp g=>?_) λp g=>?_
 ·refine rr (λ_=>[(0,fv h.1 1 k 207),(1,nb wV h.1 1 k 0 207),(3,.s 2)]) (λc=>[(4,pt (B2 c) 0)]) [] (λc L=>L++[ob (B2 c) (([i6 ((l.getD k aX).k),i6 ((l.getD k aX).ln)]:List Value)++rB 64 ((l.getD k aX).d)++([u6 (((l.getD k aX).m:Nat):Int),i6 ((l.getD k aX).f0),i6 ((l.getD k aX).f1),i6 ((l.getD k aX).f2),i6 ((l.getD k aX).f3),i6 ((l.getD k aX).f4),i6 ((l.getD k aX).f5),i6 ((l.getD k aX).f6),i6 ((l.getD k aX).f7),i6 ((l.getD k aX).e),i6 ((l.getD k aX).n)]:List Value)++rB 64 ((l.getD k aX).l)++rB 64 ((l.getD k aX).w)++([i6 (((l.getD k aX).fi:Nat):Int),i6 (((l.getD k aX).la:Nat):Int)]:List Value)).toArray 149]) λc=>?_;refine iy i r b 2 (λ_=>[(1,.l 2)]) (λ_=>[(11,.func (.yield u) #[] #[]),(12,.agg (([i6 ((l.getD k aX).k),i6 ((l.getD k aX).ln)]:List Value)++rB 64 ((l.getD k aX).d)++([u6 (((l.getD k aX).m:Nat):Int),i6 ((l.getD k aX).f0),i6 ((l.getD k aX).f1),i6 ((l.getD k aX).f2),i6 ((l.getD k aX).f3),i6 ((l.getD k aX).f4),i6 ((l.getD k aX).f5),i6 ((l.getD k aX).f6),i6 ((l.getD k aX).f7),i6 ((l.getD k aX).e),i6 ((l.getD k aX).n)]:List Value)++rB 64 ((l.getD k aX).l)++rB 64 ((l.getD k aX).w)++([i6 (((l.getD k aX).fi:Nat):Int),i6 (((l.getD k aX).la:Nat):Int)]:List Value)).toArray)]) [] (λ_ L=>L) (λ_=>[ob (B2 c) (([i6 ((l.getD k aX).k),i6 ((l.getD k aX).ln)]:List Value)++rB 64 ((l.getD k aX).d)++([u6 (((l.getD k aX).m:Nat):Int),i6 ((l.getD k aX).f0),i6 ((l.getD k aX).f1),i6 ((l.getD k aX).f2),i6 ((l.getD k aX).f3),i6 ((l.getD k aX).f4),i6 ((l.getD k aX).f5),i6 ((l.getD k aX).f6),i6 ((l.getD k aX).f7),i6 ((l.getD k aX).e),i6 ((l.getD k aX).n)]:List Value)++rB 64 ((l.getD k aX).l)++rB 64 ((l.getD k aX).w)++([i6 (((l.getD k aX).fi:Nat):Int),i6 (((l.getD k aX).la:Nat):Int)]:List Value)).toArray 149]) [0,1,2] (Jj aX Om) (λG j o a=>?_);refine cF _ rfl (r0 [(0,ad k 1)] [(7,i6 ((k+1:Nat):Int))] [7] ?_);exact iR (k+1) Om a Om Kr [0,1] Kr
 obtain rfl:l.length=k:=by omega
 refine ka ?_;exact k7 i b Om [] [0,1]
section
section
variable {P:Program} {m m' l lr:Nat} {w:World} {Rp:Ending→World→Prop}
theorem WL{f:FuncId}{t:Array Value}{a b:Code}(h:RoundIn Fence.wide m P l f t a b w Rp):RoundIn Fence.wide m' P l f t a b w Rp:=⟨h.1,λc cs _=>h.2 c cs (room_wide _)⟩
theorem WM{f:FuncId}{t:Array Value}{a b:Code}(h:RoundIn Fence.wide m P l f t a b w Rp):RoundIn (Fence.wide.inRound lr) m' P l f t a b w Rp:=⟨h.1,λc cs _=>h.2 c cs (room_wide _)⟩
theorem WN{args:Array Value}(h:YieldAt Fence.wide m P l args w Rp):YieldAt Fence.wide m' P l args w Rp:=
 let ⟨fn,t,a,b,h1,h2⟩:=h
 ⟨fn,t,a,b,h1,WL h2⟩
end
theorem oK.lv{α:Type}{n n':Nat}{P:Program}{g:Nat}{lb:Array Value}{encs:α→Array Value}{xs:List α}{K:Nat→Prop}{St:(Nat→Prop)→World→Prop}(h:oK Fence.wide n P g lb encs xs K St):oK Fence.wide n' P g lb encs xs K St:=
 λl J Jx W O k o p q r f=>callsIn_wide.2 (callsIn_wide.1 (h l J Jx W O k o p q (λi x d e a b c=>WN (r i x d e a b c)) f))
def Hw{α:Type}(P:Program)(l:Nat)(J Jx:Nat→(Nat→Prop)→World→Prop)(KO:ay)(W0:World)(encs:α→Array Value)(xs:List α):Prop:=
 ∀i x f a,xs[i]? =some x→J i f a→W0.heap.size≤a.heap.size→YieldAt Fence.wide 4 P l (encs x) a λe d=>∃c,gX (λb=>∃x∈KO,x.1=b) f c a d∧((e= .returned (.bool true)∧J (i+1) c d)∨(e= .returned (.bool false)∧Jx (i+1) c d))
def tJ(P:Program)(fn:Func)(J Jx:Nat→(Nat→Prop)→World→Prop)(N:Nat):Exit→Act→World→Prop:=
 bodyPostM Fence.wide 5 P fn λe b=>(∃v,e= .returned v)∧((∃a,J N a b)∨∃i,i<N∧∃a,Jx (i+1) a b)
section
variable {α:Type} {P:Program} {gf:Nat} {fn:Func} {lb:Array Value} {encs:α→Array Value} {xs:List α} {KO:List ay} {J Jx:Nat→(Nat→Prop)→World→Prop} {W0:World} {l j:Nat}
theorem WO(hf:P.funcs[gf]? =some fn)(h: ∀l J Jx W0 R,gO J→gO Jx→Hw P l J Jx KO.flatten W0 encs xs→Hid (fB J KO W0 0 R W0)→Go Fence.wide 5 P R W0 (tJ P fn J Jx xs.length) [.c (kC fn)] ⟨fn.ntmps,n2 0 (.func (.yield l) #[] #[]::lb.toList)⟩ (KO.map .c) [])
  (n:(fn.body.isSome,Nat.ble (lb.size+1) fn.ntmps)=(true,true):=by kernel_rfl):ft 5 P gf lb encs xs KO.flatten:=by
 intro l J Jx W O f t d u x p;have b:fP J KO.flatten W [] 0 W:=⟨⟨O,p,λ_ h=>by simp at h,u⟩,ZZ _,by simpa using f⟩;obtain⟨R,s,e⟩:=jh.start (jh.zero b);obtain⟨c,k⟩:=Option.isSome_iff_exists.1 (ALca (·.1) n);have y:lb.size+1≤fn.ntmps:=Nat.le_of_ble_eq_true (ALca (·.2) n);refine callsIn_of_wp_marks hf k trivial ?_ rfl;have o:(#[Value.func (.yield l) #[] #[]]++lb).size=lb.size+1:=by simp;omega
 have g:=(h l J Jx W R t d x s).out {tmps:=(#[Value.func (.yield l) #[] #[]]++lb)++Array.replicate (fn.ntmps-(#[Value.func (.yield l) #[] #[]]++lb).size) undef,defers:=[]} W ⟨by rw[Array.size_append,o,Array.size_replicate];show _=fn.ntmps;omega,λi v hv=>?_,rfl⟩ (by simpa using e.out)
 ·rw[show kC fn=c by unfold kC;rw[k];rfl] at g;exact g
 ·obtain⟨_,a⟩:=sh hv;rw[Nat.sub_zero] at a;have q:i<lb.size+1:=by have:=(List.getElem?_eq_some_iff.1 a).1;simpa using this
  have r:(#[Value.func (.yield l) #[] #[]]++lb)[i]? =some v:=by rw[←Array.getElem?_toList];simpa using a
  rw[Array.getD_eq_getD_getElem?,Array.getElem?_append_left (by rw[o];exact q),r];rfl
theorem w0{α β:Type}(f:α→β): ∀l:List α,(l.map λx=>[f x]).flatten=l.map f
 | []=>rfl
 | x::l=>by rw[List.map_cons,aag,w0 f l];rfl
theorem AX{R:List Nat}{base W:World}(h:aF R base [] W):cD R base [] W:=by
 obtain⟨cs,b,a⟩:=h.conc;obtain rfl:=oJ b;exact a
theorem Hx{N:Nat}{b:Act}{W:World}{Ds:List Nat}(c:fn.results.toList=[])(o:b.defers=Ds.map j5)(p:ez (Ds.map dO) W)(h: ∀a,cD ((Ds.map dO).map (·.1)) W [] a→(∃d,J N d a)∨∃i,i<N∧∃d,Jx (i+1) d a):tJ P fn J Jx N .ret b W:=by
 show LeavesInM Fence.wide 5 P fn b.tmps _ b.defers .returning W;rw[o];have k:aF ((Ds.map dO).map (·.1)) W ([]++Ds.map mk) W:=by
  have e:=aF.start (w:=W) (rQ Ds) (by rw[w0];exact p);rw[w0] at e;exact e
 obtain⟨q,f,g⟩:=aF.seg (L:=[]) k;exact BS f g [] (by rw[c];rfl) λa n=>⟨⟨_,rfl⟩,h a (AX n)⟩
structure AI (J:Nat→(Nat→Prop)→World→Prop) (K Lo:ay) (W0:World) (j:Nat) (O1:Nat→Prop) (V:World):Prop where
 ex: ∃O,J j O V∧(∀x∈Lo,¬O x.1)∧∀b,O b→O1 b
 own: ∀x∈K++Lo,O1 x.1
 lt: ∀b,O1 b→b<V.heap.size
 sz:W0.heap.size≤V.heap.size
 has:ez (K++Lo) V
theorem AI.turn{K f:ay}{a:Nat→Prop}{V c:World}(i:gO J)(h:AI J K f W0 j a V)(t:Y8 (λb=>¬a b) V c):AI J K f W0 j a c:=
 let ⟨O,h1,h2,h3⟩:=h.ex
 ⟨⟨O,i _ O V c h1 (t.mono λb d k=>d (h3 b k)),h2,h3⟩,h.own,λb d=>ZD (h.lt b d) t.size,Zn h.sz t.size,⟨λx g=>t.heap (λe=>e (h.own x g)) (h.has.obj x g),h.has.nd⟩⟩
theorem cD.turnA{R:List Nat}{base W:World}{L:ay}{S:Nat→Prop}(h:cD R base L W)(c: ∀b,b<base.heap.size→b∈R→¬S b→W.heap[b]? =base.heap[b]?):Y8 S base W:=
 ⟨h.os,h.tape,h.output,h.size,λb a d=>if hx:b∈R then c b a hx d else h.far b a hx⟩
theorem WQ{R:List Nat}{base:World}{Q:Exit→Act→World→Prop}{S:List It}{a:Nat}{es:Fe}{L:aj}{A:World→Prop}{vs:Array Value}{lr:Nat}(N:Nat)(hs:bF→List (Nat×cd P))(h:bF→Fe)(dr:List Nat)(Le:bF→aj→aj)
  (F: ∀η W,aF R base (Le η L) W→YieldAt Fence.wide 4 P l vs W λe g=>(e= .returned (.bool true)∧A g)∨(e= .returned (.bool false)∧∀b,Q .ret b g))
  (hk: ∀η g,A g→Go (Fence.wide.inRound lr) 3 P [] g Q (bS S) ⟨a,(iQ P (ax S) a ((ax S).drop (N+1)) ((jj S N,.bool true)::(h η++eE dr es))).1⟩ [] [])
  (he: ∀η,((l7 S,true),(fq ((ax S).take N) ⟨a,es⟩ (tP N S ⟨a,es⟩ L (mR Le L) hs) η 0 ((ax S).take N) (n4 N S ⟨a,es⟩ L hs η)).map a9.lhs,u7 (e6 S) (ax S) N (λk=>(jL (e6 S) ((ax S).take N)).getD k []),(Zt (mR Le L)).map (λp=>(tP N S ⟨a,es⟩ L (mR Le L) hs).at η p ((ax S).take N).length),(h η).map (λx=>k4 ((ax S).take N) ⟨a,es⟩ (tP N S ⟨a,es⟩ L (mR Le L) hs) η x.1),mF ((ax S).take N) es (h η) dr)=
   ((true,true),(fq ((ax S).take N) ⟨a,es⟩ (tP N S ⟨a,es⟩ L (mR Le L) hs) η 0 ((ax S).take N) (n4 N S ⟨a,es⟩ L hs η)).map a9.rhs,true,(Le η L).map some,(h η).map (λx=>some x.2),true):=by intro _;kernel_rfl)
  (H: ∀η,(va S N l a (h η++eE dr es) vs.toList,(iQ P (ax S) a ((ax S).drop (N+1)) ((jj S N,.bool true)::(h η++eE dr es))).2.map a9.lhs,(iQ P (ax S) a ((ax S).drop (N+1)) ((jj S N,.bool false)::(h η++eE dr es))).2.map a9.lhs,sx 10 (bS S) (iQ P (ax S) a ((ax S).drop (N+1)) ((jj S N,.bool false)::(h η++eE dr es))).1)=
   ((true,some vs.toList,some (.func (.yield l) #[] #[])),(iQ P (ax S) a ((ax S).drop (N+1)) ((jj S N,.bool true)::(h η++eE dr es))).2.map a9.rhs,(iQ P (ax S) a ((ax S).drop (N+1)) ((jj S N,.bool false)::(h η++eE dr es))).2.map a9.rhs,true):=by intro _;kernel_rfl)
  (hm:P.follows .mixedOrders=true:=by kernel_rfl):Go (Fence.wide.inRound lr) 3 P R base Q S ⟨a,es⟩ L []:=by
 refine CQ hm N hs h dr Le (λη b W z hO=>?_) he;have f:=ALca (λx=>x.1) (H η);have s:=ALca (λx=>x.2.1) (H η);have t:=ALca (λx=>x.2.2.1) (H η);have u:=ALca (λx=>x.2.2.2) (H η);simp only at f s t u;obtain⟨T,y,K,O,D,i⟩:=F η W (by simpa using hO);unfold va at f
 split at f
 ·rename_i o ho
  split at f
  ·rename_i xo I ats C;simp only[Prod.mk.injEq,Z4,Option.some.injEq] at f;obtain⟨⟨⟨⟨⟨g1,g2⟩,g3⟩,g4⟩,G⟩,g6,g7⟩:=f;obtain⟨d,B⟩:=Option.isSome_iff_exists.1 g4;have v:jj S N=d:=by unfold jj;rw[ho];simp [B]
   have Y:(ax S).drop N=o::(ax S).drop (N+1):=by
    obtain⟨Z,e⟩:=List.getElem?_eq_some_iff.1 (show(ax S)[N]? =some o from ho);rw[List.drop_eq_getElem_cons Z,e]
   rw[Y];have hw:Region.wanted o (yielded (ax S).toArray b.tmps)=true:=yn z g1;unfold wpListIn;rw[ALifp hw];have hxo:b.eval xo= .func (.yield l) #[] #[]:=(ng z g2).trans g7;have X:I.map b.eval=vs:=by
    apply Array.toList_inj.1;rw[Array.toList_map,←g6];exact List.map_congr_left λq hq=>ng z (List.all_eq_true.1 g3 q hq)
   have r:(execOp b.eval o).run P W= .ok (.round l T y K O) W:=by
    unfold execOp;simp only[C,resolve,hxo,Deferred.ofValue,Sem.run_bind,Sem.run_pure,aad,invoke];rw[X];simpa using D
   unfold Oper.wpIn;refine⟨λ_ _=>trivial,?_⟩;rw[Oper.semAt_plain (Fence.wide.inRound lr) _ o (λc hc=>by rw[C] at hc;cases hc),r,Oper.uponIn_round];refine⟨λ_=>by omega,(WM i).mono ?_⟩;rintro e g (⟨rfl,U⟩ | ⟨rfl,U⟩)
   ·rw[v] at s;have h4:=hk η g U;rw[v] at h4;show wpListIn (Fence.wide.inRound lr) 3 P (ax S).toArray _ ((ax S).drop (N+1)) (b.put o.dst (.bool true)) g;rw[B];have V:d<a:=by rw[B] at G;exact aah▸G
    exact su (z.put V _) (a9.all s) λM n=>h4.out M g n (yq g)
   ·rw[v] at t u;show wpListIn (Fence.wide.inRound lr) 3 P (ax S).toArray _ ((ax S).drop (N+1)) (b.put o.dst (.bool false)) g;rw[B];have V:d<a:=by rw[B] at G;exact aah▸G
    exact su (z.put V _) (a9.all t) λM n=>yo 10 u n (U M)
  ·simp at f
 ·simp at f
theorem Hy{F:Fence}{n:Nat}{R:List Nat}{base:World}{Q:Exit→Act→World→Prop}{S:List It}{a:Sl}{L:aj}{Ds:List Nat}(h: ∀b W,Fr a Ds b→aF R base (L++Ds.map mk) W→Q .normal b W)(d:(nf S).isEmpty=true:=by kernel_rfl):Go F n P R base Q S a L Ds:=by
 refine⟨λb W e c=>dI 1000 S ?_⟩;rw[show du 1000 S=[] from List.isEmpty_iff.1 d];exact h b W e c
end
end
section
section
variable {α:Type} {P:Program} {fn:Func} {encs:α→Array Value} {xs ys:List α} {KO LO KI:List ay} {J Jx:Nat→(Nat→Prop)→World→Prop} {W0:World} {l j:Nat} {R:List Nat} {base:World} {Q:Exit→Act→World→Prop} {S:List It} {sz:Nat} {es:Fe} {L:aj} {Ds:List Nat}
theorem WR{K A M:ay}{d:Nat×Obj}(h:(K++(A++M)).Pairwise λx y=>x.1≠y.1)(a: ∀x∈K++(A++M),x.1≠d.1):(K++(A++d::M)).Pairwise λx y=>x.1≠y.1:=by
 have hp:aaa (K++(A++d::M)) (d::(K++(A++M))):=by
  rw[←ZF,←ZF];exact List.perm_middle
 refine(List.Perm.pairwise_iff (λ{x y} h=>Ne.symm h) hp).2 (List.pairwise_cons.2 ⟨λx b=>Ne.symm (a x b),h⟩)
theorem WS{g2:Nat}{lb2:Array Value}(ea:α→Fe)(hJ:gO J)(hJx:gO Jx)(hY:Hw P l J Jx KO.flatten W0 encs xs)(hI:Hid (fB J KO W0 j R base))(hit:ft 5 P g2 lb2 encs ys KI.flatten)(eg:Enters P g2)
  (hys: ∀i y,ys[i]? =some y→xs[j+i]? =some y) (hQ: ∀b W,tJ P fn J Jx xs.length .ret b W→Q .ret b W) (hres:fn.results.toList=[])
  (ps:List Nat) (hKI: ∀x∈KI.flatten,x∈LO.flatten) (hKn:KI.flatten.Sublist LO.flatten)
  (hasg: ∀(lr:Nat) (y:α) (R1:List Nat) (W1:World) (Q1:Exit→Act→World→Prop),(∀b W,Fr ⟨sz,ea y++eE [] (gP (cr S) (encs y).toList++es)⟩ [] b→aF R1 W1 [] W→Q1 .normal b W)→Go (Fence.wide.inRound lr) 3 P R1 W1 Q1 [.c (jS S)] ⟨sz,gP (cr S) (encs y).toList++es⟩ [] [])
  (hbod: ∀(lr:Nat) (y:α) (R1:List Nat) (W1:World) (Q1:Exit→Act→World→Prop),(∀W,aF R1 W1 ((KO++LO).map .c) W→YieldAt Fence.wide 4 P l (encs y) W λe w=>(e= .returned (.bool true)∧∀b W'',aF [] w [] W''→Q1 .normal b W'')∨(e= .returned (.bool false)∧∀b,Q1 .ret b w))→Go (Fence.wide.inRound lr) 3 P R1 W1 Q1 [.c (k6 S)] ⟨sz,ea y++eE [] (gP (cr S) (encs y).toList++es)⟩ ((KO++LO).map .c) [])
  (hk: ∀(D:Nat) (R':List Nat) (w:World),Hid (fB J KO W0 (j+ys.length) R' w)→Go Fence.wide 5 P R' w Q (bS S) ⟨sz,es⟩ ((KO++LO).map .c) (D::Ds))
  (hps: ∀x,(encs x).size=(cr S).length)
  (hc:(nc S,(⟨sz,es⟩:Sl).ev (gu S),(cr S).all (Nat.blt · sz),dp (ps.map λp=>[p]).flatten,(ps.map λp=>[p]).map λg=>g.map λp=>L[p]?)=(true,.func (.func g2) #[] lb2,true,true,(((KO++LO).map aB.c).map λx=>[x]).map λN=>N.map some):=by kernel_rfl)
  (hkn:(match gu S with | .tmp i=>(lk es i).isSome | _=>true)=true:=by kernel_rfl):Go Fence.wide 5 P R base Q S ⟨sz,es⟩ L Ds:=by
 have c1:=ALca (λx=>x.1) hc;have c2:=ALca (λx=>x.2.1) hc;have c3:=ALca (λx=>x.2.2.1) hc;have c4:=ALca (λx=>x.2.2.2) hc;simp only at c1 c2 c3 c4;refine⟨λb W f hO=>dI 1000 S ?_⟩;rw[show du 1000 S=_ from yj c1];show(Code.rangeFunc (gu S) (cr S).toArray (jS S) (k6 S)).wpIn Fence.wide 5 P (dc Fence.wide 5 P Q (bS S)) b W;have H:b.eval (gu S)= .func (.func g2) #[] lb2:=by
  rw[f.ev λi hi=>by rw[hi] at hkn;exact hkn];exact c2
 have hO1:aF R base (KO.map .c++(LO.map .c++Ds.map mk)) W:=by
  have h:=hO.under (L':=(KO++LO).map .c) λh=>h.pick ps _ c4;rwa [aaj,ZF] at h
 obtain⟨ds,hds,A⟩:=fB.step hI hJ hO1;have e9:ds.flatten=LO.flatten++Ds.map dO:=by
  obtain⟨d1,d2,rfl,o,h2⟩:=nV hds;rw[ZY,sb o,pW h2]
 rw[e9] at A;obtain⟨m,d⟩: ∃m,LO.flatten++Ds.map dO=m:=⟨_,rfl⟩;rw[d] at A;obtain⟨O,hO0,hO2,hO3⟩:=A.ex;have q:=A.has;have Z: ∀x∈LO.flatten,x∈m:=λx a=>by rw[←d];exact Zz _ a
 have K: ∀x∈KI.flatten,x∈m:=λx a=>Z x (hKI x a);have B: ∀x∈KO.flatten++m,x.1<W.heap.size:=λx a=>(Array.getElem?_eq_some_iff.1 (q.obj x a)).1;have ndKI:KI.flatten.Pairwise λx y=>x.1≠y.1:=by
  have o:=(List.pairwise_append.1 q.nd).2.1;rw[←d] at o;exact(List.pairwise_append.1 o).1.sublist hKn
 have hA0:AI J KO.flatten m W0 (j+0) (λb=>b<W.heap.size) W:=⟨⟨O,hO0,hO2,hO3⟩,B,λ_ h=>h,A.sz,q⟩;refine BU (F:=Fence.wide) (n:=5) rfl Om H trivial eg (oK.lv (n':=4) hit) (λb=>b<W.heap.size) ?_ (λ_ h=>h) ?_ (λx=>by rw[hps x];simp) (λi k V=>AI J KO.flatten m W0 (j+i) k V) (λc i k V=>c= .ret∧AI Jx KO.flatten m W0 (j+i) k V) (λi k V V' h t=>h.turn hJ t) (λc i k V V' h t=>⟨h.1,h.2.turn hJx t⟩) hA0 ?_ ?_ ?_
 ·intro V hV k _;exact⟨λx a=>(hV x.1 (B x (Zq _ (K x a)))).trans (q.obj x (Zq _ (K x a))),ndKI⟩
 ·rintro b ⟨x,a,rfl⟩;exact B x (Zq _ (K x a))
 ·intro lr i y k V hy hsz hA;have hsz2:(encs y).toList.length=(cr S).length:=by rw[Array.length_toList];exact hps y
  have hlt: ∀p∈cr S,p<b.tmps.size:=λp hp=>by rw[f.size];exact aah▸List.all_eq_true.1 c3 p hp
  have hfr:Fr ⟨sz,gP (cr S) (encs y).toList++es⟩ [] {tmps:=ie b.tmps (cr S).toArray (encs y),defers:=[]}:=by
   have ee:encs y=(encs y).toList.toArray:=by simp
   refine⟨?_,λi v hv=>?_,rfl⟩
   ·show(ie b.tmps (cr S).toArray (encs y)).size=sz;rw[ee,u5];exact f.size
   ·show(ie b.tmps (cr S).toArray (encs y)).getD i undef=v;rw[ee,u4 _ _ _ i hsz2.symm hlt];simp only[qa] at hv;cases o:lk (gP (cr S) (encs y).toList) i with
    | some u=>rw[o] at hv;cases hv;rfl
    | none=>rw[o] at hv;exact f.get i v hv
  have o:=(hasg lr y [] V (λe b' Wa=>e= .normal∧Fr ⟨sz,ea y++eE [] (gP (cr S) (encs y).toList++es)⟩ [] b'∧aF [] V [] Wa) λb' Wa o h2=>⟨rfl,o,h2⟩).out _ V hfr (yq V);refine wpIn_mono (show(jS S).wpIn (Fence.wide.inRound lr) 3 P _ _ V from o) λe a' Wa hq=>?_;obtain⟨rfl,hf',hO'⟩:=hq;have sO:=AX hO';refine⟨k,⟨sO.size,λ_ _ h=>h,λb h=>ZD (hA.lt b h) sO.size,λb f _=>sO.far b f (by simp)⟩,λU hU hUs=>?_⟩;have z:AI J KO.flatten m W0 (j+i) k U:=(hA.turn hJ (sO.turnA λb _ a _=>by simp at a)).turn hJ hU;have hHU:ez (KO++LO).flatten U:=by
   rw[ZY];have hs:(KO.flatten++LO.flatten).Sublist (KO.flatten++m):=by rw[←d,←ZF];exact ZW _ _
   exact⟨λx a=>z.has.obj x (hs.subset a),z.has.nd.sublist hs⟩
  have oU:aF (bN (KO++LO).flatten) U ((KO++LO).map .c) U:=aF.start (uP _) hHU;refine(hbod lr y (bN (KO++LO).flatten) U (BT (λb=>∃x∈KI.flatten,x.1=b) (λi k V=>AI J KO.flatten m W0 (j+i) k V) (λc i k V=>c= .ret∧AI Jx KO.flatten m W0 (j+i) k V) (i+1) k U) λW2 h2=>?_).out a' U hf' (by rw[List.map_nil,aak];exact oU);obtain⟨cs2,hs2,G⟩:=h2.conc;rw[sb hs2] at G;have Y: ∀b,b<U.heap.size→W2.heap[b]? =U.heap[b]? :=λb f=>by
   by_cases a:b∈bN (KO++LO).flatten
   ·obtain⟨x,s,rfl⟩:=List.mem_map.1 a;exact(G.obj x s).trans (hHU.obj x s).symm
   ·exact G.far b f a
  have tU: ∀T:Nat→Prop,Y8 T U W2:=λT=>⟨G.os,G.tape,G.output,G.size,λb f _=>Y b f⟩;have r:AI J KO.flatten m W0 (j+i) k W2:=z.turn hJ (tU _);obtain⟨O,q1,X,q3⟩:=r.ex;obtain⟨fn',t',ag',bd',r1,r2⟩:=hY (j+i) y O W2 (hys i y hy) q1 r.sz;refine⟨fn',t',ag',bd',r1,r2.mono ?_⟩;rintro e w ⟨O',H,h4⟩;have lt2: ∀x∈KO.flatten++m,x.1<W2.heap.size:=λx a=>(Array.getElem?_eq_some_iff.1 (r.has.obj x a)).1;have gr:gX (λb=>∃x∈KI.flatten,x.1=b) k (λb=>k b∨O' b) U w:=by
   refine⟨Zn G.size H.size,λb f h=>?_,λb h=>?_,λb f hk=>?_⟩
   ·exact h.elim id λh=>q3 b (H.old b (ZD f G.size) h)
   ·exact h.elim (λh=>ZD (z.lt b h) (Zn G.size H.size)) (H.new b)
   ·refine(H.keep b (ZD f G.size) (.inl ?_)).trans (Y b f);rcases hk with hk | ⟨x,a,rfl⟩
    ·exact λM=>hk (q3 b M)
    ·exact X x (K x a)
  have ai: ∀{J':Nat→(Nat→Prop)→World→Prop},J' (j+i+1) O' w→AI J' KO.flatten m W0 (j+(i+1)) (λb=>k b∨O' b) w:=λh=>
   ⟨⟨O',h,λx a M=>X x a (H.old _ (lt2 x (Zq _ a)) M),λb h=> .inr h⟩,λx a=> .inl (z.own x a),λb h=>gr.new b h,Zn r.sz H.size,
    ⟨λx a=>(H.keep x.1 (lt2 x a) ((List.mem_append.1 a).elim (λh=> .inr ⟨x,h,rfl⟩) λh=> .inl (X x h))).trans (r.has.obj x a),r.has.nd⟩⟩
  rcases h4 with⟨rfl,h5⟩ | ⟨rfl,h5⟩
  ·refine .inl ⟨rfl,λb' W'' h=>?_⟩;have s3:=AX h;exact⟨_,gr.trans ⟨s3.size,λ_ _ h=>h,λb h=>ZD (gr.new b h) s3.size,λb f _=>s3.far b f (by simp)⟩,(ai h5).turn hJ (s3.turnA λb _ a _=>by simp at a)⟩
  ·exact .inr ⟨rfl,λb'=>⟨_,gr,rfl,ai h5⟩⟩
 ·intro D k V hD C hA hd;have hI2:jh J KO W0 (LO.map .c++(D::Ds).map mk) (j+ys.length) V:=by
   refine⟨LO++(D::Ds).map (λD=>[dO D]),kx (uP LO) (rQ _),?_⟩;have ef:(LO++(D::Ds).map (λD=>[dO D])).flatten=LO.flatten++dO D::Ds.map dO:=by
    rw[ZY,w0];rfl
   rw[ef];obtain⟨O,q1,X,q3⟩:=hA.ex;have I: ∀x∈KO.flatten++m,x.1≠D:=λx a e=>C (e▸hA.own x a);refine⟨⟨O,q1,λx a=>?_,λb h=>hA.lt b (q3 b h)⟩,hA.sz,⟨λx a=>?_,?_⟩⟩
   ·rcases List.mem_append.1 a with a | a
    ·exact X x (Z x a)
    ·rcases List.mem_cons.1 a with rfl | a
     ·exact λM=>C (q3 _ M)
     ·exact X x (by rw[←d];exact Zq _ a)
   ·rcases List.mem_append.1 a with a | a
    ·exact hA.has.obj x (Zz _ a)
    ·rcases List.mem_append.1 a with a | a
     ·exact hA.has.obj x (Zq _ (Z x a))
     ·rcases List.mem_cons.1 a with rfl | a
      ·exact hd
      ·exact hA.has.obj x (Zq _ (by rw[←d];exact Zq _ a))
   ·rw[←d] at I;exact WR (by rw[d];exact hA.has.nd) I
  obtain⟨R',hC,hO5⟩:=jh.start hI2;refine(hk D R' V hC).out _ V ⟨f.size,f.get,by show j5 D::b.defers=_;rw[f.defers];rfl⟩ ?_;rw[aaj,ZF];exact hO5.out
 ·rintro D c i k V hD C hi ⟨rfl,hA⟩ hd;obtain⟨O,q1,X,q3⟩:=hA.ex;have I: ∀x∈KO.flatten++m,x.1≠D:=λx a e=>C (e▸hA.own x a);have hM:ez ((D::Ds).map dO) V:=by
   refine⟨λx a=>?_,?_⟩
   ·rcases List.mem_cons.1 a with rfl | a
    ·exact hd
    ·exact hA.has.obj x (Zq _ (by rw[←d];exact Zq _ a))
   ·have o:=(List.pairwise_append.1 hA.has.nd).2.1;rw[←d] at o;exact List.pairwise_cons.2 ⟨λx a=>Ne.symm (I x (Zq _ (by rw[←d];exact Zq _ a))),(List.pairwise_append.1 o).2.1⟩
  refine wpIn_ret (gZ (hQ _ V (Hx (Ds:=D::Ds) hres (by show j5 D::b.defers=_;rw[f.defers];rfl) hM λw hW=> .inr ⟨j+i,?_,O,?_⟩)))
  ·obtain⟨y,hy⟩:=List.getElem?_eq_some_iff.2 ⟨hi,rfl⟩ |>λh=>(⟨_,h⟩: ∃y,ys[i]? =some y);exact(List.getElem?_eq_some_iff.1 (hys i y hy)).1
  ·refine hJx _ O V w q1 (hW.turnA λb _ a hn=>?_);obtain⟨x,s,rfl⟩:=List.mem_map.1 a;refine absurd (λM=>?_) hn;rcases List.mem_cons.1 s with rfl | s
   ·exact C (q3 _ M)
   ·exact X x (by rw[←d];exact Zq _ s) M
def Hz(J:Nat→(Nat→Prop)→World→Prop)(KO:List ay)(W0:World)(I:Nat→Prop)(e:Nat→Fe)(a:Nat→aj)(m c:Nat→Nat)(sz:Nat)(st:Fe)(i:Nat)(b:Act)(W:World):Prop:=∃(k:Nat) (E:List Nat) (R:List Nat) (base:World),I k∧Hid (fB J KO W0 (c k) R base)∧m k<i∧Fr ⟨sz,e k++st⟩ E b∧aF R base (a k++E.map mk) W
def AY(P:Program)(J:Nat→(Nat→Prop)→World→Prop)(KO:List ay)(W0:World)(Q:Exit→Act→World→Prop)(S:List It)(I:Nat→Prop)(e:Nat→Fe)(a:Nat→aj)(m c:Nat→Nat)(sz:Nat)(st:Fe)(i:Nat):Exit→Act→World→Prop
 | .normal,b,W=>Hz J KO W0 I e a m c sz st i b W
 | x,b,W=>dc Fence.wide 5 P Q S x b W
theorem WT(I:Nat→Prop)(e:Nat→Fe)(o:Nat→aj→aj)(m c:Nat→Nat)(f:Nat)(h0:I f)(v:Hid (fB J KO W0 (c f) R base))(q:((e f).map λx=>lk es x.1)=(e f).map λx=>some x.2)(w:L=o f L)
  (F: ∀(k:Nat) (E:List Nat) (p:List Nat) (d:World),I k→Hid (fB J KO W0 (c k) p d)→Go Fence.wide 5 P p d (AY P J KO W0 Q (bS S) I e (λk=>o k L) m c sz (jP S es) (m k)) [.c (gD S)] ⟨sz,e k++jP S es⟩ (o k L) E) (y:n1 S=true:=by kernel_rfl):Go Fence.wide 5 P R base Q S ⟨sz,es⟩ L Ds:=by
 classical
 refine⟨λb W z r=>dI 1000 S ?_⟩;rw[show du 1000 S=_ from uV y];show(Code.loop (gD S)).wpIn Fence.wide 5 P (dc Fence.wide 5 P Q (bS S)) b W
 let g:Nat→Act→World→Prop:=Hz J KO W0 I e (λk=>o k L) m c sz (jP S es)
 let μ:Act→World→Nat:=λb W=>if h: ∃j,g j b W then ZS (k5 h) else 0
 have u: ∀b W,(∃j,g j b W)→g (μ b W) b W∧∀i,i<μ b W→¬g i b W:=by
  intro b W h;have e:μ b W=ZS (k5 h):=dif_pos h;rw[e];exact Z7 (k5 h)
 refine wpIn_loop (λb W=>∃j,g j b W) μ ⟨m f+1,f,Ds,R,base,h0,v,Nat.lt_succ_self _,Fr.stay (a:=⟨sz,es⟩) z q,by have h:=r;rw[w] at h;exact h⟩ λb W n=>?_;obtain⟨k,E,p,d,B,hC,D,A,r⟩:=(u b W n).1;refine wpIn_mono (show(gD S).wpIn Fence.wide 5 P _ b W from(F k E p d B hC).out b W A r) λe t s q=>?_;cases e with
 | normal=>
  have n:g (m k) t s:=q;exact⟨⟨_,n⟩,Z0 (aai λC=>(u t s ⟨_,n⟩).2 _ C n) D⟩
 | _=>exact q
theorem WU{I:Nat→Prop}{e:Nat→Fe}{n:Nat→aj}{m c:Nat→Nat}{o:List It}{d:Nat}{st:Fe}{i:Nat}(k:Nat)(q:I k)(hC:Hid (fB J KO W0 (c k) R base))(w:m k<i)(v:((e k++st).map λx=>lk es x.1)=(e k++st).map λx=>some x.2)(f:List Nat)(r:(dp (f.map λp=>[p]).flatten,(f.map λp=>[p]).map λg=>g.map λp=>L[p]?)=(true,((n k).map λx=>[x]).map λN=>N.map some))(t:(nf S).isEmpty=true:=by kernel_rfl)(y:sz=d:=by rfl):
  Go Fence.wide 5 P R base (AY P J KO W0 Q o I e n m c d st i) S ⟨sz,es⟩ L Ds:=by
 subst y;refine⟨λb W u s=>dI 1000 S ?_⟩;rw[show du 1000 S=[] from List.isEmpty_iff.1 t];exact⟨k,Ds,R,base,q,hC,w,Fr.told (a:=⟨sz,es⟩) u v,s.under λh=>h.pick f _ r⟩
theorem WV{I:Nat→Prop}{e:Nat→Fe}{h:Nat→aj}{m c:Nat→Nat}{a:List It}{d:Nat}{st:Fe}{i:Nat}(g:Go Fence.wide 5 P R base Q ((j8 S a).getD []) ⟨sz,es⟩ L Ds)(n:(j8 S a).isSome=true:=by kernel_rfl):Go Fence.wide 5 P R base (AY P J KO W0 Q a I e h m c d st i) S ⟨sz,es⟩ L Ds:=by
 obtain⟨p,f⟩:=Option.isSome_iff_exists.1 n;rw[f] at g;exact⟨λb W o k=>uW f (g.out b W o k) λ_=>rfl⟩
theorem WW(n:gO J)(s:Hid (fB J KO W0 j R base))(z:j=xs.length)(m:List Nat)
  (hp:(dp (m.map λp=>[p]).flatten,(m.map λp=>[p]).map λg=>g.map λp=>L[p]?)=(true,((KO.map aB.c).map λx=>[x]).map λN=>N.map some):=by kernel_rfl) (d:fn.results.toList=[]:=by kernel_rfl) (v:(nf S).isEmpty=true:=by kernel_rfl):Go Fence.wide 5 P R base (tJ P fn J Jx xs.length) S ⟨sz,es⟩ L Ds:=by
 refine⟨λb W y u=>dI 1000 S ?_⟩;rw[show du 1000 S=[] from List.isEmpty_iff.1 v];have e:aF R base (KO.map .c++Ds.map mk) W:=u.under λh=>h.pick m _ hp;obtain⟨D,f,a⟩:=fB.step s n e;have q:=pW f;rw[q] at a;obtain⟨O,B,C,F⟩:=a.ex;have t:ez (Ds.map dO) W:=⟨λx i=>a.has.obj x (Zq _ i),(List.pairwise_append.1 a.has.nd).2.1⟩;have r:tJ P fn J Jx xs.length .ret b W:=Hx (Ds:=Ds) d y.defers t λo w=> .inl ⟨O,by
  rw[←z];refine n _ O W o B (w.turnA λb _ i A=>?_);obtain⟨x,k,rfl⟩:=List.mem_map.1 i;exact absurd (C x k) A⟩
 exact r
end
end
def fz(B M C i:Nat):Nat:=qZ M C (i/(B*M*C)) (i%(B*M*C))
def w1(R S B M C:Nat):List Nat:=(Zt ((R+S)*(B*M*C))).map (fz B M C)
theorem WX{R S B M C k i y:Nat}(c:k<R+S)(h:((Zt (B*M*C)).map (qZ M C k))[i]? =some y):(w1 R S B M C)[k*(B*M*C)+i]? =some y:=by
 have a:i<B*M*C:=by have:=(List.getElem?_eq_some_iff.1 h).1;simpa using this
 rw[ZV,ZH a,Z3] at h;have b:k*(B*M*C)+i<(R+S)*(B*M*C):=by
  have:(k+1)*(B*M*C)≤(R+S)*(B*M*C):=ZP _ c;rw[ZT] at this;omega
 unfold w1;rw[ZV,ZH b,Z3];unfold fz;rw[ZA k,Z8 Om,ZC a,Z9,ZO a,Z2];exact h
theorem WY{R S B M C:Nat}(b:cG R S B M C)(k:Nat):hold R S B M C (k:Int) 0 0 0=decide ((k:Int)<((R+S:Nat):Int)):=by
 have a:=b.bd;have c:=a.b1;have d:=a.m1;have e:=a.c1;unfold hold bL;rw[cC (show(0:Int)≤(k:Int) by omega),cC (show(0:Int)<(B:Int) by omega),cC (show(0:Int)<(M:Int) by omega),cC (show(0:Int)<(C:Int) by omega)];simp
theorem WZ(j R S B M C:Nat)(m:cG R S B M C):ft 5 Zl 103 #[pt j 0] (λ(i:Nat)=>#[iN i]) (w1 R S B M C) (ZQ [[(j,.cells #[iN R,iN S,iN B,iN M,iN C] 23 (0,0))]]):=by
 refine WO (KO:=[[(j,.cells #[iN R,iN S,iN B,iN M,iN C] 23 (0,0))]]) Tryz.func103 (λq O N V T r o G A=>?_);refine ra (λg=>[(2,pt (B0 g) 0)]) (λg=>[ob (B0 g) #[.func (.yield q) #[] #[]] 65]) λg=>r0 [] [(3,i6 0)] [] ?_;refine WT (KO:=[[(j,.cells #[iN R,iN S,iN B,iN M,iN C] 23 (0,0))]]) (λk=>k≤R+S) (λk=>[(3,iN k)]) (λ_ L=>L) (λk=>R+S-k) (λk=>k*(B*M*C)) 0 Om (by rw[Z1];exact A) Kr Kr (λk E Q U I e=>?_);refine r0 [(0,.l 0),(3,.c [] [] (aa.v (sX R S B M C m (k:Int) 0 0 0) λ_=>ALca Value.bool (WY m k)))] [(8,.bool (decide ((k:Int)<((R+S:Nat):Int))))] [] ?_;refine cj (k:Int) ((R+S:Nat):Int) (λw n=>?_) λw n=>?_
 ·refine rr (λ_=>[(0,.l 0),(2,.c [] [2,3] (WJ R S B M C k))]) (λa=>[(13,.func (.func 101) #[] #[pt (B2 a) 0,pt ((a 2).y 1) 0])]) [] (λa L=>L++[ob (B2 a) #[iN R,iN S,iN B,iN M,iN C] 23,ob ((a 2).y 1) #[iN k] 3]) λa=>?_;have f:k<R+S:=by omega
  have z:=m.bd.r8;refine WS (encs:=λ(i:Nat)=>#[iN i]) (λy=>[(4,iN y)]) (LO:=[[((g 0).y 0,.cells #[.func (.yield q) #[] #[]] 65 (0,0))],[((a 2).y 0,.cells #[iN R,iN S,iN B,iN M,iN C] 23 (0,0))],[((a 2).y 1,.cells #[iN k] 3 (0,0))]]) (KI:=[[((a 2).y 0,.cells #[iN R,iN S,iN B,iN M,iN C] 23 (0,0))],[((a 2).y 1,.cells #[iN k] 3 (0,0))]]) r o G e (WI (B2 a) ((a 2).y 1) R S B M C k m f) (enters_of Tryz.func101 Kr rfl) (λi y h=>WX f h) (λb W h=>gZ h) Kr [0,1,2,3] (λx J=>aab _ J) (List.sublist_cons_self _ _) (λK y t v s h=>?asg) (λK y t v s h=>?bod) (λD P u d=>?rest) (λ_=>rfl)
  case asg=>
   refine r0 [] [(4,iN y)] [] ?_;exact Hy λb W H p=>h b W H (by simpa using p)
  case bod=>
   refine WQ 2 (λ_=>[(0,.l 1)]) (λ_=>[(15,.func (.yield q) #[] #[]),(16,iN y)]) [] (λ_ L=>L) (vs:=#[iN y]) (λη W F=>h W F) (λη u hA=>?_);refine cF _ rfl ?_;exact Hy λb W _ p=>hA b W (by simpa using p)
  case rest=>
   refine r0 [(1,ad k 1)] [(3,i6 ((k+1:Nat):Int))] [3] ?_;exact WU (k+1) Om (by rw[ZE,Zu] at d;rw[ZT];exact d) Om Kr [0,1] Kr
 refine WV ?_;exact WW r e (by unfold w1;rw[ZE,Zu,show k=R+S by omega]) [0]
section
theorem W4(R S B M C:Nat):aa Zl 67 #[.agg #[iN R,iN S,iN B,iN M,iN C]] [] [] (λE=>[ob (E.y 0) #[iN R,iN S,iN B,iN M,iN C] 23]) (λE=> .func (.func 103) #[] #[pt ((E.y 0)) 0]):=by
 exact fG Tryz.func67 λw cs=>ra (λa=>[(1,pt (B0 a) 0),(2,.nilFunc)]) (λa=>[ob (B0 a) #[iN R,iN S,iN B,iN M,iN C] 23]) λa=>r0 [] [(2,.func (.func 103) #[] #[pt (B0 a) 0])] [2] (lf (.l [(a 0).y 0] [] []) [0] [] [])
theorem W5{R S B M C:Nat}(c:cG R S B M C){i:Nat}(d:i<(R+S)*(B*M*C)):fz B M C i<8388608∧gx R S B M C ((fz B M C i:Nat):Int)=true:=by
 have b:=c.bd;have l:=b.m1;have k:=b.c1;have f:0<B*M*C:=Nat.pos_of_ne_zero λe=>by rw[e,Nat.mul_zero] at d;omega
 have g:i/(B*M*C)<R+S:=aae (by rw[ZA];exact d);have h:i%(B*M*C)<B*M*C:=ZG _ f;have j:i%(B*M*C)/C/M<B:=by
  rw[Nat.div_div_eq_div_mul];have e:C*M*B=B*M*C:=by rw[ZA (C*M) B,ZA C M,Zw]
  exact aae (by rw[e];exact h)
 have a:gR R S B M C (i/(B*M*C)) (i%(B*M*C)/C/M) (i%(B*M*C)/C%M) (i%(B*M*C)%C):=⟨g,j,ZG _ l,ZG _ k⟩;refine⟨zL b a,?_⟩;show gx R S B M C ((bI _ _ _ _:Nat):Int)=true;rw[←vQ];exact AF c a.hold
def da(c:Cf):Nat→Dv
 | 0=>tC
 | k+1=>iL (da c k) ((fz c.B c.M c.C k:Nat):Int) (eu c.E z6 ((fz c.B c.M c.C k:Nat):Int) false) (bif false then 1 else 0)
theorem AZ(c:Cf): ∀k,iK c (da c k).D∧(∀i,((da c k).X i).length=72)∧(da c k).l.length≤k
 | 0=>⟨UB c,λ_=>Zo,ZZ _⟩
 | k+1=>by
  obtain⟨a,b,d⟩:=AZ c k;refine⟨GQ a _ (pK _ Zo _ _),tA b _ (pK _ Zo _ _),?_⟩;show((da c k).l++[_]).length≤k+1;rw[Zx];exact Zs d
theorem W6(c:Cf)(k:Nat):da c (k+1)=iL (da c k) ((fz c.B c.M c.C k:Nat):Int) (eu c.E z6 ((fz c.B c.M c.C k:Nat):Int) false) (bif false then 1 else 0):=rfl
attribute [local irreducible] da
theorem W7(gd ge:Nat)(c:Cf)(V:Dv):aa Zl 113 #[pt ge 0] [pk (bo gd ge c V)] [0] (λ_=>[pk (bo gd ge c V)]) (λ_=> .agg #[iN c.R,iN c.S,iN c.B,iN c.M,iN c.C]):=
 aa.inW (UD ge c V.D) λL ⟨gm,a,v,e⟩=>⟨1,by rw[e];rfl,gm,a,v,by rw[e];rfl⟩
theorem HA(gd ge:Nat)(c:Cf)(V:Dv):aa Zl 107 #[pt ge 0] [pk (bo gd ge c V)] [0] (λ_=>[pk (bo gd ge c V)]) (λ_=>iN c.E):=
 aa.inW (AE ge c V.D) λL ⟨gm,a,v,e⟩=>⟨1,by rw[e];rfl,gm,a,v,by rw[e];rfl⟩
theorem W8(gd ge:Nat)(c:Cf)(d:b6 c):aa Zl 82 #[.agg (cA c),pt gd 0] [pk (bo gd ge c (da c 0))] [0] (λE=>[pk (bo gd ge c (da c ((c.R+c.S)*(c.B*c.M*c.C)))),ob (E.y 0) #[pt ((E.y 1)) 0,pt gd 0,pt ((E.y 2)) 0,i6 0,.slice none 0 0] 119,ob (E.y 1) #[iN c.R,iN c.S,iN c.B,iN c.M,iN c.C,iN c.G,iN c.res,iN c.E,iN c.lr,iN c.er,iN c.lp,iN c.ep,iN c.I,iN c.H,iN c.log,.bool c.W,pt ((E.y 3)) 0,pt ((E.y 4)) 0,pt ((E.y 5)) 0,i6 0] 122,pk (dN (E.y 2)),pk (au (E.y 3) (((E.y 6))) (((E.y 7))) ⟨lD c.R c.S c.B c.M c.C c.G c.res,km,[]⟩),pk (aD (E.y 4) (((E.y 8))) (pE c.lr c.er c.lp c.ep c.I c.H c.R)),pk (az (E.y 5) (pz c.log))]) (λE=> .tuple #[pt ((E.y 0)) 0,i6 0]):=by
 have p:=d.O;have v:(c.R+c.S)*(c.B*c.M*c.C)≤4096:=by have u:=p.bd.all;rwa [Zw,Zw,←Zw c.B] at u
 have x:z6.length=64:=Zo;refine fG Tryz.func82 λw cs=>ra (λo=>[(2,pt (B0 o) 0),(4,.pointer none),(5,i6 0)]) (λo=>[ob (B0 o) (cA c) 31]) λo=>rF [(0,.l 1),(1,.c [] [] (Al c d))] 10 (rF [(1,.c [0] [0] (AK gd ge c (da c 0))),(2,.c [0] [0] (W7 gd ge c (da c 0))),(5,.l 1),(6,.t (TH.cast (ig 23 λ_ _ _=>jg (xs:=[iN c.R,iN c.S,iN c.B,iN c.M,iN c.C]) (ys:=[iN c.R,iN c.S,iN c.B,iN c.M,iN c.C]) Kr bc) (show Value.bool (!((c.R:Int)==(c.R:Int)&&((c.S:Int)==(c.S:Int)&&((c.B:Int)==(c.B:Int)&&((c.M:Int)==(c.M:Int)&&((c.C:Int)==(c.C:Int)&&true))))))= .bool false from ALca Value.bool (by simp))))] 14 (rF [(1,.c [0] [0] (AK gd ge c (da c 0))),(2,.c [0] [0] (HA gd ge c (da c 0))),(4,.l 1),(5,.t (tk (show Value.bool ((c.E:Int) != (c.E:Int))= .bool false from ALca Value.bool (by simp))))] 22 (rr (λ_=>[(0,.l 1),(1,.c [] [2,3,4,5] (Tr c d))]) (λa=>[(6,pt ((B1 a)) 0),(7,i6 0)]) [] (λa L=>L++[ob (B1 a) #[iN c.R,iN c.S,iN c.B,iN c.M,iN c.C,iN c.G,iN c.res,iN c.E,iN c.lr,iN c.er,iN c.lp,iN c.ep,iN c.I,iN c.H,iN c.log,.bool c.W,pt (((a 1).y 1)) 0,pt (((a 1).y 2)) 0,pt (((a 1).y 3)) 0,i6 0] 122,pk (au ((a 1).y 1) (((a 1).y 4)) (((a 1).y 5)) ⟨lD c.R c.S c.B c.M c.C c.G c.res,km,[]⟩),pk (aD ((a 1).y 2) (((a 1).y 6)) (pE c.lr c.er c.lp c.ep c.I c.H c.R)),pk (az ((a 1).y 3) (pz c.log))]) λa=>rF [] 35 (rr (λ_=>[(2,.c [] [6] (UY)),(6,.s 8)]) (λb=>[(8,pt (B5 b) 0)]) [] (λb L=>L++[pk (dN (B2 b)),ob (B4 b) #[pt ((B1 a)) 0,pt gd 0,pt ((B2 b)) 0,i6 0,.slice none 0 0] 119,ob (B5 b) #[pt (B4 b) 0] 37]) λb=>rr (λ_=>[(2,.l 1),(3,.c [] [9] (W4 c.R c.S c.B c.M c.C))]) (λh=>[(45,.func (.func 103) #[] #[pt ((B3 h)) 0])]) [] (λh L=>L++[ob (B3 h) #[iN c.R,iN c.S,iN c.B,iN c.M,iN c.C] 23]) λh=>?_))));refine oX (encs:=λ(i:Nat)=>#[iN i]) (xs:=(Zt ((c.R+c.S)*(c.B*c.M*c.C))).map (fz c.B c.M c.C)) (KO:=[[((B3 h),.cells #[iN c.R,iN c.S,iN c.B,iN c.M,iN c.C] 23 (0,0))]]) (WZ (B3 h) c.R c.S c.B c.M c.C p) (enters_of Tryz.func103 Kr rfl) (λk=>k≤(c.R+c.S)*(c.B*c.M*c.C)) (λk L=>L.set 0 ((pk (bo gd ge c (da c k))))) [9] Om Kr (λD k F z B r e=>?_) (λy e=>?_)
 ·obtain⟨g,rfl⟩:=nW r;have j:=W5 p g;have m:=j.1;have n:=j.2;have f:=AZ c k;have q:nE c (da c k):=⟨f.1,f.2.1,Zn f.2.2 Om⟩;refine r0 [] [(9,i6 ((fz c.B c.M c.C k:Nat):Int))] [] ?_;refine ag [9] (λA C=>?_);exact rs [(0,.l 8),(3,.c [7,2,6,0] [6,0] (pL (B4 b) (B1 a) ((a 1).y 1) ((a 1).y 2) ((a 1).y 3) gd ge (B2 b) c d 0 0 (.slice none 0 0) (da c k) q (fz c.B c.M c.C k) m n z6 bc false))] 0 ((pk (bo gd ge c (iL (da c k) ((fz c.B c.M c.C k):Int) (eu c.E z6 ((fz c.B c.M c.C k):Int) false) (bif false then 1 else 0))))) (ne _ ⟨Om,rfl⟩ [0,1,2,3,4,5,6,7,8,9] (by rw[W6];kernel_rfl))
 refine cl [pk (bo gd ge c (da c ((c.R+c.S)*(c.B*c.M*c.C)))),ob (B0 o) (cA c) 31,ob (B1 a) #[iN c.R,iN c.S,iN c.B,iN c.M,iN c.C,iN c.G,iN c.res,iN c.E,iN c.lr,iN c.er,iN c.lp,iN c.ep,iN c.I,iN c.H,iN c.log,.bool c.W,pt (((a 1).y 1)) 0,pt (((a 1).y 2)) 0,pt (((a 1).y 3)) 0,i6 0] 122,pk (au ((a 1).y 1) (((a 1).y 4)) (((a 1).y 5)) ⟨lD c.R c.S c.B c.M c.C c.G c.res,km,[]⟩),pk (aD ((a 1).y 2) (((a 1).y 6)) (pE c.lr c.er c.lp c.ep c.I c.H c.R)),pk (az ((a 1).y 3) (pz c.log)),pk (dN (B2 b)),ob (B4 b) #[pt ((B1 a)) 0,pt gd 0,pt ((B2 b)) 0,i6 0,.slice none 0 0] 119,ob (B5 b) #[pt (B4 b) 0] 37,ob (B3 h) #[iN c.R,iN c.S,iN c.B,iN c.M,iN c.C] 23] (by rw[ZE,Zu];kernel_rfl) ?_;simp only[ZE,Zu] at e;exact r0 [(0,.l 8)] [(4,pt (B4 b) 0),(5,i6 0)] [4,5] (lf (.l [(b 4).y 0,(B1 a),(B2 b),((a 1).y 1),((a 1).y 2),((a 1).y 3),(a 1).y 4,(a 1).y 5,(a 1).y 6] [] []) [0,7,2,6,3,4,5] [] [])
end
theorem aa.outsP{P:Program}{f:FuncId}{args:Array Value}{rd:aj}{O:List Nat}{wt wt':ab→aj}{v:ab→Value}(h:aa P f args rd O wt v)(o: ∀E ds,bt (wt E) ds→∃a,bt (wt' E) a∧aaa a.flatten ds.flatten):aa P f args rd O wt' v:=
 ⟨h.ent,λw cs m l=>(callsIn_wide (n:=6)).1 ((callsIn_wide.2 (h.out w cs m l)).mono λe p k=>by
  obtain⟨E,ds,g,i,b⟩:=k;obtain⟨a,j,c⟩:=o E ds i;exact⟨E,a,g,j,⟨b.os,b.tape,b.output,b.size,λx d=>b.obj x (c.mem_iff.1 d),λx d=>b.new x (c.mem_iff.1 d),(c.pairwise_iff (λ{x y} h=>Ne.symm h)).2 b.nd,b.far⟩⟩)⟩
theorem W9{ds:List ay}{is js:List Nat}(h:aaa is js):aaa (is.map λi=>ds.getD i []).flatten (js.map λi=>ds.getD i []).flatten:=(h.map _).flatten
def tL(c:Cf):Ct:=⟨⟨⟨lD c.R c.S c.B c.M c.C c.G c.res,km,[]⟩,pE c.lr c.er c.lp c.ep c.I c.H c.R,pz c.log,0⟩,0,[],da c ((c.R+c.S)*(c.B*c.M*c.C))⟩
def Y6(c:Cf):Mc:=⟨tL c,λ_=>pM,[],[],0,0⟩
theorem Xa(gd ge:Nat)(c:Cf)(j:b6 c):aa Zl 82 #[.agg (cA c),pt gd 0] [pk (bo gd ge c tC)] [0] (λE=>[pk (aV (E.y 0) (E.y 1) (E.y 3) (E.y 6) (E.y 7) (E.y 4) (E.y 8) (E.y 5) gd ge (E.y 2) c (tL c))]) (λE=> .tuple #[pt (E.y 0) 0,i6 0]):=by
 refine(W8 gd ge c j).outsP λE ds a=>?_;obtain⟨b,_,rfl,k,a⟩:=eA a;obtain⟨d,_,rfl,l,a⟩:=eA a;obtain⟨e,_,rfl,m,a⟩:=eA a;obtain⟨f,_,rfl,n,a⟩:=eA a;obtain⟨g,_,rfl,o,a⟩:=eA a;obtain⟨h,_,rfl,p,a⟩:=eA a;obtain⟨i,_,rfl,q,a⟩:=eA a;obtain rfl:=oJ a;refine⟨[([d,e,g,h,i,f,b,[]]:List ay).flatten],⟨⟨_,[d,e,g,h,i,f,b,[]],⟨.slice none 0 0,rfl⟩,⟨l,m,o,p,q,n,k,ar.nil none,trivial⟩,rfl⟩,trivial⟩,?_⟩;have hp:=W9 (ds:=[b,d,e,f,g,h,i]) (is:=[1,2,4,5,6,3,0]) (js:=[0,1,2,3,4,5,6]) Dc;simpa using hp
theorem Xb(c:Cf)(e:b6 c):aa Zl 48 #[.agg (cA c)] [] [] (λE=>[ob (E.y 0) #[pt ((E.y 10)) 0,pt ((E.y 1)) 0,.map (some (E.y 2)),.slice none 0 0,.slice none 0 0,i6 0,i6 0] 114,pk (aV (E.y 1) ((E.y 3)) ((E.y 4)) ((E.y 5)) ((E.y 6)) ((E.y 7)) ((E.y 8)) ((E.y 9)) ((E.y 10)) ((E.y 11)) ((E.y 12)) c (tL c)),cV (λ_=>pM) (E.y 2)]) (λE=> .tuple #[pt ((E.y 0)) 0,i6 0]):=by
 exact fG Tryz.func48 λw cs=>ra (λf=>[(1,pt (B0 f) 0),(2,.pointer none),(3,i6 0)]) (λf=>[ob (B0 f) (cA c) 31]) λf=>rr (λ_=>[(2,.l 0),(4,.l 0),(5,.c [] [1] (UX c e))]) (λb=>[(4,pt ((B5 b)) 0),(5,i6 0)]) [] (λb L=>L++[pk (bo (B5 b) ((b 5).y 1) c tC)]) λb=>rF [] 17 (rr (λ_=>[(0,.l 0),(2,.c [1] [1] (Xa (B5 b) ((b 5).y 1) c e))]) (λa=>[(6,pt ((B2 a)) 0),(5,i6 0)]) [5] (λa L=>L.set 1 ((pk (aV (B2 a) ((a 2).y 1) ((a 2).y 3) ((a 2).y 6) ((a 2).y 7) ((a 2).y 4) ((a 2).y 8) ((a 2).y 5) (B5 b) ((b 5).y 1) ((a 2).y 2) c (tL c))))) λa=>rF [] 26 (rr (λ_=>[(2,.m (mm 2 wW pM))]) (λd=>[(2,pt (B4 d) 0),(3,i6 0)]) [2,3] (λd L=>L++[cV (λ_=>pM) (B2 d),ob (B4 d) #[pt ((B5 b)) 0,pt ((B2 a)) 0,.map (some (B2 d)),.slice none 0 0,.slice none 0 0,i6 0,i6 0] 114]) λd=>lf (.l [(d 4).y 0,(B2 a),(d 2).y 0,(a 2).y 1,(a 2).y 3,(a 2).y 6,(a 2).y 7,(a 2).y 4,(a 2).y 8,(a 2).y 5,(b 5).y 0,(b 5).y 1,(a 2).y 2] [] []) [3,1,2] [] []))
theorem Xc{R S B M C way a:Nat}(h:iB R S B M C way a):bf (lD R S B M C way a):=
 ⟨h,Zu,Zo,Zo,ZB _,ZB _,λi c=>by
  show(Zt _).getD i 0<_;have b:i<R*B*M-a:=c;rw[Zp,ZH b];show i<R*B*M;omega,λi c=> .inl (by
  show(Zm R (-1:Int)).getD i 0= -1;have b:i<R:=c;rw[Zp,ZI,ALifp b];rfl)⟩
theorem HC{α:Type}(n i:Nat)(d:α):(Zm n d).getD i d=d:=by
 rw[Zp,ZI]
 split<;>rfl
theorem Xd{ev:Nat}(h:1≤ev):fb ev bj.l bj.a:=⟨ZB _,h⟩
theorem Xe{c:Cf}(h:b6 c):Y7 (tL c).s 1:=by
 refine⟨⟨Xc h.ly,⟨.inl rfl⟩,λa d=>absurd d Z5,ZB _,⟨λx _=>HC _ _ _⟩⟩,⟨h.r,h.p,h.h1,h.h2,?_,λi b=>?_,⟨ZB _,h.m1,h.m2,λi b=>absurd b (ZX _)⟩⟩,⟨ZB _,h.l1,h.l2,by show 1≤1000000000;omega⟩,ZZ _,Zo⟩
 ·have e:=h.O.bd.r8;show(Zm c.R bj).length≤8;rw[Zo];omega
 ·show fb c.er ((Zm c.R bj).getD i bj).l ((Zm c.R bj).getD i bj).a;rw[HC];exact Xd h.r.e1
theorem HD{c:Cf}(h:b6 c):dF c (Y6 c) 1 4096 0:=by
 have b:=h.O.bd;have a:(c.R+c.S)*(c.B*c.M*c.C)≤4096:=by have g:=b.all;rwa [Zw,Zw,←Zw c.B] at g
 obtain⟨d,e,f⟩:=AZ c ((c.R+c.S)*(c.B*c.M*c.C));refine⟨⟨h,Xe h,d,e,Zn f a,ZB _,⟨rfl,rfl,rfl,rfl,rfl,rfl,rfl⟩,λq=>absurd rfl q,?_,ZB _⟩,λ_=>Zo,ZB _,ZB _,ZB _,ZB _⟩;have:=h.ly.rp;exact Nat.mul_pos Om b.c1
theorem Xf(c:Cf)(a:b6 c):aa Zl 48 #[.agg (cA c)] [] [] (λE=>[pk (a7 (E.y 0) (E.y 1) (E.y 3) (E.y 4) (E.y 5) (E.y 6) (E.y 7) (E.y 8) (E.y 9) (E.y 10) (E.y 11) (E.y 12) c (Y6 c))]) (λE=> .tuple #[pt (E.y 0) 0,i6 0]):=
 (Xb c a).outs λE d b=>GV ⟨_,_,_,rfl⟩ b
theorem Xg{j k:Nat}(b:k≤j)(h:(((2^j:Nat):Int)==((2^k:Nat):Int))=false):k+1≤j:=by
 rcases Nat.lt_or_ge k j with a | a
 ·exact a
 ·obtain rfl:k=j:=Nat.le_antisymm b a;simp at h
theorem HE{j k a:Nat}(b:k≤j)(h:2^j≤a):((2^k:Nat):Int)≤(a:Int):=by
 have:=Nat.pow_le_pow_right (n:=2) Dc b;omega
theorem Xh(j a:Nat)(h:2^j≤a)(i:a≤1024):aa Zl 111 #[i6 ((2^j:Nat):Int),iN a] [] [] N0 (λ_=> .bool true):=by
 refine fG Tryz.func111 λw cs=>r0 [] [(4,.bool false)] [] (r0 [] [(5,i6 1)] [] ?_);refine lq (λk=>k≤j) (λk=>[(5,i6 ((2^k:Nat):Int))]) (λ_ L=>L) (λk=>j-k) 0 Om Kr Kr (λk c=>?_);have d:=c;have f:=HE d h;refine rT [(2,.t (tk (show Value.bool (decide (((2^k:Nat):Int)≤(a:Int)))= .bool true from ALca Value.bool (by exact cC (HE As h)))))] 8 (r0 [] [(13,.bool (((2^j:Nat):Int)==((2^k:Nat):Int)))] [] ?_);refine cX ((2^j:Nat):Int) ((2^k:Nat):Int) (λe b=>?_) λe b=>?_
 ·exact r0 [] [(4,.bool true)] [] (lf ab.zero [] [] [])
 refine r0 [(1,ml (2^k) 2)] [(5,i6 (((2^k)*2:Nat):Int))] [5] ?_;have g:k+1≤j:=Xg As As;exact le (k+1) Om Om Kr [] Kr
theorem Xi{n b:Nat}(f:b≤1024)(h:fy (n:Int) (b:Int)=true): ∃j,n=2^j∧2^j≤b:=by
 have c:=E3 Om h;have d:=mK h;simp only[List.mem_cons,Z5,or_false] at c;have a: ∀j,n=2^j→∃j,n=2^j∧2^j≤b:=λj e=>⟨j,e,by rw[←e];omega⟩;rcases c with h | h | h | h | h | h | h | h | h | h | h
 ·exact a 0 h
 ·exact a 1 h
 ·exact a 2 h
 ·exact a 3 h
 ·exact a 4 h
 ·exact a 5 h
 ·exact a 6 h
 ·exact a 7 h
 ·exact a 8 h
 ·exact a 9 h
 ·exact a 10 h
theorem w3(n a:Nat)(b:a≤1024)(h:fy (n:Int) (a:Int)=true):aa Zl 111 #[iN n,iN a] [] [] N0 (λ_=> .bool true):=by
 obtain⟨j,rfl,c⟩:=Xi b h;exact Xh j a c b
structure Xj (R S B M C:Nat):Prop where
 r:fy (R:Int) 8=true
 b:fy (B:Int) 16=true
 m:fy (M:Int) 1024=true
 c:fy (C:Int) 64=true
theorem cG.p{R S B M C:Nat}(h:cG R S B M C):Xj R S B M C:=by
 have h:=h.ok;unfold jo at h;simp only[Z4,decide_eq_true_eq] at h;obtain⟨⟨⟨⟨⟨⟨a,e⟩,f⟩,b⟩,c⟩,d⟩,g⟩:=h;exact⟨a,b,c,d⟩
theorem Xk(R S B M C:Nat)(g:cG R S B M C):aa Zl 80 #[.agg #[iN R,iN S,iN B,iN M,iN C]] [] [] N0 (λ_=> .bool true):=by
 have b:=g.p;have a:=g.bd;have l:=a.r8;have i:=a.b16;have h:=a.m10;have j:=a.c64;have e:=a.all;have f:(R+S)*B*M≤4096:=Zn (ZK _ a.c1) e;have k:(R+S)*B≤4096:=Zn (ZK _ a.m1) f;exact fG Tryz.func80 λw cs=>ra (λd=>[(1,pt (B0 d) 0),(2,.bool false)]) (λd=>[ob (B0 d) #[iN R,iN S,iN B,iN M,iN C] 170]) λd=>rF [(1,.m (ld 0 (iN R))),(2,.c [] [] (w3 R 8 Om (by exact b.r))),(6,.m (ld 0 (iN B))),(7,.c [] [] (w3 B 16 Om (by exact b.b))),(12,.m (ld 0 (iN M))),(13,.c [] [] (w3 M 1024 Om (by exact b.m))),(18,.m (ld 0 (iN C))),(19,.c [] [] (w3 C 64 Om (by exact b.c))),(24,.m (ld 0 (iN S))),(25,.t (tk (show Value.bool (decide ((S:Int)<0))= .bool false from ALca Value.bool (by exact bl Om)))),(29,.m (ld 0 (iN S))),(31,.m (ld 0 (iN R))),(32,sI 8 ((R:Int)) Om),(33,.t (tk (show Value.bool (decide ((8-(R:Int))<(S:Int)))= .bool false from ALca Value.bool (by exact bl Om))))] 37 (r0 [(1,.m (ld 0 (iN R))),(3,.m (ld 0 (iN S))),(4,ad R S),(6,.m (ld 0 (iN B))),(7,ml (R+S) B),(9,.m (ld 0 (iN M))),(10,ml ((R+S)*B) M),(12,.m (ld 0 (iN C))),(13,ml (((R+S)*B)*M) C),] [(2,.bool (decide ((((((R+S)*B)*M)*C:Nat):Int)≤4096)))] [2] (ao (.bool (decide ((((((R+S)*B)*M)*C:Nat):Int)≤4096))) ab.zero (by exact ALca Value.bool (cC Om)) [] [] []))
theorem Xl(r s b m c way g mode n j k i a heavy f:Int)(e:Bool)(h:iY r s b m c way g mode n j k i a heavy f=false):aa Zl 47 #[.agg #[i6 r,i6 s,i6 b,i6 m,i6 c,i6 way,i6 g,i6 mode,i6 n,i6 j,i6 k,i6 i,i6 a,i6 heavy,i6 f,.bool e]] [] [] N0 (λ_=> .bool false):=by
 exact fG Tryz.func47 λw cs=>ra (λo=>[(1,pt (B0 o) 0),(2,.bool false)]) (λo=>[ob (B0 o) #[i6 r,i6 s,i6 b,i6 m,i6 c,i6 way,i6 g,i6 mode,i6 n,i6 j,i6 k,i6 i,i6 a,i6 heavy,i6 f,.bool e] 31]) λo=>rr (λ_=>[(2,.l 0),(4,.s 1)]) (λp=>[(3,pt (B3 p) 0)]) [] (λp L=>L++[ob (B3 p) #[i6 r,i6 s,i6 b,i6 m,i6 c] 23]) λp=>r0 [(0,.m (ls 0 ([i6 r,i6 s,i6 b,i6 m,i6 c,i6 way,i6 g,i6 mode,i6 n,i6 j,i6 k,i6 i,i6 a,i6 heavy,i6 f,.bool e]))),(1,.c [] [] (aa.v ((Ge r s b m c way g mode n j k i a heavy f e)) λ_=>ALca Value.bool (show(iY r s b m c way g mode n j k i a heavy f)=false from(by exact h)))),(3,.d),(4,.d),(7,.d),(8,.d),(9,.d),(10,.d),(11,.d),(12,.d),(13,.d),(14,.d),(15,.d),(16,.d),(17,.d),(18,.d),(19,.d),(20,.d),(21,.d)] [(2,.bool false)] [2] (lf ab.zero [] [] [])
theorem HF(c:Cf)(b:b6 c):aa Zl 47 #[.agg (cA c)] [] [] N0 (λ_=> .bool (decide ((((((c.R+c.S)*c.B)*c.M)*c.C:Nat):Int)≤100))):=by
 have h:=b.O;have a:=h.bd;have j:=a.r8;have f:=a.all;have g:(c.R+c.S)*c.B*c.M≤4096:=Zn (ZK _ a.c1) f;have i:(c.R+c.S)*c.B≤4096:=Zn (ZK _ a.m1) g;exact fG Tryz.func47 λw cs=>ra (λd=>[(1,pt (B0 d) 0),(2,.bool false)]) (λd=>[ob (B0 d) (cA c) 31]) λd=>rr (λ_=>[(2,.l 0),(4,.s 1)]) (λe=>[(3,pt (B3 e) 0)]) [] (λe L=>L++[ob (B3 e) #[iN c.R,iN c.S,iN c.B,iN c.M,iN c.C] 23]) λe=>r0 [(0,.m (ls 0 ([iN c.R,iN c.S,iN c.B,iN c.M,iN c.C,iN c.G,iN c.res,iN c.E,iN c.lr,iN c.er,iN c.lp,iN c.ep,iN c.I,iN c.H,iN c.log,.bool c.W]))),(1,.c [] [] (Al c b)),(3,.m (ls 1 ([iN c.R,iN c.S,iN c.B,iN c.M,iN c.C]))),(4,.c [] [] (Xk c.R c.S c.B c.M c.C h)),(8,.m (ld 1 (iN c.R))),(10,.m (ld 1 (iN c.S))),(11,ad c.R c.S),(13,.m (ld 1 (iN c.B))),(14,ml (c.R+c.S) c.B),(16,.m (ld 1 (iN c.M))),(17,ml ((c.R+c.S)*c.B) c.M),(19,.m (ld 1 (iN c.C))),(20,ml (((c.R+c.S)*c.B)*c.M) c.C),] [(2,.bool (decide ((((((c.R+c.S)*c.B)*c.M)*c.C:Nat):Int)≤100)))] [2] (lf ab.zero [] [] [])
def gz(c:Cf):Bool:=decide ((c.R+c.S)*c.B*c.M*c.C≤100)
theorem Y9(r s b m c way f mode k i j g a heavy e:Int)(d:Bool)(h:iY r s b m c way f mode k i j g a heavy e=false):aa Zl 12 #[.agg #[i6 r,i6 s,i6 b,i6 m,i6 c,i6 way,i6 f,i6 mode,i6 k,i6 i,i6 j,i6 g,i6 a,i6 heavy,i6 e,.bool d]] [] [] N0 (λ_=> .pointer none):=by
 exact fG Tryz.func12 λw cs=>ra (λn=>[(1,pt (B0 n) 0),(2,.pointer none)]) (λn=>[ob (B0 n) #[i6 r,i6 s,i6 b,i6 m,i6 c,i6 way,i6 f,i6 mode,i6 k,i6 i,i6 j,i6 g,i6 a,i6 heavy,i6 e,.bool d] 31]) λn=>rT [(0,.l 0),(1,.c [] [] (Xl r s b m c way f mode k i j g a heavy e d h))] 7 (r0 [] [(2,.pointer none)] [2] (lf ab.zero [] [] []))
theorem HG(x:Int):aa Zl 173 #[i6 x] [] [] N0 (λ_=> .agg (rB 3 ([aQ x,aQ (x/256),(aQ (x/65536))&&& (127:UInt8)])).toArray):=by
 exact fG Tryz.func173 λw cs=>ra (λe=>[(2,pt (B0 e) 0)]) (λe=>[ob (B0 e) (rB 3 (Zm 3 0)).toArray 262]) λe=>rs [(1,.t (tc (k:= .i64) (l:= .u8) (a:=i6 x) λ_ _ _ c d=>oH c d)),(3,.t (tv (av .shr 3 (.tmp 5) (.const (u6 8)) (i6 x) (u6 8)) (λ_=>iO 8 Dc))),(4,.t (tc (k:= .i64) (l:= .u8) (a:=i6 (x/256)) λ_ _ _ c d=>oH c d)),(6,.t (tv (av .shr 3 (.tmp 8) (.const (u6 16)) (i6 x) (u6 16)) (λ_=>iO 16 Dc))),(7,.t (tc (k:= .i64) (l:= .u8) (a:=i6 (x/65536)) λ_ _ _ c d=>oH c d)),(8,.t (tb (a:=u1 ((aQ (x/65536)).toNat:Int)) (b:=u1 127) λ_ _ _ _=>xN (aQ (x/65536)) ((127:UInt8)))),(10,.s 0)] 0 (ob (B0 e) (rB 3 ([aQ x,aQ (x/256),(aQ (x/65536))&&& (127:UInt8)])).toArray 262) (lf ab.zero [] [] [0])
def oD(mode:Nat)(a b:Int):Bool:=(bif (mode:Int)==1 then((pc ((a%8388608).toNat)%2:Nat):Int) != ((pc ((b%8388608).toNat)%2:Nat):Int) else !(decide ([aQ a,aQ (a/256),(aQ (a/65536))&&& (127:UInt8)]=[aQ b,aQ (b/256),(aQ (b/65536))&&& (127:UInt8)])))
theorem Xm(mode:Nat)(a b:Int):aa Zl 135 #[iN mode,i6 a,i6 b] [] [] N0 (λ_=> .bool (oD mode a b)):=by
 refine fG Tryz.func135 λw cs=>r0 [] [(6,.bool false)] [] (r0 [] [(8,.bool ((mode:Int)==1))] [] ?_);refine cX (mode:Int) 1 (λe d=>?_) λe d=>?_
 ·exact r0 [(1,.c [] [] (vz a)),(3,.c [] [] (vz b))] [(6,.bool (((pc ((a%8388608).toNat)%2:Nat):Int) != ((pc ((b%8388608).toNat)%2:Nat):Int)))] [6] (ao (.bool (((pc ((a%8388608).toNat)%2:Nat):Int) != ((pc ((b%8388608).toNat)%2:Nat):Int))) ab.zero (by((try simp only[oD]);(repeat (first | rw[e] | rw[ALct])))<;>rfl) [] [] [])
 exact r0 [(1,.c [] [] (HG a)),(3,.c [] [] (HG b)),(4,.t (ig 262 λ_ _ _=>jg (xs:=rB 3 ([aQ a,aQ (a/256),(aQ (a/65536))&&& (127:UInt8)])) (ys:=rB 3 ([aQ b,aQ (b/256),(aQ (b/65536))&&& (127:UInt8)])) Kr (iP (show([aQ a,aQ (a/256),(aQ (a/65536))&&& (127:UInt8)]).length=3 by rfl) (show([aQ b,aQ (b/256),(aQ (b/65536))&&& (127:UInt8)]).length=3 by rfl))))] [(6,.bool (!(decide ([aQ a,aQ (a/256),(aQ (a/65536))&&& (127:UInt8)]=[aQ b,aQ (b/256),(aQ (b/65536))&&& (127:UInt8)]))))] [6] (ao (.bool (!(decide ([aQ a,aQ (a/256),(aQ (a/65536))&&& (127:UInt8)]=[aQ b,aQ (b/256),(aQ (b/65536))&&& (127:UInt8)])))) ab.zero (by((try simp only[oD]);(repeat (first | rw[e] | rw[ALcf])))<;>rfl) [] [] [])
def tM(a:Int)(x:Ac):Int:=(bif !(mV x) then max a (bif x.mr then(x.ex+1) else x.ex) else a)
def tN(a:Bool)(x:Ac):Bool:=(bif !(mV x) then a else true)
def tO(dr:Bool)(x:Ac):Bool:=(bif !(mV x) then dr else(dr||x.dr)||(decide (0<x.ex)))
def tQ(tl:Bool)(mode:Nat)(x:Ac):Bool:=(bif !(mV x) then tl else(bif ((!x.wr)&&(!x.dr))&&(!(oD mode x.ix x.wt)) then false else tl))
theorem Xn(e:Int)(b d f:Bool)(mode:Nat)(x:Ac)(h0:0≤x.ex)(h1:x.ex≤1000000):aa Zl 108 #[.agg #[i6 e,.bool b,.bool d,.bool f],iN mode,.agg #[.bool x.wr,i6 x.ix,i6 x.wt,.bool x.dr,i6 x.ex,.bool x.mr]] [] [] N0 (λ_=> .agg #[i6 (tM e x),.bool (tN b x),.bool (tO d x),.bool (tQ f mode x)]):=by
 refine fG Tryz.func108 λw cs=>ra (λa=>[(3,pt (B0 a) 0),(5,pt (B1 a) 0),(6,pt (B2 a) 0)]) (λa=>[ob (B0 a) #[i6 e,.bool b,.bool d,.bool f] 166,ob (B1 a) #[.bool x.wr,i6 x.ix,i6 x.wt,.bool x.dr,i6 x.ex,.bool x.mr] 90,ob (B2 a) #[i6 0,.bool false,.bool false,.bool false] 166]) λa=>r0 [(0,.l 1),(1,.c [] [] (UW x))] [(10,.bool (!(mV x)))] [] ?_;refine cB (!(mV x)) (λh=>?_) λh=>?_
 ·refine r0 [(1,.l 1)] [(7,i6 x.ex)] [] (r0 [(1,.l 1)] [(14,.bool x.mr)] [] ?_);refine cJ (x.mr) (λc=>[(7,i6 (bif c then(x.ex+1) else x.ex))]) (λ_=>[ob (B0 a) #[i6 e,.bool b,.bool d,.bool f] 166,ob (B1 a) #[.bool x.wr,i6 x.ix,i6 x.wt,.bool x.dr,i6 x.ex,.bool x.mr] 90,ob (B2 a) #[i6 0,.bool false,.bool false,.bool false] 166]) (λi=>?_) (λi=>?_) ?_
  ·refine r0 [(1,aI x.ex (1) Om)] [(7,i6 (x.ex+1))] [7] ?_;exact cm Kr [0,1,2] Kr
  ·exact cm Kr [0,1,2] Kr
  exact rs [(1,.l 0),(3,.t (tv (Builtin.max_ #[3,3] 3 #[i6 e,i6 (bif x.mr then(x.ex+1) else x.ex)]) (λ_=>r9 _ _ _ _))),(5,.s 0)] 0 (ob (B0 a) #[i6 (max e (bif x.mr then(x.ex+1) else x.ex)),.bool b,.bool d,.bool f] 166) (rs [(0,.l 0),(1,.s 2)] 2 (ob (B2 a) #[i6 (max e (bif x.mr then(x.ex+1) else x.ex)),.bool b,.bool d,.bool f] 166) (ao (.agg #[i6 (max e (bif x.mr then(x.ex+1) else x.ex)),.bool b,.bool d,.bool f]) ab.zero (by((try simp only[tM,tN,tO,tQ]);(repeat (first | rw[h] | rw[ALct])))<;>rfl) [] [] [2]))
 refine rs [(1,.s 0)] 0 (ob (B0 a) #[i6 e,.bool true,.bool d,.bool f] 166) (rs [(1,.m (ld 0 (.bool d))),(5,.m (ld 1 (.bool x.dr))),(9,.m (ld 1 (i6 x.ex))),(13,.s 0)] 0 (ob (B0 a) #[i6 e,.bool true,.bool ((d||x.dr)||(decide (0<x.ex))),.bool f] 166) (r0 [(1,.m (ld 1 (.bool x.wr))),(6,.m (ld 1 (.bool x.dr))),(12,.m (ld 1 (i6 x.ix))),(15,.m (ld 1 (i6 x.wt))),(16,.c [] [] (Xm mode x.ix x.wt))] [(55,.bool (((!x.wr)&&(!x.dr))&&(!(oD mode x.ix x.wt))))] [] ?_));refine cJ (((!x.wr)&&(!x.dr))&&(!(oD mode x.ix x.wt))) N0 (λc=>[ob (B0 a) #[i6 e,.bool true,.bool ((d||x.dr)||(decide (0<x.ex))),.bool (bif c then false else f)] 166,ob (B1 a) #[.bool x.wr,i6 x.ix,i6 x.wt,.bool x.dr,i6 x.ex,.bool x.mr] 90,ob (B2 a) #[i6 0,.bool false,.bool false,.bool false] 166]) (λg=>?_) (λg=>?_) ?_
 ·refine rr (λ_=>[(1,.s 0)]) N0 [] (λ_ L=>L.set 0 (ob (B0 a) #[i6 e,.bool true,.bool ((d||x.dr)||(decide (0<x.ex))),.bool false] 166)) λj=>?_;exact cm Kr [0,1,2] Kr
 ·exact cm Kr [0,1,2] Kr
 exact rs [(0,.l 0),(1,.s 2)] 2 (ob (B2 a) #[i6 e,.bool true,.bool ((d||x.dr)||(decide (0<x.ex))),.bool (bif ((!x.wr)&&(!x.dr))&&(!(oD mode x.ix x.wt)) then false else f)] 166) (ao (.agg #[i6 e,.bool true,.bool ((d||x.dr)||(decide (0<x.ex))),.bool (bif ((!x.wr)&&(!x.dr))&&(!(oD mode x.ix x.wt)) then false else f)]) ab.zero (by((try simp only[tM,tN,tO,tQ]);(repeat (first | rw[h] | rw[ALcf])))<;>rfl) [] [] [2])
theorem Xo(x:Sv)(h1:x.l.length=64)(h2:x.w.length=64):aa Zl 62 #[.agg (([i6 x.k,i6 x.ln]:List Value)++rB 64 x.d++([u6 (x.m:Int),i6 x.f0,i6 x.f1,i6 x.f2,i6 x.f3,i6 x.f4,i6 x.f5,i6 x.f6,i6 x.f7,i6 x.e,i6 x.n]:List Value)++rB 64 x.l++rB 64 x.w++([iN x.fi,iN x.la]:List Value)).toArray] [] [] N0 (λ_=> .bool ((x.k != 1)||(decide (x.l=x.w)))):=by
 exact fG Tryz.func62 λw cs=>ra (λa=>[(1,pt (B0 a) 0),(2,.bool false)]) (λa=>[ob (B0 a) (([i6 x.k,i6 x.ln]:List Value)++rB 64 x.d++([u6 (x.m:Int),i6 x.f0,i6 x.f1,i6 x.f2,i6 x.f3,i6 x.f4,i6 x.f5,i6 x.f6,i6 x.f7,i6 x.e,i6 x.n]:List Value)++rB 64 x.l++rB 64 x.w++([iN x.fi,iN x.la]:List Value)).toArray 149]) λa=>r0 [(2,.m (ld 0 (i6 x.k))),(7,.m (ls 0 (rB 64 x.l))),(9,.m (ls 0 (rB 64 x.w))),(10,.t (ig 43 λ_ _ _=>uH (xs:=rB 64 x.l) (ys:=rB 64 x.w) Kr (iP (show(x.l).length=64 by(simp only[LL,h1,h2];done)) (show(x.w).length=64 by(simp only[LL,h1,h2];done)))))] [(2,.bool ((x.k != 1)||(decide (x.l=x.w))))] [2] (lf ab.zero [] [] [])
section
section
variable {f:FuncId} {args:Array Value} {v:ab→Value} {g gc gl gr gm gq gk gt gg gd ge go:Nat} {c:Cf} {x:Mc} {y:Ct}
theorem tS(h:aa Zl f args [pk (aV gc gl gr gm gq gk gt gg gd ge go c x.x)] [0] (λ_=>[pk (aV gc gl gr gm gq gk gt gg gd ge go c x.x)]) v):aa Zl f args [pk (a7 g gc gl gr gm gq gk gt gg gd ge go c x)] [0] (λ_=>[pk (a7 g gc gl gr gm gq gk gt gg gd ge go c x)]) v:=
 aa.inW h λL ⟨gi,a,vs,e⟩=>⟨1,by rw[e];rfl,gi,a,vs,by rw[e];rfl⟩
theorem Y5(h:aa Zl f args [pk (au gr gm gq y.s.r)] [0] (λ_=>[pk (au gr gm gq y.s.r)]) v):aa Zl f args [pk (aV gc gl gr gm gq gk gt gg gd ge go c y)] [0] (λ_=>[pk (aV gc gl gr gm gq gk gt gg gd ge go c y)]) v:=
 aa.inW h λL ⟨u,e⟩=>⟨2,by rw[e];rfl,u,by rw[e];rfl⟩
theorem Xp(h:aa Zl f args [pk (az gg y.s.g)] [0] (λ_=>[pk (az gg y.s.g)]) v):aa Zl f args [pk (aV gc gl gr gm gq gk gt gg gd ge go c y)] [0] (λ_=>[pk (aV gc gl gr gm gq gk gt gg gd ge go c y)]) v:=
 aa.inW h λL ⟨u,e⟩=>⟨4,by rw[e];rfl,u,by rw[e];rfl⟩
theorem HH(h:aa Zl f args [pk (bo gd ge c y.V)] [0] (λ_=>[pk (bo gd ge c y.V)]) v):aa Zl f args [pk (aV gc gl gr gm gq gk gt gg gd ge go c y)] [0] (λ_=>[pk (aV gc gl gr gm gq gk gt gg gd ge go c y)]) v:=
 aa.inW h λL ⟨u,e⟩=>⟨6,by rw[e];rfl,u,by rw[e];rfl⟩
end
theorem Xq(gc gl gr gm gq gk gt gg gd ge go:Nat)(c:Cf)(x:Ct):aa Zl 14 #[pt gc 0] [pk (aV gc gl gr gm gq gk gt gg gd ge go c x)] [0] (λ_=>[pk (aV gc gl gr gm gq gk gt gg gd ge go c x)]) (λ_=>pt gg 0):=aa.pkZ Tryz.func14 λL a=>by
 obtain⟨v,rfl⟩:=a;refine⟨[2,3,4,5,6,7],λ_=>[pk (au gr gm gq x.s.r),pk (aD gk gt x.s.k),pk (az gg x.s.g),pk (dN go),pk (bo gd ge c x.V),b8 v x.ns],?_,rfl,λE=>⟨rfl,rfl,⟨_,rfl⟩⟩⟩;exact fG Tryz.func14 λw cs=>r0 [] [(2,.pointer none)] [] (r0 [(3,.l 0),(6,.l 1)] [(2,pt gg 0)] [2] (lf ab.zero [2,3,4,5,6,7] [(0,0),(1,1)] []))
theorem Xr(g gc gl gr gm gq gk gt gg gd ge go:Nat)(c:Cf)(x:Mc):aa Zl 13 #[pt g 0] [pk (a7 g gc gl gr gm gq gk gt gg gd ge go c x)] [0] (λ_=>[pk (a7 g gc gl gr gm gq gk gt gg gd ge go c x)]) (λ_=>pt gc 0):=aa.pkZ Tryz.func13 λL a=>by
 obtain⟨gi,b,vs,rfl⟩:=a;refine⟨[1,2,3,4],λ_=>[pk (aV gc gl gr gm gq gk gt gg gd ge go c x.x),cV x.id gi,gp b x.inj,c6 vs x.sv],?_,rfl,λE=>⟨rfl,rfl,⟨_,_,_,rfl⟩⟩⟩;exact fG Tryz.func13 λw cs=>r0 [] [(2,.pointer none)] [] (r0 [(3,.l 0)] [(2,pt gc 0)] [2] (lf ab.zero [1,2,3,4] [(0,0)] []))
theorem A0(g gc gl gr gm gq gk gt gg gd ge go:Nat)(c:Cf)(x:Mc):aa Zl 30 #[pt g 0] [pk (a7 g gc gl gr gm gq gk gt gg gd ge go c x)] [0] (λ_=>[pk (a7 g gc gl gr gm gq gk gt gg gd ge go c x)]) (λ_=>pt gd 0):=aa.pkZ Tryz.func30 λL a=>by
 obtain⟨gi,b,vs,rfl⟩:=a;refine⟨[1,2,3,4],λ_=>[pk (aV gc gl gr gm gq gk gt gg gd ge go c x.x),cV x.id gi,gp b x.inj,c6 vs x.sv],?_,rfl,λE=>⟨rfl,rfl,⟨_,_,_,rfl⟩⟩⟩;exact fG Tryz.func30 λw cs=>r0 [] [(2,.pointer none)] [] (r0 [(3,.l 0)] [(2,pt gd 0)] [2] (lf ab.zero [1,2,3,4] [(0,0)] []))
theorem Xs(g gc gl gr gm gq gk gt gg gd ge go:Nat)(c:Cf)(x:Mc):aa Zl 14 #[pt gc 0] [pk (a7 g gc gl gr gm gq gk gt gg gd ge go c x)] [0] (λ_=>[pk (a7 g gc gl gr gm gq gk gt gg gd ge go c x)]) (λ_=>pt gg 0):=tS (Xq gc gl gr gm gq gk gt gg gd ge go c x.x)
theorem Xu(g gc gl gr gm gq gk gt gg gd ge go:Nat)(c:Cf)(x:Mc):aa Zl 20 #[pt gg 0] [pk (a7 g gc gl gr gm gq gk gt gg gd ge go c x)] [0] (λ_=>[pk (a7 g gc gl gr gm gq gk gt gg gd ge go c x)]) (λ_=>iN x.x.s.g.l.length):=tS (Xp (FZ gg x.x.s.g))
theorem Xv(g gc gl gr gm gq gk gt gg gd ge go:Nat)(c:Cf)(x:Mc):aa Zl 42 #[pt gd 0] [pk (a7 g gc gl gr gm gq gk gt gg gd ge go c x)] [0] (λ_=>[pk (a7 g gc gl gr gm gq gk gt gg gd ge go c x)]) (λ_=>iN x.x.V.l.length):=tS (lN gc gl gr gm gq gk gt gg gd ge go c x.x)
theorem Xw(g gc gl gr gm gq gk gt gg gd ge go:Nat)(c:Cf)(x:Mc):aa Zl 36 #[pt gd 0] [pk (a7 g gc gl gr gm gq gk gt gg gd ge go c x)] [0] (λ_=>[pk (a7 g gc gl gr gm gq gk gt gg gd ge go c x)]) (λ_=>pt ge 0):=tS (HH (AK gd ge c x.x.V))
theorem Xx(g gc gl gr gm gq gk gt gg gd ge go:Nat)(c:Cf)(x:Mc):aa Zl 107 #[pt ge 0] [pk (a7 g gc gl gr gm gq gk gt gg gd ge go c x)] [0] (λ_=>[pk (a7 g gc gl gr gm gq gk gt gg gd ge go c x)]) (λ_=>iN c.E):=tS (HH (HA gd ge c x.x.V))
end
section
theorem Xy{α:Type}{a b d e f g c i j k l m n h o p q r:List α}:(ZQ [a,b,d,c]).Sublist (ZQ [a,b,([o,([i,j,k,l,m,n,([d,e,f,g,c]:List (List α)).flatten,h]:List (List α)).flatten,p,q,r]:List (List α)).flatten]):=by
 simp only[aag,List.flatten_nil,aak];refine List.Sublist.append (List.Sublist.refl _) (List.Sublist.append (List.Sublist.refl _) ?_);have s:(d++c).Sublist (d++(e++(f++(g++c)))):=List.Sublist.append (List.Sublist.refl _) ((Zr g c).trans ((Zr f _).trans (Zr e _)));have t:(d++(e++(f++(g++c)))).Sublist (d++(e++(f++(g++c)))++h):=ZW _ _;have u:(d++(e++(f++(g++c)))++h).Sublist (i++(j++(k++(l++(m++(n++(d++(e++(f++(g++c)))++h))))))):=
  (Zr n _).trans ((Zr m _).trans ((Zr l _).trans ((Zr k _).trans ((Zr j _).trans (Zr i _)))))
 exact(s.trans (t.trans u)).trans ((ZW _ _).trans (Zr o _))
theorem Xz(e f n g s w B y A u C t i p z:Nat)(c:Cf)(x:Mc)(F:x.x.V.l.length≤1000000)(m:n≤1000000)(bs:ay)(h:sa (a7 g s w B y A u C t i p z c x) bs):ft 5 Zl 60 #[pt e 0,pt f 0] (λ(x:Nat×Ac)=>#[i6 (x.1:Int),.agg #[.bool (x.2.wr),i6 (x.2.ix),i6 (x.2.wt),.bool (x.2.dr),i6 (x.2.ex),.bool (x.2.mr)]]) ((Zt (x.x.V.l.length-n)).map λk=>(n+k,x.x.V.l.getD (n+k) ff)) (ZQ [[(e,.cells #[iN n] 3 (0,0))],[(f,.cells #[pt i 0] 84 (0,0))],bs]):=by
 obtain⟨L,Q,⟨gi,vj,vs,rfl⟩,d,rfl⟩:=h;obtain⟨K,_,rfl,h0,d⟩:=eA d;obtain⟨M,_,rfl,D,d⟩:=eA d;obtain⟨N,_,rfl,h2,d⟩:=eA d;obtain⟨O,_,rfl,h3,d⟩:=eA d;obtain⟨P,_,rfl,h4,d⟩:=eA d;obtain rfl:=oJ d;obtain⟨I,Z,⟨v1,rfl⟩,a,rfl⟩:=D;obtain⟨R,_,rfl,i0,a⟩:=eA a;obtain⟨S,_,rfl,i1,a⟩:=eA a;obtain⟨T,_,rfl,i2,a⟩:=eA a;obtain⟨U,_,rfl,i3,a⟩:=eA a;obtain⟨V,_,rfl,i4,a⟩:=eA a;obtain⟨W,_,rfl,i5,a⟩:=eA a;obtain⟨X,_,rfl,o,a⟩:=eA a;obtain⟨Y,_,rfl,i7,a⟩:=eA a;obtain rfl:=oJ a;obtain⟨J,fs,⟨l,j,v,rfl⟩,b,rfl⟩:=o;obtain⟨q,_,rfl,G,b⟩:=eA b;obtain⟨f1,_,rfl,j1,b⟩:=eA b;obtain⟨f2,_,rfl,j2,b⟩:=eA b;obtain⟨f3,_,rfl,j3,b⟩:=eA b;obtain⟨r,_,rfl,H,b⟩:=eA b;obtain rfl:=oJ b;obtain rfl:q=_:=G;exact(UT e f i p l j n v x.x.V.l r (ar.sq H) F m).mono Xy
structure Lk where
 ex:Int
 ast:Bool
 dr:Bool
 tl:Bool
def XA:Lk:=⟨0,false,false,true⟩
def HI(mode:Nat)(l:Lk)(x:Ac):Lk:=⟨tM l.ex x,tN l.ast x,tO l.dr x,tQ l.tl mode x⟩
def dx(mode:Nat)(l:List Ac):Nat→Lk
 | 0=>XA
 | k+1=>HI mode (dx mode l k) (l.getD (0+k) ff)
theorem XB(mode:Nat)(l:List Ac)(k:Nat):dx mode l (k+1)=HI mode (dx mode l k) (l.getD (0+k) ff):=rfl
theorem XC(mode:Nat)(l:List Ac):dx mode l 0=⟨0,false,false,true⟩:=rfl
attribute [local irreducible] dx
theorem XD(g e j p m o i q h a f n:Nat)(c:Cf)(x:Mc)(N:x.x.V.l.length≤900000)(F: ∀k,0≤(x.x.V.l.getD k ff).ex∧(x.x.V.l.getD k ff).ex≤1000000):aa Zl 77 #[pt g 0,i6 0,iN x.x.V.l.length] [pk (a7 g e j p m o i q h a f n c x)] [0] (λ_=>[pk (a7 g e j p m o i q h a f n c x)]) (λ_=> .agg #[i6 ((dx c.E x.x.V.l (x.x.V.l.length-0)).ex),.bool ((dx c.E x.x.V.l (x.x.V.l.length-0)).ast),.bool ((dx c.E x.x.V.l (x.x.V.l.length-0)).dr),.bool ((dx c.E x.x.V.l (x.x.V.l.length-0)).tl)]):=by
 refine fG Tryz.func77 λw cs=>ra (λr=>[(5,pt (B0 r) 0),(6,pt (B1 r) 0)]) (λr=>[ob (B0 r) #[iN x.x.V.l.length] 3,ob (B1 r) #[i6 0,.bool false,.bool false,.bool false] 166]) λr=>rr (λ_=>[(2,.s 3)]) (λv=>[(7,pt (B1 v) 0)]) [] (λv L=>L++[ob (B1 v) #[i6 0,.bool false,.bool false,.bool true] 166]) λv=>rr (λ_=>[(1,.c [0] [0] (A0 g e j p m o i q h a f n c x)),(2,.c [0] [0] (Xw g e j p m o i q h a f n c x)),(3,.c [0] [0] (Xx g e j p m o i q h a f n c x)),(5,.s 4)]) (λB=>[(8,pt (B4 B) 0)]) [] (λB L=>L++[ob (B4 B) #[iN c.E] 3]) λB=>rr (λ_=>[(1,.c [0] [0] (A0 g e j p m o i q h a f n c x)),(3,.c [] [5,6] (UU a 0))]) (λb=>[(19,.func (.func 60) #[] #[pt ((B3 b)) 0,pt (((b 3).y 1)) 0])]) [] (λb L=>L++[ob (B3 b) #[i6 ((0:Nat):Int)] 3,ob ((b 3).y 1) #[pt a 0] 84]) λb=>?_;refine ck 0 (sa (a7 g e j p m o i q h a f n c x)) (λd y=>?_);refine oX (encs:=λ(x:Nat×Ac)=>#[i6 (x.1:Int),.agg #[.bool (x.2.wr),i6 (x.2.ix),i6 (x.2.wt),.bool (x.2.dr),i6 (x.2.ex),.bool (x.2.mr)]]) (xs:=(Zt (x.x.V.l.length-0)).map (λk=>(0+k,x.x.V.l.getD (0+k) ff))) (KO:=[[((B3 b),.cells #[i6 ((0:Nat):Int)] 3 (0,0))],[(((b 3).y 1),.cells #[pt a 0] 84 (0,0))],d]) (Xz (B3 b) ((b 3).y 1) 0 g e j p m o i q h a f n c x Om Om d y) (enters_of Tryz.func60 Kr rfl) (λk=>k≤x.x.V.l.length-0) (λk L=>L.set 3 (ob (B1 v) #[i6 ((dx c.E x.x.V.l k).ex),.bool ((dx c.E x.x.V.l k).ast),.bool ((dx c.E x.x.V.l k).dr),.bool ((dx c.E x.x.V.l k).tl)] 166)) [5,6,0] Om (by rw[XC];kernel_rfl) (λO k P I K C z=>?_) (λH z=>?_)
 ·obtain⟨A,rfl⟩:=nW C;have D:=A;have G:=F (0+k);refine r0 [] [(9,i6 ((0+k:Nat):Int))] [] (rr (λ_=>[(1,.s 7)]) (λu=>[(10,pt (B0 u) 0)]) [] (λu L=>L++[ob (B0 u) #[.bool ((x.x.V.l.getD (0+k) ff).wr),i6 ((x.x.V.l.getD (0+k) ff).ix),i6 ((x.x.V.l.getD (0+k) ff).wt),.bool ((x.x.V.l.getD (0+k) ff).dr),i6 ((x.x.V.l.getD (0+k) ff).ex),.bool ((x.x.V.l.getD (0+k) ff).mr)] 90]) λu=>?_);refine ag [5,6,0] (λJ M=>?_);exact rF [(1,.l 1),(2,.t (tk (show Value.bool (decide ((x.x.V.l.length:Int)≤((0+k:Nat):Int)))= .bool false from ALca Value.bool (by exact bl Om))))] 24 (rs [(0,.l 3),(1,.l 4),(2,.l 7),(3,.c [] [] (Xn ((dx c.E x.x.V.l k).ex) ((dx c.E x.x.V.l k).ast) ((dx c.E x.x.V.l k).dr) ((dx c.E x.x.V.l k).tl) c.E (x.x.V.l.getD (0+k) ff) Om Om)),(4,.s 3)] 3 (ob (B1 v) #[i6 (tM ((dx c.E x.x.V.l k).ex) (x.x.V.l.getD (0+k) ff)),.bool (tN ((dx c.E x.x.V.l k).ast) (x.x.V.l.getD (0+k) ff)),.bool (tO ((dx c.E x.x.V.l k).dr) (x.x.V.l.getD (0+k) ff)),.bool (tQ ((dx c.E x.x.V.l k).tl) c.E (x.x.V.l.getD (0+k) ff))] 166) (ne _ ⟨Om,rfl⟩ [0,1,2,3,4,5,6] (by rw[XB];kernel_rfl)))
 refine cl [.c d,ob (B0 r) #[iN x.x.V.l.length] 3,ob (B1 r) #[i6 0,.bool false,.bool false,.bool false] 166,ob (B1 v) #[i6 ((dx c.E x.x.V.l (x.x.V.l.length-0)).ex),.bool ((dx c.E x.x.V.l (x.x.V.l.length-0)).ast),.bool ((dx c.E x.x.V.l (x.x.V.l.length-0)).dr),.bool ((dx c.E x.x.V.l (x.x.V.l.length-0)).tl)] 166,ob (B4 B) #[iN c.E] 3,ob (B3 b) #[i6 ((0:Nat):Int)] 3,ob ((b 3).y 1) #[pt a 0] 84] (by rw[ZE,Zu];kernel_rfl) ?_;simp only[ZE,Zu] at z;exact cw 0 (.c d) ((pk (a7 g e j p m o i q h a f n c x))) (cP y) (rs [(0,.l 3),(1,.s 2)] 2 (ob (B1 r) #[i6 ((dx c.E x.x.V.l (x.x.V.l.length-0)).ex),.bool ((dx c.E x.x.V.l (x.x.V.l.length-0)).ast),.bool ((dx c.E x.x.V.l (x.x.V.l.length-0)).dr),.bool ((dx c.E x.x.V.l (x.x.V.l.length-0)).tl)] 166) (lf ab.zero [0] [] [2]))
end
theorem XE{α:Type}{l:List α}{p:α→Bool}{d:α}(h: ∀j,j<l.length→p (l.getD j d)=true):l.all p=true:=by
 rw[List.all_eq_true];intro a c;obtain⟨j,b,rfl⟩:=List.getElem_of_mem c;have:=h j b;rwa [Zp,Zy b,aaf] at this
theorem XF{α:Type}{l:List α}{j:Nat}{p:α→Bool}{d:α}(a:j<l.length)(h:p (l.getD j d)=false):l.all p=false:=by
 rw[List.all_eq_false];rw[Zp,Zy a,aaf] at h;exact⟨_,List.getElem_mem a,by rw[h];simp⟩
theorem A1{p:Nat→Prop}{k:Nat}(h: ∀j,j<k→p j)(c:p k): ∀j,j<k+1→p j:=λj b=>by
 rcases Nat.lt_succ_iff_lt_or_eq.1 b with a | rfl
 ·exact h j a
 ·exact c
def rh(mode:Nat)(l:List Ac):Bool:=(!(dx mode l (l.length-0)).ast)&&decide ((dx mode l (l.length-0)).ex≤1)
structure A2 (l:List Ac):Prop where
 ex: ∀k,0≤(l.getD k ff).ex∧(l.getD k ff).ex≤1000000
theorem XG(g a h m i k f n e b d j:Nat)(c:Cf)(x:Mc)(p:x.x.V.l.length≤900000)(q:A2 x.x.V.l):aa Zl 41 #[pt g 0] [pk (a7 g a h m i k f n e b d j c x)] [0] (λ_=>[pk (a7 g a h m i k f n e b d j c x)]) (λ_=> .bool (rh c.E x.x.V.l)):=by
 exact fG Tryz.func41 λw cs=>r0 [] [(2,.bool false)] [] (rr (λ_=>[(2,.c [0] [0] (A0 g a h m i k f n e b d j c x)),(3,.c [0] [0] (Xv g a h m i k f n e b d j c x)),(4,.c [0] [0] (XD g a h m i k f n e b d j c x p q.ex)),(6,.s 1)]) (λo=>[(3,pt (B5 o) 0)]) [] (λo L=>L++[ob (B5 o) #[i6 ((dx c.E x.x.V.l (x.x.V.l.length-0)).ex),.bool ((dx c.E x.x.V.l (x.x.V.l.length-0)).ast),.bool ((dx c.E x.x.V.l (x.x.V.l.length-0)).dr),.bool ((dx c.E x.x.V.l (x.x.V.l.length-0)).tl)] 166]) λo=>r0 [(1,.l 1),(5,.l 1)] [(2,.bool ((!((dx c.E x.x.V.l (x.x.V.l.length-0)).ast))&&(decide (((dx c.E x.x.V.l (x.x.V.l.length-0)).ex)≤1))))] [2] (ao (.bool ((!((dx c.E x.x.V.l (x.x.V.l.length-0)).ast))&&(decide (((dx c.E x.x.V.l (x.x.V.l.length-0)).ex)≤1)))) ab.zero bc [0] [] []))
theorem XH(v:Value)(l:List Sv):aa Zl 98 #[v] [.p (aK qX v l)] [] (λE=>[ob (E.y 0) #[v] 112]) (λE=> .func (.func 133) #[] #[pt ((E.y 0)) 0]):=by
 exact fO Tryz.func98 0 rfl λb d=>fG Tryz.func98 λw cs=>rr (λ_=>[(0,CZ 1 0 (.c b) v (λ_ _=>aK.cells d))]) (λa=>[(1,pt (B0 a) 0),(2,.nilFunc)]) [] (λa L=>L++[ob (B0 a) #[v] 112]) λa=>r0 [] [(2,.func (.func 133) #[] #[pt (B0 a) 0])] [2] (lf (.l [(a 0).y 0] [] []) [1] [(0,0)] [])
theorem XI(g f e i sc st:Nat)(j vs:Value)(l:List Sv):aa Zl 61 #[pt g 0] [ob g #[pt f 0,pt e 0,.map (some i),j,vs,iN sc,iN st] 114,.p (aK qX vs l)] [] (λE=>[ob (E.y 0) #[vs] 112]) (λE=> .func (.func 133) #[] #[pt ((E.y 0)) 0]):=by
 exact fO Tryz.func61 1 rfl λb d=>fG Tryz.func61 λw cs=>r0 [] [(2,.nilFunc)] [] (rr (λ_=>[(3,.l 0),(4,.c [1] [2] (aa.at (rd':=[.c b]) (XH vs l) (eD d (λ_ h=>h))))]) (λa=>[(2,.func (.func 133) #[] #[pt ((B4 a)) 0])]) [2] (λa L=>L++[ob (B4 a) #[vs] 112]) λa=>lf (.l [(B4 a)] [] []) [2] [(0,0),(1,1)] [])
abbrev gA(s:Sv):Bool:=(s.e==0)&&((s.k != 1)||decide (s.l=s.w))
structure w4 (q:List Sv):Prop where
 l: ∀k,(q.getD k aX).l.length=64
 w: ∀k,(q.getD k aX).w.length=64
theorem XJ{s:Sv}(h:((s.e != 0)||(!((s.k != 1)||decide (s.l=s.w))))=false):gA s=true:=by
 unfold gA;cases a:s.e==0<;>cases b:((s.k != 1)||decide (s.l=s.w))<;>simp_all
theorem XK{s:Sv}(h:((s.e != 0)||(!((s.k != 1)||decide (s.l=s.w))))=true):gA s=false:=by
 unfold gA;cases a:s.e==0<;>cases b:((s.k != 1)||decide (s.l=s.w))<;>simp_all
theorem A3(g i v B y A u C t o r z:Nat)(c:Cf)(x:Mc)(Y:x.sv.length≤900000)(hs:w4 x.sv):aa Zl 33 #[pt g 0] [pk (a7 g i v B y A u C t o r z c x)] [0] (λ_=>[pk (a7 g i v B y A u C t o r z c x)]) (λ_=> .bool (x.sv.all gA)):=aa.pkZ Tryz.func33 λL N=>by
 obtain⟨gi,J,vs,rfl⟩:=N;refine⟨[1,2,3,4],λ_=>[pk (aV i v B y A u C t o r z c x.x),cV x.id gi,gp J x.inj,c6 vs x.sv],?_,rfl,λE=>⟨rfl,rfl,⟨_,_,_,rfl⟩⟩⟩;refine fG Tryz.func33 λw cs=>ra (λp=>[(2,pt (B0 p) 0)]) (λp=>[ob (B0 p) #[.bool false] 4]) λp=>rr (λ_=>[(1,.c [0,4] [6] (aa.at (rd':=[ob g #[pt o 0,pt i 0,.map (some gi),J,vs,iN x.sc,iN x.st] 114,c6 vs x.sv]) (XI g o i gi x.sc x.st J vs x.sv) (atS (bO (λ_ h=>ar.sq h) (λ_ h=>h)))))]) (λf=>[(5,.func (.func 133) #[] #[pt ((B1 f)) 0])]) [] (λf L=>L++[ob (B1 f) #[vs] 112]) λf=>?_;refine ck 4 (ar qX ([i6 0,i6 0]++Zm 64 (u1 0)++[u6 0,i6 0,i6 0,i6 0,i6 0,i6 0,i6 0,i6 0,i6 0,i6 0,i6 0]++Zm 64 (u1 0)++Zm 64 (u1 0)++[i6 0,i6 0]) 149 vs x.sv) (λa b=>?_);refine yl (encs:=λ(x:Sv)=>#[.agg ([i6 (x.k),i6 (x.ln)]++rB 64 (x.d)++[u6 ((x.m:Nat):Int),i6 (x.f0),i6 (x.f1),i6 (x.f2),i6 (x.f3),i6 (x.f4),i6 (x.f5),i6 (x.f6),i6 (x.f7),i6 (x.e),i6 (x.n)]++rB 64 (x.l)++rB 64 (x.w)++[iN x.fi,iN x.la]).toArray]) (xs:=x.sv) (KO:=[[((B1 f),.cells #[vs] 112 (0,0))],a]) (WK (B1 f) vs x.sv a (ar.sq b) Om) (enters_of Tryz.func133 Kr rfl) (λk=>k≤x.sv.length∧(∀j,j<k→gA (x.sv.getD j aX)=true)) (λ_ L=>L) (λc k=>(c=Code.ret∧(∃j,j+1=k∧gA (x.sv.getD j aX)=false))) (λ_ _ L=>L) [6,4] ⟨by omega,(λ_ h=>absurd h (ZX _))⟩ Kr (λZ k xE S U I ⟨F,G⟩=>?_) (λM ⟨F,G⟩=>?_) λM c k W O=>?_
 ·obtain⟨K,rfl⟩:=rS aX I;have Q:=hs.l k;have R:=hs.w k;refine rr (λ_=>[(1,.s 7)]) (λq=>[(3,pt (B0 q) 0)]) [] (λq L=>L++[ob (B0 q) (([i6 ((x.sv.getD k aX).k),i6 ((x.sv.getD k aX).ln)]:List Value)++rB 64 ((x.sv.getD k aX).d)++([u6 (((x.sv.getD k aX).m:Nat):Int),i6 ((x.sv.getD k aX).f0),i6 ((x.sv.getD k aX).f1),i6 ((x.sv.getD k aX).f2),i6 ((x.sv.getD k aX).f3),i6 ((x.sv.getD k aX).f4),i6 ((x.sv.getD k aX).f5),i6 ((x.sv.getD k aX).f6),i6 ((x.sv.getD k aX).f7),i6 ((x.sv.getD k aX).e),i6 ((x.sv.getD k aX).n)]:List Value)++rB 64 ((x.sv.getD k aX).l)++rB 64 ((x.sv.getD k aX).w)++([i6 (((x.sv.getD k aX).fi:Nat):Int),i6 (((x.sv.getD k aX).la:Nat):Int)]:List Value)).toArray 149]) λq=>?_;refine ag [6,4] (λT V=>?_);refine r0 [(2,.l 7),(5,.l 7),(6,.c [] [] (Xo (x.sv.getD k aX) Om Om))] [(15,.bool ((((x.sv.getD k aX).e) != 0)||(!(((x.sv.getD k aX).k != 1)||(decide ((x.sv.getD k aX).l=(x.sv.getD k aX).w))))))] [] ?_;refine cB ((((x.sv.getD k aX).e) != 0)||(!(((x.sv.getD k aX).k != 1)||(decide ((x.sv.getD k aX).l=(x.sv.getD k aX).w))))) (λD=>?_) λD=>?_
  ·refine r0 [(0,.s 5)] [] [] ?_;exact nr _ ⟨⟨rfl,⟨_,rfl,XK As⟩⟩,rfl⟩ [0,1,2,3,4,5,6] Kr
  exact ne _ ⟨⟨by omega,A1 G (XJ As)⟩,rfl⟩ [0,1,2,3,4,5,6] Kr
 ·exact cw 4 (.c a) (c6 vs x.sv) (cP b) (rs [(0,.s 5)] 5 (ob (B0 p) #[.bool true] 4) (ao (.bool true) ab.zero (by rw[XE G]) [1,2,3,4] [(0,0)] [5]))
 obtain⟨rfl,H⟩:=O;exact cw 4 (.c a) (c6 vs x.sv) (cP b) (ao (.bool false) ab.zero (by(obtain⟨j,X,P⟩:=H;rw[XF (j:=j) Om P])) [1,2,3,4] [(0,0)] [5])
theorem HJ{c:Cf}{b:Bool}(h:gz c=b):decide ((((((c.R+c.S)*c.B)*c.M)*c.C:Nat):Int)≤100)=b:=by
 rw[←h];unfold gz;exact decide_eq_decide.2 Om
theorem w5(c:Cf)(b:b6 c)(hs:gz c=false):aa Zl 12 #[.agg (cA c)] [] [] N0 (λ_=> .pointer none):=by
 exact fG Tryz.func12 λw cs=>ra (λa=>[(1,pt (B0 a) 0),(2,.pointer none)]) (λa=>[ob (B0 a) (cA c) 31]) λa=>rT [(0,.l 0),(1,.c [] [] (aa.v ((HF c b)) λ_=>ALca Value.bool (show(decide ((((((c.R+c.S)*c.B)*c.M)*c.C:Nat):Int)≤100))=false from(by exact HJ hs))))] 7 (r0 [] [(2,.pointer none)] [2] (lf ab.zero [] [] []))
theorem ri(c:Cf)(b:b6 c)(hs:gz c=true):aa Zl 12 #[.agg (cA c)] [] [] (λE=>[pk (a7 (E.y 0) ((E.y 1)) ((E.y 2)) ((E.y 3)) ((E.y 4)) ((E.y 5)) ((E.y 6)) ((E.y 7)) ((E.y 8)) ((E.y 9)) ((E.y 10)) ((E.y 11)) c (Y6 c))]) (λE=>pt ((E.y 0)) 0):=by
 exact fG Tryz.func12 λw cs=>ra (λd=>[(1,pt (B0 d) 0),(2,.pointer none)]) (λd=>[ob (B0 d) (cA c) 31]) λd=>rF [(0,.l 0),(1,.c [] [] (aa.v ((HF c b)) λ_=>ALca Value.bool (show(decide ((((((c.R+c.S)*c.B)*c.M)*c.C:Nat):Int)≤100))=true from(by exact HJ hs))))] 7 (rr (λ_=>[(0,.l 0),(1,.c [] [1] (Xf c b))]) (λa=>[(3,pt ((B1 a)) 0),(4,i6 0)]) [] (λa L=>L++[pk (a7 (B1 a) ((a 1).y 1) ((a 1).y 3) ((a 1).y 4) ((a 1).y 5) ((a 1).y 6) ((a 1).y 7) ((a 1).y 8) ((a 1).y 9) ((a 1).y 10) ((a 1).y 11) ((a 1).y 12) c (Y6 c))]) λa=>rF [] 14 (r0 [] [(2,pt ((B1 a)) 0)] [2] (lf (.l [(B1 a),(a 1).y 1,(a 1).y 3,(a 1).y 4,(a 1).y 5,(a 1).y 6,(a 1).y 7,(a 1).y 8,(a 1).y 9,(a 1).y 10,(a 1).y 11,(a 1).y 12] [] []) [1] [] [])))
theorem XL:aa Zl 45 #[] [] [] N0 (λ_=> .agg #[i6 1,i6 0,i6 1,i6 2,i6 2,i6 0,i6 0,i6 1,i6 9,i6 9,i6 9,i6 9,i6 2,i6 2,i6 4,.bool true]):=by
 exact fG Tryz.func45 λw cs=>ra (λa=>[(0,pt (B0 a) 0)]) (λa=>[ob (B0 a) #[i6 0,i6 0,i6 0,i6 0,i6 0,i6 0,i6 0,i6 0,i6 0,i6 0,i6 0,i6 0,i6 0,i6 0,i6 0,.bool false] 31]) λa=>rr (λ_=>[(2,.s 1)]) (λb=>[(1,pt (B1 b) 0)]) [] (λb L=>L++[ob (B1 b) #[i6 9,i6 9] 27]) λb=>rs [(2,.l 1),(3,.l 1),(6,.s 0)] 0 (ob (B0 a) #[i6 1,i6 0,i6 1,i6 2,i6 2,i6 0,i6 0,i6 1,i6 9,i6 9,i6 9,i6 9,i6 2,i6 2,i6 4,.bool true] 31) (lf ab.zero [] [] [0])
structure GM (c:Cf) (x:Mc) (n:Nat):Prop where
 ok:dF c x (1+260*n) (4096+3*n) n
 t:x.x.s.time≤n
theorem GM.start{c:Cf}(h:b6 c):GM c (Y6 c) 0:=⟨HD h,ZZ _⟩
theorem GM.step{c:Cf}{x:Mc}{n:Nat}(h:GM c x n)(a:n≤900){s:St}(hs:StOk s):GM c (dn c x s) (n+1):=
 ⟨(WB h.ok hs Om (Z0 h.t Om)).mono Om Om Om,Zn (WD c x s) (Zs h.t)⟩
theorem GM.mono{c:Cf}{x:Mc}{n m:Nat}(h:GM c x n)(a:n≤m):GM c x m:=⟨h.ok.mono Om Om a,Zn h.t a⟩
theorem GM.vl{c:Cf}{x:Mc}{n:Nat}(h:GM c x n)(a:n≤900):x.x.V.l.length≤7000:=Zn h.ok.ct.vl Om
theorem tT(g a i m j l f o e b d k:Nat)(c:Cf)(x:Mc)(n:Nat)(h:GM c x n)(p:n≤900)(s:St)(hs:StOk s):aa Zl 16 #[pt g 0,.agg (eSt s).toArray] [pk (a7 g a i m j l f o e b d k c x)] [0] (λ_=>[pk (a7 g a i m j l f o e b d k c (dn c x s))]) (λ_=> .agg (wX (dT c x s)).toArray):=
 Wy g a i m j l f o e b d k c x _ _ _ h.ok Om Om Om (Z0 h.t Om) s hs
def dG:Cf:=⟨1,0,1,2,2,0,0,1,9,9,9,9,2,2,4,true⟩
def HK:St:=⟨2,1,fc 6 64,0,0,0,0,0,0,0,0,0⟩
def HL:St:=⟨8,0,Zm 64 0,0,1,0,0,0,1,0,40,0⟩
def tV:St:=⟨1,1,Zm 64 0,0,0,0,0,0,0,0,0,0⟩
def w6:Mc:=dn dG (dn dG (Y6 dG) HK) HL
def A4:Mc:=dn dG w6 tV
abbrev A5:St:=⟨2,1,(fc (6:UInt8) 64),0,0,0,0,0,0,0,0,0⟩
abbrev A6:St:=⟨8,0,z6,0,1,0,0,0,1,0,40,0⟩
abbrev w7:St:=⟨1,1,z6,0,0,0,0,0,0,0,0,0⟩
abbrev w8:Mc:=dn dG (Y6 dG) A5
abbrev tX:Mc:=dn dG w8 A6
abbrev kU:Mc:=dn dG tX w7
abbrev gN:An:=dT dG tX w7
theorem XM:(dT dG w6 tV).e=0:=by decide+kernel
theorem XN:(dT dG w6 tV).n=0:=by decide+kernel
theorem HN:(dT dG w6 tV).l=fc 6 64:=by decide+kernel
theorem XP:A4.x.s.g.l.length=1:=by decide+kernel
theorem XQ:rh 1 A4.x.V.l=true:=by decide+kernel
theorem XR:A4.x.V.l.all (λa=>decide (0≤a.ex)&&decide (a.ex≤1000000))=true:=by decide+kernel
theorem XS{l:List Ac}(h:l.all (λa=>decide (0≤a.ex)&&decide (a.ex≤1000000))=true):A2 l:=⟨λk=>by
 rw[Zp];cases c:l[k]? with
 | none=>exact⟨Int.le_refl _,by decide⟩
 | some a=>
  have b:=List.all_eq_true.1 h a (aac c);simpa using b⟩
theorem A7(x:UInt8):(fc x 64).length=64:=by unfold fc;rw[Zx,Zo,Zo]
theorem HO:b6 dG:=⟨⟨⟨by decide⟩,by decide,by decide,by decide⟩,.inl rfl,⟨by decide,by decide,by decide,by decide⟩,⟨by decide,by decide,by decide,by decide⟩,by decide,by decide,by decide,by decide,by decide,by decide⟩
theorem HP:StOk HK:=⟨A7 6,by decide⟩
theorem HQ:StOk HL:=⟨Zo,by decide⟩
theorem HR:StOk tV:=⟨Zo,by decide⟩
section
theorem XT:aa Zl 12 #[.agg #[i6 1,i6 0,i6 1,i6 2,i6 2,i6 0,i6 0,i6 1,i6 9,i6 9,i6 9,i6 9,i6 2,i6 2,i6 4,.bool true]] [] [] (λE=>[pk (a7 (E.y 0) (E.y 1) (E.y 2) (E.y 3) (E.y 4) (E.y 5) (E.y 6) (E.y 7) (E.y 8) (E.y 9) (E.y 10) (E.y 11) dG (Y6 dG))]) (λE=>pt (E.y 0) 0):=ri dG HO Dc
attribute [local irreducible] dn dT Y6 rh
theorem XU:(((gN.e)==0&&((gN.n)==0&&true))&&decide (gN.l=fc (6:UInt8) 64))=true:=by
 have a:gN.e=0:=XM;have b:gN.n=0:=XN;have c:gN.l=fc (6:UInt8) 64:=HN;rw[a,b,c];simp
theorem XV:gN.l.length=64:=by
 have a:gN.l=fc (6:UInt8) 64:=HN;rw[a];exact A7 6
theorem XW:(((kU.x.s.g.l.length:Nat):Int)==1)=true:=by
 have a:kU.x.s.g.l.length=1:=XP;rw[a];rfl
theorem XX:rh dG.E kU.x.V.l=true:=XQ
theorem HS:GM dG (Y6 dG) 0:=GM.start HO
theorem HT:GM dG w8 1:=HS.step Dc HP
theorem HU:GM dG tX 2:=HT.step Dc HQ
theorem XY:GM dG kU 3:=HU.step Dc HR
theorem XZ:kU.x.V.l.length≤900000:=Zn (XY.vl Dc) Dc
theorem X0:A2 kU.x.V.l:=XS XR
theorem X1:StOk A5:=HP
theorem X2:StOk A6:=HQ
theorem X3:StOk w7:=HR
theorem oE:aa Zl 11 #[] [] [] N0 (λ_=> .bool true):=by
 have h:z6.length=64:=Zo;have g:=A7 6;have f:=XV;exact fG Tryz.func11 λw cs=>r0 [] [(0,.bool false)] [] (rr (λ_=>[(0,.c [] [] (XL)),(2,.s 0)]) (λb=>[(1,pt (B1 b) 0)]) [] (λb L=>L++[ob (B1 b) #[i6 1,i6 0,i6 1,i6 2,i6 2,i6 0,i6 0,i6 1,i6 9,i6 9,i6 9,i6 9,i6 2,i6 2,i6 4,.bool true] 31]) λb=>rr (λ_=>[(0,.l 0),(1,.c [] [1] (XT))]) (λa=>[(2,pt ((B1 a)) 0)]) [] (λa L=>L++[pk (a7 (B1 a) ((a 1).y 1) ((a 1).y 2) ((a 1).y 3) ((a 1).y 4) ((a 1).y 5) ((a 1).y 6) ((a 1).y 7) ((a 1).y 8) ((a 1).y 9) ((a 1).y 10) ((a 1).y 11) dG (Y6 dG))]) λa=>rF [] 9 (rr (λ_=>[(0,.c [] [] (TE (6:UInt8))),(2,.s 2)]) (λd=>[(3,pt (B1 d) 0)]) [] (λd L=>L++[ob (B1 d) (rB 64 (fc (6:UInt8) 64)).toArray 43]) λd=>rs [(1,.l 2),(3,.c [1] [1] (tT (B1 a) ((a 1).y 1) ((a 1).y 2) ((a 1).y 3) ((a 1).y 4) ((a 1).y 5) ((a 1).y 6) ((a 1).y 7) ((a 1).y 8) ((a 1).y 9) ((a 1).y 10) ((a 1).y 11) dG (Y6 dG) _ (by with_reducible exact HS) Dc A5 (by with_reducible exact X1)))] 1 ((pk (a7 (B1 a) ((a 1).y 1) ((a 1).y 2) ((a 1).y 3) ((a 1).y 4) ((a 1).y 5) ((a 1).y 6) ((a 1).y 7) ((a 1).y 8) ((a 1).y 9) ((a 1).y 10) ((a 1).y 11) dG w8))) (rs [(4,.c [1] [1] (tT (B1 a) ((a 1).y 1) ((a 1).y 2) ((a 1).y 3) ((a 1).y 4) ((a 1).y 5) ((a 1).y 6) ((a 1).y 7) ((a 1).y 8) ((a 1).y 9) ((a 1).y 10) ((a 1).y 11) dG w8 _ (by with_reducible exact HT) Dc A6 (by with_reducible exact X2)))] 1 ((pk (a7 (B1 a) ((a 1).y 1) ((a 1).y 2) ((a 1).y 3) ((a 1).y 4) ((a 1).y 5) ((a 1).y 6) ((a 1).y 7) ((a 1).y 8) ((a 1).y 9) ((a 1).y 10) ((a 1).y 11) dG tX))) (rr (λ_=>[(2,.c [1] [1] (tT (B1 a) ((a 1).y 1) ((a 1).y 2) ((a 1).y 3) ((a 1).y 4) ((a 1).y 5) ((a 1).y 6) ((a 1).y 7) ((a 1).y 8) ((a 1).y 9) ((a 1).y 10) ((a 1).y 11) dG tX _ (by with_reducible exact HU) Dc w7 (by with_reducible exact X3))),(4,.s 3)]) (λe=>[(4,pt (B3 e) 0)]) [] (λe L=>L.set 1 ((pk (a7 (B1 a) ((a 1).y 1) ((a 1).y 2) ((a 1).y 3) ((a 1).y 4) ((a 1).y 5) ((a 1).y 6) ((a 1).y 7) ((a 1).y 8) ((a 1).y 9) ((a 1).y 10) ((a 1).y 11) dG kU)))++[ob (B3 e) (([i6 (gN.e),i6 (gN.n)]:List Value)++rB 64 (gN.l)).toArray 53]) λe=>r0 [(0,.m (ls 3 (([i6 (gN.e),i6 (gN.n)]:List Value)++rB 64 (gN.l)))),(1,.m (ls 2 (rB 64 (fc (6:UInt8) 64)))),(2,.v (.agg (([i6 0,i6 0]:List Value)++rB 64 (fc (6:UInt8) 64)).toArray)),(3,.t (TH.cast (ig 53 λ_ _ _=>uH (xs:=([i6 (gN.e),i6 (gN.n)]:List Value)++rB 64 (gN.l)) (ys:=([i6 0,i6 0]:List Value)++rB 64 (fc (6:UInt8) 64)) Kr (fh Kr Kr bc (iP (show(gN.l).length=64 by(simp only[LL,g,f];done)) (show(fc (6:UInt8) 64).length=64 by rfl)))) (show Value.bool ((((gN.e)==0&&((gN.n)==0&&true))&&decide (gN.l=fc (6:UInt8) 64)))= .bool true from ALca Value.bool (by exact XU)))),(4,.v (.bool true)),(5,.v (pt ((B1 a)) 0)),(6,.c [1] [1] (Xr (B1 a) ((a 1).y 1) ((a 1).y 2) ((a 1).y 3) ((a 1).y 4) ((a 1).y 5) ((a 1).y 6) ((a 1).y 7) ((a 1).y 8) ((a 1).y 9) ((a 1).y 10) ((a 1).y 11) dG kU)),(7,.c [1] [1] (Xs (B1 a) ((a 1).y 1) ((a 1).y 2) ((a 1).y 3) ((a 1).y 4) ((a 1).y 5) ((a 1).y 6) ((a 1).y 7) ((a 1).y 8) ((a 1).y 9) ((a 1).y 10) ((a 1).y 11) dG kU)),(8,.c [1] [1] (Xu (B1 a) ((a 1).y 1) ((a 1).y 2) ((a 1).y 3) ((a 1).y 4) ((a 1).y 5) ((a 1).y 6) ((a 1).y 7) ((a 1).y 8) ((a 1).y 9) ((a 1).y 10) ((a 1).y 11) dG kU)),(9,.t (tk (show Value.bool (((kU.x.s.g.l.length:Nat):Int)==1)= .bool true from ALca Value.bool (by exact XW)))),(11,.v (.bool true)),(12,.v (pt ((B1 a)) 0)),(13,.c [1] [1] (aa.v ((XG (B1 a) ((a 1).y 1) ((a 1).y 2) ((a 1).y 3) ((a 1).y 4) ((a 1).y 5) ((a 1).y 6) ((a 1).y 7) ((a 1).y 8) ((a 1).y 9) ((a 1).y 10) ((a 1).y 11) dG kU XZ X0)) λ_=>ALca Value.bool (show(rh dG.E kU.x.V.l)=true from(by exact XX)))),(15,.v (.bool true))] [(0,.bool true)] [0] (lf ab.zero [] [] [])))))
end
section
structure Zk (l:List St):Prop where
 a: ∀k,StOk (l.getD k ae)
attribute [local irreducible] dn dT
end
def bh(c:Cf)(x:Mc)(l:List St):Nat→Mc
 | 0=>x
 | k+1=>bif (l.getD k ae).k != 8 then dn c (bh c x l k) (l.getD k ae) else bh c x l k
theorem HV(c:Cf)(x:Mc)(l:List St):bh c x l 0=x:=rfl
theorem pN(c:Cf)(x:Mc)(l:List St)(k:Nat):bh c x l (k+1)=bif (l.getD k ae).k != 8 then dn c (bh c x l k) (l.getD k ae) else bh c x l k:=rfl
theorem mq{c:Cf}{x:Mc}{n:Nat}(h:GM c x n){l:List St}(hs:Zk l): ∀k,n+k≤900→GM c (bh c x l k) (n+k)
 | 0,_=>h
 | k+1,b=>by
  have a:=mq h hs k Om;rw[pN];cases (l.getD k ae).k != 8
  ·exact a.mono Om
  ·exact a.step Om (hs.a k)
section
theorem HW{c:Cf}{x:Mc}{K A N:Nat}(h:dF c x K A N)(s:St):(dT c x s).l.length=64:=by
 have a:(gM).length=64:=Zo;unfold dT wZ
 split
 ·split
  ·exact a
  ·split
   ·split<;>exact a
   ·split
    ·exact a
    ·split
     ·exact a
     ·split
      ·exact a
      ·split
       ·split
        ·exact nI _ (lH h.ct.D _) _
        ·split
         ·exact a
         ·split<;>exact a
       ·exact a
 ·exact a
theorem A8{n:Nat}{p:Nat→Bool}(h: ∀j,j<n→p j=true):(Zt n).all p=true:=List.all_eq_true.2 λa b=>h a (List.mem_range.1 b)
theorem X4{n j:Nat}{p:Nat→Bool}(a:j<n)(h:p j=false):(Zt n).all p=false:=List.all_eq_false.2 ⟨j,List.mem_range.2 a,by rw[h];simp⟩
attribute [local irreducible] bh dn dT rh
end
def nM(l:List Sv):Prop:=∀y∈l,y.l.length=64∧y.w.length=64
theorem A9{l:List Sv}{a:Sv}(h:nM l)(h1:a.l.length=64)(h2:a.w.length=64):nM (l++[a]):=λb c=>(List.mem_append.1 c).elim (h b) λe=>by rw[List.mem_singleton.1 e];exact⟨h1,h2⟩
theorem X5{c:Cf}{x:Mc}{K A N:Nat}(h:dF c x K A N)(hs:nM x.sv)(s:St):nM (jc c x s).sv:=by
 unfold jc
 split
 ·split
  ·exact A9 hs (nI _ (lH h.ct.D _) _) (h.il _)
  ·split
   ·exact A9 hs Zo (h.il _)
   ·split
    ·exact hs
    ·exact A9 hs Zo (h.il _)
 ·exact hs
theorem X6{c:Cf}{x:Mc}{K A N:Nat}(h:dF c x K A N)(hs:nM x.sv)(s:St):nM (dn c x s).sv:=by
 unfold dn
 split
 ·split
  ·exact hs
  ·split
   ·split<;>exact hs
   ·split
    ·exact hs
    ·split
     ·exact hs
     ·split
      ·exact hs
      ·have g:dF c {x with st:=x.st+1} K A (N+1):=⟨h.ct,h.il,Zv h.jl,Zv h.sl,Zv h.sc,Zs h.st⟩;exact X5 (x:={x with st:=x.st+1}) g hs s
 ·exact hs
theorem HX{l:List Sv}(h:nM l):w4 l:=by
 have b: ∀k,(l.getD k aX).l.length=64∧(l.getD k aX).w.length=64:=λk=>by
  rw[Zp];cases c:l[k]? with
  | none=>exact⟨Zo,Zo⟩
  | some a=>exact h a (aac c)
 exact⟨λk=>(b k).1,λk=>(b k).2⟩
section
structure eK (r:Rp):Prop where
 inj: ∀i k,i<r.m.R*r.m.B*r.m.M-r.m.res→k<r.m.R*r.m.B*r.m.M-r.m.res→r.m.N.getD i 0=r.m.N.getD k 0→i=k
 ld: ∀i,i<r.m.R*r.m.B*r.m.M-r.m.res→r.m.Q.getD (r.m.N.getD i 0) false=false
 lt: ∀i,i<r.m.R*r.m.B*r.m.M-r.m.res→r.m.N.getD i 0<r.m.R*r.m.B*r.m.M-r.m.res+r.m.P
 nt: ∀i,i<r.m.R*r.m.B*r.m.M-r.m.res→r.j.A=1→r.m.N.getD i 0≠r.j.tg
 al: ∀p,p<r.m.R*r.m.B*r.m.M-r.m.res+r.m.P→r.m.Q.getD p false=false→(r.j.A=1∧p=r.j.tg)∨∃i,i<r.m.R*r.m.B*r.m.M-r.m.res∧r.m.N.getD i 0=p
 si: ∀a b,a<r.m.R→b<r.m.R→dD r.m a=true→r.m.K.getD a 0=r.m.K.getD b 0→a=b
 sl: ∀a,a<r.m.R→r.m.K.getD a 0<((r.m.R+r.m.F:Nat):Int)
 st: ∀a,a<r.m.R→r.j.A=2→r.m.K.getD a 0≠(r.j.tg:Int)
theorem pO{m:Mp}{a:Nat}(h:dD m a=true):m.K.getD a 0≠ -1:=by unfold dD at h;simpa using h
theorem xa{R S B M C c p1 p2 p3 d f g h:Nat}(i:hP R S B M C)(hp:gR R S B M C c p1 p2 p3)(j:gR R S B M C d f g h)(e:bI c p1 p2 p3=bI d f g h):c=d∧p1=f∧p2=g∧p3=h:=by
 have a:=zM i hp;have b:=zM i j;rw[e] at a;exact⟨a.1.symm.trans b.1,a.2.1.symm.trans b.2.1,a.2.2.1.symm.trans b.2.2.1,a.2.2.2.symm.trans b.2.2.2⟩
theorem X7{m:Mp}(h:bf m){p q:Nat}(hp:p<m.R*m.B*m.M)(d:q<m.R*m.B*m.M)(a:aG m.G m.R m.B m.M p=aG m.G m.R m.B m.M q)(b:dX m.G m.R m.B m.M p=dX m.G m.R m.B m.M q)(c:dV m.G m.R m.B m.M p=dV m.G m.R m.B m.M q):p=q:=by
 rw[←zN (way:=m.G) h.O hp,←zN (way:=m.G) h.O d,a,b,c]
theorem X8{m:Mp}(h:bf m)(i: ∀a b,a<m.R→b<m.R→dD m a=true→m.K.getD a 0=m.K.getD b 0→a=b){p q:Nat}(e:gH m p=gH m q):aG m.G m.R m.B m.M p=aG m.G m.R m.B m.M q:=by
 have f:=nw (p:=p) (way:=m.G) h.O;have g:=nw (p:=q) (way:=m.G) h.O;unfold gH at e;cases c:dD m (aG m.G m.R m.B m.M p)
 ·cases d:dD m (aG m.G m.R m.B m.M q)
  ·rw[c,d] at e;exact e
  ·rw[c,d,ALcf,ALct] at e;have:=(h.sp _ g).resolve_left (pO d);omega
 ·cases d:dD m (aG m.G m.R m.B m.M q)
  ·rw[c,d,ALcf,ALct] at e;have:=(h.sp _ f).resolve_left (pO c);omega
  ·rw[c,d,ALct,ALct] at e;have j:=(h.sp _ f).resolve_left (pO c);have k:=(h.sp _ g).resolve_left (pO d);exact i _ _ f g c Om
theorem Ba{C n k:Nat}(h:n/C=k/C)(g:n%C=k%C):n=k:=by rw[←aal n C,←aal k C,h,g]
theorem rj{m:Mp}(h:bf m)(t: ∀a b,a<m.R→b<m.R→dD m a=true→m.K.getD a 0=m.K.getD b 0→a=b){p q i k:Nat}(hp:p<m.R*m.B*m.M)(f:q<m.R*m.B*m.M)(o:i<m.C)(s:k<m.C)(e:bB m p*64+i=bB m q*64+k):p=q∧i=k:=by
 rw[AM,AM] at e;have c:=qv h hp;have d:=qv h f;obtain⟨g,j,l,n⟩:=xa h.O.bd ⟨c.h0,c.h1,c.h2,o⟩ ⟨d.h0,d.h1,d.h2,s⟩ e;exact⟨X7 h hp f (X8 h t g) j l,n⟩
def lO(m:Mp)(j:Jb)(n:Nat):Bool:=if j.A=1 then decide (aq m n=j.fr) else decide (aG m.G m.R m.B m.M (aq m n)=j.fr)
def gU(m:Mp)(j:Jb)(n:Nat):Nat:=if j.A=1 then n%m.C else fm m n
theorem HY{m:Mp}(h:bf m){n:Nat}(g:n<(m.R*m.B*m.M-m.res)*m.C)(t:Nat):iC m t (fm m n)=bI t (dX m.G m.R m.B m.M (aq m n)) (dV m.G m.R m.B m.M (aq m n)) (n%m.C):=by
 have a:=qz h g;have f:=ZG n h.O.bd.c1;have b:fm m n/m.C=dX m.G m.R m.B m.M (aq m n)*m.M+dV m.G m.R m.B m.M (aq m n):=by unfold fm;rw[ZU,ZN _ _ h.O.bd.c1,ZC f,Z6]
 have c:fm m n%m.C=n%m.C:=by unfold fm;rw[ZU,ZR,Nat.mod_mod]
 have d:(dX m.G m.R m.B m.M (aq m n)*m.M+dV m.G m.R m.B m.M (aq m n))/m.M=dX m.G m.R m.B m.M (aq m n):=by rw[ZU,ZN _ _ h.O.bd.m1,ZC a.h2,Z6]
 have e:(dX m.G m.R m.B m.M (aq m n)*m.M+dV m.G m.R m.B m.M (aq m n))%m.M=dV m.G m.R m.B m.M (aq m n):=by rw[ZU,ZR,ZO a.h2]
 unfold iC;rw[b,c,d,e]
theorem xb{m:Mp}(h:bf m){r t i k:Nat}(j:r<m.R+m.S)(ht:t<m.R+m.S)(f:i<m.B*m.M*m.C)(g:k<m.B*m.M*m.C)(e:iC m r i=iC m t k):r=t∧i=k:=by
 obtain⟨a,b,c,d⟩:=xa h.O.bd (ot h j f) (ot h ht g) e;exact⟨a,Ba (C:=m.C) (Ba (C:=m.M) b c) d⟩
section
variable {r:Rp}
theorem tY(h:aO r){n:Nat}(a:n<(r.m.R*r.m.B*r.m.M-r.m.res)*r.m.C):n/r.m.C<r.m.R*r.m.B*r.m.M-r.m.res:=zQ h.m a
theorem X9(a:eK r)(h:aO r){n k:Nat}(c:n<(r.m.R*r.m.B*r.m.M-r.m.res)*r.m.C)(b:k<(r.m.R*r.m.B*r.m.M-r.m.res)*r.m.C)(e:aq r.m n=aq r.m k)(g:n%r.m.C=k%r.m.C):n=k:=Ba (a.inj _ _ (tY h c) (tY h b) e) g
theorem rl(a:eK r)(h:aO r){n k:Nat}(d:n<(r.m.R*r.m.B*r.m.M-r.m.res)*r.m.C)(c:k<(r.m.R*r.m.B*r.m.M-r.m.res)*r.m.C)(e:cM r.m n=cM r.m k):n=k:=by
 have b:=h.m.O.bd.c1;obtain⟨f,g⟩:=rj h.m a.si (nz h.m d) (nz h.m c) (ZG _ b) (ZG _ b) e;exact X9 a h d c f g
theorem oF(h:aO r)(a:r.j.A≠0)(n:Nat):aJ r.m r.j n=if lO r.m r.j n=true then(if gU r.m r.j n<r.j.nx then aU r.m r.j.A r.j.tg (gU r.m r.j n) else cM r.m n) else cM r.m n:=by
 unfold aJ lO gU;rcases tn h a with e | e
 ·rw[e];simp only[if_true,decide_eq_true_eq]
 ·rw[e];simp only[show ¬(2:Nat)=1 by decide,if_false,decide_eq_true_eq]
theorem pP(h:aO r)(a:r.j.A≠0){n:Nat}(b:n<(r.m.R*r.m.B*r.m.M-r.m.res)*r.m.C):gU r.m r.j n<eH r.j.A r.m.B r.m.M r.m.C:=by
 unfold gU;rcases tn h a with e | e
 ·rw[e,ALifp rfl];exact ZG _ h.m.O.bd.c1
 ·rw[e,ALifn Dc];exact tj h.m b
theorem Ya{m:Mp}{p a:Nat}(e:aG m.G m.R m.B m.M p=a)(h:dD m a=false):gH m p=a:=by unfold gH;rw[e,h,ALcf]
theorem xd(h:aO r)(b:r.j.A≠0){n:Nat}(d:n<(r.m.R*r.m.B*r.m.M-r.m.res)*r.m.C)(a:lO r.m r.j n=true):cM r.m n=aU r.m r.j.A r.j.fr (gU r.m r.j n):=by
 unfold lO at a;unfold gU;rcases h.j.k with e | ⟨e,c⟩ | ⟨e,c⟩
 ·rw[e] at b;exact absurd rfl b
 ·rw[e,ALifp rfl] at a;rw[e,ALifp rfl];have a:=of_decide_eq_true a;unfold cM;rw[a];rfl
 ·rw[e,ALifn Dc] at a;rw[e,ALifn Dc];have a:=of_decide_eq_true a;show _=iC r.m r.j.fr (fm r.m n);rw[HY h.m d,pr,Ya a c.hs]
theorem Bb(t:eK r)(h:aO r)(g:r.j.A≠0){n i:Nat}(d:n<(r.m.R*r.m.B*r.m.M-r.m.res)*r.m.C)(b:i<eH r.j.A r.m.B r.m.M r.m.C)(a:cM r.m n=aU r.m r.j.A r.j.fr i):lO r.m r.j n=true∧gU r.m r.j n=i:=by
 have u:=h.m.O.bd.c1;rcases h.j.k with e | ⟨e,k⟩ | ⟨e,k⟩
 ·rw[e] at g;exact absurd rfl g
 ·unfold lO gU;rw[e] at a b;rw[e,ALifp rfl,ALifp rfl];obtain⟨q,s⟩:=rj h.m t.si (nz h.m d) k.hf (ZG _ u) b a;exact⟨cC q,s⟩
 ·have f:=xd h g d (r:=r);unfold lO gU at f⊢;rw[e] at a b f;rw[ALifn Dc] at f;rw[e,ALifn Dc,ALifn Dc];have v:=qz h.m d;have x:=k.hf;have w:=ot h.m (r:=r.j.fr) (i:=i) Om b;have j:bI _ _ _ _=bI _ _ _ _:=(pr r.m n).symm.trans a;obtain⟨c,_,_,_⟩:=xa h.m.O.bd v w j;have o:aG r.m.G r.m.R r.m.B r.m.M (aq r.m n)=r.j.fr:=by
   unfold gH at c;cases l:dD r.m (aG r.m.G r.m.R r.m.B r.m.M (aq r.m n))
   ·rw[l] at c;exact c
   ·rw[l,ALct] at c;have:=(h.m.sp _ (nw (p:=aq r.m n) (way:=r.m.G) h.m.O)).resolve_left (pO l);omega
  refine⟨cC o,?_⟩;have m:=f (cC o);rw[ALifn Dc] at m;exact(xb h.m Om Om (tj h.m d) b (m.symm.trans a)).2
theorem rm(f:eK r)(h:aO r)(l:r.j.A≠0){n i:Nat}(j:n<(r.m.R*r.m.B*r.m.M-r.m.res)*r.m.C)(b:i<eH r.j.A r.m.B r.m.M r.m.C):aU r.m r.j.A r.j.tg i≠cM r.m n:=by
 have q:=h.m.O.bd.c1;intro a;rcases h.j.k with e | ⟨e,c⟩ | ⟨e,c⟩
 ·rw[e] at l;exact absurd rfl l
 ·rw[e] at a b;obtain⟨o,t⟩:=rj h.m f.si c.ht (nz h.m j) b (ZG _ q) a;exact f.nt _ (tY h j) e o.symm
 ·rw[e] at a b;have v:=c.t1;have w:=h.m.rk;have u:=c.t0;have s:=ot h.m (r:=r.j.tg) (i:=i) Om b;have g:bI _ _ _ _=bI _ _ _ _:=a.trans (pr r.m n);obtain⟨d,_,_,_⟩:=xa h.m.O.bd s (qz h.m j) g;have m:=nw (p:=aq r.m n) (way:=r.m.G) h.m.O;unfold gH at d;cases k:dD r.m (aG r.m.G r.m.R r.m.B r.m.M (aq r.m n))
  ·rw[k,ALcf] at d;omega
  ·rw[k,ALct] at d;have:=(h.m.sp _ m).resolve_left (pO k);exact f.st _ m e Om
theorem HZ(g:eK r)(h:aO r)(f:r.j.A≠0){i k:Nat}(b:i<eH r.j.A r.m.B r.m.M r.m.C)(d:k<eH r.j.A r.m.B r.m.M r.m.C)(a:aU r.m r.j.A r.j.tg i=aU r.m r.j.A r.j.tg k):i=k:=by
 rcases h.j.k with e | ⟨e,c⟩ | ⟨e,c⟩
 ·rw[e] at f;exact absurd rfl f
 ·rw[e] at a b d;exact(rj h.m g.si c.ht c.ht b d a).2
 ·rw[e] at a b d;have j:=c.t1;have l:=h.m.rk;exact(xb h.m Om Om b d a).2
theorem Yb(b:eK r)(h:aO r){n k:Nat}(d:n<(r.m.R*r.m.B*r.m.M-r.m.res)*r.m.C)(c:k<(r.m.R*r.m.B*r.m.M-r.m.res)*r.m.C)(e:aJ r.m r.j n=aJ r.m r.j k):n=k:=by
 by_cases a:r.j.A=0
 ·unfold aJ at e;rw[a] at e;exact rl b h d c e
 rw[oF h a,oF h a] at e;have g:=pP h a d;have f:=pP h a c
 split at e
 ·rename_i on
  split at e
  ·split at e
   ·rename_i i
    split at e
    ·have:=HZ b h a g f e;refine rl b h d c ?_;rw[xd h a d on,xd h a c i,this]
    ·exact absurd e (rm b h a c g)
   ·exact absurd e (rm b h a c g)
  ·split at e
   ·split at e
    ·exact absurd e.symm (rm b h a d f)
    ·exact rl b h d c e
   ·exact rl b h d c e
 ·split at e
  ·split at e
   ·exact absurd e.symm (rm b h a d f)
   ·exact rl b h d c e
  ·exact rl b h d c e
theorem H0(b:eK r)(h:aO r)(a:r.j.A≠0)(d:r.j.nx<eH r.j.A r.m.B r.m.M r.m.C){n:Nat}(c:n<(r.m.R*r.m.B*r.m.M-r.m.res)*r.m.C):aJ r.m r.j n≠aU r.m r.j.A r.j.tg r.j.nx:=by
 intro e;have f:=pP h a c;rw[oF h a] at e
 split at e
 ·split at e
  ·have:=HZ b h a f d e;omega
  ·exact rm b h a c d e.symm
 ·exact rm b h a c d e.symm
theorem Yc(m:eK r)(h:aO r)(a:r.j.A≠0)(b:r.j.nx<eH r.j.A r.m.B r.m.M r.m.C){n:Nat}(g:n<(r.m.R*r.m.B*r.m.M-r.m.res)*r.m.C):aJ r.m (bu r).j n=if aJ r.m r.j n=aU r.m r.j.A r.j.fr r.j.nx then aU r.m r.j.A r.j.tg r.j.nx else aJ r.m r.j n:=by
 have i:=pP h a g;have p:aJ r.m (bu r).j n=if lO r.m r.j n=true then(if gU r.m r.j n<r.j.nx+1 then aU r.m r.j.A r.j.tg (gU r.m r.j n) else cM r.m n) else cM r.m n:=oF (r:=bu r) (qF h a b) a n
 rw[p,oF h a];by_cases c:lO r.m r.j n=true
 ·rw[ALifp c,ALifp c];have q:=xd h a g c;by_cases o:gU r.m r.j n<r.j.nx
  ·rw[ALifp (show gU r.m r.j n<r.j.nx+1 by omega),ALifp o,ALifn];intro e;obtain⟨v,_,s⟩: ∃k,k<(r.m.R*r.m.B*r.m.M-r.m.res)*r.m.C∧True:=⟨n,g,trivial⟩;rcases h.j.k with d | ⟨d,f⟩ | ⟨d,f⟩
   ·rw[d] at a;exact absurd rfl a
   ·rw[d] at e b i;have:=(rj h.m m.si f.ht f.hf i b e).2;omega
   ·rw[d] at e b i;have t:=f.t1;have l:=h.m.rk;have u:=f.hf;have:=(xb h.m Om Om i b e).2;omega
  ·rw[ALifn o];by_cases l:gU r.m r.j n=r.j.nx
   ·rw[ALifp (show gU r.m r.j n<r.j.nx+1 by omega),ALifp (by rw[q,l]),l]
   ·rw[ALifn (show ¬gU r.m r.j n<r.j.nx+1 by omega),ALifn];intro e;exact l (Bb m h a g b e).2
 ·rw[ALifn c,ALifn c,ALifn];intro e;exact c (Bb m h a g b e).1
end
end
section
section
variable {r:Rp}
structure fJ (r r':Rp):Prop where
 i:eK r'
 e: ∀n,n<(r.m.R*r.m.B*r.m.M-r.m.res)*r.m.C→aJ r'.m r'.j n=aJ r.m r.j n
theorem fJ.rfl'(h:eK r):fJ r r:=⟨h,λ_ _=>rfl⟩
theorem fJ.tr{a b c:Rp}(h:fJ a b)(g:fJ b c)(l:eO a.m b.m):fJ a c:=⟨g.i,λn d=>(g.e n (by rw[l.R,l.B,l.M,l.C,l.res];exact d)).trans (h.e n d)⟩
theorem H2(b:eK r)(k:r.j.A=0)(a:Ak):fJ r (de r a):=by
 have j: ∀n,aJ r.m r.j n=cM r.m n:=λn=>by unfold aJ;simp only[k]
 have d: ∀p,p<r.m.R*r.m.B*r.m.M-r.m.res+r.m.P→r.m.Q.getD p false=false→∃i,i<r.m.R*r.m.B*r.m.M-r.m.res∧r.m.N.getD i 0=p:=λp hp f=>(b.al p hp f).resolve_left λq=>by rw[k] at q;exact absurd q.1 Dc
 unfold de;cases a.k==1
 ·rw[ALcf];cases hp:dY r.m
  ·exact fJ.rfl' b
  ·rw[ALct];have c:r.m.F≠r.m.S:=by unfold dY at hp;simpa using hp
   have l:fl r.m=r.m.R+r.m.F:=by unfold fl;rw[ALifn c]
   refine⟨⟨b.inj,b.ld,b.lt,λ_ _ e=>absurd e (show ¬(2:Nat)=1 by decide),λp hp f=> .inr (d p hp f),b.si,λa g=>?_,λa g _=>?_⟩,λn _=>?_⟩
   ·have:=b.sl a g;show r.m.K.getD a 0<((r.m.R+(r.m.F+1):Nat):Int);omega
   ·have:=b.sl a g;show r.m.K.getD a 0≠((fl r.m:Nat):Int);omega
   ·rw[j];show(if aG r.m.G r.m.R r.m.B r.m.M (aq r.m n)=a.w then(if fm r.m n<0 then _ else cM r.m n) else cM r.m n)=_;rw[ALifn (ZX _),ite_self]
 ·rw[ALct];cases hp:dy r.m
  ·exact fJ.rfl' b
  ·rw[ALct];have c:r.m.P≠r.m.res:=by unfold dy at hp;simpa using hp
   have l:dE r.m=r.m.R*r.m.B*r.m.M-r.m.res+r.m.P:=by unfold dE;rw[ALifn c]
   refine⟨⟨b.inj,b.ld,λi h=>Nat.lt_succ_of_lt (b.lt i h),λi h _=>?_,λp hp f=>?_,b.si,b.sl,λ_ _ e=>absurd e (show ¬(1:Nat)=2 by decide)⟩,λn _=>?_⟩
   ·have:=b.lt i h;show r.m.N.getD i 0≠dE r.m;omega
   ·have hp:p<r.m.R*r.m.B*r.m.M-r.m.res+(r.m.P+1):=hp;by_cases e:p=dE r.m
    ·exact .inl ⟨rfl,e⟩
    ·exact .inr (d p Om f)
   ·rw[j];show(if aq r.m n=a.w then(if n%r.m.C<0 then _ else cM r.m n) else cM r.m n)=_;rw[ALifn (ZX _),ite_self]
theorem H3(b:eK r)(a:Ak):fJ r (bq r a):=by
 unfold bq;cases c8 r a
 ·cases c:r.j.A==0
  ·exact⟨⟨b.inj,b.ld,b.lt,b.nt,b.al,b.si,b.sl,b.st⟩,λ_ _=>rfl⟩
  ·exact H2 b (by simpa using c) a
 ·exact fJ.rfl' b
theorem H4(a:eK r):eK (aZ r):=⟨a.inj,a.ld,a.lt,a.nt,a.al,a.si,a.sl,a.st⟩
theorem Yd{s:Rp×List Ev}(a:eK s.1)(b:s.1.j.A=0):fJ s.1 (gI s).1:=by
 unfold gI;cases c8 (aZ s.1) (s.1.q.headD aN)
 ·have:=H2 (r:=aZ s.1) (H4 a) b (s.1.q.headD aN);exact⟨this.i,this.e⟩
 ·exact⟨H4 a,λ_ _=>rfl⟩
theorem H5: ∀(n:Nat) (s:Rp×List Ev),eK s.1→fJ s.1 (e3 n s).1
 | 0,s,h=>fJ.rfl' h
 | n+1,s,h=>by
  unfold e3
  split
  ·rename_i b;have a:=Yd h b;exact a.tr (H5 n (gI s) a.i) (Au s)
  ·exact fJ.rfl' h
theorem Ye{l:List Nat}{h t i:Nat}(a:i<l.length):(dB l h t l.length).getD i 0=if l.getD i 0=h then t else l.getD i 0:=by
 rw[QW,Zp,ZV,Zy a,Zp,Zy a];rfl
theorem Bc{α:Type}{l:List α}{i:Nat}{x d:α}(h:i<l.length):(l.set i x).getD i d=x:=by rw[Zp,List.getElem?_set,ALifp rfl,ALifp h];rfl
theorem Yf(d:eK r)(h:aO r)(v:r.j.A≠0)(I:r.j.nx=eH r.j.A r.m.B r.m.M r.m.C):fJ r (gS r):=by
 rcases h.j.k with e | ⟨e,f⟩ | ⟨e,f⟩
 ·rw[e] at v;exact absurd rfl v
 ·have F:gS r={r with m:=kk r.m r.j.fr r.j.tg,j:=km}:=by unfold gS;rw[e];rfl
  rw[F];have H:r.m.N.length=r.m.R*r.m.B*r.m.M-r.m.res:=h.m.ll;have u: ∀i,i<r.m.R*r.m.B*r.m.M-r.m.res→(kk r.m r.j.fr r.j.tg).N.getD i 0=if r.m.N.getD i 0=r.j.fr then r.j.tg else r.m.N.getD i 0:=λi c=>Ye Om
  refine⟨⟨λi k c w g=>?_,λi c=>?_,λi c=>?_,λ_ _ q=>ZL (show(0:Nat)=_ from q),λp hp s=> .inr ?_,d.si,d.sl,λ_ _ q=>ZL (show(0:Nat)=_ from q)⟩,λn A=>?_⟩
  ·have g:(kk r.m r.j.fr r.j.tg).N.getD i 0=(kk r.m r.j.fr r.j.tg).N.getD k 0:=g;have c:i<r.m.R*r.m.B*r.m.M-r.m.res:=c;have w:k<r.m.R*r.m.B*r.m.M-r.m.res:=w;rw[u i c,u k w] at g
   split at g
   ·rename_i t
    split at g
    ·rename_i D;exact d.inj i k c w (t.trans D.symm)
    ·exact absurd g.symm (d.nt k w e)
   ·split at g
    ·exact absurd g (d.nt i c e)
    ·exact d.inj i k c w g
  ·have c:i<r.m.R*r.m.B*r.m.M-r.m.res:=c;show(r.m.Q.set r.j.fr true).getD ((kk r.m r.j.fr r.j.tg).N.getD i 0) false=false;rw[u i c]
   split
   ·rw[getD_set_ne f.ne];exact f.dt
   ·rename_i t;rw[getD_set_ne (λq=>t q.symm)];exact d.ld i c
  ·have c:i<r.m.R*r.m.B*r.m.M-r.m.res:=c;show(kk r.m r.j.fr r.j.tg).N.getD i 0<_;rw[u i c]
   split
   ·exact f.t1
   ·exact d.lt i c
  ·have hp:p<r.m.R*r.m.B*r.m.M-r.m.res+r.m.P:=hp;have s:(r.m.Q.set r.j.fr true).getD p false=false:=s;have B:p≠r.j.fr:=by
    intro q;rw[q,Bc (by rw[h.m.ld];exact f.hf)] at s;cases s
   rw[getD_set_ne (λq=>B q.symm)] at s;show ∃i,i<r.m.R*r.m.B*r.m.M-r.m.res∧(kk r.m r.j.fr r.j.tg).N.getD i 0=p;rcases d.al p hp s with⟨_,q⟩ | ⟨i,c,q⟩
   ·rcases d.al r.j.fr f.f1 f.df with⟨_,G⟩ | ⟨i,c,G⟩
    ·exact absurd G f.ne
    ·exact⟨i,c,by rw[u i c,ALifp G,q]⟩
   ·exact⟨i,c,by rw[u i c,ALifn (by rw[q];exact B),q]⟩
  ·have x:=pP h v A;rw[oF h v];show cM (kk r.m r.j.fr r.j.tg) n=_;have K:aq (kk r.m r.j.fr r.j.tg) n=if aq r.m n=r.j.fr then r.j.tg else aq r.m n:=u _ (tY h A)
   unfold lO gU at*;rw[e,ALifp rfl] at x;rw[e,ALifp rfl,ALifp rfl,I,e,ALifp x];unfold cM;rw[K];by_cases q:aq r.m n=r.j.fr
   ·rw[ALifp q,ALifp (cC q)];rfl
   ·rw[ALifn q,ALifn (by simpa using q)];rfl
 ·have F:gS r={r with m:=jr r.m r.j.fr r.j.tg,j:=km}:=by unfold gS;rw[e];rfl
  rw[F];have H:r.m.K.length=r.m.R:=h.m.ls;have y: ∀a,(jr r.m r.j.fr r.j.tg).K.getD a 0=if a=r.j.fr then(r.j.tg:Int) else r.m.K.getD a 0:=λa=>by
   show(r.m.K.set r.j.fr (r.j.tg:Int)).getD a 0=_;by_cases q:a=r.j.fr
   ·rw[ALifp q,q,Bc (by rw[H];exact f.hf)]
   ·rw[ALifn q,getD_set_ne (λz=>q z.symm)]
  have L:=f.t0;have M:=f.t1;refine⟨⟨d.inj,d.ld,d.lt,λ_ _ q=>ZL (show(0:Nat)=_ from q),λp hp s=> .inr ((d.al p hp s).resolve_left λq=>by rw[e] at q;exact absurd q.1 Dc),λa b o l C g=>?_,λa o=>?_,λ_ _ q=>ZL (show(0:Nat)=_ from q)⟩,λn A=>?_⟩
  ·have o:a<r.m.R:=o;have l:b<r.m.R:=l;have g:(jr r.m r.j.fr r.j.tg).K.getD a 0=(jr r.m r.j.fr r.j.tg).K.getD b 0:=g;rw[y a,y b] at g
   split at g
   ·rename_i t
    split at g
    ·rename_i D;rw[t,D]
    ·exact absurd g.symm (d.st b l e)
   ·rename_i t
    split at g
    ·exact absurd g (d.st a o e)
    ·refine d.si a b o l ?_ g;have C:(!((jr r.m r.j.fr r.j.tg).K.getD a 0== -1))=true:=C;rw[y a,ALifn t] at C;exact C
  ·have o:a<r.m.R:=o;show(jr r.m r.j.fr r.j.tg).K.getD a 0<((r.m.R+r.m.F:Nat):Int);rw[y a]
   split
   ·omega
   ·exact d.sl a o
  ·have x:=pP h v A;rw[oF h v];show cM (jr r.m r.j.fr r.j.tg) n=_;have J:gH (jr r.m r.j.fr r.j.tg) (aq r.m n)=if aG r.m.G r.m.R r.m.B r.m.M (aq r.m n)=r.j.fr then r.j.tg else gH r.m (aq r.m n):=by
    show(bif (!((jr r.m r.j.fr r.j.tg).K.getD (aG r.m.G r.m.R r.m.B r.m.M (aq r.m n)) 0== -1)) then((jr r.m r.j.fr r.j.tg).K.getD (aG r.m.G r.m.R r.m.B r.m.M (aq r.m n)) 0).toNat else aG r.m.G r.m.R r.m.B r.m.M (aq r.m n))=_;rw[y]
    split
    ·rw[show(((r.j.tg:Nat):Int)== -1)=false by rw[db];omega];rfl
    ·rfl
   unfold lO gU at*;rw[e,ALifn (show ¬(2:Nat)=1 by decide)] at x;rw[e,ALifn (show ¬(2:Nat)=1 by decide),ALifn (show ¬(2:Nat)=1 by decide),I,e,ALifp x];rw[pr];show bI (gH (jr r.m r.j.fr r.j.tg) (aq r.m n)) (dX r.m.G r.m.R r.m.B r.m.M (aq r.m n)) (dV r.m.G r.m.R r.m.B r.m.M (aq r.m n)) (n%r.m.C)=_;rw[J];by_cases q:aG r.m.G r.m.R r.m.B r.m.M (aq r.m n)=r.j.fr
   ·rw[ALifp q,ALifp (cC q)];exact(HY h.m A _).symm
   ·rw[ALifn q,ALifn (by simpa using q),pr]
theorem H6(a:eK r):eK (bu r):=⟨a.inj,a.ld,a.lt,a.nt,a.al,a.si,a.sl,a.st⟩
theorem H7(c:eK r)(h:aO r)(d:r.j.A≠0)(f:r.j.nx<eH r.j.A r.m.B r.m.M r.m.C):fJ (bu r) (eR r).1:=by
 have e:=qF h d f;unfold eR;cases a:kN r.m (bu r).j
 ·exact fJ.rfl' (H6 c)
 ·unfold kN at a;rw[Z4] at a;have b:=Yf (H6 c) e d (of_decide_eq_true a.2);exact b.tr (H5 _ (af (bu r)) b.i) (At (bu r))
theorem Yg(a:eK r)(h:aO r)(b:r.j.A≠0)(d:r.j.nx<eH r.j.A r.m.B r.m.M r.m.C){n:Nat}(c:n<(r.m.R*r.m.B*r.m.M-r.m.res)*r.m.C):aJ (eR r).1.m (eR r).1.j n=if aJ r.m r.j n=aU r.m r.j.A r.j.fr r.j.nx then aU r.m r.j.A r.j.tg r.j.nx else aJ r.m r.j n:=
 ((H7 a h b d).e n c).trans (Yc a h b d c)
end
theorem Yh{s:Le}(c:eK s.r)(b a w:Nat)(x:Re):fJ s.r (gn s b a w x).r:=by
 unfold gn;cases cU s.k.lp (dg s.k.t a).l w
 ·exact fJ.rfl' c
 ·exact H3 (r:=s.r) c _
theorem H8{s:Le}(d:eK s.r)(a b w:Nat)(x:Re):fJ s.r (fe s a b w x).r:=by
 have c:=Yh d a b w x;unfold fe;cases cU s.k.lr (s.k.F.getD a bj).l w
 ·exact c
 ·exact c.tr (H3 (r:=(gn s a b w x).r) c.i _) (tu s a b w x)
theorem H9{s:Le}(a:eK s.r)(heavy:Nat)(n:Nt):fJ s.r (dh heavy s n).r:=by
 unfold dh
 split
 ·exact fJ.rfl' a
 split
 ·exact H8 a _ _ _ _
 split
 ·exact fJ.rfl' a
 ·exact H8 a _ _ _ _
theorem Yi{R S B M C way c:Nat}(h:c<R*B*M):eK ⟨lD R S B M C way c,km,[]⟩:=by
 have g: ∀i,i<R*B*M-c→(Zt (R*B*M-c)).getD i 0=i:=λi d=>by rw[Zp,ZH d];rfl
 have l: ∀a,a<R→(Zm R (-1:Int)).getD a 0= -1:=λa f=>by rw[Zp,ZI,ALifp f];rfl
 refine⟨λi k d m e=>?_,λi d=>?_,λi d=>?_,λ_ _ q=>ZL (show(0:Nat)=_ from q),λp hp o=> .inr ⟨p,hp,g p hp⟩,λa b f n j _=>?_,λa f=>?_,λ_ _ q=>ZL (show(0:Nat)=_ from q)⟩
 ·have e:(Zt (R*B*M-c)).getD i 0=(Zt (R*B*M-c)).getD k 0:=e;rwa [g i d,g k m] at e
 ·show(Zm (R*B*M) false).getD _ false=false;rw[Zp,ZI]
  split<;>rfl
 ·show(Zt (R*B*M-c)).getD i 0<R*B*M-c+0;rw[g i d];exact d
 ·exact absurd (l a f) (pO j)
 ·show(Zm R (-1:Int)).getD a 0<((R+0:Nat):Int);rw[l a f];omega
end
section
theorem Ia(o:List UInt8)(j:Nat): ∀(is:List Nat) (l:List UInt8),j<l.length→(jw l o is).getD j 0=if j∈is then o.getD j 0 else l.getD j 0
 | [],_,_=>by rw[ALifn Z5];rfl
 | i::is,l,h=>by
  show(jw (l.set i (o.getD i 0)) o is).getD j 0=_;rw[Ia o j is _ (by rw[List.length_set];exact h)];by_cases a:j∈is
  ·rw[ALifp a,ALifp (aab _ a)]
  ·rw[ALifn a];by_cases b:i=j
   ·rw[b,Bc h,ALifp ZJ]
   ·rw[getD_set_ne b,ALifn λq=>(List.mem_cons.1 q).elim (λz=>b z.symm) a]
theorem Yj{m:Nat}(h:pc m=64){i:Nat}(e:i<64):i∈bn m:=by
 have g:(bn m).length=64:=(ID 64 0 m).trans h;have f:(bn m).Nodup:=(IE 64 0 m).imp λh=>Nat.ne_of_lt h;refine Classical.byContradiction λd=>?_;have b:(bn m).length≤((Zt 64).erase i).length:=PS f λx a=>(List.mem_erase_of_ne (λq=>d (by rw[←q];exact a))).2 (List.mem_range.2 (by have:=(xn 64 0 m x a).2.1;omega));rw[List.length_erase_of_mem (List.mem_range.2 e),Zu] at b;omega
theorem Yk{l o:List UInt8}{m:Nat}(h:pc m=64)(f:l.length=64)(g:o.length=64):fI l o m=o:=by
 have e:(fI l o m).length=64:=(wG ..).trans f;refine List.ext_getElem (e.trans g.symm) λj a b=>?_;have:=Ia o j (bn m) l Om;rw[ALifp (Yj h Om)] at this;have d:(fI l o m).getD j 0=o.getD j 0:=this;rwa [Zp,Zp,Zy a,Zy b] at d
structure tZ (a:Ac):Prop where
 s:mV a=false
 e:a.ex≤1
def jd(l:List Ac):Prop:=∀a∈l,tZ a
theorem Ib{c:Cf}(d:c.E=1∨c.E=2){l r:List UInt8}(a:l.length=64)(b:r.length=72){i:Int}(h:c7 (c.E:Int) r (eu c.E l i false)≤1):mW c.E r i=l∧j0 c.E r i=c7 (c.E:Int) r (eu c.E l i false):=by
 rw[O7 b (pK _ a _ _)] at h⊢;unfold mW j0 nH;rcases d with e | e
 ·rw[e] at h⊢;have:=PR a b h;refine⟨this.1,?_⟩;show(jK ((Zt 8).map (dK r i))).toNat=c7 1 (bU 9 (eZ l i false) 8) r;rw[this.2.1];rfl
 ·rw[e] at h⊢;have:=Qg a b h;refine⟨this.1,?_⟩;show(jK ((Zt 2).map (cK r i))).toNat=c7 2 (bU 36 (eG l i false) 2) r;rw[this.2.1];rfl
theorem xe{k:Nat}(h:k≤1):cb k=0:=by
 unfold cb;rw[show(((k:Nat):Int)==3)=false by rw[db];omega,show(((k:Nat):Int)==2)=false by rw[db];omega];rfl
structure eV (c:Cf) (x:Ct) (id:Int→List UInt8):Prop where
 rp:eK x.s.r
 gh: ∀n,n<di c→x.V.X ((aA x n:Nat):Int)=eu c.E (id (n:Int)) ((aA x n:Nat):Int) false
 mz: ∀n,n<di c→x.V.Z ((aA x n:Nat):Int)=0
section
variable {c:Cf} {x:Ct} {K A:Nat} {id:Int→List UInt8}
theorem ba.ln(h:ba c x K A){n:Nat}(a:n<di c):n<(x.s.r.m.R*x.s.r.m.B*x.s.r.m.M-x.s.r.m.res)*x.s.r.m.C:=by rw[h.ly.R,h.ly.B,h.ly.M,h.ly.C,h.ly.res];exact a
theorem Yl{a:Ac}(h:mV a=false):a.dr=false∧a.wt=a.ix:=by
 unfold mV at h;rw[Bool.or_eq_false_iff] at h;exact⟨h.1,by simpa using h.2⟩
theorem ua(h:ba c x K A)(g:eV c x id){n:Nat}(j:n<di c)(i:(id (n:Int)).length=64)(b:tZ (nF c x.V ((aA x n:Nat):Int))):cx c x (aA x n)=id (n:Int)∧bC c x (aA x n)≤1:=by
 have d:=Yl b.s;have e:aT x.V.D ((aA x n:Nat):Int)=((aA x n:Nat):Int):=d.2;have f:((c7 (c.E:Int) (bZ c x.V.D ((aA x n:Nat):Int)) (x.V.X (aT x.V.D ((aA x n:Nat):Int))):Nat):Int)≤1:=b.e;rw[e,g.gh n j] at f;have a:=Ib h.cf.E i (lH h.D _) (show c7 (c.E:Int) (bZ c x.V.D ((aA x n:Nat):Int)) (eu c.E (id (n:Int)) ((aA x n:Nat):Int) false)≤1 by omega);exact⟨a.1,Zn (aam a.2) Om⟩
theorem Bd(h:ba c x K A)(a:eV c x id){n:Nat}(d:n<di c)(l:List UInt8):eV c (mo c x (aA x n) l false) (b3 id (n:Int) l):=by
 refine⟨a.rp,λk b=>?_,λk b=>?_⟩;rotate_left
 ·show b3 x.V.Z ((aA x n:Nat):Int) 0 ((aA x k:Nat):Int)=0;unfold b3
  split
  ·rfl
  ·exact a.mz k b
 show b3 x.V.X ((aA x n:Nat):Int) (eu c.E l ((aA x n:Nat):Int) false) ((aA x k:Nat):Int)=eu c.E (b3 id (n:Int) l (k:Int)) ((aA x k:Nat):Int) false;unfold b3;by_cases e:k=n
 ·rw[e,ALifp rfl,ALifp rfl]
 ·rw[ALifn (λq=>e (Yb a.rp h.s.r (h.ln b) (h.ln d) (by unfold aA at q;omega))),ALifn Om];exact a.gh k b
theorem eV.cg{a:Int→List UInt8}(b:eV c x id)(h: ∀n:Nat,n<di c→id (n:Int)=a (n:Int)):eV c x a:=⟨b.rp,λn d=>by rw[←h n d];exact b.gh n d,b.mz⟩
theorem eV.same(b:eV c x id){y:Ct}(f:eK y.s.r)(h: ∀n,n<di c→aA y n=aA x n)(d:y.V.X=x.V.X)(e:y.V.Z=x.V.Z):eV c y id:=⟨f,λn a=>by rw[h n a,d];exact b.gh n a,λn a=>by rw[h n a,e];exact b.mz n a⟩
theorem Be(h:ba c x K A)(d:eV c x id)(i a r:Nat):eV c (bX c x i a r) id:=by
 have b:=H9 (s:=x.s) d.rp c.H (kS c x i a r);exact d.same (y:=bX c x i a r) b.i (λn e=>b.e n (h.ln e)) rfl rfl
theorem Ic(h:ba c x K A)(b:eV c x id)(i a r:Nat){n:Nat}(d:n<di c):aA (bX c x i a r) n=aA x n:=(H9 (s:=x.s) b.rp c.H (kS c x i a r)).e n (h.ln d)
theorem Ym{n:Nat}{l:List UInt8}(h:l=id (n:Int))(k:Nat):b3 id (n:Int) l (k:Int)=id (k:Int):=by
 unfold b3
 split
 ·rename_i e;rw[h,e]
 ·rfl
theorem Bf{y:Ct}(a:eV c y id):eV c (kt x y) id:=⟨a.rp,a.gh,a.mz⟩
theorem Ie(h:ba c x K A)(d:eV c x id){n:Nat}(a:n<di c)(j:(id (n:Int)).length=64)(g:K+3≤1000000000)(b:Bool)(i:tZ (nF c x.V ((aA x n:Nat):Int))):eV c (cy c x n b) id:=by
 have f:=qT h a g;have e:=Be h d (aA x n) (lK x n) (lL x n);have l:=ua h d a j i;unfold cy;refine Bf ?_;cases (((bC c x (aA x n):Nat):Int)==1)&&b
 ·exact e
 ·rw[ALct,l.1,←Ic h d (aA x n) (lK x n) (lL x n) a];exact(Bd f e a (id (n:Int))).cg λk m=>Ym rfl k
theorem Ig(n:Nat)(b:Bool):nF c x.V ((aA x n:Nat):Int)∈(cy c x n b).V.l:=by
 have a:nF c x.V ((aA x n:Nat):Int)∈(kr c x n).V.l:=Zq _ ZJ;unfold cy;cases (((bC c x (aA x n):Nat):Int)==1)&&b
 ·exact a
 ·exact Zz _ a
theorem Yn(h:ba c x K A)(d:eV c x id){n:Nat}(b:n<di c)(i:(id (n:Int)).length=64)(p:K+3≤1000000000){l:List UInt8}(e:l.length=64){m:Nat}(q:m≠0)(a:jd (bE c x n l m).V.l):eV c (bE c x n l m) (b3 id (n:Int) (fI (id (n:Int)) l m))∧cc c x n m=0:=by
 have f:((m:Int)==0)=false:=by rw[db];omega
 unfold bE at a⊢;unfold cc;rw[f,ALcf] at a⊢;rw[ALcf];cases hp:decide (pc m=64)
 ·rw[hp,ALcf] at a;rw[ALcf,ALcf];have j:cx c x (aA x n)=id (n:Int)∧bC c x (aA x n)≤1:=by
   refine ua h d b i ?_;have g:nF c x.V ((aA x n:Nat):Int)∈(kr c x n).V.l:=Zq _ ZJ;cases hv: !(cb (bC c x (aA x n))==0)
   ·rw[hv] at a;exact a _ (Zz _ g)
   ·rw[hv] at a;exact a _ (Zz _ g)
  have k:=qT h b p;have o:=Be h d (aA x n) (lK x n) (lL x n);rw[xe j.2,j.1];refine⟨Bf ?_,rfl⟩;show eV c (mo c (kr c x n) (aA x n) (fI (id (n:Int)) l m) false) _;rw[←Ic h d (aA x n) (lK x n) (lL x n) b];exact Bd k o b _
 ·rw[Yk (of_decide_eq_true hp) i e];exact⟨Bf (Bd h d b l),rfl⟩
theorem Yo{r:Rp}(m:eK r)(h:aO r)(d:r.j.A≠0)(i:r.j.nx<eH r.j.A r.m.B r.m.M r.m.C){n:Nat}(l:n<(r.m.R*r.m.B*r.m.M-r.m.res)*r.m.C)(a:aJ r.m r.j n=aU r.m r.j.A r.j.fr r.j.nx):cH r=aq r.m n:=by
 have j:=pP h d l;have u:cM r.m n=aU r.m r.j.A r.j.fr r.j.nx:=by
  rw[oF h d] at a
  split at a
  ·split at a
   ·rename_i t;rcases h.j.k with f | ⟨f,g⟩ | ⟨f,g⟩
    ·rw[f] at d;exact absurd rfl d
    ·rw[f] at a i j;have:=(rj h.m m.si g.ht g.hf j i a).2;omega
    ·rw[f] at a i j;have v:=g.t1;have k:=h.m.rk;have w:=g.hf;have:=(xb h.m Om Om j i a).2;omega
   ·exact a
  ·exact a
 obtain⟨b,k⟩:=Bb m h d l i u;unfold cH;unfold lO at b;unfold gU at k;rcases tn h d with e | e
 ·rw[ALifp e] at b⊢;exact(of_decide_eq_true b).symm
 ·have p: ¬r.j.A=1:=by omega
  rw[ALifn p] at b k⊢;have b:=of_decide_eq_true b;have o:=qz h.m l;have s:=ZG n h.m.O.bd.c1;have q:fm r.m n/r.m.C=dX r.m.G r.m.R r.m.B r.m.M (aq r.m n)*r.m.M+dV r.m.G r.m.R r.m.B r.m.M (aq r.m n):=by unfold fm;rw[ZU,ZN _ _ h.m.O.bd.c1,ZC s,Z6]
  rw[←k,q,ZU,ZN _ _ h.m.O.bd.m1,ZC o.h2,Z6,ZR,ZO o.h2,←b];exact zN h.m.O (nz h.m l)
theorem Ih(h:ba c x K A)(a:eK x.s.r)(d:x.s.r.j.A≠0){n:Nat}(e:n<di c)(i:aA x n=kT x):nJ x=true:=by
 have f:=Yo a h.s.r d (h.run d) (h.ln e) i;have b:=tY h.s.r (h.ln e);unfold nJ;have g:aq x.s.r.m n<x.s.r.m.R*x.s.r.m.B*x.s.r.m.M-x.s.r.m.res+x.s.r.m.P:=a.lt _ b;rw[f,cC g];show(true&& !x.s.r.m.Q.getD (x.s.r.m.N.getD _ 0) false)=true;rw[a.ld _ b];rfl
theorem Yp(h:ba c x K A)(f:eV c x id)(j: ∀n:Nat,(id (n:Int)).length=64)(g:x.s.r.j.A≠0)(w:K+260≤1000000000)(q:jd (iM c x).V.l):eV c (iM c x) id:=by
 have b:=Hg h g Om;have t:=h.run g;have u:eK (gK c x).s.r:=by
  unfold gK;cases nJ x
  ·exact f.rp
  ·exact(Be h f (kT x) (cH x.s.r) (dz x.s.r)).rp
 have p: ∀n,n<di c→aA (iM c x) n=if aA x n=kT x then oB x else aA x n:=λn a=>by
  have l:=Yg u b.1.s.r (by rw[b.2.1];exact g) (b.1.run (by rw[b.2.1];exact g)) (b.1.ln a);rw[b.2.1,b.2.2] at l;exact l
 have o:eK (iM c x).s.r:=(H7 u b.1.s.r (by rw[b.2.1];exact g) (b.1.run (by rw[b.2.1];exact g))).i;refine⟨o,λn a=>?_,λn a=>?_⟩
 all_goals rw[p n a]
 rotate_left
 ·show(gK c x).V.Z _=_;have l: ∀i:Int,i≠((oB x:Nat):Int)→(gK c x).V.Z i=x.V.Z i:=λi r=>by
   unfold gK;cases nJ x
   ·exact ALifn r
   ·exact ALifn r
  by_cases e:aA x n=kT x
  ·rw[ALifp e];have k:=Ih h f.rp g a e;have m:cx c x (aA x n)=id (n:Int)∧bC c x (aA x n)≤1:=by
    refine ua h f a (j n) (q _ ?_);show _∈(gK c x).V.l;unfold gK;rw[k,e];exact Zz _ (Zq _ ZJ)
   unfold gK;rw[k,ALct];rw[e] at m;rw[bl (show ¬(2:Int)≤((bC c x (kT x):Nat):Int) by omega)];exact ALifp rfl
  ·rw[ALifn e];have d:=H0 f.rp h.s.r g t (h.ln a);have d:aA x n≠oB x:=d;rw[l _ Om];exact f.mz n a
 show(gK c x).V.X _=_;have d:=H0 f.rp h.s.r g t (h.ln a);have d:aA x n≠oB x:=d;by_cases e:aA x n=kT x
 ·rw[ALifp e];have k:=Ih h f.rp g a e;have m:cx c x (aA x n)=id (n:Int)∧bC c x (aA x n)≤1:=by
   refine ua h f a (j n) (q _ ?_);show _∈(gK c x).V.l;unfold gK;rw[k,e];exact Zz _ (Zq _ ZJ)
  unfold gK;rw[k,ALct];rw[e] at m;rw[m.1,bl (show ¬(2:Int)≤((bC c x (kT x):Nat):Int) by omega)];exact ALifp rfl
 ·rw[ALifn e];have v:(gK c x).V.X ((aA x n:Nat):Int)=x.V.X ((aA x n:Nat):Int):=by
   unfold gK;cases nJ x
   ·exact ALifn Om
   ·exact ALifn Om
  rw[v];exact f.gh n a
end
end
end E
end Go.Proofs.YtbcodenfkijdnaaGreat
