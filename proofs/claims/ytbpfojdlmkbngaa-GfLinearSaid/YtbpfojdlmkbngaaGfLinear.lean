/- GfLinear, walked: for every a, b, c, x the law returns true. -/
import Derived.Test.YtbpfojdlmkbngaaGfS
import Derived.Test.YtbpfojdlmkbngaaMemP
import Derived.Deep.DeepCutAuto
import Derived.StillTailTactics
import Derived.Deep.RegionHeld3
import Derived.Deep.RegionWith
namespace Go.Proofs.Ytbpfojdlmkbngaa
open Go.RowKit

theorem run_min_int4 {P : Program} (w : World) (ts : Array TypeId) (t : TypeId) (a b c d : Nat) (n : Nat) (hn : min (min (min a b) c) d = n) : (Builtin.min_ ts t #[.int .i64 a, .int .i64 b, .int .i64 c, .int .i64 d]).run P w = .ok (.int .i64 (n : Int)) w := by
  have h : (Builtin.min_ ts t #[.int .i64 a, .int .i64 b, .int .i64 c, .int .i64 d]).run P w = .ok (.int .i64 (if (d : Int) < (if (c : Int) < (if (b : Int) < a then (b : Int) else a) then (c : Int) else (if (b : Int) < a then (b : Int) else a)) then (d : Int) else (if (c : Int) < (if (b : Int) < a then (b : Int) else a) then (c : Int) else (if (b : Int) < a then (b : Int) else a)))) w := by
    simp [Builtin.min_, Builtin.min2]
    repeat' split
    all_goals rfl
  rw [h]
  congr 2
  subst hn
  repeat' split
  all_goals omega

set_option maxHeartbeats 2000000 in
set_option maxRecDepth 100000 in
theorem GfLinear_walk (A0 : Option Addr) (n0 c0 : Nat) (z0 : List Int) (A1 : Option Addr) (n1 c1 : Nat) (z1 : List Int) (A2 : Option Addr) (n2 c2 : Nat) (z2 : List Int) (a3 : Int) (w : World)
    (r0 : IsRow .u8 w A0 n0 c0 z0) (r1 : IsRow .u8 w A1 n1 c1 z1) (r2 : IsRow .u8 w A2 n2 c2 z2) (w3 : (Lit.int .u8 a3).wf = true) :
    Calls Try.prog 7 #[.slice A0 n0 c0, .slice A1 n1 c1, .slice A2 n2 c2, .int .u8 a3] w fun e w' => e = .returned (.bool true) ∧ Below w.heap.size w w' := by
  obtain ⟨xs, hx0, hx1, hx2, hx3⟩ := r0.bytes
  obtain ⟨ys, hy0, hy1, hy2, hy3⟩ := r1.bytes
  obtain ⟨zs, hz0, hz1, hz2, hz3⟩ := r2.bytes
  obtain ⟨x, rfl, lx⟩ := lit_u8 w3
  clear r0 r1 r2 w3
  unfold maxLen at hx2 hy2 hz2
  obtain ⟨b, hb⟩ : ∃ b, w.heap.size = b := ⟨_, rfl⟩
  have HB := Lib.hid hb
  have HX := Lib.hid hx0
  have HY := Lib.hid hy0
  have HZ := Lib.hid hz0
  have RX := Lib.hid hx3
  have RY := Lib.hid hy3
  have RZ := Lib.hid hz3
  clear hx0 hy0 hz0 hx3 hy3 hz3
  go_enter Try.func7, Try.ntmps7
  go_wp2_with fail
  refine (new_any _).mono ?_
  rintro e w1 ⟨rfl, hw1⟩
  have hF : FieldAt w1 b := by rw [hw1, ← HB.out]; exact FieldAt.new w
  have HF := Lib.hid hF
  have hBel : Below b w w1 := by rw [hw1, ← HB.out]; exact (Below.refl _ _).alloc (Nat.le_refl _) _
  have HBE := Lib.hid hBel
  clear hF hw1 hBel
  rw [hb]
  clear hb
  go_wp2_with fail
  refine (anchor1_any b _ HF.out).mono ?_
  rintro e w2 ⟨rfl, k, rfl⟩
  obtain ⟨W, hW⟩ : ∃ W, w1.drewN k = W := ⟨_, rfl⟩
  have hF : FieldAt W b := by rw [← hW]; exact HF.out
  have hBel : Below b w W := by rw [← hW]; exact below_drewN HBE.out _
  rw [hW]
  clear hW HF HBE
  have HF := Lib.hid hF
  have HBE := Lib.hid hBel
  clear hF hBel
  obtain ⟨n, hn⟩ : ∃ n, min (min (min n0 n1) n2) 200 = n := ⟨_, rfl⟩
  have q0 : n ≤ n0 := by omega
  have q1 : n ≤ n1 := by omega
  have q2 : n ≤ n2 := by omega
  have q3 : n ≤ 200 := by omega
  have HN := Lib.hid hn
  clear hn
  have hmin : ∀ w, (Builtin.min_ #[3, 3, 3, 3] 3 #[.int .i64 (n0 : Int), .int .i64 (n1 : Int), .int .i64 (n2 : Int), .int .i64 200]).run Try.prog w = .ok (.int .i64 (n : Int)) w :=
    fun w => run_min_int4 (P := Try.prog) w _ _ n0 n1 n2 200 n HN.out
  have hmk := make_bytes n (by omega)
  go_upto_region 5 with fail
  clear hmin
  go_cut [11, 12] (fun s t wx => ∃ g1 g2, s = .slice (some ⟨g1, 0, none⟩) n n ∧ t = .slice (some ⟨g2, 0, none⟩) n n ∧ W.heap.size ≤ g1 ∧ W.heap.size ≤ g2 ∧ g1 ≠ g2 ∧ Blk wx g1 5 (zeroB n) ∧ Blk wx g2 5 (zeroB n) ∧ Below W.heap.size W wx)
  case first =>
    go_region
    · go_wp2
      go_meet
      exact ⟨W.heap.size, W.heap.size + 1, rfl, rfl, Nat.le_refl _, by omega, by omega, (Blk.new W _ _).alloc _, by have := Blk.new (W.alloc (.cells (zeroB n) 5)) 5 (zeroB n); rw [World.size_alloc] at this; exact this, below_drewN (((Below.refl _ W).alloc (Nat.le_refl _) _).alloc (by rw [World.size_alloc]; omega) _) 1⟩
    · go_wp2
      go_meet
      exact ⟨W.heap.size + 1, W.heap.size, rfl, rfl, by omega, Nat.le_refl _, by omega, by have := Blk.new (W.alloc (.cells (zeroB n) 5)) 5 (zeroB n); rw [World.size_alloc] at this; exact this, (Blk.new W _ _).alloc _, below_drewN (((Below.refl _ W).alloc (Nat.le_refl _) _).alloc (by rw [World.size_alloc]; omega) _) 1⟩
  case rest =>
    obtain ⟨g1, g2, rfl, rfl, hg1, hg2, hne, hb1, hb2, hbel⟩ := hcut
    have HFB := Lib.hid (HF.out : FieldAt W b)
    have hbW : b < W.heap.size := Blk.lt HF.out
    have HBW := Lib.hid hbW
    have HB1 := Lib.hid hb1
    have HB2 := Lib.hid hb2
    have HBL := Lib.hid hbel
    have HG1 := Lib.hid hg1
    have HG2 := Lib.hid hg2
    have HNE := Lib.hid hne
    clear hmk hb1 hb2 hbel hbW hg1 hg2 hne
    go_wp2
    go_loopw [30] (fun i wr => ∃ (k : Nat) (cs1 cs2 : Array Value), k ≤ n ∧ i = .int .i64 k ∧ Blk wr g1 5 cs1 ∧ Blk wr g2 5 cs2 ∧ cs1.size = n ∧ cs2.size = n ∧
        (∀ j, j < k → cs1[j]? = some (.int .u8 (((xs.getD j 0).toNat ^^^ (ys.getD j 0).toNat : Nat) : Int))) ∧ (∀ j, j < k → cs2[j]? = some (.int .u8 ((gmulN (xs.getD j 0).toNat x : Nat) : Int))) ∧ Below W.heap.size W wr) (fun i _ => n - (intOf i).toNat)
    case atStart => exact ⟨0, zeroB n, zeroB n, by omega, rfl, HB1.out, HB2.out, zeroB_size n, zeroB_size n, fun j hj => absurd hj (by omega), fun j hj => absurd hj (by omega), HBL.out⟩
    case round =>
      obtain ⟨k, cs1, cs2, hk, rfl, h1, h2, hs1, hs2, ha1, ha2, hbel⟩ := hrel
      have hbW2 : W.heap.size ≤ wr.heap.size := hbel.size
      by_cases hlt : k < n
      · obtain ⟨b1, o1, rfl, hl1, hc1⟩ := RX.out k (by have := HX.out; omega)
        obtain ⟨b2, o2, rfl, hl2, hc2⟩ := RY.out k (by have := HY.out; omega)
        have hwW : w.heap.size ≤ W.heap.size := by have h := HBE.out.size; exact h
        have hd1 := (hbel.cell (p := ⟨b1, o1 + k, none⟩) (by simp; omega)).trans ((HBE.out.cell (p := ⟨b1, o1 + k, none⟩) (by have := HB.out; simp; omega)).trans hc1)
        have hd2 := (hbel.cell (p := ⟨b2, o2 + k, none⟩) (by simp; omega)).trans ((HBE.out.cell (p := ⟨b2, o2 + k, none⟩) (by have := HB.out; simp; omega)).trans hc2)
        obtain ⟨u, hu⟩ : ∃ u, xs.getD k 0 = u := ⟨_, rfl⟩
        obtain ⟨v, hv⟩ : ∃ v, ys.getD k 0 = v := ⟨_, rfl⟩
        rw [hu] at hd1
        rw [hv] at hd2
        have hxor := u8_xorB u v
        have e1 : ∃ old, wr.cell? ⟨g1, k, none⟩ = some old := by rw [h1.cell, Array.getElem?_eq_getElem (by omega)]; exact ⟨_, rfl⟩
        obtain ⟨old1, e1⟩ := e1
        have f1 := h1.frozen k
        have i0 : (0 : Int) ≤ (k : Int) := by omega
        have i1 : (k : Int) < (n0 : Int) := by omega
        have i2 : (k : Int) < (n1 : Int) := by omega
        have i3 : (k : Int) < (n : Int) := by omega
        have HU := Lib.hid hu
        have HV := Lib.hid hv
        have K1 := Lib.hid h1
        have K2 := Lib.hid h2
        have S1 := Lib.hid hs1
        have S2 := Lib.hid hs2
        have A1' := Lib.hid ha1
        have A2' := Lib.hid ha2
        have BL := Lib.hid hbel
        clear hc1 hc2 hu hv h1 h2 hs1 hs2 ha1 ha2 hbel
        go_wp2
        go_region
        obtain ⟨Wa, hWa⟩ : ∃ Wa, (wr.setCell ⟨g1, k, none⟩ (.int .u8 ((u.toNat ^^^ v.toNat : Nat) : Int))).drew = Wa := ⟨_, rfl⟩
        have ka1 : Blk Wa g1 5 (cs1.setIfInBounds k (.int .u8 ((u.toNat ^^^ v.toNat : Nat) : Int))) := by rw [← hWa]; exact (K1.out.set_ k _).drewN 1
        have ka2 : Blk Wa g2 5 cs2 := by rw [← hWa]; exact (K2.out.far (p := ⟨g1, k, none⟩) (by have := HNE.out; simp; omega) _).drewN 1
        have kb : Below W.heap.size W Wa := by rw [← hWa]; exact below_drewN (BL.out.setCell (p := ⟨g1, k, none⟩) HG1.out _) 1
        rw [hWa]
        have kF : FieldAt Wa b := (kb.block b HBW.out).trans HF.out
        have kc : Wa.cell? ⟨b1, o1 + k, none⟩ = some (.int .u8 (u.toNat : Int)) := by
          rw [← hWa]
          show (wr.setCell ⟨g1, k, none⟩ (.int .u8 ((u.toNat ^^^ v.toNat : Nat) : Int))).cell? ⟨b1, o1 + k, none⟩ = _
          rw [World.cell?_setCell_other _ _ _ _ (by intro h; injection h with h; have := HG1.out; have := HB.out; omega)]
          exact hd1
        have e2 : ∃ old, Wa.cell? ⟨g2, k, none⟩ = some old := by rw [ka2.cell, Array.getElem?_eq_getElem (by have := S2.out; omega)]; exact ⟨_, rfl⟩
        obtain ⟨old2, e2⟩ := e2
        have f2 := ka2.frozen k
        have KA1 := Lib.hid ka1
        have KA2 := Lib.hid ka2
        have KB := Lib.hid kb
        have KF := Lib.hid kF
        clear ka1 ka2 kb kF hWa hd1 hd2 e1 f1 hxor
        go_wp2_with fail
        refine (mul_any b _ _ u.toNat x rfl rfl u.toNat_lt lx _ KF.out).mono ?_
        rintro e w2 ⟨rfl, kk, rfl⟩
        have hset : ∀ (cs : Array Value) (P : Nat → Value) (z : Value), cs.size = n → (∀ j, j < k → cs[j]? = some (P j)) → P k = z → ∀ j, j < k + 1 → (cs.setIfInBounds k z)[j]? = some (P j) := by
          intro cs P z hs hp hz j hj
          rw [Array.getElem?_setIfInBounds]
          by_cases hjk : k = j
          · subst hjk; rw [if_pos rfl, if_pos (by omega), hz]
          · rw [if_neg hjk]; exact hp j (by omega)
        have HSET := Lib.hid hset
        clear hset
        go_wp2
        go_roundw
        case rel =>
          refine ⟨k + 1, _, _, by omega, by go_num, (KA1.out.drewN kk).far (p := ⟨g2, k, none⟩) (by have := HNE.out; simp; omega) _, (KA2.out.drewN kk).set_ k _, by rw [Array.size_setIfInBounds]; exact S1.out, by rw [Array.size_setIfInBounds]; exact S2.out, ?_, ?_, (below_drewN KB.out kk).setCell (p := ⟨g2, k, none⟩) HG2.out _⟩
          · exact HSET.out cs1 (fun j => .int .u8 (((xs.getD j 0).toNat ^^^ (ys.getD j 0).toNat : Nat) : Int)) _ S1.out A1'.out (by rw [HU.out, HV.out])
          · exact HSET.out cs2 (fun j => .int .u8 ((gmulN (xs.getD j 0).toNat x : Nat) : Int)) _ S2.out A2'.out (by rw [HU.out])
        case measure => simp [intOf]; omega
      · obtain rfl : k = n := by omega
        have xlen : (xs.take k).length = k := by rw [List.length_take]; have := HX.out; omega
        have ylen : (ys.take k).length = k := by rw [List.length_take]; have := HY.out; omega
        have zlen : (zs.take k).length = k := by rw [List.length_take]; have := HZ.out; omega
        have slen : ((List.range k).map fun j => xs.getD j 0 ^^^ ys.getD j 0).length = k := by rw [List.length_map, List.length_range]
        have tlen : ((List.range k).map fun j => gm (xs.getD j 0) (UInt8.ofNat x)).length = k := by rw [List.length_map, List.length_range]
        have sget : ∀ j, j < k → ((List.range k).map fun j => xs.getD j 0 ^^^ ys.getD j 0).getD j 0 = xs.getD j 0 ^^^ ys.getD j 0 := by
          intro j hj
          rw [List.getD_eq_getElem?_getD, List.getElem?_map, List.getElem?_range hj]; rfl
        have tget : ∀ j, j < k → ((List.range k).map fun j => gm (xs.getD j 0) (UInt8.ofNat x)).getD j 0 = gm (xs.getD j 0) (UInt8.ofNat x) := by
          intro j hj
          rw [List.getD_eq_getElem?_getD, List.getElem?_map, List.getElem?_range hj]; rfl
        have tk : ∀ (l : List UInt8) j, j < k → (l.take k).getD j 0 = l.getD j 0 := by
          intro l j hj
          rw [List.getD_eq_getElem?_getD, List.getD_eq_getElem?_getD, List.getElem?_take_of_lt hj]
        have xx : (UInt8.ofNat x).toNat = x := by rw [UInt8.toNat_ofNat']; exact Nat.mod_eq_of_lt (by omega)
        have R1 : RdB wr (some ⟨g1, 0, none⟩) ((List.range k).map fun j => xs.getD j 0 ^^^ ys.getD j 0) := RdB.ofBlk h1 (fun j hj => by rw [slen] at hj; rw [ha1 j hj, sget j hj, UInt8.toNat_xor])
        have R2 : RdB wr (some ⟨g2, 0, none⟩) ((List.range k).map fun j => gm (xs.getD j 0) (UInt8.ofNat x)) := RdB.ofBlk h2 (fun j hj => by rw [tlen] at hj; rw [ha2 j hj, tget j hj, gm_toNat, xx])
        have hbb : Below w.heap.size w wr := by
          have h := HBE.out
          rw [← HB.out] at h
          exact h.trans (hbel.mono h.size)
        have X0 := (RX.out.below hbb)
        have Y0 := (RY.out.below hbb)
        have Z0 := (RZ.out.below hbb)
        have kF : FieldAt wr b := (hbel.block b HBW.out).trans HF.out
        obtain ⟨ss, hss⟩ : ∃ ss, ((List.range k).map fun j => xs.getD j 0 ^^^ ys.getD j 0) = ss := ⟨_, rfl⟩
        obtain ⟨ts, hts⟩ : ∃ ts, ((List.range k).map fun j => gm (xs.getD j 0) (UInt8.ofNat x)) = ts := ⟨_, rfl⟩
        rw [hss] at R1 slen sget
        rw [hts] at R2 tlen tget
        have n2l := HZ.out
        have n0l := HX.out
        have d1 : dot ss zs = dot (xs.take k) zs ^^^ dot (ys.take k) zs := by
          simp only [dot, slen, xlen, ylen, n2l]
          rw [show min k n2 = k from by omega]
          exact dotTo_xor _ _ _ _ _ (fun j hj => by rw [sget j hj, tk xs j hj, tk ys j hj])
        have d2 : dot ts zs = gm (dot (xs.take k) zs) (UInt8.ofNat x) := by
          simp only [dot, tlen, xlen, n2l]
          rw [show min k n2 = k from by omega]
          exact dotTo_mul _ _ _ _ _ (fun j hj => by rw [tget j hj, tk xs j hj])
        have d3 : dot (xs.take k) zs = dot (zs.take k) xs := by
          simp only [dot, xlen, zlen, n2l, n0l]
          rw [show min k n2 = k from by omega, show min k n0 = k from by omega, dotTo_comm]
          exact dotTo_congr _ _ _ _ _ (fun j hj => (tk zs j hj).symm) (fun j hj => tk xs j hj)
        have C1 := fun q => dot_any b (some ⟨g1, 0, none⟩) A2 k n2 k c2 ss zs slen n2l (by unfold maxLen; omega) (by unfold maxLen; omega) (wr.drewN q) (kF.drewN q) (R1.drewN q) (Z0.drewN q)
        have C2 := fun q => dot_any b A0 A2 k n2 c0 c2 (xs.take k) zs xlen n2l (by unfold maxLen; omega) (by unfold maxLen; omega) (wr.drewN q) (kF.drewN q) ((X0.take k).drewN q) (Z0.drewN q)
        have C3 := fun q => dot_any b A1 A2 k n2 c1 c2 (ys.take k) zs ylen n2l (by unfold maxLen; omega) (by unfold maxLen; omega) (wr.drewN q) (kF.drewN q) ((Y0.take k).drewN q) (Z0.drewN q)
        have C4 := fun q => dot_any b (some ⟨g2, 0, none⟩) A2 k n2 k c2 ts zs tlen n2l (by unfold maxLen; omega) (by unfold maxLen; omega) (wr.drewN q) (kF.drewN q) (R2.drewN q) (Z0.drewN q)
        have C5 := fun q => dot_any b A2 A0 k n0 c2 c0 (zs.take k) xs zlen n0l (by unfold maxLen; omega) (by unfold maxLen; omega) (wr.drewN q) (kF.drewN q) ((Z0.take k).drewN q) (X0.drewN q)
        obtain ⟨p1, hp1⟩ : ∃ p, dot ss zs = p := ⟨_, rfl⟩
        obtain ⟨p2, hp2⟩ : ∃ p, dot (xs.take k) zs = p := ⟨_, rfl⟩
        obtain ⟨p3, hp3⟩ : ∃ p, dot (ys.take k) zs = p := ⟨_, rfl⟩
        obtain ⟨p4, hp4⟩ : ∃ p, dot ts zs = p := ⟨_, rfl⟩
        obtain ⟨p5, hp5⟩ : ∃ p, dot (zs.take k) xs = p := ⟨_, rfl⟩
        rw [hp1] at C1 d1
        rw [hp2] at C2 d1 d2 d3
        rw [hp3] at C3 d1
        rw [hp4] at C4 d2
        rw [hp5] at C5 d3
        have b1 : ((p1.toNat : Int) == ((p2.toNat ^^^ p3.toNat : Nat) : Int)) = true := by rw [d1, UInt8.toNat_xor]; exact beq_self_eq_true _
        have b2 : ((p4.toNat : Int) == ((gmulN p2.toNat x : Nat) : Int)) = true := by rw [d2, gm_toNat, xx]; exact beq_self_eq_true _
        have b3 : ((p2.toNat : Int) == (p5.toNat : Int)) = true := by rw [d3]; exact beq_self_eq_true _
        have hxor := u8_xorB p2 p3
        have D1 := Lib.hid C1
        have D2 := Lib.hid C2
        have D3 := Lib.hid C3
        have D4 := Lib.hid C4
        have D5 := Lib.hid C5
        have KF := Lib.hid kF
        have HBB := Lib.hid hbb
        have i0 : (0 : Int) ≤ (k : Int) := by omega
        have i1 : (k : Int) ≤ (c0 : Int) := by omega
        have i2 : (k : Int) ≤ (c1 : Int) := by omega
        have i3 : (k : Int) ≤ (c2 : Int) := by omega
        clear C1 C2 C3 C4 C5 kF hbb d1 d2 d3 hp1 hp2 hp3 hp4 hp5 n2l n0l hss hts X0 Y0 Z0 R1 R2 xx tk tget sget tlen slen zlen ylen xlen h1 h2 hs1 hs2 ha1 ha2 hbel
        go_wp2_with fail
        go_quiet ((first | (go_at_call_of 24 (Value.slice (some ⟨g1, 0, none⟩) k k); exact Calls.quiet_of (D1.out _)) | (go_at_call_of 24 (Value.slice A0 k c0); exact Calls.quiet_of (D2.out _)) | (go_at_call_of 24 (Value.slice A1 k c1); exact Calls.quiet_of (D3.out _)) | (go_at_call_of 24 (Value.slice (some ⟨g2, 0, none⟩) k k); exact Calls.quiet_of (D4.out _)) | (go_at_call_of 24 (Value.slice A2 k c2); exact Calls.quiet_of (D5.out _)) | (go_at_call 23; exact Calls.quiet_of (mul_any b _ _ p2.toNat x rfl rfl p2.toNat_lt lx _ (KF.out.drewN _)))))
        go_wp2
        go_ret
        exact ⟨rfl, below_drewN HBB.out _⟩
end Go.Proofs.Ytbpfojdlmkbngaa
