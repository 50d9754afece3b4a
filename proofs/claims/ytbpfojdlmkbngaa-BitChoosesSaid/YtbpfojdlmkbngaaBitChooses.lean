/- BitChooses, walked: for every n, k, stop the law returns true. -/
import Derived.Test.YtbpfojdlmkbngaaBitA
import Derived.Test.YtbpfojdlmkbngaaBitC64
import Derived.Test.YtbpfojdlmkbngaaBitQ
import Derived.OpenShut
import Derived.Sort.CutIn
import Derived.Test.YtbpfojdlmkbngaaQRound
namespace Go.Proofs.Ytbpfojdlmkbngaa
open Go.RowKit Go.Shelf
attribute [local go_sem] Oper.semAt_some

theorem lit_i64c {a : Int} (h : (Lit.int .i64 a).wf = true) : -9223372036854775808 ≤ a ∧ a ≤ 9223372036854775807 := bounds_i64 h
theorem size_setC (w : World) (p : Addr) (v : Value) : (w.setCell p v).heap.size = w.heap.size := by show (w.heap.modify _ _).size = _; rw [Array.size_modify]
def valid (n k : Int) : Bool := decide (0 ≤ n) && decide (n ≤ 10) && decide (0 ≤ k) && decide (k ≤ n)
theorem valid_iff (n k : Int) : valid n k = true ↔ 0 ≤ n ∧ n ≤ 10 ∧ 0 ≤ k ∧ k ≤ n := by simp [valid, and_assoc]
def words (n k : Int) : List Nat := if valid n k then choose n.toNat k.toNat else []
def words8 (n k : Int) : List Nat := if 0 ≤ k ∧ k ≤ n ∧ n ≤ 8 then choose n.toNat k.toNat else []
def want (n k : Int) : Nat := if valid n k then cntTo k.toNat (2 ^ n.toNat) else 0
theorem words_length (n k : Int) : (words n k).length = want n k := by
  unfold words want
  split
  · exact choose_length _ _
  · rfl
def want2 (n : Nat) (s : Int) : Int := if 1 ≤ s then min (n : Int) s else n
theorem pc_cnt (k m : Nat) : cntTo k m ≤ m := by
  induction m with
  | zero => exact Nat.le_refl 0
  | succ m ih => rw [cntTo]; split <;> omega
theorem want_le (n k : Int) : want n k ≤ 1024 := by
  unfold want
  split
  · rename_i h
    obtain ⟨h1, h2, h3, h4⟩ := (valid_iff n k).1 h
    have := pc_cnt k.toNat (2 ^ n.toNat)
    have : 2 ^ n.toNat ≤ 2 ^ 10 := Nat.pow_le_pow_right (by omega) (by omega)
    omega
  · omega
theorem words_get {n k : Int} {i p : Nat} (h : (words n k)[i]? = some p) : valid n k = true ∧ pc p = k.toNat ∧ p < 2 ^ n.toNat := by
  unfold words at h
  split at h
  · rename_i hv
    have := chTo_mem _ _ _ _ (List.mem_of_getElem? h)
    exact ⟨hv, this.2.2, by omega⟩
  · simp at h
theorem words_lt {n k : Int} {i j p q : Nat} (h : (words n k)[i]? = some p) (h' : (words n k)[j]? = some q) (hij : i < j) : p < q := by
  have hr : (words n k).Pairwise (· < ·) := by
    unfold words; split
    · exact chTo_rise _ _ _
    · exact List.Pairwise.nil
  obtain ⟨hi, rfl⟩ := List.getElem?_eq_some_iff.1 h
  obtain ⟨hj, rfl⟩ := List.getElem?_eq_some_iff.1 h'
  exact List.pairwise_iff_getElem.1 hr i j hi hj hij
theorem words_iter (m : Nat) (h1 : 1 ≤ m) (bn bk : Nat) (n k : Int) (hn : ¬ (10 < n ∧ n ≤ 16)) :
    Iter Fence.wide m Try.prog 29 #[.pointer (some ⟨bk, 0, none⟩), .pointer (some ⟨bn, 0, none⟩)]
      (fun p : Nat => #[.int .u64 (p : Int)]) (words n k) (fun _ => False) (fun c => c = bn ∨ c = bk)
      (fun W => W.cell? ⟨bn, 0, none⟩ = some (.int .i64 n) ∧ W.cell? ⟨bk, 0, none⟩ = some (.int .i64 k)) := by
  unfold words
  split
  · rename_i hv
    obtain ⟨g1, g2, g3, g4⟩ := (valid_iff n k).1 hv
    have h := choose64_iter m h1 bn bk n.toNat k.toNat (by omega) (by omega)
    rw [Int.toNat_of_nonneg g1, Int.toNat_of_nonneg g3] at h
    exact h
  · rename_i hv
    rw [valid_iff] at hv
    exact choose64_none m bn bk n k (by omega)
theorem words8_iter (m : Nat) (h1 : 1 ≤ m) (bn bk : Nat) (n k : Int) :
    Iter Fence.wide m Try.prog 31 #[.pointer (some ⟨bk, 0, none⟩), .pointer (some ⟨bn, 0, none⟩)]
      (fun p : Nat => #[.int .u8 (p : Int)]) (words8 n k) (fun _ => False) (fun c => c = bn ∨ c = bk)
      (fun W => W.cell? ⟨bn, 0, none⟩ = some (.int .i64 n) ∧ W.cell? ⟨bk, 0, none⟩ = some (.int .i64 k)) := by
  unfold words8
  split
  · rename_i hv
    obtain ⟨g1, g2, g3⟩ := hv
    have h := choose8_iter m h1 bn bk n.toNat k.toNat (by omega) (by omega)
    rw [Int.toNat_of_nonneg (by omega), Int.toNat_of_nonneg g1] at h
    exact h
  · rename_i hv
    exact choose8_none m bn bk n k (by omega)


set_option maxRecDepth 100000 in
set_option maxHeartbeats 4000000 in
theorem BitChooses_walk (a0 a1 a2 : Int) (w : World) (w0 : (Lit.int .i64 a0).wf = true) (w1 : (Lit.int .i64 a1).wf = true) (w2 : (Lit.int .i64 a2).wf = true) :
    Calls Try.prog 3 #[.int .i64 a0, .int .i64 a1, .int .i64 a2] w fun e w' => e = .returned (.bool true) ∧ Below w.heap.size w w' := by
  obtain ⟨u0, u1⟩ := lit_i64c w0
  obtain ⟨v0, v1⟩ := lit_i64c w1
  obtain ⟨x0, x1⟩ := lit_i64c w2
  clear w0 w1 w2
  by_cases hmid : 10 < a0 ∧ a0 ≤ 16
  · obtain ⟨m1, m2⟩ := hmid
    refine (callsIn_wide (n := 6)).1 ?_
    refine callsIn_of_wp_marks Try.func3 rfl trivial ?_ rfl
    simp only [Try.ntmps3, List.size_toArray, List.length_cons, List.length_nil, Nat.reduceAdd, Nat.reduceSub, Array.replicate_succ, Array.replicate_zero, List.push_toArray, List.append_toArray, List.nil_append, List.cons_append]
    gi_wp2_with fail
    refine ⟨trivial, ?_⟩
    refine (callsIn_wide.2 (anchor3_any _)).mono ?_
    rintro e wA ⟨rfl, hA⟩
    simp only [World.size_alloc] at hA
    obtain ⟨b0, hb0⟩ : ∃ b0, w.heap.size = b0 := ⟨_, rfl⟩
    have A0 : Blk wA b0 3 #[.int .i64 a0] := by rw [← hb0]; exact ((((Blk.new w _ _).alloc _).alloc _).alloc _).below hA (by omega)
    have A1 : Blk wA (b0 + 1) 3 #[.int .i64 a1] := by
      rw [← hb0]; have h := ((Blk.new (w.alloc (.cells #[.int .i64 a0] 3)) 3 #[.int .i64 a1]).alloc (.cells #[.int .i64 a2] 3)).alloc (.cells #[.bool false] 4)
      rw [World.size_alloc] at h; exact h.below hA (by omega)
    have A2 : Blk wA (b0 + 1 + 1) 3 #[.int .i64 a2] := by
      rw [← hb0]; have h := (Blk.new ((w.alloc (.cells #[.int .i64 a0] 3)).alloc (.cells #[.int .i64 a1] 3)) 3 #[.int .i64 a2]).alloc (.cells #[.bool false] 4)
      rw [World.size_alloc, World.size_alloc] at h; exact h.below hA (by omega)
    have A3 : Blk wA (b0 + 1 + 1 + 1) 4 #[.bool false] := by
      rw [← hb0]; have h := (Blk.new (((w.alloc (.cells #[.int .i64 a0] 3)).alloc (.cells #[.int .i64 a1] 3)).alloc (.cells #[.int .i64 a2] 3)) 4 #[.bool false])
      rw [World.size_alloc, World.size_alloc, World.size_alloc] at h; exact h.below hA (by omega)
    have AB : Below b0 w wA := by rw [← hb0]; exact (((((Below.refl _ w).alloc (Nat.le_refl _) _).alloc (by simp) _).alloc (by simp; omega) _).alloc (by simp; omega) _).trans (hA.mono (by omega))
    have AZ : b0 + 4 ≤ wA.heap.size := by have := hA.size; simp only [World.size_alloc] at this; omega
    have c0 := A0.cell 0
    have c1 := A1.cell 0
    have c2 := A2.cell 0
    have c3 := A3.cell 0
    have f3 := A3.frozen 0
    simp only [List.getElem?_toArray, List.getElem?_cons_zero] at c0 c1 c2 c3
    rw [hb0]
    have HB0 := Lib.hid hb0
    have HA0 := Lib.hid A0
    have HA1 := Lib.hid A1
    have HA2 := Lib.hid A2
    have HA3 := Lib.hid A3
    have HAB := Lib.hid AB
    clear hA hb0 A0 A1 A2 A3 AB
    gi_wp2
    refine ⟨_, by simp [results, Try.results3, go_sem, c3], rfl, ?_⟩
    have q := HAB.out
    rw [← HB0.out] at q
    exact q.setCell (p := ⟨b0 + 1 + 1 + 1, 0, none⟩) (by have := HB0.out; show w.heap.size ≤ b0 + 1 + 1 + 1; omega) _
  refine (callsIn_wide (n := 6)).1 ?_
  refine callsIn_of_wp_marks Try.func3 rfl trivial ?_ rfl
  simp only [Try.ntmps3, List.size_toArray, List.length_cons, List.length_nil, Nat.reduceAdd, Nat.reduceSub, Array.replicate_succ, Array.replicate_zero, List.push_toArray, List.append_toArray, List.nil_append, List.cons_append]
  gi_wp2_with fail
  refine ⟨trivial, ?_⟩
  refine (callsIn_wide.2 (anchor3_any _)).mono ?_
  rintro e wA ⟨rfl, hA⟩
  simp only [World.size_alloc] at hA
  obtain ⟨b0, hb0⟩ : ∃ b0, w.heap.size = b0 := ⟨_, rfl⟩
  have A0 : Blk wA b0 3 #[.int .i64 a0] := by rw [← hb0]; exact ((((Blk.new w _ _).alloc _).alloc _).alloc _).below hA (by omega)
  have A1 : Blk wA (b0 + 1) 3 #[.int .i64 a1] := by
    rw [← hb0]; have h := ((Blk.new (w.alloc (.cells #[.int .i64 a0] 3)) 3 #[.int .i64 a1]).alloc (.cells #[.int .i64 a2] 3)).alloc (.cells #[.bool false] 4)
    rw [World.size_alloc] at h; exact h.below hA (by omega)
  have A2 : Blk wA (b0 + 1 + 1) 3 #[.int .i64 a2] := by
    rw [← hb0]; have h := (Blk.new ((w.alloc (.cells #[.int .i64 a0] 3)).alloc (.cells #[.int .i64 a1] 3)) 3 #[.int .i64 a2]).alloc (.cells #[.bool false] 4)
    rw [World.size_alloc, World.size_alloc] at h; exact h.below hA (by omega)
  have A3 : Blk wA (b0 + 1 + 1 + 1) 4 #[.bool false] := by
    rw [← hb0]; have h := (Blk.new (((w.alloc (.cells #[.int .i64 a0] 3)).alloc (.cells #[.int .i64 a1] 3)).alloc (.cells #[.int .i64 a2] 3)) 4 #[.bool false])
    rw [World.size_alloc, World.size_alloc, World.size_alloc] at h; exact h.below hA (by omega)
  have AB : Below b0 w wA := by rw [← hb0]; exact (((((Below.refl _ w).alloc (Nat.le_refl _) _).alloc (by simp) _).alloc (by simp; omega) _).alloc (by simp; omega) _).trans (hA.mono (by omega))
  have AZ : b0 + 4 ≤ wA.heap.size := by have := hA.size; simp only [World.size_alloc] at this; omega
  have c0 := A0.cell 0
  have c1 := A1.cell 0
  have c2 := A2.cell 0
  have c3 := A3.cell 0
  have f3 := A3.frozen 0
  simp only [List.getElem?_toArray, List.getElem?_cons_zero] at c0 c1 c2 c3
  rw [hb0]
  have HB0 := Lib.hid hb0
  have HA0 := Lib.hid A0
  have HA1 := Lib.hid A1
  have HA2 := Lib.hid A2
  have HA3 := Lib.hid A3
  have HAB := Lib.hid AB
  clear hA hb0 A0 A1 A2 A3 AB
  have hg3 : (decide ((10 : Int) < a0) && decide (a0 ≤ 16)) = false := by
    rw [Bool.and_eq_false_iff]
    by_cases h : 10 < a0
    · exact .inr (by simp; omega)
    · exact .inl (by simpa using h)
  have HM := Lib.hid hmid
  clear hmid
  gi_upto_region 3 with fail
  gi_cut [19] from 14 (fun s wx => s = .bool false ∧ wA = wx)
  case first =>
    by_cases h : 10 < a0
    · have h16 : ¬ a0 ≤ 16 := by have := HM.out; omega
      gi_wp2
      gi_meet
      exact ⟨rfl, rfl⟩
    · gi_wp2
      gi_meet
      exact ⟨rfl, rfl⟩
  case rest =>
    obtain ⟨rfl, rfl⟩ := hcut
    gi_upto_region 6 with fail
    gi_cut [34] from 20 (fun s wx => s = .bool (valid a0 a1) ∧ wA = wx)
    case first =>
      by_cases p1 : 0 ≤ a0
      · by_cases p2 : a0 ≤ 10
        · by_cases p3 : 0 ≤ a1
          · by_cases p4 : a1 ≤ a0
            · have hv : valid a0 a1 = true := (valid_iff _ _).2 ⟨p1, p2, p3, p4⟩
              have HV := Lib.hid hv
              clear hv
              gi_wp2
              gi_meet
              exact ⟨congrArg Value.bool HV.out.symm, rfl⟩
            · have hv : valid a0 a1 = false := by rw [← Bool.not_eq_true, valid_iff]; omega
              have HV := Lib.hid hv
              clear hv
              gi_wp2
              gi_meet
              exact ⟨congrArg Value.bool HV.out.symm, rfl⟩
          · have hv : valid a0 a1 = false := by rw [← Bool.not_eq_true, valid_iff]; omega
            have HV := Lib.hid hv
            clear hv
            gi_wp2
            gi_meet
            exact ⟨congrArg Value.bool HV.out.symm, rfl⟩
        · have hv : valid a0 a1 = false := by rw [← Bool.not_eq_true, valid_iff]; omega
          have HV := Lib.hid hv
          clear hv
          gi_wp2
          gi_meet
          exact ⟨congrArg Value.bool HV.out.symm, rfl⟩
      · have hv : valid a0 a1 = false := by rw [← Bool.not_eq_true, valid_iff]; omega
        have HV := Lib.hid hv
        clear hv
        gi_wp2
        gi_meet
        exact ⟨congrArg Value.bool HV.out.symm, rfl⟩
    case rest =>
      obtain ⟨rfl, rfl⟩ := hcut
      gi_upto_if 34 with fail
      gi_cut [7, 34] from 35 (fun s _ wx => s = .int .i64 (want a0 a1 : Nat) ∧ ∃ q, wx = wA.drewN q)
      case first =>
        cases hv : valid a0 a1 with
        | false =>
          have hw : want a0 a1 = 0 := by unfold want; rw [if_neg (by rw [hv]; decide)]
          have HW := Lib.hid hw
          clear hw hv
          gi_wp2
          gi_meet
          exact ⟨by rw [HW.out]; rfl, 0, rfl⟩
        | true =>
          obtain ⟨p1, p2, p3, p4⟩ := (valid_iff _ _).1 hv
          have hw : want a0 a1 = cntTo a1.toNat (2 ^ a0.toNat) := by unfold want; rw [if_pos hv]
          obtain ⟨n, rfl⟩ := Int.eq_ofNat_of_zero_le p1
          obtain ⟨k, rfl⟩ := Int.eq_ofNat_of_zero_le p3
          simp only [Int.toNat_natCast] at hw
          have hTl : 2 ^ n ≤ 2 ^ 10 := Nat.pow_le_pow_right (n := 2) (j := 10) (by omega) (by omega)
          obtain ⟨T, hT⟩ : ∃ T, 2 ^ n = T := ⟨_, rfl⟩
          rw [hT] at hTl hw
          have HW := Lib.hid hw
          have hwr : IntKind.u64.wrap ((2 : Int) ^ n) = (T : Int) := by
            have : ((2 : Int) ^ n) = ((2 ^ n : Nat) : Int) := by simp
            rw [this, hT]
            exact IntWalk.u64_in _ (by omega)
          clear hw hv hT
          gi_wp2
          clear hwr
          gi_loopw [7, 38] (fun c i wr => ∃ x : Nat, x ≤ T ∧ i = .int .u64 x ∧ c = .int .i64 (cntTo k x : Nat) ∧ ∃ q, wr = wA.drewN q) (fun _ i _ => T - (intOf i).toNat)
          case atStart => exact ⟨0, Nat.zero_le _, rfl, rfl, 0, rfl⟩
          case round =>
            obtain ⟨x, hx, rfl, rfl, q, hq⟩ := hrel
            have r1 : wr.cell? ⟨b0 + 1, 0, none⟩ = some (.int .i64 (k : Int)) := by rw [hq]; exact c1
            have HQ := Lib.hid hq
            clear hq
            have hcl := pc_cnt k x
            obtain ⟨C, hC⟩ : ∃ C, cntTo k x = C := ⟨_, rfl⟩
            obtain ⟨P, hP⟩ : ∃ P, pc x = P := ⟨_, rfl⟩
            have hstep : cntTo k (x + 1) = C + if P = k then 1 else 0 := by rw [cntTo, hC, hP]
            have HST := Lib.hid hstep
            have HCX := Lib.hid hC
            rw [hC] at hcl ⊢
            have RW := fun h w => refWeight (x : Int) x rfl h w
            rw [hP] at RW
            have HRW := Lib.hid RW
            clear hC hP hstep RW
            by_cases hlt : x < T
            · by_cases hpk : P = k
              · have hb : ((P : Int) == (k : Int)) = true := by rw [hpk]; exact beq_self_eq_true _
                have HP := Lib.hid hpk
                clear hpk
                gi_wp2
                refine wpIn_wide.2 ?_
                go_quiet ((go_at_call 10; exact Calls.quiet_of_same ((HRW.out (by omega) _).mono fun _ _ h => ⟨h.1, h.2.symm⟩)))
                gi_wp2
                go_roundw
                case rel => exact ⟨x + 1, by omega, by go_num, by rw [HST.out, if_pos HP.out]; go_num, _, by rw [HQ.out, World.drewN_drewN]⟩
                case measure => simp [intOf]; omega
              · have hb : ((P : Int) == (k : Int)) = false := by rw [beq_eq_false_iff_ne]; omega
                have HP := Lib.hid hpk
                clear hpk
                gi_wp2
                refine wpIn_wide.2 ?_
                go_quiet ((go_at_call 10; exact Calls.quiet_of_same ((HRW.out (by omega) _).mono fun _ _ h => ⟨h.1, h.2.symm⟩)))
                gi_wp2
                go_roundw
                case rel => exact ⟨x + 1, by omega, by go_num, by rw [HST.out, if_neg HP.out]; rfl, _, by rw [HQ.out, World.drewN_drewN]⟩
                case measure => simp [intOf]; omega
            · obtain rfl : x = T := by omega
              gi_wp2
              gi_meet
              exact ⟨by rw [HW.out, HCX.out], _, HQ.out⟩
      case rest =>
        obtain ⟨rfl, q, rfl⟩ := hcut
        obtain ⟨N, hN⟩ : ∃ N, want a0 a1 = N := ⟨_, rfl⟩
        rw [hN]
        have HN := Lib.hid hN
        obtain ⟨W, hW⟩ : ∃ W, wA.drewN q = W := ⟨_, rfl⟩
        rw [hW]
        have W0 : Blk W b0 3 #[.int .i64 a0] := by rw [← hW]; exact HA0.out.drewN q
        have W1 : Blk W (b0 + 1) 3 #[.int .i64 a1] := by rw [← hW]; exact HA1.out.drewN q
        have W2 : Blk W (b0 + 1 + 1) 3 #[.int .i64 a2] := by rw [← hW]; exact HA2.out.drewN q
        have W3 : Blk W (b0 + 1 + 1 + 1) 4 #[.bool false] := by rw [← hW]; exact HA3.out.drewN q
        have WB : Below b0 w W := by rw [← hW]; exact below_drewN HAB.out q
        have WZ : b0 + 4 ≤ W.heap.size := by rw [← hW]; exact AZ
        clear hW hN c0 c1 c2 c3 f3 HA0 HA1 HA2 HA3 HAB AZ
        have c0 := W0.cell 0
        have c1 := W1.cell 0
        have c2 := W2.cell 0
        simp only [List.getElem?_toArray, List.getElem?_cons_zero] at c0 c1 c2
        have NW0 := Lib.hid W0
        have NW1 := Lib.hid W1
        have NW2 := Lib.hid W2
        have NW3 := Lib.hid W3
        have NWB := Lib.hid WB
        clear W0 W1 W2 W3 WB
        gi_upto_if 49 with fail
        gi_cut [7, 49] from 50 (fun s _ wy => s = .int .i64 (want2 N a2) ∧ W = wy)
        case first =>
          by_cases hs : 1 ≤ a2
          · have hw : want2 N a2 = min (N : Int) a2 := by unfold want2; rw [if_pos hs]
            have HW := Lib.hid hw
            clear hw
            gi_wp2
            all_goals
              gi_meet
              exact ⟨by rw [HW.out]; congr 1; omega, rfl⟩
          · have hw : want2 N a2 = N := by unfold want2; rw [if_neg hs]
            have HW := Lib.hid hw
            clear hw
            gi_wp2
            gi_meet
            exact ⟨by rw [HW.out], rfl⟩
        case rest =>
          obtain ⟨rfl, rfl⟩ := hcut
          obtain ⟨R, hR⟩ : ∃ R, want2 N a2 = R := ⟨_, rfl⟩
          rw [hR]
          have HR := Lib.hid hR
          clear hR
          have d0 : ∀ o o', ((W.alloc o).alloc o').cell? ⟨b0, 0, none⟩ = some (.int .i64 a0) := fun o o' => ((NW0.out.alloc o).alloc o').cell 0
          have d1 : ∀ o o', ((W.alloc o).alloc o').cell? ⟨b0 + 1, 0, none⟩ = some (.int .i64 a1) := fun o o' => ((NW1.out.alloc o).alloc o').cell 0
          gi_wp2_with fail
          clear d0 d1
          refine ⟨trivial, ?_⟩
          refine (callsIn_wide.2 (choose64_any _ _ _)).mono ?_
          rintro e w3 ⟨rfl, hw3⟩
          simp only [World.size_alloc] at hw3 ⊢
          obtain ⟨b4, hb4⟩ : ∃ b4, W.heap.size = b4 := ⟨_, rfl⟩
          have b04 : b0 + 4 ≤ b4 := by rw [← hb4]; exact WZ
          have V0 : Blk w3 b0 3 #[.int .i64 a0] := by rw [hw3]; exact (((NW0.out.alloc _).alloc _).alloc _).alloc _
          have V1 : Blk w3 (b0 + 1) 3 #[.int .i64 a1] := by rw [hw3]; exact (((NW1.out.alloc _).alloc _).alloc _).alloc _
          have V2 : Blk w3 (b0 + 1 + 1) 3 #[.int .i64 a2] := by rw [hw3]; exact (((NW2.out.alloc _).alloc _).alloc _).alloc _
          have V3 : Blk w3 (b0 + 1 + 1 + 1) 4 #[.bool false] := by rw [hw3]; exact (((NW3.out.alloc _).alloc _).alloc _).alloc _
          have V4 : Blk w3 b4 3 #[.int .i64 0] := by rw [hw3, ← hb4]; exact (((Blk.new W _ _).alloc _).alloc _).alloc _
          have V5 : Blk w3 (b4 + 1) 23 #[.int .u64 0] := by
            rw [hw3, ← hb4]; have h := ((Blk.new (W.alloc (.cells #[.int .i64 0] 3)) 23 #[.int .u64 0]).alloc (.cells #[.int .i64 a0] 3)).alloc (.cells #[.int .i64 a1] 3)
            rw [World.size_alloc] at h; exact h
          have V6 : Blk w3 (b4 + 1 + 1) 3 #[.int .i64 a0] := by
            rw [hw3, ← hb4]; have h := (Blk.new ((W.alloc (.cells #[.int .i64 0] 3)).alloc (.cells #[.int .u64 0] 23)) 3 #[.int .i64 a0]).alloc (.cells #[.int .i64 a1] 3)
            rw [World.size_alloc, World.size_alloc] at h; exact h
          have V7 : Blk w3 (b4 + 1 + 1 + 1) 3 #[.int .i64 a1] := by
            rw [hw3, ← hb4]; have h := (Blk.new (((W.alloc (.cells #[.int .i64 0] 3)).alloc (.cells #[.int .u64 0] 23)).alloc (.cells #[.int .i64 a0] 3)) 3 #[.int .i64 a1])
            rw [World.size_alloc, World.size_alloc, World.size_alloc] at h; exact h
          have VB : Below b0 w w3 := by
            rw [hw3]; exact (((NWB.out.alloc (by omega) _).alloc (by simp; omega) _).alloc (by simp; omega) _).alloc (by simp; omega) _
          have VZ : w3.heap.size = b4 + 4 := by rw [hw3, ← hb4]; simp only [World.size_alloc]
          rw [hb4]
          clear hw3 NW0 NW1 NW2 NW3 NWB c0 c1 c2 hb4 WZ
          gi_wp2
          refine iter_law (n := 6) rfl (by omega) (gf := 29) (lb := #[.pointer (some ⟨b4 + 1 + 1 + 1, 0, none⟩), .pointer (some ⟨b4 + 1 + 1, 0, none⟩)]) rfl trivial (enters_of Try.func29 (by kernel_rfl) rfl)
            (words_iter (6 - 1) (by omega) (b4 + 1 + 1) (b4 + 1 + 1 + 1) a0 a1 HM.out) ?hSt (fun _ h => h.elim) ?hKl (fun _ => rfl)
            (fun i U => ∃ p : Nat, Blk U b4 3 #[.int .i64 (i : Int)] ∧ Blk U (b4 + 1) 23 #[.int .u64 (p : Int)] ∧ Blk U b0 3 #[.int .i64 a0] ∧ Blk U (b0 + 1) 3 #[.int .i64 a1] ∧ Blk U (b0 + 1 + 1) 3 #[.int .i64 a2] ∧ Blk U (b0 + 1 + 1 + 1) 4 #[.bool false] ∧ Below b0 w U ∧ (a2 ≤ 0 ∨ (i : Int) < a2) ∧ (0 < i → (words a0 a1)[i - 1]? = some p))
            (fun c i U => c = .exit 2 ∧ Blk U b4 3 #[.int .i64 (i : Int)] ∧ Blk U b0 3 #[.int .i64 a0] ∧ Blk U (b0 + 1) 3 #[.int .i64 a1] ∧ Blk U (b0 + 1 + 1 + 1) 4 #[.bool false] ∧ Below b0 w U ∧ (i : Int) = a2)
            ?hI ?hIx ?h0 ?act1 ?assign ?body ?done ?stop
          case hSt =>
            intro U hU
            have hs : ∀ b, b < b4 + 4 → U.heap[b]? = w3.heap[b]? := fun b h => hU b (by omega)
            have s6 : U.heap[b4 + 1 + 1]? = w3.heap[b4 + 1 + 1]? := hs _ (by omega)
            have s7 : U.heap[b4 + 1 + 1 + 1]? = w3.heap[b4 + 1 + 1 + 1]? := hs _ (by omega)
            exact ⟨by rw [World.cell?_of_block s6]; exact V6.cell 0, by rw [World.cell?_of_block s7]; exact V7.cell 0⟩
          case hKl => rintro c (rfl | rfl) <;> omega
          case hI =>
            rintro i A B ⟨p, h1, h2, h3, h4, h5, h6, h7, h8, h9⟩ t
            have k := fun {b : Nat} {cs : Array Value} {ty : TypeId} (h : Blk A b ty cs) => (t.heap (other_cells h (fun e => e)) h : Blk B b ty cs)
            exact ⟨p, k h1, k h2, k h3, k h4, k h5, k h6, h7.trans (t.below (by have := HB0.out; have := h7.size; omega) (fun b hb => by rcases hb with hb | hb; exact hb.elim; omega)), h8, h9⟩
          case hIx =>
            rintro c i A B ⟨hc, h1, h3, h4, h6, h7, h8⟩ t
            have k := fun {b : Nat} {cs : Array Value} {ty : TypeId} (h : Blk A b ty cs) => (t.heap (other_cells h (fun e => e)) h : Blk B b ty cs)
            exact ⟨hc, k h1, k h3, k h4, k h6, h7.trans (t.below (by have := HB0.out; have := h7.size; omega) (fun b hb => by rcases hb with hb | hb; exact hb.elim; omega)), h8⟩
          case h0 =>
            exact ⟨0, V4, V5, V0, V1, V2, V3, VB, by omega, fun h => absurd h (by omega)⟩
          case assign =>
            intro l x W K hK
            gi_wp2
            exact hK
          case body =>
            rintro l i y U hy ⟨p, h1, h2, h3, h4, h5, h6, h7, h8, h9⟩
            obtain ⟨gv, gp, gl⟩ := words_get hy
            have hil := (List.getElem?_eq_some_iff.1 hy).1
            rw [words_length] at hil
            have hik : i < 1024 := Nat.lt_of_lt_of_le hil (want_le a0 a1)
            clear hil
            obtain ⟨q1, q2, q3, q4⟩ := (valid_iff _ _).1 gv
            obtain ⟨n, rfl⟩ := Int.eq_ofNat_of_zero_le q1
            obtain ⟨k, rfl⟩ := Int.eq_ofNat_of_zero_le q3
            simp only [Int.toNat_natCast] at gp gl
            have hTl : 2 ^ n ≤ 2 ^ 10 := Nat.pow_le_pow_right (n := 2) (j := 10) (by omega) (by omega)
            have hpr : 0 < i → p < y := fun h => words_lt (h9 h) hy (by omega)
            obtain ⟨T, hT⟩ : ∃ T, 2 ^ n = T := ⟨_, rfl⟩
            rw [hT] at hTl gl
            have hwr : IntKind.u64.wrap ((2 : Int) ^ n) = (T : Int) := by
              have : ((2 : Int) ^ n) = ((2 ^ n : Nat) : Int) := by simp
              rw [this, hT]
              exact IntWalk.u64_in _ (by omega)
            have RW := fun w => refWeight (y : Int) y rfl (by omega) w
            rw [gp] at RW
            have e1 := h1.cell 0
            have e2 := h2.cell 0
            have e3 := h3.cell 0
            have e4 := h4.cell 0
            simp only [List.getElem?_toArray, List.getElem?_cons_zero] at e1 e2 e3 e4
            have HRW := Lib.hid RW
            have HY := Lib.hid hy
            have I1 := Lib.hid h1
            have I2 := Lib.hid h2
            have I3 := Lib.hid h3
            have I4 := Lib.hid h4
            have I5 := Lib.hid h5
            have I6 := Lib.hid h6
            have I7 := Lib.hid h7
            have I9 := Lib.hid h9
            clear RW hy h1 h2 h3 h4 h5 h6 h7 h9 gv gp hT
            by_cases hi : i = 0
            · subst hi
              clear hpr
              gi_wp2
              have FW : Fence.wide.fn 10 := trivial
              refine wpIn_region_quietR (by kernel_rfl) rfl (by kernel_rfl) ?_
              repeat (gi_big_quiet_step ((gi_at_call 10; exact CallsIn.quiet_of_same (CallsIn.inRound l (callsIn_wide.2 ((HRW.out _).mono fun _ _ h => ⟨h.1, h.2.symm⟩))))))
              refine wpQuietIn_nil ?_
              intro _ hw'
              obtain ⟨nq, hw''⟩ := hw'
              subst hw''
              clear FW
              obtain ⟨X, hX⟩ : ∃ X, U.drewN nq = X := ⟨_, rfl⟩
              rw [hX]
              have x1 := I1.out.drewN nq
              have x2 := I2.out.drewN nq
              have x3 := I3.out.drewN nq
              have x4 := I4.out.drewN nq
              have x5 := I5.out.drewN nq
              have x6 := I6.out.drewN nq
              rw [hX] at x1 x2 x3 x4 x5 x6
              have x7 : Below b0 w X := by rw [← hX]; exact below_drewN I7.out nq
              have kf : KeepsFrom w3.heap.size U X := by rw [← hX]; exact ⟨Nat.le_refl _, fun _ _ _ h _ => h⟩
              have kk : Keep (fun c => c = b4 + 1 + 1 ∨ c = b4 + 1 + 1 + 1) U X := by rw [← hX]; exact ⟨Nat.le_refl _, fun _ _ => rfl⟩
              have e1 := x1.cell 0
              have f1 := x1.frozen 0
              have f2 := x2.frozen 0
              have e2 := x2.cell 0
              have e5 := x5.cell 0
              simp only [List.getElem?_toArray, List.getElem?_cons_zero] at e1 e2 e5
              have g1 : ∀ v, (X.setCell ⟨b4 + 1, 0, none⟩ v).cell? ⟨b4, 0, none⟩ = X.cell? ⟨b4, 0, none⟩ := fun v => World.cell?_setCell_other _ _ _ _ (by intro h; injection h with h; omega)
              have g5 : ∀ v u, ((X.setCell ⟨b4 + 1, 0, none⟩ v).setCell ⟨b4, 0, none⟩ u).cell? ⟨b0 + 1 + 1, 0, none⟩ = some (.int .i64 a2) := fun v u => by rw [World.cell?_setCell_other _ _ _ _ (by intro h; injection h with h; omega), World.cell?_setCell_other _ _ _ _ (by intro h; injection h with h; omega)]; exact e5
              have X1 := Lib.hid x1
              have X2 := Lib.hid x2
              have X3 := Lib.hid x3
              have X4 := Lib.hid x4
              have X5 := Lib.hid x5
              have X6 := Lib.hid x6
              have X7 := Lib.hid x7
              have KF := Lib.hid kf
              have KK := Lib.hid kk
              have hTy : decide (T ≤ y) = false := by simp; omega
              rw [hTy]
              clear x1 x2 x3 x4 x5 x6 x7 kf kk hX I1 I2 I3 I4 I5 I6 I7 I9
              by_cases hst : (1 : Int) = a2
              · have hb : (((1 : Int)) == a2) = true := by rw [hst]; exact beq_self_eq_true _
                have HST := Lib.hid hst
                clear hst
                gi_wp2
                exact ⟨KF.out.trans (((KeepsOthers.setCell _ _ _).from _).trans ((KeepsOthers.setCell _ _ _).from _)), rfl, (X1.out.far (p := ⟨b4 + 1, 0, none⟩) (by show b4 ≠ b4 + 1; omega) _).set_ 0 _, (X3.out.far (p := ⟨b4 + 1, 0, none⟩) (by show b0 ≠ b4 + 1; omega) _).far (p := ⟨b4, 0, none⟩) (by show b0 ≠ b4; omega) _, (X4.out.far (p := ⟨b4 + 1, 0, none⟩) (by show b0 + 1 ≠ b4 + 1; omega) _).far (p := ⟨b4, 0, none⟩) (by show b0 + 1 ≠ b4; omega) _, (X6.out.far (p := ⟨b4 + 1, 0, none⟩) (by show b0 + 1 + 1 + 1 ≠ b4 + 1; omega) _).far (p := ⟨b4, 0, none⟩) (by show b0 + 1 + 1 + 1 ≠ b4; omega) _, (X7.out.setCell (p := ⟨b4 + 1, 0, none⟩) (by show b0 ≤ b4 + 1; omega) _).setCell (p := ⟨b4, 0, none⟩) (by show b0 ≤ b4; omega) _, by have := HST.out; omega⟩
              · have hb : (((1 : Int)) == a2) = false := beq_eq_false_iff_ne.2 hst
                have HST := Lib.hid hst
                clear hst
                gi_wp2
                exact ⟨KF.out.trans (((KeepsOthers.setCell _ _ _).from _).trans ((KeepsOthers.setCell _ _ _).from _)), ⟨by rw [size_setC, size_setC]; exact KK.out.size, fun b hb => ((Below.heap_setCell _ ⟨b4, 0, none⟩ _ b (by show b ≠ b4; omega)).trans (Below.heap_setCell X ⟨b4 + 1, 0, none⟩ _ b (by show b ≠ b4 + 1; omega))).trans (KK.out.same b hb)⟩, y, (X1.out.far (p := ⟨b4 + 1, 0, none⟩) (by show b4 ≠ b4 + 1; omega) _).set_ 0 _, (X2.out.set_ 0 _).far (p := ⟨b4, 0, none⟩) (by show b4 + 1 ≠ b4; omega) _, (X3.out.far (p := ⟨b4 + 1, 0, none⟩) (by show b0 ≠ b4 + 1; omega) _).far (p := ⟨b4, 0, none⟩) (by show b0 ≠ b4; omega) _, (X4.out.far (p := ⟨b4 + 1, 0, none⟩) (by show b0 + 1 ≠ b4 + 1; omega) _).far (p := ⟨b4, 0, none⟩) (by show b0 + 1 ≠ b4; omega) _, (X5.out.far (p := ⟨b4 + 1, 0, none⟩) (by show b0 + 1 + 1 ≠ b4 + 1; omega) _).far (p := ⟨b4, 0, none⟩) (by show b0 + 1 + 1 ≠ b4; omega) _, (X6.out.far (p := ⟨b4 + 1, 0, none⟩) (by show b0 + 1 + 1 + 1 ≠ b4 + 1; omega) _).far (p := ⟨b4, 0, none⟩) (by show b0 + 1 + 1 + 1 ≠ b4; omega) _, (X7.out.setCell (p := ⟨b4 + 1, 0, none⟩) (by show b0 ≤ b4 + 1; omega) _).setCell (p := ⟨b4, 0, none⟩) (by show b0 ≤ b4; omega) _, by have := HST.out; omega, fun _ => HY.out⟩
            · have hip : 0 < i := Nat.pos_of_ne_zero hi
              have hyp : p < y := hpr hip
              have hb0 : decide ((0 : Int) < (i : Int)) = true := by simp; omega
              have hb1 : decide (y ≤ p) = false := by simp; omega
              clear hpr hi
              gi_wp2
              have FW : Fence.wide.fn 10 := trivial
              refine wpIn_region_quietR (by kernel_rfl) rfl (by kernel_rfl) ?_
              repeat (gi_big_quiet_step ((gi_at_call 10; exact CallsIn.quiet_of_same (CallsIn.inRound l (callsIn_wide.2 ((HRW.out _).mono fun _ _ h => ⟨h.1, h.2.symm⟩))))))
              refine wpQuietIn_nil ?_
              intro _ hw'
              obtain ⟨nq, hw''⟩ := hw'
              subst hw''
              clear FW
              obtain ⟨X, hX⟩ : ∃ X, U.drewN nq = X := ⟨_, rfl⟩
              rw [hX]
              have x1 := I1.out.drewN nq
              have x2 := I2.out.drewN nq
              have x3 := I3.out.drewN nq
              have x4 := I4.out.drewN nq
              have x5 := I5.out.drewN nq
              have x6 := I6.out.drewN nq
              rw [hX] at x1 x2 x3 x4 x5 x6
              have x7 : Below b0 w X := by rw [← hX]; exact below_drewN I7.out nq
              have kf : KeepsFrom w3.heap.size U X := by rw [← hX]; exact ⟨Nat.le_refl _, fun _ _ _ h _ => h⟩
              have kk : Keep (fun c => c = b4 + 1 + 1 ∨ c = b4 + 1 + 1 + 1) U X := by rw [← hX]; exact ⟨Nat.le_refl _, fun _ _ => rfl⟩
              have e1 := x1.cell 0
              have f1 := x1.frozen 0
              have f2 := x2.frozen 0
              have e2 := x2.cell 0
              have e5 := x5.cell 0
              simp only [List.getElem?_toArray, List.getElem?_cons_zero] at e1 e2 e5
              have g1 : ∀ v, (X.setCell ⟨b4 + 1, 0, none⟩ v).cell? ⟨b4, 0, none⟩ = X.cell? ⟨b4, 0, none⟩ := fun v => World.cell?_setCell_other _ _ _ _ (by intro h; injection h with h; omega)
              have g5 : ∀ v u, ((X.setCell ⟨b4 + 1, 0, none⟩ v).setCell ⟨b4, 0, none⟩ u).cell? ⟨b0 + 1 + 1, 0, none⟩ = some (.int .i64 a2) := fun v u => by rw [World.cell?_setCell_other _ _ _ _ (by intro h; injection h with h; omega), World.cell?_setCell_other _ _ _ _ (by intro h; injection h with h; omega)]; exact e5
              have X1 := Lib.hid x1
              have X2 := Lib.hid x2
              have X3 := Lib.hid x3
              have X4 := Lib.hid x4
              have X5 := Lib.hid x5
              have X6 := Lib.hid x6
              have X7 := Lib.hid x7
              have KF := Lib.hid kf
              have KK := Lib.hid kk
              have hTy : decide (T ≤ y) = false := by simp; omega
              rw [hTy]
              clear x1 x2 x3 x4 x5 x6 x7 kf kk hX I1 I2 I3 I4 I5 I6 I7 I9
              by_cases hst : (i : Int) + 1 = a2
              · have hb : (((i : Int) + 1) == a2) = true := by rw [hst]; exact beq_self_eq_true _
                have HST := Lib.hid hst
                clear hst
                gi_wp2
                exact ⟨KF.out.trans (((KeepsOthers.setCell _ _ _).from _).trans ((KeepsOthers.setCell _ _ _).from _)), rfl, (X1.out.far (p := ⟨b4 + 1, 0, none⟩) (by show b4 ≠ b4 + 1; omega) _).set_ 0 _, (X3.out.far (p := ⟨b4 + 1, 0, none⟩) (by show b0 ≠ b4 + 1; omega) _).far (p := ⟨b4, 0, none⟩) (by show b0 ≠ b4; omega) _, (X4.out.far (p := ⟨b4 + 1, 0, none⟩) (by show b0 + 1 ≠ b4 + 1; omega) _).far (p := ⟨b4, 0, none⟩) (by show b0 + 1 ≠ b4; omega) _, (X6.out.far (p := ⟨b4 + 1, 0, none⟩) (by show b0 + 1 + 1 + 1 ≠ b4 + 1; omega) _).far (p := ⟨b4, 0, none⟩) (by show b0 + 1 + 1 + 1 ≠ b4; omega) _, (X7.out.setCell (p := ⟨b4 + 1, 0, none⟩) (by show b0 ≤ b4 + 1; omega) _).setCell (p := ⟨b4, 0, none⟩) (by show b0 ≤ b4; omega) _, by have := HST.out; omega⟩
              · have hb : (((i : Int) + 1) == a2) = false := beq_eq_false_iff_ne.2 hst
                have HST := Lib.hid hst
                clear hst
                gi_wp2
                exact ⟨KF.out.trans (((KeepsOthers.setCell _ _ _).from _).trans ((KeepsOthers.setCell _ _ _).from _)), ⟨by rw [size_setC, size_setC]; exact KK.out.size, fun b hb => ((Below.heap_setCell _ ⟨b4, 0, none⟩ _ b (by show b ≠ b4; omega)).trans (Below.heap_setCell X ⟨b4 + 1, 0, none⟩ _ b (by show b ≠ b4 + 1; omega))).trans (KK.out.same b hb)⟩, y, (X1.out.far (p := ⟨b4 + 1, 0, none⟩) (by show b4 ≠ b4 + 1; omega) _).set_ 0 _, (X2.out.set_ 0 _).far (p := ⟨b4, 0, none⟩) (by show b4 + 1 ≠ b4; omega) _, (X3.out.far (p := ⟨b4 + 1, 0, none⟩) (by show b0 ≠ b4 + 1; omega) _).far (p := ⟨b4, 0, none⟩) (by show b0 ≠ b4; omega) _, (X4.out.far (p := ⟨b4 + 1, 0, none⟩) (by show b0 + 1 ≠ b4 + 1; omega) _).far (p := ⟨b4, 0, none⟩) (by show b0 + 1 ≠ b4; omega) _, (X5.out.far (p := ⟨b4 + 1, 0, none⟩) (by show b0 + 1 + 1 ≠ b4 + 1; omega) _).far (p := ⟨b4, 0, none⟩) (by show b0 + 1 + 1 ≠ b4; omega) _, (X6.out.far (p := ⟨b4 + 1, 0, none⟩) (by show b0 + 1 + 1 + 1 ≠ b4 + 1; omega) _).far (p := ⟨b4, 0, none⟩) (by show b0 + 1 + 1 + 1 ≠ b4; omega) _, (X7.out.setCell (p := ⟨b4 + 1, 0, none⟩) (by show b0 ≤ b4 + 1; omega) _).setCell (p := ⟨b4, 0, none⟩) (by show b0 ≤ b4; omega) _, by have := HST.out; omega, fun _ => HY.out⟩
          case done =>
            rintro D U hD ⟨p, h1, h2, h3, h4, h5, h6, h7, h8, h9⟩ hK
            have hS : (((words a0 a1).length : Nat) : Int) = R := by
              rw [← HR.out, words_length, HN.out]
              have hln := words_length a0 a1
              rw [HN.out] at hln
              rw [hln] at h8
              unfold want2
              split <;> omega
            rw [hS] at h1
            clear h2 h5 h8 h9 hS
            have e3 := h3.cell 0
            have e4 := h4.cell 0
            have hDl : D < U.heap.size := (Array.getElem?_eq_some_iff.1 hK).1
            simp only [List.getElem?_toArray, List.getElem?_cons_zero] at e3 e4
            have I1 := Lib.hid h1
            have I3 := Lib.hid h3
            have I4 := Lib.hid h4
            have I6 := Lib.hid h6
            have I7 := Lib.hid h7
            have HK := Lib.hid hK
            clear h1 h3 h4 h6 h7 hK
            gi_wp2_with fail
            refine ⟨trivial, ?_⟩
            refine (callsIn_wide.2 (choose8_any _ _ _)).mono ?_
            rintro e w4 ⟨rfl, hw4⟩
            obtain ⟨b5, hb5⟩ : ∃ b5, U.heap.size = b5 := ⟨_, rfl⟩
            have S1 : Blk w4 b4 3 #[.int .i64 R] := by rw [hw4]; exact (I1.out.alloc _).alloc _
            have S3 : Blk w4 b0 3 #[.int .i64 a0] := by rw [hw4]; exact (I3.out.alloc _).alloc _
            have S4 : Blk w4 (b0 + 1 + 1 + 1) 4 #[.bool false] := by rw [hw4]; exact (I6.out.alloc _).alloc _
            have S7 : Blk w4 b5 3 #[.int .i64 a0] := by rw [hw4, ← hb5]; exact (Blk.new U _ _).alloc _
            have S8 : Blk w4 (b5 + 1) 3 #[.int .i64 a1] := by
              rw [hw4, ← hb5]; have h := Blk.new (U.alloc (.cells #[.int .i64 a0] 3)) 3 #[.int .i64 a1]
              rw [World.size_alloc] at h; exact h
            have S5 : w4.heap[D]? = some (.deferred (some [])) := by
              rw [hw4]; exact ((Below.heap_alloc _ _ _ (by rw [World.size_alloc]; omega)).trans (Below.heap_alloc _ _ _ hDl)).trans HK.out
            have S6 : Below b0 w w4 := by
              rw [hw4]; have := I7.out.size; have := HB0.out; exact (I7.out.alloc (by omega) _).alloc (by rw [World.size_alloc]; omega) _
            have SZ : w4.heap.size = b5 + 2 := by rw [hw4, ← hb5]; simp only [World.size_alloc]
            have hb05 : b0 ≤ b5 := by rw [← hb5]; have := I7.out.size; have := HB0.out; omega
            rw [hb5]
            rw [hb5] at hDl
            clear hw4 I1 I3 I4 I6 I7 HK e3 e4 hb5
            gi_wp2
            refine iter_law (n := 6) rfl (by omega) (gf := 31) (lb := #[.pointer (some ⟨b5 + 1, 0, none⟩), .pointer (some ⟨b5, 0, none⟩)]) rfl trivial (enters_of Try.func31 (by kernel_rfl) rfl)
              (words8_iter (6 - 1) (by omega) b5 (b5 + 1) a0 a1) ?hSt2a (fun _ h => h.elim) ?hKl2a (fun _ => rfl)
              (fun _ V => Blk V b4 3 #[.int .i64 R] ∧ Blk V b0 3 #[.int .i64 a0] ∧ Blk V (b0 + 1 + 1 + 1) 4 #[.bool false] ∧ V.heap[D]? = some (.deferred (some [])) ∧ Below b0 w V)
              (fun c _ V => c = .exit 4 ∧ Blk V b4 3 #[.int .i64 R] ∧ Blk V b0 3 #[.int .i64 a0] ∧ Blk V (b0 + 1 + 1 + 1) 4 #[.bool false] ∧ V.heap[D]? = some (.deferred (some [])) ∧ Below b0 w V)
              ?hI2a ?hIx2a ?h02a ?act2a ?assign2a ?body2a ?done2a ?stop2a
            case hSt2a =>
              intro V hV
              have q6 : V.heap[b5]? = w4.heap[b5]? := hV _ (by omega)
              have q7 : V.heap[b5 + 1]? = w4.heap[b5 + 1]? := hV _ (by omega)
              exact ⟨by rw [World.cell?_of_block q6]; exact S7.cell 0, by rw [World.cell?_of_block q7]; exact S8.cell 0⟩
            case hKl2a => rintro c (rfl | rfl) <;> omega
            case hI2a =>
              rintro i A B ⟨h1, h3, h4, h5, h6⟩ t
              have k := fun {b : Nat} {cs : Array Value} {ty : TypeId} (h : Blk A b ty cs) => (t.heap (other_cells h (fun e => e)) h : Blk B b ty cs)
              exact ⟨k h1, k h3, k h4, t.heap (other_low (by omega) (fun e => e)) h5, h6.trans (t.below (by have := HB0.out; have := h6.size; omega) (fun b hb => by rcases hb with hb | hb; exact hb.elim; omega))⟩
            case hIx2a =>
              rintro c i A B ⟨hc, h1, h3, h4, h5, h6⟩ t
              have k := fun {b : Nat} {cs : Array Value} {ty : TypeId} (h : Blk A b ty cs) => (t.heap (other_cells h (fun e => e)) h : Blk B b ty cs)
              exact ⟨hc, k h1, k h3, k h4, t.heap (other_low (by omega) (fun e => e)) h5, h6.trans (t.below (by have := HB0.out; have := h6.size; omega) (fun b hb => by rcases hb with hb | hb; exact hb.elim; omega))⟩
            case h02a => exact ⟨S1, S3, S4, S5, S6⟩
            case assign2a =>
              intro l x W K hK
              gi_wp2
              exact hK
            case body2a =>
              rintro l i y V hy ⟨s1, s3, s4, s5, s6⟩
              have hle : a0 ≤ 8 := by
                unfold words8 at hy
                split at hy
                · rename_i h; exact h.2.2
                · simp at hy
              have t3 := s3.cell 0
              simp only [List.getElem?_toArray, List.getElem?_cons_zero] at t3
              have hb8 : decide ((8 : Int) < a0) = false := by simp; omega
              gi_wp2
              exact ⟨KeepsFrom.refl _ _, rfl, s1, s3, s4, s5, s6⟩
            case done2a =>
              rintro D2 V hD2 ⟨s1, s3, s4, s5, s6⟩ hK2
              have t1 := s1.cell 0
              have t4 := s4.cell 0
              have f4 := s4.frozen 0
              simp only [List.getElem?_toArray, List.getElem?_cons_zero] at t1 t4
              have S5 := Lib.hid s5
              have S6 := Lib.hid s6
              have SK := Lib.hid hK2
              clear s1 s3 s4 s5 s6 hK2
              gi_wp2
              have hKD2 := (KeepsOthers.setCell V ⟨b0 + 1 + 1 + 1, 0, none⟩ (.bool true)).same D2 _ SK.out rfl
              have hKD : ((V.setCell ⟨b0 + 1 + 1 + 1, 0, none⟩ (.bool true)).putObj D2 (.deferred none)).heap[D]? = some (.deferred (some [])) :=
                (World.putObj_heap_other (by omega)).trans ((KeepsOthers.setCell V ⟨b0 + 1 + 1 + 1, 0, none⟩ (.bool true)).same D _ S5.out rfl)
              refine ⟨by simp, .inl ⟨_, _, rfl, run_takeDeferred hKD2, ⟨by simp, .inl ⟨_, _, rfl, run_takeDeferred hKD, ?_⟩⟩⟩⟩
              have hcell := cell_kept (cell_kept (World.cell?_setCell_same' V ⟨b0 + 1 + 1 + 1, 0, none⟩ (.bool true) (by rw [t4]; rfl)) (grownBy_putObj' _ D2 (.deferred none)) (fun r e => by cases e; exact ⟨_, hKD2, rfl⟩)) (grownBy_putObj' _ D (.deferred none)) (fun r e => by cases e; exact ⟨_, hKD, rfl⟩)
              refine ⟨_, by simp [results, Try.results3, go_sem, hcell], rfl, ?_⟩
              have q := S6.out
              rw [← HB0.out] at q
              exact ((q.setCell (p := ⟨b0 + 1 + 1 + 1, 0, none⟩) (by have := HB0.out; show w.heap.size ≤ b0 + 1 + 1 + 1; omega) _).trans (belowK_b (w := w) (Nat.le_refl _) _ D2 _ _ (by have := HB0.out; omega) hKD2 rfl rfl)).trans (belowK_b (w := w) (Nat.le_refl _) _ D _ _ (by have := HB0.out; omega) hKD rfl rfl)
            case stop2a =>
              rintro D2 c i V hD2 hi2 ⟨rfl, s1, s3, s4, s5, s6⟩ hK2
              have t1 := s1.cell 0
              have t4 := s4.cell 0
              have f4 := s4.frozen 0
              simp only [List.getElem?_toArray, List.getElem?_cons_zero] at t1 t4
              have S5 := Lib.hid s5
              have S6 := Lib.hid s6
              have SK := Lib.hid hK2
              clear s1 s3 s4 s5 s6 hK2
              gi_wp2
              have hKD2 := (KeepsOthers.setCell V ⟨b0 + 1 + 1 + 1, 0, none⟩ (.bool true)).same D2 _ SK.out rfl
              have hKD : ((V.setCell ⟨b0 + 1 + 1 + 1, 0, none⟩ (.bool true)).putObj D2 (.deferred none)).heap[D]? = some (.deferred (some [])) :=
                (World.putObj_heap_other (by omega)).trans ((KeepsOthers.setCell V ⟨b0 + 1 + 1 + 1, 0, none⟩ (.bool true)).same D _ S5.out rfl)
              refine ⟨by simp, .inl ⟨_, _, rfl, run_takeDeferred hKD2, ⟨by simp, .inl ⟨_, _, rfl, run_takeDeferred hKD, ?_⟩⟩⟩⟩
              have hcell := cell_kept (cell_kept (World.cell?_setCell_same' V ⟨b0 + 1 + 1 + 1, 0, none⟩ (.bool true) (by rw [t4]; rfl)) (grownBy_putObj' _ D2 (.deferred none)) (fun r e => by cases e; exact ⟨_, hKD2, rfl⟩)) (grownBy_putObj' _ D (.deferred none)) (fun r e => by cases e; exact ⟨_, hKD, rfl⟩)
              refine ⟨_, by simp [results, Try.results3, go_sem, hcell], rfl, ?_⟩
              have q := S6.out
              rw [← HB0.out] at q
              exact ((q.setCell (p := ⟨b0 + 1 + 1 + 1, 0, none⟩) (by have := HB0.out; show w.heap.size ≤ b0 + 1 + 1 + 1; omega) _).trans (belowK_b (w := w) (Nat.le_refl _) _ D2 _ _ (by have := HB0.out; omega) hKD2 rfl rfl)).trans (belowK_b (w := w) (Nat.le_refl _) _ D _ _ (by have := HB0.out; omega) hKD rfl rfl)
          case stop =>
            rintro D c i U hD hi ⟨rfl, h1, h3, h4, h6, h7, h8⟩ hK
            have hS : (((i + 1 : Nat) : Nat) : Int) = R := by
              rw [← HR.out]
              rw [words_length, HN.out] at hi
              unfold want2
              split <;> omega
            rw [hS] at h1
            clear h8 hS
            have e3 := h3.cell 0
            have e4 := h4.cell 0
            have hDl : D < U.heap.size := (Array.getElem?_eq_some_iff.1 hK).1
            simp only [List.getElem?_toArray, List.getElem?_cons_zero] at e3 e4
            have I1 := Lib.hid h1
            have I3 := Lib.hid h3
            have I4 := Lib.hid h4
            have I6 := Lib.hid h6
            have I7 := Lib.hid h7
            have HK := Lib.hid hK
            clear h1 h3 h4 h6 h7 hK
            gi_wp2_with fail
            refine ⟨trivial, ?_⟩
            refine (callsIn_wide.2 (choose8_any _ _ _)).mono ?_
            rintro e w4 ⟨rfl, hw4⟩
            obtain ⟨b5, hb5⟩ : ∃ b5, U.heap.size = b5 := ⟨_, rfl⟩
            have S1 : Blk w4 b4 3 #[.int .i64 R] := by rw [hw4]; exact (I1.out.alloc _).alloc _
            have S3 : Blk w4 b0 3 #[.int .i64 a0] := by rw [hw4]; exact (I3.out.alloc _).alloc _
            have S4 : Blk w4 (b0 + 1 + 1 + 1) 4 #[.bool false] := by rw [hw4]; exact (I6.out.alloc _).alloc _
            have S7 : Blk w4 b5 3 #[.int .i64 a0] := by rw [hw4, ← hb5]; exact (Blk.new U _ _).alloc _
            have S8 : Blk w4 (b5 + 1) 3 #[.int .i64 a1] := by
              rw [hw4, ← hb5]; have h := Blk.new (U.alloc (.cells #[.int .i64 a0] 3)) 3 #[.int .i64 a1]
              rw [World.size_alloc] at h; exact h
            have S5 : w4.heap[D]? = some (.deferred (some [])) := by
              rw [hw4]; exact ((Below.heap_alloc _ _ _ (by rw [World.size_alloc]; omega)).trans (Below.heap_alloc _ _ _ hDl)).trans HK.out
            have S6 : Below b0 w w4 := by
              rw [hw4]; have := I7.out.size; have := HB0.out; exact (I7.out.alloc (by omega) _).alloc (by rw [World.size_alloc]; omega) _
            have SZ : w4.heap.size = b5 + 2 := by rw [hw4, ← hb5]; simp only [World.size_alloc]
            have hb05 : b0 ≤ b5 := by rw [← hb5]; have := I7.out.size; have := HB0.out; omega
            rw [hb5]
            rw [hb5] at hDl
            clear hw4 I1 I3 I4 I6 I7 HK e3 e4 hb5
            gi_wp2
            refine iter_law (n := 6) rfl (by omega) (gf := 31) (lb := #[.pointer (some ⟨b5 + 1, 0, none⟩), .pointer (some ⟨b5, 0, none⟩)]) rfl trivial (enters_of Try.func31 (by kernel_rfl) rfl)
              (words8_iter (6 - 1) (by omega) b5 (b5 + 1) a0 a1) ?hSt2b (fun _ h => h.elim) ?hKl2b (fun _ => rfl)
              (fun _ V => Blk V b4 3 #[.int .i64 R] ∧ Blk V b0 3 #[.int .i64 a0] ∧ Blk V (b0 + 1 + 1 + 1) 4 #[.bool false] ∧ V.heap[D]? = some (.deferred (some [])) ∧ Below b0 w V)
              (fun c _ V => c = .exit 4 ∧ Blk V b4 3 #[.int .i64 R] ∧ Blk V b0 3 #[.int .i64 a0] ∧ Blk V (b0 + 1 + 1 + 1) 4 #[.bool false] ∧ V.heap[D]? = some (.deferred (some [])) ∧ Below b0 w V)
              ?hI2b ?hIx2b ?h02b ?act2b ?assign2b ?body2b ?done2b ?stop2b
            case hSt2b =>
              intro V hV
              have q6 : V.heap[b5]? = w4.heap[b5]? := hV _ (by omega)
              have q7 : V.heap[b5 + 1]? = w4.heap[b5 + 1]? := hV _ (by omega)
              exact ⟨by rw [World.cell?_of_block q6]; exact S7.cell 0, by rw [World.cell?_of_block q7]; exact S8.cell 0⟩
            case hKl2b => rintro c (rfl | rfl) <;> omega
            case hI2b =>
              rintro i A B ⟨h1, h3, h4, h5, h6⟩ t
              have k := fun {b : Nat} {cs : Array Value} {ty : TypeId} (h : Blk A b ty cs) => (t.heap (other_cells h (fun e => e)) h : Blk B b ty cs)
              exact ⟨k h1, k h3, k h4, t.heap (other_low (by omega) (fun e => e)) h5, h6.trans (t.below (by have := HB0.out; have := h6.size; omega) (fun b hb => by rcases hb with hb | hb; exact hb.elim; omega))⟩
            case hIx2b =>
              rintro c i A B ⟨hc, h1, h3, h4, h5, h6⟩ t
              have k := fun {b : Nat} {cs : Array Value} {ty : TypeId} (h : Blk A b ty cs) => (t.heap (other_cells h (fun e => e)) h : Blk B b ty cs)
              exact ⟨hc, k h1, k h3, k h4, t.heap (other_low (by omega) (fun e => e)) h5, h6.trans (t.below (by have := HB0.out; have := h6.size; omega) (fun b hb => by rcases hb with hb | hb; exact hb.elim; omega))⟩
            case h02b => exact ⟨S1, S3, S4, S5, S6⟩
            case assign2b =>
              intro l x W K hK
              gi_wp2
              exact hK
            case body2b =>
              rintro l i y V hy ⟨s1, s3, s4, s5, s6⟩
              have hle : a0 ≤ 8 := by
                unfold words8 at hy
                split at hy
                · rename_i h; exact h.2.2
                · simp at hy
              have t3 := s3.cell 0
              simp only [List.getElem?_toArray, List.getElem?_cons_zero] at t3
              have hb8 : decide ((8 : Int) < a0) = false := by simp; omega
              gi_wp2
              exact ⟨KeepsFrom.refl _ _, rfl, s1, s3, s4, s5, s6⟩
            case done2b =>
              rintro D2 V hD2 ⟨s1, s3, s4, s5, s6⟩ hK2
              have t1 := s1.cell 0
              have t4 := s4.cell 0
              have f4 := s4.frozen 0
              simp only [List.getElem?_toArray, List.getElem?_cons_zero] at t1 t4
              have S5 := Lib.hid s5
              have S6 := Lib.hid s6
              have SK := Lib.hid hK2
              clear s1 s3 s4 s5 s6 hK2
              gi_wp2
              have hKD2 := (KeepsOthers.setCell V ⟨b0 + 1 + 1 + 1, 0, none⟩ (.bool true)).same D2 _ SK.out rfl
              have hKD : ((V.setCell ⟨b0 + 1 + 1 + 1, 0, none⟩ (.bool true)).putObj D2 (.deferred none)).heap[D]? = some (.deferred (some [])) :=
                (World.putObj_heap_other (by omega)).trans ((KeepsOthers.setCell V ⟨b0 + 1 + 1 + 1, 0, none⟩ (.bool true)).same D _ S5.out rfl)
              refine ⟨by simp, .inl ⟨_, _, rfl, run_takeDeferred hKD2, ⟨by simp, .inl ⟨_, _, rfl, run_takeDeferred hKD, ?_⟩⟩⟩⟩
              have hcell := cell_kept (cell_kept (World.cell?_setCell_same' V ⟨b0 + 1 + 1 + 1, 0, none⟩ (.bool true) (by rw [t4]; rfl)) (grownBy_putObj' _ D2 (.deferred none)) (fun r e => by cases e; exact ⟨_, hKD2, rfl⟩)) (grownBy_putObj' _ D (.deferred none)) (fun r e => by cases e; exact ⟨_, hKD, rfl⟩)
              refine ⟨_, by simp [results, Try.results3, go_sem, hcell], rfl, ?_⟩
              have q := S6.out
              rw [← HB0.out] at q
              exact ((q.setCell (p := ⟨b0 + 1 + 1 + 1, 0, none⟩) (by have := HB0.out; show w.heap.size ≤ b0 + 1 + 1 + 1; omega) _).trans (belowK_b (w := w) (Nat.le_refl _) _ D2 _ _ (by have := HB0.out; omega) hKD2 rfl rfl)).trans (belowK_b (w := w) (Nat.le_refl _) _ D _ _ (by have := HB0.out; omega) hKD rfl rfl)
            case stop2b =>
              rintro D2 c i V hD2 hi2 ⟨rfl, s1, s3, s4, s5, s6⟩ hK2
              have t1 := s1.cell 0
              have t4 := s4.cell 0
              have f4 := s4.frozen 0
              simp only [List.getElem?_toArray, List.getElem?_cons_zero] at t1 t4
              have S5 := Lib.hid s5
              have S6 := Lib.hid s6
              have SK := Lib.hid hK2
              clear s1 s3 s4 s5 s6 hK2
              gi_wp2
              have hKD2 := (KeepsOthers.setCell V ⟨b0 + 1 + 1 + 1, 0, none⟩ (.bool true)).same D2 _ SK.out rfl
              have hKD : ((V.setCell ⟨b0 + 1 + 1 + 1, 0, none⟩ (.bool true)).putObj D2 (.deferred none)).heap[D]? = some (.deferred (some [])) :=
                (World.putObj_heap_other (by omega)).trans ((KeepsOthers.setCell V ⟨b0 + 1 + 1 + 1, 0, none⟩ (.bool true)).same D _ S5.out rfl)
              refine ⟨by simp, .inl ⟨_, _, rfl, run_takeDeferred hKD2, ⟨by simp, .inl ⟨_, _, rfl, run_takeDeferred hKD, ?_⟩⟩⟩⟩
              have hcell := cell_kept (cell_kept (World.cell?_setCell_same' V ⟨b0 + 1 + 1 + 1, 0, none⟩ (.bool true) (by rw [t4]; rfl)) (grownBy_putObj' _ D2 (.deferred none)) (fun r e => by cases e; exact ⟨_, hKD2, rfl⟩)) (grownBy_putObj' _ D (.deferred none)) (fun r e => by cases e; exact ⟨_, hKD, rfl⟩)
              refine ⟨_, by simp [results, Try.results3, go_sem, hcell], rfl, ?_⟩
              have q := S6.out
              rw [← HB0.out] at q
              exact ((q.setCell (p := ⟨b0 + 1 + 1 + 1, 0, none⟩) (by have := HB0.out; show w.heap.size ≤ b0 + 1 + 1 + 1; omega) _).trans (belowK_b (w := w) (Nat.le_refl _) _ D2 _ _ (by have := HB0.out; omega) hKD2 rfl rfl)).trans (belowK_b (w := w) (Nat.le_refl _) _ D _ _ (by have := HB0.out; omega) hKD rfl rfl)
end Go.Proofs.Ytbpfojdlmkbngaa
