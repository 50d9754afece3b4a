/- bit.Places: its maker, and its iterator's contract. -/
import Derived.Test.YtjbpegmdbgkdlaaMk
import Derived.Test.YtjbpegmdbgkdlaaBitPm
import Derived.Test.YtjbpegmdbgkdlaaBitO8
import Derived.OpenShut
import Derived.Sort.CutIn
import Derived.Test.YtjbpegmdbgkdlaaQRound
import Derived.Lib.Agree
namespace Go.Proofs.Ytjbpegmdbgkdlaa
open Go.RowKit Go.Shelf
attribute [local go_sem] Oper.semAt_some

theorem places_any (A B : Option Addr) (n c m d : Nat) (w : World) :
    Calls Try.prog 6 #[.slice A n c, .slice B m d] w fun e w' =>
      e = .returned (.func (.func 14) #[] #[.pointer (some ⟨w.heap.size, 0, none⟩), .pointer (some ⟨w.heap.size + 1, 0, none⟩)]) ∧
      w' = (w.alloc (.cells #[.slice A n c] 22)).alloc (.cells #[.slice B m d] 22) := by
  go_enter Try.func6, Try.ntmps6
  go_wp2
  go_ret
  exact ⟨rfl, rfl⟩

def bl (A : Option Addr) (c : Nat) : Prop := ∃ a, A = some a ∧ a.block = c
def plK (ba bb : Nat) (A B : Option Addr) (n k c : Nat) : Prop := c = ba ∨ c = bb ∨ (0 < n ∧ bl A c) ∨ (0 < k ∧ bl B c)
theorem RdB.keepB {w w' : World} {A : Option Addr} {xs : List UInt8} (h : RdB w A xs) {K : Nat → Prop} (hk : Keep K w w') (hK : ∀ c, bl A c → K c) : RdB w' A xs := by
  intro k hx
  obtain ⟨b, o, hA, hb, hc⟩ := h k hx
  have hs := hk.same b (hK b ⟨_, hA, rfl⟩)
  exact ⟨b, o, hA, Nat.lt_of_lt_of_le hb hk.size, by rw [World.cell?_of_block hs]; exact hc⟩

set_option maxRecDepth 100000 in
set_option maxHeartbeats 2000000 in
theorem places_iter (m : Nat) (h2 : 2 ≤ m) (ba bb : Nat) (A B : Option Addr) (n k c d : Nat) (xs ys : List UInt8) (hn : xs.length = n) (hm : ys.length = k) (ln : n ≤ 200) (lm : k ≤ 200) :
    Iter3 Fence.wide m Try.prog 14 #[.pointer (some ⟨ba, 0, none⟩), .pointer (some ⟨bb, 0, none⟩)]
      (fun p : Nat => #[.int .i64 (p : Int)]) (plTo xs ys (min n k)) (fun _ => False) (plK ba bb A B n k)
      (fun W => W.cell? ⟨ba, 0, none⟩ = some (.slice A n c) ∧ W.cell? ⟨bb, 0, none⟩ = some (.slice B k d) ∧ RdB W A xs ∧ RdB W B ys) := by
  intro l J Jx W O hSt hJ hJx hS hO hY h0
  obtain ⟨s1, s2, r1, r2⟩ := hSt
  obtain ⟨N, hN⟩ : ∃ N, min n k = N := ⟨_, rfl⟩
  have hNI : min (n : Int) (k : Int) = (N : Int) := by omega
  have hNn : N ≤ n := by omega
  have hNk : N ≤ k := by omega
  rw [hN] at hY ⊢
  have HY := Lib.hid hY
  have HJ := Lib.hid hJ
  have HJX := Lib.hid hJx
  have H0 := Lib.hid h0
  have R1 := Lib.hid r1
  have R2 := Lib.hid r2
  have HOL := Lib.hid hO
  have la : ba < W.heap.size := World.lt_of_cell s1
  have lb : bb < W.heap.size := World.lt_of_cell s2
  have d1 : ∀ o, (W.alloc o).cell? ⟨ba, 0, none⟩ = some (.slice A n c) := fun o => Lib.cell?_alloc_some _ s1
  have d2 : ∀ o, (W.alloc o).cell? ⟨bb, 0, none⟩ = some (.slice B k d) := fun o => Lib.cell?_alloc_some _ s2
  clear hY hJ hJx h0 r1 r2 hN hS hO
  refine callsIn_of_wp_marks Try.func14 rfl trivial ?_ rfl
  simp only [Try.ntmps14, List.size_toArray, List.length_cons, List.length_nil, Nat.reduceAdd, Nat.reduceSub, Array.replicate_succ, Array.replicate_zero, List.push_toArray, List.append_toArray, List.nil_append, List.cons_append]
  gi_wp2
  clear hNI
  obtain ⟨g0, hg0⟩ : ∃ g0, W.heap.size = g0 := ⟨_, rfl⟩
  obtain ⟨W0, hW0⟩ : ∃ W0, W.alloc (Obj.cells #[Value.func (Fn.yield l) #[] #[]] 38) = W0 := ⟨_, rfl⟩
  rw [hW0, hg0]
  rw [hg0] at la lb
  have b3 : Blk W0 g0 38 #[Value.func (Fn.yield l) #[] #[]] := by rw [← hW0, ← hg0]; exact Blk.new W _ _
  have c1 : W0.cell? ⟨ba, 0, none⟩ = some (.slice A n c) := by rw [← hW0]; exact d1 _
  have c2 : W0.cell? ⟨bb, 0, none⟩ = some (.slice B k d) := by rw [← hW0]; exact d2 _
  have lA : ∀ b o, A = some ⟨b, o, none⟩ → 0 < n → b < g0 := fun b o h hn0 => by
    obtain ⟨b', o', h', hb', _⟩ := R1.out 0 (by omega)
    rw [h] at h'; cases h'; omega
  have lB : ∀ b o, B = some ⟨b, o, none⟩ → 0 < k → b < g0 := fun b o h hn0 => by
    obtain ⟨b', o', h', hb', _⟩ := R2.out 0 (by omega)
    rw [h] at h'; cases h'; omega
  have q1 : RdB W0 A xs := by rw [← hW0]; exact R1.out.keep (by simp) (fun p hp => by rw [World.cell?_of_block (Below.heap_alloc W _ _ hp)])
  have q2 : RdB W0 B ys := by rw [← hW0]; exact R2.out.keep (by simp) (fun p hp => by rw [World.cell?_of_block (Below.heap_alloc W _ _ hp)])
  have j0 : J 0 O W0 := by rw [← hW0]; exact HJ.out _ _ _ _ H0.out (Turn.alloc _ _ _)
  have z0 : W0.heap.size = g0 + 1 := by rw [← hW0, ← hg0]; simp
  have B3 := Lib.hid b3
  have C1 := Lib.hid c1
  have C2 := Lib.hid c2
  have Q1 := Lib.hid q1
  have Q2 := Lib.hid q2
  have J0 := Lib.hid j0
  have ol : ∀ b, O b → b < g0 := fun b hb => by have := HOL.out b hb; omega
  have OL := Lib.hid ol
  have LA := Lib.hid lA
  have LB := Lib.hid lB
  have HG := Lib.hid hg0
  clear b3 c1 c2 q1 q2 j0 hW0 R1 R2 H0 d1 d2 s1 s2 hg0 ol HOL lA lB
  refine wpIn_loop (fun a' wr => ∃ u4 u5 u11 u12 u13 u14 u15 u16 u17 u18 u19 u20 u21 u22 u23 u24 u25 u26 u27 u28 u29 u30 u31 u32 ds, (∃ q : Nat, ∃ O1 : Nat → Prop, q ≤ N ∧ u11 = .int .i64 q ∧ J (dfB xs ys q) O1 wr ∧ Mine g0 O1 wr ∧ Marks g0 wr.heap.size ds wr ∧ Keep (fun b => plK ba bb A B n k b ∨ b = g0) W0 wr) ∧
    a' = { tmps := #[.func (.yield l) #[] #[], .pointer (some ⟨ba, 0, none⟩), .pointer (some ⟨bb, 0, none⟩), .pointer (some ⟨g0, 0, none⟩), u4, u5, .slice A n c, .int .i64 (n : Int), .slice B k d, .int .i64 (k : Int), .int .i64 (N : Int), u11, u12, u13, u14, u15, u16, u17, u18, u19, u20, u21, u22, u23, u24, u25, u26, u27, u28, u29, u30, u31, u32], defers := ds }) (fun a' _ => N - (intOf (a'.tmps.getD 11 undef)).toNat) ?atStart ?round
  case atStart =>
    (repeat apply Exists.intro)
    refine ⟨?_, rfl⟩
    exact ⟨0, O, Nat.zero_le _, rfl, J0.out, ⟨fun h => by have := OL.out _ h; omega, fun b h => by have := OL.out b h; omega, fun b o hb h => by have := OL.out b h; omega⟩, trivial, Keep.refl _ _⟩
  case round =>
    rintro _ wr ⟨u4, u5, u11, u12, u13, u14, u15, u16, u17, u18, u19, u20, u21, u22, u23, u24, u25, u26, u27, u28, u29, u30, u31, u32, ds, ⟨q, O1, hq, rfl, hJq, hmi, hmk, hkp⟩, rfl⟩
    have HMK := Lib.hid hmk
    clear hmk
    by_cases hlt : q < N
    · obtain ⟨b1, o1, rfl, k1, hc1⟩ := Q1.out q (by omega)
      obtain ⟨b2, o2, rfl, k2, hc2⟩ := Q2.out q (by omega)
      have l1 : b1 < g0 := LA.out _ _ rfl (by omega)
      have l2 : b2 < g0 := LB.out _ _ rfl (by omega)
      obtain ⟨x, hx⟩ : ∃ x, xs.getD q 0 = x := ⟨_, rfl⟩
      obtain ⟨y, hy⟩ : ∃ y, ys.getD q 0 = y := ⟨_, rfl⟩
      have kp := fun {b : Nat} (h : plK ba bb _ _ n k b ∨ b = g0) => hkp.same b h
      have c1 : wr.cell? ⟨ba, 0, none⟩ = some (.slice (some ⟨b1, o1, none⟩) n c) := by rw [World.cell?_of_block (kp (.inl (.inl rfl)))]; exact C1.out
      have c2 : wr.cell? ⟨bb, 0, none⟩ = some (.slice (some ⟨b2, o2, none⟩) k d) := by rw [World.cell?_of_block (kp (.inl (.inr (.inl rfl))))]; exact C2.out
      have c3 : wr.cell? ⟨b1, o1 + q, none⟩ = some (.int .u8 (x.toNat : Int)) := (World.cell?_of_block (a := ⟨b1, o1 + q, none⟩) (kp (.inl (.inr (.inr (.inl ⟨by omega, _, rfl, rfl⟩)))))).trans (by rw [← hx]; exact hc1)
      have c4 : wr.cell? ⟨b2, o2 + q, none⟩ = some (.int .u8 (y.toNat : Int)) := (World.cell?_of_block (a := ⟨b2, o2 + q, none⟩) (kp (.inl (.inr (.inr (.inr ⟨by omega, _, rfl, rfl⟩)))))).trans (by rw [← hy]; exact hc2)
      have g3 : Blk wr g0 38 #[Value.func (Fn.yield l) #[] #[]] := (kp (.inr rfl)).trans B3.out
      have hz := u8_xorF x y
      have lz : (x ^^^ y).toNat < 256 := UInt8.toNat_lt _
      obtain ⟨z, hz2⟩ : ∃ z, (x ^^^ y).toNat = z := ⟨_, rfl⟩
      rw [hz2] at hz lz
      obtain ⟨V, hV⟩ : ∃ V, wr.alloc (Obj.cells #[Value.int .i64 (q : Int)] 3) = V := ⟨_, rfl⟩
      obtain ⟨g1, hg1⟩ : ∃ g1, wr.heap.size = g1 := ⟨_, rfl⟩
      have l3 : g0 < g1 := by have := hkp.size; omega
      have HKP := Lib.hid hkp
      have HJQ := Lib.hid hJq
      have HX := Lib.hid hx
      have HY2 := Lib.hid hy
      have HZ := Lib.hid hz2
      have G3 := Lib.hid g3
      have HMI := Lib.hid hmi
      clear hkp hJq hx hy hz2 hc1 hc2 kp g3 hmi
      have i0 : (0 : Int) ≤ (q : Int) := by omega
      have i1 : (q : Int) < (n : Int) := by omega
      have i2 : (q : Int) < (k : Int) := by omega
      gi_upto_region 4 with fail
      have v1 : V.cell? ⟨ba, 0, none⟩ = some (.slice (some ⟨b1, o1, none⟩) n c) := by rw [← hV]; exact Lib.cell?_alloc_some _ c1
      have v2 : V.cell? ⟨bb, 0, none⟩ = some (.slice (some ⟨b2, o2, none⟩) k d) := by rw [← hV]; exact Lib.cell?_alloc_some _ c2
      have v3 : V.cell? ⟨b1, o1 + q, none⟩ = some (.int .u8 (x.toNat : Int)) := by rw [← hV]; exact Lib.cell?_alloc_some _ c3
      have v4 : V.cell? ⟨b2, o2 + q, none⟩ = some (.int .u8 (y.toNat : Int)) := by rw [← hV]; exact Lib.cell?_alloc_some _ c4
      have bi : Blk V g1 3 #[.int .i64 (q : Int)] := by rw [← hV, ← hg1]; exact Blk.new wr _ _
      have v5 := bi.cell 0
      simp only [List.getElem?_toArray, List.getElem?_cons_zero] at v5
      have bg : Blk V g0 38 #[Value.func (Fn.yield l) #[] #[]] := by rw [← hV]; exact G3.out.alloc _
      have sz : V.heap.size = g1 + 1 := by rw [← hV, ← hg1]; simp
      have BI := Lib.hid bi
      have BG := Lib.hid bg
      have HV := Lib.hid hV
      have HG1 := Lib.hid hg1
      clear bi bg hV c1 c2 c3 c4 G3 hg1
      gi_cut [23] from 24 (fun s wx => s = .func (.func 22) #[] #[.pointer (some ⟨g1 + 1, 0, none⟩)] ∧ ∃ t, wx = (V.drewN t).alloc (.cells #[.int .u8 (z : Int)] 5))
      case first =>
        refine wpIn_calm ?_
        gi_region_with ((refine ⟨trivial, fun _ => by omega, ?_⟩; refine (callsIn_wide.2 (ones8_any _ _)).mono ?_; rintro e w2 ⟨rfl, rfl⟩))
        all_goals
          refine calmQ_normal ?_
          gi_wp2
          gi_meet
          exact ⟨rfl, 1, rfl⟩
      case rest =>
        obtain ⟨rfl, t, rfl⟩ := hcut
        obtain ⟨V1, hV1⟩ : ∃ V1, (V.drewN t).alloc (.cells #[.int .u8 (z : Int)] 5) = V1 := ⟨_, rfl⟩
        rw [hV1]
        have z1 : V1.heap.size = g1 + 2 := by rw [← hV1]; simp; omega
        have e1 : Blk V1 (g1 + 1) 5 #[.int .u8 (z : Int)] := by rw [← hV1, ← sz]; exact Blk.new (V.drewN t) _ _
        have e2 : Blk V1 g1 3 #[.int .i64 (q : Int)] := by rw [← hV1]; exact (BI.out.drewN t).alloc _
        have e3 : Blk V1 g0 38 #[Value.func (Fn.yield l) #[] #[]] := by rw [← hV1]; exact (BG.out.drewN t).alloc _
        have tw : Turn (fun _ => False) wr V1 := by rw [← hV1, ← HV.out]; exact ((Turn.alloc _ _ _).trans (Turn.drewN _ _ t)).trans (Turn.alloc _ _ _)
        have j1 : J (dfB xs ys q) O1 V1 := HJ.out _ _ _ _ HJQ.out (tw.mono fun b hb => hb.elim)
        have m1 : Mine g0 O1 V1 := HMI.out.turn (tw.mono fun b hb => hb.elim)
        have kk : Keep (fun b => plK ba bb (some ⟨b1, o1, none⟩) (some ⟨b2, o2, none⟩) n k b ∨ b = g0) W0 V1 := HKP.out.trans (Keep.of_turn tw (fun b hb => ⟨by
          have := HG1.out
          rcases hb with (rfl | rfl | ⟨_, a, ha, rfl⟩ | ⟨_, a, ha, rfl⟩) | rfl <;> first | omega | (cases ha; show _ < _; simp only; omega), fun h => h⟩))
        have KL : ∀ b, (plK ba bb (some ⟨b1, o1, none⟩) (some ⟨b2, o2, none⟩) n k b ∨ b = g0) → b ≤ g0 := by
          rintro b ((rfl | rfl | ⟨_, a, ha, rfl⟩ | ⟨_, a, ha, rfl⟩) | rfl) <;> first | omega | (cases ha; show _ ≤ _; simp only; omega)
        have mg : ¬ O1 g1 ∧ ¬ O1 (g1 + 1) := ⟨fun h => by have := HMI.out.lt _ h; have := HG1.out; omega, fun h => by have := HMI.out.lt _ h; have := HG1.out; omega⟩
        have mk1 : Marks g0 g1 ds V1 := (HMK.out.same fun D _ _ h => tw.heap (fun e => e) h).up (by have := HG1.out; omega)
        have MK1 := Lib.hid mk1
        have E1 := Lib.hid e1
        have E2 := Lib.hid e2
        have E3 := Lib.hid e3
        have Z1 := Lib.hid z1
        have J1 := Lib.hid j1
        have M1 := Lib.hid m1
        have KK := Lib.hid kk
        have KL2 := Lib.hid KL
        clear v1 v2 v3 v4 v5 BI BG HV HJQ HMI HKP tw e1 e2 e3 j1 m1 kk KL hV1 z1 sz mk1 HMK
        gi_wp2
        refine iter_law (n := m) rfl (by omega) (gf := 22) (lb := #[.pointer (some ⟨g1 + 1, 0, none⟩)]) rfl trivial (enters_of Try.func22 (by kernel_rfl) rfl)
          (ones8_iter (m - 1) (by omega) (g1 + 1) z lz) ?hSt ?hSl ?hKl (fun _ => rfl)
          (fun i U => ∃ O2, J (dfB xs ys q + i) O2 U ∧ Mine g0 O2 U ∧ (¬ O2 g1 ∧ ¬ O2 (g1 + 1)) ∧ Keep (fun b => plK ba bb (some ⟨b1, o1, none⟩) (some ⟨b2, o2, none⟩) n k b ∨ b = g0) W0 U ∧ Blk U g0 38 #[Value.func (Fn.yield l) #[] #[]] ∧ Blk U g1 3 #[.int .i64 (q : Int)] ∧ g1 + 2 ≤ U.heap.size ∧ Marks g0 g1 ds U)
          (fun c _ U => c = .ret ∧ ∃ O2 i, i < (plTo xs ys N).length ∧ Jx (i + 1) O2 U ∧ Mine g0 O2 U ∧ ¬ O2 (g1 + 1) ∧ Marks g0 g1 ds U)
          ?hI ?hIx ?h0 ?act1 ?assign ?body ?done ?stop
        case hSt => intro U hU; exact (hU _ (by have := Z1.out; omega)).trans E1.out
        case hSl => rintro b rfl; have := Z1.out; omega
        case hKl => rintro b rfl; have := Z1.out; omega
        case hI =>
          have z1 := Z1.out
          rintro i C D ⟨O2, h1, h2, h3, h4, h5, h6, h7, h8⟩ t
          have no : ∀ b, Other V1.heap.size (fun c => c = g1 + 1) C b → ¬ O2 b := by
            rintro b (rfl | ⟨hb, o, ho, hc⟩) h
            · exact h3.2 h
            · rw [h2.cells b o (by omega) h ho] at hc; cases hc
          have t2 := t.mono no
          have ko := fun {b : Nat} {cs : Array Value} {ty : TypeId} (h : Blk C b ty cs) (hb : b ≠ g1 + 1) => (t.heap (other_cells h hb) h : Blk D b ty cs)
          exact ⟨O2, HJ.out _ _ _ _ h1 t2, h2.turn t2, h3, h4.trans (Keep.of_turn t fun b hb => ⟨by have := KL2.out b hb; omega, fun h => by have := KL2.out b hb; rcases h with rfl | ⟨h, _⟩ <;> omega⟩), ko h5 (by omega), ko h6 (by omega), Nat.le_trans h7 t.size,
            h8.same fun E e1 e2 e3 => t.heap (fun h => by rcases h with rfl | ⟨h, _⟩ <;> omega) e3⟩
        case hIx =>
          have z1 := Z1.out
          rintro c _ C D ⟨rfl, O2, i, h1, h2, h3, h4, h5⟩ t
          have no : ∀ b, Other V1.heap.size (fun c => c = g1 + 1) C b → ¬ O2 b := by
            rintro b (rfl | ⟨hb, o, ho, hc⟩) h
            · exact h4 h
            · rw [h3.cells b o (by omega) h ho] at hc; cases hc
          have t2 := t.mono no
          exact ⟨rfl, O2, i, h1, HJX.out _ _ _ _ h2 t2, h3.turn t2, h4, h5.same fun E e1 e2 e3 => t.heap (fun h => by rcases h with rfl | ⟨h, _⟩ <;> omega) e3⟩
        case h0 => exact ⟨O1, J1.out, M1.out, mg, KK.out, E3.out, E2.out, by have := Z1.out; omega, MK1.out⟩
        case assign =>
          intro l x W K hK
          gi_wp2
          exact hK
        case body =>
          rintro l' i p U hp ⟨O2, h1, h2, h3, h4, h5, h6, h7, h8⟩
          have z1 := Z1.out
          have hg := plTo_get xs ys hlt (t := i) (p := p) (by rw [HX.out, HY2.out, HZ.out]; exact hp)
          obtain ⟨fn, tmps, assign, body, hy, hR⟩ := HY.out _ _ O2 U hg h1 (by have := HG.out; omega)
          have hp8 := (ones8_mem lz (List.mem_of_getElem? hp)).1
          push_cast at hy
          have e0 := h5.cell 0
          have e1 := h6.cell 0
          simp only [List.getElem?_toArray, List.getElem?_cons_zero] at e0 e1
          have HI := Lib.hid (And.intro h2 (And.intro h3 (And.intro h4 (And.intro h5 (And.intro h6 (And.intro h7 h8))))))
          have HI2 := Lib.hid (List.getElem?_eq_some_iff.1 hg).1
          clear hg h1 h2 h3 h4 h5 h6 h7 h8 hp z1
          gi_wp2
          refine ⟨fun h => (by cases h), ?_⟩
          refine (roundIn_wide hR).mono ?_
          rintro e W3 ⟨O3, hgr, hend⟩
          obtain ⟨h2, h3, h4, h5, h6, h7, h8⟩ := HI.out
          have kf : KeepsFrom V1.heap.size U W3 := ⟨hgr.size, fun b o hb ho hc => by
            refine (hgr.keep b (Array.getElem?_eq_some_iff.1 ho).1 (.inl fun h => ?_)).trans ho
            rw [h2.cells b o (by have := Z1.out; omega) h ho] at hc; cases hc⟩
          have g3 : Mine g0 O3 W3 := h2.grow (by omega) hgr
          have n3 : ¬ O3 g1 ∧ ¬ O3 (g1 + 1) := ⟨fun h => h3.1 (hgr.old _ (by omega) h), fun h => h3.2 (hgr.old _ (by omega) h)⟩
          have kpl : ∀ b, (plK ba bb (some ⟨b1, o1, none⟩) (some ⟨b2, o2, none⟩) n k b ∨ b = g0) → W3.heap[b]? = U.heap[b]? := fun b hb => hgr.keep b (by have := KL2.out b hb; omega) (by
            rcases hb with hb | rfl
            · exact .inr hb
            · exact .inl h2.non)
          have k5 : Blk W3 g0 38 #[Value.func (Fn.yield l) #[] #[]] := (kpl g0 (.inr rfl)).trans h5
          have k6 : Blk W3 g1 3 #[.int .i64 (q : Int)] := (hgr.keep g1 (by omega) (.inl h3.1)).trans h6
          have k1 : W3.heap[g1 + 1]? = U.heap[g1 + 1]? := hgr.keep (g1 + 1) (by omega) (.inl h3.2)
          have k8 : Marks g0 g1 ds W3 := h8.same fun D d1 d2 d3 => (hgr.keep D (by omega) (.inl fun h => by have := h2.cells D _ d1 h d3; cases this)).trans d3
          have KA := Lib.hid (And.intro kf (And.intro g3 (And.intro n3 (And.intro (Keep.mk (K := fun b => plK ba bb (some ⟨b1, o1, none⟩) (some ⟨b2, o2, none⟩) n k b ∨ b = g0) hgr.size kpl) (And.intro k5 (And.intro k6 (And.intro k1 k8)))))))
          have l7 : g1 + 2 ≤ W3.heap.size := Nat.le_trans h7 hgr.size
          have H4 := Lib.hid h4
          clear h2 h3 h4 h5 h6 h7 h8 kf g3 n3 kpl k5 k6 k1 k8 HI hgr e0 e1 hy hR
          rcases hend with ⟨rfl, hj⟩ | ⟨rfl, hj⟩
          · have HJ3 := Lib.hid hj
            clear hj
            gi_wp2
            obtain ⟨kf, g3, n3, kpl, k5, k6, k1, k8⟩ := KA.out
            exact ⟨kf, ⟨kf.size, fun b hb => by subst hb; exact k1⟩, O3, HJ3.out, g3, n3, H4.out.trans kpl, k5, k6, l7, k8⟩
          · have HJ3 := Lib.hid hj
            clear hj
            gi_wp2
            obtain ⟨kf, g3, n3, kpl, k5, k6, k1, k8⟩ := KA.out
            exact ⟨kf, rfl, O3, _, HI2.out, HJ3.out, g3, n3.2, k8⟩
        case done =>
          rintro D U hD ⟨O2, h1, h2, h3, h4, h5, h6, h7, h8⟩ hDD
          have HST := Lib.hid (show dfB xs ys (q + 1) = dfB xs ys q + (ones z).length by rw [dfB, ones_len, HX.out, HY2.out, HZ.out])
          have HA := Lib.hid (And.intro h1 (And.intro h2 (And.intro h4 (And.intro h7 (And.intro h8 hDD)))))
          have HD := Lib.hid hD
          clear h1 h2 h3 h4 h5 h6 h7 h8 hDD hD
          gi_wp2
          have z1 := Z1.out
          have hD := HD.out
          obtain ⟨h1, h2, h4, h7, h8, hDD⟩ := HA.out
          have hlD : D < U.heap.size := (Array.getElem?_eq_some_iff.1 hDD).1
          refine ⟨?_, by simp [intOf]; omega⟩
          (repeat apply Exists.intro)
          refine ⟨?_, rfl⟩
          exact ⟨q + 1, O2, by omega, by go_num, by rw [HST.out]; exact h1, h2, h8.cons (by omega) (by omega) hlD hDD, h4⟩
        case stop =>
          rintro D c i U hD hlt ⟨rfl, O2, i2, h1, h2, h3, h4, h5⟩ hDD
          have HA := Lib.hid (And.intro h1 (And.intro h2 (And.intro h3 (And.intro h5 hDD))))
          have HD := Lib.hid hD
          clear h1 h2 h3 h4 h5 hDD hD hlt
          gi_wp2
          obtain ⟨h1, h2, h3, h5, hDD⟩ := HA.out
          have hD := HD.out
          have z1 := Z1.out
          exact leaves_marks _ (D + 1) U (h5.cons (by omega) (by omega) (by omega) hDD) h3 fun w' t => ⟨_, results_none rfl _ _ _, ⟨_, rfl⟩, .inr ⟨i2, h1, O2, HJX.out _ _ _ _ h2 t⟩⟩
    · obtain rfl : q = N := by omega
      have HJQ := Lib.hid hJq
      have HMI := Lib.hid hmi
      clear hJq hkp hmi
      gi_wp2
      exact leaves_marks ds _ wr HMK.out HMI.out fun w' t => ⟨_, results_none rfl _ _ _, ⟨_, rfl⟩, .inl ⟨O1, by rw [plTo_length]; exact HJ.out _ _ _ _ HJQ.out t⟩⟩
end Go.Proofs.Ytjbpegmdbgkdlaa
