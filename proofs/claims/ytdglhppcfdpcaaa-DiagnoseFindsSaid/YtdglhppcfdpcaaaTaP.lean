/- Find. -/
import Derived.Test.YtdglhppcfdpcaaaTaO
import Derived.Test.YtdglhppcfdpcaaaSoM
import Derived.WalkKit
import Derived.Sort.CutIn
import Derived.IntWalk
namespace Go.Proofs.Ytdglhppcfdpcaaa.E
open Go Go.RowKit Go.Shelf
attribute [local go_sem] Oper.semAt_some
set_option linter.unusedVariables false
set_option linter.unusedSimpArgs false

structure Fg where
  x0 : Int
  x1 : Int
  x2 : Int
  x3 : Int
  x4 : Int
  x5 : Int
  x6 : Int
def zFg : Fg := ⟨0, 0, 0, 0, 0, 0, 0⟩
def eFg (x : Fg) : List Value := [.int .i64 x.x0, .int .i64 x.x1, .int .i64 x.x2, .int .i64 x.x3, .int .i64 x.x4, .int .i64 x.x5, .int .i64 x.x6]
theorem slTFg : SlT Try.prog 38 44 [.int .i64 0, .int .i64 0, .int .i64 0, .int .i64 0, .int .i64 0, .int .i64 0, .int .i64 0] := SlT.mk' (by kernel_rfl) (by kernel_rfl) rfl
abbrev slFg (v : Value) (xs : List Fg) : Ent := .p (SlE eFg [.int .i64 0, .int .i64 0, .int .i64 0, .int .i64 0, .int .i64 0, .int .i64 0, .int .i64 0] 44 v xs)
theorem h1Fg : ∀ y, ∀ u ∈ eFg y, u.oneCell' = true := fun y u hu => by
  simp only [eFg, List.mem_cons, List.not_mem_nil, or_false] at hu
  rcases hu with rfl | rfl | rfl | rfl | rfl | rfl | rfl <;> rfl
/-- The places of what was seen, each once. -/
def plS (zs : List Sn) : Nat → List Pp
  | 0 => []
  | k + 1 => bif decide (0 ≤ ixP (plS zs k) (zs.getD k zSn).x0 (zs.getD k zSn).x1 (zs.getD k zSn).x2 (zs.getD k zSn).x3) then plS zs k else plS zs k ++ [⟨(zs.getD k zSn).x0, (zs.getD k zSn).x1, (zs.getD k zSn).x2, (zs.getD k zSn).x3⟩]
theorem plS_le (zs : List Sn) : ∀ k, (plS zs k).length ≤ k
  | 0 => Nat.le_refl _
  | k + 1 => by
    have := plS_le zs k
    rw [plS]
    cases decide (0 ≤ ixP (plS zs k) (zs.getD k zSn).x0 (zs.getD k zSn).x1 (zs.getD k zSn).x2 (zs.getD k zSn).x3)
    · simp only [cond_false, List.length_append, List.length_cons, List.length_nil]; omega
    · simp only [cond_true]; omega
/-- What is found in a group. -/
def fOf (zs : List Sn) : Fg := ⟨knd (plS zs zs.length), ((plS zs zs.length).getD 0 zPp).x0, tbare_0 (knd (plS zs zs.length)) ((plS zs zs.length).getD 0 zPp).x1, tbare_1 (knd (plS zs zs.length)) ((plS zs zs.length).getD 0 zPp).x2, tbare_2 (knd (plS zs zs.length)) ((plS zs zs.length).getD 0 zPp).x3, (zs.getD 0 zSn).x4, ((plS zs zs.length).length : Int)⟩
def fnS (gs : List (Int × List Sn)) : Nat → List Fg
  | 0 => []
  | t + 1 => fnS gs t ++ [fOf (gs.getD t (0, [])).2]
theorem fnS_succ {gs : List (Int × List Sn)} {t : Nat} {kE : Int} {zE : List Sn} (h : gs[t]? = some (kE, zE)) : fnS gs (t + 1) = fnS gs t ++ [fOf zE] := by
  rw [fnS, List.getD_eq_getElem?_getD, h]; rfl
theorem z_posS {xs : List Sn} {t : Nat} {kE : Int} {zE : List Sn} (h : (So.grp kS (So.srt kS xs))[t]? = some (kE, zE)) : 1 ≤ zE.length := So.grp_pos h
theorem z_filS {xs : List Sn} {t : Nat} {kE : Int} {zE : List Sn} (h : (So.grp kS (So.srt kS xs))[t]? = some (kE, zE)) : zE = xs.filter (fun x => kS x == kE) := So.grp_srt zSn h
theorem z_leS {xs : List Sn} {t : Nat} {kE : Int} {zE : List Sn} (h : (So.grp kS (So.srt kS xs))[t]? = some (kE, zE)) : zE.length ≤ xs.length := by
  rw [z_filS h]; exact List.length_filter_le _ _
theorem plS_pos (zs : List Sn) : ∀ k, 1 ≤ k → 1 ≤ (plS zs k).length
  | 0, h => absurd h (by decide)
  | k + 1, _ => by
    rw [plS]
    cases k with
    | zero =>
      rw [show plS zs 0 = [] from rfl, show ixP [] (zs.getD 0 zSn).x0 (zs.getD 0 zSn).x1 (zs.getD 0 zSn).x2 (zs.getD 0 zSn).x3 = -1 from rfl]
      exact Nat.le_refl _
    | succ k =>
      have := plS_pos zs (k + 1) (by omega)
      cases decide (0 ≤ ixP (plS zs (k + 1)) (zs.getD (k + 1) zSn).x0 (zs.getD (k + 1) zSn).x1 (zs.getD (k + 1) zSn).x2 (zs.getD (k + 1) zSn).x3)
      · simp only [cond_false, List.length_append, List.length_cons, List.length_nil]; omega
      · simp only [cond_true]; omega
theorem plS_t {zs : List Sn} {k : Nat} (h : (!decide (0 ≤ ixP (plS zs k) (zs.getD k zSn).x0 (zs.getD k zSn).x1 (zs.getD k zSn).x2 (zs.getD k zSn).x3)) = true) : plS zs (k + 1) = plS zs k ++ [⟨(zs.getD k zSn).x0, (zs.getD k zSn).x1, (zs.getD k zSn).x2, (zs.getD k zSn).x3⟩] := by
  rw [plS, not_dec h]; rfl
theorem plS_f {zs : List Sn} {k : Nat} (h : (!decide (0 ≤ ixP (plS zs k) (zs.getD k zSn).x0 (zs.getD k zSn).x1 (zs.getD k zSn).x2 (zs.getD k zSn).x3)) = false) : plS zs (k + 1) = plS zs k := by
  rw [plS, not_dec h]; rfl
theorem fnS_len (gs : List (Int × List Sn)) : ∀ t, (fnS gs t).length = t
  | 0 => rfl
  | t + 1 => by rw [fnS, List.length_append, fnS_len gs t]; rfl
theorem ga_geS {S : List Sn} : ∀ {t : Nat}, t ≤ (So.grp kS S).length → t ≤ So.ga (So.grp kS S) t
  | 0, _ => Nat.zero_le _
  | t + 1, h => by
    have hq : (So.grp kS S)[t]? = some (So.grp kS S)[t] := List.getElem?_eq_getElem (by omega)
    have h1 := ga_geS (S := S) (t := t) (by omega)
    have h2 := So.grp_pos hq
    rw [So.ga_succ hq]
    omega
theorem g_cntS (xs : List Sn) : (So.grp kS (So.srt kS xs)).length ≤ xs.length := by
  have h := ga_geS (S := So.srt kS xs) (Nat.le_refl _)
  rwa [So.ga_all (Nat.le_refl _), So.srt_len] at h
attribute [local irreducible] plS fOf fnS knd ixP tbare_0 tbare_1 tbare_2 So.grp So.srt So.ga kS kSn
set_option maxRecDepth 100000 in
set_option maxHeartbeats 1000000 in
theorem tfind (A : Option Addr) (nA cA : Nat) (xs : List Sn) (hx : xs.length ≤ 1000) (b0 : Objs) (h : SrE eSn (.slice A nA cA) xs b0) : Con Try.prog 9 #[.slice A nA cA] [.c b0] [] (fun E => [slFg (E.val 0) (fnS (So.grp kS (So.srt kS xs)) ((So.grp kS (So.srt kS xs)).length))]) (fun E => (E.val 0)) := by
 refine Con.of (enters_of Try.func9 (by kernel_rfl) rfl) fun w cs HS HH OW => ?_
 refine (callsIn_wide (n := 6)).1 ?_
 refine callsIn_of_wp_marks Try.func9 rfl trivial ?_ rfl
 simp only [Try.ntmps9, eF, Nat.reduceAdd, Nat.reduceSub]
 gi_upto_region 0 with fail
 refine rg (fun q1 => [.v (.slice none 0 0)]) (fun _ L => L) OW ?_
 clear OW; intro q1 _ Wq1 OW; simp only [↓pc, ↓pn, vE, Hint.val, Act.put, eL]
 gi_upto_region 1 with fail
 refine rg (fun q2 => [.m (al 1)]) (fun q2 L => L ++ [ob ((q2 0).blk 0) #[.slice none 0 0] 38]) OW ?_
 clear OW; intro q2 _ Wq2 OW; simp only [↓pc, ↓pn, vE, Hint.val, Act.put, eL]
 gi_upto_region 2 with fail
 refine rg (fun q3 => [.v (.slice A nA cA),
  .c [] [2, 3] (grMkS A nA cA)]) (fun q3 L => L ++ [ob ((q3 1).blk 0) #[.slice A nA cA] 29, ob ((q3 1).blk 1) #[.func (.func 24) #[] #[]] 70]) OW ?_
 clear OW; intro q3 _ Wq3 OW; simp only [↓pc, ↓pn, vE, Hint.val, Act.put, eL]
 gi_wp2
 replace OW := Lib.hid (OW.out.nilS eFg [.int .i64 0, .int .i64 0, .int .i64 0, .int .i64 0, .int .i64 0, .int .i64 0, .int .i64 0] 44)
 replace OW := Lib.hid (OW.out.nilS eFg [.int .i64 0, .int .i64 0, .int .i64 0, .int .i64 0, .int .i64 0, .int .i64 0, .int .i64 0] 44)
 refine reE_iterY (n := 6) (by omega) (gf := 49) (lb := #[.pointer (some ⟨((q3 1).blk 0), 0, none⟩), .pointer (some ⟨((q3 1).blk 1), 0, none⟩)]) rfl (enters_of Try.func49 (by kernel_rfl) rfl) (encs := Yd.enc (γ := Sn)) (ds := fun x => x.d) (X := YdX (fun u ys => SlE eSn [.int .i64 0, .int .i64 0, .int .i64 0, .int .i64 0, .int .i64 0] 34 u ys) (So.grp kS (So.srt kS xs))) (N := (So.grp kS (So.srt kS xs)).length) (KO := List.flatten [[(((q3 1).blk 0), .cells #[.slice A nA cA] 29 (0, 0))], [(((q3 1).blk 1), .cells #[.func (.func 24) #[] #[]] 70 (0, 0))], b0]) (grS1 (6 - 1) (by omega) ((q3 1).blk 0) ((q3 1).blk 1) (.slice A nA cA) xs (by omega) b0 h)
  (fun t Ls => ∃ vC3_0 : Value, t ≤ (So.grp kS (So.srt kS xs)).length ∧ Ls = [.c b0, ob ((q2 0).blk 0) #[vC3_0] 38, ob ((q3 1).blk 0) #[.slice A nA cA] 29, ob ((q3 1).blk 1) #[.func (.func 24) #[] #[]] 70, slFg (.slice none 0 0) ([]), slFg vC3_0 (fnS (So.grp kS (So.srt kS xs)) t)]) (fun _ _ _ => False) (Lib.hid (OwnE.cast (L' := [.c b0, ob ((q2 0).blk 0) #[.slice none 0 0] 38, ob ((q3 1).blk 0) #[.slice A nA cA] 29, ob ((q3 1).blk 1) #[.func (.func 24) #[] #[]] 70, slFg (.slice none 0 0) ([]), slFg (.slice none 0 0) (fnS (So.grp kS (So.srt kS xs)) 0)]) OW.out (by skip; kernel_rfl))) ⟨.slice none 0 0, Nat.zero_le _, rfl⟩ ?KOI4 ?KXI4 (OwnE.ndC (Os := [[(((q3 1).blk 0), .cells #[.slice A nA cA] 29 (0, 0))], [(((q3 1).blk 1), .cells #[.func (.func 24) #[] #[]] 70 (0, 0))], b0]) (OwnE.pick OW.out [2, 3, 0] _ (by kernel_rfl))) (fun _ => rfl) ?roundI4 ?doneI4 ?stopI4
 case KOI4 => rintro k Ls ⟨_, _, rfl⟩; exact holds_at (Os := [[(((q3 1).blk 0), .cells #[.slice A nA cA] 29 (0, 0))], [(((q3 1).blk 1), .cells #[.func (.func 24) #[] #[]] 70 (0, 0))], b0]) [2, 3, 0] (by kernel_rfl)
 case KXI4 => exact fun _ _ _ h => h.elim
 case roundI4 =>
  rintro lR t ⟨kE, zE, uE, dE⟩ Ls R7 W5 hxE ⟨vC3_0, hk6, rfl⟩ OW
  simp only [putP0, putP1, putP2, eL, Yd.enc]
  have hsE : SlE eSn [.int .i64 0, .int .i64 0, .int .i64 0, .int .i64 0, .int .i64 0] 34 uE zE dE := hxE.2
  have hgE : (So.grp kS (So.srt kS xs))[t]? = some (kE, zE) := hxE.1
  clear hxE
  replace OW := Lib.hid (OwnE.cast (L' := [.c b0, ob ((q2 0).blk 0) #[vC3_0] 38, ob ((q3 1).blk 0) #[.slice A nA cA] 29, ob ((q3 1).blk 1) #[.func (.func 24) #[] #[]] 70, slFg (.slice none 0 0) ([]), slFg vC3_0 (fnS (So.grp kS (So.srt kS xs)) t), .c dE]) OW.out (by kernel_rfl))
  have HZP := z_posS hgE
  have HZL := z_leS hgE
  have HGT := (List.getElem?_eq_some_iff.1 hgE).1
  have HGC := g_cntS xs
  have HFN := Nat.le_of_eq (fnS_len (So.grp kS (So.srt kS xs)) t)
  have HPE := plS_le zE zE.length
  have HPP := plS_pos zE zE.length HZP
  gi_upto_region 3 with fail
  refine rg (fun q8 => [.v (uE)]) (fun _ L => L) OW ?_
  clear OW; intro q8 _ Wq8 OW; simp only [↓pc, ↓pn, vE, Hint.val, Act.put, eL]
  gi_wp2
  refine ⟨[.c b0, ob ((q2 0).blk 0) #[vC3_0] 38, ob ((q3 1).blk 0) #[.slice A nA cA] 29, ob ((q3 1).blk 1) #[.func (.func 24) #[] #[]] 70, slFg (.slice none 0 0) ([]), slFg vC3_0 (fnS (So.grp kS (So.srt kS xs)) t)], OW.out, holds_at (Os := [[(((q3 1).blk 0), .cells #[.slice A nA cA] 29 (0, 0))], [(((q3 1).blk 1), .cells #[.func (.func 24) #[] #[]] 70 (0, 0))], b0]) [2, 3, 0] (by kernel_rfl), ?_⟩
  clear OW; intro R10 W9 OW
  gi_upto_region 4 with fail
  refine rg (fun q11 => [.v (.slice none 0 0)]) (fun _ L => L) OW ?_
  clear OW; intro q11 _ Wq11 OW; simp only [↓pc, ↓pn, vE, Hint.val, Act.put, eL]
  gi_upto_region 5 with fail
  refine rg (fun q12 => [.v (uE),
   .m (lenR 6 (.c dE) (cP hsE.src)),
   .v (.int .i64 0)]) (fun _ L => L) OW ?_
  clear OW; intro q12 _ Wq12 OW; simp only [↓pc, ↓pn, vE, Hint.val, Act.put, eL]
  gi_wp2
  replace OW := Lib.hid (OW.out.nilS ePp [.int .i64 0, .int .i64 0, .int .i64 0, .int .i64 0] 32)
  gi_loopw [16, 6] (fun z16 z6 wr => ∃ k : Nat, ∃ vS6 : Value, k ≤ zE.length ∧ z16 = .int .i64 (k : Int) ∧ vS6 = z6 ∧ OwnE R10 W9 [.c b0, ob ((q2 0).blk 0) #[vC3_0] 38, ob ((q3 1).blk 0) #[.slice A nA cA] 29, ob ((q3 1).blk 1) #[.func (.func 24) #[] #[]] 70, slFg (.slice none 0 0) ([]), slFg vC3_0 (fnS (So.grp kS (So.srt kS xs)) t), .c dE, slPp vS6 (plS zE k)] wr) (fun z16 z6 _ => zE.length - (intOf (z16)).toNat)
  case atStart => exact ⟨0, .slice none 0 0, by omega, rfl, rfl, (by skip; exact OwnE.cast OW.out (by kernel_rfl))⟩
  case round =>
   obtain ⟨k, vS6, hk14, rfl, rfl, hO⟩ := hrel
   clear OW
   have HPK := plS_le zE k
   have OW := Lib.hid hO
   clear hO
   gi_upto_region 6 with fail
   refine rg (fun q15 => [.v (.bool (decide ((k : Int) < (zE.length : Int))))]) (fun _ L => L) OW ?_
   clear OW; intro q15 _ Wq15 OW; simp only [↓pc, ↓pn, vE, Hint.val, Act.put, eL]
   cases hB16 : (decide ((k : Int) < (zE.length : Int)))
   case true =>
    have dhB16 := of_decide_eq_true hB16
    gi_upto_region 7 with fail
    refine rg (fun q17 => [.m (idxR 6 (.c dE) k 5 (cP hsE.src) (by omega)),
     .m (lsR (l := [.int .i64 ((zE.getD k zSn).x0), .int .i64 ((zE.getD k zSn).x1), .int .i64 ((zE.getD k zSn).x2), .int .i64 ((zE.getD k zSn).x3), .int .i64 ((zE.getD k zSn).x4)]) (d := zSn) 6 (.c dE) k 5 0 (cP hsE.src) (fun _ => rfl) (by omega) (Nat.le_of_ble_eq_true rfl) (by kernel_rfl)),
     .m (al 8),
     .m (ss 8)]) (fun q17 L => L ++ [ob ((q17 2).blk 0) #[.int .i64 ((zE.getD k zSn).x0), .int .i64 ((zE.getD k zSn).x1), .int .i64 ((zE.getD k zSn).x2), .int .i64 ((zE.getD k zSn).x3), .int .i64 ((zE.getD k zSn).x4)] 34]) OW ?_
    clear OW; intro q17 _ Wq17 OW; simp only [↓pc, ↓pn, vE, Hint.val, Act.put, eL]
    gi_upto_region 8 with fail
    refine rg (fun q18 => [.v (vS6),
     .v (.pointer (some ⟨(q17 2).blk 0, 0, none⟩)),
     .m (ls 8 ([.int .i64 ((zE.getD k zSn).x0), .int .i64 ((zE.getD k zSn).x1), .int .i64 ((zE.getD k zSn).x2), .int .i64 ((zE.getD k zSn).x3)])),
     .c [7] [] (Con.at (rd' := [slPp vS6 (plS zE k)]) (tconP vS6 (plS zE k) ((zE.getD k zSn).x0) ((zE.getD k zSn).x1) ((zE.getD k zSn).x2) ((zE.getD k zSn).x3) (by omega)) (atW (fun _ h => SlE.sq h) (fun _ h => h))),
     .v (.bool (!(decide (0 ≤ (ixP (plS zE k) ((zE.getD k zSn).x0) ((zE.getD k zSn).x1) ((zE.getD k zSn).x2) ((zE.getD k zSn).x3))))))]) (fun _ L => L) OW ?_
    clear OW; intro q18 _ Wq18 OW; simp only [↓pc, ↓pn, vE, Hint.val, Act.put, eL]
    cases hB19 : (!(decide (0 ≤ (ixP (plS zE k) ((zE.getD k zSn).x0) ((zE.getD k zSn).x1) ((zE.getD k zSn).x2) ((zE.getD k zSn).x3)))))
    case true =>
     have dhB19 := of_decide_eq_false (by first | exact (Bool.not_not _).symm.trans (congrArg (fun b => !b) hB19) | simpa using hB19)
     gi_upto_region 9 with fail
     refine rg (fun q20 => [.v (vS6),
      .v (.pointer (some ⟨(q17 2).blk 0, 0, none⟩)),
      .m (ls 8 ([.int .i64 ((zE.getD k zSn).x0), .int .i64 ((zE.getD k zSn).x1), .int .i64 ((zE.getD k zSn).x2), .int .i64 ((zE.getD k zSn).x3)])),
      .m (bs 9 1),
      .m (apB 7 9 slTPp (vS6) (xs := plS zE k) (ys := [(⟨((zE.getD k zSn).x0), ((zE.getD k zSn).x1), ((zE.getD k zSn).x2), ((zE.getD k zSn).x3)⟩ : Pp)]) h1Pp (fun _ => rfl) (by simp only [List.length_set, List.length_append, List.length_replicate, List.length_cons, List.length_nil, List.length_map, List.length_range, List.length_take, List.length_drop]; omega)),
      .v ((q20 4).val 0)]) (fun q20 L => L.set 7 (slPp ((q20 4).val 0) ((plS zE k) ++ ([(⟨((zE.getD k zSn).x0), ((zE.getD k zSn).x1), ((zE.getD k zSn).x2), ((zE.getD k zSn).x3)⟩ : Pp)]))) ++ [ob ((q20 3).blk 0) #[.int .i64 ((zE.getD k zSn).x0), .int .i64 ((zE.getD k zSn).x1), .int .i64 ((zE.getD k zSn).x2), .int .i64 ((zE.getD k zSn).x3)] 32]) OW ?_
     clear OW; intro q20 _ Wq20 OW; simp only [↓pc, ↓pn, vE, Hint.val, Act.put, eL]
     gi_upto_region 10 with fail
     refine rg (fun q21 => [.t (tb (a := .int .i64 (k : Int)) (b := .int .i64 1) fun _ _ _ _ => bin_add_nat (a := k) (b := 1) (by omega)),
      .v (.int .i64 ((k + 1 : Nat) : Int))]) (fun _ L => L) OW ?_
     clear OW; intro q21 _ Wq21 OW; simp only [↓pc, ↓pn, vE, Hint.val, Act.put, eL]
     gi_wp2
     go_roundw
     case rel => exact ⟨k + 1, (q20 4).val 0, by omega, by go_num, rfl, (by (first | rw [plS_t (by assumption)] | rw [plS_f (by assumption)]); exact OwnE.pick OW.out [0, 1, 2, 3, 4, 5, 6, 7] _ (by kernel_rfl))⟩
     case measure => (simp [intOf] <;> omega)
    have dhB19 := of_decide_eq_true (by first | exact (Bool.not_not _).symm.trans (congrArg (fun b => !b) hB19) | simpa using hB19)
    gi_upto_region 10 with fail
    refine rg (fun q22 => [.t (tb (a := .int .i64 (k : Int)) (b := .int .i64 1) fun _ _ _ _ => bin_add_nat (a := k) (b := 1) (by omega)),
     .v (.int .i64 ((k + 1 : Nat) : Int))]) (fun _ L => L) OW ?_
    clear OW; intro q22 _ Wq22 OW; simp only [↓pc, ↓pn, vE, Hint.val, Act.put, eL]
    gi_wp2
    go_roundw
    case rel => exact ⟨k + 1, vS6, by omega, by go_num, rfl, (by (first | rw [plS_t (by assumption)] | rw [plS_f (by assumption)]); exact OwnE.pick OW.out [0, 1, 2, 3, 4, 5, 6, 7] _ (by kernel_rfl))⟩
    case measure => (simp [intOf] <;> omega)
   have dhB16 := of_decide_eq_false hB16
   obtain rfl : zE.length = k := by omega
   gi_upto_region 11 with fail
   refine rg (fun q23 => [.v (vS6),
    .c [7] [] (Con.at (rd' := [slPp vS6 (plS zE zE.length)]) (tkind vS6 (plS zE zE.length) (by omega) (by omega)) (atW (fun _ h => SlE.sq h) (fun _ h => h))),
    .v (.int .i64 (knd (plS zE zE.length)))]) (fun _ L => L) OW ?_
   clear OW; intro q23 _ Wq23 OW; simp only [↓pc, ↓pn, vE, Hint.val, Act.put, eL]
   gi_upto_region 12 with fail
   refine rg (fun q24 => [.m (ld 1 (vC3_0)),
    .v (.int .i64 (knd (plS zE zE.length))),
    .v (.int .i64 (knd (plS zE zE.length))),
    .v (vS6),
    .m (idxS 7 (slPp vS6 (plS zE zE.length)) 0 4 (fun _ h => h) (by omega)),
    .m (lsS (l := [.int .i64 (((plS zE zE.length).getD 0 zPp).x0), .int .i64 (((plS zE zE.length).getD 0 zPp).x1), .int .i64 (((plS zE zE.length).getD 0 zPp).x2), .int .i64 (((plS zE zE.length).getD 0 zPp).x3)]) (d := zPp) 7 (slPp vS6 (plS zE zE.length)) 0 4 0 (fun _ h => h) (fun _ => rfl) (by omega) (Nat.le_of_ble_eq_true rfl) (by kernel_rfl)),
    .c [] [] (tbare (knd (plS zE zE.length)) (((plS zE zE.length).getD 0 zPp).x0) (((plS zE zE.length).getD 0 zPp).x1) (((plS zE zE.length).getD 0 zPp).x2) (((plS zE zE.length).getD 0 zPp).x3)),
    .v (uE),
    .m (idxR 6 (.c dE) 0 5 (cP hsE.src) (by omega)),
    .m (fldR 6 (.c dE) (0 * 5) 4 (cP hsE.src) (by omega)),
    .m (ldR (u := .int .i64 ((zE.getD 0 zSn).x4)) (d := zSn) 6 (.c dE) 0 5 4 (cP hsE.src) (fun _ => rfl) (by omega) (Nat.le_of_ble_eq_true rfl) (by kernel_rfl)),
    .v (vS6),
    .m (lenS 7 (slPp vS6 (plS zE zE.length)) (fun _ h => h)),
    .v (.agg #[.int .i64 (knd (plS zE zE.length)), .int .i64 (((plS zE zE.length).getD 0 zPp).x0), .int .i64 (tbare_0 (knd (plS zE zE.length)) (((plS zE zE.length).getD 0 zPp).x1)), .int .i64 (tbare_1 (knd (plS zE zE.length)) (((plS zE zE.length).getD 0 zPp).x2)), .int .i64 (tbare_2 (knd (plS zE zE.length)) (((plS zE zE.length).getD 0 zPp).x3)), .int .i64 ((zE.getD 0 zSn).x4), .int .i64 (((plS zE zE.length).length : Nat) : Int)]),
    .m (bs 8 1),
    .m (apB 5 8 slTFg (vC3_0) (xs := fnS (So.grp kS (So.srt kS xs)) t) (ys := [(⟨(knd (plS zE zE.length)), (((plS zE zE.length).getD 0 zPp).x0), (tbare_0 (knd (plS zE zE.length)) (((plS zE zE.length).getD 0 zPp).x1)), (tbare_1 (knd (plS zE zE.length)) (((plS zE zE.length).getD 0 zPp).x2)), (tbare_2 (knd (plS zE zE.length)) (((plS zE zE.length).getD 0 zPp).x3)), ((zE.getD 0 zSn).x4), (((plS zE zE.length).length : Nat) : Int)⟩ : Fg)]) h1Fg (fun _ => rfl) (by simp only [List.length_set, List.length_append, List.length_replicate, List.length_cons, List.length_nil, List.length_map, List.length_range, List.length_take, List.length_drop]; omega)),
    .m (stV 1 5 (slFg ((q24 15).val 0) ((fnS (So.grp kS (So.srt kS xs)) t) ++ ([(⟨(knd (plS zE zE.length)), (((plS zE zE.length).getD 0 zPp).x0), (tbare_0 (knd (plS zE zE.length)) (((plS zE zE.length).getD 0 zPp).x1)), (tbare_1 (knd (plS zE zE.length)) (((plS zE zE.length).getD 0 zPp).x2)), (tbare_2 (knd (plS zE zE.length)) (((plS zE zE.length).getD 0 zPp).x3)), ((zE.getD 0 zSn).x4), (((plS zE zE.length).length : Nat) : Int)⟩ : Fg)]))) ((q24 15).val 0) fun bs h => SlE.one ((fun _ h => h) bs h))]) (fun q24 L => (L.set 1 (ob ((q2 0).blk 0) #[(q24 15).val 0] 38)).set 5 (slFg ((q24 15).val 0) ((fnS (So.grp kS (So.srt kS xs)) t) ++ ([(⟨(knd (plS zE zE.length)), (((plS zE zE.length).getD 0 zPp).x0), (tbare_0 (knd (plS zE zE.length)) (((plS zE zE.length).getD 0 zPp).x1)), (tbare_1 (knd (plS zE zE.length)) (((plS zE zE.length).getD 0 zPp).x2)), (tbare_2 (knd (plS zE zE.length)) (((plS zE zE.length).getD 0 zPp).x3)), ((zE.getD 0 zSn).x4), (((plS zE zE.length).length : Nat) : Int)⟩ : Fg)]))) ++ [ob ((q24 14).blk 0) #[.int .i64 (knd (plS zE zE.length)), .int .i64 (((plS zE zE.length).getD 0 zPp).x0), .int .i64 (tbare_0 (knd (plS zE zE.length)) (((plS zE zE.length).getD 0 zPp).x1)), .int .i64 (tbare_1 (knd (plS zE zE.length)) (((plS zE zE.length).getD 0 zPp).x2)), .int .i64 (tbare_2 (knd (plS zE zE.length)) (((plS zE zE.length).getD 0 zPp).x3)), .int .i64 ((zE.getD 0 zSn).x4), .int .i64 (((plS zE zE.length).length : Nat) : Int)] 44]) OW ?_
   clear OW; intro q24 _ Wq24 OW; simp only [↓pc, ↓pn, vE, Hint.val, Act.put, eL]
   gi_wp2
   first | exact NextY.mk (L' := [.c b0, ob ((q2 0).blk 0) #[((q24 15).val 0)] 38, ob ((q3 1).blk 0) #[.slice A nA cA] 29, ob ((q3 1).blk 1) #[.func (.func 24) #[] #[]] 70, slFg (.slice none 0 0) ([]), slFg ((q24 15).val 0) (fnS (So.grp kS (So.srt kS xs)) (t + 1))]) (d := .c dE) OW [0, 1, 2, 3, 4, 5, 6] ⟨(q24 15).val 0, by omega, rfl⟩ (by rw [fnS_succ hgE]; kernel_rfl) | exact NextY.mk (L' := [.c b0, ob ((q2 0).blk 0) #[((q24 15).val 0)] 38, ob ((q3 1).blk 0) #[.slice A nA cA] 29, ob ((q3 1).blk 1) #[.func (.func 24) #[] #[]] 70, slFg (.slice none 0 0) ([]), slFg ((q24 15).val 0) (fnS (So.grp kS (So.srt kS xs)) (t + 1))]) (d := .c dE) OW [0, 1, 2, 3, 4, 5, 6] ⟨by omega, (q24 15).val 0, rfl⟩ (by rw [fnS_succ hgE]; kernel_rfl)
 case stopI4 =>
  rintro D c k Ls W2 hi h; exact h.elim
 case doneI4 =>
  rintro D25 Ls W26 hR OW1
  obtain ⟨vC3_0, _, rfl⟩ := hR
  clear OW
  obtain ⟨R28, OC27, OW⟩ := Clo.markE (Clo.nil _ _) OW1.out
  clear OW1
  gi_upto_region 13 with fail
  refine rg (fun q29 => [.m (ld 1 (vC3_0)),
   .v (vC3_0)]) (fun _ L => L) OW ?_
  clear OW; intro q29 _ Wq29 OW; simp only [↓pc, ↓pn, vE, Hint.val, Act.put, eL]
  gi_wp2
  exact leafM HS HH OC27 OW [.t (vC3_0)] (.l [] [] [vC3_0]) [5] [(0, 0)] rfl
end Go.Proofs.Ytdglhppcfdpcaaa.E
