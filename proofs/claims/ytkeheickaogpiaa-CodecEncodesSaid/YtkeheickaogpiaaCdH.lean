/- The codec: encoding by chips; other modes; a codec that answers. -/
import Derived.Test.YtkeheickaogpiaaCdG
import Derived.WalkKit
import Derived.Sort.CutIn
import Derived.IntWalk
namespace Go.Proofs.Ytkeheickaogpiaa
open Go Go.RowKit Go.Shelf
attribute [local go_sem] Oper.semAt_some
set_option linter.unusedVariables false
set_option linter.unusedSimpArgs false


set_option maxRecDepth 100000 in
set_option maxHeartbeats 1000000 in
theorem dEnc2_any (cc hb cb fb gb : Nat) (rest : List Value) (l : List UInt8) (hl : l.length = 64) (x : Int) (h0 : -9223372036854775808 ≤ x) (h1 : x ≤ 9223372036854775807) (p : Bool) (w : World) (H : Has [(cc, Obj.cells #[.pointer (some ⟨hb, 0, none⟩), .pointer (some ⟨cb, 0, none⟩)] 61 (0, 0)), (cb, Obj.cells #[.pointer (some ⟨fb, 0, none⟩), .slice (some ⟨gb, 0, none⟩) 5 (5 + rest.length)] 109 (0, 0)), (fb, Obj.cells fieldCells 137 (0, 0)), (gb, Obj.cells (rowV genL rest) 5 (0, 0))] w) : Calls Try.prog 12 #[.pointer (some ⟨cc, 0, none⟩), .int .i64 2, .agg (rB 64 l).toArray, .int .i64 x, .bool p] w fun e w' => e = .returned (.agg (rB 72 (encT 36 (eW2 l x p) 2)).toArray) ∧ Step [] [] w w' := by
  have HEL := True.intro
  have HDR := True.intro
  have OW : Hid (OwnS [cc, cb, fb, gb] w [(cc, Obj.cells #[.pointer (some ⟨hb, 0, none⟩), .pointer (some ⟨cb, 0, none⟩)] 61 (0, 0)), (cb, Obj.cells #[.pointer (some ⟨fb, 0, none⟩), .slice (some ⟨gb, 0, none⟩) 5 (5 + rest.length)] 109 (0, 0)), (fb, Obj.cells fieldCells 137 (0, 0)), (gb, Obj.cells (rowV genL rest) 5 (0, 0))] w) := Lib.hid (OwnS.start H)
  refine (callsIn_wide (n := 6)).1 ?_
  refine callsIn_of_wp_marks Try.func12 rfl trivial ?_ rfl
  simp only [Try.ntmps12, List.size_toArray, List.length_cons, List.length_nil, Nat.reduceAdd, Nat.reduceSub, Array.replicate_succ, Array.replicate_zero, List.push_toArray, List.append_toArray, List.nil_append, List.cons_append]
  gi_upto_region 0 with fail
  refine wpIn_region_re 9 (fun ηq1 => [.bx 4 24 (.pointer (some ⟨cc, 0, none⟩)),
      .bx 5 3 (.int .i64 2),
      .bx 6 23 (.agg (rB 64 l).toArray),
      .bx 7 4 (.bool p),
      .al 8 27 (rB 72 (List.replicate 72 0)).toArray])
    (fun ηq1 L => L ++ [((ηq1 0).blk 0, Obj.cells #[.pointer (some ⟨cc, 0, none⟩)] 24 (0, 0)), ((ηq1 1).blk 0, Obj.cells #[.int .i64 2] 3 (0, 0)), ((ηq1 2).blk 0, Obj.cells (rB 64 l).toArray 23 (0, 0)), ((ηq1 3).blk 0, Obj.cells #[.bool p] 4 (0, 0)), ((ηq1 4).blk 0, Obj.cells (rB 72 (List.replicate 72 0)).toArray 27 (0, 0))]) (by kernel_rfl) OW (fun _ => by kernel_rfl) ?_
  clear OW; intro ηq1 ysq1 Wq1 OW
  simp only [↓putE_cons, ↓putE_nil, valE, Hint.val, Act.put, List.setIfInBounds_toArray, List.set_cons_succ, List.set_cons_zero]
  gi_upto_region 1 with fail
  refine wpIn_region_re 10 (fun ηq2 => [.al 9 27 (rB 72 (List.replicate 72 0)).toArray])
    (fun ηq2 L => L ++ [((ηq2 0).blk 0, Obj.cells (rB 72 (List.replicate 72 0)).toArray 27 (0, 0))]) (by kernel_rfl) OW (fun _ => by kernel_rfl) ?_
  clear OW; intro ηq2 ysq2 Wq2 OW
  simp only [↓putE_cons, ↓putE_nil, valE, Hint.val, Act.put, List.setIfInBounds_toArray, List.set_cons_succ, List.set_cons_zero]
  gi_upto_region 2 with fail
  refine wpIn_region_re 10 (fun ηq3 => [.ld (.int .i64 2) 5 0])
    (fun ηq3 L => L) (by kernel_rfl) OW (fun _ => by kernel_rfl) ?_
  clear OW; intro ηq3 ysq3 Wq3 OW
  simp only [↓putE_cons, ↓putE_nil, valE, Hint.val, Act.put, List.setIfInBounds_toArray, List.set_cons_succ, List.set_cons_zero]
  gi_upto_region 3 with fail
  refine wpIn_region_re 10 (fun ηq4 => [.pv (.bool false),
      .pv (.bool false)])
    (fun ηq4 L => L) (by kernel_rfl) OW (fun _ => by kernel_rfl) ?_
  clear OW; intro ηq4 ysq4 Wq4 OW
  simp only [↓putE_cons, ↓putE_nil, valE, Hint.val, Act.put, List.setIfInBounds_toArray, List.set_cons_succ, List.set_cons_zero]
  gi_upto_region 9 with fail
  refine wpIn_region_re 10 (fun ηq5 => [.pv (.bool true),
      .pv (.bool true)])
    (fun ηq5 L => L) (by kernel_rfl) OW (fun _ => by kernel_rfl) ?_
  clear OW; intro ηq5 ysq5 Wq5 OW
  simp only [↓putE_cons, ↓putE_nil, valE, Hint.val, Act.put, List.setIfInBounds_toArray, List.set_cons_succ, List.set_cons_zero]
  gi_upto_region 10 with fail
  refine wpIn_region_re 11 (fun ηq6 => [.pv (.int .i64 x),
      .ld (.bool p) 7 0,
      .cl 29 #[.int .i64 x, .bool p] (fun E => .agg (rB 3 (dvirt_0 x p)).toArray) [] [] (fun E => []) (enters_of Try.func29 (by kernel_rfl) rfl) (fun w' H => cB (callsIn_wide.2 (dvirt_any x (by omega) (by omega) p w'))),
      .al 10 43 (rB 3 (List.replicate 3 0)).toArray,
      .ss 10 ((ηq6 3).blk 0) 0 43 (rB 3 (dvirt_0 x p)) (rB 3 (dvirt_0 x p)).toArray])
    (fun ηq6 L => L ++ [((ηq6 3).blk 0, Obj.cells (rB 3 (dvirt_0 x p)).toArray 43 (0, 0))]) (by kernel_rfl) OW (fun _ => by kernel_rfl) ?_
  clear OW; intro ηq6 ysq6 Wq6 OW
  simp only [↓putE_cons, ↓putE_nil, valE, Hint.val, Act.put, List.setIfInBounds_toArray, List.set_cons_succ, List.set_cons_zero]
  gi_upto_region 11 with fail
  refine wpIn_region_re 12 (fun ηq7 => [.ls (rB 64 l) 6 0,
      .cl 30 #[.agg (rB 64 l).toArray] (fun E => .func (.func 56) #[] #[.pointer (some ⟨E.blk 0, 0, none⟩)]) [] [] (fun E => [(11, (E.blk 0, Obj.cells (rB 64 l).toArray 23 (0, 0)))]) (enters_of Try.func30 (by kernel_rfl) rfl) (fun w' H => callsIn_wide.2 (dhalves_any l (by first | rfl | (simp only [List.length_set, List.length_append, List.length_replicate, List.length_cons, List.length_nil, List.length_map, List.length_range, List.length_take, List.length_drop, HEL, chkL_len, dvirt_len, HDR, hl]; done) | (simp only [List.length_set, List.length_append, List.length_replicate, List.length_cons, List.length_nil, List.length_map, List.length_range, List.length_take, List.length_drop, HEL, chkL_len, dvirt_len, HDR, hl]; omega)) w' H))])
    (fun ηq7 L => L ++ [((ηq7 1).blk 0, Obj.cells (rB 64 l).toArray 23 (0, 0))]) (by kernel_rfl) OW (fun _ => by kernel_rfl) ?_
  clear OW; intro ηq7 ysq7 Wq7 OW
  simp only [↓putE_cons, ↓putE_nil, valE, Hint.val, Act.put, List.setIfInBounds_toArray, List.set_cons_succ, List.set_cons_zero]
  gi_wp2
  refine reS_iterA (n := 6) (by omega) (gf := 56) (lb := #[.pointer (some ⟨(ηq7 1).blk 0, 0, none⟩)]) rfl (enters_of Try.func56 (by kernel_rfl) rfl) (encs := fun (x : Nat × List UInt8) => #[.int .i64 (x.1 : Int), .agg (rB 32 x.2).toArray]) (xs := (List.range 2).map fun k => (k, (l.drop (32 * k)).take 32)) (KO := [((ηq7 1).blk 0, Obj.cells (rB 64 l).toArray 23 (0, 0))]) (halves_it (6 - 1) (by omega) ((ηq7 1).blk 0) l (by first | rfl | (simp only [List.length_set, List.length_append, List.length_replicate, List.length_cons, List.length_nil, List.length_map, List.length_range, List.length_take, List.length_drop, HEL, chkL_len, dvirt_len, HDR, hl]; done) | (simp only [List.length_set, List.length_append, List.length_replicate, List.length_cons, List.length_nil, List.length_map, List.length_range, List.length_take, List.length_drop, HEL, chkL_len, dvirt_len, HDR, hl]; omega)))
    (fun k Ls => k ≤ 2 ∧ Ls = [(cc, Obj.cells #[.pointer (some ⟨hb, 0, none⟩), .pointer (some ⟨cb, 0, none⟩)] 61 (0, 0)), (cb, Obj.cells #[.pointer (some ⟨fb, 0, none⟩), .slice (some ⟨gb, 0, none⟩) 5 (5 + rest.length)] 109 (0, 0)), (fb, Obj.cells fieldCells 137 (0, 0)), (gb, Obj.cells (rowV genL rest) 5 (0, 0)), ((ηq1 0).blk 0, Obj.cells #[.pointer (some ⟨cc, 0, none⟩)] 24 (0, 0)), ((ηq1 1).blk 0, Obj.cells #[.int .i64 2] 3 (0, 0)), ((ηq1 2).blk 0, Obj.cells (rB 64 l).toArray 23 (0, 0)), ((ηq1 3).blk 0, Obj.cells #[.bool p] 4 (0, 0)), ((ηq1 4).blk 0, Obj.cells (rB 72 (List.replicate 72 0)).toArray 27 (0, 0)), ((ηq2 0).blk 0, Obj.cells (rB 72 (encT 36 (eW2 l x p) k)).toArray 27 (0, 0)), ((ηq6 3).blk 0, Obj.cells (rB 3 (dvirt_0 x p)).toArray 43 (0, 0)), ((ηq7 1).blk 0, Obj.cells (rB 64 l).toArray 23 (0, 0))]) (fun _ _ _ => False) OW (by rw [encT_zero]; exact ⟨Nat.zero_le _, rfl⟩) (OW.out.pick [11] _ (by kernel_rfl)).nd ?KOI8 ?KXI8 (fun _ => rfl) ?roundI8 ?doneI8 ?stopI8
  case KOI8 => rintro k Ls ⟨_, rfl⟩ x hx; exact mem_places [11] (by kernel_rfl) x hx
  case KXI8 => exact fun _ _ _ h => h.elim
  case roundI8 =>
    rintro lR k xE Ls W9 hxE ⟨hk10, rfl⟩ OW
    obtain ⟨hkb11, rfl⟩ := range_map_some hxE
    have HEL := encT_len (n := 36) (eW2_len hl x p) (k := k) (by omega)
    have HDR : ((l.drop (32 * k)).take 32).length = 32 := by rw [List.length_take, List.length_drop]; omega
    have OW := Lib.hid (show OwnS [cc, cb, fb, gb, (ηq1 0).blk 0, (ηq1 1).blk 0, (ηq1 2).blk 0, (ηq1 3).blk 0, (ηq1 4).blk 0, (ηq2 0).blk 0, (ηq6 3).blk 0, (ηq7 1).blk 0] W9 [(cc, Obj.cells #[.pointer (some ⟨hb, 0, none⟩), .pointer (some ⟨cb, 0, none⟩)] 61 (0, 0)), (cb, Obj.cells #[.pointer (some ⟨fb, 0, none⟩), .slice (some ⟨gb, 0, none⟩) 5 (5 + rest.length)] 109 (0, 0)), (fb, Obj.cells fieldCells 137 (0, 0)), (gb, Obj.cells (rowV genL rest) 5 (0, 0)), ((ηq1 0).blk 0, Obj.cells #[.pointer (some ⟨cc, 0, none⟩)] 24 (0, 0)), ((ηq1 1).blk 0, Obj.cells #[.int .i64 2] 3 (0, 0)), ((ηq1 2).blk 0, Obj.cells (rB 64 l).toArray 23 (0, 0)), ((ηq1 3).blk 0, Obj.cells #[.bool p] 4 (0, 0)), ((ηq1 4).blk 0, Obj.cells (rB 72 (List.replicate 72 0)).toArray 27 (0, 0)), ((ηq2 0).blk 0, Obj.cells (rB 72 (encT 36 (eW2 l x p) k)).toArray 27 (0, 0)), ((ηq6 3).blk 0, Obj.cells (rB 3 (dvirt_0 x p)).toArray 43 (0, 0)), ((ηq7 1).blk 0, Obj.cells (rB 64 l).toArray 23 (0, 0))] W9 from OW.out)
    gi_upto_region 12 with fail
    refine wpIn_region_re 12 (fun ηq12 => [.pv (.int .i64 (k : Int))])
      (fun ηq12 L => L) (by kernel_rfl) OW (fun _ => by kernel_rfl) ?_
    clear OW; intro ηq12 ysq12 Wq12 OW
    simp only [↓putE_cons, ↓putE_nil, valE, Hint.val, Act.put, List.setIfInBounds_toArray, List.set_cons_succ, List.set_cons_zero]
    gi_upto_region 13 with fail
    refine wpIn_region_re 13 (fun ηq13 => [.al 12 67 (rB 32 (List.replicate 32 0)).toArray,
        .ss 12 ((ηq13 0).blk 0) 0 67 (rB 32 ((l.drop (32 * k)).take 32)) (rB 32 ((l.drop (32 * k)).take 32)).toArray])
      (fun ηq13 L => L ++ [((ηq13 0).blk 0, Obj.cells (rB 32 ((l.drop (32 * k)).take 32)).toArray 67 (0, 0))]) (by kernel_rfl) OW (fun _ => by kernel_rfl) ?_
    clear OW; intro ηq13 ysq13 Wq13 OW
    simp only [↓putE_cons, ↓putE_nil, valE, Hint.val, Act.put, List.setIfInBounds_toArray, List.set_cons_succ, List.set_cons_zero]
    gi_wp2
    refine ⟨[((ηq13 0).blk 0, Obj.cells (rB 32 ((l.drop (32 * k)).take 32)).toArray 67 (0, 0))], OW.out, by kernel_rfl, ?_⟩
    clear OW; intro W14 OW
    have OW := Lib.hid (show OwnS [cc, cb, fb, gb, (ηq1 0).blk 0, (ηq1 1).blk 0, (ηq1 2).blk 0, (ηq1 3).blk 0, (ηq1 4).blk 0, (ηq2 0).blk 0, (ηq6 3).blk 0, (ηq7 1).blk 0, (ηq13 0).blk 0] W14 [(cc, Obj.cells #[.pointer (some ⟨hb, 0, none⟩), .pointer (some ⟨cb, 0, none⟩)] 61 (0, 0)), (cb, Obj.cells #[.pointer (some ⟨fb, 0, none⟩), .slice (some ⟨gb, 0, none⟩) 5 (5 + rest.length)] 109 (0, 0)), (fb, Obj.cells fieldCells 137 (0, 0)), (gb, Obj.cells (rowV genL rest) 5 (0, 0)), ((ηq1 0).blk 0, Obj.cells #[.pointer (some ⟨cc, 0, none⟩)] 24 (0, 0)), ((ηq1 1).blk 0, Obj.cells #[.int .i64 2] 3 (0, 0)), ((ηq1 2).blk 0, Obj.cells (rB 64 l).toArray 23 (0, 0)), ((ηq1 3).blk 0, Obj.cells #[.bool p] 4 (0, 0)), ((ηq1 4).blk 0, Obj.cells (rB 72 (List.replicate 72 0)).toArray 27 (0, 0)), ((ηq2 0).blk 0, Obj.cells (rB 72 (encT 36 (eW2 l x p) k)).toArray 27 (0, 0)), ((ηq6 3).blk 0, Obj.cells (rB 3 (dvirt_0 x p)).toArray 43 (0, 0)), ((ηq7 1).blk 0, Obj.cells (rB 64 l).toArray 23 (0, 0)), ((ηq13 0).blk 0, Obj.cells (rB 32 ((l.drop (32 * k)).take 32)).toArray 67 (0, 0))] W14 from OW.out)
    gi_upto_region 14 with fail
    refine wpIn_region_re 14 (fun ηq15 => [.ld (.pointer (some ⟨cc, 0, none⟩)) 4 0,
        .pv (.pointer (some ⟨cc, 0, none⟩)),
        .pv (.pointer (some ⟨cc, 1, none⟩)),
        .ld (.pointer (some ⟨cb, 0, none⟩)) 0 1,
        .ls (rB 32 ((l.drop (32 * k)).take 32)) 12 0,
        .ls (rB 3 (dvirt_0 x p)) 10 0,
        .cl 31 #[.pointer (some ⟨cb, 0, none⟩), .agg (rB 32 ((l.drop (32 * k)).take 32)).toArray, .agg (rB 3 (dvirt_0 x p)).toArray] (fun E => .agg (rB 4 (chkL ((l.drop (32 * k)).take 32) (dvirt_0 x p))).toArray) [(1, (cb, Obj.cells #[.pointer (some ⟨fb, 0, none⟩), .slice (some ⟨gb, 0, none⟩) 5 (5 + rest.length)] 109 (0, 0))), (2, (fb, Obj.cells fieldCells 137 (0, 0))), (3, (gb, Obj.cells (rowV genL rest) 5 (0, 0)))] [] (fun E => []) (enters_of Try.func31 (by kernel_rfl) rfl) (fun w' H => cB (CallsIn.inRound lR (callsIn_wide.2 (rchecks_any cb fb gb rest ((l.drop (32 * k)).take 32) (dvirt_0 x p) (by first | rfl | (simp only [List.length_set, List.length_append, List.length_replicate, List.length_cons, List.length_nil, List.length_map, List.length_range, List.length_take, List.length_drop, HEL, chkL_len, dvirt_len, HDR, hl]; done) | (simp only [List.length_set, List.length_append, List.length_replicate, List.length_cons, List.length_nil, List.length_map, List.length_range, List.length_take, List.length_drop, HEL, chkL_len, dvirt_len, HDR, hl]; omega)) (by first | rfl | (simp only [List.length_set, List.length_append, List.length_replicate, List.length_cons, List.length_nil, List.length_map, List.length_range, List.length_take, List.length_drop, HEL, chkL_len, dvirt_len, HDR, hl]; done) | (simp only [List.length_set, List.length_append, List.length_replicate, List.length_cons, List.length_nil, List.length_map, List.length_range, List.length_take, List.length_drop, HEL, chkL_len, dvirt_len, HDR, hl]; omega)) w' H)))),
        .al 13 68 (rB 4 (List.replicate 4 0)).toArray,
        .ss 13 ((ηq15 7).blk 0) 0 68 (rB 4 (chkL ((l.drop (32 * k)).take 32) (dvirt_0 x p))) (rB 4 (chkL ((l.drop (32 * k)).take 32) (dvirt_0 x p))).toArray])
      (fun ηq15 L => L ++ [((ηq15 7).blk 0, Obj.cells (rB 4 (chkL ((l.drop (32 * k)).take 32) (dvirt_0 x p))).toArray 68 (0, 0))]) (by kernel_rfl) OW (fun _ => by kernel_rfl) ?_
    clear OW; intro ηq15 ysq15 Wq15 OW
    simp only [↓putE_cons, ↓putE_nil, valE, Hint.val, Act.put, List.setIfInBounds_toArray, List.set_cons_succ, List.set_cons_zero]
    gi_upto_region 15 with fail
    refine wpIn_region_re 14 (fun ηq16 => [.ls (rB 72 (encT 36 (eW2 l x p) k)) 9 0,
        .ld (.int .i64 2) 5 0,
        .pv (.int .i64 (k : Int)),
        .tv (.slice (some ⟨(ηq15 7).blk 0, 0, none⟩) 4 4) (Instr.sliceAt 68 (.pointer (some ⟨(ηq15 7).blk 0, 0, none⟩)) none none none) (fun _ => sl_ara (s := 1) (by kernel_rfl) (by decide)),
        .tv (.slice (some ⟨(ηq13 0).blk 0, 0, none⟩) 32 32) (Instr.sliceAt 67 (.pointer (some ⟨(ηq13 0).blk 0, 0, none⟩)) none none none) (fun _ => sl_ara (s := 1) (by kernel_rfl) (by decide)),
        .gn (sApp 56 56 (.slice (some ⟨(ηq15 7).blk 0, 0, none⟩) 4 4) (.slice (some ⟨(ηq13 0).blk 0, 0, none⟩) 32 32)) (fun E => .slice (some ⟨E.blk 0, 0, none⟩) 36 (36 + E.num 0)) [(13, ((ηq15 7).blk 0, Obj.cells (rB 4 (chkL ((l.drop (32 * k)).take 32) (dvirt_0 x p))).toArray 68 (0, 0))), (12, ((ηq13 0).blk 0, Obj.cells (rB 32 ((l.drop (32 * k)).take 32)).toArray 67 (0, 0)))] [(ηq15 7).blk 0] (fun E => [(13, (E.blk 0, Obj.cells (rowZ (slF eB (chkL ((l.drop (32 * k)).take 32) (dvirt_0 x p) ++ (l.drop (32 * k)).take 32)) [.int .u8 0] (E.num 0)) 5 (0, 0)))]) (acts_appR (n := 4) (m := 32) (xs := (chkL ((l.drop (32 * k)).take 32) (dvirt_0 x p))) (ys := ((l.drop (32 * k)).take 32)) slT_B (fun _ => rfl) rfl (show (chkL ((l.drop (32 * k)).take 32) (dvirt_0 x p)).length = 4 by first | rfl | (simp only [List.length_set, List.length_append, List.length_replicate, List.length_cons, List.length_nil, List.length_map, List.length_range, List.length_take, List.length_drop, HEL, chkL_len, dvirt_len, HDR, hl]; done) | (simp only [List.length_set, List.length_append, List.length_replicate, List.length_cons, List.length_nil, List.length_map, List.length_range, List.length_take, List.length_drop, HEL, chkL_len, dvirt_len, HDR, hl]; omega)) (slF_lenk (k := 1) (fun _ => rfl) (by first | rfl | omega | (simp only [List.length_set, List.length_append, List.length_replicate, List.length_cons, List.length_nil, List.length_map, List.length_range, List.length_take, List.length_drop, HEL, chkL_len, dvirt_len, HDR, hl]; try omega))) (rL_whole (show ((l.drop (32 * k)).take 32).length = 32 by first | rfl | (simp only [List.length_set, List.length_append, List.length_replicate, List.length_cons, List.length_nil, List.length_map, List.length_range, List.length_take, List.length_drop, HEL, chkL_len, dvirt_len, HDR, hl]; done) | (simp only [List.length_set, List.length_append, List.length_replicate, List.length_cons, List.length_nil, List.length_map, List.length_range, List.length_take, List.length_drop, HEL, chkL_len, dvirt_len, HDR, hl]; omega))) (by first | omega | decide) (by first | omega | decide)),
        .cl 25 #[.agg (rB 72 (encT 36 (eW2 l x p) k)).toArray, .int .i64 2, .int .i64 (k : Int), .slice (some ⟨(ηq16 5).blk 0, 0, none⟩) 36 (36 + (ηq16 5).num 0)] (fun E => .agg (rB 72 ((encT 36 (eW2 l x p) k).take (36 * k) ++ (chkL ((l.drop (32 * k)).take 32) (dvirt_0 x p) ++ (l.drop (32 * k)).take 32) ++ (encT 36 (eW2 l x p) k).drop ((36 * k) + 36))).toArray) [(13, ((ηq16 5).blk 0, Obj.cells (rowZ (slF eB (chkL ((l.drop (32 * k)).take 32) (dvirt_0 x p) ++ (l.drop (32 * k)).take 32)) [.int .u8 0] ((ηq16 5).num 0)) 5 (0, 0)))] [] (fun E => []) (enters_of Try.func25 (by kernel_rfl) rfl) (fun w' H => cN (CallsIn.inRound lR (callsIn_wide.2 (dPut_any (encT 36 (eW2 l x p) k) (chkL ((l.drop (32 * k)).take 32) (dvirt_0 x p) ++ (l.drop (32 * k)).take 32) (by first | rfl | (simp only [List.length_set, List.length_append, List.length_replicate, List.length_cons, List.length_nil, List.length_map, List.length_range, List.length_take, List.length_drop, HEL, chkL_len, dvirt_len, HDR, hl]; done) | (simp only [List.length_set, List.length_append, List.length_replicate, List.length_cons, List.length_nil, List.length_map, List.length_range, List.length_take, List.length_drop, HEL, chkL_len, dvirt_len, HDR, hl]; omega)) 2 36 2 k ((ηq16 5).blk 0) ((ηq16 5).num 0) rfl rfl (by omega) (by omega) (by omega) (by omega) (by first | rfl | (simp only [List.length_set, List.length_append, List.length_replicate, List.length_cons, List.length_nil, List.length_map, List.length_range, List.length_take, List.length_drop, HEL, chkL_len, dvirt_len, HDR, hl]; done) | (simp only [List.length_set, List.length_append, List.length_replicate, List.length_cons, List.length_nil, List.length_map, List.length_range, List.length_take, List.length_drop, HEL, chkL_len, dvirt_len, HDR, hl]; omega)) w' H)))),
        .ss 9 ((ηq2 0).blk 0) 0 27 (rB 72 ((encT 36 (eW2 l x p) k).take (36 * k) ++ (chkL ((l.drop (32 * k)).take 32) (dvirt_0 x p) ++ (l.drop (32 * k)).take 32) ++ (encT 36 (eW2 l x p) k).drop ((36 * k) + 36))) (rB 72 ((encT 36 (eW2 l x p) k).take (36 * k) ++ (chkL ((l.drop (32 * k)).take 32) (dvirt_0 x p) ++ (l.drop (32 * k)).take 32) ++ (encT 36 (eW2 l x p) k).drop ((36 * k) + 36))).toArray])
      (fun ηq16 L => (L.set 9 ((ηq2 0).blk 0, Obj.cells (rB 72 ((encT 36 (eW2 l x p) k).take (36 * k) ++ (chkL ((l.drop (32 * k)).take 32) (dvirt_0 x p) ++ (l.drop (32 * k)).take 32) ++ (encT 36 (eW2 l x p) k).drop ((36 * k) + 36))).toArray 27 (0, 0))).set 13 ((ηq16 5).blk 0, Obj.cells (rowZ (slF eB (chkL ((l.drop (32 * k)).take 32) (dvirt_0 x p) ++ (l.drop (32 * k)).take 32)) [.int .u8 0] ((ηq16 5).num 0)) 5 (0, 0))) (by kernel_rfl) OW (fun _ => by kernel_rfl) ?_
    clear OW; intro ηq16 ysq16 Wq16 OW
    simp only [↓putE_cons, ↓putE_nil, valE, Hint.val, Act.put, List.setIfInBounds_toArray, List.set_cons_succ, List.set_cons_zero]
    gi_wp2
    exact NextS.mk (L' := [(cc, Obj.cells #[.pointer (some ⟨hb, 0, none⟩), .pointer (some ⟨cb, 0, none⟩)] 61 (0, 0)), (cb, Obj.cells #[.pointer (some ⟨fb, 0, none⟩), .slice (some ⟨gb, 0, none⟩) 5 (5 + rest.length)] 109 (0, 0)), (fb, Obj.cells fieldCells 137 (0, 0)), (gb, Obj.cells (rowV genL rest) 5 (0, 0)), ((ηq1 0).blk 0, Obj.cells #[.pointer (some ⟨cc, 0, none⟩)] 24 (0, 0)), ((ηq1 1).blk 0, Obj.cells #[.int .i64 2] 3 (0, 0)), ((ηq1 2).blk 0, Obj.cells (rB 64 l).toArray 23 (0, 0)), ((ηq1 3).blk 0, Obj.cells #[.bool p] 4 (0, 0)), ((ηq1 4).blk 0, Obj.cells (rB 72 (List.replicate 72 0)).toArray 27 (0, 0)), ((ηq2 0).blk 0, Obj.cells (rB 72 (encT 36 (eW2 l x p) (k + 1))).toArray 27 (0, 0)), ((ηq6 3).blk 0, Obj.cells (rB 3 (dvirt_0 x p)).toArray 43 (0, 0)), ((ηq7 1).blk 0, Obj.cells (rB 64 l).toArray 23 (0, 0))]) OW [0, 1, 2, 3, 4, 5, 6, 7, 8, 9, 10, 11] (by rw [← encT_succ (eW2_len hl x p), eW2_lt hkb11]; kernel_rfl) ⟨by omega, rfl⟩
  case stopI8 =>
    rintro D c k Ls W2 hi h; exact h.elim
  case doneI8 =>
    rintro D17 Ls W18 hR OW1 OM
    rw [show ((List.range 2).map fun k => (k, (l.drop (32 * k)).take 32)).length = 2 from by rw [List.length_map, List.length_range]] at hR
    obtain ⟨_, rfl⟩ := hR
    have OC19 := Lib.hid (Clo.mark (Clo.nil _ _) OM.out)
    clear OW OM
    have OW := Lib.hid (show OwnS [cc, cb, fb, gb, (ηq1 0).blk 0, (ηq1 1).blk 0, (ηq1 2).blk 0, (ηq1 3).blk 0, (ηq1 4).blk 0, (ηq2 0).blk 0, (ηq6 3).blk 0, (ηq7 1).blk 0] W18 [(cc, Obj.cells #[.pointer (some ⟨hb, 0, none⟩), .pointer (some ⟨cb, 0, none⟩)] 61 (0, 0)), (cb, Obj.cells #[.pointer (some ⟨fb, 0, none⟩), .slice (some ⟨gb, 0, none⟩) 5 (5 + rest.length)] 109 (0, 0)), (fb, Obj.cells fieldCells 137 (0, 0)), (gb, Obj.cells (rowV genL rest) 5 (0, 0)), ((ηq1 0).blk 0, Obj.cells #[.pointer (some ⟨cc, 0, none⟩)] 24 (0, 0)), ((ηq1 1).blk 0, Obj.cells #[.int .i64 2] 3 (0, 0)), ((ηq1 2).blk 0, Obj.cells (rB 64 l).toArray 23 (0, 0)), ((ηq1 3).blk 0, Obj.cells #[.bool p] 4 (0, 0)), ((ηq1 4).blk 0, Obj.cells (rB 72 (List.replicate 72 0)).toArray 27 (0, 0)), ((ηq2 0).blk 0, Obj.cells (rB 72 (encT 36 (eW2 l x p) 2)).toArray 27 (0, 0)), ((ηq6 3).blk 0, Obj.cells (rB 3 (dvirt_0 x p)).toArray 43 (0, 0)), ((ηq7 1).blk 0, Obj.cells (rB 64 l).toArray 23 (0, 0))] W18 from OW1.out)
    clear OW1
    have HEL := encT_len (n := 36) (eW2_len hl x p) (k := 2) (by omega)
    gi_upto_region 16 with fail
    refine wpIn_region_re 12 (fun ηq20 => [.ls (rB 72 (encT 36 (eW2 l x p) 2)) 9 0,
        .ss 8 ((ηq1 4).blk 0) 0 27 (rB 72 (encT 36 (eW2 l x p) 2)) (rB 72 (encT 36 (eW2 l x p) 2)).toArray])
      (fun ηq20 L => L.set 8 ((ηq1 4).blk 0, Obj.cells (rB 72 (encT 36 (eW2 l x p) 2)).toArray 27 (0, 0))) (by kernel_rfl) OW (fun _ => by kernel_rfl) ?_
    clear OW; intro ηq20 ysq20 Wq20 OW
    simp only [↓putE_cons, ↓putE_nil, valE, Hint.val, Act.put, List.setIfInBounds_toArray, List.set_cons_succ, List.set_cons_zero]
    gi_wp2
    exact leavesSM OC19 OW [.s (rB 72 (encT 36 (eW2 l x p) 2)) 8] (by kernel_rfl) fun _ hO => ⟨rfl, OwnS.fin H hO [] [] [] [0, 1, 2, 3] (by kernel_rfl)⟩
set_option maxRecDepth 100000 in
set_option maxHeartbeats 1000000 in
theorem dEnc0_any (cc : Nat) (m : Int) (l : List UInt8) (hl : l.length = 64) (x : Int) (p : Bool) (hm1 : m ≠ 1) (hm2 : m ≠ 2) (w : World) : Calls Try.prog 12 #[.pointer (some ⟨cc, 0, none⟩), .int .i64 m, .agg (rB 64 l).toArray, .int .i64 x, .bool p] w fun e w' => e = .returned (.agg (rB 72 (List.replicate 72 0)).toArray) ∧ Below w.heap.size w w' := by
  have H : Has [] w := has_nil
  have OW : Hid (OwnS [] w [] w) := Lib.hid (OwnS.start H)
  refine (callsIn_wide (n := 6)).1 ?_
  refine callsIn_of_wp_marks Try.func12 rfl trivial ?_ rfl
  simp only [Try.ntmps12, List.size_toArray, List.length_cons, List.length_nil, Nat.reduceAdd, Nat.reduceSub, Array.replicate_succ, Array.replicate_zero, List.push_toArray, List.append_toArray, List.nil_append, List.cons_append]
  gi_upto_region 0 with fail
  refine wpIn_region_re 5 (fun ηq1 => [.bx 0 24 (.pointer (some ⟨cc, 0, none⟩)),
      .bx 1 3 (.int .i64 m),
      .bx 2 23 (.agg (rB 64 l).toArray),
      .bx 3 4 (.bool p),
      .al 4 27 (rB 72 (List.replicate 72 0)).toArray])
    (fun ηq1 L => L ++ [((ηq1 0).blk 0, Obj.cells #[.pointer (some ⟨cc, 0, none⟩)] 24 (0, 0)), ((ηq1 1).blk 0, Obj.cells #[.int .i64 m] 3 (0, 0)), ((ηq1 2).blk 0, Obj.cells (rB 64 l).toArray 23 (0, 0)), ((ηq1 3).blk 0, Obj.cells #[.bool p] 4 (0, 0)), ((ηq1 4).blk 0, Obj.cells (rB 72 (List.replicate 72 0)).toArray 27 (0, 0))]) (by kernel_rfl) OW (fun _ => by kernel_rfl) ?_
  clear OW; intro ηq1 ysq1 Wq1 OW
  simp only [↓putE_cons, ↓putE_nil, valE, Hint.val, Act.put, List.setIfInBounds_toArray, List.set_cons_succ, List.set_cons_zero]
  gi_upto_region 1 with fail
  refine wpIn_region_re 6 (fun ηq2 => [.al 5 27 (rB 72 (List.replicate 72 0)).toArray])
    (fun ηq2 L => L ++ [((ηq2 0).blk 0, Obj.cells (rB 72 (List.replicate 72 0)).toArray 27 (0, 0))]) (by kernel_rfl) OW (fun _ => by kernel_rfl) ?_
  clear OW; intro ηq2 ysq2 Wq2 OW
  simp only [↓putE_cons, ↓putE_nil, valE, Hint.val, Act.put, List.setIfInBounds_toArray, List.set_cons_succ, List.set_cons_zero]
  gi_upto_region 2 with fail
  refine wpIn_region_re 6 (fun ηq3 => [.ld (.int .i64 m) 1 0])
    (fun ηq3 L => L) (by kernel_rfl) OW (fun _ => by kernel_rfl) ?_
  clear OW; intro ηq3 ysq3 Wq3 OW
  simp only [↓putE_cons, ↓putE_nil, valE, Hint.val, Act.put, List.setIfInBounds_toArray, List.set_cons_succ, List.set_cons_zero]
  gi_upto_region 3 with fail
  refine wpIn_region_re 6 (fun ηq4 => [.pv (.bool (m == 1)),
      .pv (.bool (m == 1))])
    (fun ηq4 L => L) (by kernel_rfl) OW (fun _ => by kernel_rfl) ?_
  clear OW; intro ηq4 ysq4 Wq4 OW
  simp only [↓putE_cons, ↓putE_nil, valE, Hint.val, Act.put, List.setIfInBounds_toArray, List.set_cons_succ, List.set_cons_zero]
  cases hB5 : (m == 1)
  case true => exact absurd (hB5.symm.trans (show _ = false from beq_false_of_ne hm1)) (by decide)
  case false =>
    have dhB5 := ne_of_beq_false hB5
    gi_upto_region 9 with fail
    refine wpIn_region_re 6 (fun ηq6 => [.pv (.bool (m == 2)),
        .pv (.bool (m == 2))])
      (fun ηq6 L => L) (by kernel_rfl) OW (fun _ => by kernel_rfl) ?_
    clear OW; intro ηq6 ysq6 Wq6 OW
    simp only [↓putE_cons, ↓putE_nil, valE, Hint.val, Act.put, List.setIfInBounds_toArray, List.set_cons_succ, List.set_cons_zero]
    cases hB7 : (m == 2)
    case true => exact absurd (hB7.symm.trans (show _ = false from beq_false_of_ne hm2)) (by decide)
    case false =>
      have dhB7 := ne_of_beq_false hB7
      gi_upto_region 16 with fail
      refine wpIn_region_re 6 (fun ηq8 => [.ls (rB 72 (List.replicate 72 0)) 5 0,
          .ss 4 ((ηq1 4).blk 0) 0 27 (rB 72 (List.replicate 72 0)) (rB 72 (List.replicate 72 0)).toArray])
        (fun ηq8 L => L) (by kernel_rfl) OW (fun _ => by kernel_rfl) ?_
      clear OW; intro ηq8 ysq8 Wq8 OW
      simp only [↓putE_cons, ↓putE_nil, valE, Hint.val, Act.put, List.setIfInBounds_toArray, List.set_cons_succ, List.set_cons_zero]
      gi_wp2
      exact leavesS OW [.s (rB 72 (List.replicate 72 0)) 4] (by kernel_rfl) fun hO => ⟨rfl, hO.done⟩
set_option maxRecDepth 100000 in
set_option maxHeartbeats 1000000 in
theorem dDec0_any (cc : Nat) (m : Int) (xs : List UInt8) (hx : xs.length = 72) (x : Int) (hm1 : m ≠ 1) (hm2 : m ≠ 2) (w : World) : Calls Try.prog 13 #[.pointer (some ⟨cc, 0, none⟩), .int .i64 m, .agg (rB 72 xs).toArray, .int .i64 x] w fun e w' => e = .returned (.tuple #[.agg (rB 64 (List.replicate 64 0)).toArray, .agg #[.int .i64 3, .int .i64 0]]) ∧ Below w.heap.size w w' := by
  have H : Has [] w := has_nil
  have OW : Hid (OwnS [] w [] w) := Lib.hid (OwnS.start H)
  refine (callsIn_wide (n := 6)).1 ?_
  refine callsIn_of_wp_marks Try.func13 rfl trivial ?_ rfl
  simp only [Try.ntmps13, List.size_toArray, List.length_cons, List.length_nil, Nat.reduceAdd, Nat.reduceSub, Array.replicate_succ, Array.replicate_zero, List.push_toArray, List.append_toArray, List.nil_append, List.cons_append]
  gi_upto_region 0 with fail
  refine wpIn_region_re 3 (fun ηq1 => [.bx 0 27 (.agg (rB 72 xs).toArray),
      .al 1 23 (rB 64 (List.replicate 64 0)).toArray,
      .al 2 30 #[.int .i64 0, .int .i64 0]])
    (fun ηq1 L => L ++ [((ηq1 0).blk 0, Obj.cells (rB 72 xs).toArray 27 (0, 0)), ((ηq1 1).blk 0, Obj.cells (rB 64 (List.replicate 64 0)).toArray 23 (0, 0)), ((ηq1 2).blk 0, Obj.cells #[.int .i64 0, .int .i64 0] 30 (0, 0))]) (by kernel_rfl) OW (fun _ => by kernel_rfl) ?_
  clear OW; intro ηq1 ysq1 Wq1 OW
  simp only [↓putE_cons, ↓putE_nil, valE, Hint.val, Act.put, List.setIfInBounds_toArray, List.set_cons_succ, List.set_cons_zero]
  gi_upto_region 1 with fail
  refine wpIn_region_re 3 (fun ηq2 => [.pv (.int .i64 m),
      .cl 32 #[.int .i64 m] (fun _ => .bool (rightB m)) [] [] (fun _ => []) (enters_of Try.func32 (by kernel_rfl) rfl) (fun w' _ => cS (callsIn_wide.2 (right_any m _))),
      .pv (.bool (!(rightB m)))])
    (fun ηq2 L => L) (by kernel_rfl) OW (fun _ => by kernel_rfl) ?_
  clear OW; intro ηq2 ysq2 Wq2 OW
  simp only [↓putE_cons, ↓putE_nil, valE, Hint.val, Act.put, List.setIfInBounds_toArray, List.set_cons_succ, List.set_cons_zero]
  cases hB3 : (!(rightB m))
  case true =>
    gi_upto_region 2 with fail
    refine wpIn_region_re 3 (fun ηq4 => [.pv (.agg (rB 64 (List.replicate 64 0)).toArray),
        .pv (.agg #[.int .i64 3, .int .i64 0]),
        .ss 1 ((ηq1 1).blk 0) 0 23 (rB 64 (List.replicate 64 0)) (rB 64 (List.replicate 64 0)).toArray,
        .ss 2 ((ηq1 2).blk 0) 0 30 ([.int .i64 3, .int .i64 0]) #[.int .i64 3, .int .i64 0]])
      (fun ηq4 L => L.set 2 ((ηq1 2).blk 0, Obj.cells #[.int .i64 3, .int .i64 0] 30 (0, 0))) (by kernel_rfl) OW (fun _ => by kernel_rfl) ?_
    clear OW; intro ηq4 ysq4 Wq4 OW
    simp only [↓putE_cons, ↓putE_nil, valE, Hint.val, Act.put, List.setIfInBounds_toArray, List.set_cons_succ, List.set_cons_zero]
    gi_wp2
    exact leavesS OW [.s (rB 64 (List.replicate 64 0)) 1, .s ([.int .i64 3, .int .i64 0]) 2] (by kernel_rfl) fun hO => ⟨rfl, hO.done⟩
  case false => exact absurd (hB3.symm.trans (show _ = true from by unfold rightB; rw [beq_false_of_ne hm1, beq_false_of_ne hm2]; rfl)) (by decide)
end Go.Proofs.Ytkeheickaogpiaa
