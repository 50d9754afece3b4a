/- Several texts in one: Hd He. -/
import Derived.Test.YtdglhppcfdpcaaaHc
import Derived.Test.YtdglhppcfdpcaaaPoN
import Derived.Test.YtdglhppcfdpcaaaGz
namespace Go.Proofs.Ytdglhppcfdpcaaa.E
open Go Go.RowKit Go.Shelf
set_option linter.unusedVariables false
set_option linter.unusedSimpArgs false
def kB : Kd Try.prog UInt8 := ⟨eB, [u1 0], 89, 5, 0, 1, fun _ => rfl, rfl, fun _ => rfl, SlT.mk' (by kernel_rfl) (by kernel_rfl) rfl⟩
/-- Is a slice nil? -/
def isNil : Value → Bool
  | .slice none _ _ => true
  | _ => false
theorem nil_run {i : Nat} {w : World} {α : Type} {en : α → List Value} {v : Value} {xs : List α} {bs : Objs} (h : SqE en v xs bs) : (sBin .eql 89 (.tmp i) (.const (.slice none 0 0)) v (.slice none 0 0)).run Try.prog w = .ok (.bool (isNil v)) w := by
  obtain ⟨a, r, rfl⟩ := h.2
  cases a <;> kernel_rfl
theorem nil_xs {α : Type} {en : α → List Value} {v : Value} {xs : List α} {bs : Objs} (h : SqE en v xs bs) (h1 : isNil v = true) : xs = [] := by
  rcases h.1 with ⟨h2, _⟩ | ⟨g, off, cs, t, fr, c, rfl, _⟩
  · exact h2
  · cases h1
set_option maxRecDepth 100000 in
theorem xclone (v : Value) (xs : List UInt8) (hx : xs.length ≤ 1000000) : Con Try.prog 88 #[v] [.p (SqE eB v xs)] [] (fun E => [slB (E.val 0) xs]) (fun E => (E.val 0)) := by
 have hf := Try.func88
 have hE := enters_of hf (by kernel_rfl) rfl
 refine Con.ro 0 rfl (fun bq0 hq0 => ?_) hE
 refine fE hf (fun w cs => ?_) hE
 refine r0 [] [(2, .slice none 0 0)] [] ?_
 refine r0 [(1, .t (tv (sBin .eql 89 (.tmp 3) (.const (.slice none 0 0)) (v) (.slice none 0 0)) (fun _ => nil_run hq0)))] [(4, .bool (isNil v))] [] ?_
 refine cB (isNil v) (fun h3 => ?_) fun h3 => ?_
 ·refine r0 [] [(2, .slice none 0 0)] [2] ?_
  refine cz kB ?_
  exact lf (.l [] [] [.slice none 0 0]) [1] [(0, 0)] [] (hf := by (try rewrite [nil_xs hq0 (by assumption)]); kernel_rfl)
 refine rr (fun q5 => [(0, .m (bs0 1 eB ([u1 0]) 5)), (2, .m (apS 1 0 slTB (.slice (some ⟨(q5 0).blk 0, 0, none⟩) 0 0) (v) (xs := []) (ys := xs) (.c bq0) (cP hq0.1) h1B (fun _ => rfl) (by simp only [List.length_set, List.length_append, List.length_replicate, List.length_cons, List.length_nil, List.length_map, List.length_range, List.length_take, List.length_drop]; omega)))]) (fun q5 => [(2, (q5 2).val 0)]) [2] (fun q5 L => L ++ [slB ((q5 2).val 0) (([]) ++ xs)]) fun q5 => ?_
 exact lf (.l [] [] [(q5 2).val 0]) [1] [(0, 0)] [] (hf := by (try rewrite [nil_xs hq0 (by assumption)]); kernel_rfl)
theorem dg_sub {P : Program} {T : TypeId} {x y : Operand} {w : World} {a : Int} {k : Nat} (h0 : -9223372036854775807 ≤ a - (k : Int)) (h1 : a - (k : Int) ≤ 9223372036854775807) : (sBin .sub T x y (.int .i64 (a - (k : Int))) (.int .i64 1)).run P w = .ok (.int .i64 (a - ((k + 1 : Nat) : Int))) w := by
  have h := bin_sub_in (P := P) (T := T) (x := x) (y := y) (w := w) (a := a - (k : Int)) (b := 1) (by omega) (by omega)
  rw [show a - (k : Int) - 1 = a - ((k + 1 : Nat) : Int) by omega] at h
  exact h
theorem dg_add {P : Program} {T : TypeId} {x y : Operand} {w : World} {k : Nat} (h : k < 9223372036854775807) : (sBin .add T x y (.int .i64 ((k : Int) - 1)) (.int .i64 1)).run P w = .ok (.int .i64 (k : Int)) w := by
  have h := bin_add_in (P := P) (T := T) (x := x) (y := y) (w := w) (a := (k : Int) - 1) (b := 1) (by omega) (by omega)
  rw [show (k : Int) - 1 + 1 = k by omega] at h
  exact h
theorem dg_0 {xs : List UInt8} : tl xs (xs.length - 0) = tlL xs := rfl
theorem dg_s {xs : List UInt8} {k : Nat} (ht : tl xs (xs.length - k) = tlL xs) (hk : 0 ≤ ((xs.length : Nat) : Int) - 1 - (k : Int)) (h : (((xs.getD (xs.length - 1 - k) 0).toNat : Int) == 0) = true) : tl xs (xs.length - (k + 1)) = tlL xs := by
  rw [show xs.length - k = (xs.length - 1 - k) + 1 by omega, tl, if_pos (show Go.Proofs.Ytdglhppcfdpcaaa.co xs (xs.length - 1 - k) = 0 from u8_eq h)] at ht
  rw [← ht]
  congr 1
  omega
theorem dg_e {xs : List UInt8} {k : Nat} (ht : tl xs (xs.length - k) = tlL xs) (hk : 0 ≤ ((xs.length : Nat) : Int) - 1 - (k : Int)) (h : (((xs.getD (xs.length - 1 - k) 0).toNat : Int) == 0) = false) : Value.int .i64 (((xs.length : Nat) : Int) - 1 - (k : Int)) = .int .i64 (((tlL xs : Nat) : Int) - 1) := by
  have h1 : Go.Proofs.Ytdglhppcfdpcaaa.co xs (xs.length - 1 - k) ≠ 0 := fun e => by
    have e1 : xs.getD (xs.length - 1 - k) 0 = 0 := e
    rw [e1] at h
    cases h
  rw [show xs.length - k = (xs.length - 1 - k) + 1 by omega, tl, if_neg h1] at ht
  exact congrArg (Value.int .i64) (by omega)
theorem dg_z {xs : List UInt8} {k : Nat} (ht : tl xs (xs.length - k) = tlL xs) (hk0 : k ≤ xs.length) (hk : ¬ 0 ≤ ((xs.length : Nat) : Int) - 1 - (k : Int)) : Value.int .i64 (((xs.length : Nat) : Int) - 1 - (k : Int)) = .int .i64 (((tlL xs : Nat) : Int) - 1) := by
  rw [show xs.length - k = 0 by omega] at ht
  rw [← ht]
  exact congrArg (Value.int .i64) (by show _ = ((0 : Nat) : Int) - 1; omega)
attribute [local irreducible] tlL
set_option maxRecDepth 100000 in
theorem xdeg (v : Value) (xs : List UInt8) (hx : xs.length ≤ 1000000) : Con Try.prog 86 #[v] [.p (SqE eB v xs)] [] (fun _ => []) (fun _ => i6 (((tlL xs : Nat) : Int) - 1)) := by
 have hf := Try.func86
 have hE := enters_of hf (by kernel_rfl) rfl
 refine Con.ro 0 rfl (fun bq0 hq0 => ?_) hE
 refine fE hf (fun w cs => ?_) hE
 refine r0 [] [(2, i6 0)] [] ?_
 refine r0 [(1, lnR hq0.1 0), (2, sI (xs.length : Int) (1) (by omega))] [(3, i6 ((xs.length : Int) - 1))] [] ?_
 refine lq (fun k => k ≤ xs.length ∧ (tl xs (xs.length - k) = tlL xs)) (fun k => [(3, i6 (((xs.length : Nat) : Int) - 1 - ((k : Nat) : Int)))]) (fun _ L => L) (fun k => xs.length - k) 0 ⟨by omega, dg_0⟩ (by rw [show ((xs.length : Nat) : Int) - 1 - ((0 : Nat) : Int) = (xs.length : Int) - 1 by omega]; kernel_rfl) (by kernel_rfl) (fun k ⟨hk3, ht⟩ => ?_)
 cases h4 : (decide (0 ≤ (((xs.length : Nat) : Int) - 1 - ((k : Nat) : Int))))
 case true =>
  have dh4 := of_decide_eq_true h4
  refine r0 [(1, .t (tk (show Value.bool (decide (0 ≤ (((xs.length : Nat) : Int) - 1 - ((k : Nat) : Int)))) = .bool true from congrArg Value.bool h4))), (4, .t (tk (show i6 (((xs.length : Nat) : Int) - 1 - ((k : Nat) : Int)) = i6 ((xs.length - 1 - k : Nat) : Int) from congrArg (Value.int .i64) (by omega)))), (5, ixR hq0.1 0 (xs.length - 1 - k) 1), (6, gtR kB hq0.1 0 (xs.length - 1 - k) 0)] [(15, .bool (((xs.getD (xs.length - 1 - k) 0).toNat : Int) == 0))] [] ?_
  refine cEq ((xs.getD (xs.length - 1 - k) 0).toNat : Int) 0 (fun h6 dh6 => ?_) fun h6 dh6 => ?_
  ·refine r0 [(1, .t (tv (sBin .sub 3 (.tmp 16) (.const (i6 1)) (i6 (((xs.length : Nat) : Int) - 1 - ((k : Nat) : Int))) (i6 1)) (fun _ => dg_sub (by omega) (by omega))))] [(3, i6 (((xs.length : Nat) : Int) - 1 - ((k + 1 : Nat) : Int)))] [3] ?_
   exact le (k + 1) ⟨by omega, dg_s ht (by assumption) (by assumption)⟩ (by omega) (by kernel_rfl) [0] (by kernel_rfl)
  refine lx ?_
  refine r0 [] [(2, i6 (((xs.length : Nat) : Int) - 1 - ((k : Nat) : Int)))] [2] ?_
  exact lfV (i6 (((xs.length : Nat) : Int) - 1 - ((k : Nat) : Int))) Env.zero (by first | exact dg_e ht (by assumption) (by assumption) | exact dg_z ht (by assumption) (by assumption)) [] [(0, 0)] []
 have dh4 := of_decide_eq_false h4
 refine r0 [(1, .t (tk (show Value.bool (decide (0 ≤ (((xs.length : Nat) : Int) - 1 - ((k : Nat) : Int)))) = .bool false from congrArg Value.bool h4))), (3, .d), (4, .d), (5, .d), (6, .d), (7, .d)] [(15, .bool false)] [] ?_
 refine cF _ rfl ?_
 refine lx ?_
 refine r0 [] [(2, i6 (((xs.length : Nat) : Int) - 1 - ((k : Nat) : Int)))] [2] ?_
 exact lfV (i6 (((xs.length : Nat) : Int) - 1 - ((k : Nat) : Int))) Env.zero (by first | exact dg_e ht (by assumption) (by assumption) | exact dg_z ht (by assumption) (by assumption)) [] [(0, 0)] []
theorem cloneT (v : Value) (xs : List UInt8) (n : Nat) (hn : n ≤ xs.length) (hx : xs.length ≤ 1000000) : Con Try.prog 88 #[sbV v 0 n 1] [.p (SqE eB v xs)] [] (fun E => [slB (E.val 0) (xs.take n)]) (fun E => E.val 0) :=
  Con.at (xclone (sbV v 0 n 1) (xs.take n) (by rw [List.length_take]; omega)) (atW (fun _ h => SqE.take (en := eB) (k := 1) (fun _ => rfl) h hn) fun _ h => h)
set_option maxRecDepth 100000 in
theorem xtrim (v : Value) (xs : List UInt8) (hx : xs.length ≤ 1000000) : Con Try.prog 89 #[v] [.p (SqE eB v xs)] [] (fun E => [slB (E.val 0) (trimL xs)]) (fun E => (E.val 0)) := by
 have htl := tlL_le xs
 have hf := Try.func89
 have hE := enters_of hf (by kernel_rfl) rfl
 refine Con.ro 0 rfl (fun bq0 hq0 => ?_) hE
 refine fE hf (fun w cs => ?_) hE
 refine r0 [] [(2, .slice none 0 0)] [] ?_
 refine rr (fun _ => [(2, .c [0] [] (Con.at (rd' := [.c bq0]) (xdeg v xs (by omega)) (atC hq0 (fun _ h => h)))), (3, .t (tv (sBin .add 3 (.tmp 5) (.const (i6 1)) (i6 (((tlL xs : Nat) : Int) - 1)) (i6 1)) (fun _ => dg_add (by omega)))), (4, .m (slH 0 (.c bq0) (tlL xs) 1 (cP hq0) (by omega))), (5, .c [0] [1] (Con.at (rd' := [.c bq0]) (cloneT v xs (tlL xs) (by omega) (by omega)) (atC hq0 (fun _ h => h))))]) (fun q2 => [(2, (q2 5).val 0)]) [2] (fun q2 L => L ++ [slB ((q2 5).val 0) ((xs).take ((tlL xs)))]) fun q2 => ?_
 exact lf (.l [] [] [((q2 5).val 0), (q2 5).val 0]) [1] [(0, 0)] [] (hf := by kernel_rfl)
attribute [local irreducible] trimL
theorem muTo_nx {p q : List UInt8} {i j : Nat} (h : i + j < p.length + q.length) : muTo p q i (j + 1) = (muTo p q i j).set (i + j) ((muTo p q i j).getD (i + j) 0 ^^^ gm (p.getD i 0) (q.getD j 0)) := by
  rw [← muTo_set, ← muTo_co h]; rfl
attribute [local irreducible] muTo
set_option maxRecDepth 100000 in
theorem xpmul (g : Nat) (v u : Value) (p q : List UInt8) (hp : p.length ≤ 50000) (hq : q.length ≤ 50000) : Con Try.prog 83 #[pt g 0, v, u] [ob g (rB 255 exB ++ rN 256 logL).toArray 131, .p (SqE eB v p), .p (SqE eB u q)] [] (fun E => [slB (E.val 0) (mulL p q)]) (fun E => (E.val 0)) := by
 have hf := Try.func83
 have hE := enters_of hf (by kernel_rfl) rfl
 refine Con.ro 1 rfl (fun bq1 hq1 => ?_) hE
 refine Con.ro 2 rfl (fun bq2 hq2 => ?_) hE
 refine fE hf (fun w cs => ?_) hE
 have hlp := trimL_len p
 have hlq := trimL_len q
 have tp2 := tlL_le p
 have tq2 := tlL_le q
 refine r0 [] [(6, .slice none 0 0)] [] ?_
 refine rr (fun q2 => [(1, .c [1] [3] (Con.at (rd' := [.c bq1]) (xtrim v p (by omega)) (atC hq1 (fun _ h => h)))), (3, .c [2] [4] (Con.at (rd' := [.c bq2]) (xtrim u q (by omega)) (atC hq2 (fun _ h => h))))]) (fun q2 => [(1, ((q2 1).val 0)), (2, ((q2 3).val 0))]) [1, 2] (fun q2 L => L ++ [slB ((q2 1).val 0) (trimL p), slB ((q2 3).val 0) (trimL q)]) fun q2 => ?_
 refine rr (fun _ => [(1, lnS kB ((q2 1).val 0) (trimL p) 3), (3, lnS kB ((q2 3).val 0) (trimL q) 4), (4, ad ((trimL p).length) ((trimL q).length)), (5, mkS kB 5 (((trimL p).length) + ((trimL q).length)))]) (fun q3 => [(7, .slice (some ⟨(q3 5).blk 0, 0, none⟩) (((trimL p).length) + ((trimL q).length)) (((trimL p).length) + ((trimL q).length)))]) [] (fun q3 L => L ++ [slB (.slice (some ⟨(q3 5).blk 0, 0, none⟩) (((trimL p).length) + ((trimL q).length)) (((trimL p).length) + ((trimL q).length))) (List.replicate (((trimL p).length) + ((trimL q).length)) 0)]) fun q3 => ?_
 refine r0 [(1, lnS kB ((q2 1).val 0) (trimL p) 3)] [(22, ((q2 1).val 0)), (23, i6 (((trimL p).length : Nat) : Int)), (24, i6 0)] [] ?_
 refine lq (fun i => i ≤ (trimL p).length) (fun i => [(24, i6 (i : Int))]) (fun i L => L.set 5 (slB (.slice (some ⟨(q3 5).blk 0, 0, none⟩) (((trimL p).length) + ((trimL q).length)) (((trimL p).length) + ((trimL q).length))) (muTo (trimL p) (trimL q) i 0))) (fun i => ((trimL p).length) - i) 0 (by omega) (by kernel_rfl) (by rw [muTo_start]; kernel_rfl) (fun i hk5 => ?_)
 refine r0 [] [(25, .bool (decide ((i : Int) < (((trimL p).length : Nat) : Int))))] [] ?_
 refine cLt (i : Int) (((trimL p).length : Nat) : Int) (fun h7 dh7 => ?_) fun h7 dh7 => ?_
 ·refine r0 [(1, ixS kB ((q2 1).val 0) (trimL p) 3 i), (2, gtS kB ((q2 1).val 0) (trimL p) 3 i 0)] [(8, i6 (i : Int)), (9, u1 (((trimL p).getD i 0).toNat : Int))] [] ?_
  refine r0 [(1, lnS kB ((q2 3).val 0) (trimL q) 4)] [(29, ((q2 3).val 0)), (30, i6 (((trimL q).length : Nat) : Int)), (31, i6 0)] [] ?_
  refine lq (fun j => j ≤ (trimL q).length) (fun j => [(31, i6 (j : Int))]) (fun j L => L.set 5 (slB (.slice (some ⟨(q3 5).blk 0, 0, none⟩) (((trimL p).length) + ((trimL q).length)) (((trimL p).length) + ((trimL q).length))) (muTo (trimL p) (trimL q) i j))) (fun j => ((trimL q).length) - j) 0 (by omega) (by kernel_rfl) (by kernel_rfl) (fun j hk10 => ?_)
  have hml := muTo_len (trimL p) (trimL q) i j
  refine r0 [] [(32, .bool (decide ((j : Int) < (((trimL q).length : Nat) : Int))))] [] ?_
  refine cLt (j : Int) (((trimL q).length : Nat) : Int) (fun h12 dh12 => ?_) fun h12 dh12 => ?_
  ·refine r0 [(1, ixS kB ((q2 3).val 0) (trimL q) 4 j), (2, gtS kB ((q2 3).val 0) (trimL q) 4 j 0)] [(10, i6 (j : Int)), (11, u1 (((trimL q).getD j 0).toNat : Int))] [] ?_
   refine rr (fun _ => [(3, ad i j), (4, ixS kB (.slice (some ⟨(q3 5).blk 0, 0, none⟩) (((trimL p).length) + ((trimL q).length)) (((trimL p).length) + ((trimL q).length))) (muTo (trimL p) (trimL q) i j) 5 (i + j)), (5, gtS kB (.slice (some ⟨(q3 5).blk 0, 0, none⟩) (((trimL p).length) + ((trimL q).length)) (((trimL p).length) + ((trimL q).length))) (muTo (trimL p) (trimL q) i j) 5 (i + j) 0), (9, .c [0] [] (xmul g ((trimL p).getD i 0) ((trimL q).getD j 0))), (10, .t (tb (a := u1 (((muTo (trimL p) (trimL q) i j).getD (i + j) 0).toNat : Int)) (b := u1 ((gm ((trimL p).getD i 0) ((trimL q).getD j 0)).toNat : Int)) fun _ _ _ _ => bin_xor_u8 ((muTo (trimL p) (trimL q) i j).getD (i + j) 0) ((gm ((trimL p).getD i 0) ((trimL q).getD j 0))))), (11, ixS kB (.slice (some ⟨(q3 5).blk 0, 0, none⟩) (((trimL p).length) + ((trimL q).length)) (((trimL p).length) + ((trimL q).length))) (muTo (trimL p) (trimL q) i j) 5 (i + j)), (12, wfS kB (.slice (some ⟨(q3 5).blk 0, 0, none⟩) (((trimL p).length) + ((trimL q).length)) (((trimL p).length) + ((trimL q).length))) (muTo (trimL p) (trimL q) i j) 5 (i + j) 0 (((muTo (trimL p) (trimL q) i j).getD (i + j) 0) ^^^ (gm ((trimL p).getD i 0) ((trimL q).getD j 0))) (u1 ((((muTo (trimL p) (trimL q) i j).getD (i + j) 0) ^^^ (gm ((trimL p).getD i 0) ((trimL q).getD j 0))).toNat : Int)) (by kernel_rfl))]) (fun _ => []) [] (fun _ L => L.set 5 (slB (.slice (some ⟨(q3 5).blk 0, 0, none⟩) (((trimL p).length) + ((trimL q).length)) (((trimL p).length) + ((trimL q).length))) ((muTo (trimL p) (trimL q) i j).set (i + j) (((muTo (trimL p) (trimL q) i j).getD (i + j) 0) ^^^ (gm ((trimL p).getD i 0) ((trimL q).getD j 0)))))) fun q14 => ?_
   refine r0 [(0, ad j 1)] [(31, i6 ((j + 1 : Nat) : Int))] [31] ?_
   exact le (j + 1) (by omega) (by omega) (by kernel_rfl) [0, 1, 2, 3, 4, 5] (by rw [muTo_nx (by omega)]; kernel_rfl)
  obtain rfl : j = (trimL q).length := by omega
  refine lx ?_
  refine r0 [(0, ad i 1)] [(24, i6 ((i + 1 : Nat) : Int))] [24] ?_
  exact le (i + 1) (by omega) (by omega) (by kernel_rfl) [0, 1, 2, 3, 4, 5] (by rw [← muTo_next (trimL p) (trimL q) i]; kernel_rfl)
 obtain rfl : i = (trimL p).length := by omega
 have hme := muTo_len (trimL p) (trimL q) (trimL p).length 0
 refine lx ?_
 refine rr (fun _ => [(1, .c [5] [6] (Con.at (rd' := [slB (.slice (some ⟨(q3 5).blk 0, 0, none⟩) (((trimL p).length) + ((trimL q).length)) (((trimL p).length) + ((trimL q).length))) (muTo (trimL p) (trimL q) ((trimL p).length) 0)]) (xtrim (.slice (some ⟨(q3 5).blk 0, 0, none⟩) (((trimL p).length) + ((trimL q).length)) (((trimL p).length) + ((trimL q).length))) (muTo (trimL p) (trimL q) ((trimL p).length) 0) (by omega)) (atW (fun _ h => SlE.sq h) (fun _ h => h))))]) (fun q17 => [(6, ((q17 1).val 0))]) [6] (fun q17 L => L ++ [slB ((q17 1).val 0) (trimL (muTo (trimL p) (trimL q) ((trimL p).length) 0))]) fun q17 => ?_
 exact lf (.l [] [] [((q17 1).val 0), (q17 1).val 0]) [6] [(0, 0), (1, 1), (2, 2)] [] (hf := by rw [← muTo_all, ← hlp]; kernel_rfl)
theorem mdIn_nx {q : List UInt8} {a : UInt8} {o : List UInt8} {z j : Nat} (h : z + j < o.length) : mdIn q a o z (j + 1) = (mdIn q a o z j).set (z + j) ((mdIn q a o z j).getD (z + j) 0 ^^^ gm a (q.getD j 0)) := by
  rw [← mdIn_set, ← mdIn_co h]; rfl
theorem mdTo_nx {p q : List UInt8} {d k : Nat} {t : UInt8} (h : d ≤ p.length - 1 - k) : mdTo p q d t (k + 1) = mdIn q (gm ((mdTo p q d t k).getD (p.length - 1 - k) 0) t) (mdTo p q d t k) (p.length - 1 - k - d) (d + 1) := (mdIn_all h).symm
theorem inv_ok {b : UInt8} (h : b ≠ 0) : (xdiv_1 b != 0) = false := by
  unfold xdiv_1
  rw [show ((b.toNat : Int) == 0) = false from beq_false_of_ne fun e => h (UInt8.toNat_inj.1 (by show b.toNat = 0; omega))]
  rfl
attribute [local irreducible] mdTo mdIn
set_option maxRecDepth 100000 in
theorem xpmod (g : Nat) (v u : Value) (p q : List UInt8) (d : Nat) (t : UInt8) (hp : p.length ≤ 50000) (hq : q.length ≤ 50000) (hd : tlL q = d + 1) (hpd : d ≤ p.length) (ht : xdiv_0 1 (q.getD d 0) = t) : Con Try.prog 67 #[pt g 0, v, u] [ob g (rB 255 exB ++ rN 256 logL).toArray 131, .p (SqE eB v p), .p (SqE eB u q)] [] (fun E => [slB (E.val 0) (modL p q t)]) (fun E => .tuple #[(E.val 0), i6 0]) := by
 have hf := Try.func67
 have hE := enters_of hf (by kernel_rfl) rfl
 refine Con.ro 1 rfl (fun bq1 hq1 => ?_) hE
 refine Con.ro 2 rfl (fun bq2 hq2 => ?_) hE
 refine fE hf (fun w cs => ?_) hE
 have tq2 := tlL_le q
 have tq3 : q.getD d 0 ≠ 0 := tlL_top q hd
 refine r0 [] [(6, .slice none 0 0), (7, i6 0)] [] ?_
 refine rr (fun q2 => [(1, .c [2] [] (Con.at (rd' := [.c bq2]) (xdeg u q (by omega)) (atC hq2 (fun _ h => h)))), (2, .t (tk (show i6 (((tlL q : Nat) : Int) - 1) = i6 (d : Int) from congrArg (Value.int .i64) (by omega))))]) (fun _ => [(8, i6 (d : Int))]) [] (fun _ L => L) fun q2 => ?_
 refine r0 [(1, .t (tk (show Value.bool (decide ((d : Int) < 0)) = .bool false from congrArg Value.bool (by exact decide_eq_false (by omega)))))] [(18, .bool false)] [] ?_
 refine cF _ rfl ?_
 refine r0 [(3, ixR hq2.1 2 d 1), (4, gtR kB hq2.1 2 d 0), (5, .c [0] [] (xinv g (q.getD d 0))), (9, .t (tk (show u1 ((xdiv_0 (1 : UInt8) (q.getD d 0)).toNat : Int) = u1 (t.toNat : Int) from congrArg (fun z : UInt8 => Value.int .u8 (z.toNat : Int)) ht)))] [(9, u1 (t.toNat : Int)), (10, i6 (xdiv_1 (q.getD d 0)))] [] ?_
 refine r0 [(1, .t (tk (show Value.bool ((xdiv_1 (q.getD d 0)) != 0) = .bool false from congrArg Value.bool (by exact inv_ok tq3))))] [(29, .bool false)] [] ?_
 refine cF _ rfl ?_
 refine rr (fun _ => [(1, .c [1] [3] (Con.at (rd' := [.c bq1]) (xclone v p (by omega)) (atC hq1 (fun _ h => h))))]) (fun q6 => [(11, ((q6 1).val 0))]) [] (fun q6 L => L ++ [slB ((q6 1).val 0) p]) fun q6 => ?_
 refine r0 [(1, lnS kB ((q6 1).val 0) p 3), (2, sI (p.length : Int) (1) (by omega))] [(12, i6 ((p.length : Int) - 1))] [] ?_
 refine lq (fun k => k ≤ p.length - d) (fun k => [(12, i6 (((p.length : Nat) : Int) - 1 - ((k : Nat) : Int)))]) (fun k L => L.set 3 (slB ((q6 1).val 0) (mdTo p q d t k))) (fun k => (p.length - d) - k) 0 (by omega) (by rw [show ((p.length : Nat) : Int) - 1 - ((0 : Nat) : Int) = (p.length : Int) - 1 by omega]; kernel_rfl) (by kernel_rfl) (fun k hk8 => ?_)
 have hml := mdTo_len p q d t k
 refine r0 [] [(38, .bool (decide ((d : Int) ≤ (((p.length : Nat) : Int) - 1 - ((k : Nat) : Int)))))] [] ?_
 refine cLe (d : Int) (((p.length : Nat) : Int) - 1 - ((k : Nat) : Int)) (fun h10 dh10 => ?_) fun h10 dh10 => ?_
 ·refine r0 [(2, .t (tk (show i6 (((p.length : Nat) : Int) - 1 - ((k : Nat) : Int)) = i6 ((p.length - 1 - k : Nat) : Int) from congrArg (Value.int .i64) (by omega)))), (3, ixS kB ((q6 1).val 0) (mdTo p q d t k) 3 (p.length - 1 - k)), (4, gtS kB ((q6 1).val 0) (mdTo p q d t k) 3 (p.length - 1 - k) 0), (6, .c [0] [] (xmul g ((mdTo p q d t k).getD (p.length - 1 - k) 0) t))] [(13, u1 ((gm ((mdTo p q d t k).getD (p.length - 1 - k) 0) t).toNat : Int))] [] ?_
  refine r0 [(1, ad d 1)] [(49, i6 ((d + 1 : Nat) : Int)), (50, i6 0)] [] ?_
  refine lq (fun j => j ≤ d + 1) (fun j => [(50, i6 (j : Int))]) (fun j L => L.set 3 (slB ((q6 1).val 0) (mdIn q (gm ((mdTo p q d t k).getD (p.length - 1 - k) 0) t) (mdTo p q d t k) (p.length - 1 - k - d) j))) (fun j => (d + 1) - j) 0 (by omega) (by kernel_rfl) (by rw [mdIn_zero]; kernel_rfl) (fun j hk13 => ?_)
  have hil := mdIn_len q (gm ((mdTo p q d t k).getD (p.length - 1 - k) 0) t) (mdTo p q d t k) (p.length - 1 - k - d) j
  refine r0 [] [(51, .bool (decide ((j : Int) < ((d + 1 : Nat) : Int))))] [] ?_
  refine cLt (j : Int) ((d + 1 : Nat) : Int) (fun h15 dh15 => ?_) fun h15 dh15 => ?_
  ·refine r0 [] [(14, i6 (j : Int))] [] ?_
   refine rr (fun _ => [(1, .t (tk (show i6 (((p.length : Nat) : Int) - 1 - ((k : Nat) : Int)) = i6 ((p.length - 1 - k : Nat) : Int) from congrArg (Value.int .i64) (by omega)))), (3, .t (tb (a := i6 ((p.length - 1 - k : Nat) : Int)) (b := i6 (d : Int)) fun _ _ _ _ => bin_sub_n (a := p.length - 1 - k) (b := d) (by omega) (by omega))), (5, ad ((p.length - 1 - k) - d) j), (6, ixS kB ((q6 1).val 0) (mdIn q (gm ((mdTo p q d t k).getD (p.length - 1 - k) 0) t) (mdTo p q d t k) (p.length - 1 - k - d) j) 3 (((p.length - 1 - k) - d) + j)), (7, gtS kB ((q6 1).val 0) (mdIn q (gm ((mdTo p q d t k).getD (p.length - 1 - k) 0) t) (mdTo p q d t k) (p.length - 1 - k - d) j) 3 (((p.length - 1 - k) - d) + j) 0), (12, ixR hq2.1 2 j 1), (13, gtR kB hq2.1 2 j 0), (14, .c [0] [] (xmul g (gm ((mdTo p q d t k).getD (p.length - 1 - k) 0) t) (q.getD j 0))), (15, .t (tb (a := u1 (((mdIn q (gm ((mdTo p q d t k).getD (p.length - 1 - k) 0) t) (mdTo p q d t k) (p.length - 1 - k - d) j).getD (((p.length - 1 - k) - d) + j) 0).toNat : Int)) (b := u1 ((gm (gm ((mdTo p q d t k).getD (p.length - 1 - k) 0) t) (q.getD j 0)).toNat : Int)) fun _ _ _ _ => bin_xor_u8 ((mdIn q (gm ((mdTo p q d t k).getD (p.length - 1 - k) 0) t) (mdTo p q d t k) (p.length - 1 - k - d) j).getD (((p.length - 1 - k) - d) + j) 0) ((gm (gm ((mdTo p q d t k).getD (p.length - 1 - k) 0) t) (q.getD j 0))))), (16, ixS kB ((q6 1).val 0) (mdIn q (gm ((mdTo p q d t k).getD (p.length - 1 - k) 0) t) (mdTo p q d t k) (p.length - 1 - k - d) j) 3 (((p.length - 1 - k) - d) + j)), (17, wfS kB ((q6 1).val 0) (mdIn q (gm ((mdTo p q d t k).getD (p.length - 1 - k) 0) t) (mdTo p q d t k) (p.length - 1 - k - d) j) 3 (((p.length - 1 - k) - d) + j) 0 (((mdIn q (gm ((mdTo p q d t k).getD (p.length - 1 - k) 0) t) (mdTo p q d t k) (p.length - 1 - k - d) j).getD (((p.length - 1 - k) - d) + j) 0) ^^^ (gm (gm ((mdTo p q d t k).getD (p.length - 1 - k) 0) t) (q.getD j 0))) (u1 ((((mdIn q (gm ((mdTo p q d t k).getD (p.length - 1 - k) 0) t) (mdTo p q d t k) (p.length - 1 - k - d) j).getD (((p.length - 1 - k) - d) + j) 0) ^^^ (gm (gm ((mdTo p q d t k).getD (p.length - 1 - k) 0) t) (q.getD j 0))).toNat : Int)) (by kernel_rfl))]) (fun _ => []) [] (fun _ L => L.set 3 (slB ((q6 1).val 0) ((mdIn q (gm ((mdTo p q d t k).getD (p.length - 1 - k) 0) t) (mdTo p q d t k) (p.length - 1 - k - d) j).set (((p.length - 1 - k) - d) + j) (((mdIn q (gm ((mdTo p q d t k).getD (p.length - 1 - k) 0) t) (mdTo p q d t k) (p.length - 1 - k - d) j).getD (((p.length - 1 - k) - d) + j) 0) ^^^ (gm (gm ((mdTo p q d t k).getD (p.length - 1 - k) 0) t) (q.getD j 0)))))) fun q17 => ?_
   refine r0 [(0, ad j 1)] [(50, i6 ((j + 1 : Nat) : Int))] [50] ?_
   exact le (j + 1) (by omega) (by omega) (by kernel_rfl) [0, 1, 2, 3] (by rw [mdIn_nx (by omega)]; kernel_rfl)
  obtain rfl : j = d + 1 := by omega
  refine lx ?_
  refine r0 [(1, .t (tv (sBin .sub 3 (.tmp 39) (.const (i6 1)) (i6 (((p.length : Nat) : Int) - 1 - ((k : Nat) : Int))) (i6 1)) (fun _ => dg_sub (by omega) (by omega))))] [(12, i6 (((p.length : Nat) : Int) - 1 - ((k + 1 : Nat) : Int)))] [12] ?_
  exact le (k + 1) (by omega) (by omega) (by kernel_rfl) [0, 1, 2, 3] (by rw [mdTo_nx (by omega)]; kernel_rfl)
 obtain rfl : k = p.length - d := by omega
 have hme := mdTo_len p q d t (p.length - d)
 refine lx ?_
 refine rr (fun _ => [(1, .c [3] [4] (Con.at (rd' := [slB ((q6 1).val 0) (mdTo p q d t (p.length - d))]) (xtrim ((q6 1).val 0) (mdTo p q d t (p.length - d)) (by omega)) (atW (fun _ h => SlE.sq h) (fun _ h => h))))]) (fun q20 => [(6, ((q20 1).val 0)), (7, i6 0)]) [6, 7] (fun q20 L => L ++ [slB ((q20 1).val 0) (trimL (mdTo p q d t (p.length - d)))]) fun q20 => ?_
 exact lf (.l [] [] [((q20 1).val 0), (q20 1).val 0]) [4] [(0, 0), (1, 1), (2, 2)] [] (hf := by rw [show modL p q t = trimL (mdTo p q d t (p.length - d)) by unfold modL; rw [hd, Nat.add_sub_cancel]]; kernel_rfl)
end Go.Proofs.Ytdglhppcfdpcaaa.E
namespace Go.Proofs.Ytdglhppcfdpcaaa.E
open Go Go.RowKit Go.Shelf
set_option linter.unusedVariables false
set_option linter.unusedSimpArgs false
set_option maxRecDepth 100000 in
theorem xback_it (g : Nat) (v : Value) (xs : List UInt8) (hx : xs.length ≤ 1000000) (bs : Objs) (h : SrE eB v xs bs) : IterE 5 Try.prog 110 #[pt g 0] (fun (x : Nat × UInt8) => #[i6 (x.1 : Int), u1 (x.2.toNat : Int)]) ((List.range xs.length).map fun j => (xs.length - 1 - j, xs.getD (xs.length - 1 - j) 0)) (List.flatten [[(g, .cells #[v] 89 (0, 0))], bs]) := by
 refine gi (KO := [[(g, .cells #[v] 89 (0, 0))], bs]) Try.func110 (fun lY JY JX WI RI hJ hY hI => ?_)
 refine r0 [(0, .l 0), (1, lnR h 1), (2, sI (xs.length : Int) (1) (by omega))] [(3, i6 ((xs.length : Int) - 1))] [] ?_
 refine lqI (fun k => k ≤ xs.length) (fun k => [(3, i6 (((xs.length : Nat) : Int) - 1 - ((k : Nat) : Int)))]) (fun _ L => L) (fun k => xs.length - k) (fun k => k) 0 (by omega) hI (by rw [show ((xs.length : Nat) : Int) - 1 - ((0 : Nat) : Int) = (xs.length : Int) - 1 by omega]; kernel_rfl) (by kernel_rfl) (fun k R4 W5 hk2 hI3 => ?_)
 refine r0 [] [(8, .bool (decide (0 ≤ (((xs.length : Nat) : Int) - 1 - ((k : Nat) : Int)))))] [] ?_
 refine cLe 0 (((xs.length : Nat) : Int) - 1 - ((k : Nat) : Int)) (fun h7 dh7 => ?_) fun h7 dh7 => ?_
 ·refine iy hJ hY hI3 6 (fun _ => [(1, .t (tk (show i6 (((xs.length : Nat) : Int) - 1 - ((k : Nat) : Int)) = i6 ((xs.length - 1 - k : Nat) : Int) from congrArg (Value.int .i64) (by omega)))), (2, .l 0), (3, .t (tk (show i6 (((xs.length : Nat) : Int) - 1 - ((k : Nat) : Int)) = i6 ((xs.length - 1 - k : Nat) : Int) from congrArg (Value.int .i64) (by omega)))), (4, ixR h 1 (xs.length - 1 - k) 1), (5, gtR kB h 1 (xs.length - 1 - k) 0)]) (fun _ => [(11, .func (.yield lY) #[] #[]), (12, i6 ((xs.length - 1 - k : Nat) : Int)), (16, u1 ((xs.getD (xs.length - 1 - k) 0).toNat : Int))]) [] (fun _ L => L) (fun _ => []) [0, 1] (range_map_get (by omega)) (fun q8 R9 W10 hI11 => ?_)
  refine cF _ rfl ?_
  refine r0 [(1, .t (tv (sBin .sub 3 (.tmp 9) (.const (i6 1)) (i6 (((xs.length : Nat) : Int) - 1 - ((k : Nat) : Int))) (i6 1)) (fun _ => dg_sub (by omega) (by omega))))] [(3, i6 (((xs.length : Nat) : Int) - 1 - ((k + 1 : Nat) : Int)))] [3] ?_
  exact leI (k + 1) (by omega) hI11 (by omega) (by kernel_rfl) [0, 1] (by kernel_rfl)
 refine lxI ?_
 exact ilN hJ hI3 (by rw [List.length_map, List.length_range]; omega) [] [0, 1]
set_option maxRecDepth 100000 in
theorem xback (v : Value) (xs : List UInt8) : Con Try.prog 109 #[v] [.p (SqE eB v xs)] [] (fun E => [ob (E.blk 0) #[v] 89]) (fun E => .func (.func 110) #[] #[pt ((E.blk 0)) 0]) := by
 have hf := Try.func109
 have hE := enters_of hf (by kernel_rfl) rfl
 refine Con.ro 0 rfl (fun bq0 hq0 => ?_) hE
 refine fE hf (fun w cs => ?_) hE
 refine rr (fun _ => [(0, bxV 1 0 (.c bq0) v (fun _ _ => SqE.cells hq0))]) (fun q1 => [(1, pt ((q1 0).blk 0) 0), (2, .nilFunc)]) [] (fun q1 L => L ++ [ob ((q1 0).blk 0) #[v] 89]) fun q1 => ?_
 refine r0 [] [(2, .func (.func 110) #[] #[pt ((q1 0).blk 0) 0])] [2] ?_
 exact lf (.l [(q1 0).blk 0] [] []) [1] [(0, 0)] []
set_option maxRecDepth 100000 in
theorem xeval (g : Nat) (v : Value) (p : List UInt8) (x : UInt8) (hp : p.length ≤ 50000) : Con Try.prog 107 #[pt g 0, v, u1 (x.toNat : Int)] [ob g (rB 255 exB ++ rN 256 logL).toArray 131, .p (SqE eB v p)] [] (fun _ => []) (fun _ => u1 ((evalL p x).toNat : Int)) := by
 have hf := Try.func107
 have hE := enters_of hf (by kernel_rfl) rfl
 refine Con.ro 1 rfl (fun bq1 hq1 => ?_) hE
 refine fE hf (fun w cs => ?_) hE
 refine rr (fun _ => []) (fun q1 => [(3, pt ((q1 0).blk 0) 0), (5, pt ((q1 1).blk 0) 0), (6, u1 0)]) [] (fun q1 L => L ++ [ob ((q1 0).blk 0) #[pt g 0] 80, ob ((q1 1).blk 0) #[u1 (x.toNat : Int)] 5]) fun q1 => ?_
 refine rr (fun _ => [(1, .s 4)]) (fun q2 => [(7, pt ((q2 0).blk 0) 0)]) [] (fun q2 L => L ++ [ob ((q2 0).blk 0) #[u1 0] 5]) fun q2 => ?_
 refine rr (fun _ => [(1, .c [1] [5] (Con.at (rd' := [.c bq1]) (xback v p) (atC hq1 (fun _ h => h))))]) (fun q3 => [(11, .func (.func 110) #[] #[pt (((q3 1).blk 0)) 0])]) [] (fun q3 L => L ++ [ob ((q3 1).blk 0) #[v] 89]) fun q3 => ?_
 refine rf0 (encs := fun (x : Nat × UInt8) => #[i6 (x.1 : Int), u1 (x.2.toNat : Int)]) (xs := (List.range p.length).map fun j => (p.length - 1 - j, p.getD (p.length - 1 - j) 0)) (KO := [[(((q3 1).blk 0), .cells #[v] 89 (0, 0))], bq1]) (xback_it ((q3 1).blk 0) v p (by omega) bq1 hq1.1) (enters_of Try.func110 (by kernel_rfl) rfl) (fun j => j ≤ p.length) (fun j L => L.set 4 (ob ((q2 0).blk 0) #[u1 ((hv p x j).toNat : Int)] 5)) [5, 1] (by omega) (by kernel_rfl) (fun lR j xE R1 W1 hxE hk5 => ?_) (fun D4  hk5 => ?_)
 ·obtain ⟨hkb6, rfl⟩ := range_map_some hxE
  refine r0 [] [(9, u1 ((p.getD (p.length - 1 - j) 0).toNat : Int))] [] ?_
  refine ag [5, 1] (fun R2 W2 => ?_)
  refine rr (fun _ => [(0, .l 2), (1, .l 4), (2, .l 3), (3, .c [0] [] (xmul g (hv p x j) x)), (5, .t (tb (a := u1 ((gm (hv p x j) x).toNat : Int)) (b := u1 ((p.getD (p.length - 1 - j) 0).toNat : Int)) fun _ _ _ _ => bin_xor_u8 ((gm (hv p x j) x)) ((p.getD (p.length - 1 - j) 0)))), (6, .s 4)]) (fun _ => []) [] (fun _ L => L.set 4 (ob ((q2 0).blk 0) #[u1 (((gm (hv p x j) x) ^^^ (p.getD (p.length - 1 - j) 0)).toNat : Int)] 5)) fun q8 => ?_
  exact ne _ ⟨(by omega), rfl⟩ [0, 1, 2, 3, 4, 5] (by kernel_rfl)
 refine cl [ob g (rB 255 exB ++ rN 256 logL).toArray 131, .c bq1, ob ((q1 0).blk 0) #[pt g 0] 80, ob ((q1 1).blk 0) #[u1 (x.toNat : Int)] 5, ob ((q2 0).blk 0) #[u1 ((hv p x p.length).toNat : Int)] 5, ob ((q3 1).blk 0) #[v] 89] (by rw [List.length_map, List.length_range]; kernel_rfl) ?_
 simp only [List.length_map, List.length_range] at hk5
 refine r0 [(0, .l 4)] [(6, u1 ((hv p x p.length).toNat : Int))] [6] ?_
 exact lfV (u1 ((hv p x p.length).toNat : Int)) Env.zero (by rw [hv_all]) [] [(0, 0), (1, 1)] []
attribute [local irreducible] mulL
set_option maxRecDepth 100000 in
theorem xroots (g : Nat) (v : Value) (rs : List UInt8) (hr : rs.length ≤ 100) : Con Try.prog 58 #[pt g 0, v] [ob g (rB 255 exB ++ rN 256 logL).toArray 131, .p (SqE eB v rs)] [] (fun E => [slB (E.val 0) (rtTo rs rs.length)]) (fun E => (E.val 0)) := by
 have hf := Try.func58
 have hE := enters_of hf (by kernel_rfl) rfl
 refine Con.ro 1 rfl (fun bq1 hq1 => ?_) hE
 refine fE hf (fun w cs => ?_) hE
 refine r0 [] [(4, .slice none 0 0)] [] ?_
 refine rr (fun _ => [(0, bsS kB 2 1 [(1 : UInt8)])]) (fun q2 => [(5, .slice (some ⟨(q2 0).blk 0, 0, none⟩) 1 1)]) [] (fun q2 L => L ++ [slB (.slice (some ⟨(q2 0).blk 0, 0, none⟩) 1 1) ([(1 : UInt8)])]) fun q2 => ?_
 refine r0 [(1, lnR hq1.1 1)] [(9, v), (10, i6 (rs.length : Int)), (11, i6 0)] [] ?_
 refine lq1 (fun k _ => k ≤ rs.length) (fun k vS5 => [(11, i6 (k : Int)), (5, vS5)]) (fun k vS5 L => L.set 2 (slB vS5 (rtTo rs k))) (fun k _ => rs.length - k) 0 (.slice (some ⟨(q2 0).blk 0, 0, none⟩) 1 1) (by omega) (by kernel_rfl) (by kernel_rfl) (fun k vS5 hk4 => ?_)
 have hrl := rtTo_len rs k
 have hl2 : ([rs.getD k 0, (1 : UInt8)] : List UInt8).length = 2 := rfl
 refine r0 [] [(12, .bool (decide ((k : Int) < (rs.length : Int))))] [] ?_
 refine cLt (k : Int) (rs.length : Int) (fun h6 dh6 => ?_) fun h6 dh6 => ?_
 ·refine r0 [(0, ixR hq1.1 1 k 1), (1, gtR kB hq1.1 1 k 0)] [(7, u1 ((rs.getD k 0).toNat : Int))] [] ?_
  refine rr (fun q8 => [(3, bsS kB 3 2 [rs.getD k 0, (1 : UInt8)]), (4, .c [0, 2, 3] [4] (Con.at (rd' := [ob g (rB 255 exB ++ rN 256 logL).toArray 131, slB vS5 (rtTo rs k), slB (.slice (some ⟨(q8 3).blk 0, 0, none⟩) 2 2) ([rs.getD k 0, (1 : UInt8)])]) (xpmul g vS5 (.slice (some ⟨(q8 3).blk 0, 0, none⟩) 2 2) (rtTo rs k) ([rs.getD k 0, (1 : UInt8)]) (by omega) (by omega)) (atS (atW (fun _ h => SlE.sq h) (atW (fun _ h => SlE.sq h) (fun _ h => h))))))]) (fun q8 => [(5, ((q8 4).val 0))]) [5] (fun q8 L => L ++ [slB (.slice (some ⟨(q8 3).blk 0, 0, none⟩) 2 2) ([rs.getD k 0, (1 : UInt8)]), slB ((q8 4).val 0) (mulL (rtTo rs k) ([rs.getD k 0, (1 : UInt8)]))]) fun q8 => ?_
  refine r0 [(0, ad k 1)] [(11, i6 ((k + 1 : Nat) : Int))] [11] ?_
  exact le1 (k + 1) ((q8 4).val 0) (by omega) (by omega) (by kernel_rfl) [0, 1, 4] (by kernel_rfl)
 obtain rfl : rs.length = k := by omega
 refine lx1 ?_
 refine r0 [] [(4, vS5)] [4] ?_
 exact lf (.l [] [] [vS5]) [2] [(0, 0), (1, 1)] []
end Go.Proofs.Ytdglhppcfdpcaaa.E
