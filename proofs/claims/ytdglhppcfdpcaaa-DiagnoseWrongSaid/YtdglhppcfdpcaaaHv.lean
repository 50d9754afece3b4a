/- The document's example of findings: walks. -/
import Derived.Test.YtdglhppcfdpcaaaHu
import Derived.Test.YtdglhppcfdpcaaaGq
import Derived.Test.YtdglhppcfdpcaaaGt
import Derived.Test.YtdglhppcfdpcaaaGu
namespace Go.Proofs.Ytdglhppcfdpcaaa.E
open Go Go.RowKit Go.Shelf
set_option linter.unusedVariables false
set_option linter.unusedSimpArgs false
set_option maxRecDepth 100000 in
theorem tnan  : Con Try.prog 48 #[i6 5] [] [] (fun _ => []) (fun _ => .bool false) := by
 have hf := Try.func48
 have hE := enters_of hf (by kernel_rfl) rfl
 refine fE hf (fun w cs => ?_) hE
 refine r0 [] [(2, .bool false)] [] ?_
 refine r0 [] [(2, .bool false)] [2] ?_
 exact lf Env.zero [] [] []
set_option maxRecDepth 100000 in
theorem tcmp  : Con Try.prog 22 #[i6 5, i6 5] [] [] (fun _ => []) (fun _ => i6 0) := by
 have hf := Try.func22
 have hE := enters_of hf (by kernel_rfl) rfl
 refine fE hf (fun w cs => ?_) hE
 refine r0 [] [(4, i6 0)] [] ?_
 refine r0 [(1, .c [] [] (tnan))] [(5, .bool false)] [] ?_
 refine r0 [(1, .c [] [] (tnan))] [(6, .bool false)] [] ?_
 refine r0 [] [(11, .bool false)] [] ?_
 refine cF _ rfl ?_
 refine r0 [] [(13, .bool false)] [] ?_
 refine cF _ rfl ?_
 refine r0 [] [(16, .bool false)] [] ?_
 refine cF _ rfl ?_
 refine r0 [] [(19, .bool false)] [] ?_
 refine cF _ rfl ?_
 refine r0 [] [(4, i6 0)] [4] ?_
 exact lfV (i6 0) Env.zero (by rfl) [] [] []
/-- Of the rank 0 and the chip 5. -/
structure K5 (s : Sn) : Prop where
  r : s.x0 = 0
  c : s.x4 = 5
theorem shl0 {P : Program} {T : TypeId} {x y : Operand} {w : World} {a : Int} (h : a = 0) : (sBin .shl T x y (.int .i64 a) (.int .u64 8)).run P w = .ok (.int .i64 0) w := by subst h; kernel_rfl
theorem or05 {P : Program} {T : TypeId} {x y : Operand} {w : World} {a : Int} (h : a = 5) : (sBin .or T x y (.int .i64 0) (.int .i64 a)).run P w = .ok (.int .i64 5) w := by subst h; kernel_rfl
set_option maxRecDepth 100000 in
theorem twho (a0 a1 a2 a3 a4 : Int) (h0 : a0 = 0) (h4 : a4 = 5) : Con Try.prog 24 #[.agg #[i6 a0, i6 a1, i6 a2, i6 a3, i6 a4]] [] [] (fun _ => []) (fun _ => i6 5) := by
 have hf := Try.func24
 have hE := enters_of hf (by kernel_rfl) rfl
 refine fE hf (fun w cs => ?_) hE
 refine rr (fun _ => []) (fun q1 => [(1, pt ((q1 0).blk 0) 0), (2, i6 0)]) [] (fun q1 L => L ++ [ob ((q1 0).blk 0) #[i6 a0, i6 a1, i6 a2, i6 a3, i6 a4] 34]) fun q1 => ?_
 refine r0 [(2, .l 0), (3, .t (tv (sBin .shl 3 (.tmp 5) (.const (u6 8)) (i6 a0) (u6 8)) (fun _ => shl0 h0))), (5, .l 0), (6, .t (tv (sBin .or 3 (.tmp 6) (.tmp 8) (i6 0) (i6 a4)) (fun _ => or05 h4)))] [(2, i6 5)] [2] ?_
 exact lf Env.zero [] [] []
set_option maxRecDepth 100000 in
theorem tclo (b : Nat) (a0 a1 a2 a3 a4 c0 c1 c2 c3 c4 : Int) (h0 : a0 = 0) (h4 : a4 = 5) (k0 : c0 = 0) (k4 : c4 = 5) : Con Try.prog 52 #[.agg #[i6 a0, i6 a1, i6 a2, i6 a3, i6 a4], .agg #[i6 c0, i6 c1, i6 c2, i6 c3, i6 c4], pt b 0] [ob b #[.func (.func 24) #[] #[]] 70] [] (fun _ => []) (fun _ => i6 0) := by
 have hf := Try.func52
 have hE := enters_of hf (by kernel_rfl) rfl
 refine fE hf (fun w cs => ?_) hE
 refine rr (fun _ => []) (fun q1 => [(3, pt ((q1 0).blk 0) 0), (4, pt ((q1 1).blk 0) 0), (5, i6 0)]) [] (fun q1 L => L ++ [ob ((q1 0).blk 0) #[i6 a0, i6 a1, i6 a2, i6 a3, i6 a4] 34, ob ((q1 1).blk 0) #[i6 c0, i6 c1, i6 c2, i6 c3, i6 c4] 34]) fun q1 => ?_
 refine r0 [(0, .l 0), (1, .l 1), (2, .c [] [] (twho a0 a1 a2 a3 a4 (by omega) (by omega))), (3, .l 0), (4, .l 2), (5, .c [] [] (twho c0 c1 c2 c3 c4 (by omega) (by omega))), (6, .c [] [] (tcmp))] [(5, i6 0)] [5] ?_
 exact lf Env.zero [] [(0, 0)] []
set_option maxRecDepth 100000 in
theorem tins (v : Value) (xs : List Sn) (n b : Nat) (hx : xs.length = n) (hn : n = 2) (h5 : ∀ j, j < n → K5 (xs.getD j zSn)) : Con Try.prog 95 #[v, i6 0, i6 (n : Int), .func (.func 52) #[] #[pt b 0]] [slSn v xs, ob b #[.func (.func 24) #[] #[]] 70] [0] (fun _ => [slSn v xs]) (fun _ => .tuple #[]) := by
 have hf := Try.func95
 have hE := enters_of hf (by kernel_rfl) rfl
 refine fE hf (fun w cs => ?_) hE
 refine r0 [] [(8, i6 1)] [] ?_
 refine lq (fun k => k ≤ 1) (fun k => [(8, i6 ((1 + k : Nat) : Int))]) (fun _ L => L) (fun k => 1 - k) 0 (by omega) (by kernel_rfl) (by kernel_rfl) (fun k hk2 => ?_)
 refine r0 [] [(14, .bool (decide (((1 + k : Nat) : Int) < (n : Int))))] [] ?_
 refine cLt ((1 + k : Nat) : Int) (n : Int) (fun h4 dh4 => ?_) fun h4 dh4 => ?_
 ·refine r0 [] [(9, i6 ((1 + k : Nat) : Int))] [] ?_
  refine lq (fun j => j ≤ 0) (fun j => [(9, i6 ((1 + k + j : Nat) : Int))]) (fun _ L => L) (fun j => 0 - j) 0 (by omega) (by kernel_rfl) (by kernel_rfl) (fun j hk6 => ?_)
  refine r0 [(0, .v (i6 ((1 + k + j : Nat) : Int))), (1, .v (i6 0)), (2, .t (tk (show Value.bool (decide (0 < ((1 + k + j : Nat) : Int))) = .bool true from congrArg Value.bool (by rw [decide_eq_true (by omega)])))), (3, .v (.bool true)), (4, .v (.func (.func 52) #[] #[pt b 0])), (5, .v (v)), (6, .v (i6 ((1 + k + j : Nat) : Int))), (7, ixS kSn v xs 0 (1 + k + j)), (8, agS kSn v xs 0 (1 + k + j) 0 5), (9, .v (v)), (10, .v (i6 ((1 + k + j : Nat) : Int))), (11, .t (tb (a := i6 ((1 + k + j : Nat) : Int)) (b := i6 1) fun _ _ _ _ => bin_sub_n (a := 1 + k + j) (b := 1) (by omega) (by omega))), (12, ixS kSn v xs 0 ((1 + k + j) - 1)), (13, agS kSn v xs 0 ((1 + k + j) - 1) 0 5), (14, .c [1] [] (tclo b ((xs.getD (1 + k + j) zSn).x0) ((xs.getD (1 + k + j) zSn).x1) ((xs.getD (1 + k + j) zSn).x2) ((xs.getD (1 + k + j) zSn).x3) ((xs.getD (1 + k + j) zSn).x4) ((xs.getD ((1 + k + j) - 1) zSn).x0) ((xs.getD ((1 + k + j) - 1) zSn).x1) ((xs.getD ((1 + k + j) - 1) zSn).x2) ((xs.getD ((1 + k + j) - 1) zSn).x3) ((xs.getD ((1 + k + j) - 1) zSn).x4) (h5 _ (by first | omega)).r (h5 _ (by first | omega)).c (h5 _ (by first | omega)).r (h5 _ (by first | omega)).c)), (15, .v (.bool false))] [(34, .bool false)] [] ?_
  refine cF _ rfl ?_
  refine lx ?_
  refine r0 [(1, ad (1 + k) 1)] [(8, i6 (((1 + k) + 1 : Nat) : Int))] [8] ?_
  exact le (k + 1) (by omega) (by omega) (by kernel_rfl) [0, 1] (by kernel_rfl)
 obtain rfl : k = 1 := by omega
 refine lx ?_
 exact lfN Env.zero [0] [(1, 1)] []
set_option maxRecDepth 100000 in
theorem tstab (v : Value) (xs : List Sn) (n b : Nat) (hx : xs.length = n) (hn : n = 2) (h5 : ∀ j, j < n → K5 (xs.getD j zSn)) : Con Try.prog 76 #[v, i6 (n : Int), .func (.func 52) #[] #[pt b 0]] [slSn v xs, ob b #[.func (.func 24) #[] #[]] 70] [0] (fun _ => [slSn v xs]) (fun _ => .tuple #[]) := by
 have hf := Try.func76
 have hE := enters_of hf (by kernel_rfl) rfl
 refine fE hf (fun w cs => ?_) hE
 refine r0 [] [(6, i6 20)] [] ?_
 refine r0 [] [(7, i6 0), (8, i6 20)] [] ?_
 refine lq (fun k => k ≤ 0) (fun _ => [(7, i6 0), (8, i6 20)]) (fun _ L => L) (fun k => 0 - k) 0 (by omega) (by kernel_rfl) (by kernel_rfl) (fun k hk3 => ?_)
 refine r0 [(2, .t (tk (show Value.bool (decide (20 ≤ (n : Int))) = .bool false from congrArg Value.bool (by exact decide_eq_false (by omega)))))] [(13, .bool false)] [] ?_
 refine cF _ rfl ?_
 refine lx ?_
 refine r0 [(4, .c [0, 1] [0] (tins v xs n b hx hn h5))] [] [] ?_
 refine lq (fun m => m ≤ 0) (fun _ => [(6, i6 20)]) (fun _ L => L) (fun m => 0 - m) 0 (by omega) (by kernel_rfl) (by kernel_rfl) (fun m hk6 => ?_)
 refine r0 [(2, .t (tk (show Value.bool (decide (20 < (n : Int))) = .bool false from congrArg Value.bool (by exact decide_eq_false (by omega)))))] [(30, .bool false)] [] ?_
 refine cF _ rfl ?_
 refine lx ?_
 exact lfN Env.zero [0] [(1, 1)] []
set_option maxRecDepth 100000 in
theorem tsort (v : Value) (xs : List Sn) (b : Nat) (hx : xs.length = 2) (h5 : ∀ j, j < xs.length → K5 (xs.getD j zSn)) : Con Try.prog 51 #[v, .func (.func 52) #[] #[pt b 0]] [slSn v xs, ob b #[.func (.func 24) #[] #[]] 70] [0] (fun _ => [slSn v xs]) (fun _ => .tuple #[]) := by
 have hf := Try.func51
 have hE := enters_of hf (by kernel_rfl) rfl
 refine fE hf (fun w cs => ?_) hE
 refine r0 [(2, lnS kSn v xs 0), (4, .c [0, 1] [0] (tstab v xs xs.length b rfl hx h5))] [] [] ?_
 exact lfN Env.zero [0] [(1, 1)] []
theorem nil_runS {i : Nat} {w : World} {α : Type} {en : α → List Value} {v : Value} {xs : List α} {bs : Objs} (h : SqE en v xs bs) : (sBin .eql 29 (.tmp i) (.const (.slice none 0 0)) v (.slice none 0 0)).run Try.prog w = .ok (.bool (isNil v)) w := by
  obtain ⟨a, r, rfl⟩ := h.2
  cases a <;> kernel_rfl
set_option maxRecDepth 100000 in
theorem tclS (v : Value) (xs : List Sn) (hx : xs.length ≤ 1000) : Con Try.prog 50 #[v] [.p (SqE eSn v xs)] [] (fun E => [slSn (E.val 0) xs]) (fun E => (E.val 0)) := by
 have hf := Try.func50
 have hE := enters_of hf (by kernel_rfl) rfl
 refine Con.ro 0 rfl (fun bq0 hq0 => ?_) hE
 refine fE hf (fun w cs => ?_) hE
 refine r0 [] [(2, .slice none 0 0)] [] ?_
 refine r0 [(1, .t (tv (sBin .eql 29 (.tmp 3) (.const (.slice none 0 0)) (v) (.slice none 0 0)) (fun _ => nil_runS hq0)))] [(4, .bool (isNil v))] [] ?_
 refine cB (isNil v) (fun h3 => ?_) fun h3 => ?_
 ·refine r0 [] [(2, .slice none 0 0)] [2] ?_
  refine cz kSn ?_
  exact lf (.l [] [] [.slice none 0 0]) [1] [(0, 0)] [] (hf := by (try rewrite [nil_xs hq0 (by assumption)]); kernel_rfl)
 refine rr (fun q5 => [(0, .m (bs0 1 eSn ([i6 0, i6 0, i6 0, i6 0, i6 0]) 34)), (2, .m (apS 1 0 kSn.hT (.slice (some ⟨(q5 0).blk 0, 0, none⟩) 0 0) (v) (xs := []) (ys := xs) (.c bq0) (cP hq0.1) kSn.one kSn.lz (by simp only [List.length_set, List.length_append, List.length_replicate, List.length_cons, List.length_nil, List.length_map, List.length_range, List.length_take, List.length_drop]; omega)))]) (fun q5 => [(2, (q5 2).val 0)]) [2] (fun q5 L => L ++ [slSn ((q5 2).val 0) (([]) ++ xs)]) fun q5 => ?_
 exact lf (.l [] [] [(q5 2).val 0]) [1] [(0, 0)] [] (hf := by (try rewrite [nil_xs hq0 (by assumption)]); kernel_rfl)
theorem tclT (v : Value) (xs : List Sn) (n : Nat) (hn : n ≤ xs.length) (hx : xs.length ≤ 1000) : Con Try.prog 50 #[sbV v 0 n 5] [.p (SqE eSn v xs)] [] (fun E => [slSn (E.val 0) (xs.take n)]) (fun E => E.val 0) :=
  Con.at (tclS (sbV v 0 n 5) (xs.take n) (by rw [List.length_take]; omega)) (atW (fun _ h => SqE.take (en := eSn) (k := 5) (fun _ => rfl) h hn) fun _ h => h)
set_option maxRecDepth 100000 in
theorem tix (v : Value) (xs : List Pp) (p0 p1 p2 p3 : Int) (hx : xs.length ≤ 1000) (hn : ∀ j, j < xs.length → ((p0 == (xs.getD j zPp).x0) && ((p1 == (xs.getD j zPp).x1) && ((p2 == (xs.getD j zPp).x2) && (p3 == (xs.getD j zPp).x3)))) = false) : Con Try.prog 53 #[v, .agg #[i6 p0, i6 p1, i6 p2, i6 p3]] [.p (SqE ePp v xs)] [] (fun _ => []) (fun _ => i6 (-1)) := by
 have hf := Try.func53
 have hE := enters_of hf (by kernel_rfl) rfl
 refine Con.ro 0 rfl (fun bq0 hq0 => ?_) hE
 refine fE hf (fun w cs => ?_) hE
 refine rr (fun _ => []) (fun q1 => [(3, pt ((q1 0).blk 0) 0), (4, i6 0)]) [] (fun q1 L => L ++ [ob ((q1 0).blk 0) #[i6 p0, i6 p1, i6 p2, i6 p3] 32]) fun q1 => ?_
 refine r0 [(1, lnR hq0.1 0)] [(7, i6 (xs.length : Int)), (8, i6 0)] [] ?_
 refine lq (fun k => k ≤ xs.length) (fun k => [(8, i6 (k : Int))]) (fun _ L => L) (fun k => xs.length - k) 0 (by omega) (by kernel_rfl) (by kernel_rfl) (fun k hk3 => ?_)
 refine r0 [] [(9, .bool (decide ((k : Int) < (xs.length : Int))))] [] ?_
 refine cLt (k : Int) (xs.length : Int) (fun h5 dh5 => ?_) fun h5 dh5 => ?_
 ·refine r0 [] [(5, i6 (k : Int))] [] ?_
  refine r0 [(0, .l 1), (3, ixR hq0.1 0 k 4), (4, agR kPp hq0.1 0 k 0 4), (5, .t (TH.cast (tbT 32 fun _ _ _ => bin_eqT (xs := [i6 p0, i6 p1, i6 p2, i6 p3]) (ys := [i6 ((xs.getD k zPp).x0), i6 ((xs.getD k zPp).x1), i6 ((xs.getD k zPp).x2), i6 ((xs.getD k zPp).x3)]) (by kernel_rfl) (by rfl)) (show Value.bool ((p0 == ((xs.getD k zPp).x0) && (p1 == ((xs.getD k zPp).x1) && (p2 == ((xs.getD k zPp).x2) && (p3 == ((xs.getD k zPp).x3) && true))))) = .bool false from congrArg Value.bool (by have h9 := hn k (by first | omega); simpa only [Bool.and_true] using h9))))] [(16, .bool false)] [] ?_
  refine cF _ rfl ?_
  refine r0 [(0, ad k 1)] [(8, i6 ((k + 1 : Nat) : Int))] [8] ?_
  exact le (k + 1) (by omega) (by omega) (by kernel_rfl) [0, 1] (by kernel_rfl)
 obtain rfl : xs.length = k := by omega
 refine lx ?_
 refine r0 [] [(4, i6 (-1))] [] ?_
 exact lf Env.zero [] [(0, 0)] []
set_option maxRecDepth 100000 in
theorem tcont (v : Value) (xs : List Pp) (p0 p1 p2 p3 : Int) (hx : xs.length ≤ 1000) (hn : ∀ j, j < xs.length → ((p0 == (xs.getD j zPp).x0) && ((p1 == (xs.getD j zPp).x1) && ((p2 == (xs.getD j zPp).x2) && (p3 == (xs.getD j zPp).x3)))) = false) : Con Try.prog 25 #[v, .agg #[i6 p0, i6 p1, i6 p2, i6 p3]] [.p (SqE ePp v xs)] [] (fun _ => []) (fun _ => .bool false) := by
 have hf := Try.func25
 have hE := enters_of hf (by kernel_rfl) rfl
 refine Con.ro 0 rfl (fun bq0 hq0 => ?_) hE
 refine fE hf (fun w cs => ?_) hE
 refine rr (fun _ => []) (fun q1 => [(3, pt ((q1 0).blk 0) 0), (4, .bool false)]) [] (fun q1 L => L ++ [ob ((q1 0).blk 0) #[i6 p0, i6 p1, i6 p2, i6 p3] 32]) fun q1 => ?_
 refine r0 [(1, .l 1), (2, .c [0] [] (Con.at (rd' := [.c bq0]) (tix v xs p0 p1 p2 p3 (by first | omega) hn) (atC hq0 (fun _ h => h))))] [(4, .bool false)] [4] ?_
 exact lf Env.zero [] [(0, 0)] []
set_option maxRecDepth 100000 in
theorem tgrs (v : Value) (xs : List Sn) : Con Try.prog 23 #[v, .func (.func 24) #[] #[]] [.p (SqE eSn v xs)] [] (fun E => [ob (E.blk 0) #[v] 29, ob (E.blk 1) #[.func (.func 24) #[] #[]] 70]) (fun E => .func (.func 49) #[] #[pt ((E.blk 0)) 0, pt ((E.blk 1)) 0]) := by
 have hf := Try.func23
 have hE := enters_of hf (by kernel_rfl) rfl
 refine Con.ro 0 rfl (fun bq0 hq0 => ?_) hE
 refine fE hf (fun w cs => ?_) hE
 refine rr (fun _ => [(0, bxV 1 0 (.c bq0) v (fun _ _ => SqE.cells hq0))]) (fun q1 => [(2, pt ((q1 0).blk 0) 0), (3, pt ((q1 1).blk 0) 0), (4, .nilFunc)]) [] (fun q1 L => L ++ [ob ((q1 0).blk 0) #[v] 29, ob ((q1 1).blk 0) #[.func (.func 24) #[] #[]] 70]) fun q1 => ?_
 refine r0 [] [(4, .func (.func 49) #[] #[pt ((q1 0).blk 0) 0, pt ((q1 1).blk 0) 0])] [4] ?_
 exact lf (.l [(q1 0).blk 0, (q1 1).blk 0] [] []) [1, 2] [(0, 0)] []
set_option maxRecDepth 100000 in
theorem tgr_it (b1 b2 : Nat) (v : Value) (xs : List Sn) (hx : xs.length = 2) (h5 : ∀ j, j < xs.length → K5 (xs.getD j zSn)) (bs : Objs) (h : SqE eSn v xs bs) : IterYE 5 Try.prog 49 #[pt b1 0, pt b2 0] (Yd.enc (γ := Sn)) Yd.d (YdX (SlE eSn ([i6 0, i6 0, i6 0, i6 0, i6 0]) 34) ([((5 : Int), xs)])) ([((5 : Int), xs)]).length (List.flatten [[(b1, .cells #[v] 29 (0, 0))], [(b2, .cells #[.func (.func 24) #[] #[]] 70 (0, 0))], bs]) := by
 refine giY (KO := [[(b1, .cells #[v] 29 (0, 0))], [(b2, .cells #[.func (.func 24) #[] #[]] 70 (0, 0))], bs]) Try.func49 (fun lY JY JX WI RI hJ hY hI => ?_)
 refine rr (fun _ => [(0, .l 0), (1, .c [2] [3] (Con.at (rd' := [.c bs]) (tclS v xs (by omega)) (atC h (fun _ h => h))))]) (fun q1 => [(4, ((q1 1).val 0))]) [] (fun q1 L => L ++ [slSn ((q1 1).val 0) xs]) fun q1 => ?_
 refine rr (fun _ => [(2, .c [3, 1] [3] (tsort ((q1 1).val 0) xs b2 (by first | rfl | (simp only [List.length_set, List.length_append, List.length_replicate, List.length_cons, List.length_nil, List.length_map, List.length_range, List.length_take, List.length_drop, hx]; done) | (simp only [List.length_set, List.length_append, List.length_replicate, List.length_cons, List.length_nil, List.length_map, List.length_range, List.length_take, List.length_drop, hx]; omega)) h5))]) (fun _ => []) [] (fun _ L => L.set 3 (slSn ((q1 1).val 0) xs)) fun q2 => ?_
 refine cw 3 (slSn ((q1 1).val 0) xs) (.p (SqE eSn ((q1 1).val 0) xs)) (fun _ h => SlE.sq h) ?_
 refine lqI1 (fun t _ => t ≤ 1) (fun _ vS4 => [(4, vS4)]) (fun t vS4 L => L.set 3 (.p (SqE eSn vS4 (xs.drop (2 * t))))) (fun t _ => 1 - t) (fun t _ => t) 0 ((q1 1).val 0) (by omega) hI (by kernel_rfl) (by kernel_rfl) (fun t vS4 R5 W6 hk3 hI4 => ?_)
 have hl2 : (xs.drop (2 * t)).length = 2 - 2 * t := by rw [List.length_drop, hx]
 have h5k : ∀ j, j < (xs.drop (2 * t)).length → K5 ((xs.drop (2 * t)).getD j zSn) := fun j hj => by rw [List.getD_eq_getElem?_getD, List.getElem?_drop, ← List.getD_eq_getElem?_getD]; exact h5 _ (by omega)
 refine r0 [(1, .m (lenR 3 (.p (SqE eSn vS4 (xs.drop (2 * t)))) (fun _ h => h.1)))] [(14, .bool (decide (0 < (((xs.drop (2 * t)).length : Nat) : Int))))] [] ?_
 refine cLt 0 (((xs.drop (2 * t)).length : Nat) : Int) (fun h8 dh8 => ?_) fun h8 dh8 => ?_
 ·refine r0 [(0, .l 1), (2, .m (idxR 3 (.p (SqE eSn vS4 (xs.drop (2 * t)))) 0 5 (fun _ h => h.1) (by omega))), (3, .m (lsR (l := [i6 (((xs.drop (2 * t)).getD 0 zSn).x0), i6 (((xs.drop (2 * t)).getD 0 zSn).x1), i6 (((xs.drop (2 * t)).getD 0 zSn).x2), i6 (((xs.drop (2 * t)).getD 0 zSn).x3), i6 (((xs.drop (2 * t)).getD 0 zSn).x4)]) (en := eSn) (d := zSn) 3 (.p (SqE eSn vS4 (xs.drop (2 * t)))) 0 5 0 (fun _ h => h.1) (fun _ => rfl) (by omega) (Nat.le_of_ble_eq_true rfl) (by kernel_rfl))), (4, .c [] [] (twho (((xs.drop (2 * t)).getD 0 zSn).x0) (((xs.drop (2 * t)).getD 0 zSn).x1) (((xs.drop (2 * t)).getD 0 zSn).x2) (((xs.drop (2 * t)).getD 0 zSn).x3) (((xs.drop (2 * t)).getD 0 zSn).x4) (h5k _ (by first | omega)).r (h5k _ (by first | omega)).c))] [(5, i6 5), (6, i6 1)] [] ?_
  refine lqI (fun i => i ≤ 1) (fun i => [(6, i6 ((1 + i : Nat) : Int))]) (fun _ L => L) (fun i => 1 - i) (fun _ => t) 0 (by omega) hI4 (by kernel_rfl) (by kernel_rfl) (fun i R12 W13 hk10 hI11 => ?_)
  cases h14 : (decide (((1 + i : Nat) : Int) < (((xs.drop (2 * t)).length : Nat) : Int)))
  case true =>
   have dh14 := of_decide_eq_true h14
   refine r0 [(0, .v (i6 ((1 + i : Nat) : Int))), (1, .v (vS4)), (2, .m (lenR 3 (.p (SqE eSn vS4 (xs.drop (2 * t)))) (fun _ h => h.1))), (3, .t (tk (show Value.bool (decide (((1 + i : Nat) : Int) < (((xs.drop (2 * t)).length : Nat) : Int))) = .bool true from congrArg Value.bool h14))), (4, .v (.bool true)), (5, .m (ld 1 (.func (.func 24) #[] #[]))), (6, .v (vS4)), (7, .v (i6 ((1 + i : Nat) : Int))), (8, .m (idxR 3 (.p (SqE eSn vS4 (xs.drop (2 * t)))) (1 + i) 5 (fun _ h => h.1) (by omega))), (9, .m (lsR (l := [i6 (((xs.drop (2 * t)).getD (1 + i) zSn).x0), i6 (((xs.drop (2 * t)).getD (1 + i) zSn).x1), i6 (((xs.drop (2 * t)).getD (1 + i) zSn).x2), i6 (((xs.drop (2 * t)).getD (1 + i) zSn).x3), i6 (((xs.drop (2 * t)).getD (1 + i) zSn).x4)]) (en := eSn) (d := zSn) 3 (.p (SqE eSn vS4 (xs.drop (2 * t)))) (1 + i) 5 0 (fun _ h => h.1) (fun _ => rfl) (by omega) (Nat.le_of_ble_eq_true rfl) (by kernel_rfl))), (10, .c [] [] (twho (((xs.drop (2 * t)).getD (1 + i) zSn).x0) (((xs.drop (2 * t)).getD (1 + i) zSn).x1) (((xs.drop (2 * t)).getD (1 + i) zSn).x2) (((xs.drop (2 * t)).getD (1 + i) zSn).x3) (((xs.drop (2 * t)).getD (1 + i) zSn).x4) (h5k _ (by first | omega)).r (h5k _ (by first | omega)).c)), (11, .v (i6 5)), (12, .v (.bool true))] [(33, .bool true)] [] ?_
   refine cT _ rfl ?_
   refine r0 [(1, ad (1 + i) 1)] [(6, i6 (((1 + i) + 1 : Nat) : Int))] [6] ?_
   exact leI (i + 1) (by omega) hI11 (by omega) (by kernel_rfl) [0, 1, 2, 3] (by kernel_rfl)
  have dh14 := of_decide_eq_false h14
  refine r0 [(0, .v (i6 ((1 + i : Nat) : Int))), (1, .v (vS4)), (2, .m (lenR 3 (.p (SqE eSn vS4 (xs.drop (2 * t)))) (fun _ h => h.1))), (3, .t (tk (show Value.bool (decide (((1 + i : Nat) : Int) < (((xs.drop (2 * t)).length : Nat) : Int))) = .bool false from congrArg Value.bool h14))), (4, .v (.bool false)), (5, .d), (6, .d), (7, .d), (8, .d), (9, .d), (10, .d), (11, .d), (12, .d)] [(33, .bool false)] [] ?_
  refine cF _ rfl ?_
  refine lxI ?_
  refine iyY hJ hY hI11 6 (fun _ => [(4, .m (slH 3 (.p (SqE eSn vS4 (xs.drop (2 * t)))) (1 + i) 5 (fun _ h => h) (by omega))), (5, .c [3] [4] (tclT vS4 (xs.drop (2 * t)) (1 + i) (by omega) (by omega)))]) (fun q18 => [(36, .func (.yield lY) #[] #[]), (37, i6 5), (41, (q18 5).val 0)]) [] (fun q18 L => L ++ [slSn ((q18 5).val 0) (((xs.drop (2 * t))).take ((1 + i)))]) (fun q18 => [.p (SqE eSn vS4 (xs.drop (2 * t))), slSn ((q18 5).val 0) (((xs.drop (2 * t))).take ((1 + i)))]) [0, 1, 2, 3, 4] 1 (5) (((xs.drop (2 * t))).take ((1 + i))) (fun q18 => (q18 5).val 0) (by obtain rfl : t = 0 := (by omega); obtain rfl : i = 1 := (by omega); rw [List.take_of_length_le (by omega)]; rfl) (fun q18 R19 W20 hI21 => ?_)
  refine cF _ rfl ?_
  refine r0 [(2, .m (slR 3 (.p (SqE eSn vS4 (xs.drop (2 * t)))) (1 + i) 5 (fun _ h => h) (by omega)))] [(4, sbV vS4 (1 + i) ((xs.drop (2 * t)).length) 5)] [4] ?_
  refine cw 3 (.p (SqE eSn vS4 (xs.drop (2 * t)))) (.p (SqE eSn (sbV vS4 (1 + i) ((xs.drop (2 * t)).length) 5) ((xs.drop (2 * t)).drop (1 + i)))) (fun _ h => SqE.drop (en := eSn) (xs := (xs.drop (2 * t))) (k := 5) (l := (1 + i)) (fun _ => rfl) h (by omega)) ?_
  exact leI1 (t + 1) (sbV vS4 (1 + i) ((xs.drop (2 * t)).length) 5) (by omega) hI21 (by omega) (by kernel_rfl) [0, 1, 2, 3] (by rw [List.drop_drop, show 2 * t + (1 + i) = 2 * (t + 1) by omega]; kernel_rfl)
 obtain rfl : t = 1 := by omega
 refine lxI1 ?_
 exact ilN hJ hI4 (by rfl) [.p (SqE eSn vS4 (xs.drop (2 * 1)))] [0, 1, 2, 3]
end Go.Proofs.Ytdglhppcfdpcaaa.E
