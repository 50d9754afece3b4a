/- The document's example of findings: walks. -/
import Derived.Test.YtdglhppcfdpcaaaHv
namespace Go.Proofs.Ytdglhppcfdpcaaa.E
open Go Go.RowKit Go.Shelf
set_option linter.unusedVariables false
set_option linter.unusedSimpArgs false
structure Fg where
  x0 : Int
  x1 : Int
  x2 : Int
  x3 : Int
  x4 : Int
  x5 : Int
  x6 : Int
def zFg : Fg := ⟨0, 0, 0, 0, 0, 0, 0⟩
def eFg (x : Fg) : List Value := [i6 x.x0, i6 x.x1, i6 x.x2, i6 x.x3, i6 x.x4, i6 x.x5, i6 x.x6]
def kFg : Kd Try.prog Fg := ⟨eFg, [i6 0, i6 0, i6 0, i6 0, i6 0, i6 0, i6 0], 38, 44, zFg, 7, fun _ => rfl, rfl, fun _ => rfl, SlT.mk' (by kernel_rfl) (by kernel_rfl) rfl⟩
abbrev slFg (v : Value) (xs : List Fg) : Ent := .p (SlE eFg ([i6 0, i6 0, i6 0, i6 0, i6 0, i6 0, i6 0]) 44 v xs)
/-- The places of the first k. -/
def plA (zs : List Sn) : Nat → List Pp
  | 0 => []
  | k + 1 => plA zs k ++ [⟨(zs.getD k zSn).x0, (zs.getD k zSn).x1, (zs.getD k zSn).x2, (zs.getD k zSn).x3⟩]
theorem plA_len (zs : List Sn) : ∀ k, (plA zs k).length = k
  | 0 => rfl
  | k + 1 => by rw [plA, List.length_append, plA_len zs k]; rfl
def twoS : List Sn := [⟨0, 0, 1, 0, 5⟩, ⟨0, 0, 1, 3, 5⟩]
theorem twoS_5 : ∀ j, j < twoS.length → K5 (twoS.getD j zSn) := fun j hj => by
  have : j = 0 ∨ j = 1 := by have : twoS.length = 2 := rfl; omega
  rcases this with rfl | rfl <;> exact ⟨rfl, rfl⟩
theorem twoS_new {zs : List Sn} (hz : zs = twoS) {k : Nat} (hk : k < zs.length) : ∀ j, j < (plA zs k).length → ((((zs.getD k zSn).x0 == ((plA zs k).getD j zPp).x0) && (((zs.getD k zSn).x1 == ((plA zs k).getD j zPp).x1) && (((zs.getD k zSn).x2 == ((plA zs k).getD j zPp).x2) && ((zs.getD k zSn).x3 == ((plA zs k).getD j zPp).x3))))) = false := fun j hj => by
  subst hz
  rw [plA_len] at hj
  have : k = 0 ∨ k = 1 := by have : twoS.length = 2 := rfl; omega
  rcases this with rfl | rfl
  · omega
  · obtain rfl : j = 0 := by omega
    rfl
/-- What is found. -/
def fOf (zs : List Sn) : Fg := ⟨knd (plA zs zs.length), ((plA zs zs.length).getD 0 zPp).x0, xbare_0 (knd (plA zs zs.length)) ((plA zs zs.length).getD 0 zPp).x1, xbare_1 (knd (plA zs zs.length)) ((plA zs zs.length).getD 0 zPp).x2, xbare_2 (knd (plA zs zs.length)) ((plA zs zs.length).getD 0 zPp).x3, (zs.getD 0 zSn).x4, ((plA zs zs.length).length : Int)⟩
def fnA (xs : List Sn) : Nat → List Fg
  | 0 => []
  | t + 1 => fnA xs t ++ [fOf xs]
theorem fnA_len (xs : List Sn) : ∀ k, (fnA xs k).length = k
  | 0 => rfl
  | k + 1 => by rw [fnA, List.length_append, fnA_len xs k]; rfl
def fgA : Fg := ⟨2, 0, 0, 1, 0, 5, 2⟩
theorem fnA_ex {xs : List Sn} (h : xs = twoS) : fnA xs [((5 : Int), xs)].length = [fgA] := by subst h; rfl
theorem gA {xs zE : List Sn} {kE : Int} {t : Nat} (h : [((5 : Int), xs)][t]? = some (kE, zE)) : t = 0 ∧ zE = xs := by
  cases t with
  | zero => simp at h; exact ⟨rfl, h.2.symm⟩
  | succ t => simp at h
attribute [local irreducible] plA fOf fnA knd xbare_0 xbare_1 xbare_2
set_option maxRecDepth 100000 in
theorem tfind (v : Value) (xs : List Sn) (hx : xs = twoS) : Con Try.prog 9 #[v] [.p (SqE eSn v xs)] [] (fun E => [slFg (E.val 0) ([fgA])]) (fun E => (E.val 0)) := by
 have hxl : xs.length = 2 := by rw [hx]; rfl
 have hf := Try.func9
 have hE := enters_of hf (by kernel_rfl) rfl
 refine Con.ro 0 rfl (fun bq0 hq0 => ?_) hE
 refine fE hf (fun w cs => ?_) hE
 refine r0 [] [(2, .slice none 0 0)] [] ?_
 refine rr (fun _ => []) (fun q2 => [(3, pt ((q2 0).blk 0) 0)]) [] (fun q2 L => L ++ [ob ((q2 0).blk 0) #[.slice none 0 0] 38]) fun q2 => ?_
 refine rr (fun _ => [(1, .c [0] [2, 3] (Con.at (rd' := [.c bq0]) (tgrs v xs) (atC hq0 (fun _ h => h))))]) (fun q3 => [(11, .func (.func 49) #[] #[pt (((q3 1).blk 0)) 0, pt (((q3 1).blk 1)) 0])]) [] (fun q3 L => L ++ [ob ((q3 1).blk 0) #[v] 29, ob ((q3 1).blk 1) #[.func (.func 24) #[] #[]] 70]) fun q3 => ?_
 refine cz kFg ?_
 refine cz kFg ?_
 refine rfY1 (KO := [[(((q3 1).blk 0), .cells #[v] 29 (0, 0))], [(((q3 1).blk 1), .cells #[.func (.func 24) #[] #[]] 70 (0, 0))], bq0]) (tgr_it ((q3 1).blk 0) ((q3 1).blk 1) v xs (by first | rfl | (simp only [List.length_set, List.length_append, List.length_replicate, List.length_cons, List.length_nil, List.length_map, List.length_range, List.length_take, List.length_drop, hxl]; done) | (simp only [List.length_set, List.length_append, List.length_replicate, List.length_cons, List.length_nil, List.length_map, List.length_range, List.length_take, List.length_drop, hxl]; omega)) (by rw [hx]; exact twoS_5) bq0 hq0) (enters_of Try.func49 (by kernel_rfl) rfl) (fun t _ => t ≤ ([((5 : Int), xs)]).length) (fun t vC3_0 L => (L.set 1 (ob ((q2 0).blk 0) #[vC3_0] 38)).set 5 (slFg vC3_0 (fnA xs t))) [2, 3, 0] (.slice none 0 0) (by omega) (by rw [show fnA xs 0 = [] by unfold fnA; rfl]; kernel_rfl) (fun lR t vC3_0 xE R1 W1 hxE hk5 => ?_) (fun D4 vC3_0 hk5 => ?_)
 ·obtain ⟨kE, zE, uE, dE⟩ := xE
  obtain ⟨hgE, hsE⟩ := hxE
  replace hgE : ([((5 : Int), xs)])[t]? = some (kE, zE) := hgE
  replace hsE : SlE eSn ([i6 0, i6 0, i6 0, i6 0, i6 0]) 34 uE zE dE := hsE
  have hz0 := gA hgE
  have hg1 : [((5 : Int), xs)].length = 1 := rfl
  have hzA := hz0.2.trans hx
  have hzl : zE.length = 2 := by rw [hzA]; rfl
  have hfl := fnA_len xs t
  refine r0 [] [(5, uE)] [] ?_
  refine agY ([.c bq0, ob ((q2 0).blk 0) #[vC3_0] 38, ob ((q3 1).blk 0) #[v] 29, ob ((q3 1).blk 1) #[.func (.func 24) #[] #[]] 70, slFg (.slice none 0 0) ([]), slFg vC3_0 (fnA xs t)]) [2, 3, 0] [0, 1, 2, 3, 4, 5, 6] (fun R2 W2 => ?_)
  refine r0 [] [(6, .slice none 0 0)] [] ?_
  refine r0 [(1, lnR (SlE.src hsE) 6)] [(14, uE), (15, i6 (zE.length : Int)), (16, i6 0)] [] ?_
  refine cz kPp ?_
  refine lq1 (fun k _ => k ≤ zE.length) (fun k vS6 => [(16, i6 (k : Int)), (6, vS6)]) (fun k vS6 L => L.set 7 (slPp vS6 (plA zE k))) (fun k _ => zE.length - k) 0 (.slice none 0 0) (by omega) (by kernel_rfl) (by rw [show plA zE 0 = [] by unfold plA; rfl]; kernel_rfl) (fun k vS6 hk9 => ?_)
  have hpl := plA_len zE k
  refine r0 [] [(17, .bool (decide ((k : Int) < (zE.length : Int))))] [] ?_
  refine cLt (k : Int) (zE.length : Int) (fun h11 dh11 => ?_) fun h11 dh11 => ?_
  ·refine rr (fun _ => [(0, ixR (SlE.src hsE) 6 k 5), (1, agR kSn (SlE.src hsE) 6 k 0 5), (3, .s 8)]) (fun q12 => [(8, pt ((q12 2).blk 0) 0)]) [] (fun q12 L => L ++ [ob ((q12 2).blk 0) #[i6 ((zE.getD k zSn).x0), i6 ((zE.getD k zSn).x1), i6 ((zE.getD k zSn).x2), i6 ((zE.getD k zSn).x3), i6 ((zE.getD k zSn).x4)] 34]) fun q12 => ?_
   refine r0 [(2, .l 8), (3, .c [7] [] (Con.at (rd' := [slPp vS6 (plA zE k)]) (tcont vS6 (plA zE k) ((zE.getD k zSn).x0) ((zE.getD k zSn).x1) ((zE.getD k zSn).x2) ((zE.getD k zSn).x3) (by rw [plA_len]; first | omega) (twoS_new hzA (by first | omega))) (atW (fun _ h => SlE.sq h) (fun _ h => h))))] [(24, .bool true)] [] ?_
   refine cT _ rfl ?_
   refine rr (fun _ => [(2, .l 8), (3, .m (bs 9 1)), (4, apS1 kPp (vS6) (plA zE k) 7 9 ([(⟨((zE.getD k zSn).x0), ((zE.getD k zSn).x1), ((zE.getD k zSn).x2), ((zE.getD k zSn).x3)⟩ : Pp)]))]) (fun q14 => [(6, (q14 4).val 0)]) [6] (fun q14 L => L.set 7 (slPp ((q14 4).val 0) ((plA zE k) ++ ([(⟨((zE.getD k zSn).x0), ((zE.getD k zSn).x1), ((zE.getD k zSn).x2), ((zE.getD k zSn).x3)⟩ : Pp)]))) ++ [ob ((q14 3).blk 0) #[i6 ((zE.getD k zSn).x0), i6 ((zE.getD k zSn).x1), i6 ((zE.getD k zSn).x2), i6 ((zE.getD k zSn).x3)] 32]) fun q14 => ?_
   refine r0 [(0, ad k 1)] [(16, i6 ((k + 1 : Nat) : Int))] [16] ?_
   exact le1 (k + 1) ((q14 4).val 0) (by omega) (by omega) (by kernel_rfl) [0, 1, 2, 3, 4, 5, 6, 7] (by rw [plA]; kernel_rfl)
  obtain rfl : zE.length = k := by omega
  refine lx1 ?_
  refine r0 [(1, .c [7] [] (Con.at (rd' := [slPp vS6 (plA zE zE.length)]) (tkind vS6 (plA zE zE.length) (by rw [plA_len]; first | omega) (by rw [plA_len]; first | omega)) (atW (fun _ h => SlE.sq h) (fun _ h => h))))] [(9, i6 (knd (plA zE zE.length)))] [] ?_
  refine rr (fun q17 => [(0, .m (ld 1 (vC3_0))), (1, .v (i6 (knd (plA zE zE.length)))), (2, .v (i6 (knd (plA zE zE.length)))), (3, .v (vS6)), (4, ixS kPp vS6 (plA zE zE.length) 7 0), (5, agS kPp vS6 (plA zE zE.length) 7 0 0 4), (6, .c [] [] (xbare (knd (plA zE zE.length)) (((plA zE zE.length).getD 0 zPp).x0) (((plA zE zE.length).getD 0 zPp).x1) (((plA zE zE.length).getD 0 zPp).x2) (((plA zE zE.length).getD 0 zPp).x3))), (7, .v (uE)), (8, ixR (SlE.src hsE) 6 0 5), (9, fdR (SlE.src hsE) 6 (0 * 5) 4), (10, gtR kSn (SlE.src hsE) 6 0 4), (11, .v (vS6)), (12, lnS kPp vS6 (plA zE zE.length) 7), (13, .v (.agg #[i6 (knd (plA zE zE.length)), i6 (((plA zE zE.length).getD 0 zPp).x0), i6 (xbare_0 (knd (plA zE zE.length)) (((plA zE zE.length).getD 0 zPp).x1)), i6 (xbare_1 (knd (plA zE zE.length)) (((plA zE zE.length).getD 0 zPp).x2)), i6 (xbare_2 (knd (plA zE zE.length)) (((plA zE zE.length).getD 0 zPp).x3)), i6 ((zE.getD 0 zSn).x4), i6 (((plA zE zE.length).length : Nat) : Int)])), (14, .m (bs 8 1)), (15, apS1 kFg (vC3_0) (fnA xs t) 5 8 ([(⟨(knd (plA zE zE.length)), (((plA zE zE.length).getD 0 zPp).x0), (xbare_0 (knd (plA zE zE.length)) (((plA zE zE.length).getD 0 zPp).x1)), (xbare_1 (knd (plA zE zE.length)) (((plA zE zE.length).getD 0 zPp).x2)), (xbare_2 (knd (plA zE zE.length)) (((plA zE zE.length).getD 0 zPp).x3)), ((zE.getD 0 zSn).x4), (((plA zE zE.length).length : Nat) : Int)⟩ : Fg)])), (16, .m (stV 1 5 (slFg ((q17 15).val 0) ((fnA xs t) ++ ([(⟨(knd (plA zE zE.length)), (((plA zE zE.length).getD 0 zPp).x0), (xbare_0 (knd (plA zE zE.length)) (((plA zE zE.length).getD 0 zPp).x1)), (xbare_1 (knd (plA zE zE.length)) (((plA zE zE.length).getD 0 zPp).x2)), (xbare_2 (knd (plA zE zE.length)) (((plA zE zE.length).getD 0 zPp).x3)), ((zE.getD 0 zSn).x4), (((plA zE zE.length).length : Nat) : Int)⟩ : Fg)]))) ((q17 15).val 0) fun bs h => SlE.one ((fun _ h => h) bs h)))]) (fun _ => []) [] (fun q17 L => (L.set 1 (ob ((q2 0).blk 0) #[(q17 15).val 0] 38)).set 5 (slFg ((q17 15).val 0) ((fnA xs t) ++ ([(⟨(knd (plA zE zE.length)), (((plA zE zE.length).getD 0 zPp).x0), (xbare_0 (knd (plA zE zE.length)) (((plA zE zE.length).getD 0 zPp).x1)), (xbare_1 (knd (plA zE zE.length)) (((plA zE zE.length).getD 0 zPp).x2)), (xbare_2 (knd (plA zE zE.length)) (((plA zE zE.length).getD 0 zPp).x3)), ((zE.getD 0 zSn).x4), (((plA zE zE.length).length : Nat) : Int)⟩ : Fg)]))) ++ [ob ((q17 14).blk 0) #[i6 (knd (plA zE zE.length)), i6 (((plA zE zE.length).getD 0 zPp).x0), i6 (xbare_0 (knd (plA zE zE.length)) (((plA zE zE.length).getD 0 zPp).x1)), i6 (xbare_1 (knd (plA zE zE.length)) (((plA zE zE.length).getD 0 zPp).x2)), i6 (xbare_2 (knd (plA zE zE.length)) (((plA zE zE.length).getD 0 zPp).x3)), i6 ((zE.getD 0 zSn).x4), i6 (((plA zE zE.length).length : Nat) : Int)] 44]) fun q17 => ?_
  exact neY _ ⟨(q17 15).val 0, (by omega), rfl⟩ [0, 1, 2, 3, 4, 5, 6] (by rw [hz0.2, show fnA xs (t + 1) = fnA xs t ++ [fOf xs] by rw [fnA]]; kernel_rfl)
 refine r0 [(0, .l 1)] [(2, vC3_0)] [2] ?_
 exact lf (.l [] [] [vC3_0]) [5] [(0, 0)] [] (hf := by (try rewrite [fnA_ex hx]); kernel_rfl)
set_option maxRecDepth 100000 in
theorem tanch  : Con Try.prog 6 #[] [] [] (fun _ => []) (fun _ => .bool true) := by
 have hf := Try.func6
 have hE := enters_of hf (by kernel_rfl) rfl
 refine fE hf (fun w cs => ?_) hE
 refine r0 [] [(0, .bool false)] [] ?_
 refine rr (fun q2 => [(4, bsS kSn 0 2 [(⟨0, 0, 1, 0, 5⟩ : Sn), (⟨0, 0, 1, 3, 5⟩ : Sn)]), (5, .c [0] [1] (Con.at (rd' := [slSn (.slice (some ⟨(q2 4).blk 0, 0, none⟩) 2 2) ([(⟨0, 0, 1, 0, 5⟩ : Sn), (⟨0, 0, 1, 3, 5⟩ : Sn)])]) (tfind (.slice (some ⟨(q2 4).blk 0, 0, none⟩) 2 2) ([(⟨0, 0, 1, 0, 5⟩ : Sn), (⟨0, 0, 1, 3, 5⟩ : Sn)]) rfl) (atW (fun _ h => SlE.sq h) (fun _ h => h))))]) (fun q2 => [(1, ((q2 5).val 0))]) [] (fun q2 L => L ++ [slSn (.slice (some ⟨(q2 4).blk 0, 0, none⟩) 2 2) ([(⟨0, 0, 1, 0, 5⟩ : Sn), (⟨0, 0, 1, 3, 5⟩ : Sn)]), slFg ((q2 5).val 0) ([fgA])]) fun q2 => ?_
 have h99 : ([fgA] : List Fg).length = 1 := rfl
 refine r0 [(0, .v (((q2 5).val 0))), (1, lnS kFg ((q2 5).val 0) ([fgA]) 1), (2, .t (tk (show Value.bool (((([fgA]).length : Nat) : Int) == 1) = .bool true from congrArg Value.bool (by rfl)))), (3, .v (.bool true)), (4, .v (((q2 5).val 0))), (5, ixS kFg ((q2 5).val 0) ([fgA]) 1 0), (6, agS kFg ((q2 5).val 0) ([fgA]) 1 0 0 7), (7, .v (.agg #[i6 0, i6 0, i6 1, i6 0])), (8, .v (.agg #[i6 2, i6 0, i6 0, i6 1, i6 0, i6 5, i6 2])), (9, .e), (11, .v (.bool (((([fgA]).getD 0 zFg).x0) == 2 && (((([fgA]).getD 0 zFg).x1) == 0 && (((([fgA]).getD 0 zFg).x2) == 0 && (((([fgA]).getD 0 zFg).x3) == 1 && (((([fgA]).getD 0 zFg).x4) == 0 && (((([fgA]).getD 0 zFg).x5) == 5 && (((([fgA]).getD 0 zFg).x6) == 2 && true)))))))))] [(0, .bool (((([fgA]).getD 0 zFg).x0) == 2 && (((([fgA]).getD 0 zFg).x1) == 0 && (((([fgA]).getD 0 zFg).x2) == 0 && (((([fgA]).getD 0 zFg).x3) == 1 && (((([fgA]).getD 0 zFg).x4) == 0 && (((([fgA]).getD 0 zFg).x5) == 5 && (((([fgA]).getD 0 zFg).x6) == 2 && true))))))))] [0] ?_
 exact lfV (.bool (((([fgA]).getD 0 zFg).x0) == 2 && (((([fgA]).getD 0 zFg).x1) == 0 && (((([fgA]).getD 0 zFg).x2) == 0 && (((([fgA]).getD 0 zFg).x3) == 1 && (((([fgA]).getD 0 zFg).x4) == 0 && (((([fgA]).getD 0 zFg).x5) == 5 && (((([fgA]).getD 0 zFg).x6) == 2 && true)))))))) Env.zero (by first | rfl | decide) [] [] []
end Go.Proofs.Ytdglhppcfdpcaaa.E
