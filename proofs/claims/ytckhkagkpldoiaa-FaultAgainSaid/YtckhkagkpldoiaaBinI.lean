/- Sums, differences and products of ints within bounds; bitwise operations; equality of structs of ints. -/
import Derived.Test.YtckhkagkpldoiaaOwnV
import Derived.Test.YtckhkagkpldoiaaOwnP
import Derived.IntWalk
import Derived.Laws.StructEq
namespace Go.Proofs.Ytckhkagkpldoiaa
open Go Go.RowKit
section
variable {P : Program} {T : TypeId} {x y : Operand} {a b : Int} {w : World}
theorem bin_add_in (h0 : -9223372036854775808 ≤ a + b) (h1 : a + b ≤ 9223372036854775807) : (do eqGuard .add T x y (.int .i64 a) (.int .i64 b); Go.binOp .add T (.int .i64 a) (.int .i64 b) : Sem Value).run P w = .ok (.int .i64 (a + b)) w := by
  simp [eqGuard, Go.binOp, Op.intArith, IntWalk.i64_in _ (And.intro h0 h1)]
theorem bin_sub_in (h0 : -9223372036854775808 ≤ a - b) (h1 : a - b ≤ 9223372036854775807) : (do eqGuard .sub T x y (.int .i64 a) (.int .i64 b); Go.binOp .sub T (.int .i64 a) (.int .i64 b) : Sem Value).run P w = .ok (.int .i64 (a - b)) w := by
  simp [eqGuard, Go.binOp, Op.intArith, IntWalk.i64_in _ (And.intro h0 h1)]
theorem bin_mul_in (h0 : -9223372036854775808 ≤ a * b) (h1 : a * b ≤ 9223372036854775807) : (do eqGuard .mul T x y (.int .i64 a) (.int .i64 b); Go.binOp .mul T (.int .i64 a) (.int .i64 b) : Sem Value).run P w = .ok (.int .i64 (a * b)) w := by
  simp [eqGuard, Go.binOp, Op.intArith, IntWalk.i64_in _ (And.intro h0 h1)]
theorem bin_bits {op : BinOp} (h : op = .and ∨ op = .or ∨ op = .xor) : (do eqGuard op T x y (.int .i64 a) (.int .i64 b); Go.binOp op T (.int .i64 a) (.int .i64 b) : Sem Value).run P w = .ok (.int .i64 (bits op .i64 a b)) w := by
  rcases h with rfl | rfl | rfl <;> rfl
end
def intsV (l : List Int) : Array Value := (l.map fun z => Value.int .i64 z).toArray
def IntsEq (P : Program) (T : TypeId) (n : Nat) : Prop := ∀ (d : Nat) (l m : List Int) (w : World), l.length = n → m.length = n → (Op.equalIn (d + 3) T (.agg (intsV l)) (.agg (intsV m))).run P w = .ok (decide (l = m)) w
theorem eql_ints {P : Program} {T : TypeId} {n : Nat} (h : IntsEq P T n) (hg : P.eqGuardType P.depth T = false) {l m : List Int} (hl : l.length = n) (hm : m.length = n) {x y : Operand} {w : World} :
    (do eqGuard .eql T x y (.agg (intsV l)) (.agg (intsV m)); Go.binOp .eql T (.agg (intsV l)) (.agg (intsV m)) : Sem Value).run P w = .ok (.bool (decide (l = m))) w := by
  have := h 9997 l m w hl hm
  simp [eqGuard, Go.binOp, Op.equal, Op.maxDepth, Sem.run_bind, hg, this]
theorem neq_ints {P : Program} {T : TypeId} {n : Nat} (h : IntsEq P T n) (hg : P.eqGuardType P.depth T = false) {l m : List Int} (hl : l.length = n) (hm : m.length = n) {x y : Operand} {w : World} :
    (do eqGuard .neq T x y (.agg (intsV l)) (.agg (intsV m)); Go.binOp .neq T (.agg (intsV l)) (.agg (intsV m)) : Sem Value).run P w = .ok (.bool (!decide (l = m))) w := by
  have := h 9997 l m w hl hm
  simp [eqGuard, Go.binOp, Op.equal, Op.maxDepth, Sem.run_bind, hg, this]
section
variable {P : Program} {d : Nat} {xs ys : Array Value} {f : Field} {fs : List Field} {w : World} {r e : Bool} {a b : Int}
theorem eqF_nil : (Op.eqFields d xs ys []).run P w = .ok true w := rfl
theorem eqF_int (hn : f.name ≠ "_") (ht : P.underlying f.type = some (.int .i64)) (hx : xs[f.offset]? = some (.int .i64 a)) (hy : ys[f.offset]? = some (.int .i64 b)) (hr : (Op.eqFields (d + 1) xs ys fs).run P w = .ok r w) :
    (Op.eqFields (d + 1) xs ys (f :: fs)).run P w = .ok (decide (a = b) && r) w := by
  have ha : (isAgg f.type).run P w = .ok false w := by simp [isAgg, run_underlying ht, Sem.run_bind]
  by_cases h : a = b
  · subst h
    simp [Op.eqFields, hn, part, ha, hx, hy, Sem.run_bind, run_equalIn_int (P := P) w d f.type .i64 .i64 a a ht, hr]
  · simp [Op.eqFields, hn, part, ha, hx, hy, Sem.run_bind, run_equalIn_int (P := P) w d f.type .i64 .i64 a b ht, h]
theorem eqF_agg {n : Nat} {fl : Array Field} (hn : f.name ≠ "_") (ht : P.underlying f.type = some (.struct fl)) (hs : (P.info? f.type).map (·.size) = some n) (hE : (Op.equalIn d f.type (.agg (xs.extract f.offset (f.offset + n))) (.agg (ys.extract f.offset (f.offset + n)))).run P w = .ok e w)
    (hr : (Op.eqFields d xs ys fs).run P w = .ok r w) : (Op.eqFields d xs ys (f :: fs)).run P w = .ok (e && r) w := by
  have ha : (isAgg f.type).run P w = .ok true w := by simp [isAgg, run_underlying ht, Sem.run_bind]
  obtain ⟨i, hi⟩ : ∃ i, P.info? f.type = some i := by cases h : P.info? f.type <;> simp_all
  have hz : i.size = n := by simpa [hi] using hs
  cases e
  · simp [Op.eqFields, hn, part, ha, Sem.run_bind, sizeOf, typeInfo, hi, hz, hE]
  · simp [Op.eqFields, hn, part, ha, Sem.run_bind, sizeOf, typeInfo, hi, hz, hE, hr]
end
section
variable {P : Program} {w : World} {o : Oper} {ρ : Operand → Value}
theorem run_extractO {x : Operand} {i : Nat} (ho : o.op = .extract x i) {cs : Array Value} (hx : ρ x = .tuple cs) {v : Value} (hv : cs[i]? = some v) : (execOp ρ o).run P w = .ok (.value v) w := by
  unfold execOp
  simp only [ho, hx, Instr.extract, hv, Sem.run_bind, Sem.run_pure, Result.andThen_ok]
def u8I (x : Int) : UInt8 := UInt8.ofNat (x % 256).toNat
theorem u8I_toNat (x : Int) : ((u8I x).toNat : Int) = x % 256 := by
  unfold u8I
  rw [UInt8.toNat_ofNat']
  omega
theorem cvt_u8 {S T : TypeId} (hS : P.underlying S = some (.int .i64)) (hT : P.underlying T = some (.int .u8)) {x : Int} : (convert S T (.int .i64 x)).run P w = .ok (.int .u8 ((u8I x).toNat : Int)) w := by
  rw [u8I_toNat]
  simp [convert, run_underlying hS, run_underlying hT, Sem.run_bind, Conv.intToInt, IntKind.wrap, IntKind.bits, IntKind.signed]
end
theorem ieq_Place' (d : Nat) (l m : List Int) (w : World) (hl : l.length = 4) (hm : m.length = 4) : (Op.equalIn (d + 2) 23 (.agg (intsV l)) (.agg (intsV m))).run Try.prog w = .ok (decide (l = m)) w := by
  obtain ⟨a0, a1, a2, a3, rfl⟩ : ∃ a0 a1 a2 a3, l = [a0, a1, a2, a3] := by
    match l, hl with
    | [a0, a1, a2, a3], _ => exact ⟨a0, a1, a2, a3, rfl⟩
  obtain ⟨b0, b1, b2, b3, rfl⟩ : ∃ b0 b1 b2 b3, m = [b0, b1, b2, b3] := by
    match m, hm with
    | [b0, b1, b2, b3], _ => exact ⟨b0, b1, b2, b3, rfl⟩
  have hD : decide (([a0, a1, a2, a3] : List Int) = [b0, b1, b2, b3]) = (decide (a0 = b0) && (decide (a1 = b1) && (decide (a2 = b2) && (decide (a3 = b3) && true)))) := by simp [Bool.decide_and]
  rw [hD, run_equalIn_struct w (d + 1) 23 _ _ (by kernel_rfl) (by kernel_rfl)]
  simp only [Program.fieldsOf, Try.underlying23]
  exact eqF_int (by decide) Try.underlying3 rfl rfl (eqF_int (by decide) Try.underlying3 rfl rfl (eqF_int (by decide) Try.underlying3 rfl rfl (eqF_int (by decide) Try.underlying3 rfl rfl eqF_nil)))
theorem ieq_Place : IntsEq Try.prog 23 4 := fun d l m w hl hm => ieq_Place' (d + 1) l m w hl hm
theorem eql_Place {l m : List Int} (hl : l.length = 4) (hm : m.length = 4) {x y : Operand} {w : World} : (do eqGuard .eql 23 x y (.agg (intsV l)) (.agg (intsV m)); Go.binOp .eql 23 (.agg (intsV l)) (.agg (intsV m)) : Sem Value).run Try.prog w = .ok (.bool (decide (l = m))) w := eql_ints ieq_Place (by kernel_rfl) hl hm
theorem neq_Place {l m : List Int} (hl : l.length = 4) (hm : m.length = 4) {x y : Operand} {w : World} : (do eqGuard .neq 23 x y (.agg (intsV l)) (.agg (intsV m)); Go.binOp .neq 23 (.agg (intsV l)) (.agg (intsV m)) : Sem Value).run Try.prog w = .ok (.bool (!decide (l = m))) w := neq_ints ieq_Place (by kernel_rfl) hl hm
theorem ieq_P' (d : Nat) (l m : List Int) (w : World) (hl : l.length = 4) (hm : m.length = 4) : (Op.equalIn (d + 2) 29 (.agg (intsV l)) (.agg (intsV m))).run Try.prog w = .ok (decide (l = m)) w := by
  obtain ⟨a0, a1, a2, a3, rfl⟩ : ∃ a0 a1 a2 a3, l = [a0, a1, a2, a3] := by
    match l, hl with
    | [a0, a1, a2, a3], _ => exact ⟨a0, a1, a2, a3, rfl⟩
  obtain ⟨b0, b1, b2, b3, rfl⟩ : ∃ b0 b1 b2 b3, m = [b0, b1, b2, b3] := by
    match m, hm with
    | [b0, b1, b2, b3], _ => exact ⟨b0, b1, b2, b3, rfl⟩
  have hD : decide (([a0, a1, a2, a3] : List Int) = [b0, b1, b2, b3]) = (decide (a0 = b0) && (decide (a1 = b1) && (decide (a2 = b2) && (decide (a3 = b3) && true)))) := by simp [Bool.decide_and]
  rw [hD, run_equalIn_struct w (d + 1) 29 _ _ (by kernel_rfl) (by kernel_rfl)]
  simp only [Program.fieldsOf, Try.underlying29]
  exact eqF_int (by decide) Try.underlying3 rfl rfl (eqF_int (by decide) Try.underlying3 rfl rfl (eqF_int (by decide) Try.underlying3 rfl rfl (eqF_int (by decide) Try.underlying3 rfl rfl eqF_nil)))
theorem ieq_P : IntsEq Try.prog 29 4 := fun d l m w hl hm => ieq_P' (d + 1) l m w hl hm
theorem eql_P {l m : List Int} (hl : l.length = 4) (hm : m.length = 4) {x y : Operand} {w : World} : (do eqGuard .eql 29 x y (.agg (intsV l)) (.agg (intsV m)); Go.binOp .eql 29 (.agg (intsV l)) (.agg (intsV m)) : Sem Value).run Try.prog w = .ok (.bool (decide (l = m))) w := eql_ints ieq_P (by kernel_rfl) hl hm
theorem neq_P {l m : List Int} (hl : l.length = 4) (hm : m.length = 4) {x y : Operand} {w : World} : (do eqGuard .neq 29 x y (.agg (intsV l)) (.agg (intsV m)); Go.binOp .neq 29 (.agg (intsV l)) (.agg (intsV m)) : Sem Value).run Try.prog w = .ok (.bool (!decide (l = m))) w := neq_ints ieq_P (by kernel_rfl) hl hm
theorem ieq_Fault : IntsEq Try.prog 25 8 := by
  intro d l m w hl hm
  obtain ⟨a0, a1, a2, a3, a4, a5, a6, a7, rfl⟩ : ∃ a0 a1 a2 a3 a4 a5 a6 a7, l = [a0, a1, a2, a3, a4, a5, a6, a7] := by
    match l, hl with
    | [a0, a1, a2, a3, a4, a5, a6, a7], _ => exact ⟨a0, a1, a2, a3, a4, a5, a6, a7, rfl⟩
  obtain ⟨b0, b1, b2, b3, b4, b5, b6, b7, rfl⟩ : ∃ b0 b1 b2 b3 b4 b5 b6 b7, m = [b0, b1, b2, b3, b4, b5, b6, b7] := by
    match m, hm with
    | [b0, b1, b2, b3, b4, b5, b6, b7], _ => exact ⟨b0, b1, b2, b3, b4, b5, b6, b7, rfl⟩
  have hD : decide (([a0, a1, a2, a3, a4, a5, a6, a7] : List Int) = [b0, b1, b2, b3, b4, b5, b6, b7]) = (decide (a0 = b0) && (decide ([a1, a2, a3, a4] = [b1, b2, b3, b4]) && (decide (a5 = b5) && (decide (a6 = b6) && (decide (a7 = b7) && true))))) := by simp [Bool.decide_and, Bool.and_assoc]
  have hP := ieq_Place' d [a1, a2, a3, a4] [b1, b2, b3, b4] w rfl rfl
  rw [hD, run_equalIn_struct w (d + 2) 25 _ _ (by kernel_rfl) (by kernel_rfl)]
  simp only [Program.fieldsOf, Try.underlying25]
  exact eqF_int (by decide) Try.underlying3 rfl rfl (eqF_agg (n := 4) (by decide) Try.underlying23 (by kernel_rfl) hP (eqF_int (by decide) Try.underlying3 rfl rfl (eqF_int (by decide) Try.underlying3 rfl rfl (eqF_int (by decide) Try.underlying3 rfl rfl eqF_nil))))
theorem eql_Fault {l m : List Int} (hl : l.length = 8) (hm : m.length = 8) {x y : Operand} {w : World} : (do eqGuard .eql 25 x y (.agg (intsV l)) (.agg (intsV m)); Go.binOp .eql 25 (.agg (intsV l)) (.agg (intsV m)) : Sem Value).run Try.prog w = .ok (.bool (decide (l = m))) w := eql_ints ieq_Fault (by kernel_rfl) hl hm
theorem neq_Fault {l m : List Int} (hl : l.length = 8) (hm : m.length = 8) {x y : Operand} {w : World} : (do eqGuard .neq 25 x y (.agg (intsV l)) (.agg (intsV m)); Go.binOp .neq 25 (.agg (intsV l)) (.agg (intsV m)) : Sem Value).run Try.prog w = .ok (.bool (!decide (l = m))) w := neq_ints ieq_Fault (by kernel_rfl) hl hm
end Go.Proofs.Ytckhkagkpldoiaa
