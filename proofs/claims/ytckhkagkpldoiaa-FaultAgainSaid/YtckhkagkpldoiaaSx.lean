/- Short forms for the texts that sx.py prints. No program in sight. -/
import Derived.Test.YtckhkagkpldoiaaSto
namespace Go.Proofs.Ytckhkagkpldoiaa
open Go Go.RowKit
section
variable {xs : Nat → Value} {l : List Oper} {a : Act} {t : Nat} {v : Value}
theorem pT (i : Nat) (h : whoPuts t l 0 = some i) (ht : Nat.blt t a.tmps.size = true) (hv : xs i = v) : (putsH xs l 0 a).eval (.tmp t) = v := (putsH_tmp h ht).trans hv
theorem pO (h : whoPuts t l 0 = none) (hv : a.eval (.tmp t) = v) : (putsH xs l 0 a).eval (.tmp t) = v := (putsH_old h).trans hv
theorem cdAt {l : List (Value → World → Prop)} {i : Nat} {v : Value} {w : World} {C : Prop} {p : Value → World → Prop} (h : atV l i v w) (he : l[i]? = some (cdV C p)) (hc : C) : p v w := by
  unfold atV at h
  rw [he] at h
  exact cdV.get h hc
variable {P : Program} {W w' : World} {B : Nat} {base : World} {L : Objs} {g off : Nat} {T ty : TypeId} {cs : Array Value}
/-- Loads of own blocks, at a world that a region has reached. -/
theorem ldC (OW : Hid (Own B base L W)) (hR : BelowR W w') (k : Nat) (hk : L[k]? = some (g, .cells cs T (0, 0))) (hv : cs[off]? = some v) (hna : ∀ w, (isAgg ty).run P w = .ok false w) : (loadVar ty ⟨g, off, none⟩).run P w' = .ok v w' :=
  run_loadVar_cell (hna w') ((((OW.out.step hR).blk hk).cell off).trans hv)
theorem ldS (OW : Hid (Own B base L W)) (hR : BelowR W w') (k : Nat) (hk : L[k]? = some (g, .cells cs T (0, 0))) (n : Nat) {l : List Value} (hl : (cs.toList.drop off).take n = l) {d : TypeDesc} (hu : P.underlying ty = some d) (hd : (match d with | .struct _ | .array _ _ => true | _ => false) = true)
    (hn : l.length = n) (hi : (P.info? ty).map (·.size) = some n) : (loadVar ty ⟨g, off, none⟩).run P w' = .ok (.agg l.toArray) w' := by
  subst hn
  exact run_loadVar_sub w' g off T ty cs l ((OW.out.step hR).get hk) hl hu hd hi
theorem ldR (OW : Hid (Own B base L W)) (hR : BelowR W w') (k : Nat) (hk : L[k]? = some (g, .cells cs T (0, 0))) {d : TypeDesc} (hu : P.underlying ty = some d) (hd : (match d with | .struct _ | .array _ _ => true | _ => false) = true) (hi : (P.info? ty).map (·.size) = some cs.size) : (loadVar ty ⟨g, 0, none⟩).run P w' = .ok (.agg cs) w' :=
  run_loadVar_row w' g T ty cs (0, 0) d ((OW.out.step hR).get hk) hu hd hi
end
end Go.Proofs.Ytckhkagkpldoiaa
