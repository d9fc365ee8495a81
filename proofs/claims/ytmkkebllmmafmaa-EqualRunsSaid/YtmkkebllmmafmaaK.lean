/- A region of open order, walked in the order of its text, where some blocks are turned. -/
import Derived.Test.YtmkkebllmmafmaaR
namespace Go.Proofs.Ytmkkebllmmafmaa.R
open Go Go.RowKit Go.Proofs.Ytmkkebllmmafmaa.B
set_option linter.unusedVariables false
set_option linter.unusedSimpArgs false
/-! The moves, with R = Keep S: the blocks of S may be turned. -/
section
variable {P : Program} {ops : Array Oper} {Q : Exit → Act → World → Prop} {fuel : Nat} {listed listed' : Array Bool} {a : Act} {w : World} {S : Nat → Prop}
/-- The state of a walk through a region: what is listed, how much is left. -/
def Rk (S : Nat → Prop) (P : Program) (ops : Array Oper) (Q : Exit → Act → World → Prop) (fuel : Nat) (listed : Array Bool) (a : Act) (w : World) : Prop := wpAnyR P .any ops Q (Keep S) fuel listed a w
theorem rk_start (S : Nat → Prop) {id : Nat} (hm : P.follows .mixedOrders = true) {n : Nat} {l : Array Bool} (hn : ops.size = n) (hl : Array.replicate n false = l)
    (h : Rk S P ops Q n l a w.drew) : (Code.region id ops true).wp P Q a w := by
  subst hn
  subst hl
  exact wp_region_any hm (wpAny_of_R _ _ _ _ h)
theorem rk_take (i : Nat) {oi : Oper} {v : Value} {a' : Act} (hi0 : ops.toList[i]? = some oi) (hc : (Region.noSelect ops && Region.free .any ops listed i && (Region.ready .any ops listed).contains i) = true)
    (hl : listed.setIfInBounds i true = listed')
    (hQ : ∀ c a w, Q (.panic c) (a.put oi.dst v) w → Q (.panic c) a w) (hw : Region.wanted oi (yielded ops a.tmps) = true) (hy : ∀ w', Keep S w w' → (execOp a.eval oi).run P w' = .ok (.value v) w')
    (ha : a.put oi.dst v = a') (h : Rk S P ops Q fuel listed' a' w) : Rk S P ops Q (fuel + 1) listed a w := by
  have hi : ops[i]? = some oi := by rw [← hi0]; simp
  subst hl
  subst ha
  simp only [Bool.and_eq_true] at hc
  exact wpAnyR_first (R := Keep S) (Keep.refl S) (fun _ _ _ => Keep.trans) hi (Region.noSelect_spec hc.1.1) hQ fuel listed a w (Region.free_spec hi hc.1.2) (by simpa using hc.2) (.inl ⟨hw, hy⟩) h
/-- It isn't wanted. -/
theorem rk_skip (i : Nat) {oi : Oper} {a' : Act} (hi0 : ops.toList[i]? = some oi) (hc : (Region.noSelect ops && Region.free .any ops listed i && (Region.ready .any ops listed).contains i) = true)
    (hl : listed.setIfInBounds i true = listed')
    (hQ : ∀ c a w, Q (.panic c) (a.put oi.dst undef) w → Q (.panic c) a w) (hw : Region.wanted oi (yielded ops a.tmps) = false)
    (ha : a.put oi.dst undef = a') (h : Rk S P ops Q fuel listed' a' w) : Rk S P ops Q (fuel + 1) listed a w := by
  have hi : ops[i]? = some oi := by rw [← hi0]; simp
  subst hl
  subst ha
  simp only [Bool.and_eq_true] at hc
  exact wpAnyR_first (R := Keep S) (Keep.refl S) (fun _ _ _ => Keep.trans) hi (Region.noSelect_spec hc.1.1) hQ fuel listed a w (Region.free_spec hi hc.1.2) (by simpa using hc.2) (.inr ⟨hw, rfl⟩) h
/-- It alone may come up. -/
theorem rk_step (i : Nat) {oi : Oper} (hi0 : ops.toList[i]? = some oi) (hr : (Region.ready .any ops listed == [i]) = true) (hl : listed.setIfInBounds i true = listed') (hw : Region.wanted oi (yielded ops a.tmps) = true)
    (h : ∀ K' : Act → World → Prop, Shut (∀ a' w', Keep S w w' → Rk S P ops Q fuel listed' a' w' → K' a' w') → Oper.wp P oi a w K' Q) : Rk S P ops Q (fuel + 1) listed a w := by
  have hi : ops[i]? = some oi := by rw [← hi0]; simp
  subst hl
  have hr' : Region.ready .any ops listed = [i] := by simpa using hr
  refine ⟨fun h0 => (by rw [h0] at hr'; cases hr'), ?_⟩
  rw [hr']
  intro j hj
  rw [List.mem_singleton] at hj
  subst hj
  refine wpOp_step hi (fun K' hK => ?_)
  rw [if_pos hw]
  exact h K' (fun a' w' h1 h2 => hK a' w' ⟨h1, h2⟩)
theorem rk_done (hr : (Region.ready .any ops listed == []) = true) (h : Q .normal a w) : Rk S P ops Q fuel listed a w := by
  have hr' : Region.ready .any ops listed = [] := by simpa using hr
  cases fuel with
  | zero => exact ⟨hr', h⟩
  | succ n => exact ⟨fun _ => h, (by rw [hr']; intro j hj; cases hj)⟩
end
end Go.Proofs.Ytmkkebllmmafmaa.R
