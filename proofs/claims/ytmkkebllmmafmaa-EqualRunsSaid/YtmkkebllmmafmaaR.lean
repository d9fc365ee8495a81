/- A region of open order, walked in the order of its text: what yields the same in every world to come may be taken at once. -/
import Derived.Test.YtmkkebllmmafmaaB
import Derived.Deep.RegionHeld
namespace Go.Proofs.Ytmkkebllmmafmaa.R
open Go Go.RowKit Go.Proofs.Ytmkkebllmmafmaa.B
set_option linter.unusedVariables false
set_option linter.unusedSimpArgs false

/-- A world to come: new blocks at most. -/
def Fut (w w' : World) : Prop := Below w.heap.size w w'
theorem Fut.refl (w : World) : Fut w w := Below.refl _ _
theorem Fut.trans {a b c : World} (h : Fut a b) (k : Fut b c) : Fut a c := Below.trans h (Below.mono k h.size)
theorem Fut.drew (w : World) : Fut w w.drew := (Below.refl _ _).drew
theorem Fut.below {a b : World} (h : Fut a b) : Below a.heap.size a b := h
theorem Fut.of {a b : World} (h : Below a.heap.size a b) : Fut a b := h

section
variable {P : Program} {ops : Array Oper} {Q : Exit → Act → World → Prop} {md : Region.Mode} {R : World → World → Prop}

/-- Whatever order is picked from here on, and each step leads to a world to come. -/
def wpAnyR (P : Program) (md : Region.Mode) (ops : Array Oper) (Q : Exit → Act → World → Prop) (R : World → World → Prop) : Nat → Array Bool → Act → World → Prop
  | 0, listed, a, w => Region.ready md ops listed = [] ∧ Q .normal a w
  | fuel + 1, listed, a, w =>
    (Region.ready md ops listed = [] → Q .normal a w) ∧
    ∀ i ∈ Region.ready md ops listed, wpOp P ops Q i (fun a' w' => R w w' ∧ wpAnyR P md ops Q R fuel (listed.setIfInBounds i true) a' w') a w

theorem wpAny_of_R : ∀ (fuel : Nat) (listed : Array Bool) (a : Act) (w : World), wpAnyR P md ops Q R fuel listed a w → wpAny P md ops Q fuel listed a w
  | 0, _, _, _, h => h
  | fuel + 1, _, _, _, h => ⟨h.1, fun i hi => wpOp_mono (fun a' w' h' => wpAny_of_R fuel _ a' w' h'.2) (h.2 i hi)⟩

theorem yieldsIf_mono {S S' : World → Prop} {o : Oper} {v : Value} {a : Act} (h : YieldsIf P ops S o v a) (hs : ∀ w, S' w → S w) : YieldsIf P ops S' o v a :=
  h.imp (fun ⟨hw, hv⟩ => ⟨hw, fun w hw' => hv w (hs w hw')⟩) id

theorem wpAnyR_first (hrefl : ∀ w, R w w) (htr : ∀ a b c, R a b → R b c → R a c) {i : Nat} {oi : Oper} {v : Value} (hi : ops[i]? = some oi) (hsel : ∀ (j : Nat) (o : Oper) cs b, ops[j]? = some o → o.op ≠ .select cs b)
    (hQ : ∀ c a w, Q (.panic c) (a.put oi.dst v) w → Q (.panic c) a w) :
    ∀ (fuel : Nat) (listed : Array Bool) (a : Act) (w : World),
      (∀ j oj, ops[j]? = some oj → j ≠ i → listed.getD j true = false → (∀ e ∈ oj.after, Region.binds md e = true → e.on ≠ i) → oi.apart ops oj = true) →
      i ∈ Region.ready md ops listed → YieldsIf P ops (R w) oi v a →
      wpAnyR P md ops Q R fuel (listed.setIfInBounds i true) (a.put oi.dst v) w → wpAnyR P md ops Q R (fuel + 1) listed a w := by
  intro fuel
  induction fuel with
  | zero =>
    intro listed a w _ hr hy H
    refine ⟨fun h => (by rw [h] at hr; cases hr), fun j hj => ?_⟩
    by_cases hji : j = i
    · subst hji; exact hy.wpOp hi (hrefl w) ⟨hrefl w, H⟩
    · have := ready_mono hj hji
      rw [H.1] at this
      cases this
  | succ fuel ih =>
    intro listed a w hfree hr hy H
    refine ⟨fun h => (by rw [h] at hr; cases hr), fun j hj => ?_⟩
    by_cases hji : j = i
    · subst hji; exact hy.wpOp hi (hrefl w) ⟨hrefl w, H⟩
    · have h1 := H.2 j (ready_mono hj hji)
      obtain ⟨hjun, oj, hoj, hall⟩ := mem_ready.1 hj
      have hnot : ∀ e ∈ oj.after, Region.binds md e = true → e.on ≠ i := fun e he hb heq => by
        have h1 := hall e he hb
        have h0 := (mem_ready.1 hr).1
        rw [heq] at h1
        rcases Nat.lt_or_ge i listed.size with h' | h'
        · simp [h'] at h0 h1; rw [h0] at h1; cases h1
        · simp [Array.getElem?_eq_none h'] at h1
      have h2 := wpOp_putIf hoj (hfree j oj hoj hji hjun hnot) (fun cs b => hsel i oi cs b hi) (fun cs b => hsel j oj cs b hoj) hQ hy h1
      have hfree' : ∀ k ok, ops[k]? = some ok → k ≠ i → (listed.setIfInBounds j true).getD k true = false →
          (∀ e ∈ ok.after, Region.binds md e = true → e.on ≠ i) → oi.apart ops ok = true := fun k ok hk hki hun hno => by
        refine hfree k ok hk hki ?_ hno
        by_cases hjk : j = k
        · subst hjk; exact hjun
        · rw [getD_set_ne true hjk] at hun; exact hun
      refine wpOp_mono (fun a' w' h3 => ⟨h3.2.1, ih (listed.setIfInBounds j true) a' w' hfree' (ready_mono hr (Ne.symm hji)) (yieldsIf_mono h3.1 (fun w'' hw'' => htr _ _ _ h3.2.1 hw'')) ?_⟩) h2
      rw [Array.setIfInBounds_comm _ _ hji]
      exact h3.2.2
end

/-! The moves, with R = Fut. -/
section
variable {P : Program} {ops : Array Oper} {Q : Exit → Act → World → Prop} {fuel : Nat} {listed listed' : Array Bool} {a : Act} {w : World}
/-- The state of a walk through a region: what is listed, how much is left. -/
def Rg (P : Program) (ops : Array Oper) (Q : Exit → Act → World → Prop) (fuel : Nat) (listed : Array Bool) (a : Act) (w : World) : Prop := wpAnyR P .any ops Q Fut fuel listed a w
theorem rg_start {id : Nat} (hm : P.follows .mixedOrders = true) {n : Nat} {l : Array Bool} (hn : ops.size = n) (hl : Array.replicate n false = l)
    (h : Rg P ops Q n l a w.drew) : (Code.region id ops true).wp P Q a w := by
  subst hn
  subst hl
  exact wp_region_any hm (wpAny_of_R _ _ _ _ h)
theorem rg_take (i : Nat) {oi : Oper} {v : Value} {a' : Act} (hi0 : ops.toList[i]? = some oi) (hc : (Region.noSelect ops && Region.free .any ops listed i && (Region.ready .any ops listed).contains i) = true)
    (hl : listed.setIfInBounds i true = listed')
    (hQ : ∀ c a w, Q (.panic c) (a.put oi.dst v) w → Q (.panic c) a w) (hw : Region.wanted oi (yielded ops a.tmps) = true) (hy : ∀ w', Fut w w' → (execOp a.eval oi).run P w' = .ok (.value v) w')
    (ha : a.put oi.dst v = a') (h : Rg P ops Q fuel listed' a' w) : Rg P ops Q (fuel + 1) listed a w := by
  have hi : ops[i]? = some oi := by rw [← hi0]; simp
  subst hl
  subst ha
  simp only [Bool.and_eq_true] at hc
  exact wpAnyR_first (R := Fut) Fut.refl (fun _ _ _ => Fut.trans) hi (Region.noSelect_spec hc.1.1) hQ fuel listed a w (Region.free_spec hi hc.1.2) (by simpa using hc.2) (.inl ⟨hw, hy⟩) h
/-- It isn't wanted. -/
theorem rg_skip (i : Nat) {oi : Oper} {a' : Act} (hi0 : ops.toList[i]? = some oi) (hc : (Region.noSelect ops && Region.free .any ops listed i && (Region.ready .any ops listed).contains i) = true)
    (hl : listed.setIfInBounds i true = listed')
    (hQ : ∀ c a w, Q (.panic c) (a.put oi.dst undef) w → Q (.panic c) a w) (hw : Region.wanted oi (yielded ops a.tmps) = false)
    (ha : a.put oi.dst undef = a') (h : Rg P ops Q fuel listed' a' w) : Rg P ops Q (fuel + 1) listed a w := by
  have hi : ops[i]? = some oi := by rw [← hi0]; simp
  subst hl
  subst ha
  simp only [Bool.and_eq_true] at hc
  exact wpAnyR_first (R := Fut) Fut.refl (fun _ _ _ => Fut.trans) hi (Region.noSelect_spec hc.1.1) hQ fuel listed a w (Region.free_spec hi hc.1.2) (by simpa using hc.2) (.inr ⟨hw, rfl⟩) h
/-- It alone may come up. -/
theorem rg_step (i : Nat) {oi : Oper} (hi0 : ops.toList[i]? = some oi) (hr : (Region.ready .any ops listed == [i]) = true) (hl : listed.setIfInBounds i true = listed') (hw : Region.wanted oi (yielded ops a.tmps) = true)
    (h : ∀ K' : Act → World → Prop, Shut (∀ a' w', Fut w w' → Rg P ops Q fuel listed' a' w' → K' a' w') → Oper.wp P oi a w K' Q) : Rg P ops Q (fuel + 1) listed a w := by
  have hi : ops[i]? = some oi := by rw [← hi0]; simp
  subst hl
  have hr' : Region.ready .any ops listed = [i] := by simpa using hr
  refine ⟨fun h0 => (by rw [h0] at hr'; cases hr'), ?_⟩
  rw [hr']
  intro j hj
  rw [List.mem_singleton] at hj
  subst hj
  refine wpOp_step hi (fun K' hK => ?_)
  rw [if_pos hw]
  exact h K' (fun a' w' h1 h2 => hK a' w' ⟨h1, h2⟩)
theorem rg_done (hr : (Region.ready .any ops listed == []) = true) (h : Q .normal a w) : Rg P ops Q fuel listed a w := by
  have hr' : Region.ready .any ops listed = [] := by simpa using hr
  cases fuel with
  | zero => exact ⟨hr', h⟩
  | succ n => exact ⟨fun _ => h, (by rw [hr']; intro j hj; cases hj)⟩
end
end Go.Proofs.Ytmkkebllmmafmaa.R
