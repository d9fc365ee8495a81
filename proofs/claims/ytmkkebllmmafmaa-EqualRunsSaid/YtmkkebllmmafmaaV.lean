/- Stores into rows of one's own. -/
import Derived.Test.YtmkkebllmmafmaaU
namespace Go.Proofs.Ytmkkebllmmafmaa.B
open Go.RowKit Go.Proofs.YtmkkebllmmafmaaW.PrintWords Go.Proofs.YtmkkebllmmafmaaW.PrintLast Go.Proofs.YtmkkebllmmafmaaW.PrintMore
set_option linter.unusedVariables false
set_option linter.unusedSimpArgs false
/-- A store into a row of one's own. -/
theorem R_set {k : IntKind} {e : Nat} {w : World} {base : Nat} {ok : Nat → Prop} {g n c : Nat} {xs : List Int} (h : (Kd.int k).R e w base ok (.slice (some ⟨g, 0, none⟩) n c) xs) (j : Nat) (hj : j < xs.length) (x : Int) :
    (Kd.int k).R e (w.setCell ⟨g, j, none⟩ (.int k x)) base ok (.slice (some ⟨g, 0, none⟩) n c) (xs.set j x) := by
  have hok := h.1
  obtain ⟨h1, h2⟩ := Kd.own_of_R h
  refine Kd.R_of_own ⟨by simp [encs], ?_⟩ hok
  rcases h2 with ⟨h2, _⟩ | ⟨g', cap, cur, e1, hb, hh, hn, hc, hs, ht⟩
  · simp at h2
  · injection e1 with e1 e2 e3
    injection e1 with e1
    injection e1 with e1
    subst e1 e2 e3
    refine .inr ⟨g, c, _, by rw [List.length_set], hb, heap_setCell_same w g j cur e _ hh, by rw [List.length_set]; exact hn, hc, by simpa using hs, ?_⟩
    rw [List.length_set]
    have e1 : encs (Value.int k) (xs.set j x) = (encs (Value.int k) xs).set j (.int k x) := by simp [encs, List.map_set]
    rw [e1, ← ht]
    simp [List.take_set]
theorem R_head0 {k : IntKind} {e : Nat} {w : World} {base : Nat} {ok : Nat → Prop} {A : Option Addr} {n c : Nat} {xs : List Int} (h : (Kd.int k).R e w base ok (.slice A n c) xs) (h0 : 0 < xs.length) : ∃ g, A = some ⟨g, 0, none⟩ ∧ base ≤ g ∧ g < w.heap.size := by
  obtain ⟨g, h1, h2, h3⟩ := (Buf.of_R h).head h0
  exact ⟨g, h1, h2.2.1, h3⟩
theorem R_at_ {k : IntKind} {e : Nat} {w : World} {base : Nat} {ok : Nat → Prop} {g n c : Nat} {xs : List Int} (h : (Kd.int k).R e w base ok (.slice (some ⟨g, 0, none⟩) n c) xs) {j : Nat} (hj : j < xs.length) : ∃ x, xs[j]? = some x ∧ w.cell? ⟨g, j, none⟩ = some (.int k x) ∧ w.frozen? ⟨g, j, none⟩ = false := (Buf.of_R h).at hj
end Go.Proofs.Ytmkkebllmmafmaa.B
