/- More words on rows. -/
import Derived.Test.YtddocpienaoldaaB
namespace Go.Proofs.Ytddocpienaoldaa.B
open Go.RowKit Go.Proofs.YtddocpienaoldaaW.PrintWords Go.Proofs.YtddocpienaoldaaW.PrintLast Go.Proofs.YtddocpienaoldaaW.PrintMore
set_option linter.unusedVariables false
/-- The row itself, of whole numbers. -/
theorem R_row {k : IntKind} {e : Nat} {w : World} {base : Nat} {ok : Nat → Prop} {A : Option Addr} {n c : Nat} {xs : List Int} (h : (Kd.int k).R e w base ok (.slice A n c) xs) (hx : 0 < xs.length) :
    ∃ (g : Nat) (cur : Array Value), A = some ⟨g, 0, none⟩ ∧ w.heap[g]? = some (.cells cur e (0, 0)) ∧ base ≤ g ∧ g < w.heap.size ∧ xs.length ≤ cur.size ∧ ∀ (j : Nat) (x : Int), xs[j]? = some x → cur[j]? = some (.int k x) := by
  obtain ⟨A', c', he, hl, hC⟩ := Kd.R_reads h
  injection he with he1 he2 he3
  subst he1
  obtain ⟨inner, ho⟩ := Kd.R_own h
  rcases ho.2 with ⟨h1, h2⟩ | ⟨g, cap, cur, h1, hb, hg, hn, hm, hsz, htk⟩
  · omega
  · injection h1 with h1 h1' h1''
    refine ⟨g, cur, h1, hg, hb, blk_lt hg, ?_, fun j x hj => ?_⟩
    · have hs1 : (Kd.int k).sz = 1 := rfl
      rw [hs1] at hsz
      omega
    · rw [h1] at hC
      have h2 := C_cell hC hj
      have hadd : (⟨g, 0, none⟩ : Addr).add j = ⟨g, j, none⟩ := by unfold Addr.add; split <;> simp_all
      rw [hadd, cell_of_row w g j cur e (0, 0) hg] at h2
      exact h2
end Go.Proofs.Ytddocpienaoldaa.B
