/- What the calls of package leb come to: the rest of the reader. -/
import Derived.Test.YtmklopaleiennaaLc
namespace Go.Proofs.Ytmklopaleiennaa.Lc
open Go.RowKit Go.Proofs.YtmklopaleiennaaW.PrintWords Go.Proofs.YtmklopaleiennaaW.PrintLast Go.Proofs.YtmklopaleiennaaW.PrintMore Go.Proofs.Ytmklopaleiennaa.B Go.Proofs.Ytmklopaleiennaa.Ls
set_option linter.unusedVariables false
set_option linter.unusedSimpArgs false

theorem code_calls (g b : Nat) (l : List Int) (code : Int) (w : World) (h : Rdr 95 w g b l code) :
    Calls Try.prog 44 #[.pointer (some ⟨g, 0, none⟩)] w fun e w' => e = .returned (.int .i64 code) ∧ w = w' := by
  obtain ⟨hc, hf⟩ := h.code
  clear h
  go_enter Try.func44, Try.ntmps44
  go_wp2
  go_ret
  exact ⟨rfl, rfl⟩
theorem left_calls (g b : Nat) (l : List Int) (code : Int) (w : World) (h : Rdr 95 w g b l code) :
    Calls Try.prog 45 #[.pointer (some ⟨g, 0, none⟩)] w fun e w' => e = .returned (.int .i64 l.length) ∧ w = w' := by
  obtain ⟨A, c, hc, -⟩ := h.left
  clear h
  go_enter Try.func45, Try.ntmps45
  go_wp2
  go_ret
  exact ⟨rfl, rfl⟩
end Go.Proofs.Ytmklopaleiennaa.Lc
