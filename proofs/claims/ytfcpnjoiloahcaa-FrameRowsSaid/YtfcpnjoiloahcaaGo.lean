/- Frames as they come in. -/
import Derived.Test.YtfcpnjoiloahcaaO
import Derived.Test.YtfcpnjoiloahcaaGa
namespace Go.Proofs.Ytfcpnjoiloahcaa.Go1
open Go.RowKit Go.Proofs.YtfcpnjoiloahcaaW.PrintWords Go.Proofs.YtfcpnjoiloahcaaW.PrintLast Go.Proofs.YtfcpnjoiloahcaaW.PrintMore Go.Proofs.Ytfcpnjoiloahcaa.B Go.Proofs.Ytfcpnjoiloahcaa.O
set_option linter.unusedVariables false
set_option linter.unusedSimpArgs false
/-- A frame: its kind, its bytes. -/
abbrev kF : Kd (Int × List Int) := Kd.pair (Kd.int .u8) (Kd.slice 5 kU8)
def FrOk (p : Int × List Int) : Prop := (0 ≤ p.1 ∧ p.1 < 256) ∧ By p.2
theorem opens_u8s : Opens Try.prog 24 (Kd.slice 5 kU8) (fun l => (∀ v ∈ l, (Lit.int .u8 v).wf = true) ∧ l.length ≤ 9223372036854775807) := opens_slice Try.underlying24 (by kernel_rfl) (opens_int Try.underlying5)
theorem opens_frame : Opens Try.prog 27 kF FrOk :=
  opens_mono (opens_struct Try.underlying27 (by kernel_rfl) (opens_cons rfl (by kernel_rfl) (opens_int Try.underlying5) (opens_last rfl (by kernel_rfl) opens_u8s))) (fun p h => ⟨wf_u8 h.1, fun x hx => wf_u8 (h.2.1 x hx)⟩)
theorem opens_frames : Opens Try.prog 22 (Kd.slice 27 kF) (fun l => (∀ v ∈ l, FrOk v) ∧ l.length ≤ 9223372036854775807) := opens_slice Try.underlying22 (by kernel_rfl) opens_frame
theorem frame_K {w : World} {k : Int} {b : List Int} {cs : List Value} (h : kF.K w (k, b) cs) : ∃ (A : Option Addr) (c : Nat), cs = [.int .u8 k, .slice A b.length c] ∧ b.length ≤ c ∧ kU8.C w A b.length b := by
  obtain ⟨c0, c1, rfl, h0, A, c, hA, h1, h2⟩ := h
  have e0 : c0 = [.int .u8 k] := h0
  subst e0 hA
  exact ⟨A, c, rfl, h1, h2⟩
end Go.Proofs.Ytfcpnjoiloahcaa.Go1
