/- The acts of the statements on files, as they come in. -/
import Derived.Test.YtmklopaleiennaaO
import Derived.Test.YtmklopaleiennaaFh
import Derived.Test.YtmklopaleiennaaQ
namespace Go.Proofs.Ytmklopaleiennaa.Fo
open Go.RowKit Go.Proofs.YtmklopaleiennaaW.PrintWords Go.Proofs.YtmklopaleiennaaW.PrintLast Go.Proofs.YtmklopaleiennaaW.PrintMore Go.Proofs.Ytmklopaleiennaa.B Go.Proofs.Ytmklopaleiennaa.O
set_option linter.unusedVariables false
set_option linter.unusedSimpArgs false
/-- An act: its kind, its place, raw or not, its bytes, what is kept. -/
abbrev kA : Kd (Int × Int × Bool × List Int × List Int) := Kd.pair (Kd.int .u8) (Kd.pair (Kd.int .i64) (Kd.pair Kd.bool (Kd.pair (Kd.slice 5 kU8) (Kd.slice 3 (Kd.int .i64)))))
def AOk (p : Int × Int × Bool × List Int × List Int) : Prop := (0 ≤ p.1 ∧ p.1 < 256) ∧ (-9223372036854775808 ≤ p.2.1 ∧ p.2.1 ≤ 9223372036854775807) ∧ By p.2.2.2.1 ∧ (∀ x ∈ p.2.2.2.2, -9223372036854775808 ≤ x ∧ x ≤ 9223372036854775807)
theorem opens_u8s : Opens Try.prog 22 (Kd.slice 5 kU8) (fun l => (∀ v ∈ l, (Lit.int .u8 v).wf = true) ∧ l.length ≤ 9223372036854775807) := opens_slice Try.underlying22 (by kernel_rfl) (opens_int Try.underlying5)
theorem opens_ints : Opens Try.prog 30 (Kd.slice 3 (Kd.int .i64)) (fun l => (∀ v ∈ l, (Lit.int .i64 v).wf = true) ∧ l.length ≤ 9223372036854775807) := opens_slice Try.underlying30 (by kernel_rfl) (opens_int Try.underlying3)
theorem opens_act : Opens Try.prog 35 kA AOk :=
  opens_mono (opens_struct Try.underlying35 (by kernel_rfl) (opens_cons rfl (by kernel_rfl) (opens_int Try.underlying5) (opens_cons rfl (by kernel_rfl) (opens_int Try.underlying3) (opens_cons rfl (by kernel_rfl) (opens_bool Try.underlying4) (opens_cons rfl (by kernel_rfl) opens_u8s (opens_last rfl (by kernel_rfl) opens_ints))))))
    (fun p h => ⟨wf_u8 h.1, wf_i64 h.2.1, fun x hx => wf_u8 (h.2.2.2.1.1 x hx), fun x hx => wf_i64 (h.2.2.2.2.1 x hx)⟩)
theorem opens_acts : Opens Try.prog 33 (Kd.slice 35 kA) (fun l => (∀ v ∈ l, AOk v) ∧ l.length ≤ 9223372036854775807) := opens_slice Try.underlying33 (by kernel_rfl) opens_act
/-- An act's cells. -/
theorem act_K {w : World} {kd i : Int} {raw : Bool} {b keep : List Int} {cs : List Value} (h : kA.K w (kd, i, raw, b, keep) cs) :
    ∃ (A : Option Addr) (c : Nat) (B : Option Addr) (d : Nat), cs = [.int .u8 kd, .int .i64 i, .bool raw, .slice A b.length c, .slice B keep.length d] ∧ b.length ≤ c ∧ keep.length ≤ d ∧ kU8.C w A b.length b ∧ (Kd.int .i64).C w B keep.length keep := by
  obtain ⟨c0, c1, rfl, h0, c2, c3, rfl, h1, c4, c5, rfl, h2, c6, c7, rfl, ⟨A, c, hA, h3, h4⟩, B, d, hB, h5, h6⟩ := h
  have e0 : c0 = [.int .u8 kd] := h0
  have e1 : c2 = [.int .i64 i] := h1
  have e2 : c4 = [.bool raw] := h2
  subst e0 e1 e2 hA hB
  exact ⟨A, c, B, d, rfl, h3, h5, h4, h6⟩
theorem act_cells {w : World} {ad : Addr} {m : List (Int × Int × Bool × List Int × List Int)} (h : kA.C w (some ad) m.length m) {k : Nat} {kd i : Int} {raw : Bool} {b keep : List Int} (hk : m[k]? = some (kd, i, raw, b, keep)) :
    ∃ (A : Option Addr) (c : Nat) (B : Option Addr) (d : Nat), w.cell? (ad.add (k * 5)) = some (.int .u8 kd) ∧ w.cell? ⟨(ad.add (k * 5)).block, (ad.add (k * 5)).off + 1, none⟩ = some (.int .i64 i) ∧ w.cell? ⟨(ad.add (k * 5)).block, (ad.add (k * 5)).off + 2, none⟩ = some (.bool raw) ∧
      w.cell? ⟨(ad.add (k * 5)).block, (ad.add (k * 5)).off + 3, none⟩ = some (.slice A b.length c) ∧ w.cell? ⟨(ad.add (k * 5)).block, (ad.add (k * 5)).off + 4, none⟩ = some (.slice B keep.length d) ∧ b.length ≤ c ∧ keep.length ≤ d ∧ kU8.C w A b.length b ∧ (Kd.int .i64).C w B keep.length keep := by
  have hj := (List.getElem?_eq_some_iff.1 hk).1
  obtain ⟨ad', e, hc⟩ := h.2.2 (by omega)
  injection e with e
  subst e
  obtain ⟨cs, h1, h2, h3⟩ := hc k _ hk
  obtain ⟨A, c, B, d, rfl, h4, h5, h6, h7⟩ := act_K h2
  have hs : kA.sz = 5 := rfl
  have g0 := h3 0 _ rfl
  have g1 := h3 1 _ rfl
  have g2 := h3 2 _ rfl
  have g3 := h3 3 _ rfl
  have g4 := h3 4 _ rfl
  rw [hs] at g0 g1 g2 g3 g4
  rw [← YtmklopaleiennaaW.PrintWords.add_add] at g1 g2 g3 g4
  exact ⟨A, c, B, d, g0, g1, g2, g3, g4, h4, h5, h6, h7⟩
/-- Where something is read there is a block of the world's. -/
theorem C_lt {k : IntKind} {w : World} {A : Option Addr} {n : Nat} {xs : List Int} (h : (Kd.int k).C w A n xs) (h0 : 0 < n) : ∀ a, A = some a → a.block < w.heap.size := by
  intro a ha
  subst ha
  have hn := h.1
  rw [← hn] at h
  have h1 := C_cell h (List.getElem?_eq_getElem (show 0 < xs.length by omega))
  have h2 := World.block_lt_of_cell? w _ h1
  rwa [B.add_block] at h2
end Go.Proofs.Ytmklopaleiennaa.Fo
