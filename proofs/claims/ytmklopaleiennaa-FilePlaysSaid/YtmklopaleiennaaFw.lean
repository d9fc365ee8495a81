/- A file in memory: what is sure, and writes that aren't. -/
import Derived.Test.YtmklopaleiennaaFc
import Derived.Test.YtmklopaleiennaaQ
namespace Go.Proofs.Ytmklopaleiennaa.Fw
open Go.RowKit Go.Proofs.YtmklopaleiennaaW.PrintWords Go.Proofs.YtmklopaleiennaaW.PrintLast Go.Proofs.YtmklopaleiennaaW.PrintMore Go.Proofs.Ytmklopaleiennaa.B Go.Proofs.Ytmklopaleiennaa.Fs Go.Proofs.Ytmklopaleiennaa.Fc
set_option linter.unusedVariables false
set_option linter.unusedSimpArgs false
/-- A write: a place, and bytes. -/
abbrev kW : Kd (Int × List Int) := Kd.pair (Kd.int .i64) (Kd.slice 5 kU8)
/-- A file (type T, its writes' type tw) at block g: its blocks are among own. -/
def Fl (T tw : Nat) (w : World) (g : Nat) (own : Nat → Prop) (room : Int) (s : List Int) (q : List (Int × List Int)) : Prop :=
  ∃ (v1 v2 : Value) (S1 S2 : Nat → Prop), w.heap[g]? = some (.cells #[.int .i64 room, v1, v2] T (0, 0)) ∧ Buf .u8 5 w S1 v1 s ∧ kW.R tw w 0 S2 v2 q ∧ (∀ k, S1 k → ¬ S2 k) ∧ (∀ k, S1 k ∨ S2 k → own k ∧ k ≠ g) ∧ own g ∧ ∀ k, own k → k < w.heap.size
section
variable {T tw : Nat} {w w' : World} {g : Nat} {own : Nat → Prop} {room : Int} {s : List Int} {q : List (Int × List Int)}
theorem Fl.move {S : Nat → Prop} (h : Fl T tw w g own room s q) (hk : Keep S w w') (hd : ∀ k, own k → ¬ S k) : Fl T tw w' g own room s q := by
  obtain ⟨v1, v2, S1, S2, hh, hb, hr, hs, ho, hg, hlt⟩ := h
  exact ⟨v1, v2, S1, S2, (hk.block g (blk_lt hh) (hd g hg)).trans hh, hb.step (fun k hk1 hl => hk.block k hl (hd k (ho k (.inl hk1)).1)), Kd.R_step hr (fun k hk1 hl => hk.block k hl (hd k (ho k (.inr hk1)).1)), hs, ho, hg, fun k hk1 => Nat.lt_of_lt_of_le (hlt k hk1) hk.size⟩
theorem Fl.below (h : Fl T tw w g own room s q) (hb : Below w.heap.size w w') : Fl T tw w' g own room s q := h.move (Keep.of_below (S := fun _ => False) hb) (fun _ _ => id)
theorem Fl.lt (h : Fl T tw w g own room s q) : g < w.heap.size ∧ own g ∧ ∀ k, own k → k < w.heap.size := by
  obtain ⟨v1, v2, S1, S2, hh, hb, hr, hs, ho, hg, hlt⟩ := h
  exact ⟨blk_lt hh, hg, hlt⟩
/-- A new one's. -/
theorem Fl.made (room : Int) (T tw : Nat) (w : World) : Fl T tw (w.alloc (.cells #[.int .i64 room, .slice none 0 0, .slice none 0 0] T)) w.heap.size (fun k => k = w.heap.size) room [] [] :=
  ⟨_, _, fun _ => False, fun _ => False, heap_alloc_new _ _, Buf.nil _ _ _ _, Kd.R_nil _ _ _ _ _, fun _ h => h.elim, fun k h => (by rcases h with h | h <;> exact h.elim), rfl, fun k h => by rw [h, World.size_alloc]; omega⟩
/-- Its two rows are turned: the one into v, the other into nil. -/
theorem Fl.two (h : Fl T tw w g own room s q) {w1 : World} {S : Nat → Prop} (hb : Below w.heap.size w w1) {v : Value} {s' : List Int} (hv : Buf .u8 5 w1 S v s') (hS : ∀ k, S k → own k ∧ k ≠ g ∨ w.heap.size ≤ k) :
    Fl T tw ((w1.setCell ⟨g, 1, none⟩ v).setCell ⟨g, 2, none⟩ (.slice none 0 0)) g (fun k => own k ∨ w.heap.size ≤ k ∧ k < w1.heap.size) room s' [] ∧ Keep own w ((w1.setCell ⟨g, 1, none⟩ v).setCell ⟨g, 2, none⟩ (.slice none 0 0)) := by
  obtain ⟨v1, v2, S1, S2, hh, hb1, hr, hs, ho, hg, hlt⟩ := h
  have hgl := blk_lt hh
  have hz := hb.size
  have hh1 := (hb.block g hgl).trans hh
  have hh2 := heap_setCell_same w1 g 1 _ T v hh1
  have hh3 := heap_setCell_same _ g 2 _ T (.slice none 0 0) hh2
  have hne : ∀ k, S k → k ≠ g := fun k hk => (hS k hk).elim (fun h => h.2) (fun h => by omega)
  refine ⟨⟨v, .slice none 0 0, fun k => S k ∧ k < w1.heap.size, fun _ => False, hh3, ?_, Kd.R_nil _ _ _ _ _, fun _ _ h => h, fun k hk => ?_, .inl hg, fun k hk => ?_⟩, ((Keep.of_below hb).setCell _ _ (fun _ => hg)).setCell _ _ (fun _ => hg)⟩
  · refine (hv.mono (fun k h h' => ⟨h, h'⟩)).step (fun k hk hl => ?_)
    rw [Below.heap_setCell _ _ _ _ (by show k ≠ g; exact hne k hk.1), Below.heap_setCell _ _ _ _ (by show k ≠ g; exact hne k hk.1)]
  · rcases hk with hk | hk
    · exact ⟨(hS k hk.1).elim (fun h => .inl h.1) (fun h => .inr ⟨h, hk.2⟩), hne k hk.1⟩
    · exact hk.elim
  · simp only [World.size_setCell]
    rcases hk with hk | hk
    · have := hlt k hk; omega
    · exact hk.2
/-- Its row of writes, at one of them. -/
theorem W_get {S2 : Nat → Prop} {A2 : Option Addr} {n c2 : Nat} (h : kW.R tw w 0 S2 (.slice A2 n c2) q) {j : Nat} {i : Int} {c : List Int} (hj : q[j]? = some (i, c)) :
    ∃ (ad : Addr) (A : Option Addr) (c' : Nat), A2 = some ad ∧ S2 ad.block ∧ ad.block < w.heap.size ∧ w.cell? (ad.add (j * 2)) = some (.int .i64 i) ∧ w.cell? ⟨(ad.add (j * 2)).block, (ad.add (j * 2)).off + 1, none⟩ = some (.slice A c.length c') ∧ c.length ≤ c' ∧ kU8.C w A c.length c ∧ ∀ a, A = some a → S2 a.block ∧ a.block < w.heap.size := by
  obtain ⟨ad, cs, rfl, h1, h2, h3, ⟨c0, c1, rfl, hk0, v, rfl, hR⟩, h4⟩ := R_get h hj
  have hk : c0 = [.int .i64 i] := hk0
  subst hk
  have hR' : kU8.R 5 w 0 (fun k => S2 k ∧ k ≠ ad.block ∧ k < w.heap.size) v c := hR
  obtain ⟨A, c', rfl, hl, hC⟩ := Kd.R_reads hR'
  have g0 := h4 0 (.int .i64 i) rfl
  have g1 := h4 1 (.slice A c.length c') rfl
  have hs : kW.sz = 2 := rfl
  rw [hs] at g0 g1
  rw [← add_add] at g1
  refine ⟨ad, A, c', rfl, h1, h2, g0, g1, hl, hC, fun a ha => ?_⟩
  have := hR'.1 a.block (by rw [ha]; rfl)
  exact ⟨this.1, this.2.2⟩
end
end Go.Proofs.Ytmklopaleiennaa.Fw
