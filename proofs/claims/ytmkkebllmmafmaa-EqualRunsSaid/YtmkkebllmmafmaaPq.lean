/- The steps on tables of 6 by 8: what is made, what both sides make of it. -/
import Derived.Test.YtmkkebllmmafmaaPaw
import Derived.Test.YtmkkebllmmafmaaPof
namespace Go.Proofs.Ytmkkebllmmafmaa.Pq
open Go.Sort Go.RowKit Go.Proofs.YtmkkebllmmafmaaW.PrintWords Go.Proofs.YtmkkebllmmafmaaW.PrintLast Go.Proofs.YtmkkebllmmafmaaW.PrintMore Go.Proofs.Ytmkkebllmmafmaa.B Go.Proofs.Ytmkkebllmmafmaa.O Go.Proofs.Ytmkkebllmmafmaa.Ps Go.Proofs.Ytmkkebllmmafmaa.R Go.Proofs.Ytmkkebllmmafmaa.Pk Go.Proofs.Ytmkkebllmmafmaa.Pa Go.Proofs.Ytmkkebllmmafmaa.Pm Go.Proofs.Ytmkkebllmmafmaa.Pw Go.Proofs.Ytmkkebllmmafmaa.Pd Go.Proofs.Ytmkkebllmmafmaa.Pg Go.Proofs.Ytmkkebllmmafmaa.Px Go.Proofs.Ytmkkebllmmafmaa.Pz Go.Proofs.Ytmkkebllmmafmaa.S
set_option linter.unusedVariables false
set_option linter.unusedSimpArgs false
abbrev F := Nat → Nat → Bool
abbrev lst (f : F) : List Pr := pairsOf 6 8 f
/-- A row that holds a table's pairs. -/
structure LF (W : World) (A : Option Addr) (m : Nat) (f : F) : Prop where
  len : (lst f).length = m
  C : kP.C W A m (lst f)
theorem lst_len (f : F) : (lst f).length ≤ 48 := pre_len _ _ _
theorem lst_rise (f : F) : Rise (lst f) := rise_pairsOf _ _ _
theorem lst_box (f : F) : InBox 6 8 (lst f) := inBox_pairsOf _ _ _
theorem lst_congr {f g : F} (h : ∀ v l, v < 6 → l < 8 → f v l = g v l) : lst f = lst g := by
  refine rise_ext (lst_rise _) (lst_rise _) fun p => ?_
  rw [mem_pairsOf, mem_pairsOf]
  constructor
  · rintro ⟨v, l, h1, h2, h3, h4⟩; exact ⟨v, l, h1, h2, h3, by rw [← h v l h1 h2]; exact h4⟩
  · rintro ⟨v, l, h1, h2, h3, h4⟩; exact ⟨v, l, h1, h2, h3, by rw [h v l h1 h2]; exact h4⟩
section
variable {W W' : World} {A : Option Addr} {m : Nat} {f : F}
theorem LF.le (h : LF W A m f) : m ≤ 48 := by rw [← h.len]; exact lst_len f
theorem LF.below (h : LF W A m f) (hb : Below W.heap.size W W') : LF W' A m f := ⟨h.len, Kd.C_below h.C hb⟩
theorem LF.congr {g : F} (h : LF W A m f) (hg : ∀ v l, v < 6 → l < 8 → f v l = g v l) : LF W A m g := by
  have e := lst_congr hg
  exact ⟨by rw [← e]; exact h.len, by rw [← e]; exact h.C⟩
theorem LF.of_R {e base : Nat} {ok : Nat → Prop} {v : Value} {l : List Pr} (h : kP.R e W base ok v l) (hl : l = lst f) : ∃ A m c, v = .slice A m c ∧ LF W A m f := by
  obtain ⟨A, c, rfl, -, h2⟩ := Kd.R_reads h
  subst hl
  exact ⟨A, _, c, rfl, rfl, h2⟩
theorem made_LF (x : Int) (h0 : 0 ≤ x) (h1 : x < 18446744073709551616) (w : World) :
    Calls Try.prog 11 #[.int .u64 x] w fun e w' => ∃ A m c, e = .returned (.slice A m c) ∧ LF w' A m (bitF x) ∧ Below w.heap.size w w' :=
  (made_calls x h0 h1 w).mono fun e w' ⟨v, he, hr, hb⟩ => by
    obtain ⟨A, m, c, rfl, h⟩ := LF.of_R hr rfl
    exact ⟨A, m, c, he, h, hb⟩
/-- .. in a world that is known. -/
theorem made_at {N0 : Nat} {w0 w : World} (_ : Below N0 w0 w) (x : Int) (h0 : 0 ≤ x) (h1 : x < 18446744073709551616) :
    Calls Try.prog 11 #[.int .u64 x] w fun e w' => ∃ A m c, e = .returned (.slice A m c) ∧ LF w' A m (bitF x) ∧ Below w.heap.size w w' := made_LF x h0 h1 w
theorem mem_lst {v l : Nat} : ((v : Int), (l : Int)) ∈ lst f ↔ v < 6 ∧ l < 8 ∧ f v l = true := mem_pairsOf_nat
theorem copied_lst {l' : List Pr} {dst fr : Nat} (hd : dst < 8) (hf : fr < 8) (hr : Rise l') (hm : ∀ p, p ∈ l' ↔ MemCopied (lst f) dst fr p) : l' = lst (fCopied f dst fr 6) := by
  refine eq_pairsOf hr (fun p hp => ?_) fun v x hv hx => ?_
  · rcases (hm p).1 hp with ⟨h1, -⟩ | ⟨h1, h2⟩
    · exact lst_box f p h1
    · have := lst_box f _ h2
      simp only at this
      omega
  · rw [hm]
    unfold MemCopied fCopied
    simp only [mem_lst]
    by_cases h1 : x = dst
    · subst h1
      simp [hv, hf]
    · have : ¬ (x : Int) = dst := by omega
      simp [h1, this, hv, hx]
theorem moved_lst {l' : List Pr} {dst fr : Nat} (hd : dst < 6) (hf : fr < 6) (hr : Rise l') (hm : ∀ p, p ∈ l' ↔ MemMoved (lst f) dst fr p) : l' = lst (fMoved f dst fr 8) := by
  refine eq_pairsOf hr (fun p hp => ?_) fun v x hv hx => ?_
  · rcases (hm p).1 hp with ⟨h1, -⟩ | ⟨h1, h2⟩
    · exact lst_box f p h1
    · have := lst_box f _ h2
      simp only at this
      omega
  · rw [hm]
    unfold MemMoved fMoved
    simp only [mem_lst]
    by_cases h1 : v = dst
    · subst h1
      simp [hx, hf]
    · have : ¬ (v : Int) = dst := by omega
      simp [h1, this, hv, hx]
abbrev fGiven (f : F) (a b : Nat) : F := upd (fCol (fRow f a 8) b 6) a b true
theorem given_lst {l' : List Pr} {a b : Nat} (ha : a < 6) (hb : b < 8) (hr : Rise l') (hm : ∀ p, p ∈ l' ↔ MemGiven (lst f) a b p) : l' = lst (fGiven f a b) := by
  refine eq_pairsOf hr (fun p hp => ?_) fun v x hv hx => ?_
  · rcases (hm p).1 hp with ⟨h1, -⟩ | h1
    · exact lst_box f p h1
    · subst h1
      simp only
      omega
  · rw [hm]
    unfold MemGiven fGiven upd fCol fRow
    simp only [mem_lst, Prod.mk.injEq]
    by_cases h1 : v = a
    · subst h1
      by_cases h2 : x = b
      · subst h2
        simp
      · have : ¬ (x : Int) = b := by omega
        simp [h2, this, hx]
    · have h1' : ¬ (v : Int) = a := by omega
      by_cases h2 : x = b
      · subst h2
        simp [h1, h1', hv]
      · have : ¬ (x : Int) = b := by omega
        simp [h1, h1', h2, this, hv, hx]
theorem copied_LF (c : Nat) (dst fr : Nat) (hd : dst < 8) (hf : fr < 8) (h : LF W A m f) :
    Calls Try.prog 17 #[.slice A m c, .int .i64 dst, .int .i64 fr] W fun e w' => ∃ A' m' c', e = .returned (.slice A' m' c') ∧ LF w' A' m' (fCopied f dst fr 6) ∧ Below W.heap.size W w' :=
  (copied_calls A m c (lst f) h.len dst fr W h.C (lst_rise f) (by have := h.le; omega)).mono fun e w' ⟨v, l', he, hr, h1, h2, hb⟩ => by
    obtain ⟨A', m', c', rfl, h3⟩ := LF.of_R hr (copied_lst hd hf h1 h2)
    exact ⟨A', m', c', he, h3, hb⟩
theorem moved_LF (c : Nat) (dst fr : Nat) (hd : dst < 6) (hf : fr < 6) (h : LF W A m f) :
    Calls Try.prog 20 #[.slice A m c, .int .i64 dst, .int .i64 fr] W fun e w' => ∃ A' m' c', e = .returned (.slice A' m' c') ∧ LF w' A' m' (fMoved f dst fr 8) ∧ Below W.heap.size W w' :=
  (moved_calls A m c (lst f) h.len dst fr W h.C (lst_rise f) (by have := h.le; omega)).mono fun e w' ⟨v, l', he, hr, h1, h2, hb⟩ => by
    obtain ⟨A', m', c', rfl, h3⟩ := LF.of_R hr (moved_lst hd hf h1 h2)
    exact ⟨A', m', c', he, h3, hb⟩
theorem given_LF (c : Nat) (a b : Nat) (ha : a < 6) (hb : b < 8) (h : LF W A m f) :
    Calls Try.prog 22 #[.slice A m c, .int .i64 a, .int .i64 b] W fun e w' => ∃ A' m' c', e = .returned (.slice A' m' c') ∧ LF w' A' m' (fGiven f a b) ∧ Below W.heap.size W w' :=
  (given_calls A m c (lst f) h.len a b W h.C (lst_rise f) (by have := h.le; omega)).mono fun e w' ⟨v, l', he, hr, h1, h2, hb2⟩ => by
    obtain ⟨A', m', c', rfl, h3⟩ := LF.of_R hr (given_lst ha hb h1 h2)
    exact ⟨A', m', c', he, h3, hb2⟩
theorem has_LF (c : Nat) (v l : Nat) (hv : v < 6) (hl : l < 8) (h : LF W A m f) :
    Calls Try.prog 27 #[.slice A m c, .int .i64 v, .int .i64 l] W fun e w' => e = .returned (.bool (f v l)) ∧ Below W.heap.size W w' :=
  Ph.has_calls A m c (lst f) h.len v l (f v l) (by rw [mem_lst]; simp [hv, hl]) W h.C (lst_rise f) (by have := h.le; omega)
theorem same_LF {A' : Option Addr} {m' : Nat} {g : F} (c c' : Nat) (h : LF W A m f) (h' : LF W A' m' g) (hg : ∀ v l, v < 6 → l < 8 → f v l = g v l) :
    Calls Try.prog 16 #[.slice A m c, .slice A' m' c'] W fun e w' => e = .returned (.bool true) ∧ Below W.heap.size W w' := by
  have e := lst_congr hg
  have h2 := h'.C
  have h3 := h'.len
  rw [← e] at h2 h3
  have e2 : m' = m := by rw [← h3]; exact h.len
  subst e2
  exact same_calls A A' c c' (lst f) m' h.len (by have := h.le; omega) W h.C h2
theorem within_LF {A' : Option Addr} {m' : Nat} {g : F} (c c' : Nat) (b : Bool) (h : LF W A m f) (h' : LF W A' m' g) (hb : b = true ↔ ∀ v l, v < 6 → l < 8 → f v l = true → g v l = true) :
    Calls Try.prog 26 #[.slice A m c, .slice A' m' c'] W fun e w' => e = .returned (.bool b) ∧ Below W.heap.size W w' :=
  Ph.within_calls A A' m c m' c' (lst f) (lst g) h.len h'.len b (by
    rw [hb]
    constructor
    · intro h1 p hp
      obtain ⟨v, l, hv, hl, rfl, hf⟩ := mem_pairsOf.1 hp
      exact mem_lst.2 ⟨hv, hl, h1 v l hv hl hf⟩
    · intro h1 v l hv hl hf
      exact (mem_lst.1 (h1 _ (mem_lst.2 ⟨hv, hl, hf⟩))).2.2) W h.C h'.C (lst_rise g) (by have := h.le; omega) (by have := h'.le; omega)
theorem meet_LF {A' : Option Addr} {m' : Nat} {g : F} (c c' : Nat) (h : LF W A m f) (h' : LF W A' m' g) :
    Calls Try.prog 25 #[.slice A m c, .slice A' m' c'] W fun e w' => ∃ A2 m2 c2, e = .returned (.slice A2 m2 c2) ∧ LF w' A2 m2 (fun v l => f v l && g v l) ∧ Below W.heap.size W w' :=
  (Ph.meet_calls A A' m c m' c' (lst f) (lst g) h.len h'.len W h.C h'.C (lst_rise f) (lst_rise g) (by have := h.le; omega) (by have := h'.le; omega)).mono fun e w' ⟨v, l', he, hr, h1, h2, hb⟩ => by
    obtain ⟨A2, m2, c2, rfl, h3⟩ := LF.of_R (f := fun v l => f v l && g v l) hr (eq_pairsOf h1 (fun p hp => lst_box f p ((h2 p).1 hp).1) (fun v x hv hx => by rw [h2, mem_lst, mem_lst]; simp [hv, hx]))
    exact ⟨A2, m2, c2, he, h3, hb⟩
theorem right_LF (c : Nat) (h : LF W A m f) :
    Calls Try.prog 12 #[.slice A m c, .int .i64 6, .int .i64 8] W fun e w' => e = .returned (.bool true) ∧ Below W.heap.size W w' :=
  right_calls A c (lst f) m h.len (by have := h.le; omega) 6 8 true (by simp only [true_iff]; exact right_of (V := 6) (N := 8) (lst_box f) (lst_rise f)) W h.C
theorem set_LF (c : Nat) (h : LF W A m f) :
    Calls Try.prog 14 #[.slice A m c] W fun e w' => ∃ g k, e = .returned (.pointer (some ⟨g, 0, none⟩)) ∧ SetAt w' W.heap.size g k 6 8 48 f ∧ Below W.heap.size W w' :=
  (set_calls A c (lst f) m h.len (by have := h.le; omega) (lst_box f) W h.C).mono fun e w' ⟨g, k, he, hs, hb⟩ =>
    ⟨g, k, he, hs.congr (fun v l hv hl => by unfold memF; rw [Bool.eq_iff_iff, decide_eq_true_iff, mem_lst]; simp [hv, hl]), hb⟩
theorem pairs_LF {base g k : Nat} (s : SetAt W base g k 6 8 48 f) :
    Calls Try.prog 18 #[.pointer (some ⟨g, 0, none⟩)] W fun e w' => ∃ A m c, e = .returned (.slice A m c) ∧ LF w' A m f ∧ Below W.heap.size W w' :=
  (pairs_calls s (by decide) (by decide) (by decide)).mono fun e w' ⟨v, he, hr, hb⟩ => by
    obtain ⟨A, m, c, rfl, h⟩ := LF.of_R hr rfl
    exact ⟨A, m, c, he, h, hb⟩
end
end Go.Proofs.Ytmkkebllmmafmaa.Pq
