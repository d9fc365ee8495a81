/- Plain facts of pairs of numbers that rise. -/
import Derived.Sort.Statements
namespace Go.Proofs.Ytmkkebllmmafmaa.Ps
set_option linter.unusedVariables false
set_option linter.unusedSimpArgs false
abbrev Pr := Int × Int
def lt (p q : Pr) : Prop := p.1 < q.1 ∨ p.1 = q.1 ∧ p.2 < q.2
instance : DecidableRel lt := fun p q => by unfold lt; exact inferInstance
theorem lt_irrefl (p : Pr) : ¬ lt p p := by unfold lt; omega
theorem lt_trans {p q r : Pr} (h : lt p q) (k : lt q r) : lt p r := by unfold lt at *; omega
theorem lt_asymm {p q : Pr} (h : lt p q) : ¬ lt q p := by unfold lt at *; omega
theorem lt_tri (p q : Pr) : lt p q ∨ p = q ∨ lt q p := by
  rcases Decidable.em (p = q) with h | h
  · exact .inr (.inl h)
  · have : p.1 ≠ q.1 ∨ p.2 ≠ q.2 := by
      by_cases h1 : p.1 = q.1
      · exact .inr (fun h2 => h (Prod.ext h1 h2))
      · exact .inl h1
    unfold lt
    omega
def Rise (l : List Pr) : Prop := l.Pairwise lt
theorem rise_nil : Rise [] := List.Pairwise.nil
theorem rise_one (p : Pr) : Rise [p] := by simp [Rise]
theorem Rise.cons {p : Pr} {l : List Pr} : Rise (p :: l) ↔ (∀ q ∈ l, lt p q) ∧ Rise l := List.pairwise_cons
/-- What rises is told by what is in it. -/
theorem rise_ext : ∀ {l l' : List Pr}, Rise l → Rise l' → (∀ p, p ∈ l ↔ p ∈ l') → l = l'
  | [], [], _, _, _ => rfl
  | [], q :: r, _, _, h => by have := (h q).2 (by simp); simp at this
  | p :: l, [], _, _, h => by have := (h p).1 (by simp); simp at this
  | p :: l, q :: r, h1, h2, h => by
    obtain ⟨a1, a2⟩ := Rise.cons.1 h1
    obtain ⟨b1, b2⟩ := Rise.cons.1 h2
    have e : p = q := by
      rcases lt_tri p q with h3 | h3 | h3
      · have h4 := (h p).1 (by simp)
        rcases List.mem_cons.1 h4 with h4 | h4
        · exact h4
        · exact absurd (b1 _ h4) (lt_asymm h3)
      · exact h3
      · have h4 := (h q).2 (by simp)
        rcases List.mem_cons.1 h4 with h4 | h4
        · exact h4.symm
        · exact absurd (a1 _ h4) (lt_asymm h3)
    subst e
    congr 1
    refine rise_ext a2 b2 fun x => ⟨fun hx => ?_, fun hx => ?_⟩
    · rcases List.mem_cons.1 ((h x).1 (List.mem_cons_of_mem _ hx)) with h4 | h4
      · subst h4; exact absurd (a1 _ hx) (lt_irrefl _)
      · exact h4
    · rcases List.mem_cons.1 ((h x).2 (List.mem_cons_of_mem _ hx)) with h4 | h4
      · subst h4; exact absurd (b1 _ hx) (lt_irrefl _)
      · exact h4
theorem Rise.nodup {l : List Pr} (h : Rise l) : l.Nodup := List.Pairwise.imp (fun {a b} h e => by subst e; exact lt_irrefl _ h) h
theorem Rise.filter {l : List Pr} (h : Rise l) (p : Pr → Bool) : Rise (l.filter p) := List.Pairwise.filter p h
/-- Neighbours that rise. -/
theorem rise_of_steps (l : List Pr) (h : ∀ i a b, l[i]? = some a → l[i + 1]? = some b → lt a b) : Rise l := by
  induction l with
  | nil => exact rise_nil
  | cons p l ih =>
    have hr : Rise l := ih (fun i a b ha hb => h (i + 1) a b (by simpa using ha) (by simpa using hb))
    refine Rise.cons.2 ⟨fun q hq => ?_, hr⟩
    cases l with
    | nil => simp at hq
    | cons r l =>
      have h0 := h 0 p r (by simp) (by simp)
      rcases List.mem_cons.1 hq with e | e
      · subst e; exact h0
      · exact lt_trans h0 ((Rise.cons.1 hr).1 q e)
theorem Rise.at {l : List Pr} (h : Rise l) {i j : Nat} {a b : Pr} (hij : i < j) (ha : l[i]? = some a) (hb : l[j]? = some b) : lt a b := by
  obtain ⟨h1, rfl⟩ := List.getElem?_eq_some_iff.1 ha
  obtain ⟨h2, rfl⟩ := List.getElem?_eq_some_iff.1 hb
  exact List.pairwise_iff_getElem.1 h i j h1 h2 hij
/-- The order as a number. -/
def cmpI (x y : Int) : Int := if x < y then -1 else if y < x then 1 else 0
def cf (p q : Pr) : Int := if cmpI p.1 q.1 = 0 then cmpI p.2 q.2 else cmpI p.1 q.1
theorem cf_neg (p q : Pr) : cf p q < 0 ↔ lt p q := by
  unfold cf cmpI lt
  repeat' split
  all_goals omega
theorem cf_zero (p q : Pr) : cf p q = 0 ↔ p = q := by
  rw [Prod.ext_iff]
  unfold cf cmpI
  repeat' split
  all_goals omega
theorem cf_ge (p q : Pr) : cf p q ≥ 0 ↔ ¬ lt p q := by rw [← cf_neg]; omega
theorem swo : Go.Sort.SWO (fun p q : Pr => decide (cf p q < 0)) where
  irrefl x := by simp only [cf_neg]; exact decide_eq_false (lt_irrefl x)
  trans x y z h1 h2 := by simp only [cf_neg, decide_eq_true_eq] at *; exact lt_trans h1 h2
  ntrans x y z h1 h2 := by
    simp only [cf_neg, decide_eq_false_iff_not] at *
    unfold lt at *; omega
theorem sorted_rise {d d' : Array Pr} (hn : d.toList.Nodup) (hp : Go.Sort.PermIn 0 d.size d d') (hs : Go.Sort.SortedIn (fun p q : Pr => decide (cf p q < 0)) 0 d.size d') : Rise d'.toList ∧ ∀ p, p ∈ d'.toList ↔ p ∈ d.toList := by
  obtain ⟨h1, -, h2⟩ := hp
  have h3 : d'.toList.Perm d.toList := by
    have e1 : d'.extract 0 d.size = d' := by rw [← h1, Array.extract_size]
    have e2 : d.extract 0 d.size = d := Array.extract_size
    rw [e1, e2] at h2
    exact h2
  refine ⟨?_, fun p => h3.mem_iff⟩
  have hn' : d'.toList.Nodup := h3.nodup_iff.2 hn
  refine List.pairwise_iff_getElem.2 fun i j hi hj hij => ?_
  have hj' : j < d'.size := by simpa using hj
  have hi' : i < d'.size := by simpa using hi
  have h4 := hs i j (Nat.zero_le _) hij (by omega)
  rw [getElem!_pos d' j hj', getElem!_pos d' i hi'] at h4
  simp only [cf_neg, decide_eq_false_iff_not] at h4
  rcases lt_tri d'.toList[i] d'.toList[j] with h5 | h5 | h5
  · exact h5
  · exact absurd h5 (List.pairwise_iff_getElem.1 hn' i j hi hj hij)
  · exact absurd (by simpa using h5) h4
/-- What a step leaves. -/
def MemCopied (l : List Pr) (to fr : Int) (p : Pr) : Prop := p ∈ l ∧ p.2 ≠ to ∨ p.2 = to ∧ (p.1, fr) ∈ l
def MemMoved (l : List Pr) (to fr : Int) (p : Pr) : Prop := p ∈ l ∧ p.1 ≠ to ∨ p.1 = to ∧ (fr, p.2) ∈ l
def MemGiven (l : List Pr) (v pl : Int) (p : Pr) : Prop := p ∈ l ∧ p.1 ≠ v ∧ p.2 ≠ pl ∨ p = (v, pl)
end Go.Proofs.Ytmkkebllmmafmaa.Ps
