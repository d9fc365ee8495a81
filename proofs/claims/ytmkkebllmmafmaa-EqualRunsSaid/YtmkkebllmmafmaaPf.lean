/- Plain facts of tables of what holds, by vregs times places. -/
import Derived.Test.YtmkkebllmmafmaaPs
namespace Go.Proofs.Ytmkkebllmmafmaa.Ps
set_option linter.unusedVariables false
set_option linter.unusedSimpArgs false
/-- A table of V rows of n. -/
def tab (V n : Nat) (f : Nat → Nat → Bool) : List Bool := (List.range (V * n)).map fun i => f (i / n) (i % n)
theorem tab_len (V n : Nat) (f : Nat → Nat → Bool) : (tab V n f).length = V * n := by simp [tab]
theorem ix_lt {V n v l : Nat} (hv : v < V) (hl : l < n) : v * n + l < V * n := by
  have h1 : (v + 1) * n ≤ V * n := Nat.mul_le_mul_right n hv
  rw [Nat.add_mul, Nat.one_mul] at h1
  omega
theorem ix_div {n v l : Nat} (hl : l < n) : (v * n + l) / n = v := by
  rw [Nat.mul_comm, Nat.mul_add_div (by omega), Nat.div_eq_of_lt hl, Nat.add_zero]
theorem ix_mod {n v l : Nat} (hl : l < n) : (v * n + l) % n = l := by
  rw [Nat.mul_comm, Nat.mul_add_mod, Nat.mod_eq_of_lt hl]
theorem ix_inj {n v l v' l' : Nat} (hl : l < n) (hl' : l' < n) (h : v * n + l = v' * n + l') : v = v' ∧ l = l' := by
  have h1 := congrArg (· / n) h
  have h2 := congrArg (· % n) h
  simp only [ix_div hl, ix_div hl', ix_mod hl, ix_mod hl'] at h1 h2
  exact ⟨h1, h2⟩
theorem ix_of {V n i : Nat} (h : i < V * n) : i / n < V ∧ i % n < n ∧ (i / n) * n + i % n = i := by
  have hn : 0 < n := by
    rcases Nat.eq_zero_or_pos n with h0 | h0
    · subst h0; simp at h
    · exact h0
  exact ⟨Nat.div_lt_of_lt_mul (by rwa [Nat.mul_comm] at h), Nat.mod_lt _ hn, by rw [Nat.mul_comm]; exact Nat.div_add_mod i n⟩
theorem tab_at {V n : Nat} (f : Nat → Nat → Bool) {v l : Nat} (hv : v < V) (hl : l < n) : (tab V n f)[v * n + l]? = some (f v l) := by
  have h := ix_lt hv hl
  unfold tab
  rw [List.getElem?_map, List.getElem?_range h, Option.map_some, ix_div hl, ix_mod hl]
theorem tab_get {V n i : Nat} (f : Nat → Nat → Bool) (h : i < V * n) : (tab V n f)[i]? = some (f (i / n) (i % n)) := by
  unfold tab
  rw [List.getElem?_map, List.getElem?_range h, Option.map_some]
theorem tab_congr {V n : Nat} {f f' : Nat → Nat → Bool} (h : ∀ v l, v < V → l < n → f v l = f' v l) : tab V n f = tab V n f' := by
  apply List.ext_getElem?
  intro i
  rcases Nat.lt_or_ge i (V * n) with hi | hi
  · obtain ⟨h1, h2, -⟩ := ix_of hi
    rw [tab_get f hi, tab_get f' hi, h _ _ h1 h2]
  · rw [List.getElem?_eq_none (by rw [tab_len]; exact hi), List.getElem?_eq_none (by rw [tab_len]; exact hi)]
def upd (f : Nat → Nat → Bool) (v l : Nat) (x : Bool) : Nat → Nat → Bool := fun a b => if a = v ∧ b = l then x else f a b
theorem tab_set {V n : Nat} (f : Nat → Nat → Bool) {v l : Nat} (hv : v < V) (hl : l < n) (x : Bool) : (tab V n f).set (v * n + l) x = tab V n (upd f v l x) := by
  apply List.ext_getElem?
  intro i
  rw [List.getElem?_set]
  rcases Nat.lt_or_ge i (V * n) with hi | hi
  · obtain ⟨h1, h2, h3⟩ := ix_of hi
    rw [tab_get _ hi, tab_get _ hi]
    unfold upd
    by_cases e : v * n + l = i
    · subst e
      rw [if_pos rfl, if_pos (by rw [tab_len]; exact hi), if_pos ⟨ix_div hl, ix_mod hl⟩]
    · rw [if_neg e, if_neg (fun h => e (by rw [← h.1, ← h.2]; exact h3))]
  · rw [if_neg (by have := ix_lt hv hl; omega), List.getElem?_eq_none (by rw [tab_len]; exact hi), List.getElem?_eq_none (by rw [tab_len]; exact hi)]
theorem tab_false (V n : Nat) : List.replicate (V * n) false = tab V n (fun _ _ => false) := by
  apply List.ext_getElem (by simp [tab_len])
  intro i h1 h2
  simp [tab]
/-- The first k of a table's pairs. -/
def pre (n : Nat) (f : Nat → Nat → Bool) (k : Nat) : List Pr := (List.range k).filterMap fun i => if f (i / n) (i % n) then some (((i / n : Nat) : Int), ((i % n : Nat) : Int)) else none
def pairsOf (V n : Nat) (f : Nat → Nat → Bool) : List Pr := pre n f (V * n)
theorem pre_zero (n : Nat) (f : Nat → Nat → Bool) : pre n f 0 = [] := rfl
theorem pre_succ {n : Nat} (f : Nat → Nat → Bool) {v l : Nat} (hl : l < n) : pre n f (v * n + l + 1) = pre n f (v * n + l) ++ (if f v l then [((v : Int), (l : Int))] else []) := by
  unfold pre
  rw [List.range_succ, List.filterMap_append]
  congr 1
  simp only [List.filterMap_cons, List.filterMap_nil, ix_div hl, ix_mod hl]
  by_cases h : f v l <;> simp [h]
theorem pre_len (n : Nat) (f : Nat → Nat → Bool) (k : Nat) : (pre n f k).length ≤ k := by
  unfold pre
  have h := List.length_filterMap_le (fun i => if f (i / n) (i % n) then some (((i / n : Nat) : Int), ((i % n : Nat) : Int)) else none) (List.range k)
  simpa using h
theorem mem_pairsOf {V n : Nat} {f : Nat → Nat → Bool} {p : Pr} : p ∈ pairsOf V n f ↔ ∃ v l : Nat, v < V ∧ l < n ∧ p = ((v : Int), (l : Int)) ∧ f v l = true := by
  unfold pairsOf pre
  rw [List.mem_filterMap]
  constructor
  · rintro ⟨i, hi, h⟩
    obtain ⟨h1, h2, h3⟩ := ix_of (List.mem_range.1 hi)
    by_cases hf : f (i / n) (i % n) = true
    · rw [if_pos hf] at h
      exact ⟨_, _, h1, h2, (Option.some.inj h).symm, hf⟩
    · rw [if_neg hf] at h
      cases h
  · rintro ⟨v, l, hv, hl, rfl, hf⟩
    exact ⟨v * n + l, List.mem_range.2 (ix_lt hv hl), by rw [ix_div hl, ix_mod hl, if_pos hf]⟩
theorem mem_pairsOf_nat {V n : Nat} {f : Nat → Nat → Bool} {v l : Nat} : ((v : Int), (l : Int)) ∈ pairsOf V n f ↔ v < V ∧ l < n ∧ f v l = true := by
  rw [mem_pairsOf]
  constructor
  · rintro ⟨v', l', h1, h2, h3, h4⟩
    have e1 : (v : Int) = v' := congrArg Prod.fst h3
    have e2 : (l : Int) = l' := congrArg Prod.snd h3
    have e1 : v = v' := by omega
    have e2 : l = l' := by omega
    subst e1 e2
    exact ⟨h1, h2, h4⟩
  · rintro ⟨h1, h2, h3⟩
    exact ⟨v, l, h1, h2, rfl, h3⟩
theorem rise_pairsOf (V n : Nat) (f : Nat → Nat → Bool) : Rise (pairsOf V n f) := by
  unfold Rise pairsOf pre
  rw [List.pairwise_filterMap]
  refine List.Pairwise.imp (R := fun a b => a < b) ?_ List.pairwise_lt_range
  intro a b hab x hx y hy
  by_cases hf : f (a / n) (a % n) = true
  · by_cases hg : f (b / n) (b % n) = true
    · simp only [if_pos hf, if_pos hg, Option.some.injEq] at hx hy
      subst hx hy
      unfold lt
      have h1 : a / n ≤ b / n := Nat.div_le_div_right (Nat.le_of_lt hab)
      have h2 := Nat.div_add_mod a n
      have h3 := Nat.div_add_mod b n
      rcases Nat.lt_or_ge (a / n) (b / n) with h | h
      · exact .inl (by simp only; omega)
      · have e : a / n = b / n := Nat.le_antisymm h1 h
        rw [e] at h2
        exact .inr ⟨by simp only; omega, by simp only; omega⟩
    · simp [hg] at hy
  · simp [hf] at hx
/-- Pairs of a box. -/
def InBox (V n : Nat) (l : List Pr) : Prop := ∀ p ∈ l, 0 ≤ p.1 ∧ p.1 < V ∧ 0 ≤ p.2 ∧ p.2 < n
theorem inBox_pairsOf (V n : Nat) (f : Nat → Nat → Bool) : InBox V n (pairsOf V n f) := by
  intro p hp
  obtain ⟨v, l, hv, hl, rfl, -⟩ := mem_pairsOf.1 hp
  simp only
  omega
def memF (l : List Pr) : Nat → Nat → Bool := fun v x => decide (((v : Int), (x : Int)) ∈ l)
/-- What rises in a box is the pairs of what is in it. -/
theorem pairsOf_mem {V n : Nat} {l : List Pr} (h : Rise l) (hb : InBox V n l) : pairsOf V n (memF l) = l := by
  refine rise_ext (rise_pairsOf _ _ _) h fun p => ?_
  rw [mem_pairsOf]
  constructor
  · rintro ⟨v, x, -, -, rfl, h4⟩
    exact of_decide_eq_true h4
  · intro hp
    obtain ⟨h1, h2, h3, h4⟩ := hb p hp
    have e : p = (((p.1.toNat : Nat) : Int), ((p.2.toNat : Nat) : Int)) := Prod.ext (by simp only; omega) (by simp only; omega)
    exact ⟨p.1.toNat, p.2.toNat, by omega, by omega, e, decide_eq_true (by rw [← e]; exact hp)⟩
/-- A rising list of a box by its members, as a table's pairs. -/
theorem eq_pairsOf {V n : Nat} {l : List Pr} {f : Nat → Nat → Bool} (h : Rise l) (hb : InBox V n l) (hm : ∀ v x : Nat, v < V → x < n → (((v : Int), (x : Int)) ∈ l ↔ f v x = true)) : l = pairsOf V n f := by
  rw [← pairsOf_mem h hb]
  refine rise_ext (rise_pairsOf _ _ _) (rise_pairsOf _ _ _) fun p => ?_
  rw [mem_pairsOf, mem_pairsOf]
  constructor
  · rintro ⟨v, x, h1, h2, h3, h4⟩
    exact ⟨v, x, h1, h2, h3, (hm v x h1 h2).1 (of_decide_eq_true h4)⟩
  · rintro ⟨v, x, h1, h2, h3, h4⟩
    exact ⟨v, x, h1, h2, h3, decide_eq_true ((hm v x h1 h2).2 h4)⟩
/-- How many: no more than the table's. -/
theorem len_box {V n : Nat} {l : List Pr} (h : Rise l) (hb : InBox V n l) : l.length ≤ V * n := by
  rw [← pairsOf_mem h hb]
  exact pre_len _ _ _
end Go.Proofs.Ytmkkebllmmafmaa.Ps
