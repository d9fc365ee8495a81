/- A region of open order, walked in the order of its text, where the last operations may turn what the others have read (a store behind its loads). -/
import Derived.Test.YtmkkebllmmafmaaR
namespace Go.Proofs.Ytmkkebllmmafmaa.R
open Go Go.RowKit Go.Proofs.Ytmkkebllmmafmaa.B
set_option linter.unusedVariables false
set_option linter.unusedSimpArgs false
section
variable {P : Program} {ops : Array Oper} {Q : Exit → Act → World → Prop} {md : Region.Mode} {R : World → World → Prop} {E : List Nat}
/-- What is listed is listed behind what it needs. -/
def closedB (md : Region.Mode) (ops : Array Oper) (listed : Array Bool) : Bool :=
  (List.range ops.size).all fun j => !listed.getD j true || ((ops[j]?).map (·.after.all fun e => !Region.binds md e || listed.getD e.on false)).getD true
/-- Operation j needs operation i, at most n steps away. -/
def needsB (md : Region.Mode) (ops : Array Oper) (i : Nat) : Nat → Nat → Bool
  | 0, _ => false
  | n + 1, j => ((ops[j]?).map (·.after.any fun e => Region.binds md e && (e.on == i || needsB md ops i n e.on))).getD false
def Closed (md : Region.Mode) (ops : Array Oper) (listed : Array Bool) : Prop := ∀ j oj, ops[j]? = some oj → listed.getD j false = true → ∀ e ∈ oj.after, Region.binds md e = true → listed.getD e.on false = true
theorem closed_of {listed : Array Bool} (h : closedB md ops listed = true) : Closed md ops listed := by
  intro j oj hj hl e he hb
  have hjs := (Array.getElem?_eq_some_iff.1 hj).1
  unfold closedB at h
  rw [List.all_eq_true] at h
  have h1 := h j (List.mem_range.2 hjs)
  have hl' : listed.getD j true = true := by
    rcases Nat.lt_or_ge j listed.size with h' | h'
    · simpa [Array.getD, h'] using hl
    · simp [Array.getD, Nat.not_lt.2 h'] 
  rw [hl', hj] at h1
  simp only [Option.map_some, Option.getD_some, Bool.not_true, Bool.false_or, Array.all_eq_true_iff_forall_mem] at h1
  have h2 := h1 e he
  rw [hb] at h2
  simpa using h2
theorem needs_listed {listed : Array Bool} (hc : Closed md ops listed) {i : Nat} : ∀ (n j : Nat), needsB md ops i n j = true → (∀ oj, ops[j]? = some oj → ∀ e ∈ oj.after, Region.binds md e = true → listed.getD e.on false = true) → listed.getD i false = true
  | 0, _, h, _ => by simp [needsB] at h
  | n + 1, j, h, hall => by
    unfold needsB at h
    cases hj : ops[j]? with
    | none => rw [hj] at h; simp at h
    | some oj =>
      rw [hj] at h
      simp only [Option.map_some, Option.getD_some, Array.any_eq_true'] at h
      obtain ⟨e, he, h2⟩ := h
      simp only [Bool.and_eq_true, Bool.or_eq_true, beq_iff_eq] at h2
      have hon := hall oj hj e he h2.1
      rcases h2.2 with h3 | h3
      · rw [← h3]; exact hon
      · exact needs_listed hc n e.on h3 (fun oj' hj' e' he' hb' => hc e.on oj' hj' hon e' he' hb')

/-- Whatever order is picked from here on; each step but those of E leads to a world to come. -/
def wpAnyE (P : Program) (md : Region.Mode) (ops : Array Oper) (Q : Exit → Act → World → Prop) (R : World → World → Prop) (E : List Nat) : Nat → Array Bool → Act → World → Prop
  | 0, listed, a, w => Region.ready md ops listed = [] ∧ Q .normal a w
  | fuel + 1, listed, a, w =>
    (Region.ready md ops listed = [] → Q .normal a w) ∧
    ∀ i ∈ Region.ready md ops listed, wpOp P ops Q i (fun a' w' => (i ∈ E ∨ R w w') ∧ wpAnyE P md ops Q R E fuel (listed.setIfInBounds i true) a' w') a w
theorem wpAny_of_E : ∀ (fuel : Nat) (listed : Array Bool) (a : Act) (w : World), wpAnyE P md ops Q R E fuel listed a w → wpAny P md ops Q fuel listed a w
  | 0, _, _, _, h => h
  | fuel + 1, _, _, _, h => ⟨h.1, fun i hi => wpOp_mono (fun a' w' h' => wpAny_of_E fuel _ a' w' h'.2) (h.2 i hi)⟩
theorem closed_step {listed : Array Bool} (hc : Closed md ops listed) {i : Nat} (hi : i ∈ Region.ready md ops listed) : Closed md ops (listed.setIfInBounds i true) := by
  obtain ⟨hun, oi, hoi, hall⟩ := mem_ready.1 hi
  have up : ∀ k, listed.getD k false = true → (listed.setIfInBounds i true).getD k false = true := fun k hk => by
    by_cases hik : i = k
    · subst hik
      have : i < listed.size := by
        rcases Nat.lt_or_ge i listed.size with h | h
        · exact h
        · simp [Array.getD, Nat.not_lt.2 h] at hk
      simp [Array.getD, this]
    · rw [getD_set_ne false hik]; exact hk
  intro j oj hj hl e he hb
  by_cases hij : i = j
  · subst hij
    rw [hj] at hoi
    injection hoi with hoi
    subst hoi
    exact up _ (hall e he hb)
  · rw [getD_set_ne false hij] at hl
    exact up _ (hc j oj hj hl e he hb)
theorem wpAnyE_first (hrefl : ∀ w, R w w) (htr : ∀ a b c, R a b → R b c → R a c) {i : Nat} {oi : Oper} {v : Value} (hi : ops[i]? = some oi) (hsel : ∀ (j : Nat) (o : Oper) cs b, ops[j]? = some o → o.op ≠ .select cs b)
    (hE : ∀ j, j ∈ E → j ≠ i → ∃ n, needsB md ops i n j = true)
    (hQ : ∀ c a w, Q (.panic c) (a.put oi.dst v) w → Q (.panic c) a w) :
    ∀ (fuel : Nat) (listed : Array Bool) (a : Act) (w : World), Closed md ops listed →
      (∀ j oj, ops[j]? = some oj → j ≠ i → listed.getD j true = false → (∀ e ∈ oj.after, Region.binds md e = true → e.on ≠ i) → oi.apart ops oj = true) →
      i ∈ Region.ready md ops listed → YieldsIf P ops (R w) oi v a →
      wpAnyE P md ops Q R E fuel (listed.setIfInBounds i true) (a.put oi.dst v) w → wpAnyE P md ops Q R E (fuel + 1) listed a w := by
  intro fuel
  induction fuel with
  | zero =>
    intro listed a w _ _ hr hy H
    refine ⟨fun h => (by rw [h] at hr; cases hr), fun j hj => ?_⟩
    by_cases hji : j = i
    · subst hji; exact hy.wpOp hi (hrefl w) ⟨.inr (hrefl w), H⟩
    · have := ready_mono hj hji
      rw [H.1] at this
      cases this
  | succ fuel ih =>
    intro listed a w hcl hfree hr hy H
    refine ⟨fun h => (by rw [h] at hr; cases hr), fun j hj => ?_⟩
    by_cases hji : j = i
    · subst hji; exact hy.wpOp hi (hrefl w) ⟨.inr (hrefl w), H⟩
    · have h1 := H.2 j (ready_mono hj hji)
      obtain ⟨hjun, oj, hoj, hall⟩ := mem_ready.1 hj
      have hiun := (mem_ready.1 hr).1
      have hjE : j ∉ E := fun hm => by
        obtain ⟨n, hn⟩ := hE j hm hji
        have h2 := needs_listed hcl n j hn (fun oj' hoj' e he hb => by
          rw [hoj] at hoj'
          injection hoj' with hoj'
          subst hoj'
          exact hall e he hb)
        rcases Nat.lt_or_ge i listed.size with h' | h'
        · simp [Array.getD, h'] at h2 hiun
          rw [h2] at hiun
          cases hiun
        · simp [Array.getD, Nat.not_lt.2 h'] at h2
      have hnot : ∀ e ∈ oj.after, Region.binds md e = true → e.on ≠ i := fun e he hb heq => by
        have h1 := hall e he hb
        have h0 := (mem_ready.1 hr).1
        rw [heq] at h1
        rcases Nat.lt_or_ge i listed.size with h' | h'
        · simp [h'] at h0 h1; rw [h0] at h1; cases h1
        · simp [Array.getElem?_eq_none h'] at h1
      have h2 := wpOp_putIf hoj (hfree j oj hoj hji hjun hnot) (fun cs b => hsel i oi cs b hi) (fun cs b => hsel j oj cs b hoj) hQ hy h1
      have hfree' : ∀ k ok, ops[k]? = some ok → k ≠ i → (listed.setIfInBounds j true).getD k true = false →
          (∀ e ∈ ok.after, Region.binds md e = true → e.on ≠ i) → oi.apart ops ok = true := fun k ok hk hki hun hno => by
        refine hfree k ok hk hki ?_ hno
        by_cases hjk : j = k
        · subst hjk; exact hjun
        · rw [getD_set_ne true hjk] at hun; exact hun
      refine wpOp_mono (fun a' w' h3 => ⟨h3.2.1, ih (listed.setIfInBounds j true) a' w' (closed_step hcl hj) hfree' (ready_mono hr (Ne.symm hji)) (yieldsIf_mono h3.1 (fun w'' hw'' => htr _ _ _ (h3.2.1.resolve_left hjE) hw'')) ?_⟩) h2
      rw [Array.setIfInBounds_comm _ _ hji]
      exact h3.2.2
end
/-! The moves, with R = Keep S. -/
section
variable {P : Program} {ops : Array Oper} {Q : Exit → Act → World → Prop} {fuel : Nat} {listed listed' : Array Bool} {a : Act} {w : World} {S : Nat → Prop} {E : List Nat}
def Re (E : List Nat) (S : Nat → Prop) (P : Program) (ops : Array Oper) (Q : Exit → Act → World → Prop) (fuel : Nat) (listed : Array Bool) (a : Act) (w : World) : Prop := wpAnyE P .any ops Q (Keep S) E fuel listed a w
theorem re_start (E : List Nat) (S : Nat → Prop) {id : Nat} (hm : P.follows .mixedOrders = true) {n : Nat} {l : Array Bool} (hn : ops.size = n) (hl : Array.replicate n false = l)
    (h : Re E S P ops Q n l a w.drew) : (Code.region id ops true).wp P Q a w := by
  subst hn
  subst hl
  exact wp_region_any hm (wpAny_of_E _ _ _ _ h)
/-- What is asked of an operation that is taken ahead. -/
def takes (E : List Nat) (ops : Array Oper) (listed : Array Bool) (i : Nat) : Bool :=
  Region.noSelect ops && Region.free .any ops listed i && (Region.ready .any ops listed).contains i && closedB .any ops listed && E.all fun j => j == i || needsB .any ops i ops.size j
theorem takes_E {i : Nat} (h : (E.all fun j => j == i || needsB .any ops i ops.size j) = true) : ∀ j, j ∈ E → j ≠ i → ∃ n, needsB .any ops i n j = true := fun j hj hne => by
  have h1 := (List.all_eq_true.1 h) j hj
  simp only [Bool.or_eq_true, beq_iff_eq] at h1
  exact ⟨_, h1.resolve_left hne⟩
theorem re_take (i : Nat) {oi : Oper} {v : Value} {a' : Act} (hi0 : ops.toList[i]? = some oi) (hc : takes E ops listed i = true)
    (hl : listed.setIfInBounds i true = listed')
    (hQ : ∀ c a w, Q (.panic c) (a.put oi.dst v) w → Q (.panic c) a w) (hw : Region.wanted oi (yielded ops a.tmps) = true) (hy : ∀ w', Keep S w w' → (execOp a.eval oi).run P w' = .ok (.value v) w')
    (ha : a.put oi.dst v = a') (h : Re E S P ops Q fuel listed' a' w) : Re E S P ops Q (fuel + 1) listed a w := by
  have hi : ops[i]? = some oi := by rw [← hi0]; simp
  subst hl
  subst ha
  simp only [takes, Bool.and_eq_true] at hc
  exact wpAnyE_first (R := Keep S) (Keep.refl S) (fun _ _ _ => Keep.trans) hi (Region.noSelect_spec hc.1.1.1.1) (takes_E hc.2) hQ fuel listed a w (closed_of hc.1.2) (Region.free_spec hi hc.1.1.1.2) (by simpa using hc.1.1.2) (.inl ⟨hw, hy⟩) h
theorem re_skip (i : Nat) {oi : Oper} {a' : Act} (hi0 : ops.toList[i]? = some oi) (hc : takes E ops listed i = true)
    (hl : listed.setIfInBounds i true = listed')
    (hQ : ∀ c a w, Q (.panic c) (a.put oi.dst undef) w → Q (.panic c) a w) (hw : Region.wanted oi (yielded ops a.tmps) = false)
    (ha : a.put oi.dst undef = a') (h : Re E S P ops Q fuel listed' a' w) : Re E S P ops Q (fuel + 1) listed a w := by
  have hi : ops[i]? = some oi := by rw [← hi0]; simp
  subst hl
  subst ha
  simp only [takes, Bool.and_eq_true] at hc
  exact wpAnyE_first (R := Keep S) (Keep.refl S) (fun _ _ _ => Keep.trans) hi (Region.noSelect_spec hc.1.1.1.1) (takes_E hc.2) hQ fuel listed a w (closed_of hc.1.2) (Region.free_spec hi hc.1.1.1.2) (by simpa using hc.1.1.2) (.inr ⟨hw, rfl⟩) h
theorem re_step (i : Nat) {oi : Oper} (hi0 : ops.toList[i]? = some oi) (hr : (Region.ready .any ops listed == [i]) = true) (hl : listed.setIfInBounds i true = listed') (hw : Region.wanted oi (yielded ops a.tmps) = true)
    (h : ∀ K' : Act → World → Prop, Shut (∀ a' w', Keep S w w' → Re E S P ops Q fuel listed' a' w' → K' a' w') → Oper.wp P oi a w K' Q) : Re E S P ops Q (fuel + 1) listed a w := by
  have hi : ops[i]? = some oi := by rw [← hi0]; simp
  subst hl
  have hr' : Region.ready .any ops listed = [i] := by simpa using hr
  refine ⟨fun h0 => (by rw [h0] at hr'; cases hr'), ?_⟩
  rw [hr']
  intro j hj
  rw [List.mem_singleton] at hj
  subst hj
  refine wpOp_step hi (fun K' hK => ?_)
  rw [if_pos hw]
  exact h K' (fun a' w' h1 h2 => hK a' w' ⟨.inr h1, h2⟩)
/-- One of E: whatever world it leads to. -/
theorem re_free (i : Nat) {oi : Oper} (hi0 : ops.toList[i]? = some oi) (hr : (Region.ready .any ops listed == [i] && E.contains i) = true) (hl : listed.setIfInBounds i true = listed') (hw : Region.wanted oi (yielded ops a.tmps) = true)
    (h : ∀ K' : Act → World → Prop, Shut (∀ a' w', True → Re E S P ops Q fuel listed' a' w' → K' a' w') → Oper.wp P oi a w K' Q) : Re E S P ops Q (fuel + 1) listed a w := by
  have hi : ops[i]? = some oi := by rw [← hi0]; simp
  subst hl
  simp only [Bool.and_eq_true] at hr
  have hr' : Region.ready .any ops listed = [i] := by simpa using hr.1
  refine ⟨fun h0 => (by rw [h0] at hr'; cases hr'), ?_⟩
  rw [hr']
  intro j hj
  rw [List.mem_singleton] at hj
  subst hj
  refine wpOp_step hi (fun K' hK => ?_)
  rw [if_pos hw]
  exact h K' (fun a' w' _ h2 => hK a' w' ⟨.inl (by simpa using hr.2), h2⟩)
theorem re_done (hr : (Region.ready .any ops listed == []) = true) (h : Q .normal a w) : Re E S P ops Q fuel listed a w := by
  have hr' : Region.ready .any ops listed = [] := by simpa using hr
  cases fuel with
  | zero => exact ⟨hr', h⟩
  | succ n => exact ⟨fun _ => h, (by rw [hr']; intro j hj; cases hj)⟩
end
end Go.Proofs.Ytmkkebllmmafmaa.R
