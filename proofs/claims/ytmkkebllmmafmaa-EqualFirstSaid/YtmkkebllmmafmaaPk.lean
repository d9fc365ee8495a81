/- Rows of pairs of numbers: read, owned, stored. -/
import Derived.Test.YtmkkebllmmafmaaK
import Derived.Test.YtmkkebllmmafmaaQ
import Derived.Test.YtmkkebllmmafmaaU
import Derived.Test.YtmkkebllmmafmaaV
import Derived.Test.YtmkkebllmmafmaaPf
import Derived.Test.YtmkkebllmmafmaaProg
import Derived.WalkSpells
import Derived.Shelf.GgSortFunc.InsertionK
namespace Go.Proofs.Ytmkkebllmmafmaa.Pk
open Go.RowKit Go.Proofs.YtmkkebllmmafmaaW.PrintWords Go.Proofs.YtmkkebllmmafmaaW.PrintLast Go.Proofs.YtmkkebllmmafmaaW.PrintMore Go.Proofs.Ytmkkebllmmafmaa.B Go.Proofs.Ytmkkebllmmafmaa.Ps Go.Proofs.Ytmkkebllmmafmaa.R
set_option linter.unusedVariables false
set_option linter.unusedSimpArgs false
/-- A pair's two cells. -/
def encP (p : Pr) : List Value := [.int .i64 p.1, .int .i64 p.2]
abbrev kP : Kd Pr := Kd.pair (Kd.int .i64) (Kd.int .i64)
theorem kP_K {w : World} {p : Pr} {cs : List Value} : kP.K w p cs ↔ cs = encP p := by
  constructor
  · rintro ⟨c0, c1, rfl, h0, h1⟩
    have e0 : c0 = [.int .i64 p.1] := h0
    have e1 : c1 = [.int .i64 p.2] := h1
    subst e0 e1
    rfl
  · rintro rfl
    exact ⟨[_], [_], rfl, rfl, rfl⟩
theorem kP_M {w : World} {base : Nat} {ok : Nat → Prop} {p : Pr} {cs : List Value} : kP.M w base ok p cs ↔ cs = encP p := by
  constructor
  · rintro ⟨c0, c1, rfl, h0, h1⟩
    have e0 : c0 = [.int .i64 p.1] := h0
    have e1 : c1 = [.int .i64 p.2] := h1
    subst e0 e1
    rfl
  · rintro rfl
    exact ⟨[_], [_], rfl, rfl, rfl⟩
def flatP (l : List Pr) : List Value := l.flatMap encP
theorem flatP_len (l : List Pr) : (flatP l).length = l.length * 2 := by
  unfold flatP
  induction l with
  | nil => rfl
  | cons p l ih => rw [List.flatMap_cons, List.length_append, ih]; simp [encP]; omega
theorem flatP_drop (l : List Pr) {j : Nat} {p : Pr} (h : l[j]? = some p) : ((flatP l).drop (j * 2)).take 2 = encP p := by
  induction l generalizing j with
  | nil => simp at h
  | cons q l ih =>
    cases j with
    | zero =>
      have e : q = p := by simpa using h
      subst e
      simp [flatP, encP]
    | succ j =>
      have h2 := ih (j := j) (by simpa using h)
      have e1 : (j + 1) * 2 = j * 2 + 2 := by omega
      rw [e1]
      show ((encP q ++ flatP l).drop (j * 2 + 2)).take 2 = _
      rw [Nat.add_comm, ← List.drop_drop]
      exact h2
theorem flatP_at (l : List Pr) {j : Nat} {p : Pr} (h : l[j]? = some p) : (flatP l)[j * 2]? = some (.int .i64 p.1) ∧ (flatP l)[j * 2 + 1]? = some (.int .i64 p.2) := by
  have h2 := flatP_drop l h
  have h3 := congrArg (fun x : List Value => x[0]?) h2
  have h4 := congrArg (fun x : List Value => x[1]?) h2
  simp only [List.getElem?_take, List.getElem?_drop] at h3 h4
  exact ⟨by simpa [encP] using h3, by simpa [encP] using h4⟩
theorem reps_flatP (l : List Pr) : Reps (fun p cs => cs = encP p) 2 l (flatP l) := ⟨flatP_len l, fun j p h => flatP_drop l h⟩
theorem flat_of_reps {l : List Pr} {cs : List Value} (h : Reps (fun p cs => cs = encP p) 2 l cs) : cs = flatP l := by
  apply List.ext_getElem?
  intro i
  rcases Nat.lt_or_ge i (l.length * 2) with hi | hi
  · have hj : i / 2 < l.length := by omega
    have h1 := h.2 (i / 2) _ (List.getElem?_eq_getElem hj)
    have h2 := flatP_drop l (List.getElem?_eq_getElem hj)
    have h3 := congrArg (fun x : List Value => x[i % 2]?) (h1.trans h2.symm)
    simp only [List.getElem?_take, List.getElem?_drop] at h3
    rw [if_pos (Nat.mod_lt _ (by decide)), if_pos (Nat.mod_lt _ (by decide))] at h3
    have e : i / 2 * 2 + i % 2 = i := by omega
    rw [e] at h3
    exact h3
  · rw [List.getElem?_eq_none (by rw [h.1]; omega), List.getElem?_eq_none (by rw [flatP_len]; omega)]
section
variable {e : Nat} {w w1 : World} {base : Nat} {ok : Nat → Prop} {v : Value} {l : List Pr}
theorem own_of_P (h : kP.R e w base ok v l) : w.ownsRow base e 2 v l.length (flatP l) := by
  obtain ⟨_, inner, ho, hr⟩ := h
  have := flat_of_reps (hr.imp_ (fun _ _ hp => kP_M.1 hp))
  rw [← this]
  exact ho
theorem P_of_own (h : w.ownsRow base e 2 v l.length (flatP l)) (hok : ∀ k, v.ownBlock = some k → ok k) : kP.R e w base ok v l := ⟨hok, _, h, (reps_flatP l).imp_ (fun _ _ hp => kP_M.2 hp)⟩
/-- A pair that is read. -/
theorem P_get {A : Option Addr} {n : Nat} (h : kP.C w A n l) {j : Nat} {p : Pr} (hj : l[j]? = some p) : ∃ ad : Addr, A = some ad ∧ w.cell? (ad.add (j * 2)) = some (.int .i64 p.1) ∧ w.cell? ⟨(ad.add (j * 2)).block, (ad.add (j * 2)).off + 1, none⟩ = some (.int .i64 p.2) := by
  have hl := (List.getElem?_eq_some_iff.1 hj).1
  obtain ⟨ad, e, hc⟩ := h.2.2 (by have := h.1; omega)
  obtain ⟨cs, h1, h2, h3⟩ := hc j _ hj
  obtain rfl := kP_K.1 h2
  have g0 := h3 0 _ rfl
  have g1 := h3 1 _ rfl
  have hs : kP.sz = 2 := rfl
  rw [hs] at g0 g1
  rw [← Go.Proofs.YtmkkebllmmafmaaW.PrintWords.add_add] at g1
  exact ⟨ad, e, g0, g1⟩
/-- .. of a row of one's own. -/
theorem P_at {g n c : Nat} (h : kP.R e w base ok (.slice (some ⟨g, 0, none⟩) n c) l) {j : Nat} {p : Pr} (hj : l[j]? = some p) : w.cell? ⟨g, j * 2, none⟩ = some (.int .i64 p.1) ∧ w.cell? ⟨g, j * 2 + 1, none⟩ = some (.int .i64 p.2) := by
  obtain ⟨A, c', hv, -, hC⟩ := Kd.R_reads h
  injection hv with hv
  subst hv
  obtain ⟨ad, e1, h1, h2⟩ := P_get hC hj
  injection e1 with e1
  subst e1
  have hadd : (⟨g, 0, none⟩ : Addr).add (j * 2) = ⟨g, j * 2, none⟩ := by unfold Addr.add; split <;> simp_all
  rw [hadd] at h1 h2
  exact ⟨h1, h2⟩
theorem P_head {A : Option Addr} {n c : Nat} (h : kP.R e w base ok (.slice A n c) l) (h0 : 0 < l.length) : ∃ g cur, A = some ⟨g, 0, none⟩ ∧ base ≤ g ∧ w.heap[g]? = some (.cells cur e (0, 0)) ∧ n = l.length ∧ n ≤ c ∧ c ≤ maxLen ∧ cur.size = c * 2 ∧ cur.toList.take (l.length * 2) = flatP l := by
  obtain ⟨h1, h2⟩ := own_of_P h
  rcases h2 with ⟨_, h2⟩ | ⟨g, cap, cur, e1, hb, hh, hn, hc, hs, ht⟩
  · omega
  · injection e1 with e1 e2 e3
    subst e1 e2 e3
    exact ⟨g, cur, rfl, hb, hh, rfl, hn, hc, hs, ht⟩
end
open Go.Sort in
theorem flatK_flatP (d : Array Pr) : (flatK encP 2 d).toList = flatP d.toList := by
  apply List.ext_getElem?
  intro i
  rcases Nat.lt_or_ge i (d.size * 2) with hi | hi
  · have hj : i / 2 < d.size := by omega
    have h1 : (flatK encP 2 d)[i]! = (encP d[i / 2]!)[i % 2]! := get_flatK encP 2 d i hi
    have h2 := flatP_at d.toList (j := i / 2) (p := d[i / 2]) (by rw [Array.getElem?_toList]; exact Array.getElem?_eq_getElem hj)
    rw [getElem!_pos d _ hj, getElem!_pos (flatK encP 2 d) i (by simpa using hi)] at h1
    rw [Array.getElem?_toList, Array.getElem?_eq_getElem (by simpa using hi), h1]
    rcases (by omega : i % 2 = 0 ∨ i % 2 = 1) with h | h
    · have e : i / 2 * 2 = i := by omega
      rw [e] at h2
      rw [h2.1, h]
      rfl
    · have e : i / 2 * 2 + 1 = i := by omega
      rw [e] at h2
      rw [h2.2, h]
      rfl
  · rw [List.getElem?_eq_none (by simp; omega), List.getElem?_eq_none (by rw [flatP_len, Array.length_toList]; omega)]
section
open Go.Sort
theorem put_take (F cur : Array Value) (h : F.size ≤ cur.size) : (putCells id 0 F cur).toList.take F.size = F.toList := by
  apply List.ext_getElem?
  intro i
  rw [List.getElem?_take]
  by_cases hi : i < F.size
  · rw [if_pos hi, Array.getElem?_toList, Array.getElem?_toList, putCells, Array.getElem?_mapIdx, Array.getElem?_eq_getElem (by omega : i < cur.size), Option.map_some, if_pos ⟨Nat.zero_le _, by omega⟩, Array.getElem?_eq_getElem hi]
    simp [getElem!_pos F i hi]
  · rw [if_neg hi, Array.getElem?_toList, Array.getElem?_eq_none (by omega)]
theorem sorted_keep (w : World) (g n : Nat) (d : Array Pr) (os : Array Obj) : Keep (· = g) w (sortWorldK encP 2 w g 0 n d os) := by
  refine ⟨rfl, rfl, rfl, ?_, fun k hk hne => ?_⟩
  · unfold sortWorldK
    rw [size_grow]
    show w.heap.size ≤ (putRow id (Go.Sort.ahead w n) g 0 _).heap.size + _
    rw [size_putRow]
    exact Nat.le_add_right _ _
  · unfold sortWorldK grow putRowK putRow mapBlock
    show ((w.heap.modify g _) ++ os)[k]? = _
    rw [Array.getElem?_append_left (by simpa using hk), Array.getElem?_modify, if_neg (fun h => hne h.symm)]
theorem sorted_own {w : World} {g e c base : Nat} {cur : Array Value} {d : Array Pr} (n : Nat) (os : Array Obj) (hh : w.heap[g]? = some (.cells cur e (0, 0))) (hb : base ≤ g) (hn : d.size ≤ c) (hc : c ≤ maxLen) (hs : cur.size = c * 2) :
    (sortWorldK encP 2 w g 0 n d os).ownsRow base e 2 (.slice (some ⟨g, 0, none⟩) d.toList.length c) d.toList.length (flatP d.toList) := by
  have hg : g < w.heap.size := (Array.getElem?_eq_some_iff.1 hh).1
  refine ⟨by simp [flatP_len], .inr ⟨g, c, putCells id 0 (flatK encP 2 d) cur, rfl, hb, ?_, by simpa using hn, hc, by simp [putCells, hs], ?_⟩⟩
  · unfold sortWorldK grow putRowK putRow mapBlock
    show ((w.heap.modify g _) ++ os)[g]? = _
    rw [Array.getElem?_append_left (by simpa using hg), Array.getElem?_modify, if_pos rfl, hh]
    rfl
  · rw [← flatK_flatP, ← put_take (flatK encP 2 d) cur (by simp [hs]; omega)]
    congr 1
    simp
theorem holds_of {w : World} {g e : Nat} {cur : Array Value} {l : List Pr} (hh : w.heap[g]? = some (.cells cur e (0, 0))) (ht : cur.toList.take (l.length * 2) = flatP l) : HoldsK encP 2 w g 0 l.toArray := by
  intro j hj
  have hj' : j < l.length * 2 := by simpa using hj
  have h1 : (flatK encP 2 l.toArray).toList = flatP l := flatK_flatP l.toArray
  have h2 : cur.toList[j]? = (flatP l)[j]? := by rw [← ht, List.getElem?_take, if_pos hj']
  have h3 : (flatK encP 2 l.toArray)[j]? = (flatP l)[j]? := by rw [← h1, Array.getElem?_toList]
  rw [Array.getElem?_toList, ← h3, Array.getElem?_eq_getElem hj] at h2
  constructor
  · rw [getElem!_pos _ j hj]
    show World.cell? w ⟨g, 0 + j, none⟩ = some _
    rw [Nat.zero_add]
    simp only [World.cell?, hh]
    simpa using h2
  · exact blk_frozen hh _
end
end Go.Proofs.Ytmkkebllmmafmaa.Pk
