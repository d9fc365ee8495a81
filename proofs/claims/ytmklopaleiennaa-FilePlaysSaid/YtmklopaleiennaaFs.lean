/- Files, plainly: bytes laid over others. -/
import Derived.Test.YtmklopaleiennaaB
namespace Go.Proofs.Ytmklopaleiennaa.Fs
open Go.Proofs.Ytmklopaleiennaa.B
set_option linter.unusedVariables false
set_option linter.unusedSimpArgs false
/-- With noughts up to n. -/
def padded (b : List Int) (n : Nat) : List Int := b ++ List.replicate (n - b.length) 0
/-- Bytes over others, at a place. -/
def laid (b : List Int) (i : Nat) (c : List Int) : List Int := (padded b (i + c.length)).take i ++ c ++ (padded b (i + c.length)).drop (i + c.length)
theorem padded_len (b : List Int) (n : Nat) : (padded b n).length = max b.length n := by simp [padded]; omega
theorem laid_len (b : List Int) (i : Nat) (c : List Int) : (laid b i c).length = max b.length (i + c.length) := by simp [laid, padded_len]; omega
theorem laid_nil (b : List Int) (i : Nat) (h : i ≤ b.length) : laid b i [] = b := by
  have : padded b i = b := by simp [padded, show i - b.length = 0 by omega]
  simp only [laid, List.length_nil, Nat.add_zero, this, List.append_nil, List.take_append_drop]
theorem laid_by {b c : List Int} (i : Nat) (hb : By b) (hc : By c) : By (laid b i c) := by
  have hp : By (padded b (i + c.length)) := hb.append (fun x hx => by have := List.eq_of_mem_replicate hx; omega)
  exact ((hp.take _).append hc).append (hp.drop _)
theorem laid_end (b c : List Int) : laid b b.length c = b ++ c := by
  simp [laid, padded, List.take_append, List.drop_append]
theorem laid_zero (c : List Int) : laid [] 0 c = c := by simpa using laid_end [] c
theorem laid_in {b c : List Int} {i : Nat} (h : i + c.length ≤ b.length) : laid b i c = b.take i ++ c ++ b.drop (i + c.length) := by
  simp [laid, padded, Nat.sub_eq_zero_of_le h]
theorem laid_over {b c : List Int} {i : Nat} (h : i ≤ b.length) : laid b i c = b.take i ++ c ++ b.drop (i + c.length) := by
  rcases Nat.le_total (i + c.length) b.length with h1 | h1
  · exact laid_in h1
  · rw [laid, List.drop_of_length_le (l := b) (by omega), List.drop_of_length_le (by rw [padded_len]; omega), padded, List.take_append_of_le_length h]
/-- What stands behind i bytes, laid one by one. -/
def layPart (b : List Int) (i : Nat) (c : List Int) : Nat → List Int
  | 0 => b
  | k + 1 => laid b i (c.take (k + 1))
theorem layPart_len (b : List Int) (i : Nat) (c : List Int) : ∀ k, k ≤ c.length → (layPart b i c k).length = if k = 0 then b.length else max b.length (i + k)
  | 0, _ => rfl
  | k + 1, h => by rw [layPart, laid_len, List.length_take, Nat.min_eq_left h, if_neg (by omega)]
theorem layPart_step (b : List Int) (i : Nat) {c : List Int} {k : Nat} {x : Int} (hx : c[k]? = some x) : ((padded (layPart b i c k) (i + k + 1)).set (i + k) x) = layPart b i c (k + 1) := by
  obtain ⟨hk, hx⟩ := List.getElem?_eq_some_iff.1 hx
  have hl : ∀ j, (layPart b i c j).length = _ := fun j => rfl
  apply List.ext_getElem?
  intro j
  have key : ∀ (n : Nat), n ≤ c.length → 0 < n → ∀ j, (layPart b i c n)[j]? = if j < i then (padded b (i + n))[j]? else if j < i + n then c[j - i]? else b[j]? := by
    intro n hn h0 j
    obtain ⟨n, rfl⟩ : ∃ n', n = n' + 1 := ⟨n - 1, by omega⟩
    rw [layPart, laid, List.length_take, Nat.min_eq_left hn]
    have hp := padded_len b (i + (n + 1))
    by_cases h1 : j < i
    · rw [if_pos h1, List.append_assoc, List.getElem?_append_left (by rw [List.length_take]; omega), List.getElem?_take_of_lt h1]
    · rw [if_neg h1]
      by_cases h2 : j < i + (n + 1)
      · rw [if_pos h2, List.getElem?_append_left (by rw [List.length_append, List.length_take, List.length_take]; omega), List.getElem?_append_right (by rw [List.length_take]; omega), List.length_take, Nat.min_eq_left (by omega), List.getElem?_take_of_lt (by omega)]
      · rw [if_neg h2, List.getElem?_append_right (by rw [List.length_append, List.length_take, List.length_take]; omega), List.length_append, List.length_take, List.length_take, List.getElem?_drop, Nat.min_eq_left (by omega), Nat.min_eq_left hn]
        rw [show i + (n + 1) + (j - (i + (n + 1))) = j by omega, padded]
        rcases Nat.lt_or_ge j b.length with h3 | h3
        · rw [List.getElem?_append_left h3]
        · rw [List.getElem?_append_right h3, List.getElem?_eq_none (by simp; omega), List.getElem?_eq_none h3]
  have pad : ∀ (l : List Int) (n j : Nat), (padded l n)[j]? = if j < l.length then l[j]? else if j < n then some 0 else none := by
    intro l n j
    rw [padded]
    by_cases h : j < l.length
    · rw [if_pos h, List.getElem?_append_left h]
    · rw [if_neg h, List.getElem?_append_right (by omega)]
      by_cases h2 : j < n
      · rw [if_pos h2, List.getElem?_replicate, if_pos (by omega)]
      · rw [if_neg h2, List.getElem?_eq_none (by simp; omega)]
  have hpl := layPart_len b i c k (by omega)
  rw [key (k + 1) (by omega) (by omega) j]
  by_cases hj : i + k = j
  · subst hj
    rw [List.getElem?_set_self (by rw [padded_len]; omega), if_neg (by omega), if_pos (by omega), show i + k - i = k by omega, List.getElem?_eq_getElem hk, hx]
  · rw [List.getElem?_set_ne hj, pad]
    rcases Nat.eq_zero_or_pos k with rfl | hk0
    · rw [layPart, pad]
      rw [layPart, if_pos rfl] at hpl
      have h3 : ¬ (j < i + (0 + 1)) ∨ j < i := by omega
      by_cases h1 : j < i
      · simp only [h1, if_true]
      · have h4 : ¬ (j < i + (0 + 1)) := by omega
        by_cases h2 : j < b.length
        · simp only [h1, h2, h4, if_true, if_false]
        · simp only [h1, h2, h4, if_false]
          rw [List.getElem?_eq_none (by omega)]
    · rw [if_neg (by omega)] at hpl
      rw [key k (by omega) hk0 j, pad, pad, hpl]
      by_cases h1 : j < i
      · simp only [h1, if_true]
        rw [if_pos (by omega)]
        by_cases h2 : j < b.length
        · simp [h2]
        · simp only [h2, if_false]
          rw [if_pos (by omega), if_pos (by omega)]
      · simp only [h1, if_false]
        by_cases h2 : j < i + k
        · rw [if_pos (by omega), if_pos h2, if_pos (by omega)]
        · by_cases h3 : j < b.length
          · rw [if_pos (by omega), if_neg h2, if_neg (by omega)]
          · rw [if_neg (by omega), if_neg (by omega), if_neg (by omega), List.getElem?_eq_none (by omega)]
/-- A row of writes over bytes. -/
def over : List (Int × List Int) → List Int → List Int
  | [], b => b
  | q :: r, b => over r (laid b q.1.toNat q.2)
theorem over_snoc (q : Int × List Int) : ∀ (l : List (Int × List Int)) (b : List Int), over (l ++ [q]) b = laid (over l b) q.1.toNat q.2
  | [], _ => rfl
  | _ :: r, b => over_snoc q r _
/-- So many first ones of a write are kept. -/
def kept (keep : List Int) (i : Nat) (n : Nat) : Nat := match keep[i]? with
  | some k => (max 0 (min k n)).toNat
  | none => 0
/-- What a crash leaves. -/
def fallen (keep : List Int) : Nat → List (Int × List Int) → List Int → List Int
  | _, [], b => b
  | i, q :: r, b => fallen keep (i + 1) r (if 0 < kept keep i q.2.length then laid b q.1.toNat (q.2.take (kept keep i q.2.length)) else b)
/-- What may stand in a file: sure bytes, writes that aren't; each begins where bytes are, and none goes past the room. -/
def OkQ (room : Int) : List (Int × List Int) → List Int → Prop
  | [], _ => True
  | q :: r, b => 0 ≤ q.1 ∧ q.1 ≤ b.length ∧ q.1 + q.2.length ≤ room ∧ By q.2 ∧ OkQ room r (laid b q.1.toNat q.2)
structure FOk (room : Int) (s : List Int) (q : List (Int × List Int)) : Prop where
  r0 : 0 ≤ room
  r1 : room ≤ 4194304
  s0 : (s.length : Int) ≤ room
  sb : By s
  ok : OkQ room q s
theorem laid_room {room : Int} {b c : List Int} {i : Int} (h : (b.length : Int) ≤ room) (h0 : 0 ≤ i) (h1 : i + c.length ≤ room) : ((laid b i.toNat c).length : Int) ≤ room := by rw [laid_len]; omega
theorem OkQ.all {room : Int} : ∀ {q : List (Int × List Int)} {b : List Int}, OkQ room q b → (b.length : Int) ≤ room → By b → ((over q b).length : Int) ≤ room ∧ By (over q b)
  | [], _, _, h, hb => ⟨h, hb⟩
  | p :: r, b, hq, h, hb => OkQ.all (q := r) (b := laid b p.1.toNat p.2) hq.2.2.2.2 (laid_room h hq.1 hq.2.2.1) (laid_by _ hb hq.2.2.2.1)
theorem OkQ.snoc {room : Int} {p : Int × List Int} : ∀ {q : List (Int × List Int)} {b : List Int}, OkQ room q b → 0 ≤ p.1 → p.1 ≤ (Fs.over q b).length → p.1 + p.2.length ≤ room → By p.2 → OkQ room (q ++ [p]) b
  | [], _, _, h0, h1, h2, h3 => ⟨h0, h1, h2, h3, trivial⟩
  | _ :: _, _, hq, h0, h1, h2, h3 => ⟨hq.1, hq.2.1, hq.2.2.1, hq.2.2.2.1, OkQ.snoc hq.2.2.2.2 h0 h1 h2 h3⟩
/-- At the k-th write. -/
theorem OkQ.get {room : Int} : ∀ {q : List (Int × List Int)} {b : List Int} {k : Nat} {p : Int × List Int}, OkQ room q b → q[k]? = some p → 0 ≤ p.1 ∧ p.1 ≤ (Fs.over (q.take k) b).length ∧ p.1 + p.2.length ≤ room ∧ By p.2
  | _ :: _, _, 0, _, hq, hp => by
    have := Option.some.inj hp
    subst this
    exact ⟨hq.1, hq.2.1, hq.2.2.1, hq.2.2.2.1⟩
  | _ :: r, _, k + 1, _, hq, hp => OkQ.get (q := r) (k := k) hq.2.2.2.2 (by simpa using hp)
theorem over_take {q : List (Int × List Int)} {b : List Int} {k : Nat} {p : Int × List Int} (hp : q[k]? = some p) : over (q.take (k + 1)) b = laid (over (q.take k) b) p.1.toNat p.2 := by
  obtain ⟨hl, hp⟩ := List.getElem?_eq_some_iff.1 hp
  rw [List.take_succ_eq_append_getElem hl, hp, over_snoc]
theorem OkQ.take {room : Int} : ∀ {q : List (Int × List Int)} {b : List Int} (k : Nat), OkQ room q b → OkQ room (q.take k) b
  | _, _, 0, _ => trivial
  | [], _, _ + 1, _ => trivial
  | _ :: _, _, k + 1, h => ⟨h.1, h.2.1, h.2.2.1, h.2.2.2.1, OkQ.take k h.2.2.2.2⟩
theorem FOk.all {room : Int} {s : List Int} {q : List (Int × List Int)} (h : FOk room s q) : ((over q s).length : Int) ≤ room ∧ By (Fs.over q s) := h.ok.all h.s0 h.sb
theorem FOk.part {room : Int} {s : List Int} {q : List (Int × List Int)} (h : FOk room s q) (k : Nat) : ((Fs.over (q.take k) s).length : Int) ≤ room ∧ By (Fs.over (q.take k) s) := (h.ok.take k).all h.s0 h.sb
/-- An error's number of a write, of a cut. -/
def wErr (room : Int) (n : Nat) (i : Int) (m : Nat) : Int := if i < 0 ∨ n < i then 2 else if room < i + m then 50 else 0
def cErr (n : Nat) (m : Int) : Int := if m < 0 ∨ n < m then 2 else 0
/-- What a cut, a write leaves. -/
def cutS (s : List Int) (q : List (Int × List Int)) (n : Int) : List Int := if cErr (over q s).length n = 0 then (over q s).take n.toNat else s
def cutQ (s : List Int) (q : List (Int × List Int)) (n : Int) : List (Int × List Int) := if cErr (over q s).length n = 0 then [] else q
def wrQ (room : Int) (s : List Int) (q : List (Int × List Int)) (i : Int) (c : List Int) : List (Int × List Int) := if wErr room (over q s).length i c.length = 0 then q ++ [(i, c)] else q
theorem FOk.write {room : Int} {s : List Int} {q : List (Int × List Int)} (h : FOk room s q) {i : Int} {c : List Int} (hc : By c) (he : wErr room (over q s).length i c.length = 0) : FOk room s (q ++ [(i, c)]) := by
  unfold wErr at he
  split at he
  · cases he
  · split at he
    · cases he
    · exact ⟨h.r0, h.r1, h.s0, h.sb, h.ok.snoc (by omega) (by omega) (by show i + (c.length : Int) ≤ room; omega) hc⟩
theorem FOk.sync {room : Int} {s : List Int} {q : List (Int × List Int)} (h : FOk room s q) : FOk room (Fs.over q s) [] := ⟨h.r0, h.r1, h.all.1, h.all.2, trivial⟩
theorem FOk.cut {room : Int} {s : List Int} {q : List (Int × List Int)} (h : FOk room s q) (n : Nat) : FOk room ((Fs.over q s).take n) [] :=
  ⟨h.r0, h.r1, by have := h.all.1; rw [List.length_take]; omega, h.all.2.take n, trivial⟩
theorem FOk.cutAny {room : Int} {s : List Int} {q : List (Int × List Int)} (h : FOk room s q) (n : Int) : FOk room (cutS s q n) (cutQ s q n) := by
  unfold cutS cutQ
  split
  · exact h.cut _
  · exact h
theorem FOk.writeAny {room : Int} {s : List Int} {q : List (Int × List Int)} (h : FOk room s q) (i : Int) {c : List Int} (hc : By c) : FOk room s (wrQ room s q i c) := by
  unfold wrQ
  split
  · rename_i he
    exact h.write hc he
  · exact h
theorem fallen_snoc (keep : List Int) (p : Int × List Int) : ∀ (q : List (Int × List Int)) (i : Nat) (b : List Int),
    fallen keep i (q ++ [p]) b = if 0 < kept keep (i + q.length) p.2.length then laid (fallen keep i q b) p.1.toNat (p.2.take (kept keep (i + q.length) p.2.length)) else fallen keep i q b
  | [], _, _ => rfl
  | _ :: r, i, b => by
    have h := fallen_snoc keep p r (i + 1)
    simp only [List.cons_append, fallen, List.length_cons]
    rw [h, show i + 1 + r.length = i + (r.length + 1) by omega]
theorem fallen_take {keep : List Int} {q : List (Int × List Int)} {b : List Int} {k : Nat} {p : Int × List Int} (hp : q[k]? = some p) :
    fallen keep 0 (q.take (k + 1)) b = if 0 < kept keep k p.2.length then laid (fallen keep 0 (q.take k) b) p.1.toNat (p.2.take (kept keep k p.2.length)) else fallen keep 0 (q.take k) b := by
  obtain ⟨hl, hp⟩ := List.getElem?_eq_some_iff.1 hp
  rw [List.take_succ_eq_append_getElem hl, hp, fallen_snoc, List.length_take, Nat.min_eq_left (by omega), Nat.zero_add]
theorem kept_le (keep : List Int) (i n : Nat) : kept keep i n ≤ n := by unfold kept; split <;> omega
theorem fallen_ok {keep : List Int} {room : Int} : ∀ {q : List (Int × List Int)} {b a : List Int} (i : Nat), OkQ room q a → (b.length : Int) ≤ room → By b → ((fallen keep i q b).length : Int) ≤ room ∧ By (fallen keep i q b)
  | [], _, _, _, _, h, hb => ⟨h, hb⟩
  | p :: r, b, _, i, hq, h, hb => by
    simp only [fallen]
    have hk := kept_le keep i p.2.length
    have hq1 := hq.2.2.1
    have hq0 := hq.1
    split
    · exact fallen_ok (i + 1) hq.2.2.2.2 (laid_room h hq.1 (by rw [List.length_take]; omega)) (laid_by _ hb (hq.2.2.2.1.take _))
    · exact fallen_ok (i + 1) hq.2.2.2.2 h hb
theorem FOk.crash {room : Int} {s : List Int} {q : List (Int × List Int)} (h : FOk room s q) (keep : List Int) : FOk room (fallen keep 0 q s) [] :=
  ⟨h.r0, h.r1, (fallen_ok 0 h.ok h.s0 h.sb).1, (fallen_ok 0 h.ok h.s0 h.sb).2, trivial⟩
theorem FOk.crashPart {room : Int} {s : List Int} {q : List (Int × List Int)} (h : FOk room s q) (keep : List Int) (k : Nat) : ((fallen keep 0 (q.take k) s).length : Int) ≤ room ∧ By (fallen keep 0 (q.take k) s) := fallen_ok 0 (h.ok.take k) h.s0 h.sb
theorem cutQ_len (s : List Int) (q : List (Int × List Int)) (n : Int) : (cutQ s q n).length ≤ q.length := by
  unfold cutQ
  split
  · simp
  · omega
theorem wrQ_len (room : Int) (s : List Int) (q : List (Int × List Int)) (i : Int) (c : List Int) : (wrQ room s q i c).length ≤ q.length + 1 := by
  unfold wrQ
  split
  · simp
  · omega
end Go.Proofs.Ytmklopaleiennaa.Fs
