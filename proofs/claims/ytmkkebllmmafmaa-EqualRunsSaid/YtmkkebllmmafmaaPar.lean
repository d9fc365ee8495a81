/- Arrays of numbers in memory; steps as they come in. -/
import Derived.Test.YtmkkebllmmafmaaPq
import Derived.Test.YtmkkebllmmafmaaE
import Derived.Test.YtmkkebllmmafmaaPu
namespace Go.Proofs.Ytmkkebllmmafmaa.Pq
open Go.Sort Go.RowKit Go.Proofs.YtmkkebllmmafmaaW.PrintWords Go.Proofs.YtmkkebllmmafmaaW.PrintLast Go.Proofs.YtmkkebllmmafmaaW.PrintMore Go.Proofs.Ytmkkebllmmafmaa.B Go.Proofs.Ytmkkebllmmafmaa.O Go.Proofs.Ytmkkebllmmafmaa.Ps Go.Proofs.Ytmkkebllmmafmaa.R Go.Proofs.Ytmkkebllmmafmaa.Pk Go.Proofs.Ytmkkebllmmafmaa.Pa Go.Proofs.Ytmkkebllmmafmaa.Pm Go.Proofs.Ytmkkebllmmafmaa.Pw Go.Proofs.Ytmkkebllmmafmaa.Pd Go.Proofs.Ytmkkebllmmafmaa.Pg Go.Proofs.Ytmkkebllmmafmaa.Px Go.Proofs.Ytmkkebllmmafmaa.Pz Go.Proofs.Ytmkkebllmmafmaa.Pt Go.Proofs.Ytmkkebllmmafmaa.S
set_option linter.unusedVariables false
set_option linter.unusedSimpArgs false
/-- An array's cells. -/
def AR (n : Nat) (f : Nat → Int) : Array Value := ((List.range n).map fun i => Value.int .i64 (f i)).toArray
theorem AR_at {n i : Nat} (f : Nat → Int) (h : i < n) : (AR n f)[i]? = some (.int .i64 (f i)) := by simp [AR, h]
theorem AR_set (n i : Nat) (f : Nat → Int) (x : Int) : (AR n f).setIfInBounds i (.int .i64 x) = AR n (fun j => if j = i then x else f j) := by
  apply Array.ext_getElem?
  intro j
  rw [Array.getElem?_setIfInBounds]
  by_cases h : i = j
  · subst h
    by_cases hi : i < n
    · simp [AR, hi]
    · simp [AR, hi]
  · rw [if_neg h]
    by_cases hj : j < n
    · rw [AR_at f hj, AR_at _ hj, if_neg (fun e => h e.symm)]
    · simp [AR, hj]
def ArrAt (w : World) (g n t : Nat) (f : Nat → Int) : Prop := w.heap[g]? = some (.cells (AR n f) t (0, 0))
section
variable {w w' : World} {g n t : Nat} {f : Nat → Int}
theorem ArrAt.lt (h : ArrAt w g n t f) : g < w.heap.size := (Array.getElem?_eq_some_iff.1 h).1
theorem ArrAt.at (h : ArrAt w g n t f) {i : Nat} (hi : i < n) : w.cell? ⟨g, i, none⟩ = some (.int .i64 (f i)) := by
  unfold ArrAt at h
  simp [World.cell?, h, AR_at f hi]
theorem ArrAt.set (h : ArrAt w g n t f) (i : Nat) (x : Int) : ArrAt (w.setCell ⟨g, i, none⟩ (.int .i64 x)) g n t (fun j => if j = i then x else f j) := by
  unfold ArrAt
  rw [heap_setCell_same w g i (AR n f) t (.int .i64 x) h, AR_set]
theorem ArrAt.keep {S : Nat → Prop} (h : ArrAt w g n t f) (hk : Keep S w w') (hg : ¬ S g) : ArrAt w' g n t f := (hk.block g h.lt hg).trans h
theorem ArrAt.below (h : ArrAt w g n t f) (hb : Below w.heap.size w w') : ArrAt w' g n t f := (hb.block g h.lt).trans h
theorem ArrAt.far (h : ArrAt w g n t f) {p : Addr} (u : Value) (hp : g ≠ p.block) : ArrAt (w.setCell p u) g n t f := (Below.heap_setCell w p u g hp).trans h
theorem ArrAt.frozen (h : ArrAt w g n t f) (i : Nat) : w.frozen? ⟨g, i, none⟩ = false := blk_frozen h i
end
/-- Three numbers. -/
abbrev kT : Kd (Int × (Int × Int)) := Kd.pair (Kd.int .u8) (Kd.pair (Kd.int .u8) (Kd.int .u8))
def TOk (p : Int × (Int × Int)) : Prop := (Lit.int .u8 p.1).wf = true ∧ (Lit.int .u8 p.2.1).wf = true ∧ (Lit.int .u8 p.2.2).wf = true
theorem opens_three : Opens Try.prog 48 kT TOk := by
  intro H enc w base sp held fuel cs x hx
  have h8 := opens_int (P := Try.prog) (t := 5) Try.underlying5
  cases fuel with
  | zero => simp [DataW.trod] at hx
  | succ n =>
    unfold DataW.trod at hx
    rw [Try.underlying48] at hx
    simp only at hx
    split at hx
    · rename_i hl
      obtain ⟨xs, h1, _⟩ := Option.map_eq_some_iff.1 hx
      have e3 : Try.prog.cellsOf 48 = 3 := by kernel_rfl
      have e1 : Try.prog.cellsOf 5 = 1 := by kernel_rfl
      rw [e3] at hl
      rw [e1, show List.range 3 = [0, 1, 2] from rfl] at h1
      match cs, hl with
      | [c0, c1, c2], _ =>
        simp only [List.mapM_cons, List.mapM_nil, Option.bind_eq_bind, Option.bind_eq_some_iff, Option.pure_def] at h1
        obtain ⟨y0, hy0, ys, ⟨y1, hy1, zs, ⟨y2, hy2, -⟩, -⟩, -⟩ := h1
        obtain ⟨a, ha, hoa⟩ := h8 H enc w base sp held n _ y0 hy0
        obtain ⟨b, hb, hob⟩ := h8 H enc w base sp held n _ y1 hy1
        obtain ⟨c, hc, hoc⟩ := h8 H enc w base sp held n _ y2 hy2
        have ea : c0 = .int .u8 a := by have : [c0] = [Value.int .u8 a] := ha; simpa using this
        have eb : c1 = .int .u8 b := by have : [c1] = [Value.int .u8 b] := hb; simpa using this
        have ec : c2 = .int .u8 c := by have : [c2] = [Value.int .u8 c] := hc; simpa using this
        subst ea eb ec
        exact ⟨(a, b, c), ⟨[_], [_, _], rfl, rfl, ⟨[_], [_], rfl, rfl, rfl⟩⟩, hoa, hob, hoc⟩
    · cases hx
theorem opens_threes : Opens Try.prog 44 (Kd.slice 48 kT) (fun l => (∀ v ∈ l, TOk v) ∧ l.length ≤ 9223372036854775807) := opens_slice Try.underlying44 (by kernel_rfl) opens_three
theorem T_get {w : World} {A : Option Addr} {n : Nat} {l : List (Int × (Int × Int))} (h : kT.C w A n l) {j : Nat} {p : Int × (Int × Int)} (hj : l[j]? = some p) :
    ∃ ad : Addr, A = some ad ∧ w.cell? (ad.add (j * 3)) = some (.int .u8 p.1) ∧ w.cell? ⟨(ad.add (j * 3)).block, (ad.add (j * 3)).off + 1, none⟩ = some (.int .u8 p.2.1) ∧ w.cell? ⟨(ad.add (j * 3)).block, (ad.add (j * 3)).off + 2, none⟩ = some (.int .u8 p.2.2) := by
  have hl := (List.getElem?_eq_some_iff.1 hj).1
  obtain ⟨ad, e, hc⟩ := h.2.2 (by have := h.1; omega)
  obtain ⟨cs, h1, h2, h3⟩ := hc j _ hj
  obtain ⟨c0, c1, rfl, q0, d0, d1, rfl, q1, q2⟩ := h2
  have e0 : c0 = [.int .u8 p.1] := q0
  have e1 : d0 = [.int .u8 p.2.1] := q1
  have e2 : d1 = [.int .u8 p.2.2] := q2
  subst e0 e1 e2
  have g0 := h3 0 _ rfl
  have g1 := h3 1 _ rfl
  have g2 := h3 2 _ rfl
  have hs : kT.sz = 3 := rfl
  rw [hs] at g0 g1 g2
  rw [← Go.Proofs.YtmkkebllmmafmaaW.PrintWords.add_add] at g1 g2
  exact ⟨ad, e, g0, g1, g2⟩
/-- A row that lies in blocks from base on. -/
def New (base : Nat) (A : Option Addr) : Prop := ∀ a, A = some a → base ≤ a.block
theorem LF.blk {W W' : World} {A : Option Addr} {m : Nat} {f : F} (h : LF W A m f) (hb : ∀ a, A = some a → W'.heap[a.block]? = W.heap[a.block]?) : LF W' A m f := by
  refine ⟨h.len, h.C.1, h.C.2.1, fun h0 => ?_⟩
  obtain ⟨ad, e, hc⟩ := h.C.2.2 h0
  refine ⟨ad, e, fun j p hj => ?_⟩
  obtain ⟨c, h1, h2, h3⟩ := hc j p hj
  refine ⟨c, h1, kP_K.2 (kP_K.1 h2), fun i u hu => ?_⟩
  have h4 := h3 i u hu
  have hbl : (ad.add (j * kP.sz + i)).block = ad.block := by unfold Addr.add; split <;> rfl
  unfold World.cell? at h4 ⊢
  rw [hbl] at h4 ⊢
  rw [hb ad e]
  exact h4
theorem LF.of_R2 {W : World} {f : F} {e base : Nat} {ok : Nat → Prop} {v : Value} {l : List Pr} (h : kP.R e W base ok v l) (hl : l = lst f) : ∃ A m c, v = .slice A m c ∧ LF W A m f ∧ New base A := by
  obtain ⟨A, c, rfl, -, h2⟩ := Kd.R_reads h
  subst hl
  refine ⟨A, _, c, rfl, ⟨rfl, h2⟩, fun a e => own_base (Kd.R_own h).choose_spec a.block ?_⟩
  subst e
  rfl
theorem copied_LF2 {W : World} {A : Option Addr} {m : Nat} {f : F} (c : Nat) (dst fr : Nat) (hd : dst < 8) (hf : fr < 8) (h : LF W A m f) :
    Calls Try.prog 17 #[.slice A m c, .int .i64 dst, .int .i64 fr] W fun e w' => ∃ A' m' c', e = .returned (.slice A' m' c') ∧ LF w' A' m' (fCopied f dst fr 6) ∧ New W.heap.size A' ∧ Below W.heap.size W w' :=
  (copied_calls A m c (lst f) h.len dst fr W h.C (lst_rise f) (by have := h.le; omega)).mono fun e w' ⟨v, l', he, hr, h1, h2, hb⟩ => by
    obtain ⟨A', m', c', rfl, h3, h4⟩ := LF.of_R2 hr (copied_lst hd hf h1 h2)
    exact ⟨A', m', c', he, h3, h4, hb⟩
theorem moved_LF2 {W : World} {A : Option Addr} {m : Nat} {f : F} (c : Nat) (dst fr : Nat) (hd : dst < 6) (hf : fr < 6) (h : LF W A m f) :
    Calls Try.prog 20 #[.slice A m c, .int .i64 dst, .int .i64 fr] W fun e w' => ∃ A' m' c', e = .returned (.slice A' m' c') ∧ LF w' A' m' (fMoved f dst fr 8) ∧ New W.heap.size A' ∧ Below W.heap.size W w' :=
  (moved_calls A m c (lst f) h.len dst fr W h.C (lst_rise f) (by have := h.le; omega)).mono fun e w' ⟨v, l', he, hr, h1, h2, hb⟩ => by
    obtain ⟨A', m', c', rfl, h3, h4⟩ := LF.of_R2 hr (moved_lst hd hf h1 h2)
    exact ⟨A', m', c', he, h3, h4, hb⟩
theorem given_LF2 {W : World} {A : Option Addr} {m : Nat} {f : F} (c : Nat) (a b : Nat) (ha : a < 6) (hb : b < 8) (h : LF W A m f) :
    Calls Try.prog 22 #[.slice A m c, .int .i64 a, .int .i64 b] W fun e w' => ∃ A' m' c', e = .returned (.slice A' m' c') ∧ LF w' A' m' (fGiven f a b) ∧ New W.heap.size A' ∧ Below W.heap.size W w' :=
  (given_calls A m c (lst f) h.len a b W h.C (lst_rise f) (by have := h.le; omega)).mono fun e w' ⟨v, l', he, hr, h1, h2, hb2⟩ => by
    obtain ⟨A', m', c', rfl, h3, h4⟩ := LF.of_R2 hr (given_lst ha hb h1 h2)
    exact ⟨A', m', c', he, h3, h4, hb2⟩
/-- What the pairs tell holds. -/
def Holds2 (f : F) (fv fp : Nat → Int) : Prop := ∀ v l, v < 6 → l < 8 → f v l = true → fv v = fp l
theorem holds_copied {f : F} {fv fp : Nat → Int} (h : Holds2 f fv fp) (t s : Nat) (hs : s < 8) : Holds2 (fCopied f t s 6) fv (fun j => if j = t then fp s else fp j) := by
  intro v l hv hl hf
  unfold fCopied at hf
  by_cases h1 : l = t
  · subst h1
    rw [if_pos ⟨rfl, hv⟩] at hf
    simp only [if_pos rfl]
    exact h v s hv hs hf
  · rw [if_neg (fun e => h1 e.1)] at hf
    simp only [if_neg h1]
    exact h v l hv hl hf
theorem holds_moved {f : F} {fv fp : Nat → Int} (h : Holds2 f fv fp) (t s : Nat) (hs : s < 6) : Holds2 (fMoved f t s 8) (fun j => if j = t then fv s else fv j) fp := by
  intro v l hv hl hf
  unfold fMoved at hf
  by_cases h1 : v = t
  · subst h1
    rw [if_pos ⟨rfl, hl⟩] at hf
    simp only [if_pos rfl]
    exact h s l hs hl hf
  · rw [if_neg (fun e => h1 e.1)] at hf
    simp only [if_neg h1]
    exact h v l hv hl hf
theorem holds_given {f : F} {fv fp : Nat → Int} (h : Holds2 f fv fp) (a b : Nat) (x : Int) : Holds2 (fGiven f a b) (fun j => if j = a then x else fv j) (fun j => if j = b then x else fp j) := by
  intro v l hv hl hf
  unfold fGiven upd fCol fRow at hf
  by_cases h1 : v = a
  · by_cases h2 : l = b
    · simp [h1, h2]
    · simp [h1, h2, hv, hl] at hf
  · by_cases h2 : l = b
    · simp [h1, h2, hv, hl] at hf
    · simp [h1, h2, hv, hl] at hf
      simp only [if_neg h1, if_neg h2]
      exact h v l hv hl hf
theorem holds_first {p : Nat} (hp : p ≤ 2) {fv fp : Nat → Int} (h1 : ∀ i, i < p → fv i = fp (3 + i)) (h2 : ∀ i, p ≤ i → i < 6 → fv i = 0) (h3 : ∀ l, l < 8 → l < 3 ∨ 3 + p ≤ l → fp l = 0) : Holds2 (fFirst p 3) fv fp := by
  intro v l hv hl hf
  unfold fFirst at hf
  by_cases h : v < p
  · rw [if_pos h] at hf
    have e : l = 3 + v := of_decide_eq_true hf
    rw [e]
    exact h1 v h
  · rw [if_neg h] at hf
    rw [h2 v (by omega) hv, h3 l hl (of_decide_eq_true hf)]
end Go.Proofs.Ytmkkebllmmafmaa.Pq
