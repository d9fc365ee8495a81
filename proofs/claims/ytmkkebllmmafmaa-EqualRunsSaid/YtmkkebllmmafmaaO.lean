/- Arguments opened: what can be read as data reads by its kind. -/
import Derived.Test.YtmkkebllmmafmaaB
import Derived.Deep.Slices
import Derived.ChangeArms
namespace Go.Proofs.Ytmkkebllmmafmaa.O
open Go Go.Deep Go.RowKit Go.Proofs.YtmkkebllmmafmaaW.PrintWords Go.Proofs.Ytmkkebllmmafmaa.B
set_option linter.unusedVariables false
set_option linter.unusedSimpArgs false

/-- Cells of type t that can be read as data are of kind d, and what they say is ok. -/
def Opens {α : Type} (P : Program) (t : TypeId) (d : Kd α) (ok : α → Prop) : Prop :=
  ∀ (H : Type) (enc : TypeId × Value → H) (w : World) (base : Nat) (sp : Nat → Bool) (held : Bool) (fuel : Nat) (cs : List Value) (x : DataW H × List MemPlace), DataW.trod enc P w base sp held fuel t cs = some x → ∃ v, d.K w v cs ∧ ok v

section
variable {P : Program} {t e : TypeId}
theorem opens_mono {α : Type} {d : Kd α} {ok ok' : α → Prop} (h : Opens P t d ok) (hok : ∀ v, ok v → ok' v) : Opens P t d ok' := fun H enc w base sp held fuel cs x hx =>
  let ⟨v, h1, h2⟩ := h H enc w base sp held fuel cs x hx
  ⟨v, h1, hok v h2⟩
theorem opens_int {k : IntKind} (ht : P.underlying t = some (.int k)) : Opens P t (Kd.int k) (fun n => (Lit.int k n).wf = true) := by
  intro H enc w base sp held fuel cs x h
  cases fuel with
  | zero => simp [DataW.trod] at h
  | succ n =>
    unfold DataW.trod at h
    rw [ht] at h
    split at h <;> simp_all
    rename_i n' _
    obtain ⟨⟨rfl, hw⟩, _⟩ := h
    exact ⟨n', rfl, hw⟩
theorem opens_bool (ht : P.underlying t = some .bool) : Opens P t Kd.bool (fun _ => True) := by
  intro H enc w base sp held fuel cs x h
  cases fuel with
  | zero => simp [DataW.trod] at h
  | succ n =>
    unfold DataW.trod at h
    rw [ht] at h
    split at h
    · rename_i b _
      exact ⟨b, rfl, trivial⟩
    all_goals simp_all
theorem opens_slice {α : Type} {d : Kd α} {ok : α → Prop} (ht : P.underlying t = some (.slice e)) (hs : P.cellsOf e = d.sz) (hd : Opens P e d ok) : Opens P t (Kd.slice e d) (fun l => (∀ v ∈ l, ok v) ∧ l.length ≤ 9223372036854775807) := by
  intro H enc w base sp held fuel cs x h
  rcases open_slice ht h with ⟨rfl, _⟩ | ⟨a, len, cap, m, n, D, Pl, rfl, hb, hl, hm, hmm, hxx, hx⟩
  · exact ⟨[], ⟨none, 0, rfl, Nat.le_refl _, ⟨rfl, by simp, fun h => absurd h (by simp)⟩⟩, fun v hv => by simp at hv, by simp⟩
  · have hlm : len ≤ m := by rw [hmm]; split <;> omega
    have key : ∀ i, i < len → ∃ v, ok v ∧ ∃ c, c.length = d.sz ∧ d.K w v c ∧ ∀ j u, c[j]? = some u → w.cell? (a.add (i * d.sz + j)) = some u := by
      intro i hi
      obtain ⟨cs', h1, h2⟩ := hx i (by omega)
      obtain ⟨v, hv, hok⟩ := hd H enc w base sp held n cs' _ h2
      obtain ⟨_, hlen, hc⟩ := World.cells?_some h1
      refine ⟨v, hok, cs', by rw [hlen, hs], hv, fun j u hu => ?_⟩
      have hj := (List.getElem?_eq_some_iff.1 hu).1
      have := hc j (by rw [← hlen]; exact hj)
      rw [Addr.add_add, hs] at this
      rw [this, hu]
    have : ∃ l : List α, l.length = len ∧ (∀ v ∈ l, ok v) ∧ ∀ i v, l[i]? = some v → ∃ c, c.length = d.sz ∧ d.K w v c ∧ ∀ j u, c[j]? = some u → w.cell? (a.add (i * d.sz + j)) = some u := by
      clear h hx hl hmm hlm hxx
      induction len with
      | zero => exact ⟨[], rfl, fun v hv => by simp at hv, fun i v h => by simp at h⟩
      | succ k ih =>
        obtain ⟨l, h1, h2, h3⟩ := ih (fun i hi => key i (by omega))
        obtain ⟨v, hv, hc⟩ := key k (by omega)
        refine ⟨l ++ [v], by simp [h1], fun u hu => ?_, fun i u hu => ?_⟩
        · rcases List.mem_append.1 hu with hu | hu
          · exact h2 u hu
          · rw [List.mem_singleton] at hu; subst hu; exact hv
        · rcases Nat.lt_or_ge i l.length with hi | hi
          · rw [List.getElem?_append_left hi] at hu; exact h3 i u hu
          · have : i = l.length := by
              have := (List.getElem?_eq_some_iff.1 hu).1
              simp at this
              omega
            subst this
            rw [List.getElem?_append_right (by omega)] at hu
            simp at hu
            subst hu
            rw [h1]
            exact hc
    obtain ⟨l, h1, h2, h3⟩ := this
    subst h1
    refine ⟨l, ⟨some a, cap, rfl, hl, ⟨rfl, ?_, fun _ => ⟨a, rfl, fun j p hj => ?_⟩⟩⟩, h2, ?_⟩
    · simp only [maxLen] at hm; omega
    · exact h3 j p hj
    · simp only [maxLen] at hm; omega

/-- Fields in line, from an offset on. -/
def OpensFs {α : Type} (P : Program) (fs : List Field) (off : Nat) (d : Kd α) (ok : α → Prop) : Prop :=
  ∀ (H : Type) (enc : TypeId × Value → H) (w : World) (base : Nat) (sp : Nat → Bool) (held : Bool) (fuel : Nat) (cs : List Value) (xs : List (DataW H × List MemPlace)), cs.length = off + d.sz →
    (fs.mapM fun f => DataW.trod enc P w base sp held fuel f.type ((cs.drop f.offset).take (P.cellsOf f.type))) = some xs → ∃ v, d.K w v (cs.drop off) ∧ ok v
theorem opens_last {α : Type} {d : Kd α} {ok : α → Prop} {f : Field} {off : Nat} (ho : f.offset = off) (hs : P.cellsOf f.type = d.sz) (h : Opens P f.type d ok) : OpensFs P [f] off d ok := by
  intro H enc w base sp held fuel cs xs hl hx
  simp only [List.mapM_cons, List.mapM_nil, Option.bind_eq_bind, Option.bind_eq_some_iff, Option.pure_def] at hx
  obtain ⟨y, hy, _⟩ := hx
  rw [ho, hs, List.take_of_length_le (by rw [List.length_drop]; omega)] at hy
  exact h H enc w base sp held fuel _ y hy
theorem opens_cons {α β : Type} {a : Kd α} {b : Kd β} {oka : α → Prop} {okb : β → Prop} {f : Field} {fs : List Field} {off : Nat} (ho : f.offset = off) (hs : P.cellsOf f.type = a.sz) (h : Opens P f.type a oka) (hr : OpensFs P fs (off + a.sz) b okb) :
    OpensFs P (f :: fs) off (Kd.pair a b) (fun p => oka p.1 ∧ okb p.2) := by
  intro H enc w base sp held fuel cs xs hl hx
  simp only [List.mapM_cons, Option.bind_eq_bind, Option.bind_eq_some_iff, Option.pure_def] at hx
  obtain ⟨y, hy, ys, hys, _⟩ := hx
  rw [ho, hs] at hy
  obtain ⟨u, hu, hou⟩ := h H enc w base sp held fuel _ y hy
  obtain ⟨v, hv, hov⟩ := hr H enc w base sp held fuel cs ys (by rw [hl]; show off + (a.sz + b.sz) = _; omega) hys
  refine ⟨(u, v), ⟨(cs.drop off).take a.sz, cs.drop (off + a.sz), ?_, hu, hv⟩, hou, hov⟩
  rw [← List.drop_drop, List.take_append_drop]
theorem opens_struct {α : Type} {d : Kd α} {ok : α → Prop} {fs : Array Field} (ht : P.underlying t = some (.struct fs)) (hs : P.cellsOf t = d.sz) (h : OpensFs P fs.toList 0 d ok) : Opens P t d ok := by
  intro H enc w base sp held fuel cs x hx
  cases fuel with
  | zero => simp [DataW.trod] at hx
  | succ n =>
    unfold DataW.trod at hx
    rw [ht] at hx
    simp only at hx
    split at hx
    · rename_i hl
      obtain ⟨xs, h1, _⟩ := Option.map_eq_some_iff.1 hx
      obtain ⟨v, hv, hov⟩ := h H enc w base sp held n cs xs (by rw [hl, hs]; omega) h1
      exact ⟨v, by simpa using hv, hov⟩
    · cases hx
theorem opens_iso {α β : Type} {d : Kd α} {ok : α → Prop} {f : β → α} {g : α → β} (hfg : ∀ x, f (g x) = x) (h : Opens P t d ok) : Opens P t (Kd.iso d f) (fun b => ok (f b)) := by
  intro H enc w base sp held fuel cs x hx
  obtain ⟨v, hv, hov⟩ := h H enc w base sp held fuel cs x hx
  exact ⟨g v, by show d.K w (f (g v)) cs; rw [hfg]; exact hv, by show ok (f (g v)); rw [hfg]; exact hov⟩
end
/-- A slice's block is one of the world's. -/
theorem okWide_alt {P : Program} {w : World} {r : Reach} {base : Nat} {t e : TypeId} {A : Option Addr} {n c : Nat} (ht : P.underlying t = some (.slice e)) (h : Value.okWide P w r base t (.slice A n c)) : ∀ a, A = some a → a.block < w.heap.size := by
  intro a ha
  subst ha
  simp only [Value.okWide, ht, Cell.okWide, Cell.ok, World.has] at h
  obtain ⟨_, _, _, _, row, cells, hs, _⟩ := h
  unfold World.shape? at hs
  split at hs
  · rename_i h1
    exact (Array.getElem?_eq_some_iff.1 h1).1
  · cases hs
/-- A slice argument, opened. -/
theorem opens_arg {P : Program} {α : Type} {t e : TypeId} {d : Kd α} {ok : List α → Prop} (ho : Opens P t (Kd.slice e d) ok) {H : Type} {enc : TypeId × Value → H} {w : World} {base : Nat} {sp : Nat → Bool} {held : Bool} {A : Option Addr} {n c : Nat} {D : DataW H} {ps : List MemPlace}
    (h : DataW.Trod enc P w base sp held t (.slice A n c) D ps) : ∃ l, n = l.length ∧ l.length ≤ c ∧ d.C w A l.length l ∧ ok l := by
  obtain ⟨fuel, hf⟩ := h
  obtain ⟨l, ⟨A', c', he, hl, hC⟩, hok⟩ := ho H enc w base sp held fuel _ _ hf
  have he' : [Value.slice A n c] = [Value.slice A' l.length c'] := by simpa [Value.cells] using he
  injection he' with he'
  injection he' with h1 h2 h3
  subst h1 h2 h3
  exact ⟨l, rfl, hl, hC, hok⟩
end Go.Proofs.Ytmkkebllmmafmaa.O
