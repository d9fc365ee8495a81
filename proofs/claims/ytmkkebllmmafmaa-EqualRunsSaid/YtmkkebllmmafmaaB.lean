/- Words that the other texts use: what a call leaves of memory; bytes that are read; readers of numbers. -/
import Derived.Test.YtmkkebllmmafmaaWMore
import Derived.Test.YtmkkebllmmafmaaWNEv
import Derived.Test.YtmkkebllmmafmaaWWords
import Derived.Test.YtmkkebllmmafmaaWLast
import Derived.WalkKit
import Derived.KernelRfl
import Derived.RowKit3
import Derived.Deep.LoopGhost
import Derived.Deep.QuietTactic
import Derived.BigQuiet
import Derived.WideLaws
import Derived.Deep.DeepCutAuto
import Derived.Deep.CutBlock
import Derived.Deep.RegionHeld3
import Derived.Lib.ConvBytes
namespace Go.Proofs.Ytmkkebllmmafmaa.B
open Go.RowKit Go.Proofs.YtmkkebllmmafmaaW.PrintWords Go.Proofs.YtmkkebllmmafmaaW.PrintLast Go.Proofs.YtmkkebllmmafmaaW.PrintMore
set_option linter.unusedVariables false
set_option linter.unusedSimpArgs false

/-- Of the blocks that there were all but those of S are as they were. -/
structure Keep (S : Nat → Prop) (w w' : World) : Prop where
  os : w'.os = w.os
  tape : w'.tape = w.tape
  output : w'.output = w.output
  size : w.heap.size ≤ w'.heap.size
  block : ∀ k, k < w.heap.size → ¬ S k → w'.heap[k]? = w.heap[k]?

theorem Keep.refl (S : Nat → Prop) (w : World) : Keep S w w := ⟨rfl, rfl, rfl, Nat.le_refl _, fun _ _ _ => rfl⟩
theorem Keep.of_below {S : Nat → Prop} {w w' : World} (h : Below w.heap.size w w') : Keep S w w' := ⟨h.os, h.tape, h.output, h.size, fun k hk _ => h.block k hk⟩
theorem Keep.trans {S : Nat → Prop} {a b c : World} (h : Keep S a b) (k : Keep S b c) : Keep S a c :=
  ⟨k.os.trans h.os, k.tape.trans h.tape, k.output.trans h.output, Nat.le_trans h.size k.size, fun i hi hs => (k.block i (Nat.lt_of_lt_of_le hi h.size) hs).trans (h.block i hi hs)⟩
/-- The second step may turn new blocks too. -/
theorem Keep.then {S S' : Nat → Prop} {a b c : World} (h : Keep S a b) (k : Keep S' b c) (hS : ∀ i, i < a.heap.size → S' i → S i) : Keep S a c :=
  ⟨k.os.trans h.os, k.tape.trans h.tape, k.output.trans h.output, Nat.le_trans h.size k.size, fun i hi hs => (k.block i (Nat.lt_of_lt_of_le hi h.size) (fun h' => hs (hS i hi h'))).trans (h.block i hi hs)⟩
theorem Keep.mono {S S' : Nat → Prop} {a b : World} (h : Keep S a b) (hS : ∀ i, i < a.heap.size → S i → S' i) : Keep S' a b :=
  ⟨h.os, h.tape, h.output, h.size, fun i hi hs => h.block i hi (fun h' => hs (hS i hi h'))⟩
theorem Keep.below {S : Nat → Prop} {N : Nat} {w w' : World} (h : Keep S w w') (hN : N ≤ w.heap.size) (hS : ∀ i, i < N → ¬ S i) : Below N w w' :=
  ⟨h.os, h.tape, h.output, h.size, fun k hk => h.block k (by omega) (hS k hk)⟩
theorem Keep.below_then {S : Nat → Prop} {N : Nat} {w0 w w' : World} (h0 : Below N w0 w) (h : Keep S w w') (hN : N ≤ w.heap.size) (hS : ∀ i, i < N → ¬ S i) : Below N w0 w' :=
  h0.trans (h.below hN hS)
theorem Keep.drew {S : Nat → Prop} {a w : World} (h : Keep S a w) : Keep S a w.drew := ⟨h.os, h.tape, h.output, h.size, h.block⟩
theorem Keep.drewN {S : Nat → Prop} {a w : World} (h : Keep S a w) (n : Nat) : Keep S a (w.drewN n) := ⟨h.os, h.tape, h.output, h.size, h.block⟩
theorem Keep.alloc {S : Nat → Prop} {a w : World} (h : Keep S a w) (o : Obj) : Keep S a (w.alloc o) :=
  h.trans (Keep.of_below ((Below.refl _ _).alloc (Nat.le_refl _) o))
theorem Keep.setCell {S : Nat → Prop} {a w : World} (h : Keep S a w) (p : Addr) (u : Value) (hp : p.block < a.heap.size → S p.block) : Keep S a (w.setCell p u) :=
  h.then (S' := fun k => k = p.block) ⟨rfl, rfl, rfl, by simp [World.setCell], fun k hk hs => Below.heap_setCell _ _ _ _ (fun e => hs e)⟩ (fun i hi e => by subst e; exact hp hi)
theorem Keep.grown {S : Nat → Prop} {a w w' : World} {row : Option Nat} (h : Keep S a w) (hg : w.grownBy w' row) (hr : ∀ k, row = some k → k < a.heap.size → S k) : Keep S a w' :=
  h.then (S' := fun k => row = some k) ⟨hg.os, hg.tape, hg.output, hg.size, fun k hk hs => hg.block k hk (fun e => hs e.symm)⟩ (fun i hi e => hr i e hi)

theorem ret_eq {k : IntKind} {a b : Int} (h : a = b) : Ending.returned (.int k a) = .returned (.int k b) := by rw [h]
theorem wf_u64 {a : Int} (h : (Lit.int .u64 a).wf = true) : 0 ≤ a ∧ a < 18446744073709551616 := by
  have : IntKind.u64.min ≤ a ∧ a ≤ IntKind.u64.max := by simpa [Lit.wf] using h
  have e1 : IntKind.u64.min = 0 := by decide
  have e2 : IntKind.u64.max = 18446744073709551615 := by decide
  omega
theorem wf_i64 {a : Int} (h : (Lit.int .i64 a).wf = true) : -9223372036854775808 ≤ a ∧ a ≤ 9223372036854775807 := by
  have : IntKind.i64.min ≤ a ∧ a ≤ IntKind.i64.max := by simpa [Lit.wf] using h
  have e1 : IntKind.i64.min = -9223372036854775808 := by decide
  have e2 : IntKind.i64.max = 9223372036854775807 := by decide
  omega
theorem wf_u8 {a : Int} (h : (Lit.int .u8 a).wf = true) : 0 ≤ a ∧ a < 256 := by
  have : IntKind.u8.min ≤ a ∧ a ≤ IntKind.u8.max := by simpa [Lit.wf] using h
  have e1 : IntKind.u8.min = 0 := by decide
  have e2 : IntKind.u8.max = 255 := by decide
  omega
theorem ret_bool {a b : Bool} (h : a = b) : Ending.returned (.bool a) = .returned (.bool b) := by rw [h]
abbrev kU8 : Kd Int := Kd.int .u8

theorem add_block (a : Addr) (n : Nat) : (a.add n).block = a.block := by unfold Addr.add; split <;> rfl
/-- Whole numbers that are read: their block alone counts. -/
theorem C_blk {k : IntKind} {w w' : World} {A : Option Addr} {n : Nat} {xs : List Int} (h : (Kd.int k).C w A n xs) (hb : ∀ a, A = some a → w'.heap[a.block]? = w.heap[a.block]?) : (Kd.int k).C w' A n xs := by
  refine ⟨h.1, h.2.1, fun hn => ?_⟩
  obtain ⟨ad, e, hc⟩ := h.2.2 hn
  refine ⟨ad, e, fun j p hj => ?_⟩
  obtain ⟨c, h1, h2, h3⟩ := hc j p hj
  refine ⟨c, h1, h2, fun i u hu => ?_⟩
  have hb' : (ad.add (j * (Kd.int k).sz + i)).block = ad.block := add_block _ _
  exact (World.cell?_of_block (by rw [hb']; exact hb ad e)).trans (h3 i u hu)
theorem C_cell {k : IntKind} {w : World} {ad : Addr} {n : Nat} {xs : List Int} (h : (Kd.int k).C w (some ad) n xs) {j : Nat} {x : Int} (hx : xs[j]? = some x) : w.cell? (ad.add j) = some (.int k x) := by
  have hj := (List.getElem?_eq_some_iff.1 hx).1
  obtain ⟨ad', e, hc⟩ := h.2.2 (by have := h.1; omega)
  injection e with e
  subst e
  obtain ⟨c, h1, h2, h3⟩ := hc j x hx
  have h2' : c = [.int k x] := h2
  have := h3 0 (.int k x) (by rw [h2']; rfl)
  rwa [Nat.add_zero, show (Kd.int k).sz = 1 from rfl, Nat.mul_one] at this
theorem C_some {k : IntKind} {w : World} {A : Option Addr} {n : Nat} {xs : List Int} (h : (Kd.int k).C w A n xs) (hn : 0 < n) : ∃ ad, A = some ad := by
  obtain ⟨ad, e, _⟩ := h.2.2 hn
  exact ⟨ad, e⟩

/-- A reader of type T at block g: what is left of its bytes (in block b), and its fault. -/
def Rdr (T : Nat) (w : World) (g b : Nat) (l : List Int) (code : Int) : Prop :=
  ∃ A c, w.heap[g]? = some (.cells #[.slice A l.length c, .int .i64 code] T (0, 0)) ∧ l.length ≤ c ∧ (∀ a, A = some a → a.block = b) ∧ kU8.C w A l.length l ∧ b ≠ g
theorem Rdr.lt {T : Nat} {w : World} {g b : Nat} {l : List Int} {code : Int} (h : Rdr T w g b l code) : g < w.heap.size := by
  obtain ⟨A, c, h, _⟩ := h
  exact blk_lt h
theorem Rdr.ne {T : Nat} {w : World} {g b : Nat} {l : List Int} {code : Int} (h : Rdr T w g b l code) : b ≠ g := by
  obtain ⟨A, c, _, _, _, _, h⟩ := h
  exact h
theorem Rdr.move {T : Nat} {w w' : World} {g b : Nat} {l : List Int} {code : Int} (h : Rdr T w g b l code) (hg : w'.heap[g]? = w.heap[g]?) (hb : w'.heap[b]? = w.heap[b]?) : Rdr T w' g b l code := by
  obtain ⟨A, c, h1, h2, h3, h4, h5⟩ := h
  exact ⟨A, c, hg.trans h1, h2, h3, C_blk h4 (fun a e => by rw [h3 a e]; exact hb), h5⟩
/-- Its bytes' block is one of the world's, or there is none. -/
theorem Rdr.keep {T : Nat} {w w' : World} {g b : Nat} {l : List Int} {code : Int} {S : Nat → Prop} (h : Rdr T w g b l code) (hk : Keep S w w') (hg : ¬ S g) (hb : ¬ S b) (hlt : b < w.heap.size) : Rdr T w' g b l code :=
  h.move (hk.block g h.lt hg) (hk.block b hlt hb)
theorem Rdr.below {T : Nat} {w w' : World} {g b : Nat} {l : List Int} {code : Int} (h : Rdr T w g b l code) (hk : Below w.heap.size w w') (hlt : b < w.heap.size) : Rdr T w' g b l code :=
  h.keep (S := fun _ => False) (Keep.of_below hk) id id hlt
theorem Rdr.code {T : Nat} {w : World} {g b : Nat} {l : List Int} {code : Int} (h : Rdr T w g b l code) : w.cell? ⟨g, 1, none⟩ = some (.int .i64 code) ∧ w.frozen? ⟨g, 1, none⟩ = false := by
  obtain ⟨A, c, hb, -⟩ := h
  exact ⟨by simp [World.cell?, hb], blk_frozen hb 1⟩
theorem Rdr.left {T : Nat} {w : World} {g b : Nat} {l : List Int} {code : Int} (h : Rdr T w g b l code) : ∃ A c, w.cell? ⟨g, 0, none⟩ = some (.slice A l.length c) ∧ w.frozen? ⟨g, 0, none⟩ = false ∧ w.heap[g]? = some (.cells #[.slice A l.length c, .int .i64 code] T (0, 0)) ∧ l.length ≤ c ∧ (∀ a, A = some a → a.block = b) ∧ kU8.C w A l.length l ∧ b ≠ g := by
  obtain ⟨A, c, hb, h⟩ := h
  exact ⟨A, c, by simp [World.cell?, hb], blk_frozen hb 0, hb, h⟩
theorem Rdr.len {T : Nat} {w : World} {g b : Nat} {l : List Int} {code : Int} (h : Rdr T w g b l code) : l.length ≤ 9223372036854775807 := by
  obtain ⟨A, c, hb, _, _, h, _⟩ := h
  exact h.2.1
/-- Its fault is turned. -/
theorem Rdr.set {T : Nat} {w : World} {g b : Nat} {l : List Int} {code : Int} (h : Rdr T w g b l code) (n : Int) : Rdr T (w.setCell ⟨g, 1, none⟩ (.int .i64 n)) g b l n := by
  obtain ⟨A, c, h1, h2, h3, h4, h5⟩ := h
  refine ⟨A, c, ?_, h2, h3, C_blk h4 (fun a e => ?_), h5⟩
  · rw [heap_setCell_same w g 1 _ T _ h1]; rfl
  · rw [h3 a e]; exact Below.heap_setCell _ _ _ _ h5
theorem Rdr.cut {T : Nat} {w : World} {g b : Nat} {l l' : List Int} {code : Int} {A A' : Option Addr} {c c' : Nat} (h1 : w.heap[g]? = some (.cells #[.slice A l.length c, .int .i64 code] T (0, 0))) (hA : ∀ a, A = some a → a.block = b) (hne : b ≠ g)
    (hl : l'.length ≤ c') (hA' : ∀ a, A' = some a → ∃ a0, A = some a0 ∧ a.block = a0.block) (hC : kU8.C w A' l'.length l') : Rdr T (w.setCell ⟨g, 0, none⟩ (.slice A' l'.length c')) g b l' code := by
  have hb : ∀ a, A' = some a → a.block = b := fun a e => by
    obtain ⟨a0, e0, e1⟩ := hA' a e
    rw [e1, hA a0 e0]
  refine ⟨A', c', ?_, hl, hb, C_blk hC (fun a e => ?_), hne⟩
  · rw [heap_setCell_same w g 0 _ T _ h1]; rfl
  · rw [hb a e]; exact Below.heap_setCell _ _ _ _ hne
def By (l : List Int) : Prop := ∀ x ∈ l, 0 ≤ x ∧ x < 256
theorem By.drop {l : List Int} (h : By l) (n : Nat) : By (l.drop n) := fun x hx => h x (List.mem_of_mem_drop hx)
theorem By.take {l : List Int} (h : By l) (n : Nat) : By (l.take n) := fun x hx => h x (List.mem_of_mem_take hx)
theorem By.append {l m : List Int} (h : By l) (k : By m) : By (l ++ m) := fun x hx => (List.mem_append.1 hx).elim (h x) (k x)
theorem By.at {l : List Int} (h : By l) {j : Nat} {x : Int} (hx : l[j]? = some x) : 0 ≤ x ∧ x < 256 := h x (List.mem_of_getElem? hx)
/-- A store into a block below what was made. -/
theorem R_set_old {α : Type} {d : Kd α} {e : Nat} {w : World} {base : Nat} {v : Value} {xs : List α} (h : d.R e w base (fun _ => True) v xs) {g : Nat} (hg : g < base) (j : Nat) (u : Value) : d.R e (w.setCell ⟨g, j, none⟩ u) base (fun _ => True) v xs :=
  Kd.R_mono (Kd.R_far (p := ⟨g, j, none⟩) (Kd.R_mono (ok' := fun k => base ≤ k) (Kd.R_bound h) (fun k hk => hk.2.1)) (fun k hk => by show k ≠ g; omega) u) (fun _ _ => trivial)
/-- Where what was made lies. -/
theorem R_at {α : Type} {d : Kd α} {e : Nat} {w : World} {base : Nat} {ok : Nat → Prop} {a : Addr} {n c : Nat} {xs : List α} (h : d.R e w base ok (.slice (some a) n c) xs) : base ≤ a.block ∧ a.block < w.heap.size := by
  have := (Kd.R_bound h).1 a.block rfl
  exact ⟨this.2.1, this.2.2.1⟩
/-- A row of its own begins at its block's head. -/
theorem R_head {α : Type} {d : Kd α} {e : Nat} {w : World} {base : Nat} {ok : Nat → Prop} {A : Option Addr} {n c : Nat} {xs : List α} (h : d.R e w base ok (.slice A n c) xs) (hx : 0 < xs.length) : ∃ g, A = some ⟨g, 0, none⟩ := by
  obtain ⟨inner, ho⟩ := Kd.R_own h
  rcases ho.2 with ⟨h1, h2⟩ | ⟨g, cap, cur, h1, _⟩
  · omega
  · injection h1 with h1
    exact ⟨g, h1⟩
/-- A literal of no element. -/
theorem R_lit0 {α : Type} (d : Kd α) (e : Nat) (W : World) : d.R e (W.alloc (.cells #[] e)) W.heap.size (fun _ => True) (.slice (some ⟨W.heap.size, 0, none⟩) 0 0) [] :=
  ⟨fun _ _ => trivial, [], World.ownsRow_made W #[] 0 (Nat.le_refl _) (by simp [maxLen]) (by simp), Reps.none _ _⟩
theorem C_lit (k : IntKind) (e : Nat) (w : World) (xs : List Int) (h : xs.length ≤ 9223372036854775807) : (Kd.int k).C (w.alloc (.cells (xs.map (Value.int k)).toArray e)) (some ⟨w.heap.size, 0, none⟩) xs.length xs := by
  refine ⟨rfl, h, fun _ => ⟨_, rfl, fun j p hj => ⟨[.int k p], rfl, rfl, fun i u hu => ?_⟩⟩⟩
  obtain ⟨hi, rfl⟩ : i = 0 ∧ u = .int k p := by
    rcases i with _ | i
    · exact ⟨rfl, by simpa using hu.symm⟩
    · simp at hu
  subst hi
  show (w.alloc _).cell? (Addr.add _ (j * 1 + 0)) = _
  rw [Nat.mul_one, Nat.add_zero]
  have hadd : (⟨w.heap.size, 0, none⟩ : Addr).add j = ⟨w.heap.size, j, none⟩ := by unfold Addr.add; split <;> simp_all
  rw [hadd, cell_of_row _ w.heap.size j _ e (0, 0) (heap_alloc_new _ _)]
  simp [hj]
theorem C_nil (k : IntKind) (w : World) : (Kd.int k).C w none 0 [] := ⟨rfl, by simp, fun h => absurd h (by simp)⟩
/-! Slices of slices. -/
theorem if_map_block {A : Option Addr} {c j m : Nat} {a : Addr} (h : (if c = j then A else A.map (·.add m)) = some a) : ∃ a0, A = some a0 ∧ a.block = a0.block := by
  split at h
  · exact ⟨a, h, rfl⟩
  · cases A with
    | none => simp at h
    | some a0 =>
      simp only [Option.map_some, Option.some.injEq] at h
      exact ⟨a0, rfl, by rw [← h, add_block]⟩
section
variable {P : Program} {α : Type} (d : Kd α) (t e : TypeId) (kl kh : IntKind) {i : TypeInfo} (ht : P.underlying t = some (.slice e)) (hi : P.info? e = some i) (hsz : i.size = d.sz) (A : Option Addr) (c : Nat) (xs : List α)
include ht hi
theorem sl_from (hsz : i.size = d.sz) (j : Int) (h0 : 0 ≤ j) (hm : j ≤ xs.length) (hc : xs.length ≤ c) :
    ∃ A', (∀ W : World, (Instr.slice t (.slice A xs.length c) (some (.int kl j)) none none).run P W = .ok (.slice A' (xs.drop j.toNat).length (c - j.toNat)) W) ∧
      (∀ w, d.C w A xs.length xs → d.C w A' (xs.drop j.toNat).length (xs.drop j.toNat)) ∧ (∀ a, A' = some a → ∃ a0, A = some a0 ∧ a.block = a0.block) ∧ (xs.drop j.toNat).length ≤ c - j.toNat :=
  ⟨_, fun W => by rw [cut_from t e kl ht hi d.sz hsz A xs.length c j h0 hm W, List.length_drop], fun w h => Kd.C_drop h (by omega) hc, fun a h => if_map_block h, by rw [List.length_drop]; omega⟩
theorem sl_to (j : Int) (h0 : 0 ≤ j) (hm : j ≤ xs.length) (hc : xs.length ≤ c) :
    (∀ W : World, (Instr.slice t (.slice A xs.length c) none (some (.int kh j)) none).run P W = .ok (.slice A (xs.take j.toNat).length c) W) ∧
      (∀ w, d.C w A xs.length xs → d.C w A (xs.take j.toNat).length (xs.take j.toNat)) ∧ (xs.take j.toNat).length ≤ c :=
  ⟨fun W => by rw [cut_to t e kh ht hi A xs.length c j h0 hm hc W, List.length_take, Nat.min_eq_left (by omega)], fun w h => Kd.C_take h (by omega), by rw [List.length_take]; omega⟩
theorem sl_mid (hsz : i.size = d.sz) (lo hi' : Int) (h0 : 0 ≤ lo) (h1 : lo ≤ hi') (h2 : hi' ≤ xs.length) (hc : xs.length ≤ c) :
    ∃ A', (∀ W : World, (Instr.slice t (.slice A xs.length c) (some (.int kl lo)) (some (.int kh hi')) none).run P W = .ok (.slice A' ((xs.take hi'.toNat).drop lo.toNat).length (c - lo.toNat)) W) ∧
      (∀ w, d.C w A xs.length xs → d.C w A' ((xs.take hi'.toNat).drop lo.toNat).length ((xs.take hi'.toNat).drop lo.toNat)) ∧ (∀ a, A' = some a → ∃ a0, A = some a0 ∧ a.block = a0.block) ∧ ((xs.take hi'.toNat).drop lo.toNat).length ≤ c - lo.toNat :=
  ⟨_, fun W => by rw [cut_mid t e kl kh ht hi d.sz hsz A xs.length c lo hi' h0 h1 h2 hc W, List.length_drop, List.length_take, Nat.min_eq_left (by omega)], fun w h => Kd.C_mid h (by omega) (by omega) hc, fun a h => if_map_block h, by rw [List.length_drop, List.length_take]; omega⟩
end
theorem info_ex {P : Program} {e : TypeId} {z : Option Value} {s b : Nat} (h : (P.info? e).map (fun i => (i.zero, i.size, i.bytes)) = some (z, s, b)) : ∃ i, P.info? e = some i ∧ i.zero = z ∧ i.size = s ∧ i.bytes = b := by
  obtain ⟨i, hi, he⟩ := Option.map_eq_some_iff.1 h
  simp only [Prod.mk.injEq] at he
  exact ⟨i, hi, he.1, he.2.1, he.2.2⟩
end Go.Proofs.Ytmkkebllmmafmaa.B
