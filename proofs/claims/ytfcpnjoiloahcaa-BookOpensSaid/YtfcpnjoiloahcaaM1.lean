/- Contracts and plain facts that the statements' proofs use (part 1). -/
import Derived.Test.YtfcpnjoiloahcaaWMore
import Derived.Test.YtfcpnjoiloahcaaWNEv
import Derived.Test.YtfcpnjoiloahcaaWWords
import Derived.Test.YtfcpnjoiloahcaaWLast
import Derived.WalkKit
import Derived.KernelRfl
import Derived.RowKit3
import Derived.Deep.LoopGhost
import Derived.Deep.QuietTactic
import Derived.BigQuiet
import Derived.WideLaws
import Derived.Deep.DeepCutAuto
import Derived.Deep.CutBlock
import Derived.Deep.RegionHeld3
import Derived.Lib.ConvBytes
import Derived.Deep.Slices
import Derived.ChangeArms
import Derived.Deep.RegionHeld
import Derived.Test.YtfcpnjoiloahcaaProg
import Derived.WalkSpells
import Derived.Lib.Overlaps
import Derived.Lib.AppendZeros
import Derived.Lib.AppendZerosOnto
import Derived.Maps.AppendAt
import Derived.Laws.IdiomCopy
import Derived.Laws.Externs
import Derived.Shelf.RegionOpenPlain
namespace Go.Proofs.Ytfcpnjoiloahcaa.B
open Go.RowKit Go.Proofs.YtfcpnjoiloahcaaW.PrintWords Go.Proofs.YtfcpnjoiloahcaaW.PrintLast Go.Proofs.YtfcpnjoiloahcaaW.PrintMore
set_option linter.unusedVariables false
set_option linter.unusedSimpArgs false

/-- Of the blocks that there were all but those of S are as they were. -/
structure Keep (S : Nat → Prop) (w w' : World) : Prop where
  os : w'.os = w.os
  tape : w'.tape = w.tape
  output : w'.output = w.output
  size : w.heap.size ≤ w'.heap.size
  block : ∀ k, k < w.heap.size → ¬ S k → w'.heap[k]? = w.heap[k]?

theorem Keep.refl (S : Nat → Prop) (w : World) : Keep S w w := ⟨rfl, rfl, rfl, Nat.le_refl _, fun _ _ _ => rfl⟩
theorem Keep.of_below {S : Nat → Prop} {w w' : World} (h : Below w.heap.size w w') : Keep S w w' := ⟨h.os, h.tape, h.output, h.size, fun k hk _ => h.block k hk⟩
theorem Keep.trans {S : Nat → Prop} {a b c : World} (h : Keep S a b) (k : Keep S b c) : Keep S a c :=
  ⟨k.os.trans h.os, k.tape.trans h.tape, k.output.trans h.output, Nat.le_trans h.size k.size, fun i hi hs => (k.block i (Nat.lt_of_lt_of_le hi h.size) hs).trans (h.block i hi hs)⟩
/-- The second step may turn new blocks too. -/
theorem Keep.then {S S' : Nat → Prop} {a b c : World} (h : Keep S a b) (k : Keep S' b c) (hS : ∀ i, i < a.heap.size → S' i → S i) : Keep S a c :=
  ⟨k.os.trans h.os, k.tape.trans h.tape, k.output.trans h.output, Nat.le_trans h.size k.size, fun i hi hs => (k.block i (Nat.lt_of_lt_of_le hi h.size) (fun h' => hs (hS i hi h'))).trans (h.block i hi hs)⟩
theorem Keep.mono {S S' : Nat → Prop} {a b : World} (h : Keep S a b) (hS : ∀ i, i < a.heap.size → S i → S' i) : Keep S' a b :=
  ⟨h.os, h.tape, h.output, h.size, fun i hi hs => h.block i hi (fun h' => hs (hS i hi h'))⟩
theorem Keep.below {S : Nat → Prop} {N : Nat} {w w' : World} (h : Keep S w w') (hN : N ≤ w.heap.size) (hS : ∀ i, i < N → ¬ S i) : Below N w w' :=
  ⟨h.os, h.tape, h.output, h.size, fun k hk => h.block k (by omega) (hS k hk)⟩
theorem Keep.below_then {S : Nat → Prop} {N : Nat} {w0 w w' : World} (h0 : Below N w0 w) (h : Keep S w w') (hN : N ≤ w.heap.size) (hS : ∀ i, i < N → ¬ S i) : Below N w0 w' :=
  h0.trans (h.below hN hS)
theorem Keep.drew {S : Nat → Prop} {a w : World} (h : Keep S a w) : Keep S a w.drew := ⟨h.os, h.tape, h.output, h.size, h.block⟩
theorem Keep.drewN {S : Nat → Prop} {a w : World} (h : Keep S a w) (n : Nat) : Keep S a (w.drewN n) := ⟨h.os, h.tape, h.output, h.size, h.block⟩
theorem Keep.alloc {S : Nat → Prop} {a w : World} (h : Keep S a w) (o : Obj) : Keep S a (w.alloc o) :=
  h.trans (Keep.of_below ((Below.refl _ _).alloc (Nat.le_refl _) o))
theorem Keep.setCell {S : Nat → Prop} {a w : World} (h : Keep S a w) (p : Addr) (u : Value) (hp : p.block < a.heap.size → S p.block) : Keep S a (w.setCell p u) :=
  h.then (S' := fun k => k = p.block) ⟨rfl, rfl, rfl, by simp [World.setCell], fun k hk hs => Below.heap_setCell _ _ _ _ (fun e => hs e)⟩ (fun i hi e => by subst e; exact hp hi)
theorem Keep.grown {S : Nat → Prop} {a w w' : World} {row : Option Nat} (h : Keep S a w) (hg : w.grownBy w' row) (hr : ∀ k, row = some k → k < a.heap.size → S k) : Keep S a w' :=
  h.then (S' := fun k => row = some k) ⟨hg.os, hg.tape, hg.output, hg.size, fun k hk hs => hg.block k hk (fun e => hs e.symm)⟩ (fun i hi e => hr i e hi)

theorem ret_eq {k : IntKind} {a b : Int} (h : a = b) : Ending.returned (.int k a) = .returned (.int k b) := by rw [h]
theorem wf_u64 {a : Int} (h : (Lit.int .u64 a).wf = true) : 0 ≤ a ∧ a < 18446744073709551616 := by
  have : IntKind.u64.min ≤ a ∧ a ≤ IntKind.u64.max := by simpa [Lit.wf] using h
  have e1 : IntKind.u64.min = 0 := by decide
  have e2 : IntKind.u64.max = 18446744073709551615 := by decide
  omega
theorem wf_i64 {a : Int} (h : (Lit.int .i64 a).wf = true) : -9223372036854775808 ≤ a ∧ a ≤ 9223372036854775807 := by
  have : IntKind.i64.min ≤ a ∧ a ≤ IntKind.i64.max := by simpa [Lit.wf] using h
  have e1 : IntKind.i64.min = -9223372036854775808 := by decide
  have e2 : IntKind.i64.max = 9223372036854775807 := by decide
  omega
theorem wf_u8 {a : Int} (h : (Lit.int .u8 a).wf = true) : 0 ≤ a ∧ a < 256 := by
  have : IntKind.u8.min ≤ a ∧ a ≤ IntKind.u8.max := by simpa [Lit.wf] using h
  have e1 : IntKind.u8.min = 0 := by decide
  have e2 : IntKind.u8.max = 255 := by decide
  omega
theorem ret_bool {a b : Bool} (h : a = b) : Ending.returned (.bool a) = .returned (.bool b) := by rw [h]
abbrev kU8 : Kd Int := Kd.int .u8

theorem add_block (a : Addr) (n : Nat) : (a.add n).block = a.block := by unfold Addr.add; split <;> rfl
/-- Whole numbers that are read: their block alone counts. -/
theorem C_blk {k : IntKind} {w w' : World} {A : Option Addr} {n : Nat} {xs : List Int} (h : (Kd.int k).C w A n xs) (hb : ∀ a, A = some a → w'.heap[a.block]? = w.heap[a.block]?) : (Kd.int k).C w' A n xs := by
  refine ⟨h.1, h.2.1, fun hn => ?_⟩
  obtain ⟨ad, e, hc⟩ := h.2.2 hn
  refine ⟨ad, e, fun j p hj => ?_⟩
  obtain ⟨c, h1, h2, h3⟩ := hc j p hj
  refine ⟨c, h1, h2, fun i u hu => ?_⟩
  have hb' : (ad.add (j * (Kd.int k).sz + i)).block = ad.block := add_block _ _
  exact (World.cell?_of_block (by rw [hb']; exact hb ad e)).trans (h3 i u hu)
theorem C_cell {k : IntKind} {w : World} {ad : Addr} {n : Nat} {xs : List Int} (h : (Kd.int k).C w (some ad) n xs) {j : Nat} {x : Int} (hx : xs[j]? = some x) : w.cell? (ad.add j) = some (.int k x) := by
  have hj := (List.getElem?_eq_some_iff.1 hx).1
  obtain ⟨ad', e, hc⟩ := h.2.2 (by have := h.1; omega)
  injection e with e
  subst e
  obtain ⟨c, h1, h2, h3⟩ := hc j x hx
  have h2' : c = [.int k x] := h2
  have := h3 0 (.int k x) (by rw [h2']; rfl)
  rwa [Nat.add_zero, show (Kd.int k).sz = 1 from rfl, Nat.mul_one] at this
theorem C_some {k : IntKind} {w : World} {A : Option Addr} {n : Nat} {xs : List Int} (h : (Kd.int k).C w A n xs) (hn : 0 < n) : ∃ ad, A = some ad := by
  obtain ⟨ad, e, _⟩ := h.2.2 hn
  exact ⟨ad, e⟩

/-- A reader of type T at block g: what is left of its bytes (in block b), and its fault. -/
def Rdr (T : Nat) (w : World) (g b : Nat) (l : List Int) (code : Int) : Prop :=
  ∃ A c, w.heap[g]? = some (.cells #[.slice A l.length c, .int .i64 code] T (0, 0)) ∧ l.length ≤ c ∧ (∀ a, A = some a → a.block = b) ∧ kU8.C w A l.length l ∧ b ≠ g
theorem Rdr.lt {T : Nat} {w : World} {g b : Nat} {l : List Int} {code : Int} (h : Rdr T w g b l code) : g < w.heap.size := by
  obtain ⟨A, c, h, _⟩ := h
  exact blk_lt h
theorem Rdr.ne {T : Nat} {w : World} {g b : Nat} {l : List Int} {code : Int} (h : Rdr T w g b l code) : b ≠ g := by
  obtain ⟨A, c, _, _, _, _, h⟩ := h
  exact h
theorem Rdr.move {T : Nat} {w w' : World} {g b : Nat} {l : List Int} {code : Int} (h : Rdr T w g b l code) (hg : w'.heap[g]? = w.heap[g]?) (hb : w'.heap[b]? = w.heap[b]?) : Rdr T w' g b l code := by
  obtain ⟨A, c, h1, h2, h3, h4, h5⟩ := h
  exact ⟨A, c, hg.trans h1, h2, h3, C_blk h4 (fun a e => by rw [h3 a e]; exact hb), h5⟩
/-- Its bytes' block is one of the world's, or there is none. -/
theorem Rdr.keep {T : Nat} {w w' : World} {g b : Nat} {l : List Int} {code : Int} {S : Nat → Prop} (h : Rdr T w g b l code) (hk : Keep S w w') (hg : ¬ S g) (hb : ¬ S b) (hlt : b < w.heap.size) : Rdr T w' g b l code :=
  h.move (hk.block g h.lt hg) (hk.block b hlt hb)
theorem Rdr.below {T : Nat} {w w' : World} {g b : Nat} {l : List Int} {code : Int} (h : Rdr T w g b l code) (hk : Below w.heap.size w w') (hlt : b < w.heap.size) : Rdr T w' g b l code :=
  h.keep (S := fun _ => False) (Keep.of_below hk) id id hlt
theorem Rdr.code {T : Nat} {w : World} {g b : Nat} {l : List Int} {code : Int} (h : Rdr T w g b l code) : w.cell? ⟨g, 1, none⟩ = some (.int .i64 code) ∧ w.frozen? ⟨g, 1, none⟩ = false := by
  obtain ⟨A, c, hb, -⟩ := h
  exact ⟨by simp [World.cell?, hb], blk_frozen hb 1⟩
theorem Rdr.left {T : Nat} {w : World} {g b : Nat} {l : List Int} {code : Int} (h : Rdr T w g b l code) : ∃ A c, w.cell? ⟨g, 0, none⟩ = some (.slice A l.length c) ∧ w.frozen? ⟨g, 0, none⟩ = false ∧ w.heap[g]? = some (.cells #[.slice A l.length c, .int .i64 code] T (0, 0)) ∧ l.length ≤ c ∧ (∀ a, A = some a → a.block = b) ∧ kU8.C w A l.length l ∧ b ≠ g := by
  obtain ⟨A, c, hb, h⟩ := h
  exact ⟨A, c, by simp [World.cell?, hb], blk_frozen hb 0, hb, h⟩
theorem Rdr.len {T : Nat} {w : World} {g b : Nat} {l : List Int} {code : Int} (h : Rdr T w g b l code) : l.length ≤ 9223372036854775807 := by
  obtain ⟨A, c, hb, _, _, h, _⟩ := h
  exact h.2.1
/-- Its fault is turned. -/
theorem Rdr.set {T : Nat} {w : World} {g b : Nat} {l : List Int} {code : Int} (h : Rdr T w g b l code) (n : Int) : Rdr T (w.setCell ⟨g, 1, none⟩ (.int .i64 n)) g b l n := by
  obtain ⟨A, c, h1, h2, h3, h4, h5⟩ := h
  refine ⟨A, c, ?_, h2, h3, C_blk h4 (fun a e => ?_), h5⟩
  · rw [heap_setCell_same w g 1 _ T _ h1]; rfl
  · rw [h3 a e]; exact Below.heap_setCell _ _ _ _ h5
theorem Rdr.cut {T : Nat} {w : World} {g b : Nat} {l l' : List Int} {code : Int} {A A' : Option Addr} {c c' : Nat} (h1 : w.heap[g]? = some (.cells #[.slice A l.length c, .int .i64 code] T (0, 0))) (hA : ∀ a, A = some a → a.block = b) (hne : b ≠ g)
    (hl : l'.length ≤ c') (hA' : ∀ a, A' = some a → ∃ a0, A = some a0 ∧ a.block = a0.block) (hC : kU8.C w A' l'.length l') : Rdr T (w.setCell ⟨g, 0, none⟩ (.slice A' l'.length c')) g b l' code := by
  have hb : ∀ a, A' = some a → a.block = b := fun a e => by
    obtain ⟨a0, e0, e1⟩ := hA' a e
    rw [e1, hA a0 e0]
  refine ⟨A', c', ?_, hl, hb, C_blk hC (fun a e => ?_), hne⟩
  · rw [heap_setCell_same w g 0 _ T _ h1]; rfl
  · rw [hb a e]; exact Below.heap_setCell _ _ _ _ hne
def By (l : List Int) : Prop := ∀ x ∈ l, 0 ≤ x ∧ x < 256
theorem By.drop {l : List Int} (h : By l) (n : Nat) : By (l.drop n) := fun x hx => h x (List.mem_of_mem_drop hx)
theorem By.take {l : List Int} (h : By l) (n : Nat) : By (l.take n) := fun x hx => h x (List.mem_of_mem_take hx)
theorem By.append {l m : List Int} (h : By l) (k : By m) : By (l ++ m) := fun x hx => (List.mem_append.1 hx).elim (h x) (k x)
theorem By.at {l : List Int} (h : By l) {j : Nat} {x : Int} (hx : l[j]? = some x) : 0 ≤ x ∧ x < 256 := h x (List.mem_of_getElem? hx)
/-- A store into a block below what was made. -/
theorem R_set_old {α : Type} {d : Kd α} {e : Nat} {w : World} {base : Nat} {v : Value} {xs : List α} (h : d.R e w base (fun _ => True) v xs) {g : Nat} (hg : g < base) (j : Nat) (u : Value) : d.R e (w.setCell ⟨g, j, none⟩ u) base (fun _ => True) v xs :=
  Kd.R_mono (Kd.R_far (p := ⟨g, j, none⟩) (Kd.R_mono (ok' := fun k => base ≤ k) (Kd.R_bound h) (fun k hk => hk.2.1)) (fun k hk => by show k ≠ g; omega) u) (fun _ _ => trivial)
/-- Where what was made lies. -/
theorem R_at {α : Type} {d : Kd α} {e : Nat} {w : World} {base : Nat} {ok : Nat → Prop} {a : Addr} {n c : Nat} {xs : List α} (h : d.R e w base ok (.slice (some a) n c) xs) : base ≤ a.block ∧ a.block < w.heap.size := by
  have := (Kd.R_bound h).1 a.block rfl
  exact ⟨this.2.1, this.2.2.1⟩
/-- A row of its own begins at its block's head. -/
theorem R_head {α : Type} {d : Kd α} {e : Nat} {w : World} {base : Nat} {ok : Nat → Prop} {A : Option Addr} {n c : Nat} {xs : List α} (h : d.R e w base ok (.slice A n c) xs) (hx : 0 < xs.length) : ∃ g, A = some ⟨g, 0, none⟩ := by
  obtain ⟨inner, ho⟩ := Kd.R_own h
  rcases ho.2 with ⟨h1, h2⟩ | ⟨g, cap, cur, h1, _⟩
  · omega
  · injection h1 with h1
    exact ⟨g, h1⟩
/-- A literal of no element. -/
theorem R_lit0 {α : Type} (d : Kd α) (e : Nat) (W : World) : d.R e (W.alloc (.cells #[] e)) W.heap.size (fun _ => True) (.slice (some ⟨W.heap.size, 0, none⟩) 0 0) [] :=
  ⟨fun _ _ => trivial, [], World.ownsRow_made W #[] 0 (Nat.le_refl _) (by simp [maxLen]) (by simp), Reps.none _ _⟩
theorem C_lit (k : IntKind) (e : Nat) (w : World) (xs : List Int) (h : xs.length ≤ 9223372036854775807) : (Kd.int k).C (w.alloc (.cells (xs.map (Value.int k)).toArray e)) (some ⟨w.heap.size, 0, none⟩) xs.length xs := by
  refine ⟨rfl, h, fun _ => ⟨_, rfl, fun j p hj => ⟨[.int k p], rfl, rfl, fun i u hu => ?_⟩⟩⟩
  obtain ⟨hi, rfl⟩ : i = 0 ∧ u = .int k p := by
    rcases i with _ | i
    · exact ⟨rfl, by simpa using hu.symm⟩
    · simp at hu
  subst hi
  show (w.alloc _).cell? (Addr.add _ (j * 1 + 0)) = _
  rw [Nat.mul_one, Nat.add_zero]
  have hadd : (⟨w.heap.size, 0, none⟩ : Addr).add j = ⟨w.heap.size, j, none⟩ := by unfold Addr.add; split <;> simp_all
  rw [hadd, cell_of_row _ w.heap.size j _ e (0, 0) (heap_alloc_new _ _)]
  simp [hj]
theorem C_nil (k : IntKind) (w : World) : (Kd.int k).C w none 0 [] := ⟨rfl, by simp, fun h => absurd h (by simp)⟩
/-! Slices of slices. -/
theorem if_map_block {A : Option Addr} {c j m : Nat} {a : Addr} (h : (if c = j then A else A.map (·.add m)) = some a) : ∃ a0, A = some a0 ∧ a.block = a0.block := by
  split at h
  · exact ⟨a, h, rfl⟩
  · cases A with
    | none => simp at h
    | some a0 =>
      simp only [Option.map_some, Option.some.injEq] at h
      exact ⟨a0, rfl, by rw [← h, add_block]⟩
section
variable {P : Program} {α : Type} (d : Kd α) (t e : TypeId) (kl kh : IntKind) {i : TypeInfo} (ht : P.underlying t = some (.slice e)) (hi : P.info? e = some i) (hsz : i.size = d.sz) (A : Option Addr) (c : Nat) (xs : List α)
include ht hi
theorem sl_from (hsz : i.size = d.sz) (j : Int) (h0 : 0 ≤ j) (hm : j ≤ xs.length) (hc : xs.length ≤ c) :
    ∃ A', (∀ W : World, (Instr.slice t (.slice A xs.length c) (some (.int kl j)) none none).run P W = .ok (.slice A' (xs.drop j.toNat).length (c - j.toNat)) W) ∧
      (∀ w, d.C w A xs.length xs → d.C w A' (xs.drop j.toNat).length (xs.drop j.toNat)) ∧ (∀ a, A' = some a → ∃ a0, A = some a0 ∧ a.block = a0.block) ∧ (xs.drop j.toNat).length ≤ c - j.toNat :=
  ⟨_, fun W => by rw [cut_from t e kl ht hi d.sz hsz A xs.length c j h0 hm W, List.length_drop], fun w h => Kd.C_drop h (by omega) hc, fun a h => if_map_block h, by rw [List.length_drop]; omega⟩
theorem sl_to (j : Int) (h0 : 0 ≤ j) (hm : j ≤ xs.length) (hc : xs.length ≤ c) :
    (∀ W : World, (Instr.slice t (.slice A xs.length c) none (some (.int kh j)) none).run P W = .ok (.slice A (xs.take j.toNat).length c) W) ∧
      (∀ w, d.C w A xs.length xs → d.C w A (xs.take j.toNat).length (xs.take j.toNat)) ∧ (xs.take j.toNat).length ≤ c :=
  ⟨fun W => by rw [cut_to t e kh ht hi A xs.length c j h0 hm hc W, List.length_take, Nat.min_eq_left (by omega)], fun w h => Kd.C_take h (by omega), by rw [List.length_take]; omega⟩
theorem sl_mid (hsz : i.size = d.sz) (lo hi' : Int) (h0 : 0 ≤ lo) (h1 : lo ≤ hi') (h2 : hi' ≤ xs.length) (hc : xs.length ≤ c) :
    ∃ A', (∀ W : World, (Instr.slice t (.slice A xs.length c) (some (.int kl lo)) (some (.int kh hi')) none).run P W = .ok (.slice A' ((xs.take hi'.toNat).drop lo.toNat).length (c - lo.toNat)) W) ∧
      (∀ w, d.C w A xs.length xs → d.C w A' ((xs.take hi'.toNat).drop lo.toNat).length ((xs.take hi'.toNat).drop lo.toNat)) ∧ (∀ a, A' = some a → ∃ a0, A = some a0 ∧ a.block = a0.block) ∧ ((xs.take hi'.toNat).drop lo.toNat).length ≤ c - lo.toNat :=
  ⟨_, fun W => by rw [cut_mid t e kl kh ht hi d.sz hsz A xs.length c lo hi' h0 h1 h2 hc W, List.length_drop, List.length_take, Nat.min_eq_left (by omega)], fun w h => Kd.C_mid h (by omega) (by omega) hc, fun a h => if_map_block h, by rw [List.length_drop, List.length_take]; omega⟩
end
theorem info_ex {P : Program} {e : TypeId} {z : Option Value} {s b : Nat} (h : (P.info? e).map (fun i => (i.zero, i.size, i.bytes)) = some (z, s, b)) : ∃ i, P.info? e = some i ∧ i.zero = z ∧ i.size = s ∧ i.bytes = b := by
  obtain ⟨i, hi, he⟩ := Option.map_eq_some_iff.1 h
  simp only [Prod.mk.injEq] at he
  exact ⟨i, hi, he.1, he.2.1, he.2.2⟩
end Go.Proofs.Ytfcpnjoiloahcaa.B
namespace Go.Proofs.Ytfcpnjoiloahcaa.O
open Go Go.Deep Go.RowKit Go.Proofs.YtfcpnjoiloahcaaW.PrintWords Go.Proofs.Ytfcpnjoiloahcaa.B
set_option linter.unusedVariables false
set_option linter.unusedSimpArgs false

/-- Cells of type t that can be read as data are of kind d, and what they say is ok. -/
def Opens {α : Type} (P : Program) (t : TypeId) (d : Kd α) (ok : α → Prop) : Prop :=
  ∀ (H : Type) (enc : TypeId × Value → H) (w : World) (base : Nat) (sp : Nat → Bool) (held : Bool) (fuel : Nat) (cs : List Value) (x : DataW H × List MemPlace), DataW.trod enc P w base sp held fuel t cs = some x → ∃ v, d.K w v cs ∧ ok v

section
variable {P : Program} {t e : TypeId}
theorem opens_mono {α : Type} {d : Kd α} {ok ok' : α → Prop} (h : Opens P t d ok) (hok : ∀ v, ok v → ok' v) : Opens P t d ok' := fun H enc w base sp held fuel cs x hx =>
  let ⟨v, h1, h2⟩ := h H enc w base sp held fuel cs x hx
  ⟨v, h1, hok v h2⟩
theorem opens_int {k : IntKind} (ht : P.underlying t = some (.int k)) : Opens P t (Kd.int k) (fun n => (Lit.int k n).wf = true) := by
  intro H enc w base sp held fuel cs x h
  cases fuel with
  | zero => simp [DataW.trod] at h
  | succ n =>
    unfold DataW.trod at h
    rw [ht] at h
    split at h <;> simp_all
    rename_i n' _
    obtain ⟨⟨rfl, hw⟩, _⟩ := h
    exact ⟨n', rfl, hw⟩
theorem opens_bool (ht : P.underlying t = some .bool) : Opens P t Kd.bool (fun _ => True) := by
  intro H enc w base sp held fuel cs x h
  cases fuel with
  | zero => simp [DataW.trod] at h
  | succ n =>
    unfold DataW.trod at h
    rw [ht] at h
    split at h
    · rename_i b _
      exact ⟨b, rfl, trivial⟩
    all_goals simp_all
theorem opens_slice {α : Type} {d : Kd α} {ok : α → Prop} (ht : P.underlying t = some (.slice e)) (hs : P.cellsOf e = d.sz) (hd : Opens P e d ok) : Opens P t (Kd.slice e d) (fun l => (∀ v ∈ l, ok v) ∧ l.length ≤ 9223372036854775807) := by
  intro H enc w base sp held fuel cs x h
  rcases open_slice ht h with ⟨rfl, _⟩ | ⟨a, len, cap, m, n, D, Pl, rfl, hb, hl, hm, hmm, hxx, hx⟩
  · exact ⟨[], ⟨none, 0, rfl, Nat.le_refl _, ⟨rfl, by simp, fun h => absurd h (by simp)⟩⟩, fun v hv => by simp at hv, by simp⟩
  · have hlm : len ≤ m := by rw [hmm]; split <;> omega
    have key : ∀ i, i < len → ∃ v, ok v ∧ ∃ c, c.length = d.sz ∧ d.K w v c ∧ ∀ j u, c[j]? = some u → w.cell? (a.add (i * d.sz + j)) = some u := by
      intro i hi
      obtain ⟨cs', h1, h2⟩ := hx i (by omega)
      obtain ⟨v, hv, hok⟩ := hd H enc w base sp held n cs' _ h2
      obtain ⟨_, hlen, hc⟩ := World.cells?_some h1
      refine ⟨v, hok, cs', by rw [hlen, hs], hv, fun j u hu => ?_⟩
      have hj := (List.getElem?_eq_some_iff.1 hu).1
      have := hc j (by rw [← hlen]; exact hj)
      rw [Addr.add_add, hs] at this
      rw [this, hu]
    have : ∃ l : List α, l.length = len ∧ (∀ v ∈ l, ok v) ∧ ∀ i v, l[i]? = some v → ∃ c, c.length = d.sz ∧ d.K w v c ∧ ∀ j u, c[j]? = some u → w.cell? (a.add (i * d.sz + j)) = some u := by
      clear h hx hl hmm hlm hxx
      induction len with
      | zero => exact ⟨[], rfl, fun v hv => by simp at hv, fun i v h => by simp at h⟩
      | succ k ih =>
        obtain ⟨l, h1, h2, h3⟩ := ih (fun i hi => key i (by omega))
        obtain ⟨v, hv, hc⟩ := key k (by omega)
        refine ⟨l ++ [v], by simp [h1], fun u hu => ?_, fun i u hu => ?_⟩
        · rcases List.mem_append.1 hu with hu | hu
          · exact h2 u hu
          · rw [List.mem_singleton] at hu; subst hu; exact hv
        · rcases Nat.lt_or_ge i l.length with hi | hi
          · rw [List.getElem?_append_left hi] at hu; exact h3 i u hu
          · have : i = l.length := by
              have := (List.getElem?_eq_some_iff.1 hu).1
              simp at this
              omega
            subst this
            rw [List.getElem?_append_right (by omega)] at hu
            simp at hu
            subst hu
            rw [h1]
            exact hc
    obtain ⟨l, h1, h2, h3⟩ := this
    subst h1
    refine ⟨l, ⟨some a, cap, rfl, hl, ⟨rfl, ?_, fun _ => ⟨a, rfl, fun j p hj => ?_⟩⟩⟩, h2, ?_⟩
    · simp only [maxLen] at hm; omega
    · exact h3 j p hj
    · simp only [maxLen] at hm; omega

/-- Fields in line, from an offset on. -/
def OpensFs {α : Type} (P : Program) (fs : List Field) (off : Nat) (d : Kd α) (ok : α → Prop) : Prop :=
  ∀ (H : Type) (enc : TypeId × Value → H) (w : World) (base : Nat) (sp : Nat → Bool) (held : Bool) (fuel : Nat) (cs : List Value) (xs : List (DataW H × List MemPlace)), cs.length = off + d.sz →
    (fs.mapM fun f => DataW.trod enc P w base sp held fuel f.type ((cs.drop f.offset).take (P.cellsOf f.type))) = some xs → ∃ v, d.K w v (cs.drop off) ∧ ok v
theorem opens_last {α : Type} {d : Kd α} {ok : α → Prop} {f : Field} {off : Nat} (ho : f.offset = off) (hs : P.cellsOf f.type = d.sz) (h : Opens P f.type d ok) : OpensFs P [f] off d ok := by
  intro H enc w base sp held fuel cs xs hl hx
  simp only [List.mapM_cons, List.mapM_nil, Option.bind_eq_bind, Option.bind_eq_some_iff, Option.pure_def] at hx
  obtain ⟨y, hy, _⟩ := hx
  rw [ho, hs, List.take_of_length_le (by rw [List.length_drop]; omega)] at hy
  exact h H enc w base sp held fuel _ y hy
theorem opens_cons {α β : Type} {a : Kd α} {b : Kd β} {oka : α → Prop} {okb : β → Prop} {f : Field} {fs : List Field} {off : Nat} (ho : f.offset = off) (hs : P.cellsOf f.type = a.sz) (h : Opens P f.type a oka) (hr : OpensFs P fs (off + a.sz) b okb) :
    OpensFs P (f :: fs) off (Kd.pair a b) (fun p => oka p.1 ∧ okb p.2) := by
  intro H enc w base sp held fuel cs xs hl hx
  simp only [List.mapM_cons, Option.bind_eq_bind, Option.bind_eq_some_iff, Option.pure_def] at hx
  obtain ⟨y, hy, ys, hys, _⟩ := hx
  rw [ho, hs] at hy
  obtain ⟨u, hu, hou⟩ := h H enc w base sp held fuel _ y hy
  obtain ⟨v, hv, hov⟩ := hr H enc w base sp held fuel cs ys (by rw [hl]; show off + (a.sz + b.sz) = _; omega) hys
  refine ⟨(u, v), ⟨(cs.drop off).take a.sz, cs.drop (off + a.sz), ?_, hu, hv⟩, hou, hov⟩
  rw [← List.drop_drop, List.take_append_drop]
theorem opens_struct {α : Type} {d : Kd α} {ok : α → Prop} {fs : Array Field} (ht : P.underlying t = some (.struct fs)) (hs : P.cellsOf t = d.sz) (h : OpensFs P fs.toList 0 d ok) : Opens P t d ok := by
  intro H enc w base sp held fuel cs x hx
  cases fuel with
  | zero => simp [DataW.trod] at hx
  | succ n =>
    unfold DataW.trod at hx
    rw [ht] at hx
    simp only at hx
    split at hx
    · rename_i hl
      obtain ⟨xs, h1, _⟩ := Option.map_eq_some_iff.1 hx
      obtain ⟨v, hv, hov⟩ := h H enc w base sp held n cs xs (by rw [hl, hs]; omega) h1
      exact ⟨v, by simpa using hv, hov⟩
    · cases hx
theorem opens_iso {α β : Type} {d : Kd α} {ok : α → Prop} {f : β → α} {g : α → β} (hfg : ∀ x, f (g x) = x) (h : Opens P t d ok) : Opens P t (Kd.iso d f) (fun b => ok (f b)) := by
  intro H enc w base sp held fuel cs x hx
  obtain ⟨v, hv, hov⟩ := h H enc w base sp held fuel cs x hx
  exact ⟨g v, by show d.K w (f (g v)) cs; rw [hfg]; exact hv, by show ok (f (g v)); rw [hfg]; exact hov⟩
end
/-- A slice's block is one of the world's. -/
theorem okWide_alt {P : Program} {w : World} {r : Reach} {base : Nat} {t e : TypeId} {A : Option Addr} {n c : Nat} (ht : P.underlying t = some (.slice e)) (h : Value.okWide P w r base t (.slice A n c)) : ∀ a, A = some a → a.block < w.heap.size := by
  intro a ha
  subst ha
  simp only [Value.okWide, ht, Cell.okWide, Cell.ok, World.has] at h
  obtain ⟨_, _, _, _, row, cells, hs, _⟩ := h
  unfold World.shape? at hs
  split at hs
  · rename_i h1
    exact (Array.getElem?_eq_some_iff.1 h1).1
  · cases hs
/-- A slice argument, opened. -/
theorem opens_arg {P : Program} {α : Type} {t e : TypeId} {d : Kd α} {ok : List α → Prop} (ho : Opens P t (Kd.slice e d) ok) {H : Type} {enc : TypeId × Value → H} {w : World} {base : Nat} {sp : Nat → Bool} {held : Bool} {A : Option Addr} {n c : Nat} {D : DataW H} {ps : List MemPlace}
    (h : DataW.Trod enc P w base sp held t (.slice A n c) D ps) : ∃ l, n = l.length ∧ l.length ≤ c ∧ d.C w A l.length l ∧ ok l := by
  obtain ⟨fuel, hf⟩ := h
  obtain ⟨l, ⟨A', c', he, hl, hC⟩, hok⟩ := ho H enc w base sp held fuel _ _ hf
  have he' : [Value.slice A n c] = [Value.slice A' l.length c'] := by simpa [Value.cells] using he
  injection he' with he'
  injection he' with h1 h2 h3
  subst h1 h2 h3
  exact ⟨l, rfl, hl, hC, hok⟩
end Go.Proofs.Ytfcpnjoiloahcaa.O
namespace Go.Proofs.Ytfcpnjoiloahcaa.B
open Go.RowKit Go.Proofs.YtfcpnjoiloahcaaW.PrintWords Go.Proofs.YtfcpnjoiloahcaaW.PrintLast Go.Proofs.YtfcpnjoiloahcaaW.PrintMore
set_option linter.unusedVariables false
set_option linter.unusedSimpArgs false
/-- A row of one's own at a block's head, with whatever behind it; its block is one of S. -/
def Buf (k : IntKind) (e : Nat) (w : World) (S : Nat → Prop) (v : Value) (xs : List Int) : Prop :=
  (v = .slice none 0 0 ∧ xs = []) ∨
  ∃ (g cap : Nat) (cur : Array Value), v = .slice (some ⟨g, 0, none⟩) xs.length cap ∧ S g ∧ w.heap[g]? = some (.cells cur e (0, 0)) ∧ xs.length ≤ cap ∧ cap ≤ maxLen ∧ cap ≤ cur.size ∧ cur.toList.take xs.length = nums k xs
section
variable {k : IntKind} {e : Nat} {w w' : World} {S S' : Nat → Prop} {v : Value} {xs : List Int}
theorem Buf.nil (k : IntKind) (e : Nat) (w : World) (S : Nat → Prop) : Buf k e w S (.slice none 0 0) [] := .inl ⟨rfl, rfl⟩
theorem nums_len (k : IntKind) (xs : List Int) : (nums k xs).length = xs.length := by simp [nums]
theorem Buf.of_R {base : Nat} {ok : Nat → Prop} (h : (Kd.int k).R e w base ok v xs) : Buf k e w (fun i => ok i ∧ base ≤ i ∧ i < w.heap.size) v xs := by
  have hok := h.1
  rcases (Kd.own_of_R h).2 with ⟨h1, h2⟩ | ⟨g, cap, cur, h1, h2, h3, h4, h5, h6, h7⟩
  · exact .inl ⟨h1, List.eq_nil_of_length_eq_zero h2⟩
  · refine .inr ⟨g, cap, cur, h1, ⟨hok g (by rw [h1]; rfl), h2, blk_lt h3⟩, h3, h4, h5, by omega, ?_⟩
    rw [Nat.mul_one] at h7
    exact h7
theorem Buf.mono (h : Buf k e w S v xs) (hS : ∀ i, S i → i < w.heap.size → S' i) : Buf k e w S' v xs := by
  rcases h with h | ⟨g, cap, cur, h1, h2, h3, h4⟩
  · exact .inl h
  · exact .inr ⟨g, cap, cur, h1, hS g h2 (blk_lt h3), h3, h4⟩
theorem Buf.step (h : Buf k e w S v xs) (hm : ∀ i, S i → i < w.heap.size → w'.heap[i]? = w.heap[i]?) : Buf k e w' S v xs := by
  rcases h with h | ⟨g, cap, cur, h1, h2, h3, h4⟩
  · exact .inl h
  · exact .inr ⟨g, cap, cur, h1, h2, (hm g h2 (blk_lt h3)).trans h3, h4⟩
theorem Buf.keep {T : Nat → Prop} (h : Buf k e w S v xs) (hk : Keep T w w') (hd : ∀ i, S i → ¬ T i) : Buf k e w' S v xs := h.step (fun i hi hl => hk.block i hl (hd i hi))
theorem Buf.below (h : Buf k e w S v xs) (hb : Below w.heap.size w w') : Buf k e w' S v xs := h.step (fun i _ hl => hb.block i hl)
theorem Buf.own (h : Buf k e w S v xs) : ∀ i, v.ownBlock = some i → S i ∧ i < w.heap.size := by
  intro i hi
  rcases h with ⟨rfl, _⟩ | ⟨g, cap, cur, rfl, h2, h3, _⟩
  · simp [Value.ownBlock] at hi
  · simp only [Value.ownBlock, Option.some.injEq] at hi
    subst hi
    exact ⟨h2, blk_lt h3⟩
theorem Buf.exact (h : Buf k e w S v xs) : Buf k e w (fun i => v.ownBlock = some i) v xs := by
  rcases h with h | ⟨g, cap, cur, h1, h2, h3, h4⟩
  · exact .inl h
  · exact .inr ⟨g, cap, cur, h1, by rw [h1]; rfl, h3, h4⟩
theorem Buf.cell {g cap : Nat} {cur : Array Value} {xs : List Int} (h3 : w.heap[g]? = some (.cells cur e (0, 0))) (h7 : cur.toList.take xs.length = nums k xs) {j : Nat} {x : Int} (hx : xs[j]? = some x) : w.cell? ((⟨g, 0, none⟩ : Addr).add j) = some (.int k x) := by
  have hj := (List.getElem?_eq_some_iff.1 hx).1
  have hadd : (⟨g, 0, none⟩ : Addr).add j = ⟨g, j, none⟩ := by unfold Addr.add; split <;> simp_all
  rw [hadd, cell_of_row w g j cur e (0, 0) h3]
  have h := congrArg (fun l => l[j]?) h7
  simp only [List.getElem?_take, hj, if_true, nums, List.getElem?_map, hx, Option.map_some] at h
  rw [← h, Array.getElem?_toList]
theorem Buf.reads (h : Buf k e w S v xs) : ∃ A c, v = .slice A xs.length c ∧ xs.length ≤ c ∧ (Kd.int k).C w A xs.length xs ∧ ∀ a, A = some a → S a.block ∧ a.block < w.heap.size := by
  rcases h with ⟨rfl, rfl⟩ | ⟨g, cap, cur, h1, h2, h3, h4, h5, h6, h7⟩
  · exact ⟨none, 0, rfl, Nat.le_refl _, C_nil _ _, fun a ha => by cases ha⟩
  · refine ⟨_, cap, h1, h4, ⟨rfl, by simp only [maxLen] at h5; omega, fun _ => ⟨_, rfl, fun j x hx => ⟨[.int k x], rfl, rfl, fun i u hu => ?_⟩⟩⟩, fun a ha => by injection ha with ha; subst ha; exact ⟨h2, blk_lt h3⟩⟩
    obtain ⟨hi, rfl⟩ : i = 0 ∧ u = .int k x := by
      rcases i with _ | i
      · exact ⟨rfl, by simpa using hu.symm⟩
      · simp at hu
    subst hi
    show w.cell? (Addr.add _ (j * 1 + 0)) = _
    rw [Nat.mul_one, Nat.add_zero]
    exact Buf.cell (cap := cap) h3 h7 hx
/-- Cut short: x[:n:c]. -/
theorem Buf.short (h : Buf k e w S v xs) {A : Option Addr} {n c : Nat} (hv : v = .slice A n c) {m c' : Nat} (hm : m ≤ xs.length) (hc1 : m ≤ c') (hc2 : c' ≤ c) (hne : A = none → m = 0 ∧ c' = 0) : Buf k e w S (.slice A m c') (xs.take m) := by
  rcases h with ⟨rfl, rfl⟩ | ⟨g, cap, cur, h1, h2, h3, h4, h5, h6, h7⟩
  · injection hv with h1 h2 h3
    subst h1
    obtain ⟨rfl, rfl⟩ := hne rfl
    exact .inl ⟨rfl, rfl⟩
  · rw [h1] at hv
    injection hv with h1 h1' h1''
    subst h1 h1''
    have hl : (xs.take m).length = m := by rw [List.length_take]; omega
    refine .inr ⟨g, c', cur, by rw [hl], h2, h3, by omega, by omega, by omega, ?_⟩
    rw [hl]
    have := congrArg (List.take m) h7
    rw [List.take_take, Nat.min_eq_left hm] at this
    rw [this]
    simp [nums, List.map_take]
end
section
variable {P : Program} {k : IntKind}
/-- append(v, y): what it leaves. -/
theorem Buf.run_append {W : World} {S : Nat → Prop} {v : Value} {xs : List Int} (t ty e : TypeId) (ht : P.underlying t = some (.slice e)) {bytes : Nat} (hinfo : (P.info? e).map (fun i => (i.zero, i.size, i.bytes)) = some (some (.int k 0), 1, bytes)) (hb0 : 0 < bytes)
    (h : Buf k e W S v xs) (ad : Addr) (m c : Nat) (ys : List Int) (hm : ys.length = m) (h0 : 0 < m) (hy : ∀ j y, ys[j]? = some y → W.cell? (ad.add j) = some (.int k y)) (hl : (xs.length + m) * bytes ≤ 140737488355328) :
    ∃ v1 w1, (Builtin.append_ #[t, t] ty #[v, .slice (some ad) m c]).run P W = .ok v1 w1 ∧ Buf k e w1 (fun i => S i ∨ W.heap.size ≤ i) v1 (xs ++ ys) ∧ W.grownBy w1 v.ownBlock := by
  obtain ⟨i0, hi, hzz⟩ := Option.map_eq_some_iff.1 hinfo
  simp only [Prod.mk.injEq] at hzz
  obtain ⟨hz0, hz1, hz2⟩ := hzz
  subst hm
  have hlen : xs.length + ys.length ≤ 140737488355328 := Nat.le_trans (Nat.le_mul_of_pos_right _ hb0) hl
  have hnl : (nums k ys).length = ys.length * i0.size := by rw [nums_len, hz1, Nat.mul_one]
  have hnews : ∀ j u, (nums k ys)[j]? = some u → W.cell? (ad.add j) = some u := fun j u hu => by
    simp only [nums, List.getElem?_map, Option.map_eq_some_iff] at hu
    obtain ⟨y, hy1, rfl⟩ := hu
    exact hy j y hy1
  have h1 : ∀ u ∈ nums k ys, u.oneCell' = true := by
    intro u hu
    simp only [nums, List.mem_map] at hu
    obtain ⟨q, _, rfl⟩ := hu
    rfl
  have grown : ∀ (old : Nat) (row : Option Nat), 
      Buf k e (W.drew.alloc (.cells ((nums k xs).toArray ++ (nums k ys).toArray ++ Builtin.zeroCells (Value.cells (.int k 0)) (grownCap W (xs.length + ys.length) old e - (xs.length + ys.length))) e)) (fun i => S i ∨ W.heap.size ≤ i)
        (.slice (some ⟨W.heap.size, 0, none⟩) (xs.length + ys.length) (grownCap W (xs.length + ys.length) old e)) (xs ++ ys) ∧
      W.grownBy (W.drew.alloc (.cells ((nums k xs).toArray ++ (nums k ys).toArray ++ Builtin.zeroCells (Value.cells (.int k 0)) (grownCap W (xs.length + ys.length) old e - (xs.length + ys.length))) e)) row := by
    intro old row
    have hge := grownCap_ge W (xs.length + ys.length) old e
    have hcm : grownCap W (xs.length + ys.length) old e ≤ maxLen := grownCap_le_maxLen W _ old e (by simp only [maxLen]; omega)
    refine ⟨.inr ⟨W.heap.size, _, _, by rw [List.length_append], .inr (Nat.le_refl _), heap_alloc_new W.drew _, by rw [List.length_append]; exact hge, hcm, ?_, ?_⟩, ⟨rfl, rfl, rfl, by simp, fun i hi _ => Below.heap_alloc W.drew _ i hi⟩⟩
    · simp only [Array.size_append, List.size_toArray, size_zeroCells, nums_len]
      have : (Value.cells (.int k 0)).size = 1 := rfl
      rw [this]
      omega
    · simp only [Array.toList_append]
      rw [show (xs ++ ys).length = (nums k xs ++ nums k ys).length by simp [nums]]
      rw [List.take_left]
      simp [nums]
  rcases h with ⟨rfl, rfl⟩ | ⟨g, cap, cur, rfl, h2, h3, h4, h5, h6, h7⟩
  · have hr := run_append_nil (P := P) W t ty e i0 (.int k 0) ht hi hz0 ad ys.length c (nums k ys) hnl hnews h0 (by omega) (by rw [hz2]; simp only [List.length_nil, Nat.zero_add] at hl; omega)
    have hg := grown 0 (Value.ownBlock (.slice none 0 0))
    simp only [List.length_nil, Nat.zero_add, List.nil_append] at hg hr ⊢
    refine ⟨_, _, hr, ?_, ?_⟩
    · simpa [nums] using hg.1
    · simpa [nums] using hg.2
  · by_cases hroom : xs.length + ys.length ≤ cap
    · have hr := run_append_room (P := P) W t ty e i0 ht hi g xs.length cap cur h3 ad ys.length c (nums k ys) hnl hnews h1 hroom (by rw [hz1, nums_len]; omega)
      refine ⟨_, _, hr, .inr ⟨g, cap, _, by rw [List.length_append], .inl h2, setRow_heap W g cur _ e _ h3, by rw [List.length_append]; exact hroom, h5, ?_, ?_⟩, ⟨rfl, rfl, rfl, by simp, fun k _ hk => setRow_other W g k _ (fun e => hk (by simp [Value.ownBlock, e]))⟩⟩
      · simp only [List.size_toArray, List.length_append, List.length_take, List.length_drop, Array.length_toList, nums_len, hz1, Nat.mul_one]
        omega
      · simp only [hz1, Nat.mul_one, h7]
        rw [show (xs ++ ys).length = (nums k xs ++ nums k ys).length by simp [nums]]
        rw [List.take_left]
        simp [nums]
    · have holds : ∀ j u, (nums k xs)[j]? = some u → W.cell? ((⟨g, 0, none⟩ : Addr).add j) = some u := fun j u hu => by
        simp only [nums, List.getElem?_map, Option.map_eq_some_iff] at hu
        obtain ⟨y, hy1, rfl⟩ := hu
        exact Buf.cell (cap := cap) h3 h7 hy1
      have hr := run_append_grow (P := P) W t ty e i0 (.int k 0) ht hi hz0 ⟨g, 0, none⟩ xs.length cap (nums k xs) (by rw [nums_len, hz1, Nat.mul_one]) holds ad ys.length c (nums k ys) hnl hnews (by omega) (by omega) (by rw [hz2]; exact growslice_fits (by omega) hl)
      have hg := grown cap (Value.ownBlock (.slice (some ⟨g, 0, none⟩) xs.length cap))
      exact ⟨_, _, hr, hg.1, hg.2⟩
end
section
variable {P : Program} {ops : Array Oper} {rest : List Oper} {o : Oper} {a : Act} {Q : Exit → Act → World → Prop} {k : IntKind}
/-- append(v, y), behind 'at_builtin'; the goal's world is W with the variadic's box. -/
theorem Buf.append {W : World} {S : Nat → Prop} (hgd : o.guard = none) (s x : Operand) (t e : TypeId) (bytes : Nat)
    (ho : o.op = .call { callee := .builtin .append, args := #[s, x], argTypes := #[t, t] })
    (ht : P.underlying t = some (.slice e)) (hinfo : (P.info? e).map (fun i => (i.zero, i.size, i.bytes)) = some (some (.int k 0), 1, bytes)) (hb0 : 0 < bytes)
    (v : Value) (xs : List Int) (y : Int) (hs : a.eval s = v) (hx : a.eval x = .slice (some ⟨W.heap.size, 0, none⟩) 1 1)
    (HO : Buf k e W S v xs) (hl : (xs.length + 1) * bytes ≤ 140737488355328)
    (h : ∀ v1 w1, Buf k e w1 (fun i => S i ∨ W.heap.size ≤ i) v1 (xs ++ [y]) → W.grownBy w1 v.ownBlock → wpList P ops Q rest (a.put o.dst v1) w1) :
    wpList P ops Q (o :: rest) a (W.alloc (.cells #[.int k y] e)) := by
  obtain ⟨v1, w1, hr, hb, hg⟩ := Buf.run_append (P := P) (W := W.alloc (.cells #[.int k y] e)) t o.type e ht hinfo hb0 (HO.below ((Below.refl _ _).alloc (Nat.le_refl _) _)) ⟨W.heap.size, 0, none⟩ 1 1 [y] rfl (by decide) (fun j u hu => by
    have hj : j = 0 := by
      have := (List.getElem?_eq_some_iff.1 hu).1
      simp at this
      omega
    subst hj
    have hu' : y = u := by simpa using hu
    subst hu'
    have hadd : (⟨W.heap.size, 0, none⟩ : Addr).add 0 = ⟨W.heap.size, 0, none⟩ := by unfold Addr.add; simp
    rw [hadd, cell_of_row _ W.heap.size 0 _ e (0, 0) (heap_alloc_new _ _)]
    rfl) hl
  refine wpList_plain hgd fun K hK => ?_
  unfold Oper.wp execOp
  simp only [ho, resolve, invoke, builtin, Sem.run_bind, Sem.run_pure, Result.andThen_ok, List.map_toArray, List.map_cons, List.map_nil, hs, hx, hr]
  exact hK _ _ (h v1 w1 (hb.mono (fun i hi _ => hi.imp id (fun hh => by simp at hh; omega))) (World.grownBy.trans (World.grownBy_alloc W _ _) hg))
end
theorem grown_keep {w w' : World} {v : Value} {S : Nat → Prop} (hg : w.grownBy w' v.ownBlock) (hS : ∀ i, v.ownBlock = some i → S i) : Keep S w w' :=
  ⟨hg.os, hg.tape, hg.output, hg.size, fun k hk hs => hg.block k hk (fun e => hs (hS k e.symm))⟩
/-- copy(v[o:], ys): v's cells from o on are ys' then. -/
theorem Buf.run_copy {P : Program} {k : IntKind} {W : World} {S : Nat → Prop} {g cap : Nat} {xs : List Int} (t t' ty e : TypeId) (ht : P.underlying t = some (.slice e)) (hinfo : (P.info? e).map (·.size) = some 1)
    (h : Buf k e W S (.slice (some ⟨g, 0, none⟩) xs.length cap) xs) (o dLen dCap : Nat) (hd : o + dLen = xs.length) {A : Option Addr} {m c : Nat} {ys : List Int} (hC : (Kd.int k).C W A m ys) (hm : o + m ≤ xs.length) (h0 : 0 < m) :
    ∃ w1, (Builtin.copy_ #[t, t'] ty #[.slice (some ⟨g, o, none⟩) dLen dCap, .slice A m c]).run P W = .ok (.int .i64 m) w1 ∧ Buf k e w1 S (.slice (some ⟨g, 0, none⟩) xs.length cap) (xs.take o ++ ys ++ xs.drop (o + m)) ∧ Keep (· = g) W w1 ∧ w1.heap.size = W.heap.size := by
  have hym := hC.1
  obtain ⟨ad, rfl⟩ := C_some hC h0
  rcases h with ⟨h1, _⟩ | ⟨g', cap', cur, h1, h2, h3, h4, h5, h6, h7⟩
  · injection h1 with h1; cases h1
  · injection h1 with h1 _ h1''
    injection h1 with h1
    injection h1 with h1
    subst h1 h1''
    have hsrc : ∀ j u, (nums k ys)[j]? = some u → W.cell? (ad.add j) = some u := fun j u hu => by
      simp only [nums, List.getElem?_map, Option.map_eq_some_iff] at hu
      obtain ⟨y, hy1, rfl⟩ := hu
      rw [← hym] at hC
      exact C_cell hC hy1
    have hkl : (nums k ys).length = m := by rw [nums_len, hym]
    have hr := run_copy_cells (P := P) W t t' ty e g o dLen dCap ad m c (nums k ys) ht hinfo (by rw [hkl]; show m = min m dLen; omega) hsrc
      (fun j hj => by rw [cell_of_row W g _ cur e (0, 0) h3]; simp; omega) (fun j _ => blk_frozen h3 _) (by intro u hu; simp only [nums, List.mem_map] at hu; obtain ⟨q, _, rfl⟩ := hu; rfl)
    obtain ⟨cur', q3, q4, q5⟩ := setCells_row (nums k ys) o W cur h3 (by rw [hkl]; omega)
    obtain ⟨s1, s2, s3, s4⟩ := setCells_same g (nums k ys) o W
    refine ⟨_, by rw [hr, hkl]; rfl, .inr ⟨g, cap, cur', ?_, h2, q3, ?_, h5, by omega, ?_⟩, ⟨s1, s2, s3, by omega, fun i _ hi => setCells_far _ _ i hi⟩, s4⟩
    · simp only [List.length_append, List.length_take, List.length_drop]
      congr 1
      omega
    · simp only [List.length_append, List.length_take, List.length_drop]
      omega
    · have hln : (xs.take o ++ ys ++ xs.drop (o + m)).length = xs.length := by
        simp only [List.length_append, List.length_take, List.length_drop]
        omega
      rw [hln, q5, hkl]
      have hcl : cur.toList.length = cur.size := Array.length_toList
      have e1 : nums k (xs.take o ++ ys ++ xs.drop (o + m)) = (nums k xs).take o ++ nums k ys ++ (nums k xs).drop (o + m) := by simp [nums, List.map_take, List.map_drop]
      rw [e1, ← h7, List.take_take, Nat.min_eq_left (by omega), List.drop_take]
      rw [List.take_append, List.length_append, List.length_take, nums_len, hcl, Nat.min_eq_left (by omega), List.take_of_length_le (by rw [List.length_append, List.length_take, nums_len, hcl]; omega)]
      congr 2
      omega
theorem Buf.head {k : IntKind} {e : Nat} {w : World} {S : Nat → Prop} {A : Option Addr} {n c : Nat} {xs : List Int} (h : Buf k e w S (.slice A n c) xs) (h0 : 0 < xs.length) : ∃ g, A = some ⟨g, 0, none⟩ ∧ S g ∧ g < w.heap.size := by
  rcases h with ⟨_, rfl⟩ | ⟨g, cap, cur, h1, h2, h3, _⟩
  · simp at h0
  · injection h1 with h1
    exact ⟨g, h1, h2, blk_lt h3⟩
/-- A store into it. -/
theorem Buf.set {k : IntKind} {e : Nat} {w : World} {S : Nat → Prop} {g n c : Nat} {xs : List Int} (h : Buf k e w S (.slice (some ⟨g, 0, none⟩) n c) xs) (j : Nat) (hj : j < xs.length) (x : Int) : Buf k e (w.setCell ⟨g, j, none⟩ (.int k x)) S (.slice (some ⟨g, 0, none⟩) n c) (xs.set j x) := by
  rcases h with ⟨_, rfl⟩ | ⟨g', cap, cur, h1, h2, h3, h4, h5, h6, h7⟩
  · simp at hj
  · injection h1 with h1 h1' h1''
    injection h1 with h1
    injection h1 with h1
    subst h1 h1' h1''
    refine .inr ⟨g, c, _, by rw [List.length_set], h2, heap_setCell_same w g j cur e _ h3, by rw [List.length_set]; exact h4, h5, by simpa using h6, ?_⟩
    rw [List.length_set]
    have e1 : nums k (xs.set j x) = (nums k xs).set j (.int k x) := by simp [nums, List.map_set]
    rw [e1, ← h7]
    simp [List.take_set]
/-- One of its cells. -/
theorem Buf.at {k : IntKind} {e : Nat} {w : World} {S : Nat → Prop} {g n c : Nat} {xs : List Int} (h : Buf k e w S (.slice (some ⟨g, 0, none⟩) n c) xs) {j : Nat} (hj : j < xs.length) : ∃ x, xs[j]? = some x ∧ w.cell? ⟨g, j, none⟩ = some (.int k x) ∧ w.frozen? ⟨g, j, none⟩ = false := by
  rcases h with ⟨_, rfl⟩ | ⟨g', cap, cur, h1, h2, h3, h4, h5, h6, h7⟩
  · simp at hj
  · injection h1 with h1 h1' h1''
    injection h1 with h1
    injection h1 with h1
    subst h1 h1' h1''
    have hx := List.getElem?_eq_getElem hj
    have h8 := Buf.cell (cap := c) h3 h7 hx
    have hadd : (⟨g, 0, none⟩ : Addr).add j = ⟨g, j, none⟩ := by unfold Addr.add; split <;> simp_all
    rw [hadd] at h8
    exact ⟨_, hx, h8, blk_frozen h3 j⟩
/-- x[i:], where something is left. -/
theorem slice_tail {P : Program} (t e : TypeId) (kl : IntKind) {i : TypeInfo} (ht : P.underlying t = some (.slice e)) (hi : P.info? e = some i) (hsz : i.size = 1) (g n c : Nat) (j : Int) (h0 : 0 ≤ j) (h1 : j < n) (h2 : n ≤ c) (W : World) :
    (Instr.slice t (.slice (some ⟨g, 0, none⟩) n c) (some (.int kl j)) none none).run P W = .ok (.slice (some ⟨g, j.toNat, none⟩) (n - j.toNat) (c - j.toNat)) W := by
  rw [cut_from t e kl ht hi 1 hsz (some ⟨g, 0, none⟩) n c j h0 (by omega) W, if_neg (by omega)]
  simp only [Option.map_some, Nat.mul_one]
  congr 3
  unfold Addr.add
  split <;> simp_all
section
variable {P : Program} {o : Oper} {a : Act} {K : Act → World → Prop} {Q : Exit → Act → World → Prop}
/-- A builtin of two arguments, as a step. -/
theorem wp_copy {w w1 : World} (s x : Operand) (t t' : TypeId) (ho : o.op = .call { callee := .builtin .copy, args := #[s, x], argTypes := #[t, t'] }) (v u r : Value) (hs : a.eval s = v) (hx : a.eval x = u)
    (hr : (Builtin.copy_ #[t, t'] o.type #[v, u]).run P w = .ok r w1) (h : K (a.put o.dst r) w1) : Oper.wp P o a w K Q := by
  unfold Oper.wp execOp
  simp only [ho, resolve, invoke, builtin, Sem.run_bind, Sem.run_pure, Result.andThen_ok, List.map_toArray, List.map_cons, List.map_nil, hs, hx, hr]
  exact h
end
/-- A literal's row, marked or not. -/
theorem C_litM (k : IntKind) (e : Nat) (w : World) (xs : List Int) (fr : Nat × Nat) (h : xs.length ≤ 9223372036854775807) : (Kd.int k).C (w.alloc (.cells (xs.map (Value.int k)).toArray e fr)) (some ⟨w.heap.size, 0, none⟩) xs.length xs := by
  refine ⟨rfl, h, fun _ => ⟨_, rfl, fun j p hj => ⟨[.int k p], rfl, rfl, fun i u hu => ?_⟩⟩⟩
  obtain ⟨hi, rfl⟩ : i = 0 ∧ u = .int k p := by
    rcases i with _ | i
    · exact ⟨rfl, by simpa using hu.symm⟩
    · simp at hu
  subst hi
  show (w.alloc _).cell? (Addr.add _ (j * 1 + 0)) = _
  rw [Nat.mul_one, Nat.add_zero]
  have hadd : (⟨w.heap.size, 0, none⟩ : Addr).add j = ⟨w.heap.size, j, none⟩ := by unfold Addr.add; split <;> simp_all
  rw [hadd, cell_of_row _ w.heap.size j _ e fr (heap_alloc_new _ _)]
  simp [hj]
/-- x[:j:j]. -/
theorem slice_cap {P : Program} (t e : TypeId) (kh km : IntKind) {i : TypeInfo} (ht : P.underlying t = some (.slice e)) (hi : P.info? e = some i) (A : Option Addr) (n c : Nat) (j : Int) (h0 : 0 ≤ j) (h1 : j ≤ c) (W : World) :
    (Instr.slice t (.slice A n c) none (some (.int kh j)) (some (.int km j))).run P W = .ok (.slice A j.toNat j.toNat) W := by
  have hel : P.elem t = e := by simp [Program.elem, ht]
  have hu : P.underlying t = some (.slice (P.elem t)) := by rw [hel]; exact ht
  have ha : (A.map fun x => x.add 0) = A := by cases A <;> simp [Addr.add]
  rw [run_slice_hm W t A n c hu kh km j j h0 (Int.le_refl _) h1, hel]
  simp [sizeOf, typeInfo, hi, sliced, Result.andThen, ha]
end Go.Proofs.Ytfcpnjoiloahcaa.B
namespace Go.Proofs.Ytfcpnjoiloahcaa.B
open Go.RowKit Go.Proofs.YtfcpnjoiloahcaaW.PrintWords Go.Proofs.YtfcpnjoiloahcaaW.PrintLast Go.Proofs.YtfcpnjoiloahcaaW.PrintMore
set_option linter.unusedVariables false
set_option linter.unusedSimpArgs false
/-- A store into a row of one's own. -/
theorem R_set {k : IntKind} {e : Nat} {w : World} {base : Nat} {ok : Nat → Prop} {g n c : Nat} {xs : List Int} (h : (Kd.int k).R e w base ok (.slice (some ⟨g, 0, none⟩) n c) xs) (j : Nat) (hj : j < xs.length) (x : Int) :
    (Kd.int k).R e (w.setCell ⟨g, j, none⟩ (.int k x)) base ok (.slice (some ⟨g, 0, none⟩) n c) (xs.set j x) := by
  have hok := h.1
  obtain ⟨h1, h2⟩ := Kd.own_of_R h
  refine Kd.R_of_own ⟨by simp [encs], ?_⟩ hok
  rcases h2 with ⟨h2, _⟩ | ⟨g', cap, cur, e1, hb, hh, hn, hc, hs, ht⟩
  · simp at h2
  · injection e1 with e1 e2 e3
    injection e1 with e1
    injection e1 with e1
    subst e1 e2 e3
    refine .inr ⟨g, c, _, by rw [List.length_set], hb, heap_setCell_same w g j cur e _ hh, by rw [List.length_set]; exact hn, hc, by simpa using hs, ?_⟩
    rw [List.length_set]
    have e1 : encs (Value.int k) (xs.set j x) = (encs (Value.int k) xs).set j (.int k x) := by simp [encs, List.map_set]
    rw [e1, ← ht]
    simp [List.take_set]
theorem R_head0 {k : IntKind} {e : Nat} {w : World} {base : Nat} {ok : Nat → Prop} {A : Option Addr} {n c : Nat} {xs : List Int} (h : (Kd.int k).R e w base ok (.slice A n c) xs) (h0 : 0 < xs.length) : ∃ g, A = some ⟨g, 0, none⟩ ∧ base ≤ g ∧ g < w.heap.size := by
  obtain ⟨g, h1, h2, h3⟩ := (Buf.of_R h).head h0
  exact ⟨g, h1, h2.2.1, h3⟩
theorem R_at_ {k : IntKind} {e : Nat} {w : World} {base : Nat} {ok : Nat → Prop} {g n c : Nat} {xs : List Int} (h : (Kd.int k).R e w base ok (.slice (some ⟨g, 0, none⟩) n c) xs) {j : Nat} (hj : j < xs.length) : ∃ x, xs[j]? = some x ∧ w.cell? ⟨g, j, none⟩ = some (.int k x) ∧ w.frozen? ⟨g, j, none⟩ = false := (Buf.of_R h).at hj
end Go.Proofs.Ytfcpnjoiloahcaa.B
namespace Go.Proofs.Ytfcpnjoiloahcaa.B
open Go.RowKit Go.Proofs.YtfcpnjoiloahcaaW.PrintWords Go.Proofs.YtfcpnjoiloahcaaW.PrintLast Go.Proofs.YtfcpnjoiloahcaaW.PrintMore
set_option linter.unusedVariables false
set_option linter.unusedSimpArgs false
/-- The row itself, of whole numbers. -/
theorem R_row {k : IntKind} {e : Nat} {w : World} {base : Nat} {ok : Nat → Prop} {A : Option Addr} {n c : Nat} {xs : List Int} (h : (Kd.int k).R e w base ok (.slice A n c) xs) (hx : 0 < xs.length) :
    ∃ (g : Nat) (cur : Array Value), A = some ⟨g, 0, none⟩ ∧ w.heap[g]? = some (.cells cur e (0, 0)) ∧ base ≤ g ∧ g < w.heap.size ∧ xs.length ≤ cur.size ∧ ∀ (j : Nat) (x : Int), xs[j]? = some x → cur[j]? = some (.int k x) := by
  obtain ⟨A', c', he, hl, hC⟩ := Kd.R_reads h
  injection he with he1 he2 he3
  subst he1
  obtain ⟨inner, ho⟩ := Kd.R_own h
  rcases ho.2 with ⟨h1, h2⟩ | ⟨g, cap, cur, h1, hb, hg, hn, hm, hsz, htk⟩
  · omega
  · injection h1 with h1 h1' h1''
    refine ⟨g, cur, h1, hg, hb, blk_lt hg, ?_, fun j x hj => ?_⟩
    · have hs1 : (Kd.int k).sz = 1 := rfl
      rw [hs1] at hsz
      omega
    · rw [h1] at hC
      have h2 := C_cell hC hj
      have hadd : (⟨g, 0, none⟩ : Addr).add j = ⟨g, j, none⟩ := by unfold Addr.add; split <;> simp_all
      rw [hadd, cell_of_row w g j cur e (0, 0) hg] at h2
      exact h2
/-- An element of a row of one's own: its cells, and what they own. -/
theorem R_get {α : Type} {d : Kd α} {e : Nat} {w : World} {base : Nat} {ok : Nat → Prop} {A : Option Addr} {n c : Nat} {xs : List α} (h : d.R e w base ok (.slice A n c) xs) {j : Nat} {x : α} (hj : xs[j]? = some x) :
    ∃ (ad : Addr) (cs : List Value), A = some ad ∧ ok ad.block ∧ ad.block < w.heap.size ∧ cs.length = d.sz ∧ d.M w base (fun k => ok k ∧ k ≠ ad.block ∧ k < w.heap.size) x cs ∧ ∀ i u, cs[i]? = some u → w.cell? (ad.add (j * d.sz + i)) = some u := by
  obtain ⟨h0, inner, ho, hr⟩ := h
  have hjl := (List.getElem?_eq_some_iff.1 hj).1
  rcases ho.2 with ⟨h1, h2⟩ | ⟨g, cap, cur, h1, h2, h3, h4, h5, h6, h7⟩
  · omega
  · injection h1 with h1 _ _
    subst h1
    have hM := hr.2 j x hj
    refine ⟨⟨g, 0, none⟩, _, rfl, h0 g rfl, blk_lt h3, d.K_len (d.K_of_M hM), d.M_mono (fun k hk => ⟨hk.1.1, fun e => hk.1.2 (by rw [e]; rfl), hk.2.2.1⟩) (d.M_bound hM), fun i u hu => ?_⟩
    have hi := (List.getElem?_eq_some_iff.1 hu).1
    rw [d.K_len (d.K_of_M hM)] at hi
    refine ho.cells (g := g) rfl _ u ?_
    rw [List.getElem?_take, if_pos hi, List.getElem?_drop] at hu
    exact hu
/-- append(v, ys...): what it leaves. -/
theorem run_append_rows {P : Program} {W : World} {k : IntKind} (t ty e : TypeId) (bytes base : Nat) (ht : P.underlying t = some (.slice e)) (hinfo : (P.info? e).map (fun i => (i.zero, i.size, i.bytes)) = some (some (.int k 0), 1, bytes)) (hb0 : 0 < bytes)
    (v : Value) (xs ys : List Int) (A : Option Addr) (m c : Nat) (HO : (Kd.int k).R e W base (fun _ => True) v xs) (HC : (Kd.int k).C W A m ys) (hbase : base ≤ W.heap.size) (hl : (xs.length + m) * bytes ≤ 140737488355328) :
    ∃ v1 w1, (Builtin.append_ #[t, t] ty #[v, .slice A m c]).run P W = .ok v1 w1 ∧ (Kd.int k).R e w1 base (fun _ => True) v1 (xs ++ ys) ∧ W.grownBy w1 v.ownBlock ∧ (v1.ownBlock = v.ownBlock ∨ v1.ownBlock = some W.heap.size) := by
  obtain ⟨i0, hi, hzz⟩ := Option.map_eq_some_iff.1 hinfo
  simp only [Prod.mk.injEq] at hzz
  obtain ⟨hz0, hz1, hz2⟩ := hzz
  have HR := Kd.reads_of_C (d := (0 : Int)) HC
  have hown : W.ownsRow base e 1 v xs.length (nums k xs) := Kd.own_of_R HO
  have hm : ys.length = m := HR.1
  have hlen : xs.length + m ≤ 140737488355328 := Nat.le_trans (Nat.le_mul_of_pos_right _ hb0) hl
  rcases A with _ | ad
  · have h0 : m = 0 := by
      rcases Nat.eq_zero_or_pos m with h0 | h0
      · exact h0
      · obtain ⟨ad, h, _⟩ := HR.2.2 h0
        cases h
    subst h0
    obtain rfl : ys = [] := List.eq_nil_of_length_eq_zero hm
    refine ⟨v, W, ?_, by simpa using HO, World.grownBy.refl W _, .inl rfl⟩
    rcases hown.2 with ⟨rfl, hn⟩ | ⟨g, cap, cur, rfl, _, _, hnc, _⟩
    · simp [Builtin.append_, run_underlying ht, sizeOf, typeInfo, hi, Builtin.lenOf, Builtin.firstCells]
    · simp [Builtin.append_, run_underlying ht, sizeOf, typeInfo, hi, Builtin.lenOf, Builtin.firstCells, hnc, storeCells]
  · have hcells : ∀ j u, (nums k ys)[j]? = some u → W.cell? (ad.add j) = some u := by
      intro j u hu
      simp only [nums, List.getElem?_map, Option.map_eq_some_iff] at hu
      obtain ⟨y, hy1, rfl⟩ := hu
      rw [← hm] at HC
      exact C_cell HC hy1
    obtain ⟨v1, w1, hr, h2, h3, _, h5⟩ := run_append_own_at (P := P) W base t ty e i0 (.int k 0) 1 bytes ht hi hz0 hz1 hz2 rfl (by omega) v xs.length (nums k xs) hown ad m c (nums k ys) (by simp [nums, hm]) hcells
      (by intro u hu; simp only [nums, List.mem_map] at hu; obtain ⟨q, _, rfl⟩ := hu; rfl) (by simp only [maxLen]; omega) hl hbase
    refine ⟨v1, w1, hr, Kd.R_of_own ?_ (fun _ _ => trivial), h3, h5⟩
    have : encs (Value.int k) (xs ++ ys) = nums k xs ++ nums k ys := by simp [encs, nums]
    rw [this, List.length_append, hm]
    exact h2
theorem wp_append {P : Program} {o : Oper} {a : Act} {K : Act → World → Prop} {Q : Exit → Act → World → Prop} {w w1 : World} (s x : Operand) (t t' : TypeId) (ho : o.op = .call { callee := .builtin .append, args := #[s, x], argTypes := #[t, t'] }) (v u r : Value) (hs : a.eval s = v) (hx : a.eval x = u)
    (hr : (Builtin.append_ #[t, t'] o.type #[v, u]).run P w = .ok r w1) (h : K (a.put o.dst r) w1) : Oper.wp P o a w K Q := by
  unfold Oper.wp execOp
  simp only [ho, resolve, invoke, builtin, Sem.run_bind, Sem.run_pure, Result.andThen_ok, List.map_toArray, List.map_cons, List.map_nil, hs, hx, hr]
  exact h
/-- append(v, x) as a step; the world is W with the variadic's box. -/
theorem R_append_wp {P : Program} {o : Oper} {a : Act} {Q : Exit → Act → World → Prop} {K : Act → World → Prop} {α : Type} (d : Kd α) {W : World} (base : Nat) (s x : Operand) (t e : TypeId) (z : Value) (bytes : Nat)
    (ho : o.op = .call { callee := .builtin .append, args := #[s, x], argTypes := #[t, t] })
    (ht : P.underlying t = some (.slice e)) (hinfo : (P.info? e).map (fun i => (i.zero, i.size, i.bytes)) = some (some z, d.sz, bytes)) (hz : z.cells.size = d.sz) (hs0 : 0 < d.sz) (hb0 : 0 < bytes)
    (v : Value) (xs : List α) (p : α) (cs : List Value) (ok okp : Nat → Prop) (hs : a.eval s = v) (hx : a.eval x = .slice (some ⟨W.heap.size, 0, none⟩) 1 1) (hp : d.M W base okp p cs) (hokp : ∀ k, okp k → ok k ∧ some k ≠ v.ownBlock) (hfresh : ∀ k, W.heap.size ≤ k → ok k)
    (HO : d.R e W base ok v xs) (hbase : base ≤ W.heap.size) (hl : (xs.length + 1) * bytes ≤ 140737488355328)
    (h : ∀ v1 w1, d.R e w1 base ok v1 (xs ++ [p]) → W.grownBy w1 v.ownBlock → (W.alloc (.cells cs.toArray e)).grownBy w1 v.ownBlock → (v1.ownBlock = v.ownBlock ∨ ∃ b, v1.ownBlock = some b ∧ W.heap.size ≤ b) → K (a.put o.dst v1) w1) :
    Oper.wp P o a (W.alloc (.cells cs.toArray e)) K Q := by
  obtain ⟨h0, inner, hown, hr⟩ := HO
  obtain ⟨i0, hi, hzz⟩ := Option.map_eq_some_iff.1 hinfo
  simp only [Prod.mk.injEq] at hzz
  obtain ⟨hz0, hz1, hz2⟩ := hzz
  have hlen : xs.length + 1 ≤ 140737488355328 := Nat.le_trans (Nat.le_mul_of_pos_right _ hb0) hl
  have hcl := d.K_len (d.K_of_M hp)
  obtain ⟨v1, w1, hr1, hown1, hg, _, hat⟩ := run_append_own_at (P := P) (W.alloc (.cells cs.toArray e)) base t o.type e i0 z d.sz bytes ht hi hz0 hz1 hz2 hz hs0 v xs.length inner (hown.alloc _) ⟨W.heap.size, 0, none⟩ 1 1 cs (by rw [hcl]; simp)
    (by simpa using World.news_of_block (cs := cs.toArray) (t := e) (fr := (0, 0)) (heap_alloc_new W (.cells cs.toArray e))) (d.K_one (d.K_of_M hp)) (by simp only [maxLen]; omega) hl (by simp; omega)
  have hg' : W.grownBy w1 v.ownBlock := World.grownBy.trans (World.grownBy_alloc W _ _) hg
  have hat' : v1.ownBlock = v.ownBlock ∨ ∃ b, v1.ownBlock = some b ∧ W.heap.size ≤ b := by
    rcases hat with hat | hat
    · exact .inl hat
    · exact .inr ⟨_, hat, by simp⟩
  unfold Oper.wp execOp
  simp only [ho, resolve, invoke, builtin, Sem.run_bind, Sem.run_pure, Result.andThen_ok, List.map_toArray, List.map_cons, List.map_nil, hs, hx, hr1]
  exact h v1 w1 (Kd.R_appended h0 hr hp hokp hfresh hown1 hg' hat') hg' hg hat'
end Go.Proofs.Ytfcpnjoiloahcaa.B
namespace Go.Proofs.Ytfcpnjoiloahcaa.S
open Go.RowKit Go.Proofs.YtfcpnjoiloahcaaW.PrintWords Go.Proofs.Ytfcpnjoiloahcaa.B
set_option linter.unusedVariables false
set_option linter.unusedSimpArgs false
theorem str_inj : ∀ (a b : List Int), By a → By b → strOfNums a = strOfNums b → a = b := by
  intro a b ha hb h
  have h1 : a.map (fun n => UInt8.ofNat n.toNat) = b.map (fun n => UInt8.ofNat n.toNat) := by
    unfold strOfNums at h
    injection h with h
    have := congrArg Array.toList h
    simpa using this
  clear h
  induction a generalizing b with
  | nil => cases b with
    | nil => rfl
    | cons y b => simp at h1
  | cons x a ih => cases b with
    | nil => simp at h1
    | cons y b =>
      simp only [List.map_cons, List.cons.injEq] at h1
      have hx := ha x List.mem_cons_self
      have hy := hb y List.mem_cons_self
      have e : x = y := by
        have := congrArg UInt8.toNat h1.1
        simp only [UInt8.toNat_ofNat'] at this
        omega
      rw [e, ih b (fun z hz => ha z (List.mem_cons_of_mem _ hz)) (fun z hz => hb z (List.mem_cons_of_mem _ hz)) h1.2]

theorem str_beq (a b : List Int) (ha : By a) (hb : By b) : ((strOfNums a).toList == (strOfNums b).toList) = (a == b) := by
  rw [Bool.eq_iff_iff, beq_iff_eq, beq_iff_eq, ByteArray.toList_eq, ByteArray.toList_eq]
  exact ⟨fun h => str_inj a b ha hb (by cases hx : strOfNums a; cases hy : strOfNums b; rw [hx, hy] at h; congr 1; exact Array.toList_inj.1 h), fun h => by rw [h]⟩
theorem str_append (a b : List Int) : strOfNums a ++ strOfNums b = strOfNums (a ++ b) := by
  apply ByteArray.ext
  rw [ByteArray.data_append]
  simp [strOfNums]
theorem str_fits (a b : List Int) (h : a.length + b.length ≤ 9223372036854775807) : ¬ (9223372036854775807 < (strOfNums a).size + (strOfNums b).size) := by
  rw [strOfNums_size, strOfNums_size]; omega
theorem wrI64 (n : Int) (h0 : -9223372036854775808 ≤ n) (h1 : n ≤ 9223372036854775807) : IntKind.i64.wrap n = n := by
  rw [IntKind.wrap_i64]; omega
theorem wrU64 (n : Int) (h0 : 0 ≤ n) (h1 : n < 18446744073709551616) : IntKind.u64.wrap n = n := by
  rw [IntKind.wrap_u64]; omega
theorem wrU64_range (n : Int) : 0 ≤ IntKind.u64.wrap n ∧ IntKind.u64.wrap n < 18446744073709551616 := by
  rw [IntKind.wrap_u64]; omega
theorem tmod_range {a b : Int} (h0 : 0 ≤ a) (hb : 0 < b) : 0 ≤ a.tmod b ∧ a.tmod b < b := by
  rw [Int.tmod_eq_emod_of_nonneg h0]
  exact ⟨Int.emod_nonneg _ (by omega), Int.emod_lt_of_pos _ hb⟩
end Go.Proofs.Ytfcpnjoiloahcaa.S
namespace Go.Proofs.Ytfcpnjoiloahcaa.R
open Go Go.RowKit Go.Proofs.Ytfcpnjoiloahcaa.B
set_option linter.unusedVariables false
set_option linter.unusedSimpArgs false

/-- A world to come: new blocks at most. -/
def Fut (w w' : World) : Prop := Below w.heap.size w w'
theorem Fut.refl (w : World) : Fut w w := Below.refl _ _
theorem Fut.trans {a b c : World} (h : Fut a b) (k : Fut b c) : Fut a c := Below.trans h (Below.mono k h.size)
theorem Fut.drew (w : World) : Fut w w.drew := (Below.refl _ _).drew
theorem Fut.below {a b : World} (h : Fut a b) : Below a.heap.size a b := h
theorem Fut.of {a b : World} (h : Below a.heap.size a b) : Fut a b := h

section
variable {P : Program} {ops : Array Oper} {Q : Exit → Act → World → Prop} {md : Region.Mode} {R : World → World → Prop}

/-- Whatever order is picked from here on, and each step leads to a world to come. -/
def wpAnyR (P : Program) (md : Region.Mode) (ops : Array Oper) (Q : Exit → Act → World → Prop) (R : World → World → Prop) : Nat → Array Bool → Act → World → Prop
  | 0, listed, a, w => Region.ready md ops listed = [] ∧ Q .normal a w
  | fuel + 1, listed, a, w =>
    (Region.ready md ops listed = [] → Q .normal a w) ∧
    ∀ i ∈ Region.ready md ops listed, wpOp P ops Q i (fun a' w' => R w w' ∧ wpAnyR P md ops Q R fuel (listed.setIfInBounds i true) a' w') a w

theorem wpAny_of_R : ∀ (fuel : Nat) (listed : Array Bool) (a : Act) (w : World), wpAnyR P md ops Q R fuel listed a w → wpAny P md ops Q fuel listed a w
  | 0, _, _, _, h => h
  | fuel + 1, _, _, _, h => ⟨h.1, fun i hi => wpOp_mono (fun a' w' h' => wpAny_of_R fuel _ a' w' h'.2) (h.2 i hi)⟩

theorem yieldsIf_mono {S S' : World → Prop} {o : Oper} {v : Value} {a : Act} (h : YieldsIf P ops S o v a) (hs : ∀ w, S' w → S w) : YieldsIf P ops S' o v a :=
  h.imp (fun ⟨hw, hv⟩ => ⟨hw, fun w hw' => hv w (hs w hw')⟩) id

theorem wpAnyR_first (hrefl : ∀ w, R w w) (htr : ∀ a b c, R a b → R b c → R a c) {i : Nat} {oi : Oper} {v : Value} (hi : ops[i]? = some oi) (hsel : ∀ (j : Nat) (o : Oper) cs b, ops[j]? = some o → o.op ≠ .select cs b)
    (hQ : ∀ c a w, Q (.panic c) (a.put oi.dst v) w → Q (.panic c) a w) :
    ∀ (fuel : Nat) (listed : Array Bool) (a : Act) (w : World),
      (∀ j oj, ops[j]? = some oj → j ≠ i → listed.getD j true = false → (∀ e ∈ oj.after, Region.binds md e = true → e.on ≠ i) → oi.apart ops oj = true) →
      i ∈ Region.ready md ops listed → YieldsIf P ops (R w) oi v a →
      wpAnyR P md ops Q R fuel (listed.setIfInBounds i true) (a.put oi.dst v) w → wpAnyR P md ops Q R (fuel + 1) listed a w := by
  intro fuel
  induction fuel with
  | zero =>
    intro listed a w _ hr hy H
    refine ⟨fun h => (by rw [h] at hr; cases hr), fun j hj => ?_⟩
    by_cases hji : j = i
    · subst hji; exact hy.wpOp hi (hrefl w) ⟨hrefl w, H⟩
    · have := ready_mono hj hji
      rw [H.1] at this
      cases this
  | succ fuel ih =>
    intro listed a w hfree hr hy H
    refine ⟨fun h => (by rw [h] at hr; cases hr), fun j hj => ?_⟩
    by_cases hji : j = i
    · subst hji; exact hy.wpOp hi (hrefl w) ⟨hrefl w, H⟩
    · have h1 := H.2 j (ready_mono hj hji)
      obtain ⟨hjun, oj, hoj, hall⟩ := mem_ready.1 hj
      have hnot : ∀ e ∈ oj.after, Region.binds md e = true → e.on ≠ i := fun e he hb heq => by
        have h1 := hall e he hb
        have h0 := (mem_ready.1 hr).1
        rw [heq] at h1
        rcases Nat.lt_or_ge i listed.size with h' | h'
        · simp [h'] at h0 h1; rw [h0] at h1; cases h1
        · simp [Array.getElem?_eq_none h'] at h1
      have h2 := wpOp_putIf hoj (hfree j oj hoj hji hjun hnot) (fun cs b => hsel i oi cs b hi) (fun cs b => hsel j oj cs b hoj) hQ hy h1
      have hfree' : ∀ k ok, ops[k]? = some ok → k ≠ i → (listed.setIfInBounds j true).getD k true = false →
          (∀ e ∈ ok.after, Region.binds md e = true → e.on ≠ i) → oi.apart ops ok = true := fun k ok hk hki hun hno => by
        refine hfree k ok hk hki ?_ hno
        by_cases hjk : j = k
        · subst hjk; exact hjun
        · rw [getD_set_ne true hjk] at hun; exact hun
      refine wpOp_mono (fun a' w' h3 => ⟨h3.2.1, ih (listed.setIfInBounds j true) a' w' hfree' (ready_mono hr (Ne.symm hji)) (yieldsIf_mono h3.1 (fun w'' hw'' => htr _ _ _ h3.2.1 hw'')) ?_⟩) h2
      rw [Array.setIfInBounds_comm _ _ hji]
      exact h3.2.2
end

/-! The moves, with R = Fut. -/
section
variable {P : Program} {ops : Array Oper} {Q : Exit → Act → World → Prop} {fuel : Nat} {listed listed' : Array Bool} {a : Act} {w : World}
/-- The state of a walk through a region: what is listed, how much is left. -/
def Rg (P : Program) (ops : Array Oper) (Q : Exit → Act → World → Prop) (fuel : Nat) (listed : Array Bool) (a : Act) (w : World) : Prop := wpAnyR P .any ops Q Fut fuel listed a w
theorem rg_start {id : Nat} (hm : P.follows .mixedOrders = true) {n : Nat} {l : Array Bool} (hn : ops.size = n) (hl : Array.replicate n false = l)
    (h : Rg P ops Q n l a w.drew) : (Code.region id ops true).wp P Q a w := by
  subst hn
  subst hl
  exact wp_region_any hm (wpAny_of_R _ _ _ _ h)
theorem rg_take (i : Nat) {oi : Oper} {v : Value} {a' : Act} (hi0 : ops.toList[i]? = some oi) (hc : (Region.noSelect ops && Region.free .any ops listed i && (Region.ready .any ops listed).contains i) = true)
    (hl : listed.setIfInBounds i true = listed')
    (hQ : ∀ c a w, Q (.panic c) (a.put oi.dst v) w → Q (.panic c) a w) (hw : Region.wanted oi (yielded ops a.tmps) = true) (hy : ∀ w', Fut w w' → (execOp a.eval oi).run P w' = .ok (.value v) w')
    (ha : a.put oi.dst v = a') (h : Rg P ops Q fuel listed' a' w) : Rg P ops Q (fuel + 1) listed a w := by
  have hi : ops[i]? = some oi := by rw [← hi0]; simp
  subst hl
  subst ha
  simp only [Bool.and_eq_true] at hc
  exact wpAnyR_first (R := Fut) Fut.refl (fun _ _ _ => Fut.trans) hi (Region.noSelect_spec hc.1.1) hQ fuel listed a w (Region.free_spec hi hc.1.2) (by simpa using hc.2) (.inl ⟨hw, hy⟩) h
/-- It isn't wanted. -/
theorem rg_skip (i : Nat) {oi : Oper} {a' : Act} (hi0 : ops.toList[i]? = some oi) (hc : (Region.noSelect ops && Region.free .any ops listed i && (Region.ready .any ops listed).contains i) = true)
    (hl : listed.setIfInBounds i true = listed')
    (hQ : ∀ c a w, Q (.panic c) (a.put oi.dst undef) w → Q (.panic c) a w) (hw : Region.wanted oi (yielded ops a.tmps) = false)
    (ha : a.put oi.dst undef = a') (h : Rg P ops Q fuel listed' a' w) : Rg P ops Q (fuel + 1) listed a w := by
  have hi : ops[i]? = some oi := by rw [← hi0]; simp
  subst hl
  subst ha
  simp only [Bool.and_eq_true] at hc
  exact wpAnyR_first (R := Fut) Fut.refl (fun _ _ _ => Fut.trans) hi (Region.noSelect_spec hc.1.1) hQ fuel listed a w (Region.free_spec hi hc.1.2) (by simpa using hc.2) (.inr ⟨hw, rfl⟩) h
/-- It alone may come up. -/
theorem rg_step (i : Nat) {oi : Oper} (hi0 : ops.toList[i]? = some oi) (hr : (Region.ready .any ops listed == [i]) = true) (hl : listed.setIfInBounds i true = listed') (hw : Region.wanted oi (yielded ops a.tmps) = true)
    (h : ∀ K' : Act → World → Prop, Shut (∀ a' w', Fut w w' → Rg P ops Q fuel listed' a' w' → K' a' w') → Oper.wp P oi a w K' Q) : Rg P ops Q (fuel + 1) listed a w := by
  have hi : ops[i]? = some oi := by rw [← hi0]; simp
  subst hl
  have hr' : Region.ready .any ops listed = [i] := by simpa using hr
  refine ⟨fun h0 => (by rw [h0] at hr'; cases hr'), ?_⟩
  rw [hr']
  intro j hj
  rw [List.mem_singleton] at hj
  subst hj
  refine wpOp_step hi (fun K' hK => ?_)
  rw [if_pos hw]
  exact h K' (fun a' w' h1 h2 => hK a' w' ⟨h1, h2⟩)
theorem rg_done (hr : (Region.ready .any ops listed == []) = true) (h : Q .normal a w) : Rg P ops Q fuel listed a w := by
  have hr' : Region.ready .any ops listed = [] := by simpa using hr
  cases fuel with
  | zero => exact ⟨hr', h⟩
  | succ n => exact ⟨fun _ => h, (by rw [hr']; intro j hj; cases hj)⟩
end
end Go.Proofs.Ytfcpnjoiloahcaa.R
namespace Go.Proofs.Ytfcpnjoiloahcaa.R
open Go Go.RowKit Go.Proofs.Ytfcpnjoiloahcaa.B
set_option linter.unusedVariables false
set_option linter.unusedSimpArgs false
/-! The moves, with R = Keep S: the blocks of S may be turned. -/
section
variable {P : Program} {ops : Array Oper} {Q : Exit → Act → World → Prop} {fuel : Nat} {listed listed' : Array Bool} {a : Act} {w : World} {S : Nat → Prop}
/-- The state of a walk through a region: what is listed, how much is left. -/
def Rk (S : Nat → Prop) (P : Program) (ops : Array Oper) (Q : Exit → Act → World → Prop) (fuel : Nat) (listed : Array Bool) (a : Act) (w : World) : Prop := wpAnyR P .any ops Q (Keep S) fuel listed a w
theorem rk_start (S : Nat → Prop) {id : Nat} (hm : P.follows .mixedOrders = true) {n : Nat} {l : Array Bool} (hn : ops.size = n) (hl : Array.replicate n false = l)
    (h : Rk S P ops Q n l a w.drew) : (Code.region id ops true).wp P Q a w := by
  subst hn
  subst hl
  exact wp_region_any hm (wpAny_of_R _ _ _ _ h)
theorem rk_take (i : Nat) {oi : Oper} {v : Value} {a' : Act} (hi0 : ops.toList[i]? = some oi) (hc : (Region.noSelect ops && Region.free .any ops listed i && (Region.ready .any ops listed).contains i) = true)
    (hl : listed.setIfInBounds i true = listed')
    (hQ : ∀ c a w, Q (.panic c) (a.put oi.dst v) w → Q (.panic c) a w) (hw : Region.wanted oi (yielded ops a.tmps) = true) (hy : ∀ w', Keep S w w' → (execOp a.eval oi).run P w' = .ok (.value v) w')
    (ha : a.put oi.dst v = a') (h : Rk S P ops Q fuel listed' a' w) : Rk S P ops Q (fuel + 1) listed a w := by
  have hi : ops[i]? = some oi := by rw [← hi0]; simp
  subst hl
  subst ha
  simp only [Bool.and_eq_true] at hc
  exact wpAnyR_first (R := Keep S) (Keep.refl S) (fun _ _ _ => Keep.trans) hi (Region.noSelect_spec hc.1.1) hQ fuel listed a w (Region.free_spec hi hc.1.2) (by simpa using hc.2) (.inl ⟨hw, hy⟩) h
/-- It isn't wanted. -/
theorem rk_skip (i : Nat) {oi : Oper} {a' : Act} (hi0 : ops.toList[i]? = some oi) (hc : (Region.noSelect ops && Region.free .any ops listed i && (Region.ready .any ops listed).contains i) = true)
    (hl : listed.setIfInBounds i true = listed')
    (hQ : ∀ c a w, Q (.panic c) (a.put oi.dst undef) w → Q (.panic c) a w) (hw : Region.wanted oi (yielded ops a.tmps) = false)
    (ha : a.put oi.dst undef = a') (h : Rk S P ops Q fuel listed' a' w) : Rk S P ops Q (fuel + 1) listed a w := by
  have hi : ops[i]? = some oi := by rw [← hi0]; simp
  subst hl
  subst ha
  simp only [Bool.and_eq_true] at hc
  exact wpAnyR_first (R := Keep S) (Keep.refl S) (fun _ _ _ => Keep.trans) hi (Region.noSelect_spec hc.1.1) hQ fuel listed a w (Region.free_spec hi hc.1.2) (by simpa using hc.2) (.inr ⟨hw, rfl⟩) h
/-- It alone may come up. -/
theorem rk_step (i : Nat) {oi : Oper} (hi0 : ops.toList[i]? = some oi) (hr : (Region.ready .any ops listed == [i]) = true) (hl : listed.setIfInBounds i true = listed') (hw : Region.wanted oi (yielded ops a.tmps) = true)
    (h : ∀ K' : Act → World → Prop, Shut (∀ a' w', Keep S w w' → Rk S P ops Q fuel listed' a' w' → K' a' w') → Oper.wp P oi a w K' Q) : Rk S P ops Q (fuel + 1) listed a w := by
  have hi : ops[i]? = some oi := by rw [← hi0]; simp
  subst hl
  have hr' : Region.ready .any ops listed = [i] := by simpa using hr
  refine ⟨fun h0 => (by rw [h0] at hr'; cases hr'), ?_⟩
  rw [hr']
  intro j hj
  rw [List.mem_singleton] at hj
  subst hj
  refine wpOp_step hi (fun K' hK => ?_)
  rw [if_pos hw]
  exact h K' (fun a' w' h1 h2 => hK a' w' ⟨h1, h2⟩)
theorem rk_done (hr : (Region.ready .any ops listed == []) = true) (h : Q .normal a w) : Rk S P ops Q fuel listed a w := by
  have hr' : Region.ready .any ops listed = [] := by simpa using hr
  cases fuel with
  | zero => exact ⟨hr', h⟩
  | succ n => exact ⟨fun _ => h, (by rw [hr']; intro j hj; cases hj)⟩
end
end Go.Proofs.Ytfcpnjoiloahcaa.R
namespace Go.Proofs.Ytfcpnjoiloahcaa.Ta
open Go.RowKit Go.Proofs.YtfcpnjoiloahcaaW.PrintWords Go.Proofs.YtfcpnjoiloahcaaW.PrintLast Go.Proofs.YtfcpnjoiloahcaaW.PrintMore Go.Proofs.Ytfcpnjoiloahcaa.B Go.Proofs.Ytfcpnjoiloahcaa.R Go.Proofs.Ytfcpnjoiloahcaa.S
set_option linter.unusedVariables false
set_option linter.unusedSimpArgs false
abbrev kI : Kd Int := Kd.int .i64
/-- Numbers that rise. -/
def Inc (l : List Int) : Prop := l.Pairwise (· < ·)
theorem Inc.at {l : List Int} (h : Inc l) {i j : Nat} {a b : Int} (hij : i < j) (ha : l[i]? = some a) (hb : l[j]? = some b) : a < b := by
  obtain ⟨h1, rfl⟩ := List.getElem?_eq_some_iff.1 ha
  obtain ⟨h2, rfl⟩ := List.getElem?_eq_some_iff.1 hb
  exact List.pairwise_iff_getElem.1 h i j h1 h2 hij
/-- Where x stands, or would. -/
def Place (l : List Int) (x : Int) (i : Nat) : Prop := i ≤ l.length ∧ (∀ t a, t < i → l[t]? = some a → a < x) ∧ (∀ t a, i ≤ t → l[t]? = some a → x ≤ a)
theorem Place.mem {l : List Int} {x : Int} {i : Nat} (hr : Inc l) (h : Place l x i) : x ∈ l ↔ l[i]? = some x := by
  constructor
  · intro hx
    obtain ⟨t, ht⟩ := List.getElem?_of_mem hx
    rcases Nat.lt_or_ge t i with h1 | h1
    · exact absurd (h.2.1 t x h1 ht) (by omega)
    · rcases Nat.lt_or_ge i t with h3 | h3
      · have hi : i < l.length := by have := (List.getElem?_eq_some_iff.1 ht).1; omega
        have h4 := hr.at h3 (List.getElem?_eq_getElem hi) ht
        have h5 := h.2.2 i _ (Nat.le_refl _) (List.getElem?_eq_getElem hi)
        omega
      · have e : t = i := by omega
        rw [← e]; exact ht
  · exact List.mem_of_getElem?
theorem cnan_calls (x : Int) (w : World) : Calls Try.prog 77 #[.int .i64 x] w fun e w' => e = .returned (.bool false) ∧ w' = w := by
  go_enter Try.func77, Try.ntmps77
  go_wp2
  go_ret
  exact ⟨by simp, rfl⟩
theorem snan_calls (x : Int) (w : World) : Calls Try.prog 72 #[.int .i64 x] w fun e w' => e = .returned (.bool false) ∧ w' = w := by
  go_enter Try.func72, Try.ntmps72
  go_wp2
  go_ret
  exact ⟨by simp, rfl⟩
theorem less_calls (x y : Int) (b : Bool) (hb : decide (x < y) = b) (w : World) : Calls Try.prog 71 #[.int .i64 x, .int .i64 y] w fun e w' => e = .returned (.bool b) ∧ w' = w := by
  go_enter Try.func71, Try.ntmps71
  go_wp2_with (first | (go_at_call 77; refine (cnan_calls _ _).mono ?_; rintro e w2 ⟨rfl, rfl⟩))
  go_ret
  exact ⟨by rw [← hb]; rfl, rfl⟩
set_option maxHeartbeats 2000000 in
set_option maxRecDepth 100000 in
theorem search_calls (A : Option Addr) (n c : Nat) (l : List Int) (hn : l.length = n) (x : Int) (b : Bool) (hb : b = true ↔ x ∈ l) (w : World) (hC : kI.C w A n l) (hr : Inc l) (hl : n ≤ 100000) :
    Calls Try.prog 64 #[.slice A n c, .int .i64 x] w fun e w' => ∃ i : Nat, e = .returned (.tuple #[.int .i64 i, .bool b]) ∧ Place l x i ∧ w' = w := by
  have HC := Aside0.mk hC
  have HN := Aside0.mk hn
  have HRI := Aside0.mk hr
  have HBB := Aside0.mk hb
  clear hC hn hr hb
  go_enter Try.func64, Try.ntmps64
  go_wp2_with fail
  go_loopw [7, 8] (fun va vb wr => ∃ lo hi : Nat, va = .int .i64 lo ∧ vb = .int .i64 hi ∧ lo ≤ hi ∧ hi ≤ n ∧ wr = w ∧ Aside0 ((∀ t a, t < lo → l[t]? = some a → a < x) ∧ (∀ t a, hi ≤ t → l[t]? = some a → x ≤ a))) (fun va vb _ => (intOf vb).toNat - (intOf va).toNat)
  case atStart => exact ⟨0, n, rfl, rfl, by omega, by omega, rfl, ⟨fun t p ht => absurd ht (by omega), fun t p ht hp => absurd (List.getElem?_eq_some_iff.1 hp).1 (by rw [HN.out]; omega)⟩⟩
  case round =>
    obtain ⟨lo, hi, rfl, rfl, hlh, hin, rfl, HI⟩ := hrel
    by_cases hlt : lo < hi
    · obtain ⟨md, hmd⟩ : ∃ md, md = (lo + hi) / 2 := ⟨_, rfl⟩
      obtain ⟨p, hp⟩ : ∃ p, l[md]? = some p := ⟨_, List.getElem?_eq_getElem (by rw [HN.out]; omega)⟩
      obtain ⟨ad, rfl⟩ := C_some HC.out (by omega)
      have x0 := C_cell HC.out hp
      have hmn : md < n := by omega
      have hml1 : lo ≤ md := by omega
      have hml2 : md < hi := by omega
      have HP := Aside0.mk hp
      clear hp
      go_upto_region 5 with fail
      have hmc : ((lo : Int) + hi) / 2 = (md : Int) := by omega
      rw [hmc]
      clear hmc hmd
      by_cases hpx : p < x
      · have HLT := Aside0.mk hpx
        have hcon := less_calls p x true (decide_eq_true hpx) wr
        clear hpx
        go_wp2_with (first | (go_at_call 71; refine hcon.mono ?_; rintro e w2 ⟨rfl, rfl⟩))
        go_roundw
        case rel => exact ⟨md + 1, hi, by go_num, rfl, by omega, hin, trivial, ⟨fun t p' ht hp' => by
          rcases Nat.lt_or_ge t md with h | h
          · exact Int.lt_trans (HRI.out.at h hp' HP.out) HLT.out
          · have e : t = md := by omega
            subst e
            rw [HP.out] at hp'
            obtain rfl := Option.some.inj hp'
            exact HLT.out, HI.out.2⟩⟩
        case measure => simp [intOf]; omega
      · have HLT := Aside0.mk (show x ≤ p by omega)
        have hcon := less_calls p x false (decide_eq_false hpx) wr
        clear hpx
        go_wp2_with (first | (go_at_call 71; refine hcon.mono ?_; rintro e w2 ⟨rfl, rfl⟩))
        go_roundw
        case rel => exact ⟨lo, md, rfl, rfl, by omega, by omega, trivial, ⟨HI.out.1, fun t p' ht hp' => by
          rcases Nat.lt_or_ge md t with h | h
          · have := HRI.out.at h HP.out hp'; have := HLT.out; omega
          · have e : t = md := by omega
            subst e
            rw [HP.out] at hp'
            obtain rfl := Option.some.inj hp'
            exact HLT.out⟩⟩
        case measure => simp [intOf]; omega
    · obtain rfl : hi = lo := by omega
      have HPL := Aside0.mk (show Place l x hi from ⟨by rw [HN.out]; exact hin, HI.out.1, HI.out.2⟩)
      have HMEM := Aside0.mk (HPL.out.mem HRI.out)
      by_cases hgo : hi < n
      · obtain ⟨p, hp⟩ : ∃ p, l[hi]? = some p := ⟨_, List.getElem?_eq_getElem (by rw [HN.out]; omega)⟩
        obtain ⟨ad, rfl⟩ := C_some HC.out (by omega)
        have x0 := C_cell HC.out hp
        have hd8 : decide ((hi : Int) < n) = true := decide_eq_true (by omega)
        have hbr : (p == x) = b := by
          rw [Bool.eq_iff_iff, HBB.out, HMEM.out, hp, beq_iff_eq]
          constructor
          · rintro rfl; rfl
          · exact fun h => Option.some.inj h
        clear hp
        cases b with
        | true =>
          go_wp2_with (first | (go_at_call 72; refine (snan_calls _ _).mono ?_; rintro e w2 ⟨rfl, rfl⟩))
          go_ret2
          exact ⟨hi, rfl, HPL.out, rfl⟩
        | false =>
          go_wp2_with (first | (go_at_call 72; refine (snan_calls _ _).mono ?_; rintro e w2 ⟨rfl, rfl⟩))
          go_ret2
          exact ⟨hi, rfl, HPL.out, rfl⟩
      · have hbf : b = false := by
          rw [← Bool.not_eq_true, HBB.out, HMEM.out]
          intro h
          have := (List.getElem?_eq_some_iff.1 h).1
          rw [HN.out] at this
          omega
        have hd8 : decide ((hi : Int) < n) = false := decide_eq_false (by omega)
        subst hbf
        go_wp2_with fail
        go_ret2
        exact ⟨hi, rfl, HPL.out, rfl⟩
end Go.Proofs.Ytfcpnjoiloahcaa.Ta
namespace Go.Proofs.Ytfcpnjoiloahcaa.Ta
open Go.RowKit Go.Proofs.YtfcpnjoiloahcaaW.PrintWords Go.Proofs.YtfcpnjoiloahcaaW.PrintLast Go.Proofs.YtfcpnjoiloahcaaW.PrintMore Go.Proofs.Ytfcpnjoiloahcaa.B Go.Proofs.Ytfcpnjoiloahcaa.R Go.Proofs.Ytfcpnjoiloahcaa.S
set_option linter.unusedVariables false
set_option linter.unusedSimpArgs false
/-- Cells with some put among them. -/
def ins (cs : List Value) (i : Nat) (vs : List Value) : List Value := cs.take i ++ vs ++ cs.drop i
theorem ins_end (cs vs : List Value) : ins cs cs.length vs = cs ++ vs := by simp [ins]
theorem copy_step {P : Program} (w : World) {o : Oper} {a : Act} {K : Act → World → Prop} {Q : Exit → Act → World → Prop} (d s : Operand) (t t' : TypeId)
    (ho : o.op = .call { callee := .builtin .copy, args := #[d, s], argTypes := #[t, t'] }) (v u : Value) (hd : a.eval d = v) (hs : a.eval s = u) {v' : Value} {w' : World}
    (hr : (Builtin.copy_ #[t, t'] o.type #[v, u]).run P w = .ok v' w') (h : K (a.put o.dst v') w') : o.wp P a w K Q := by
  unfold Oper.wp execOp
  simp only [ho, resolve, invoke, builtin, Sem.run_bind, Sem.run_pure, Result.andThen_ok, List.map_toArray, List.map_cons, List.map_nil, hd, hs, hr]
  exact h
theorem copy_list {P : Program} (w : World) {ops : Array Oper} {rest : List Oper} {o : Oper} {a : Act} {Q : Exit → Act → World → Prop} (hgd : o.guard = none) (d s : Operand) (t t' : TypeId)
    (ho : o.op = .call { callee := .builtin .copy, args := #[d, s], argTypes := #[t, t'] }) (v u : Value) (hd : a.eval d = v) (hs : a.eval s = u) {v' : Value} {w' : World}
    (hr : (Builtin.copy_ #[t, t'] o.type #[v, u]).run P w = .ok v' w') (h : wpList P ops Q rest (a.put o.dst v') w') : wpList P ops Q (o :: rest) a w :=
  wpList_plain hgd fun _ hK => copy_step w d s t t' ho v u hd hs hr (hK _ _ h)
/-- A row of one's own, two copies later. -/
theorem row_ins {w : World} {g e n i : Nat} {cur : Array Value} {cs vs : List Value} (hh : w.heap[g]? = some (.cells cur e (0, 0))) (hl : cs.length = n) (ht : cur.toList.take n = cs) (hc : n + vs.length ≤ cur.size) (hi : i ≤ n) :
    ∃ cur', ((w.setCells g (i + vs.length) (cs.drop i)).setCells g i vs).heap[g]? = some (.cells cur' e (0, 0)) ∧ cur'.size = cur.size ∧ cur'.toList.take (n + vs.length) = ins cs i vs := by
  have hdl : (cs.drop i).length = n - i := by rw [List.length_drop, hl]
  obtain ⟨c1, q1, q2, q3⟩ := setCells_row (cs.drop i) (i + vs.length) w cur hh (by rw [hdl]; omega)
  obtain ⟨c2, r1, r2, r3⟩ := setCells_row vs i _ c1 q1 (by omega)
  refine ⟨c2, r1, by omega, ?_⟩
  have hcl : cur.toList.length = cur.size := Array.length_toList
  have hti : (cur.toList.take (i + vs.length)).length = i + vs.length := by rw [List.length_take]; omega
  have hl1 : (cs.take i).length = i := by rw [List.length_take]; omega
  rw [r3, q3]
  unfold ins
  have e1 : (List.take (i + vs.length) cur.toList ++ cs.drop i ++ cur.toList.drop (i + vs.length + (cs.drop i).length)).take i = cs.take i := by
    rw [List.append_assoc, List.take_append_of_le_length (by omega), List.take_take, Nat.min_eq_left (by omega), ← ht, List.take_take, Nat.min_eq_left (by omega)]
  have e2 : (List.take (i + vs.length) cur.toList ++ cs.drop i ++ cur.toList.drop (i + vs.length + (cs.drop i).length)).drop (i + vs.length) = cs.drop i ++ cur.toList.drop (i + vs.length + (cs.drop i).length) := by
    rw [List.append_assoc, List.drop_append_of_le_length (by omega), List.drop_eq_nil_of_le (by omega), List.nil_append]
  rw [e1, e2, ← List.append_assoc]
  rw [List.take_append_of_le_length (by simp only [List.length_append, hl1, hdl]; omega), List.take_of_length_le (by simp only [List.length_append, hl1, hdl]; omega)]
theorem insI_info : (Try.prog.info? 3).map (fun i => (i.zero, i.size, i.bytes)) = some (some (.int .i64 0), 1, 8) := by kernel_rfl
set_option maxHeartbeats 2000000 in
set_option maxRecDepth 100000 in
theorem insI_end (A : Option Addr) (n c m : Nat) (cs vs : List Value) (base : Nat) (w : World) (HO : w.ownsRow base 3 1 (.slice A n c) n cs) (hnc : n ≤ c) (hm : 0 < m) (hvl : vs.length = m) (h1v : ∀ v ∈ vs, v.oneCell' = true) (bv vc : Nat) (hv : ∀ (j : Nat) (v : Value), vs[j]? = some v → w.cell? ⟨bv, j, none⟩ = some v) (hn : n ≤ 1000) (hm9 : m ≤ 1000) (hbase : base ≤ w.heap.size) :
    Calls Try.prog 65 #[.slice A n c, .int .i64 n, .slice (some ⟨bv, 0, none⟩) m vc] w fun e w' => ∃ v', e = .returned v' ∧ w'.ownsRow base 3 1 v' (n + m) (cs ++ vs) ∧ w.grownBy w' (Value.slice A n c).ownBlock ∧ (v'.ownBlock = (Value.slice A n c).ownBlock ∨ ∃ b, v'.ownBlock = some b ∧ w.heap.size ≤ b) := by
  obtain ⟨i0, hi, hzz⟩ := Option.map_eq_some_iff.1 insI_info
  simp only [Prod.mk.injEq] at hzz
  obtain ⟨hz0, hz1, hz2⟩ := hzz
  obtain ⟨v1, w1, hrun, h2, hg, -, hat⟩ := run_append_own_at (P := Try.prog) (w := w) base 23 23 3 i0 (.int .i64 0) 1 8 Try.underlying23 hi hz0 hz1 hz2 rfl (by decide) (.slice A n c) n cs HO ⟨bv, 0, none⟩ m vc vs (by rw [hvl]; omega) (fun (j : Nat) (v : Value) (hj : vs[j]? = some v) => by rw [Addr.add_lit, Nat.zero_add]; exact hv j v hj) h1v (by unfold maxLen; omega) (by omega) hbase
  obtain ⟨vx, hvx⟩ : ∃ vx, ∀ W : World, (Instr.slice 23 (.slice A n c) (some (.int .i64 (n : Int))) none none).run Try.prog W = .ok vx W := ⟨_, fun W => cut_from 23 3 .i64 Try.underlying23 hi 1 hz1 A n c n (by omega) (by omega) W⟩
  have hmz : ((m : Int) == 0) = false := by simp; omega
  have HR := Aside0.mk (And.intro h2 (And.intro hg hat))
  clear h2 hg hat HO hi hz0 hz1 hz2
  go_enter Try.func65, Try.ntmps65
  go_wp2_with (at_builtin; refine Lib.wpList_append_run _ rfl _ _ _ _ rfl _ _ rfl rfl _ _ hrun ?_)
  go_ret
  exact ⟨_, rfl, HR.out.1, HR.out.2.1, HR.out.2.2.imp id (fun h => ⟨_, h, Nat.le_refl _⟩)⟩
theorem insB_info : (Try.prog.info? 24).map (fun i => (i.zero, i.size, i.bytes)) = some (some (.slice none 0 0), 1, 24) := by kernel_rfl
set_option maxHeartbeats 2000000 in
set_option maxRecDepth 100000 in
theorem insB_end (A : Option Addr) (n c m : Nat) (cs vs : List Value) (base : Nat) (w : World) (HO : w.ownsRow base 24 1 (.slice A n c) n cs) (hnc : n ≤ c) (hm : 0 < m) (hvl : vs.length = m) (h1v : ∀ v ∈ vs, v.oneCell' = true) (bv vc : Nat) (hv : ∀ (j : Nat) (v : Value), vs[j]? = some v → w.cell? ⟨bv, j, none⟩ = some v) (hn : n ≤ 1000) (hm9 : m ≤ 1000) (hbase : base ≤ w.heap.size) :
    Calls Try.prog 66 #[.slice A n c, .int .i64 n, .slice (some ⟨bv, 0, none⟩) m vc] w fun e w' => ∃ v', e = .returned v' ∧ w'.ownsRow base 24 1 v' (n + m) (cs ++ vs) ∧ w.grownBy w' (Value.slice A n c).ownBlock ∧ (v'.ownBlock = (Value.slice A n c).ownBlock ∨ ∃ b, v'.ownBlock = some b ∧ w.heap.size ≤ b) := by
  obtain ⟨i0, hi, hzz⟩ := Option.map_eq_some_iff.1 insB_info
  simp only [Prod.mk.injEq] at hzz
  obtain ⟨hz0, hz1, hz2⟩ := hzz
  obtain ⟨v1, w1, hrun, h2, hg, -, hat⟩ := run_append_own_at (P := Try.prog) (w := w) base 61 61 24 i0 (.slice none 0 0) 1 24 Try.underlying61 hi hz0 hz1 hz2 rfl (by decide) (.slice A n c) n cs HO ⟨bv, 0, none⟩ m vc vs (by rw [hvl]; omega) (fun (j : Nat) (v : Value) (hj : vs[j]? = some v) => by rw [Addr.add_lit, Nat.zero_add]; exact hv j v hj) h1v (by unfold maxLen; omega) (by omega) hbase
  obtain ⟨vx, hvx⟩ : ∃ vx, ∀ W : World, (Instr.slice 61 (.slice A n c) (some (.int .i64 (n : Int))) none none).run Try.prog W = .ok vx W := ⟨_, fun W => cut_from 61 24 .i64 Try.underlying61 hi 1 hz1 A n c n (by omega) (by omega) W⟩
  have hmz : ((m : Int) == 0) = false := by simp; omega
  have HR := Aside0.mk (And.intro h2 (And.intro hg hat))
  clear h2 hg hat HO hi hz0 hz1 hz2
  go_enter Try.func66, Try.ntmps66
  go_wp2_with (at_builtin; refine Lib.wpList_append_run _ rfl _ _ _ _ rfl _ _ rfl rfl _ _ hrun ?_)
  go_ret
  exact ⟨_, rfl, HR.out.1, HR.out.2.1, HR.out.2.2.imp id (fun h => ⟨_, h, Nat.le_refl _⟩)⟩
set_option maxHeartbeats 2000000 in
set_option maxRecDepth 100000 in
theorem insI_room (g n c i m : Nat) (cs vs : List Value) (w : World) (cur curv : Array Value) (hh : w.heap[g]? = some (.cells cur 3 (0, 0))) (hl : cs.length = n) (hcs : cur.size = c) (ht : cur.toList.take n = cs) (h1c : ∀ v ∈ cs, v.oneCell' = true) (hi : i < n) (hm : 0 < m) (hroom : n + m ≤ c) (hc63 : c ≤ 9223372036854775807)
    (hvl : vs.length = m) (h1v : ∀ v ∈ vs, v.oneCell' = true) (bv vc : Nat) (hvh : w.heap[bv]? = some (.cells curv 3 (0, 0))) (hv : ∀ (j : Nat) (v : Value), vs[j]? = some v → curv[j]? = some v) (hne : bv ≠ g) (hn : n ≤ 1000) (hm9 : m ≤ 1000) :
    Calls Try.prog 65 #[.slice (some ⟨g, 0, none⟩) n c, .int .i64 i, .slice (some ⟨bv, 0, none⟩) m vc] w fun e w' => e = .returned (.slice (some ⟨g, 0, none⟩) (n + m) c) ∧ w' = (w.drew.setCells g (i + m) (cs.drop i)).setCells g i vs := by
  obtain ⟨i0, hi0, hzz⟩ := Option.map_eq_some_iff.1 insI_info
  simp only [Prod.mk.injEq] at hzz
  obtain ⟨hz0, hz1, hz2⟩ := hzz
  have hsz : (Try.prog.info? 3).map (·.size) = some 1 := by rw [hi0]; simp [hz1]
  have hov : ∀ lb cb, (callFunc 73 #[.slice (some ⟨bv, 0, none⟩) m vc, .slice (some ⟨g, i + m, none⟩) lb cb]).run Try.prog w = .ok (.value (.bool false)) w := fun lb cb => by
    rw [run_callFunc_extern Try.func73 (by kernel_rfl) (by kernel_rfl) (by kernel_rfl) (e := Extern.SlicesOverlaps.overlaps #[23, 23] #[4]) (by kernel_rfl),
      Lib.run_overlaps_apart w 23 4 3 Try.underlying23 1 Try.sizeOf3 ⟨bv, 0, none⟩ ⟨g, i + m, none⟩ m vc lb cb hne 3 3 curv.size cur.size (by simp [World.shape?, hvh]) (by simp [World.shape?, hh]) (by omega) (blk_frozen hvh 0) (blk_frozen hvh _)]
    rfl
  have hdl : (cs.drop i).length = n - i := by rw [List.length_drop, hl]
  have hcl : cur.toList.length = cur.size := Array.length_toList
  have hcell : ∀ (j : Nat) (v : Value), cs[j]? = some v → w.cell? ⟨g, j, none⟩ = some v := fun j v hj => by
    rw [cell_of_row w g j cur 3 (0, 0) hh]
    rw [← ht, List.getElem?_take] at hj
    split at hj
    · rw [← hj]; simp
    · cases hj
  have hsp : ∀ (W : World), (∃ cu : Array Value, W.heap[g]? = some (.cells cu 3 (0, 0)) ∧ cu.size = c) → ∀ k, k < n + m → (W.cell? ⟨g, k, none⟩).isSome = true ∧ W.frozen? ⟨g, k, none⟩ = false := fun W ⟨cu, h1, h2⟩ k hk => ⟨by rw [cell_of_row W g k cu 3 (0, 0) h1]; simp; omega, blk_frozen h1 k⟩
  have mixed : Try.prog.follows .mixedOrders = true := by kernel_rfl
  have hw1 : IntKind.i64.wrap ((i : Int) + (m : Int)) = (i : Int) + (m : Int) := by rw [IntKind.wrap_i64]; omega
  have hb1 : (0 : Int) ≤ (i : Int) + (m : Int) := by omega
  have hin : i ≤ n := by omega
  have htn : ((i : Int) + (m : Int)).toNat = i + m := by omega
  have hb2 : ¬ (c = i + m) := by omega
  have hb3 : (i : Int) ≤ (n : Int) + (m : Int) := by omega
  have hb4 : ¬ (c = i) := by omega
  have hz1' : ¬ ((m : Int) = 0) := by omega
  have hz2' : ¬ ((i : Int) = (n : Int)) := by omega
  have hcp1 : ∀ ty dc sc, (Builtin.copy_ #[23, 23] ty #[.slice (some ⟨g, i + m, none⟩) (n + m - (i + m)) dc, .slice (some ⟨g, i, none⟩) (n + m - i) sc]).run Try.prog w.drew = .ok (goInt (cs.drop i).length) (w.drew.setCells g (i + m) (cs.drop i)) := fun ty dc sc =>
    run_copy_cells w.drew _ _ ty 3 g (i + m) (n + m - (i + m)) dc ⟨g, i, none⟩ (n + m - i) sc (cs.drop i) Try.underlying23 hsz (by rw [hdl]; simp only [Nat.min_def]; split <;> omega)
      (fun j v hj => by rw [Addr.add_lit]; exact hcell (i + j) v (by rwa [List.getElem?_drop] at hj))
      (fun j hj => (hsp w.drew ⟨cur, hh, hcs⟩ _ (by omega)).1) (fun j hj => (hsp w.drew ⟨cur, hh, hcs⟩ _ (by omega)).2) (fun v hv => h1c v (List.mem_of_mem_drop hv))
  obtain ⟨W1, hW1⟩ : ∃ W1, W1 = w.drew.setCells g (i + m) (cs.drop i) := ⟨_, rfl⟩
  obtain ⟨c1, q1, q2, q3⟩ := setCells_row (cs.drop i) (i + m) w.drew cur hh (by rw [hdl]; omega)
  rw [← hW1] at q1
  have hcp2 : ∀ ty dc, (Builtin.copy_ #[23, 23] ty #[.slice (some ⟨g, i, none⟩) (n + m - i) dc, .slice (some ⟨bv, 0, none⟩) m vc]).run Try.prog W1 = .ok (goInt vs.length) (W1.setCells g i vs) := fun ty dc =>
    run_copy_cells W1 _ _ ty 3 g i (n + m - i) dc ⟨bv, 0, none⟩ m vc vs Try.underlying23 hsz (by rw [hvl]; simp only [Nat.min_def]; split <;> omega)
      (fun j v hj => by
        rw [Addr.add_lit, Nat.zero_add, hW1, World.cell?_setCells_out g _ _ _ _ (fun h _ => absurd h hne)]
        show w.cell? _ = _
        rw [cell_of_row w bv j curv 3 (0, 0) hvh]
        exact hv j v hj)
      (fun j hj => (hsp W1 ⟨c1, q1, by omega⟩ _ (by omega)).1) (fun j hj => (hsp W1 ⟨c1, q1, by omega⟩ _ (by omega)).2) h1v
  rw [← hW1] at hcp1
  have HK1 := Aside0.mk (show Keep (· = g) w.drew W1 by
    obtain ⟨s1, s2, s3, s4⟩ := setCells_same g (cs.drop i) (i + m) w.drew
    rw [hW1]
    exact ⟨s1, s2, s3, by omega, fun k _ hk => setCells_far _ _ k hk⟩)
  have HW1 := Aside0.mk hW1
  clear hW1 hcell hsp q1 q2 q3 hh hvh ht hcl
  go_enter Try.func65, Try.ntmps65
  go_wp2_with (simp only [hov])
  refine rk_start ((· = g)) (by kernel_rfl) (n := 9) (l := #[false, false, false, false, false, false, false, false, false]) (by kernel_rfl) (by kernel_rfl) ?_
  refine rk_take (fuel := 8) 0 rfl (by kernel_rfl) (listed' := #[true, false, false, false, false, false, false, false, false]) (by kernel_rfl) (fun _ _ _ h => h) (by kernel_rfl) (fun w' hR => by go_simp; first | done | with_reducible rfl) rfl ?_
  try simp only [Act.put, List.setIfInBounds_toArray, List.set_cons_zero, List.set_cons_succ]
  refine rk_take (fuel := 7) 1 rfl (by kernel_rfl) (listed' := #[true, true, false, false, false, false, false, false, false]) (by kernel_rfl) (fun _ _ _ h => h) (by kernel_rfl) (fun w' hR => by go_simp; first | done | with_reducible rfl) rfl ?_
  try simp only [Act.put, List.setIfInBounds_toArray, List.set_cons_zero, List.set_cons_succ]
  refine rk_take (fuel := 6) 2 rfl (by kernel_rfl) (listed' := #[true, true, true, false, false, false, false, false, false]) (by kernel_rfl) (fun _ _ _ h => h) (by kernel_rfl) (fun w' hR => by go_simp; first | done | with_reducible rfl) rfl ?_
  try simp only [Act.put, List.setIfInBounds_toArray, List.set_cons_zero, List.set_cons_succ]
  refine rk_take (fuel := 5) 3 rfl (by kernel_rfl) (listed' := #[true, true, true, true, false, false, false, false, false]) (by kernel_rfl) (fun _ _ _ h => h) (by kernel_rfl) (fun w' hR => by go_simp; first | done | with_reducible rfl) rfl ?_
  try simp only [Act.put, List.setIfInBounds_toArray, List.set_cons_zero, List.set_cons_succ]
  refine rk_take (fuel := 4) 4 rfl (by kernel_rfl) (listed' := #[true, true, true, true, true, false, false, false, false]) (by kernel_rfl) (fun _ _ _ h => h) (by kernel_rfl) (fun w' hR => by go_simp; first | done | with_reducible rfl) rfl ?_
  try simp only [Act.put, List.setIfInBounds_toArray, List.set_cons_zero, List.set_cons_succ]
  refine rk_take (fuel := 3) 5 rfl (by kernel_rfl) (listed' := #[true, true, true, true, true, true, false, false, false]) (by kernel_rfl) (fun _ _ _ h => h) (by kernel_rfl) (fun w' hR => by go_simp; first | done | with_reducible rfl) rfl ?_
  try simp only [Act.put, List.setIfInBounds_toArray, List.set_cons_zero, List.set_cons_succ]
  refine rk_take (fuel := 2) 6 rfl (by kernel_rfl) (listed' := #[true, true, true, true, true, true, true, false, false]) (by kernel_rfl) (fun _ _ _ h => h) (by kernel_rfl) (fun w' hR => by go_simp; first | done | with_reducible rfl) rfl ?_
  try simp only [Act.put, List.setIfInBounds_toArray, List.set_cons_zero, List.set_cons_succ]
  refine rk_take (fuel := 1) 7 rfl (by kernel_rfl) (listed' := #[true, true, true, true, true, true, true, true, false]) (by kernel_rfl) (fun _ _ _ h => h) (by kernel_rfl) (fun w' hR => by go_simp; first | done | with_reducible rfl) rfl ?_
  try simp only [Act.put, List.setIfInBounds_toArray, List.set_cons_zero, List.set_cons_succ]
  refine rk_step (fuel := 0) 8 rfl (by kernel_rfl) (listed' := #[true, true, true, true, true, true, true, true, true]) (by kernel_rfl) (by kernel_rfl) (fun K' hK => ?_)
  (refine copy_step _ (.tmp 73) (.tmp 76) 23 23 rfl _ _ rfl rfl (hcp1 _ _ _) ?_)
  refine hK.out _ _ HK1.out ?_
  clear hK K'
  try simp only [Act.put, List.setIfInBounds_toArray, List.set_cons_zero, List.set_cons_succ]
  refine rk_done (by kernel_rfl) ?_
  go_wp2_with (at_builtin; refine copy_list _ rfl (.tmp 80) (.tmp 81) 23 23 rfl _ _ rfl rfl (hcp2 _ _) ?_)
  go_ret
  exact ⟨rfl, by rw [HW1.out]⟩
set_option maxHeartbeats 2000000 in
set_option maxRecDepth 100000 in
theorem insB_room (g n c i m : Nat) (cs vs : List Value) (w : World) (cur curv : Array Value) (hh : w.heap[g]? = some (.cells cur 24 (0, 0))) (hl : cs.length = n) (hcs : cur.size = c) (ht : cur.toList.take n = cs) (h1c : ∀ v ∈ cs, v.oneCell' = true) (hi : i < n) (hm : 0 < m) (hroom : n + m ≤ c) (hc63 : c ≤ 9223372036854775807)
    (hvl : vs.length = m) (h1v : ∀ v ∈ vs, v.oneCell' = true) (bv vc : Nat) (hvh : w.heap[bv]? = some (.cells curv 24 (0, 0))) (hv : ∀ (j : Nat) (v : Value), vs[j]? = some v → curv[j]? = some v) (hne : bv ≠ g) (hn : n ≤ 1000) (hm9 : m ≤ 1000) :
    Calls Try.prog 66 #[.slice (some ⟨g, 0, none⟩) n c, .int .i64 i, .slice (some ⟨bv, 0, none⟩) m vc] w fun e w' => e = .returned (.slice (some ⟨g, 0, none⟩) (n + m) c) ∧ w' = (w.drew.setCells g (i + m) (cs.drop i)).setCells g i vs := by
  obtain ⟨i0, hi0, hzz⟩ := Option.map_eq_some_iff.1 insB_info
  simp only [Prod.mk.injEq] at hzz
  obtain ⟨hz0, hz1, hz2⟩ := hzz
  have hsz : (Try.prog.info? 24).map (·.size) = some 1 := by rw [hi0]; simp [hz1]
  have hov : ∀ lb cb, (callFunc 75 #[.slice (some ⟨bv, 0, none⟩) m vc, .slice (some ⟨g, i + m, none⟩) lb cb]).run Try.prog w = .ok (.value (.bool false)) w := fun lb cb => by
    rw [run_callFunc_extern Try.func75 (by kernel_rfl) (by kernel_rfl) (by kernel_rfl) (e := Extern.SlicesOverlaps.overlaps #[61, 61] #[4]) (by kernel_rfl),
      Lib.run_overlaps_apart w 61 4 24 Try.underlying61 1 Try.sizeOf24 ⟨bv, 0, none⟩ ⟨g, i + m, none⟩ m vc lb cb hne 24 24 curv.size cur.size (by simp [World.shape?, hvh]) (by simp [World.shape?, hh]) (by omega) (blk_frozen hvh 0) (blk_frozen hvh _)]
    rfl
  have hdl : (cs.drop i).length = n - i := by rw [List.length_drop, hl]
  have hcl : cur.toList.length = cur.size := Array.length_toList
  have hcell : ∀ (j : Nat) (v : Value), cs[j]? = some v → w.cell? ⟨g, j, none⟩ = some v := fun j v hj => by
    rw [cell_of_row w g j cur 24 (0, 0) hh]
    rw [← ht, List.getElem?_take] at hj
    split at hj
    · rw [← hj]; simp
    · cases hj
  have hsp : ∀ (W : World), (∃ cu : Array Value, W.heap[g]? = some (.cells cu 24 (0, 0)) ∧ cu.size = c) → ∀ k, k < n + m → (W.cell? ⟨g, k, none⟩).isSome = true ∧ W.frozen? ⟨g, k, none⟩ = false := fun W ⟨cu, h1, h2⟩ k hk => ⟨by rw [cell_of_row W g k cu 24 (0, 0) h1]; simp; omega, blk_frozen h1 k⟩
  have mixed : Try.prog.follows .mixedOrders = true := by kernel_rfl
  have hw1 : IntKind.i64.wrap ((i : Int) + (m : Int)) = (i : Int) + (m : Int) := by rw [IntKind.wrap_i64]; omega
  have hb1 : (0 : Int) ≤ (i : Int) + (m : Int) := by omega
  have hin : i ≤ n := by omega
  have htn : ((i : Int) + (m : Int)).toNat = i + m := by omega
  have hb2 : ¬ (c = i + m) := by omega
  have hb3 : (i : Int) ≤ (n : Int) + (m : Int) := by omega
  have hb4 : ¬ (c = i) := by omega
  have hz1' : ¬ ((m : Int) = 0) := by omega
  have hz2' : ¬ ((i : Int) = (n : Int)) := by omega
  have hcp1 : ∀ ty dc sc, (Builtin.copy_ #[61, 61] ty #[.slice (some ⟨g, i + m, none⟩) (n + m - (i + m)) dc, .slice (some ⟨g, i, none⟩) (n + m - i) sc]).run Try.prog w.drew = .ok (goInt (cs.drop i).length) (w.drew.setCells g (i + m) (cs.drop i)) := fun ty dc sc =>
    run_copy_cells w.drew _ _ ty 24 g (i + m) (n + m - (i + m)) dc ⟨g, i, none⟩ (n + m - i) sc (cs.drop i) Try.underlying61 hsz (by rw [hdl]; simp only [Nat.min_def]; split <;> omega)
      (fun j v hj => by rw [Addr.add_lit]; exact hcell (i + j) v (by rwa [List.getElem?_drop] at hj))
      (fun j hj => (hsp w.drew ⟨cur, hh, hcs⟩ _ (by omega)).1) (fun j hj => (hsp w.drew ⟨cur, hh, hcs⟩ _ (by omega)).2) (fun v hv => h1c v (List.mem_of_mem_drop hv))
  obtain ⟨W1, hW1⟩ : ∃ W1, W1 = w.drew.setCells g (i + m) (cs.drop i) := ⟨_, rfl⟩
  obtain ⟨c1, q1, q2, q3⟩ := setCells_row (cs.drop i) (i + m) w.drew cur hh (by rw [hdl]; omega)
  rw [← hW1] at q1
  have hcp2 : ∀ ty dc, (Builtin.copy_ #[61, 61] ty #[.slice (some ⟨g, i, none⟩) (n + m - i) dc, .slice (some ⟨bv, 0, none⟩) m vc]).run Try.prog W1 = .ok (goInt vs.length) (W1.setCells g i vs) := fun ty dc =>
    run_copy_cells W1 _ _ ty 24 g i (n + m - i) dc ⟨bv, 0, none⟩ m vc vs Try.underlying61 hsz (by rw [hvl]; simp only [Nat.min_def]; split <;> omega)
      (fun j v hj => by
        rw [Addr.add_lit, Nat.zero_add, hW1, World.cell?_setCells_out g _ _ _ _ (fun h _ => absurd h hne)]
        show w.cell? _ = _
        rw [cell_of_row w bv j curv 24 (0, 0) hvh]
        exact hv j v hj)
      (fun j hj => (hsp W1 ⟨c1, q1, by omega⟩ _ (by omega)).1) (fun j hj => (hsp W1 ⟨c1, q1, by omega⟩ _ (by omega)).2) h1v
  rw [← hW1] at hcp1
  have HK1 := Aside0.mk (show Keep (· = g) w.drew W1 by
    obtain ⟨s1, s2, s3, s4⟩ := setCells_same g (cs.drop i) (i + m) w.drew
    rw [hW1]
    exact ⟨s1, s2, s3, by omega, fun k _ hk => setCells_far _ _ k hk⟩)
  have HW1 := Aside0.mk hW1
  clear hW1 hcell hsp q1 q2 q3 hh hvh ht hcl
  go_enter Try.func66, Try.ntmps66
  go_wp2_with (simp only [hov])
  refine rk_start ((· = g)) (by kernel_rfl) (n := 9) (l := #[false, false, false, false, false, false, false, false, false]) (by kernel_rfl) (by kernel_rfl) ?_
  refine rk_take (fuel := 8) 0 rfl (by kernel_rfl) (listed' := #[true, false, false, false, false, false, false, false, false]) (by kernel_rfl) (fun _ _ _ h => h) (by kernel_rfl) (fun w' hR => by go_simp; first | done | with_reducible rfl) rfl ?_
  try simp only [Act.put, List.setIfInBounds_toArray, List.set_cons_zero, List.set_cons_succ]
  refine rk_take (fuel := 7) 1 rfl (by kernel_rfl) (listed' := #[true, true, false, false, false, false, false, false, false]) (by kernel_rfl) (fun _ _ _ h => h) (by kernel_rfl) (fun w' hR => by go_simp; first | done | with_reducible rfl) rfl ?_
  try simp only [Act.put, List.setIfInBounds_toArray, List.set_cons_zero, List.set_cons_succ]
  refine rk_take (fuel := 6) 2 rfl (by kernel_rfl) (listed' := #[true, true, true, false, false, false, false, false, false]) (by kernel_rfl) (fun _ _ _ h => h) (by kernel_rfl) (fun w' hR => by go_simp; first | done | with_reducible rfl) rfl ?_
  try simp only [Act.put, List.setIfInBounds_toArray, List.set_cons_zero, List.set_cons_succ]
  refine rk_take (fuel := 5) 3 rfl (by kernel_rfl) (listed' := #[true, true, true, true, false, false, false, false, false]) (by kernel_rfl) (fun _ _ _ h => h) (by kernel_rfl) (fun w' hR => by go_simp; first | done | with_reducible rfl) rfl ?_
  try simp only [Act.put, List.setIfInBounds_toArray, List.set_cons_zero, List.set_cons_succ]
  refine rk_take (fuel := 4) 4 rfl (by kernel_rfl) (listed' := #[true, true, true, true, true, false, false, false, false]) (by kernel_rfl) (fun _ _ _ h => h) (by kernel_rfl) (fun w' hR => by go_simp; first | done | with_reducible rfl) rfl ?_
  try simp only [Act.put, List.setIfInBounds_toArray, List.set_cons_zero, List.set_cons_succ]
  refine rk_take (fuel := 3) 5 rfl (by kernel_rfl) (listed' := #[true, true, true, true, true, true, false, false, false]) (by kernel_rfl) (fun _ _ _ h => h) (by kernel_rfl) (fun w' hR => by go_simp; first | done | with_reducible rfl) rfl ?_
  try simp only [Act.put, List.setIfInBounds_toArray, List.set_cons_zero, List.set_cons_succ]
  refine rk_take (fuel := 2) 6 rfl (by kernel_rfl) (listed' := #[true, true, true, true, true, true, true, false, false]) (by kernel_rfl) (fun _ _ _ h => h) (by kernel_rfl) (fun w' hR => by go_simp; first | done | with_reducible rfl) rfl ?_
  try simp only [Act.put, List.setIfInBounds_toArray, List.set_cons_zero, List.set_cons_succ]
  refine rk_take (fuel := 1) 7 rfl (by kernel_rfl) (listed' := #[true, true, true, true, true, true, true, true, false]) (by kernel_rfl) (fun _ _ _ h => h) (by kernel_rfl) (fun w' hR => by go_simp; first | done | with_reducible rfl) rfl ?_
  try simp only [Act.put, List.setIfInBounds_toArray, List.set_cons_zero, List.set_cons_succ]
  refine rk_step (fuel := 0) 8 rfl (by kernel_rfl) (listed' := #[true, true, true, true, true, true, true, true, true]) (by kernel_rfl) (by kernel_rfl) (fun K' hK => ?_)
  (refine copy_step _ (.tmp 73) (.tmp 76) 61 61 rfl _ _ rfl rfl (hcp1 _ _ _) ?_)
  refine hK.out _ _ HK1.out ?_
  clear hK K'
  try simp only [Act.put, List.setIfInBounds_toArray, List.set_cons_zero, List.set_cons_succ]
  refine rk_done (by kernel_rfl) ?_
  go_wp2_with (at_builtin; refine copy_list _ rfl (.tmp 80) (.tmp 81) 61 61 rfl _ _ rfl rfl (hcp2 _ _) ?_)
  go_ret
  exact ⟨rfl, by rw [HW1.out]⟩
set_option maxHeartbeats 2000000 in
set_option maxRecDepth 100000 in
theorem insI_grow (g n c i m : Nat) (cs vs : List Value) (w : World) (cur curv : Array Value) (hh : w.heap[g]? = some (.cells cur 3 (0, 0))) (hl : cs.length = n) (hcs : cur.size = c) (ht : cur.toList.take n = cs) (h1c : ∀ v ∈ cs, v.oneCell' = true) (hi : i < n) (hm : 0 < m) (hnc : n ≤ c) (hroom : c < n + m)
    (hvl : vs.length = m) (h1v : ∀ v ∈ vs, v.oneCell' = true) (bv vc : Nat) (hvh : w.heap[bv]? = some (.cells curv 3 (0, 0))) (hv : ∀ (j : Nat) (v : Value), vs[j]? = some v → curv[j]? = some v) (hn : n ≤ 1000) (hm9 : m ≤ 1000) :
    Calls Try.prog 65 #[.slice (some ⟨g, 0, none⟩) n c, .int .i64 i, .slice (some ⟨bv, 0, none⟩) m vc] w fun e w' => ∃ (G : Nat) (cur' : Array Value), e = .returned (.slice (some ⟨w.heap.size, 0, none⟩) (n + m) G) ∧ n + m ≤ G ∧ G ≤ maxLen ∧ w'.heap[w.heap.size]? = some (.cells cur' 3 (0, 0)) ∧ cur'.size = G ∧ cur'.toList.take (n + m) = ins cs i vs ∧ Below w.heap.size w w' := by
  obtain ⟨i0, hi0, hzz⟩ := Option.map_eq_some_iff.1 insI_info
  simp only [Prod.mk.injEq] at hzz
  obtain ⟨hz0, hz1, hz2⟩ := hzz
  have hsz : (Try.prog.info? 3).map (·.size) = some 1 := by rw [hi0]; simp [hz1]
  have hdl : (cs.drop i).length = n - i := by rw [List.length_drop, hl]
  have hcl : cur.toList.length = cur.size := Array.length_toList
  have hgl := blk_lt hh
  have hbl := blk_lt hvh
  have hcell : ∀ (j : Nat) (v : Value), cs[j]? = some v → w.cell? ⟨g, j, none⟩ = some v := fun j v hj => by
    rw [cell_of_row w g j cur 3 (0, 0) hh]
    rw [← ht, List.getElem?_take] at hj
    split at hj
    · rw [← hj]; simp
    · cases hj
  have hold : (Builtin.firstCells i0.size i (.slice (some ⟨g, 0, none⟩) i c)).run Try.prog w.drew = .ok (cs.take i).toArray w.drew := by
    rw [hz1]
    exact run_firstCells_some w.drew 1 i ⟨g, 0, none⟩ i c (cs.take i) (by rw [List.length_take]; omega) (fun j v hj => by
      rw [Addr.add_lit, Nat.zero_add]
      rw [List.getElem?_take] at hj
      split at hj
      · exact hcell j v hj
      · cases hj)
  have hkk : (n : Int) + (m : Int) - (i : Int) = ((n + m - i : Nat) : Int) := by omega
  have hik : i + (n + m - i) = n + m := by omega
  obtain ⟨G, hG⟩ : ∃ G, G = grownCap w (n + m) c 3 := ⟨_, rfl⟩
  obtain ⟨ROW, hROW⟩ : ∃ ROW : Array Value, ROW = (cs.take i).toArray ++ Builtin.zeroCells (Value.cells (.int .i64 0)) (n + m - i) ++ Builtin.zeroCells (Value.cells (.int .i64 0)) (G - (n + m)) := ⟨_, rfl⟩
  obtain ⟨W1, hW1⟩ : ∃ W1, W1 = w.drew.alloc (.cells ROW 3) := ⟨_, rfl⟩
  have hrz : ∀ ty, (Builtin.append_ #[23, 3] ty #[.slice (some ⟨g, 0, none⟩) i c, .int .i64 ((n : Int) + (m : Int) - (i : Int))]).run Try.prog w = .ok (.slice (some ⟨w.heap.size, 0, none⟩) (n + m) G) W1 := fun ty => by
    have h := Lib.run_append_grow_zeros (P := Try.prog) w 23 3 ty 3 i0 _ .i64 .i64 Try.underlying23 Try.underlying3 hi0 hz0 (some ⟨g, 0, none⟩) i c (cs.take i) hold (n + m - i) (by omega) (by omega) (by omega) (by omega) (by rw [hz2]; omega) (by rw [hz2, hik]; exact growslice_fits hroom (by omega))
    rw [hik] at h
    rw [hkk, hW1, hROW, hG]
    exact h
  have hGn : n + m ≤ G := by rw [hG]; exact grownCap_ge w _ _ _
  have hGM : G ≤ maxLen := by rw [hG]; exact grownCap_le_maxLen w (n + m) c 3 (by unfold maxLen; omega)
  have hG63 : G ≤ 9223372036854775807 := by unfold maxLen at hGM; omega
  have hRs : ROW.size = G := by
    rw [hROW]
    have hz1c : (Value.cells (.int .i64 0)).size = 1 := rfl
    simp only [Array.size_append, List.size_toArray, size_zeroCells, List.length_take, hl, hz1c]
    omega
  have hNew : W1.heap[w.heap.size]? = some (.cells ROW 3 (0, 0)) := by rw [hW1]; exact heap_alloc_new w.drew _
  have hB1 : Below w.heap.size w W1 := by rw [hW1]; exact ((Below.refl w.heap.size w).drew).alloc (Nat.le_refl _) _
  have hRt : ROW.toList.take i = cs.take i := by
    rw [hROW]
    simp only [Array.toList_append]
    rw [List.append_assoc, List.take_append_of_le_length (by rw [List.length_take]; omega), List.take_of_length_le (by rw [List.length_take]; omega)]
  obtain ⟨c2, q1, q2, q3⟩ := setCells_row vs i W1 ROW hNew (by omega)
  obtain ⟨W2, hW2⟩ : ∃ W2, W2 = W1.setCells w.heap.size i vs := ⟨_, rfl⟩
  have hcpA : ∀ ty dc, (Builtin.copy_ #[23, 23] ty #[.slice (some ⟨w.heap.size, i, none⟩) (n + m - i) dc, .slice (some ⟨bv, 0, none⟩) m vc]).run Try.prog W1 = .ok (goInt vs.length) W2 := fun ty dc => by
    rw [hW2]
    exact run_copy_cells W1 _ _ ty 3 w.heap.size i (n + m - i) dc ⟨bv, 0, none⟩ m vc vs Try.underlying23 hsz (by rw [hvl]; simp only [Nat.min_def]; split <;> omega)
      (fun j v hj => by
        rw [Addr.add_lit, Nat.zero_add, cell_of_row W1 bv j curv 3 (0, 0) ((hB1.block bv hbl).trans hvh)]
        exact hv j v hj)
      (fun j hj => by rw [cell_of_row W1 w.heap.size _ ROW 3 (0, 0) hNew]; simp; omega) (fun j hj => blk_frozen hNew _) h1v
  rw [← hW2] at q1
  have hB2 : Below w.heap.size w W2 := by
    obtain ⟨s1, s2, s3, s4⟩ := setCells_same w.heap.size vs i W1
    have hk : Keep (· = w.heap.size) W1 W2 := by rw [hW2]; exact ⟨s1, s2, s3, by omega, fun k _ hk => setCells_far _ _ k hk⟩
    exact Keep.below_then hB1 hk hB1.size (fun k hk e => by omega)
  obtain ⟨c3, r1, r2, r3⟩ := setCells_row (cs.drop i) (i + m) W2.drew c2 q1 (by rw [hdl]; omega)
  obtain ⟨W3, hW3⟩ : ∃ W3, W3 = W2.drew.setCells w.heap.size (i + m) (cs.drop i) := ⟨_, rfl⟩
  rw [← hW3] at r1
  have hcpB : ∀ ty dc sc, (Builtin.copy_ #[23, 23] ty #[.slice (some ⟨w.heap.size, i + m, none⟩) (n + m - (i + m)) dc, .slice (some ⟨g, i, none⟩) (n - i) sc]).run Try.prog W2.drew = .ok (goInt (cs.drop i).length) W3 := fun ty dc sc => by
    rw [hW3]
    exact run_copy_cells W2.drew _ _ ty 3 w.heap.size (i + m) (n + m - (i + m)) dc ⟨g, i, none⟩ (n - i) sc (cs.drop i) Try.underlying23 hsz (by rw [hdl]; simp only [Nat.min_def]; split <;> omega)
      (fun j v hj => by
        rw [Addr.add_lit]
        have h1 := hcell (i + j) v (by rwa [List.getElem?_drop] at hj)
        show W2.cell? _ = _
        exact pw_cell_below hB2 h1)
      (fun j hj => by show (W2.cell? _).isSome = true; rw [cell_of_row W2 w.heap.size _ c2 3 (0, 0) q1]; simp; omega) (fun j hj => by show W2.frozen? _ = false; exact blk_frozen q1 _) (fun v hv => h1c v (List.mem_of_mem_drop hv))
  have hkp3 : Keep (· = w.heap.size) W2.drew W3 := by
    obtain ⟨s1, s2, s3, s4⟩ := setCells_same w.heap.size (cs.drop i) (i + m) W2.drew
    rw [hW3]
    exact ⟨s1, s2, s3, by omega, fun k _ hk => setCells_far _ _ k hk⟩
  have HK3 := Aside0.mk hkp3
  have HB3 := Aside0.mk (show Below w.heap.size w W3 from Keep.below_then hB2.drew hkp3 hB2.size (fun k hk e => by omega))
  have HFIN := Aside0.mk (show c3.size = G ∧ c3.toList.take (n + m) = ins cs i vs from ⟨by omega, by
    have hc2l : c2.toList.length = c2.size := Array.length_toList
    have hrl : ROW.toList.length = ROW.size := Array.length_toList
    have hl1 : (cs.take i).length = i := by rw [List.length_take]; omega
    have e0 : c2.toList.take (i + m) = cs.take i ++ vs := by
      rw [q3, hRt, List.take_append_of_le_length (by simp only [List.length_append, hl1, hvl]; omega), List.take_of_length_le (by simp only [List.length_append, hl1, hvl]; omega)]
    rw [r3, e0]
    unfold ins
    rw [List.take_append_of_le_length (by simp only [List.length_append, hl1, hdl, hvl]; omega), List.take_of_length_le (by simp only [List.length_append, hl1, hdl, hvl]; omega)]⟩)
  have HR1 := Aside0.mk r1
  have mixed : Try.prog.follows .mixedOrders = true := by kernel_rfl
  have hw1 : IntKind.i64.wrap ((i : Int) + (m : Int)) = (i : Int) + (m : Int) := by rw [IntKind.wrap_i64]; omega
  have hb1 : (0 : Int) ≤ (i : Int) + (m : Int) := by omega
  have hin : i ≤ n := by omega
  have htn : ((i : Int) + (m : Int)).toNat = i + m := by omega
  have hb3 : (i : Int) ≤ (n : Int) := by omega
  have hGi : ¬ (G = i) := by omega
  have hGim : ¬ (G = i + m) := by omega
  have hci : ¬ (c = i) := by omega
  have hz1' : ¬ ((m : Int) = 0) := by omega
  have hz2' : ¬ ((i : Int) = (n : Int)) := by omega
  have hz3 : (c : Int) < (n : Int) + (m : Int) := by omega
  have HG := Aside0.mk (And.intro hGn hGM)
  clear hW1 hW2 hW3 hROW hG hcell hold hkk hik hRs hNew hB1 hB2 hRt q1 q2 q3 r1 r2 r3 hkp3 hh hvh ht hcl hgl hbl hGM
  go_enter Try.func65, Try.ntmps65
  go_wp2_with (first
    | (at_builtin; refine Lib.wpList_append_run _ rfl _ _ _ _ rfl _ _ rfl rfl _ _ (hrz _) ?_)
    | (at_builtin; refine copy_list _ rfl (.tmp 43) (.tmp 44) 23 23 rfl _ _ rfl rfl (hcpA _ _) ?_))
  refine rk_start ((· = w.heap.size)) (by kernel_rfl) (n := 9) (l := #[false, false, false, false, false, false, false, false, false]) (by kernel_rfl) (by kernel_rfl) ?_
  refine rk_take (fuel := 8) 0 rfl (by kernel_rfl) (listed' := #[true, false, false, false, false, false, false, false, false]) (by kernel_rfl) (fun _ _ _ h => h) (by kernel_rfl) (fun w' hR => by go_simp; first | done | with_reducible rfl) rfl ?_
  try simp only [Act.put, List.setIfInBounds_toArray, List.set_cons_zero, List.set_cons_succ]
  refine rk_take (fuel := 7) 1 rfl (by kernel_rfl) (listed' := #[true, true, false, false, false, false, false, false, false]) (by kernel_rfl) (fun _ _ _ h => h) (by kernel_rfl) (fun w' hR => by go_simp; first | done | with_reducible rfl) rfl ?_
  try simp only [Act.put, List.setIfInBounds_toArray, List.set_cons_zero, List.set_cons_succ]
  refine rk_take (fuel := 6) 2 rfl (by kernel_rfl) (listed' := #[true, true, true, false, false, false, false, false, false]) (by kernel_rfl) (fun _ _ _ h => h) (by kernel_rfl) (fun w' hR => by go_simp; first | done | with_reducible rfl) rfl ?_
  try simp only [Act.put, List.setIfInBounds_toArray, List.set_cons_zero, List.set_cons_succ]
  refine rk_take (fuel := 5) 3 rfl (by kernel_rfl) (listed' := #[true, true, true, true, false, false, false, false, false]) (by kernel_rfl) (fun _ _ _ h => h) (by kernel_rfl) (fun w' hR => by go_simp; first | done | with_reducible rfl) rfl ?_
  try simp only [Act.put, List.setIfInBounds_toArray, List.set_cons_zero, List.set_cons_succ]
  refine rk_take (fuel := 4) 4 rfl (by kernel_rfl) (listed' := #[true, true, true, true, true, false, false, false, false]) (by kernel_rfl) (fun _ _ _ h => h) (by kernel_rfl) (fun w' hR => by go_simp; first | done | with_reducible rfl) rfl ?_
  try simp only [Act.put, List.setIfInBounds_toArray, List.set_cons_zero, List.set_cons_succ]
  refine rk_take (fuel := 3) 5 rfl (by kernel_rfl) (listed' := #[true, true, true, true, true, true, false, false, false]) (by kernel_rfl) (fun _ _ _ h => h) (by kernel_rfl) (fun w' hR => by go_simp; first | done | with_reducible rfl) rfl ?_
  try simp only [Act.put, List.setIfInBounds_toArray, List.set_cons_zero, List.set_cons_succ]
  refine rk_take (fuel := 2) 6 rfl (by kernel_rfl) (listed' := #[true, true, true, true, true, true, true, false, false]) (by kernel_rfl) (fun _ _ _ h => h) (by kernel_rfl) (fun w' hR => by go_simp; first | done | with_reducible rfl) rfl ?_
  try simp only [Act.put, List.setIfInBounds_toArray, List.set_cons_zero, List.set_cons_succ]
  refine rk_take (fuel := 1) 7 rfl (by kernel_rfl) (listed' := #[true, true, true, true, true, true, true, true, false]) (by kernel_rfl) (fun _ _ _ h => h) (by kernel_rfl) (fun w' hR => by go_simp; first | done | with_reducible rfl) rfl ?_
  try simp only [Act.put, List.setIfInBounds_toArray, List.set_cons_zero, List.set_cons_succ]
  refine rk_step (fuel := 0) 8 rfl (by kernel_rfl) (listed' := #[true, true, true, true, true, true, true, true, true]) (by kernel_rfl) (by kernel_rfl) (fun K' hK => ?_)
  (refine copy_step _ (.tmp 50) (.tmp 53) 23 23 rfl _ _ rfl rfl (hcpB _ _ _) ?_)
  refine hK.out _ _ HK3.out ?_
  clear hK K'
  try simp only [Act.put, List.setIfInBounds_toArray, List.set_cons_zero, List.set_cons_succ]
  refine rk_done (by kernel_rfl) ?_
  go_wp2
  go_ret
  exact ⟨G, c3, rfl, HG.out.1, HG.out.2, HR1.out, HFIN.out.1, HFIN.out.2, HB3.out⟩
set_option maxHeartbeats 2000000 in
set_option maxRecDepth 100000 in
theorem insB_grow (g n c i m : Nat) (cs vs : List Value) (w : World) (cur curv : Array Value) (hh : w.heap[g]? = some (.cells cur 24 (0, 0))) (hl : cs.length = n) (hcs : cur.size = c) (ht : cur.toList.take n = cs) (h1c : ∀ v ∈ cs, v.oneCell' = true) (hi : i < n) (hm : 0 < m) (hnc : n ≤ c) (hroom : c < n + m)
    (hvl : vs.length = m) (h1v : ∀ v ∈ vs, v.oneCell' = true) (bv vc : Nat) (hvh : w.heap[bv]? = some (.cells curv 24 (0, 0))) (hv : ∀ (j : Nat) (v : Value), vs[j]? = some v → curv[j]? = some v) (hn : n ≤ 1000) (hm9 : m ≤ 1000) :
    Calls Try.prog 66 #[.slice (some ⟨g, 0, none⟩) n c, .int .i64 i, .slice (some ⟨bv, 0, none⟩) m vc] w fun e w' => ∃ (G : Nat) (cur' : Array Value), e = .returned (.slice (some ⟨w.heap.size, 0, none⟩) (n + m) G) ∧ n + m ≤ G ∧ G ≤ maxLen ∧ w'.heap[w.heap.size]? = some (.cells cur' 24 (0, 0)) ∧ cur'.size = G ∧ cur'.toList.take (n + m) = ins cs i vs ∧ Below w.heap.size w w' := by
  obtain ⟨i0, hi0, hzz⟩ := Option.map_eq_some_iff.1 insB_info
  simp only [Prod.mk.injEq] at hzz
  obtain ⟨hz0, hz1, hz2⟩ := hzz
  have hsz : (Try.prog.info? 24).map (·.size) = some 1 := by rw [hi0]; simp [hz1]
  have hdl : (cs.drop i).length = n - i := by rw [List.length_drop, hl]
  have hcl : cur.toList.length = cur.size := Array.length_toList
  have hgl := blk_lt hh
  have hbl := blk_lt hvh
  have hcell : ∀ (j : Nat) (v : Value), cs[j]? = some v → w.cell? ⟨g, j, none⟩ = some v := fun j v hj => by
    rw [cell_of_row w g j cur 24 (0, 0) hh]
    rw [← ht, List.getElem?_take] at hj
    split at hj
    · rw [← hj]; simp
    · cases hj
  have hold : (Builtin.firstCells i0.size i (.slice (some ⟨g, 0, none⟩) i c)).run Try.prog w.drew = .ok (cs.take i).toArray w.drew := by
    rw [hz1]
    exact run_firstCells_some w.drew 1 i ⟨g, 0, none⟩ i c (cs.take i) (by rw [List.length_take]; omega) (fun j v hj => by
      rw [Addr.add_lit, Nat.zero_add]
      rw [List.getElem?_take] at hj
      split at hj
      · exact hcell j v hj
      · cases hj)
  have hkk : (n : Int) + (m : Int) - (i : Int) = ((n + m - i : Nat) : Int) := by omega
  have hik : i + (n + m - i) = n + m := by omega
  obtain ⟨G, hG⟩ : ∃ G, G = grownCap w (n + m) c 24 := ⟨_, rfl⟩
  obtain ⟨ROW, hROW⟩ : ∃ ROW : Array Value, ROW = (cs.take i).toArray ++ Builtin.zeroCells (Value.cells (.slice none 0 0)) (n + m - i) ++ Builtin.zeroCells (Value.cells (.slice none 0 0)) (G - (n + m)) := ⟨_, rfl⟩
  obtain ⟨W1, hW1⟩ : ∃ W1, W1 = w.drew.alloc (.cells ROW 24) := ⟨_, rfl⟩
  have hrz : ∀ ty, (Builtin.append_ #[61, 3] ty #[.slice (some ⟨g, 0, none⟩) i c, .int .i64 ((n : Int) + (m : Int) - (i : Int))]).run Try.prog w = .ok (.slice (some ⟨w.heap.size, 0, none⟩) (n + m) G) W1 := fun ty => by
    have h := Lib.run_append_grow_zeros (P := Try.prog) w 61 3 ty 24 i0 _ .i64 .i64 Try.underlying61 Try.underlying3 hi0 hz0 (some ⟨g, 0, none⟩) i c (cs.take i) hold (n + m - i) (by omega) (by omega) (by omega) (by omega) (by rw [hz2]; omega) (by rw [hz2, hik]; exact growslice_fits hroom (by omega))
    rw [hik] at h
    rw [hkk, hW1, hROW, hG]
    exact h
  have hGn : n + m ≤ G := by rw [hG]; exact grownCap_ge w _ _ _
  have hGM : G ≤ maxLen := by rw [hG]; exact grownCap_le_maxLen w (n + m) c 24 (by unfold maxLen; omega)
  have hG63 : G ≤ 9223372036854775807 := by unfold maxLen at hGM; omega
  have hRs : ROW.size = G := by
    rw [hROW]
    have hz1c : (Value.cells (.slice none 0 0)).size = 1 := rfl
    simp only [Array.size_append, List.size_toArray, size_zeroCells, List.length_take, hl, hz1c]
    omega
  have hNew : W1.heap[w.heap.size]? = some (.cells ROW 24 (0, 0)) := by rw [hW1]; exact heap_alloc_new w.drew _
  have hB1 : Below w.heap.size w W1 := by rw [hW1]; exact ((Below.refl w.heap.size w).drew).alloc (Nat.le_refl _) _
  have hRt : ROW.toList.take i = cs.take i := by
    rw [hROW]
    simp only [Array.toList_append]
    rw [List.append_assoc, List.take_append_of_le_length (by rw [List.length_take]; omega), List.take_of_length_le (by rw [List.length_take]; omega)]
  obtain ⟨c2, q1, q2, q3⟩ := setCells_row vs i W1 ROW hNew (by omega)
  obtain ⟨W2, hW2⟩ : ∃ W2, W2 = W1.setCells w.heap.size i vs := ⟨_, rfl⟩
  have hcpA : ∀ ty dc, (Builtin.copy_ #[61, 61] ty #[.slice (some ⟨w.heap.size, i, none⟩) (n + m - i) dc, .slice (some ⟨bv, 0, none⟩) m vc]).run Try.prog W1 = .ok (goInt vs.length) W2 := fun ty dc => by
    rw [hW2]
    exact run_copy_cells W1 _ _ ty 24 w.heap.size i (n + m - i) dc ⟨bv, 0, none⟩ m vc vs Try.underlying61 hsz (by rw [hvl]; simp only [Nat.min_def]; split <;> omega)
      (fun j v hj => by
        rw [Addr.add_lit, Nat.zero_add, cell_of_row W1 bv j curv 24 (0, 0) ((hB1.block bv hbl).trans hvh)]
        exact hv j v hj)
      (fun j hj => by rw [cell_of_row W1 w.heap.size _ ROW 24 (0, 0) hNew]; simp; omega) (fun j hj => blk_frozen hNew _) h1v
  rw [← hW2] at q1
  have hB2 : Below w.heap.size w W2 := by
    obtain ⟨s1, s2, s3, s4⟩ := setCells_same w.heap.size vs i W1
    have hk : Keep (· = w.heap.size) W1 W2 := by rw [hW2]; exact ⟨s1, s2, s3, by omega, fun k _ hk => setCells_far _ _ k hk⟩
    exact Keep.below_then hB1 hk hB1.size (fun k hk e => by omega)
  obtain ⟨c3, r1, r2, r3⟩ := setCells_row (cs.drop i) (i + m) W2.drew c2 q1 (by rw [hdl]; omega)
  obtain ⟨W3, hW3⟩ : ∃ W3, W3 = W2.drew.setCells w.heap.size (i + m) (cs.drop i) := ⟨_, rfl⟩
  rw [← hW3] at r1
  have hcpB : ∀ ty dc sc, (Builtin.copy_ #[61, 61] ty #[.slice (some ⟨w.heap.size, i + m, none⟩) (n + m - (i + m)) dc, .slice (some ⟨g, i, none⟩) (n - i) sc]).run Try.prog W2.drew = .ok (goInt (cs.drop i).length) W3 := fun ty dc sc => by
    rw [hW3]
    exact run_copy_cells W2.drew _ _ ty 24 w.heap.size (i + m) (n + m - (i + m)) dc ⟨g, i, none⟩ (n - i) sc (cs.drop i) Try.underlying61 hsz (by rw [hdl]; simp only [Nat.min_def]; split <;> omega)
      (fun j v hj => by
        rw [Addr.add_lit]
        have h1 := hcell (i + j) v (by rwa [List.getElem?_drop] at hj)
        show W2.cell? _ = _
        exact pw_cell_below hB2 h1)
      (fun j hj => by show (W2.cell? _).isSome = true; rw [cell_of_row W2 w.heap.size _ c2 24 (0, 0) q1]; simp; omega) (fun j hj => by show W2.frozen? _ = false; exact blk_frozen q1 _) (fun v hv => h1c v (List.mem_of_mem_drop hv))
  have hkp3 : Keep (· = w.heap.size) W2.drew W3 := by
    obtain ⟨s1, s2, s3, s4⟩ := setCells_same w.heap.size (cs.drop i) (i + m) W2.drew
    rw [hW3]
    exact ⟨s1, s2, s3, by omega, fun k _ hk => setCells_far _ _ k hk⟩
  have HK3 := Aside0.mk hkp3
  have HB3 := Aside0.mk (show Below w.heap.size w W3 from Keep.below_then hB2.drew hkp3 hB2.size (fun k hk e => by omega))
  have HFIN := Aside0.mk (show c3.size = G ∧ c3.toList.take (n + m) = ins cs i vs from ⟨by omega, by
    have hc2l : c2.toList.length = c2.size := Array.length_toList
    have hrl : ROW.toList.length = ROW.size := Array.length_toList
    have hl1 : (cs.take i).length = i := by rw [List.length_take]; omega
    have e0 : c2.toList.take (i + m) = cs.take i ++ vs := by
      rw [q3, hRt, List.take_append_of_le_length (by simp only [List.length_append, hl1, hvl]; omega), List.take_of_length_le (by simp only [List.length_append, hl1, hvl]; omega)]
    rw [r3, e0]
    unfold ins
    rw [List.take_append_of_le_length (by simp only [List.length_append, hl1, hdl, hvl]; omega), List.take_of_length_le (by simp only [List.length_append, hl1, hdl, hvl]; omega)]⟩)
  have HR1 := Aside0.mk r1
  have mixed : Try.prog.follows .mixedOrders = true := by kernel_rfl
  have hw1 : IntKind.i64.wrap ((i : Int) + (m : Int)) = (i : Int) + (m : Int) := by rw [IntKind.wrap_i64]; omega
  have hb1 : (0 : Int) ≤ (i : Int) + (m : Int) := by omega
  have hin : i ≤ n := by omega
  have htn : ((i : Int) + (m : Int)).toNat = i + m := by omega
  have hb3 : (i : Int) ≤ (n : Int) := by omega
  have hGi : ¬ (G = i) := by omega
  have hGim : ¬ (G = i + m) := by omega
  have hci : ¬ (c = i) := by omega
  have hz1' : ¬ ((m : Int) = 0) := by omega
  have hz2' : ¬ ((i : Int) = (n : Int)) := by omega
  have hz3 : (c : Int) < (n : Int) + (m : Int) := by omega
  have HG := Aside0.mk (And.intro hGn hGM)
  clear hW1 hW2 hW3 hROW hG hcell hold hkk hik hRs hNew hB1 hB2 hRt q1 q2 q3 r1 r2 r3 hkp3 hh hvh ht hcl hgl hbl hGM
  go_enter Try.func66, Try.ntmps66
  go_wp2_with (first
    | (at_builtin; refine Lib.wpList_append_run _ rfl _ _ _ _ rfl _ _ rfl rfl _ _ (hrz _) ?_)
    | (at_builtin; refine copy_list _ rfl (.tmp 43) (.tmp 44) 61 61 rfl _ _ rfl rfl (hcpA _ _) ?_))
  refine rk_start ((· = w.heap.size)) (by kernel_rfl) (n := 9) (l := #[false, false, false, false, false, false, false, false, false]) (by kernel_rfl) (by kernel_rfl) ?_
  refine rk_take (fuel := 8) 0 rfl (by kernel_rfl) (listed' := #[true, false, false, false, false, false, false, false, false]) (by kernel_rfl) (fun _ _ _ h => h) (by kernel_rfl) (fun w' hR => by go_simp; first | done | with_reducible rfl) rfl ?_
  try simp only [Act.put, List.setIfInBounds_toArray, List.set_cons_zero, List.set_cons_succ]
  refine rk_take (fuel := 7) 1 rfl (by kernel_rfl) (listed' := #[true, true, false, false, false, false, false, false, false]) (by kernel_rfl) (fun _ _ _ h => h) (by kernel_rfl) (fun w' hR => by go_simp; first | done | with_reducible rfl) rfl ?_
  try simp only [Act.put, List.setIfInBounds_toArray, List.set_cons_zero, List.set_cons_succ]
  refine rk_take (fuel := 6) 2 rfl (by kernel_rfl) (listed' := #[true, true, true, false, false, false, false, false, false]) (by kernel_rfl) (fun _ _ _ h => h) (by kernel_rfl) (fun w' hR => by go_simp; first | done | with_reducible rfl) rfl ?_
  try simp only [Act.put, List.setIfInBounds_toArray, List.set_cons_zero, List.set_cons_succ]
  refine rk_take (fuel := 5) 3 rfl (by kernel_rfl) (listed' := #[true, true, true, true, false, false, false, false, false]) (by kernel_rfl) (fun _ _ _ h => h) (by kernel_rfl) (fun w' hR => by go_simp; first | done | with_reducible rfl) rfl ?_
  try simp only [Act.put, List.setIfInBounds_toArray, List.set_cons_zero, List.set_cons_succ]
  refine rk_take (fuel := 4) 4 rfl (by kernel_rfl) (listed' := #[true, true, true, true, true, false, false, false, false]) (by kernel_rfl) (fun _ _ _ h => h) (by kernel_rfl) (fun w' hR => by go_simp; first | done | with_reducible rfl) rfl ?_
  try simp only [Act.put, List.setIfInBounds_toArray, List.set_cons_zero, List.set_cons_succ]
  refine rk_take (fuel := 3) 5 rfl (by kernel_rfl) (listed' := #[true, true, true, true, true, true, false, false, false]) (by kernel_rfl) (fun _ _ _ h => h) (by kernel_rfl) (fun w' hR => by go_simp; first | done | with_reducible rfl) rfl ?_
  try simp only [Act.put, List.setIfInBounds_toArray, List.set_cons_zero, List.set_cons_succ]
  refine rk_take (fuel := 2) 6 rfl (by kernel_rfl) (listed' := #[true, true, true, true, true, true, true, false, false]) (by kernel_rfl) (fun _ _ _ h => h) (by kernel_rfl) (fun w' hR => by go_simp; first | done | with_reducible rfl) rfl ?_
  try simp only [Act.put, List.setIfInBounds_toArray, List.set_cons_zero, List.set_cons_succ]
  refine rk_take (fuel := 1) 7 rfl (by kernel_rfl) (listed' := #[true, true, true, true, true, true, true, true, false]) (by kernel_rfl) (fun _ _ _ h => h) (by kernel_rfl) (fun w' hR => by go_simp; first | done | with_reducible rfl) rfl ?_
  try simp only [Act.put, List.setIfInBounds_toArray, List.set_cons_zero, List.set_cons_succ]
  refine rk_step (fuel := 0) 8 rfl (by kernel_rfl) (listed' := #[true, true, true, true, true, true, true, true, true]) (by kernel_rfl) (by kernel_rfl) (fun K' hK => ?_)
  (refine copy_step _ (.tmp 50) (.tmp 53) 61 61 rfl _ _ rfl rfl (hcpB _ _ _) ?_)
  refine hK.out _ _ HK3.out ?_
  clear hK K'
  try simp only [Act.put, List.setIfInBounds_toArray, List.set_cons_zero, List.set_cons_succ]
  refine rk_done (by kernel_rfl) ?_
  go_wp2
  go_ret
  exact ⟨G, c3, rfl, HG.out.1, HG.out.2, HR1.out, HFIN.out.1, HFIN.out.2, HB3.out⟩
/-- A put among cells of one's own: all roads. -/
theorem insI_calls (A : Option Addr) (n c i : Nat) (cs vs : List Value) (m : Nat) (base : Nat) (w : World) (HO : w.ownsRow base 3 1 (.slice A n c) n cs) (hi : i ≤ n) (hm : 0 < m) (hvl : vs.length = m) (h1c : ∀ v ∈ cs, v.oneCell' = true) (h1v : ∀ v ∈ vs, v.oneCell' = true) (bv vc : Nat) (curv : Array Value) (hvh : w.heap[bv]? = some (.cells curv 3 (0, 0))) (hv : ∀ (j : Nat) (v : Value), vs[j]? = some v → curv[j]? = some v) (hne : ∀ a, A = some a → bv ≠ a.block) (hn : n ≤ 1000) (hm9 : m ≤ 1000) (hbase : base ≤ w.heap.size) :
    Calls Try.prog 65 #[.slice A n c, .int .i64 i, .slice (some ⟨bv, 0, none⟩) m vc] w fun e w' => ∃ v', e = .returned v' ∧ w'.ownsRow base 3 1 v' (n + m) (ins cs i vs) ∧ w.grownBy w' (Value.slice A n c).ownBlock ∧ (v'.ownBlock = (Value.slice A n c).ownBlock ∨ ∃ b, v'.ownBlock = some b ∧ w.heap.size ≤ b) := by
  have hcs : cs.length = n := by have := HO.1; omega
  have hnc : n ≤ c := by
    rcases HO.2 with ⟨h, h0⟩ | ⟨g, cap, cur, e1, _, _, h1, _⟩
    · omega
    · injection e1 with _ _ e3
      omega
  rcases Nat.lt_or_ge i n with hlt | hge
  · rcases HO.2 with ⟨h, h0⟩ | ⟨g, cap, cur, e1, hb, hh, h1, h2, h3, h4⟩
    · omega
    · injection e1 with e1 e2 e3
      subst e1 e3
      have hgl := blk_lt hh
      rw [Nat.mul_one] at h3 h4
      have hc63 : c ≤ 9223372036854775807 := by unfold maxLen at h2; omega
      by_cases hroom : n + m ≤ c
      · refine (insI_room g n c i m cs vs w cur curv hh hcs h3 h4 h1c hlt hm hroom hc63 hvl h1v bv vc hvh hv (hne _ rfl) hn hm9).mono ?_
        rintro e w' ⟨rfl, rfl⟩
        obtain ⟨cur', q1, q2, q3⟩ := row_ins (w := w.drew) (vs := vs) hh hcs h4 (by omega) (by omega : i ≤ n)
        rw [hvl] at q1 q3
        refine ⟨_, rfl, ⟨by unfold ins; simp only [List.length_append, List.length_take, List.length_drop]; omega, .inr ⟨g, c, cur', rfl, hb, q1, hroom, h2, by omega, by rw [Nat.mul_one]; exact q3⟩⟩, ?_, .inl rfl⟩
        obtain ⟨s1, s2, s3, s4⟩ := setCells_same g (cs.drop i) (i + m) w.drew
        obtain ⟨t1, t2, t3, t4⟩ := setCells_same g vs i (w.drew.setCells g (i + m) (cs.drop i))
        refine ⟨t1.trans s1, t2.trans s2, t3.trans s3, by rw [t4, s4]; exact Nat.le_refl _, fun k hk hne2 => ?_⟩
        have hkg : k ≠ g := fun e => hne2 (by rw [e]; rfl)
        exact (setCells_far _ _ k hkg).trans (setCells_far _ _ k hkg)
      · refine (insI_grow g n c i m cs vs w cur curv hh hcs h3 h4 h1c hlt hm hnc (by omega) hvl h1v bv vc hvh hv hn hm9).mono ?_
        rintro e w' ⟨G, cur', rfl, g1, g2, g3, g4, g5, g6⟩
        refine ⟨_, rfl, ⟨by unfold ins; simp only [List.length_append, List.length_take, List.length_drop]; omega, .inr ⟨w.heap.size, G, cur', rfl, hbase, g3, g1, g2, by omega, by rw [Nat.mul_one]; exact g5⟩⟩, ⟨g6.os, g6.tape, g6.output, g6.size, fun k hk _ => g6.block k hk⟩, .inr ⟨_, rfl, Nat.le_refl _⟩⟩
  · obtain rfl : i = n := by omega
    have e : ins cs i vs = cs ++ vs := by rw [← hcs]; exact ins_end cs vs
    rw [e]
    exact insI_end A i c m cs vs base w HO hnc hm hvl h1v bv vc (fun j v hj => by rw [cell_of_row w bv j curv 3 (0, 0) hvh]; exact hv j v hj) hn hm9 hbase
/-- A put among cells of one's own: all roads. -/
theorem insB_calls (A : Option Addr) (n c i : Nat) (cs vs : List Value) (m : Nat) (base : Nat) (w : World) (HO : w.ownsRow base 24 1 (.slice A n c) n cs) (hi : i ≤ n) (hm : 0 < m) (hvl : vs.length = m) (h1c : ∀ v ∈ cs, v.oneCell' = true) (h1v : ∀ v ∈ vs, v.oneCell' = true) (bv vc : Nat) (curv : Array Value) (hvh : w.heap[bv]? = some (.cells curv 24 (0, 0))) (hv : ∀ (j : Nat) (v : Value), vs[j]? = some v → curv[j]? = some v) (hne : ∀ a, A = some a → bv ≠ a.block) (hn : n ≤ 1000) (hm9 : m ≤ 1000) (hbase : base ≤ w.heap.size) :
    Calls Try.prog 66 #[.slice A n c, .int .i64 i, .slice (some ⟨bv, 0, none⟩) m vc] w fun e w' => ∃ v', e = .returned v' ∧ w'.ownsRow base 24 1 v' (n + m) (ins cs i vs) ∧ w.grownBy w' (Value.slice A n c).ownBlock ∧ (v'.ownBlock = (Value.slice A n c).ownBlock ∨ ∃ b, v'.ownBlock = some b ∧ w.heap.size ≤ b) := by
  have hcs : cs.length = n := by have := HO.1; omega
  have hnc : n ≤ c := by
    rcases HO.2 with ⟨h, h0⟩ | ⟨g, cap, cur, e1, _, _, h1, _⟩
    · omega
    · injection e1 with _ _ e3
      omega
  rcases Nat.lt_or_ge i n with hlt | hge
  · rcases HO.2 with ⟨h, h0⟩ | ⟨g, cap, cur, e1, hb, hh, h1, h2, h3, h4⟩
    · omega
    · injection e1 with e1 e2 e3
      subst e1 e3
      have hgl := blk_lt hh
      rw [Nat.mul_one] at h3 h4
      have hc63 : c ≤ 9223372036854775807 := by unfold maxLen at h2; omega
      by_cases hroom : n + m ≤ c
      · refine (insB_room g n c i m cs vs w cur curv hh hcs h3 h4 h1c hlt hm hroom hc63 hvl h1v bv vc hvh hv (hne _ rfl) hn hm9).mono ?_
        rintro e w' ⟨rfl, rfl⟩
        obtain ⟨cur', q1, q2, q3⟩ := row_ins (w := w.drew) (vs := vs) hh hcs h4 (by omega) (by omega : i ≤ n)
        rw [hvl] at q1 q3
        refine ⟨_, rfl, ⟨by unfold ins; simp only [List.length_append, List.length_take, List.length_drop]; omega, .inr ⟨g, c, cur', rfl, hb, q1, hroom, h2, by omega, by rw [Nat.mul_one]; exact q3⟩⟩, ?_, .inl rfl⟩
        obtain ⟨s1, s2, s3, s4⟩ := setCells_same g (cs.drop i) (i + m) w.drew
        obtain ⟨t1, t2, t3, t4⟩ := setCells_same g vs i (w.drew.setCells g (i + m) (cs.drop i))
        refine ⟨t1.trans s1, t2.trans s2, t3.trans s3, by rw [t4, s4]; exact Nat.le_refl _, fun k hk hne2 => ?_⟩
        have hkg : k ≠ g := fun e => hne2 (by rw [e]; rfl)
        exact (setCells_far _ _ k hkg).trans (setCells_far _ _ k hkg)
      · refine (insB_grow g n c i m cs vs w cur curv hh hcs h3 h4 h1c hlt hm hnc (by omega) hvl h1v bv vc hvh hv hn hm9).mono ?_
        rintro e w' ⟨G, cur', rfl, g1, g2, g3, g4, g5, g6⟩
        refine ⟨_, rfl, ⟨by unfold ins; simp only [List.length_append, List.length_take, List.length_drop]; omega, .inr ⟨w.heap.size, G, cur', rfl, hbase, g3, g1, g2, by omega, by rw [Nat.mul_one]; exact g5⟩⟩, ⟨g6.os, g6.tape, g6.output, g6.size, fun k hk _ => g6.block k hk⟩, .inr ⟨_, rfl, Nat.le_refl _⟩⟩
  · obtain rfl : i = n := by omega
    have e : ins cs i vs = cs ++ vs := by rw [← hcs]; exact ins_end cs vs
    rw [e]
    exact insB_end A i c m cs vs base w HO hnc hm hvl h1v bv vc (fun j v hj => by rw [cell_of_row w bv j curv 24 (0, 0) hvh]; exact hv j v hj) hn hm9 hbase
end Go.Proofs.Ytfcpnjoiloahcaa.Ta
namespace Go.Proofs.Ytfcpnjoiloahcaa.Ta
open Go.RowKit Go.Proofs.YtfcpnjoiloahcaaW.PrintWords Go.Proofs.YtfcpnjoiloahcaaW.PrintLast Go.Proofs.YtfcpnjoiloahcaaW.PrintMore Go.Proofs.Ytfcpnjoiloahcaa.B Go.Proofs.Ytfcpnjoiloahcaa.R Go.Proofs.Ytfcpnjoiloahcaa.S
set_option linter.unusedVariables false
set_option linter.unusedSimpArgs false
abbrev Tab := List (Int × List Int)
def keysT (t : Tab) : List Int := t.map (·.1)
def getT : Tab → Int → Option (List Int)
  | [], _ => none
  | (a, x) :: t, k => if a = k then some x else getT t k
def putT : Tab → Int → List Int → Tab
  | [], k, v => [(k, v)]
  | (a, x) :: t, k, v => if k < a then (k, v) :: (a, x) :: t else (a, x) :: putT t k v
theorem keys_len (t : Tab) : (keysT t).length = t.length := by simp [keysT]
theorem get_mem : ∀ (t : Tab) (k : Int), (getT t k).isSome = true ↔ k ∈ keysT t
  | [], k => by simp [getT, keysT]
  | (a, x) :: t, k => by
    have ih := get_mem t k
    unfold getT
    by_cases h : a = k
    · subst h; simp [keysT]
    · rw [if_neg h, ih]
      simp only [keysT, List.map_cons, List.mem_cons]
      exact ⟨.inr, fun h' => h'.resolve_left (fun e => h e.symm)⟩
theorem get_none {t : Tab} {k : Int} (h : getT t k = none) : k ∉ keysT t := fun hm => by
  rw [← get_mem, h] at hm
  cases hm
theorem get_some {t : Tab} {k : Int} {v : List Int} (h : getT t k = some v) : k ∈ keysT t := by rw [← get_mem, h]; rfl
theorem none_of {t : Tab} {k : Int} (h : k ∉ keysT t) : getT t k = none := by
  rw [← get_mem] at h
  simpa using h
theorem get_in : ∀ {t : Tab} {k : Int} {v : List Int}, getT t k = some v → (k, v) ∈ t
  | (a, x) :: t, k, v, h => by
    unfold getT at h
    split at h
    · rename_i e
      subst e
      injection h with h
      subst h
      exact List.mem_cons_self ..
    · exact List.mem_cons_of_mem _ (get_in h)
theorem get_at {t : Tab} (hr : Inc (keysT t)) : ∀ {k : Int} {v : List Int} {i : Nat}, t[i]? = some (k, v) → getT t k = some v := by
  induction t with
  | nil => intro k v i h; cases h
  | cons p t ih =>
    obtain ⟨a, x⟩ := p
    intro k v i h
    unfold getT
    rcases i with _ | i
    · simp only [List.getElem?_cons_zero, Option.some.injEq, Prod.mk.injEq] at h
      rw [if_pos h.1, h.2]
    · rw [List.getElem?_cons_succ] at h
      have hm : k ∈ keysT t := List.mem_map.2 ⟨(k, v), List.mem_of_getElem? h, rfl⟩
      have hlt : a < k := (List.pairwise_cons.1 hr).1 k hm
      rw [if_neg (by omega)]
      exact ih (List.pairwise_cons.1 hr).2 h
theorem get_put : ∀ {t : Tab} {k : Int} {v : List Int} (j : Int), k ∉ keysT t → getT (putT t k v) j = if k = j then some v else getT t j
  | [], k, v, j, h => by simp [putT, getT]
  | (a, x) :: t, k, v, j, h => by
    simp only [keysT, List.map_cons, List.mem_cons, not_or] at h
    unfold putT
    split
    · rw [getT]
    · rw [getT, get_put j h.2]
      by_cases e1 : a = j
      · rw [if_pos e1, getT, if_pos e1, if_neg (by omega)]
      · rw [if_neg e1, getT, if_neg e1]
theorem mem_put : ∀ {t : Tab} {k : Int} {v : List Int} {p : Int × List Int}, p ∈ putT t k v ↔ p = (k, v) ∨ p ∈ t
  | [], k, v, p => by simp [putT]
  | (a, x) :: t, k, v, p => by
    unfold putT
    split
    · simp
    · rw [List.mem_cons, mem_put, List.mem_cons]
      constructor
      · rintro (h | h | h)
        · exact .inr (.inl h)
        · exact .inl h
        · exact .inr (.inr h)
      · rintro (h | h | h)
        · exact .inr (.inl h)
        · exact .inl h
        · exact .inr (.inr h)
theorem key_put {t : Tab} {k : Int} {v : List Int} {j : Int} : j ∈ keysT (putT t k v) ↔ j = k ∨ j ∈ keysT t := by
  simp only [keysT, List.mem_map]
  constructor
  · rintro ⟨p, hp, rfl⟩
    rcases mem_put.1 hp with rfl | h
    · exact .inl rfl
    · exact .inr ⟨p, h, rfl⟩
  · rintro (rfl | ⟨p, hp, rfl⟩)
    · exact ⟨_, mem_put.2 (.inl rfl), rfl⟩
    · exact ⟨p, mem_put.2 (.inr hp), rfl⟩
theorem len_put : ∀ (t : Tab) (k : Int) (v : List Int), (putT t k v).length = t.length + 1
  | [], k, v => rfl
  | (a, x) :: t, k, v => by
    unfold putT
    split
    · rfl
    · simp [len_put t k v]
theorem inc_put : ∀ {t : Tab} {k : Int} {v : List Int}, Inc (keysT t) → k ∉ keysT t → Inc (keysT (putT t k v))
  | [], k, v, h, hk => by simp [putT, keysT, Inc]
  | (a, x) :: t, k, v, h, hk => by
    simp only [keysT, List.map_cons, List.mem_cons, not_or] at hk
    have h' := List.pairwise_cons.1 h
    unfold putT
    split
    · rename_i hlt
      refine List.pairwise_cons.2 ⟨fun y hy => ?_, h⟩
      rcases List.mem_cons.1 hy with rfl | hy
      · exact hlt
      · exact Int.lt_trans hlt (h'.1 y hy)
    · refine List.pairwise_cons.2 ⟨fun y hy => ?_, inc_put h'.2 hk.2⟩
      rcases key_put.1 hy with rfl | hy
      · show a < y; omega
      · exact h'.1 y hy
theorem put_place : ∀ {t : Tab} {k : Int} (v : List Int) {i : Nat}, Place (keysT t) k i → k ∉ keysT t → putT t k v = t.take i ++ (k, v) :: t.drop i
  | [], k, v, i, h, hk => by simp [putT]
  | (a, x) :: t, k, v, i, h, hk => by
    simp only [keysT, List.map_cons, List.mem_cons, not_or] at hk
    rcases i with _ | i
    · have := h.2.2 0 a (Nat.le_refl _) rfl
      rw [putT, if_pos (by omega)]
      rfl
    · have h0 := h.2.1 0 a (by omega) rfl
      have ih := put_place (t := t) v (i := i) ⟨by have := h.1; simpa [keysT] using this, fun j b hj hb => h.2.1 (j + 1) b (by omega) hb, fun j b hj hb => h.2.2 (j + 1) b (by omega) hb⟩ hk.2
      rw [putT, if_neg (by omega), ih]
      rfl
theorem place_keys {t : Tab} {k : Int} {v : List Int} {i : Nat} (h : Place (keysT t) k i) (hk : k ∉ keysT t) : keysT (putT t k v) = (keysT t).take i ++ k :: (keysT t).drop i := by
  rw [put_place v h hk]
  simp [keysT]
theorem place_vals {t : Tab} {k : Int} {v : List Int} {i : Nat} (h : Place (keysT t) k i) (hk : k ∉ keysT t) : (putT t k v).map (·.2) = (t.map (·.2)).take i ++ v :: (t.map (·.2)).drop i := by
  rw [put_place v h hk]
  simp
/-- Numbers that rise and lie in a span are no more than it is wide. -/
theorem inc_len : ∀ {l : List Int} {a b : Int}, Inc l → (∀ x ∈ l, a ≤ x ∧ x < b) → (l.length : Int) ≤ b - a ∨ l = []
  | [], a, b, h, hb => .inr rfl
  | x :: l, a, b, h, hb => by
    have h' := List.pairwise_cons.1 h
    have hx := hb x (List.mem_cons_self ..)
    refine .inl ?_
    rcases inc_len (a := x + 1) (b := b) h'.2 (fun y hy => ⟨h'.1 y hy, (hb y (List.mem_cons_of_mem _ hy)).2⟩) with h1 | h1
    · simp only [List.length_cons]; omega
    · subst h1; simp only [List.length_cons, List.length_nil]; omega
/-- Numbers that rise are told by what is among them. -/
theorem inc_ext : ∀ {l m : List Int}, Inc l → Inc m → (∀ x, x ∈ l ↔ x ∈ m) → l = m
  | [], [], _, _, _ => rfl
  | [], y :: m, _, _, h => by have := (h y).2 (List.mem_cons_self ..); cases this
  | x :: l, [], _, _, h => by have := (h x).1 (List.mem_cons_self ..); cases this
  | x :: l, y :: m, hl, hm, h => by
    have hl' := List.pairwise_cons.1 hl
    have hm' := List.pairwise_cons.1 hm
    have e : x = y := by
      rcases List.mem_cons.1 ((h x).1 (List.mem_cons_self ..)) with e | h1
      · exact e
      · rcases List.mem_cons.1 ((h y).2 (List.mem_cons_self ..)) with e | h2
        · exact e.symm
        · have := hm'.1 x h1; have := hl'.1 y h2; omega
    subst e
    rw [inc_ext hl'.2 hm'.2 fun z => ?_]
    constructor
    · intro hz
      rcases List.mem_cons.1 ((h z).1 (List.mem_cons_of_mem _ hz)) with e | h1
      · have := hl'.1 z hz; omega
      · exact h1
    · intro hz
      rcases List.mem_cons.1 ((h z).2 (List.mem_cons_of_mem _ hz)) with e | h1
      · have := hm'.1 z hz; omega
      · exact h1
/-- A book's table. -/
structure TOk (t : Tab) : Prop where
  inc : Inc (keysT t)
  key : ∀ k ∈ keysT t, 0 ≤ k ∧ k < 16
  val : ∀ p ∈ t, By p.2 ∧ p.2.length ≤ 1000000
theorem TOk.nil : TOk [] := ⟨List.Pairwise.nil, fun _ h => (by cases h), fun _ h => (by cases h)⟩
theorem TOk.len {t : Tab} (h : TOk t) : t.length ≤ 16 := by
  have h1 := inc_len h.inc h.key
  rw [← keys_len]
  rcases h1 with h1 | h1
  · omega
  · rw [h1]; simp
theorem TOk.put {t : Tab} {k : Int} {v : List Int} (h : TOk t) (hk : k ∉ keysT t) (h0 : 0 ≤ k) (h1 : k < 16) (hv : By v) (hl : v.length ≤ 1000000) : TOk (putT t k v) :=
  ⟨inc_put h.inc hk, fun j hj => (key_put.1 hj).elim (fun e => by omega) (h.key j), fun p hp => (mem_put.1 hp).elim (fun e => by subst e; exact ⟨hv, hl⟩) (h.val p)⟩
theorem TOk.get {t : Tab} {k : Int} {v : List Int} (h : TOk t) (hg : getT t k = some v) : By v ∧ v.length ≤ 1000000 := h.val _ (get_in hg)
end Go.Proofs.Ytfcpnjoiloahcaa.Ta
namespace Go.Proofs.Ytfcpnjoiloahcaa.Ta
open Go.RowKit Go.Proofs.YtfcpnjoiloahcaaW.PrintWords Go.Proofs.YtfcpnjoiloahcaaW.PrintLast Go.Proofs.YtfcpnjoiloahcaaW.PrintMore Go.Proofs.Ytfcpnjoiloahcaa.B Go.Proofs.Ytfcpnjoiloahcaa.R Go.Proofs.Ytfcpnjoiloahcaa.S
set_option linter.unusedVariables false
set_option linter.unusedSimpArgs false
set_option maxRecDepth 100000 in
theorem cloneI_calls (A : Option Addr) (c n : Nat) (l : List Int) (hn : l.length = n) (w : World) (hC : kI.C w A n l) (hll : n ≤ 1000000) :
    Calls Try.prog 68 #[.slice A n c] w fun e w' => ∃ v, e = .returned v ∧ kI.R 3 w' w.heap.size (fun _ => True) v l ∧ Below w.heap.size w w' := by
  subst hn
  have HC := Aside0.mk hC
  have heq := fun (A : Option Addr) (n c : Nat) (W : World) => Lib.run_eql_slice_nil (P := Try.prog) W 23 3 A n c 0 0 Try.underlying23
  cases A with
  | none =>
    have hl : l = [] := by
      rcases Nat.eq_zero_or_pos l.length with h | h
      · exact List.eq_nil_of_length_eq_zero h
      · obtain ⟨ad, e, _⟩ := hC.2.2 h; cases e
    subst hl
    clear hC
    go_enter Try.func68, Try.ntmps68
    go_wp2
    go_ret
    exact ⟨_, rfl, Kd.R_nil _ _ _ _ _, Below.refl _ _⟩
  | some a =>
    clear hC
    go_enter Try.func68, Try.ntmps68
    go_wp2_with (first | ((with_reducible refine gate_builtin (b := .append) (xs := #[.tmp 5, .tmp 6]) rfl ?_); at_builtin; refine Kd.R_append_rows kI (w0 := w) w.heap.size rfl (.tmp 5) (.tmp 6) 23 3 (.int .i64 0) 8 rfl Try.underlying23 insI_info rfl (by decide) (by omega) (.slice (some ⟨w.heap.size, 0, none⟩) 0 0) ([] : List Int) l _ _ _ (fun _ => True) (fun _ => False) rfl rfl ?aO ?aR (fun _ _ h => h) (fun _ h => h.elim) ?aF ?aB ?aS ?aL ?_; (case aR => exact Kd.C_alloc HC.out _); (case aB => exact (Below.refl _ _).alloc (Nat.le_refl _) _); (case aF => exact (fun _ _ => trivial)); (case aO => exact R_lit0 kI 3 w); (case aS => simp); (case aL => (simp only [List.length_nil]; omega)); (intro v1 w1 ho hb1 hg hat; rw [List.nil_append] at ho; have HO := Aside0.mk ho; have HW := Aside0.mk hb1; clear ho hb1 hg hat)))
    go_ret
    exact ⟨_, rfl, HO.out, HW.out⟩
/-! ### The table -/
/-- Slices of bytes, cell by cell; their blocks are among V. -/
def Vals (w : World) (V : Nat → Prop) (cs : List Value) (vs : List (List Int)) : Prop :=
  cs.length = vs.length ∧ ∀ (i : Nat) (c : Value) (v : List Int), cs[i]? = some c → vs[i]? = some v → ∃ (A : Option Addr) (m : Nat), c = .slice A v.length m ∧ v.length ≤ m ∧ kU8.C w A v.length v ∧ ∀ a, A = some a → V a.block ∧ a.block < w.heap.size
/-- A book's block: its file, its size, its table. -/
def TabP (w : World) (g : Nat) (fv : Value) (size : Int) (own : Nat → Prop) (t : Tab) : Prop :=
  ∃ (A1 A2 : Option Addr) (c1 c2 : Nat) (cs : List Value) (V : Nat → Prop),
    w.heap[g]? = some (.cells #[fv, .int .i64 size, .slice A1 t.length c1, .slice A2 t.length c2] 84 (0, 0)) ∧
    w.ownsRow 0 3 1 (.slice A1 t.length c1) t.length ((keysT t).map (Value.int .i64)) ∧
    w.ownsRow 0 24 1 (.slice A2 t.length c2) t.length cs ∧ Vals w V cs (t.map (·.2)) ∧
    (∀ a, A1 = some a → own a.block ∧ a.block ≠ g ∧ ¬ V a.block) ∧ (∀ a, A2 = some a → own a.block ∧ a.block ≠ g ∧ ¬ V a.block) ∧
    (∀ a b, A1 = some a → A2 = some b → a.block ≠ b.block) ∧ (∀ k, V k → own k ∧ k ≠ g) ∧ own g ∧ ∀ k, own k → k < w.heap.size
theorem C_of_row {k : IntKind} {w : World} {E n c : Nat} {A : Option Addr} {xs : List Int} (h : w.ownsRow 0 E 1 (.slice A n c) n (xs.map (Value.int k))) (hn : n ≤ 9223372036854775807) : (Kd.int k).C w A n xs ∧ xs.length = n ∧ n ≤ c := by
  have hl : xs.length = n := by have := h.1; simp at this; omega
  rcases h.2 with ⟨h1, h0⟩ | ⟨g, cap, cur, e1, hb, hh, h1, h2, h3, h4⟩
  · exact ⟨⟨hl, hn, fun h => absurd h (by omega)⟩, hl, by omega⟩
  · injection e1 with e1 e2 e3
    subst e1 e3
    refine ⟨⟨hl, hn, fun _ => ⟨_, rfl, fun j p hj => ⟨[.int k p], rfl, rfl, fun i u hu => ?_⟩⟩⟩, hl, h1⟩
    obtain ⟨rfl, rfl⟩ : i = 0 ∧ u = .int k p := by
      rcases i with _ | i
      · exact ⟨rfl, by simpa using hu.symm⟩
      · simp at hu
    have hj0 := (List.getElem?_eq_some_iff.1 hj).1
    have h5 : (cur.toList.take (n * 1))[j]? = some (.int k p) := by rw [h4, List.getElem?_map, hj]; rfl
    show w.cell? (Addr.add _ (j * 1 + 0)) = _
    rw [Nat.mul_one, Nat.add_zero]
    have hadd : (⟨g, 0, none⟩ : Addr).add j = ⟨g, j, none⟩ := by unfold Addr.add; split <;> simp_all
    rw [hadd, cell_of_row w g j cur E (0, 0) hh]
    rw [List.getElem?_take] at h5
    split at h5
    · rw [← h5]; simp
    · cases h5
theorem row_cell {w : World} {E n c : Nat} {A : Option Addr} {cs : List Value} (h : w.ownsRow 0 E 1 (.slice A n c) n cs) {i : Nat} {v : Value} (hi : cs[i]? = some v) : ∃ g, A = some ⟨g, 0, none⟩ ∧ w.cell? ⟨g, i, none⟩ = some v ∧ w.frozen? ⟨g, i, none⟩ = false := by
  have hl : cs.length = n := by have := h.1; omega
  have hi0 := (List.getElem?_eq_some_iff.1 hi).1
  rcases h.2 with ⟨h1, h0⟩ | ⟨g, cap, cur, e1, hb, hh, h1, h2, h3, h4⟩
  · omega
  · injection e1 with e1 e2 e3
    refine ⟨g, e1, ?_, blk_frozen hh i⟩
    have h5 : (cur.toList.take (n * 1))[i]? = some v := by rw [h4, hi]
    rw [cell_of_row w g i cur E (0, 0) hh]
    rw [List.getElem?_take] at h5
    split at h5
    · rw [← h5]; simp
    · cases h5
theorem Vals.step {w w' : World} {V : Nat → Prop} {cs : List Value} {vs : List (List Int)} (h : Vals w V cs vs) (hs : w.heap.size ≤ w'.heap.size) (hk : ∀ k, V k → k < w.heap.size → w'.heap[k]? = w.heap[k]?) : Vals w' V cs vs :=
  ⟨h.1, fun i c v hc hv => by
    obtain ⟨A, m, h1, h2, h3, h4⟩ := h.2 i c v hc hv
    exact ⟨A, m, h1, h2, C_blk h3 (fun a e => hk _ (h4 a e).1 (h4 a e).2), fun a e => ⟨(h4 a e).1, Nat.lt_of_lt_of_le (h4 a e).2 hs⟩⟩⟩
theorem Vals.mono {w : World} {V V' : Nat → Prop} {cs : List Value} {vs : List (List Int)} (h : Vals w V cs vs) (hV : ∀ k, V k → V' k) : Vals w V' cs vs :=
  ⟨h.1, fun i c v hc hv => by
    obtain ⟨A, m, h1, h2, h3, h4⟩ := h.2 i c v hc hv
    exact ⟨A, m, h1, h2, h3, fun a e => ⟨hV _ (h4 a e).1, (h4 a e).2⟩⟩⟩
theorem Vals.ins {w : World} {V : Nat → Prop} {cs : List Value} {vs : List (List Int)} (h : Vals w V cs vs) (i : Nat) {A : Option Addr} {m : Nat} {v : List Int} (hi : i ≤ cs.length) (hm : v.length ≤ m) (hC : kU8.C w A v.length v) (hA : ∀ a, A = some a → V a.block ∧ a.block < w.heap.size) :
    Vals w V (ins cs i [.slice A v.length m]) (vs.take i ++ v :: vs.drop i) := by
  refine ⟨by unfold Ta.ins; have := h.1; simp only [List.length_append, List.length_take, List.length_drop, List.length_cons, List.length_nil]; omega, fun j c x hc hx => ?_⟩
  have hl := h.1
  have h1 : (cs.take i).length = i := by rw [List.length_take]; omega
  have h2 : (vs.take i).length = i := by rw [List.length_take]; omega
  unfold Ta.ins at hc
  rw [List.append_assoc] at hc
  rcases Nat.lt_trichotomy j i with hj | hj | hj
  · rw [List.getElem?_append_left (by omega), List.getElem?_take, if_pos hj] at hc
    rw [List.getElem?_append_left (by omega), List.getElem?_take, if_pos hj] at hx
    exact h.2 j c x hc hx
  · subst hj
    rw [List.getElem?_append_right (by omega), h1, Nat.sub_self] at hc
    rw [List.getElem?_append_right (by omega), h2, Nat.sub_self] at hx
    simp at hc hx
    subst hc hx
    exact ⟨A, m, rfl, hm, hC, hA⟩
  · obtain ⟨d, rfl⟩ : ∃ d, j = i + (d + 1) := ⟨j - i - 1, by omega⟩
    rw [List.getElem?_append_right (by omega), h1, show i + (d + 1) - i = d + 1 by omega] at hc
    rw [List.getElem?_append_right (by omega), h2, show i + (d + 1) - i = d + 1 by omega] at hx
    rw [List.getElem?_cons_succ] at hx
    simp only [List.cons_append, List.nil_append, List.getElem?_cons_succ] at hc
    rw [List.getElem?_drop] at hc hx
    exact h.2 _ c x hc hx
section
variable {w w' : World} {g : Nat} {fv : Value} {size : Int} {own : Nat → Prop} {t : Tab}
theorem row_move {w w' : World} {E n c : Nat} {A : Option Addr} {cs : List Value} (h : w.ownsRow 0 E 1 (.slice A n c) n cs) (hk : ∀ a, A = some a → w'.heap[a.block]? = w.heap[a.block]?) : w'.ownsRow 0 E 1 (.slice A n c) n cs := by
  refine ⟨h.1, ?_⟩
  rcases h.2 with h1 | ⟨g, cap, cur, e1, hb, hh, h1⟩
  · exact .inl h1
  · injection e1 with e1 e2 e3
    subst e1 e3
    exact .inr ⟨g, c, cur, rfl, hb, (hk _ rfl).trans hh, h1⟩
theorem row_lt {w : World} {E n c : Nat} {A : Option Addr} {cs : List Value} (h : w.ownsRow 0 E 1 (.slice A n c) n cs) : ∀ a, A = some a → a.block < w.heap.size := by
  rintro a rfl
  rcases h.2 with ⟨h1, h0⟩ | ⟨g, cap, cur, e1, hb, hh, h1⟩
  · cases h1
  · injection e1 with e1 e2 e3
    injection e1 with e1
    subst e1
    exact blk_lt hh
theorem TabP.move {S : Nat → Prop} (h : TabP w g fv size own t) (hk : Keep S w w') (hd : ∀ k, own k → ¬ S k) : TabP w' g fv size own t := by
  obtain ⟨A1, A2, c1, c2, cs, V, h1, h2, h3, h4, h5, h6, h7, h8, h9, h10⟩ := h
  exact ⟨A1, A2, c1, c2, cs, V, (hk.block g (blk_lt h1) (hd g h9)).trans h1, row_move h2 (fun a e => hk.block _ (h10 _ (h5 a e).1) (hd _ (h5 a e).1)), row_move h3 (fun a e => hk.block _ (h10 _ (h6 a e).1) (hd _ (h6 a e).1)), h4.step hk.size (fun k hv hl => hk.block k hl (hd k (h8 k hv).1)), h5, h6, h7, h8, h9, fun k hk1 => Nat.lt_of_lt_of_le (h10 k hk1) hk.size⟩
theorem TabP.lt (h : TabP w g fv size own t) : own g ∧ g < w.heap.size ∧ ∀ k, own k → k < w.heap.size := by
  obtain ⟨A1, A2, c1, c2, cs, V, h1, h2, h3, h4, h5, h6, h7, h8, h9, h10⟩ := h
  exact ⟨h9, h10 g h9, h10⟩
theorem TabP.made (fv : Value) (w : World) : TabP (w.alloc (.cells #[fv, .int .i64 0, .slice none 0 0, .slice none 0 0] 84)) w.heap.size fv 0 (fun k => k = w.heap.size) [] :=
  ⟨none, none, 0, 0, [], fun _ => False, heap_alloc_new _ _, ⟨rfl, .inl ⟨rfl, rfl⟩⟩, ⟨rfl, .inl ⟨rfl, rfl⟩⟩, ⟨rfl, fun i c v hc => by simp at hc⟩, fun a e => by simp at e, fun a e => by simp at e, fun a b e => by simp at e, fun k h => h.elim, rfl, fun k h => by rw [h, World.size_alloc]; omega⟩
set_option maxHeartbeats 2000000 in
set_option maxRecDepth 100000 in
theorem get_none_calls (h : TabP w g fv size own t) (hok : TOk t) (k : Int) (hg : getT t k = none) :
    Calls Try.prog 40 #[.pointer (some ⟨g, 2, none⟩), .int .i64 k] w fun e w' => e = .returned (.tuple #[.slice none 0 0, .bool false]) ∧ w' = w := by
  obtain ⟨A1, A2, c1, c2, cs, V, h1, h2, h3, h4, h5, h6, h7, h8, h9, h10⟩ := h
  have hln := hok.len
  obtain ⟨hC, hkl, hkc⟩ := C_of_row h2 (by omega)
  have q2 : w.cell? ⟨g, 2, none⟩ = some (.slice A1 t.length c1) := by simp [World.cell?, h1]
  have HS := Aside0.mk (search_calls A1 t.length c1 (keysT t) hkl k false (by have := get_none hg; simp [this]) w hC hok.inc (by omega))
  clear h1 h2 h3 h4 h5 h6 h7 h8 h9 h10 hC hok hg hkl
  go_enter Try.func40, Try.ntmps40
  go_wp2_with (first | (go_at_call 64; refine HS.out.mono ?_; rintro e w2 ⟨i, rfl, -, rfl⟩))
  go_ret2
  exact ⟨rfl, rfl⟩
set_option maxHeartbeats 2000000 in
set_option maxRecDepth 100000 in
theorem get_some_calls (h : TabP w g fv size own t) (hok : TOk t) (k : Int) (v : List Int) (hg : getT t k = some v) :
    Calls Try.prog 40 #[.pointer (some ⟨g, 2, none⟩), .int .i64 k] w fun e w' => ∃ A c, e = .returned (.tuple #[.slice A v.length c, .bool true]) ∧ v.length ≤ c ∧ kU8.C w A v.length v ∧ (∀ a, A = some a → own a.block) ∧ w' = w := by
  obtain ⟨A1, A2, c1, c2, cs, V, h1, h2, h3, h4, h5, h6, h7, h8, h9, h10⟩ := h
  have hln := hok.len
  obtain ⟨hC, hkl, hkc⟩ := C_of_row h2 (by omega)
  have q2 : w.cell? ⟨g, 2, none⟩ = some (.slice A1 t.length c1) := by simp [World.cell?, h1]
  have q3 : w.cell? ⟨g, 3, none⟩ = some (.slice A2 t.length c2) := by simp [World.cell?, h1]
  have HS := Aside0.mk (search_calls A1 t.length c1 (keysT t) hkl k true (by have := get_some hg; simp [this]) w hC hok.inc (by omega))
  have HG := Aside0.mk (show ∀ i, Place (keysT t) k i → i < t.length ∧ ∃ (g2 : Nat) (A : Option Addr) (m : Nat), A2 = some ⟨g2, 0, none⟩ ∧ w.cell? ⟨g2, i, none⟩ = some (.slice A v.length m) ∧ v.length ≤ m ∧ kU8.C w A v.length v ∧ ∀ a, A = some a → own a.block from fun i hp => by
    have hm := (hp.mem hok.inc).1 (get_some hg)
    have hil := (List.getElem?_eq_some_iff.1 hm).1
    rw [keys_len] at hil
    have hti : t[i]? = some (k, v) := by
      have ht : t[i]? = some t[i] := List.getElem?_eq_getElem hil
      rw [keysT, List.getElem?_map, ht] at hm
      simp only [Option.map_some, Option.some.injEq] at hm
      have h11 : t[i]? = some (k, t[i].2) := by rw [ht, ← hm]
      have h12 := get_at hok.inc h11
      rw [hg] at h12
      injection h12 with h12
      rw [h11, ← h12]
    have hcl : cs.length = t.length := by have := h4.1; simpa using this
    have hci : cs[i]? = some cs[i] := List.getElem?_eq_getElem (by omega)
    obtain ⟨A, m, e1, e2, e3, e4⟩ := h4.2 i cs[i] v hci (by rw [List.getElem?_map, hti]; rfl)
    obtain ⟨g2, e5, e6, -⟩ := row_cell h3 hci
    exact ⟨hil, g2, A, m, e5, by rw [e6, e1], e2, e3, fun a ea => (h8 _ (e4 a ea).1).1⟩)
  clear h1 h2 h3 h4 h5 h6 h7 h8 h9 h10 hC hok hg hkl
  go_enter Try.func40, Try.ntmps40
  go_wp2_with (first | (go_at_call 64; refine HS.out.mono ?_; rintro e w2 ⟨i, rfl, hpl, rfl⟩; obtain ⟨hil, g2, A, m, rfl, q4, hvm, hCv, hAv⟩ := HG.out i hpl; have HCV := Aside0.mk (And.intro hvm (And.intro hCv hAv)); clear hCv hAv hpl))
  go_ret2
  exact ⟨_, _, rfl, HCV.out.1, HCV.out.2.1, HCV.out.2.2, rfl⟩
theorem keys_calls (h : TabP w g fv size own t) (hok : TOk t) :
    Calls Try.prog 52 #[.pointer (some ⟨g, 2, none⟩)] w fun e w' => ∃ v, e = .returned v ∧ kI.R 3 w' w.heap.size (fun _ => True) v (keysT t) ∧ Below w.heap.size w w' := by
  obtain ⟨A1, A2, c1, c2, cs, V, h1, h2, h3, h4, h5, h6, h7, h8, h9, h10⟩ := h
  have hln := hok.len
  obtain ⟨hC, hkl, hkc⟩ := C_of_row h2 (by omega)
  have q2 : w.cell? ⟨g, 2, none⟩ = some (.slice A1 t.length c1) := by simp [World.cell?, h1]
  have HS := Aside0.mk (cloneI_calls A1 c1 t.length (keysT t) hkl w hC (by omega))
  clear h1 h2 h3 h4 h5 h6 h7 h8 h9 h10 hC hok hkl
  go_enter Try.func52, Try.ntmps52
  go_wp2_with (first | (go_at_call 68; refine HS.out.mono ?_; rintro e w2 ⟨v, rfl, ho, hb⟩; have HO := Aside0.mk ho; have HB := Aside0.mk hb; clear ho hb))
  go_ret
  exact ⟨_, rfl, HO.out, HB.out⟩
end
end Go.Proofs.Ytfcpnjoiloahcaa.Ta
namespace Go.Proofs.Ytfcpnjoiloahcaa.R
open Go Go.RowKit Go.Proofs.Ytfcpnjoiloahcaa.B
set_option linter.unusedVariables false
set_option linter.unusedSimpArgs false
section
variable {P : Program} {ops : Array Oper} {Q : Exit → Act → World → Prop} {md : Region.Mode} {R : World → World → Prop} {E : List Nat}
/-- What is listed is listed behind what it needs. -/
def closedB (md : Region.Mode) (ops : Array Oper) (listed : Array Bool) : Bool :=
  (List.range ops.size).all fun j => !listed.getD j true || ((ops[j]?).map (·.after.all fun e => !Region.binds md e || listed.getD e.on false)).getD true
/-- Operation j needs operation i, at most n steps away. -/
def needsB (md : Region.Mode) (ops : Array Oper) (i : Nat) : Nat → Nat → Bool
  | 0, _ => false
  | n + 1, j => ((ops[j]?).map (·.after.any fun e => Region.binds md e && (e.on == i || needsB md ops i n e.on))).getD false
def Closed (md : Region.Mode) (ops : Array Oper) (listed : Array Bool) : Prop := ∀ j oj, ops[j]? = some oj → listed.getD j false = true → ∀ e ∈ oj.after, Region.binds md e = true → listed.getD e.on false = true
theorem closed_of {listed : Array Bool} (h : closedB md ops listed = true) : Closed md ops listed := by
  intro j oj hj hl e he hb
  have hjs := (Array.getElem?_eq_some_iff.1 hj).1
  unfold closedB at h
  rw [List.all_eq_true] at h
  have h1 := h j (List.mem_range.2 hjs)
  have hl' : listed.getD j true = true := by
    rcases Nat.lt_or_ge j listed.size with h' | h'
    · simpa [Array.getD, h'] using hl
    · simp [Array.getD, Nat.not_lt.2 h'] 
  rw [hl', hj] at h1
  simp only [Option.map_some, Option.getD_some, Bool.not_true, Bool.false_or, Array.all_eq_true_iff_forall_mem] at h1
  have h2 := h1 e he
  rw [hb] at h2
  simpa using h2
theorem needs_listed {listed : Array Bool} (hc : Closed md ops listed) {i : Nat} : ∀ (n j : Nat), needsB md ops i n j = true → (∀ oj, ops[j]? = some oj → ∀ e ∈ oj.after, Region.binds md e = true → listed.getD e.on false = true) → listed.getD i false = true
  | 0, _, h, _ => by simp [needsB] at h
  | n + 1, j, h, hall => by
    unfold needsB at h
    cases hj : ops[j]? with
    | none => rw [hj] at h; simp at h
    | some oj =>
      rw [hj] at h
      simp only [Option.map_some, Option.getD_some, Array.any_eq_true'] at h
      obtain ⟨e, he, h2⟩ := h
      simp only [Bool.and_eq_true, Bool.or_eq_true, beq_iff_eq] at h2
      have hon := hall oj hj e he h2.1
      rcases h2.2 with h3 | h3
      · rw [← h3]; exact hon
      · exact needs_listed hc n e.on h3 (fun oj' hj' e' he' hb' => hc e.on oj' hj' hon e' he' hb')

/-- Whatever order is picked from here on; each step but those of E leads to a world to come. -/
def wpAnyE (P : Program) (md : Region.Mode) (ops : Array Oper) (Q : Exit → Act → World → Prop) (R : World → World → Prop) (E : List Nat) : Nat → Array Bool → Act → World → Prop
  | 0, listed, a, w => Region.ready md ops listed = [] ∧ Q .normal a w
  | fuel + 1, listed, a, w =>
    (Region.ready md ops listed = [] → Q .normal a w) ∧
    ∀ i ∈ Region.ready md ops listed, wpOp P ops Q i (fun a' w' => (i ∈ E ∨ R w w') ∧ wpAnyE P md ops Q R E fuel (listed.setIfInBounds i true) a' w') a w
theorem wpAny_of_E : ∀ (fuel : Nat) (listed : Array Bool) (a : Act) (w : World), wpAnyE P md ops Q R E fuel listed a w → wpAny P md ops Q fuel listed a w
  | 0, _, _, _, h => h
  | fuel + 1, _, _, _, h => ⟨h.1, fun i hi => wpOp_mono (fun a' w' h' => wpAny_of_E fuel _ a' w' h'.2) (h.2 i hi)⟩
theorem closed_step {listed : Array Bool} (hc : Closed md ops listed) {i : Nat} (hi : i ∈ Region.ready md ops listed) : Closed md ops (listed.setIfInBounds i true) := by
  obtain ⟨hun, oi, hoi, hall⟩ := mem_ready.1 hi
  have up : ∀ k, listed.getD k false = true → (listed.setIfInBounds i true).getD k false = true := fun k hk => by
    by_cases hik : i = k
    · subst hik
      have : i < listed.size := by
        rcases Nat.lt_or_ge i listed.size with h | h
        · exact h
        · simp [Array.getD, Nat.not_lt.2 h] at hk
      simp [Array.getD, this]
    · rw [getD_set_ne false hik]; exact hk
  intro j oj hj hl e he hb
  by_cases hij : i = j
  · subst hij
    rw [hj] at hoi
    injection hoi with hoi
    subst hoi
    exact up _ (hall e he hb)
  · rw [getD_set_ne false hij] at hl
    exact up _ (hc j oj hj hl e he hb)
theorem wpAnyE_first (hrefl : ∀ w, R w w) (htr : ∀ a b c, R a b → R b c → R a c) {i : Nat} {oi : Oper} {v : Value} (hi : ops[i]? = some oi) (hsel : ∀ (j : Nat) (o : Oper) cs b, ops[j]? = some o → o.op ≠ .select cs b)
    (hE : ∀ j, j ∈ E → j ≠ i → ∃ n, needsB md ops i n j = true)
    (hQ : ∀ c a w, Q (.panic c) (a.put oi.dst v) w → Q (.panic c) a w) :
    ∀ (fuel : Nat) (listed : Array Bool) (a : Act) (w : World), Closed md ops listed →
      (∀ j oj, ops[j]? = some oj → j ≠ i → listed.getD j true = false → (∀ e ∈ oj.after, Region.binds md e = true → e.on ≠ i) → oi.apart ops oj = true) →
      i ∈ Region.ready md ops listed → YieldsIf P ops (R w) oi v a →
      wpAnyE P md ops Q R E fuel (listed.setIfInBounds i true) (a.put oi.dst v) w → wpAnyE P md ops Q R E (fuel + 1) listed a w := by
  intro fuel
  induction fuel with
  | zero =>
    intro listed a w _ _ hr hy H
    refine ⟨fun h => (by rw [h] at hr; cases hr), fun j hj => ?_⟩
    by_cases hji : j = i
    · subst hji; exact hy.wpOp hi (hrefl w) ⟨.inr (hrefl w), H⟩
    · have := ready_mono hj hji
      rw [H.1] at this
      cases this
  | succ fuel ih =>
    intro listed a w hcl hfree hr hy H
    refine ⟨fun h => (by rw [h] at hr; cases hr), fun j hj => ?_⟩
    by_cases hji : j = i
    · subst hji; exact hy.wpOp hi (hrefl w) ⟨.inr (hrefl w), H⟩
    · have h1 := H.2 j (ready_mono hj hji)
      obtain ⟨hjun, oj, hoj, hall⟩ := mem_ready.1 hj
      have hiun := (mem_ready.1 hr).1
      have hjE : j ∉ E := fun hm => by
        obtain ⟨n, hn⟩ := hE j hm hji
        have h2 := needs_listed hcl n j hn (fun oj' hoj' e he hb => by
          rw [hoj] at hoj'
          injection hoj' with hoj'
          subst hoj'
          exact hall e he hb)
        rcases Nat.lt_or_ge i listed.size with h' | h'
        · simp [Array.getD, h'] at h2 hiun
          rw [h2] at hiun
          cases hiun
        · simp [Array.getD, Nat.not_lt.2 h'] at h2
      have hnot : ∀ e ∈ oj.after, Region.binds md e = true → e.on ≠ i := fun e he hb heq => by
        have h1 := hall e he hb
        have h0 := (mem_ready.1 hr).1
        rw [heq] at h1
        rcases Nat.lt_or_ge i listed.size with h' | h'
        · simp [h'] at h0 h1; rw [h0] at h1; cases h1
        · simp [Array.getElem?_eq_none h'] at h1
      have h2 := wpOp_putIf hoj (hfree j oj hoj hji hjun hnot) (fun cs b => hsel i oi cs b hi) (fun cs b => hsel j oj cs b hoj) hQ hy h1
      have hfree' : ∀ k ok, ops[k]? = some ok → k ≠ i → (listed.setIfInBounds j true).getD k true = false →
          (∀ e ∈ ok.after, Region.binds md e = true → e.on ≠ i) → oi.apart ops ok = true := fun k ok hk hki hun hno => by
        refine hfree k ok hk hki ?_ hno
        by_cases hjk : j = k
        · subst hjk; exact hjun
        · rw [getD_set_ne true hjk] at hun; exact hun
      refine wpOp_mono (fun a' w' h3 => ⟨h3.2.1, ih (listed.setIfInBounds j true) a' w' (closed_step hcl hj) hfree' (ready_mono hr (Ne.symm hji)) (yieldsIf_mono h3.1 (fun w'' hw'' => htr _ _ _ (h3.2.1.resolve_left hjE) hw'')) ?_⟩) h2
      rw [Array.setIfInBounds_comm _ _ hji]
      exact h3.2.2
end
/-! The moves, with R = Keep S. -/
section
variable {P : Program} {ops : Array Oper} {Q : Exit → Act → World → Prop} {fuel : Nat} {listed listed' : Array Bool} {a : Act} {w : World} {S : Nat → Prop} {E : List Nat}
def Re (E : List Nat) (S : Nat → Prop) (P : Program) (ops : Array Oper) (Q : Exit → Act → World → Prop) (fuel : Nat) (listed : Array Bool) (a : Act) (w : World) : Prop := wpAnyE P .any ops Q (Keep S) E fuel listed a w
theorem re_start (E : List Nat) (S : Nat → Prop) {id : Nat} (hm : P.follows .mixedOrders = true) {n : Nat} {l : Array Bool} (hn : ops.size = n) (hl : Array.replicate n false = l)
    (h : Re E S P ops Q n l a w.drew) : (Code.region id ops true).wp P Q a w := by
  subst hn
  subst hl
  exact wp_region_any hm (wpAny_of_E _ _ _ _ h)
/-- What is asked of an operation that is taken ahead. -/
def takes (E : List Nat) (ops : Array Oper) (listed : Array Bool) (i : Nat) : Bool :=
  Region.noSelect ops && Region.free .any ops listed i && (Region.ready .any ops listed).contains i && closedB .any ops listed && E.all fun j => j == i || needsB .any ops i ops.size j
theorem takes_E {i : Nat} (h : (E.all fun j => j == i || needsB .any ops i ops.size j) = true) : ∀ j, j ∈ E → j ≠ i → ∃ n, needsB .any ops i n j = true := fun j hj hne => by
  have h1 := (List.all_eq_true.1 h) j hj
  simp only [Bool.or_eq_true, beq_iff_eq] at h1
  exact ⟨_, h1.resolve_left hne⟩
theorem re_take (i : Nat) {oi : Oper} {v : Value} {a' : Act} (hi0 : ops.toList[i]? = some oi) (hc : takes E ops listed i = true)
    (hl : listed.setIfInBounds i true = listed')
    (hQ : ∀ c a w, Q (.panic c) (a.put oi.dst v) w → Q (.panic c) a w) (hw : Region.wanted oi (yielded ops a.tmps) = true) (hy : ∀ w', Keep S w w' → (execOp a.eval oi).run P w' = .ok (.value v) w')
    (ha : a.put oi.dst v = a') (h : Re E S P ops Q fuel listed' a' w) : Re E S P ops Q (fuel + 1) listed a w := by
  have hi : ops[i]? = some oi := by rw [← hi0]; simp
  subst hl
  subst ha
  simp only [takes, Bool.and_eq_true] at hc
  exact wpAnyE_first (R := Keep S) (Keep.refl S) (fun _ _ _ => Keep.trans) hi (Region.noSelect_spec hc.1.1.1.1) (takes_E hc.2) hQ fuel listed a w (closed_of hc.1.2) (Region.free_spec hi hc.1.1.1.2) (by simpa using hc.1.1.2) (.inl ⟨hw, hy⟩) h
theorem re_skip (i : Nat) {oi : Oper} {a' : Act} (hi0 : ops.toList[i]? = some oi) (hc : takes E ops listed i = true)
    (hl : listed.setIfInBounds i true = listed')
    (hQ : ∀ c a w, Q (.panic c) (a.put oi.dst undef) w → Q (.panic c) a w) (hw : Region.wanted oi (yielded ops a.tmps) = false)
    (ha : a.put oi.dst undef = a') (h : Re E S P ops Q fuel listed' a' w) : Re E S P ops Q (fuel + 1) listed a w := by
  have hi : ops[i]? = some oi := by rw [← hi0]; simp
  subst hl
  subst ha
  simp only [takes, Bool.and_eq_true] at hc
  exact wpAnyE_first (R := Keep S) (Keep.refl S) (fun _ _ _ => Keep.trans) hi (Region.noSelect_spec hc.1.1.1.1) (takes_E hc.2) hQ fuel listed a w (closed_of hc.1.2) (Region.free_spec hi hc.1.1.1.2) (by simpa using hc.1.1.2) (.inr ⟨hw, rfl⟩) h
theorem re_step (i : Nat) {oi : Oper} (hi0 : ops.toList[i]? = some oi) (hr : (Region.ready .any ops listed == [i]) = true) (hl : listed.setIfInBounds i true = listed') (hw : Region.wanted oi (yielded ops a.tmps) = true)
    (h : ∀ K' : Act → World → Prop, Shut (∀ a' w', Keep S w w' → Re E S P ops Q fuel listed' a' w' → K' a' w') → Oper.wp P oi a w K' Q) : Re E S P ops Q (fuel + 1) listed a w := by
  have hi : ops[i]? = some oi := by rw [← hi0]; simp
  subst hl
  have hr' : Region.ready .any ops listed = [i] := by simpa using hr
  refine ⟨fun h0 => (by rw [h0] at hr'; cases hr'), ?_⟩
  rw [hr']
  intro j hj
  rw [List.mem_singleton] at hj
  subst hj
  refine wpOp_step hi (fun K' hK => ?_)
  rw [if_pos hw]
  exact h K' (fun a' w' h1 h2 => hK a' w' ⟨.inr h1, h2⟩)
/-- One of E: whatever world it leads to. -/
theorem re_free (i : Nat) {oi : Oper} (hi0 : ops.toList[i]? = some oi) (hr : (Region.ready .any ops listed == [i] && E.contains i) = true) (hl : listed.setIfInBounds i true = listed') (hw : Region.wanted oi (yielded ops a.tmps) = true)
    (h : ∀ K' : Act → World → Prop, Shut (∀ a' w', True → Re E S P ops Q fuel listed' a' w' → K' a' w') → Oper.wp P oi a w K' Q) : Re E S P ops Q (fuel + 1) listed a w := by
  have hi : ops[i]? = some oi := by rw [← hi0]; simp
  subst hl
  simp only [Bool.and_eq_true] at hr
  have hr' : Region.ready .any ops listed = [i] := by simpa using hr.1
  refine ⟨fun h0 => (by rw [h0] at hr'; cases hr'), ?_⟩
  rw [hr']
  intro j hj
  rw [List.mem_singleton] at hj
  subst hj
  refine wpOp_step hi (fun K' hK => ?_)
  rw [if_pos hw]
  exact h K' (fun a' w' _ h2 => hK a' w' ⟨.inl (by simpa using hr.2), h2⟩)
theorem re_done (hr : (Region.ready .any ops listed == []) = true) (h : Q .normal a w) : Re E S P ops Q fuel listed a w := by
  have hr' : Region.ready .any ops listed = [] := by simpa using hr
  cases fuel with
  | zero => exact ⟨hr', h⟩
  | succ n => exact ⟨fun _ => h, (by rw [hr']; intro j hj; cases hj)⟩
end
end Go.Proofs.Ytfcpnjoiloahcaa.R
namespace Go.Proofs.Ytfcpnjoiloahcaa.R
open Go Go.RowKit Go.Proofs.Ytfcpnjoiloahcaa.B
set_option linter.unusedVariables false
set_option linter.unusedSimpArgs false
section
variable {P : Program} {ops : Array Oper} {Q : Exit → Act → World → Prop} {md : Region.Mode} {R : World → World → Prop} {E : List Nat}
theorem wpAnyE_any (hrefl : ∀ w, R w w) {i : Nat} {oi : Oper} {v : Value} (hi : ops[i]? = some oi) (hsel : ∀ (j : Nat) (o : Oper) cs b, ops[j]? = some o → o.op ≠ .select cs b)
    (hQ : ∀ c a w, Q (.panic c) (a.put oi.dst v) w → Q (.panic c) a w) :
    ∀ (fuel : Nat) (listed : Array Bool) (a : Act) (w : World),
      (∀ j oj, ops[j]? = some oj → j ≠ i → listed.getD j true = false → (∀ e ∈ oj.after, Region.binds md e = true → e.on ≠ i) → oi.apart ops oj = true) →
      i ∈ Region.ready md ops listed → YieldsIf P ops (fun _ => True) oi v a →
      wpAnyE P md ops Q R E fuel (listed.setIfInBounds i true) (a.put oi.dst v) w → wpAnyE P md ops Q R E (fuel + 1) listed a w := by
  intro fuel
  induction fuel with
  | zero =>
    intro listed a w _ hr hy H
    refine ⟨fun h => (by rw [h] at hr; cases hr), fun j hj => ?_⟩
    by_cases hji : j = i
    · subst hji; exact hy.wpOp hi trivial ⟨.inr (hrefl w), H⟩
    · have := ready_mono hj hji
      rw [H.1] at this
      cases this
  | succ fuel ih =>
    intro listed a w hfree hr hy H
    refine ⟨fun h => (by rw [h] at hr; cases hr), fun j hj => ?_⟩
    by_cases hji : j = i
    · subst hji; exact hy.wpOp hi trivial ⟨.inr (hrefl w), H⟩
    · have h1 := H.2 j (ready_mono hj hji)
      obtain ⟨hjun, oj, hoj, hall⟩ := mem_ready.1 hj
      have hiun := (mem_ready.1 hr).1
      have hnot : ∀ e ∈ oj.after, Region.binds md e = true → e.on ≠ i := fun e he hb heq => by
        have h1 := hall e he hb
        have h0 := (mem_ready.1 hr).1
        rw [heq] at h1
        rcases Nat.lt_or_ge i listed.size with h' | h'
        · simp [h'] at h0 h1; rw [h0] at h1; cases h1
        · simp [Array.getElem?_eq_none h'] at h1
      have h2 := wpOp_putIf hoj (hfree j oj hoj hji hjun hnot) (fun cs b => hsel i oi cs b hi) (fun cs b => hsel j oj cs b hoj) hQ hy h1
      have hfree' : ∀ k ok, ops[k]? = some ok → k ≠ i → (listed.setIfInBounds j true).getD k true = false →
          (∀ e ∈ ok.after, Region.binds md e = true → e.on ≠ i) → oi.apart ops ok = true := fun k ok hk hki hun hno => by
        refine hfree k ok hk hki ?_ hno
        by_cases hjk : j = k
        · subst hjk; exact hjun
        · rw [getD_set_ne true hjk] at hun; exact hun
      refine wpOp_mono (fun a' w' h3 => ⟨h3.2.1, ih (listed.setIfInBounds j true) a' w' hfree' (ready_mono hr (Ne.symm hji)) h3.1 ?_⟩) h2
      rw [Array.setIfInBounds_comm _ _ hji]
      exact h3.2.2
end
section
variable {P : Program} {ops : Array Oper} {Q : Exit → Act → World → Prop} {fuel : Nat} {listed listed' listed1 listed2 : Array Bool} {a : Act} {w : World} {S : Nat → Prop} {E : List Nat}
/-- A value that no memory decides. -/
theorem re_any (i : Nat) {oi : Oper} {v : Value} {a' : Act} (hi0 : ops.toList[i]? = some oi) (hc : (Region.noSelect ops && Region.free .any ops listed i && (Region.ready .any ops listed).contains i) = true)
    (hl : listed.setIfInBounds i true = listed')
    (hQ : ∀ c a w, Q (.panic c) (a.put oi.dst v) w → Q (.panic c) a w) (hw : Region.wanted oi (yielded ops a.tmps) = true) (hy : ∀ w', (execOp a.eval oi).run P w' = .ok (.value v) w')
    (ha : a.put oi.dst v = a') (h : Re E S P ops Q fuel listed' a' w) : Re E S P ops Q (fuel + 1) listed a w := by
  have hi : ops[i]? = some oi := by rw [← hi0]; simp
  subst hl
  subst ha
  simp only [Bool.and_eq_true] at hc
  exact wpAnyE_any (R := Keep S) (Keep.refl S) hi (Region.noSelect_spec hc.1.1) hQ fuel listed a w (Region.free_spec hi hc.1.2) (by simpa using hc.2) (.inl ⟨hw, fun w' _ => hy w'⟩) h
/-- Two are ready: each may come first. -/
theorem re_fork (i j : Nat) {oi oj : Oper} (hi0 : ops.toList[i]? = some oi) (hj0 : ops.toList[j]? = some oj) (hr : (Region.ready .any ops listed == [i, j]) = true) (hwi : Region.wanted oi (yielded ops a.tmps) = true) (hwj : Region.wanted oj (yielded ops a.tmps) = true)
    (hl1 : listed.setIfInBounds i true = listed1) (hl2 : listed.setIfInBounds j true = listed2)
    (h1 : ∀ K' : Act → World → Prop, Shut (∀ a' w', Keep S w w' → Re E S P ops Q fuel listed1 a' w' → K' a' w') → Oper.wp P oi a w K' Q)
    (h2 : ∀ K' : Act → World → Prop, Shut (∀ a' w', Keep S w w' → Re E S P ops Q fuel listed2 a' w' → K' a' w') → Oper.wp P oj a w K' Q) : Re E S P ops Q (fuel + 1) listed a w := by
  have hi : ops[i]? = some oi := by rw [← hi0]; simp
  have hj : ops[j]? = some oj := by rw [← hj0]; simp
  subst hl1
  subst hl2
  have hr' : Region.ready .any ops listed = [i, j] := by simpa using hr
  refine ⟨fun h0 => (by rw [h0] at hr'; cases hr'), ?_⟩
  rw [hr']
  intro m hm
  rcases List.mem_cons.1 hm with rfl | hm
  · refine wpOp_step hi (fun K' hK => ?_)
    rw [if_pos hwi]
    exact h1 K' (fun a' w' h1 h2 => hK a' w' ⟨.inr h1, h2⟩)
  · rw [List.mem_singleton] at hm
    subst hm
    refine wpOp_step hj (fun K' hK => ?_)
    rw [if_pos hwj]
    exact h2 K' (fun a' w' h1 h2 => hK a' w' ⟨.inr h1, h2⟩)
end
end Go.Proofs.Ytfcpnjoiloahcaa.R
namespace Go.Proofs.Ytfcpnjoiloahcaa.Ta
open Go.RowKit Go.Proofs.YtfcpnjoiloahcaaW.PrintWords Go.Proofs.YtfcpnjoiloahcaaW.PrintLast Go.Proofs.YtfcpnjoiloahcaaW.PrintMore Go.Proofs.Ytfcpnjoiloahcaa.B Go.Proofs.Ytfcpnjoiloahcaa.R Go.Proofs.Ytfcpnjoiloahcaa.S
set_option linter.unusedVariables false
set_option linter.unusedSimpArgs false
theorem row_some {w : World} {E n : Nat} {v : Value} {cs : List Value} (h : w.ownsRow 0 E 1 v n cs) (hn : 0 < n) : ∃ p cap, v = .slice (some ⟨p, 0, none⟩) n cap ∧ n ≤ cap := by
  rcases h.2 with ⟨h1, h0⟩ | ⟨g, cap, cur, e1, hb, hh, h1, h2⟩
  · omega
  · exact ⟨g, cap, e1, h1⟩
theorem row_grown {w w' : World} {E n : Nat} {v : Value} {cs : List Value} {r : Option Nat} (h : w.ownsRow 0 E 1 v n cs) (hg : w.grownBy w' r) (hne : ∀ b, v.ownBlock = some b → r ≠ some b) : w'.ownsRow 0 E 1 v n cs := by
  refine ⟨h.1, ?_⟩
  rcases h.2 with h1 | ⟨g, cap, cur, e1, hb, hh, h1⟩
  · exact .inl h1
  · subst e1
    exact .inr ⟨g, cap, cur, rfl, hb, (hg.block g (blk_lt hh) (fun e => hne g rfl e.symm)).trans hh, h1⟩
theorem row_alloc {w : World} {E n : Nat} {v : Value} {cs : List Value} (h : w.ownsRow 0 E 1 v n cs) (o : Obj) : (w.alloc o).ownsRow 0 E 1 v n cs := by
  refine ⟨h.1, ?_⟩
  rcases h.2 with h1 | ⟨g, cap, cur, e1, hb, hh, h1⟩
  · exact .inl h1
  · exact .inr ⟨g, cap, cur, e1, hb, (heap_alloc_old _ _ (blk_lt hh)).trans hh, h1⟩
theorem Keep_undrew {S : Nat → Prop} {w w' : World} (h : Keep S w w') : Keep S w.drew w' := ⟨h.os, h.tape, h.output, h.size, h.block⟩
/-- A literal of one cell. -/
def Lit1 (W : World) (b lo : Nat) (E : Nat) (u : Value) : Prop := W.heap[b]? = some (.cells #[u] E (0, 0)) ∧ lo ≤ b
theorem Lit1.alloc {W : World} {b lo E : Nat} {u : Value} (h : Lit1 W b lo E u) (o : Obj) : Lit1 (W.alloc o) b lo E u := ⟨(heap_alloc_old _ _ (blk_lt h.1)).trans h.1, h.2⟩
theorem Lit1.grown {W W' : World} {b lo E : Nat} {u : Value} {r : Option Nat} (h : Lit1 W b lo E u) (hg : W.grownBy W' r) (hr : r ≠ some b) : Lit1 W' b lo E u := ⟨(hg.block b (blk_lt h.1) (fun e => hr e.symm)).trans h.1, h.2⟩
/-- The blocks of two rows. -/
def RowsOf (A1 A2 : Option Addr) (k : Nat) : Prop := (∃ a, A1 = some a ∧ a.block = k) ∨ ∃ a, A2 = some a ∧ a.block = k
theorem own_some {A : Option Addr} {n c b : Nat} (h : (Value.slice A n c).ownBlock = some b) : ∃ a, A = some a ∧ a.block = b := by
  cases A with
  | none => cases h
  | some a => exact ⟨a, rfl, by injection h⟩
theorem ins_len (cs : List Value) (i : Nat) (v : Value) (h : i ≤ cs.length) : (ins cs i [v]).length = cs.length + 1 := by unfold ins; simp only [List.length_append, List.length_take, List.length_drop, List.length_cons, List.length_nil]; omega
/-- What a Put leaves. -/
theorem tab_put {w w4 : World} {g : Nat} {fv : Value} {size : Int} {own V : Nat → Prop} {t : Tab} {k : Int} {v : List Int} {A1 A2 A : Option Addr} {c1 c2 m i p1 p2 k1 k2 : Nat} {cs : List Value} (hp : Place (keysT t) k i) (hk : k ∉ keysT t)
    (h1 : w.heap[g]? = some (.cells #[fv, .int .i64 size, .slice A1 t.length c1, .slice A2 t.length c2] 84 (0, 0)))
    (h4 : Vals w V cs (t.map (·.2)))
    (h5 : ∀ a, A1 = some a → own a.block ∧ a.block ≠ g ∧ ¬ V a.block) (h6 : ∀ a, A2 = some a → own a.block ∧ a.block ≠ g ∧ ¬ V a.block)
    (h7 : ∀ a b, A1 = some a → A2 = some b → a.block ≠ b.block) (h8 : ∀ k, V k → own k ∧ k ≠ g) (h9 : own g) (h10 : ∀ k, own k → k < w.heap.size)
    (hC : kU8.C w A v.length v) (hvm : v.length ≤ m) (hA : ∀ a, A = some a → ¬ own a.block ∧ a.block < w.heap.size)
    (hK : Keep (RowsOf A1 A2) w w4) (r1 : w4.ownsRow 0 3 1 (.slice (some ⟨p1, 0, none⟩) (t.length + 1) k1) (t.length + 1) (ins ((keysT t).map (Value.int .i64)) i [.int .i64 k]))
    (r2 : w4.ownsRow 0 24 1 (.slice (some ⟨p2, 0, none⟩) (t.length + 1) k2) (t.length + 1) (ins cs i [.slice A v.length m]))
    (hp1 : (∃ a, A1 = some a ∧ a.block = p1) ∨ w.heap.size ≤ p1) (hp2 : (∃ a, A2 = some a ∧ a.block = p2) ∨ w.heap.size ≤ p2) (hp12 : p1 ≠ p2) :
    (∃ own', TabP ((w4.setCell ⟨g, 2, none⟩ (.slice (some ⟨p1, 0, none⟩) (t.length + 1) k1)).setCell ⟨g, 3, none⟩ (.slice (some ⟨p2, 0, none⟩) (t.length + 1) k2)) g fv size own' (putT t k v) ∧ ∀ j, own' j → own j ∨ w.heap.size ≤ j ∨ ∃ a, A = some a ∧ a.block = j) ∧
      Keep own w ((w4.setCell ⟨g, 2, none⟩ (.slice (some ⟨p1, 0, none⟩) (t.length + 1) k1)).setCell ⟨g, 3, none⟩ (.slice (some ⟨p2, 0, none⟩) (t.length + 1) k2)) := by
  have hgl := h10 g h9
  have hro : ∀ j, RowsOf A1 A2 j → own j ∧ j ≠ g ∧ ¬ V j := fun j hj => by
    rcases hj with ⟨a, ha, rfl⟩ | ⟨a, ha, rfl⟩
    · exact h5 a ha
    · exact h6 a ha
  have hh4 := (hK.block g hgl (fun h => (hro g h).2.1 rfl)).trans h1
  have hh5 := heap_setCell_same w4 g 2 _ 84 (.slice (some ⟨p1, 0, none⟩) (t.length + 1) k1) hh4
  have hh6 := heap_setCell_same _ g 3 _ 84 (.slice (some ⟨p2, 0, none⟩) (t.length + 1) k2) hh5
  have hlt1 := row_lt r1 _ rfl
  have hlt2 := row_lt r2 _ rfl
  have hz := hK.size
  have hcl : cs.length = t.length := by have := h4.1; simpa using this
  have hil : i ≤ t.length := by have := hp.1; rwa [keys_len] at this
  have hne1 : p1 ≠ g := by
    rcases hp1 with ⟨a, ha, rfl⟩ | h
    · exact (h5 a ha).2.1
    · omega
  have hne2 : p2 ≠ g := by
    rcases hp2 with ⟨a, ha, rfl⟩ | h
    · exact (h6 a ha).2.1
    · omega
  have hAg : ∀ a, A = some a → a.block ≠ g := fun a ha e => (hA a ha).1 (by rw [e]; exact h9)
  have hfar : ∀ j, j ≠ g → ((w4.setCell ⟨g, 2, none⟩ (.slice (some ⟨p1, 0, none⟩) (t.length + 1) k1)).setCell ⟨g, 3, none⟩ (.slice (some ⟨p2, 0, none⟩) (t.length + 1) k2)).heap[j]? = w4.heap[j]? := fun j hj => by
    rw [Below.heap_setCell _ _ _ _ (by show j ≠ g; exact hj), Below.heap_setCell _ _ _ _ (by show j ≠ g; exact hj)]
  refine ⟨⟨fun j => own j ∨ w.heap.size ≤ j ∧ j < w4.heap.size ∨ ∃ a, A = some a ∧ a.block = j, ⟨some ⟨p1, 0, none⟩, some ⟨p2, 0, none⟩, k1, k2, ins cs i [.slice A v.length m], fun j => V j ∨ ∃ a, A = some a ∧ a.block = j, ?_, ?_, ?_, ?_, ?_, ?_, ?_, ?_, .inl h9, ?_⟩, ?_⟩, ?_⟩
  · rw [hh6, len_put]; rfl
  · rw [len_put, show (keysT (putT t k v)).map (Value.int .i64) = ins ((keysT t).map (Value.int .i64)) i [.int .i64 k] by rw [place_keys hp hk]; simp [ins, List.map_take, List.map_drop]]
    exact row_move r1 (fun a e => by injection e with e; subst e; exact hfar _ hne1)
  · rw [len_put]
    exact row_move r2 (fun a e => by injection e with e; subst e; exact hfar _ hne2)
  · rw [place_vals hp hk]
    refine (((h4.step hz (fun j hj hl => hK.block j hl (fun h => (hro j h).2.2 hj))).mono (fun j hj => Or.inl hj)).ins i (A := A) (m := m) (v := v) (by omega) hvm (C_blk hC (fun a ha => hK.block _ (hA a ha).2 (fun h => (hA a ha).1 (hro _ h).1))) (fun a ha => ⟨Or.inr ⟨a, ha, rfl⟩, Nat.lt_of_lt_of_le (hA a ha).2 hz⟩)).step (by simp only [World.size_setCell]; exact Nat.le_refl _) (fun j hj hl => hfar j ?_)
    rcases hj with hj | ⟨a, ha, rfl⟩
    · exact (h8 j hj).2
    · exact hAg a ha
  · intro a e
    injection e with e
    subst e
    refine ⟨?_, hne1, ?_⟩
    · rcases hp1 with ⟨a, ha, e⟩ | h
      · exact .inl (by show own p1; rw [← e]; exact (h5 a ha).1)
      · exact .inr (.inl ⟨h, hlt1⟩)
    · rintro (h | ⟨a, ha, e⟩)
      · rcases hp1 with ⟨a, ha, e⟩ | h'
        · exact (h5 a ha).2.2 (by rw [e]; exact h)
        · have := h10 _ (h8 p1 h).1; omega
      · have h2 := hA a ha
        rw [e] at h2
        rcases hp1 with ⟨a', ha', e'⟩ | h'
        · exact h2.1 (by rw [← e']; exact (h5 a' ha').1)
        · have := h2.2; simp only at this; omega
  · intro a e
    injection e with e
    subst e
    refine ⟨?_, hne2, ?_⟩
    · rcases hp2 with ⟨a, ha, e⟩ | h
      · exact .inl (by show own p2; rw [← e]; exact (h6 a ha).1)
      · exact .inr (.inl ⟨h, hlt2⟩)
    · rintro (h | ⟨a, ha, e⟩)
      · rcases hp2 with ⟨a, ha, e⟩ | h'
        · exact (h6 a ha).2.2 (by rw [e]; exact h)
        · have := h10 _ (h8 p2 h).1; omega
      · have h2 := hA a ha
        rw [e] at h2
        rcases hp2 with ⟨a', ha', e'⟩ | h'
        · exact h2.1 (by rw [← e']; exact (h6 a' ha').1)
        · have := h2.2; simp only at this; omega
  · intro a b e1 e2
    injection e1 with e1
    injection e2 with e2
    subst e1 e2
    exact hp12
  · rintro j (h | ⟨a, ha, rfl⟩)
    · exact ⟨.inl (h8 j h).1, (h8 j h).2⟩
    · exact ⟨.inr (.inr ⟨a, ha, rfl⟩), hAg a ha⟩
  · simp only [World.size_setCell]
    rintro j (h | ⟨h, h'⟩ | ⟨a, ha, rfl⟩)
    · have := h10 j h; omega
    · exact h'
    · have := (hA a ha).2; omega
  · rintro j (h | ⟨h, h'⟩ | h)
    · exact .inl h
    · exact .inr (.inl h)
    · exact .inr (.inr h)
  · exact ((hK.mono (fun j _ hj => (hro j hj).1)).setCell _ _ (fun _ => h9)).setCell _ _ (fun _ => h9)
set_option maxHeartbeats 4000000 in
set_option maxRecDepth 100000 in
theorem tput_calls {w : World} {g : Nat} {fv : Value} {size : Int} {own : Nat → Prop} {t : Tab} (h : TabP w g fv size own t) (hok : TOk t) (k : Int) (hg : getT t k = none) (v : List Int) (A : Option Addr) (n m : Nat) (hvn : v.length = n) (hC : kU8.C w A n v) (hvm : n ≤ m) (hA : ∀ a, A = some a → ¬ own a.block ∧ a.block < w.heap.size) :
    Calls Try.prog 41 #[.pointer (some ⟨g, 2, none⟩), .int .i64 k, .slice A n m] w fun e w' => e = .returned (.bool true) ∧ (∃ own', TabP w' g fv size own' (putT t k v) ∧ ∀ j, own' j → own j ∨ w.heap.size ≤ j ∨ ∃ a, A = some a ∧ a.block = j) ∧ Keep own w w' := by
  subst hvn
  obtain ⟨A1, A2, c1, c2, cs, V, h1, h2, h3, h4, h5, h6, h7, h8, h9, h10⟩ := h
  have hln := hok.len
  obtain ⟨hC1, hkl, hkc⟩ := C_of_row h2 (by omega)
  have q2 : w.cell? ⟨g, 2, none⟩ = some (.slice A1 t.length c1) := by simp [World.cell?, h1]
  have hkn := get_none hg
  have HS := Aside0.mk (search_calls A1 t.length c1 (keysT t) hkl k false (by simp [hkn]) w hC1 hok.inc (by omega))
  have HK := Aside0.mk (Keep.refl (RowsOf A1 A2) w)
  have HFIN := Aside0.mk (fun (w4 : World) (i p1 p2 k1 k2 : Nat) (hp : Place (keysT t) k i) => tab_put (w4 := w4) (A := A) (m := m) (v := v) (p1 := p1) (p2 := p2) (k1 := k1) (k2 := k2) hp hkn h1 h4 h5 h6 h7 h8 h9 h10 hC hvm hA)
  have HCL := Aside0.mk (show cs.length = t.length by have := h4.1; simpa using this)
  have HH := Aside0.mk h1
  have H2 := Aside0.mk h2
  have H3 := Aside0.mk h3
  have H7 := Aside0.mk h7
  have HG := Aside0.mk (show g < w.heap.size ∧ ¬ RowsOf A1 A2 g from ⟨h10 g h9, fun h => by
    rcases h with ⟨a, ha, e⟩ | ⟨a, ha, e⟩
    · exact (h5 a ha).2.1 e
    · exact (h6 a ha).2.1 e⟩)
  have HL1 := Aside0.mk (row_lt h2)
  have HL2 := Aside0.mk (row_lt h3)
  have HKL := Aside0.mk (show ((keysT t).map (Value.int .i64)).length = t.length by rw [List.length_map]; exact hkl)
  have HOC := Aside0.mk (show ∀ c ∈ cs, c.oneCell' = true from fun c hc => by
    obtain ⟨j, hj⟩ := List.getElem?_of_mem hc
    have hjl := (List.getElem?_eq_some_iff.1 hj).1
    obtain ⟨x9, hx9⟩ : ∃ x, (t.map (·.2))[j]? = some x := ⟨_, List.getElem?_eq_getElem (by rw [← h4.1]; exact hjl)⟩
    obtain ⟨A9, m9, e9, -⟩ := h4.2 j c x9 hj hx9
    rw [e9]; rfl)
  have HOI := Aside0.mk (show ∀ c ∈ (keysT t).map (Value.int .i64), c.oneCell' = true from fun c hc => by
    obtain ⟨x, -, rfl⟩ := List.mem_map.1 hc
    rfl)
  have HOK1 := Aside0.mk (show ∀ c ∈ [Value.int .i64 k], c.oneCell' = true from fun c hc => by rw [List.mem_singleton] at hc; subst hc; rfl)
  have HOK2 := Aside0.mk (show ∀ c ∈ [Value.slice A v.length m], c.oneCell' = true from fun c hc => by rw [List.mem_singleton] at hc; subst hc; rfl)
  have HCV1 := Aside0.mk (show ∀ (j : Nat) (u : Value), [Value.int .i64 k][j]? = some u → #[Value.int .i64 k][j]? = some u from fun j u h => by rw [← h]; simp)
  have HCV2 := Aside0.mk (show ∀ (j : Nat) (u : Value), [Value.slice A v.length m][j]? = some u → #[Value.slice A v.length m][j]? = some u from fun j u h => by rw [← h]; simp)
  have mixed : Try.prog.follows .mixedOrders = true := by kernel_rfl
  clear h1 h2 h3 h4 h5 h6 h7 h8 h9 h10 hC hC1 hok hg hkl hA hkn
  go_enter Try.func41, Try.ntmps41
  go_wp2_with (first | (go_at_call 64; refine HS.out.mono ?_; rintro e w2 ⟨i, rfl, hpl, rfl⟩; have HPL := Aside0.mk hpl; clear hpl HS))
  have hil : i ≤ t.length := by have := HPL.out.1; rwa [keys_len] at this
  have HF := Aside0.mk (show ∀ W, Keep (RowsOf A1 A2) w2.drew W → W.cell? ⟨g, 2, none⟩ = some (.slice A1 t.length c1) ∧ W.cell? ⟨g, 3, none⟩ = some (.slice A2 t.length c2) from fun W hW => by
    have hh := (hW.block g HG.out.1 HG.out.2).trans HH.out
    exact ⟨by simp [World.cell?, hh], by simp [World.cell?, hh]⟩)
  have R1 := H2
  have R2 := H3
  clear H2 H3
  refine re_start [20, 23] (RowsOf A1 A2) (by kernel_rfl) (n := 24) (l := #[false, false, false, false, false, false, false, false, false, false, false, false, false, false, false, false, false, false, false, false, false, false, false, false]) (by kernel_rfl) (by kernel_rfl) ?_
  refine re_take (fuel := 23) 0 rfl (by kernel_rfl) (listed' := #[true, false, false, false, false, false, false, false, false, false, false, false, false, false, false, false, false, false, false, false, false, false, false, false]) (by kernel_rfl) (fun _ _ _ h => h) (by kernel_rfl) (fun w' hR => by go_simp; first | done | with_reducible rfl) rfl ?_
  try simp only [Act.put, List.setIfInBounds_toArray, List.set_cons_zero, List.set_cons_succ]
  refine re_take (fuel := 22) 2 rfl (by kernel_rfl) (listed' := #[true, false, true, false, false, false, false, false, false, false, false, false, false, false, false, false, false, false, false, false, false, false, false, false]) (by kernel_rfl) (fun _ _ _ h => h) (by kernel_rfl) (fun w' hR => by go_simp; first | done | with_reducible rfl) rfl ?_
  try simp only [Act.put, List.setIfInBounds_toArray, List.set_cons_zero, List.set_cons_succ]
  refine re_take (fuel := 21) 3 rfl (by kernel_rfl) (listed' := #[true, false, true, true, false, false, false, false, false, false, false, false, false, false, false, false, false, false, false, false, false, false, false, false]) (by kernel_rfl) (fun _ _ _ h => h) (by kernel_rfl) (fun w' hR => by go_simp; first | done | with_reducible rfl) rfl ?_
  try simp only [Act.put, List.setIfInBounds_toArray, List.set_cons_zero, List.set_cons_succ]
  refine re_take (fuel := 20) 4 rfl (by kernel_rfl) (listed' := #[true, false, true, true, true, false, false, false, false, false, false, false, false, false, false, false, false, false, false, false, false, false, false, false]) (by kernel_rfl) (fun _ _ _ h => h) (by kernel_rfl) (fun w' hR => by go_simp; first | done | with_reducible rfl) rfl ?_
  try simp only [Act.put, List.setIfInBounds_toArray, List.set_cons_zero, List.set_cons_succ]
  refine re_take (fuel := 19) 5 rfl (by kernel_rfl) (listed' := #[true, false, true, true, true, true, false, false, false, false, false, false, false, false, false, false, false, false, false, false, false, false, false, false]) (by kernel_rfl) (fun _ _ _ h => h) (by kernel_rfl) (fun w' hR => by have x0 := (HF.out w' hR).1; go_simp; first | done | with_reducible rfl) rfl ?_
  try simp only [Act.put, List.setIfInBounds_toArray, List.set_cons_zero, List.set_cons_succ]
  refine re_take (fuel := 18) 6 rfl (by kernel_rfl) (listed' := #[true, false, true, true, true, true, true, false, false, false, false, false, false, false, false, false, false, false, false, false, false, false, false, false]) (by kernel_rfl) (fun _ _ _ h => h) (by kernel_rfl) (fun w' hR => by go_simp; first | done | with_reducible rfl) rfl ?_
  try simp only [Act.put, List.setIfInBounds_toArray, List.set_cons_zero, List.set_cons_succ]
  refine re_take (fuel := 17) 7 rfl (by kernel_rfl) (listed' := #[true, false, true, true, true, true, true, true, false, false, false, false, false, false, false, false, false, false, false, false, false, false, false, false]) (by kernel_rfl) (fun _ _ _ h => h) (by kernel_rfl) (fun w' hR => by go_simp; first | done | with_reducible rfl) rfl ?_
  try simp only [Act.put, List.setIfInBounds_toArray, List.set_cons_zero, List.set_cons_succ]
  refine re_take (fuel := 16) 10 rfl (by kernel_rfl) (listed' := #[true, false, true, true, true, true, true, true, false, false, true, false, false, false, false, false, false, false, false, false, false, false, false, false]) (by kernel_rfl) (fun _ _ _ h => h) (by kernel_rfl) (fun w' hR => by go_simp; first | done | with_reducible rfl) rfl ?_
  try simp only [Act.put, List.setIfInBounds_toArray, List.set_cons_zero, List.set_cons_succ]
  refine re_take (fuel := 15) 11 rfl (by kernel_rfl) (listed' := #[true, false, true, true, true, true, true, true, false, false, true, true, false, false, false, false, false, false, false, false, false, false, false, false]) (by kernel_rfl) (fun _ _ _ h => h) (by kernel_rfl) (fun w' hR => by go_simp; first | done | with_reducible rfl) rfl ?_
  try simp only [Act.put, List.setIfInBounds_toArray, List.set_cons_zero, List.set_cons_succ]
  refine re_take (fuel := 14) 12 rfl (by kernel_rfl) (listed' := #[true, false, true, true, true, true, true, true, false, false, true, true, true, false, false, false, false, false, false, false, false, false, false, false]) (by kernel_rfl) (fun _ _ _ h => h) (by kernel_rfl) (fun w' hR => by go_simp; first | done | with_reducible rfl) rfl ?_
  try simp only [Act.put, List.setIfInBounds_toArray, List.set_cons_zero, List.set_cons_succ]
  refine re_take (fuel := 13) 13 rfl (by kernel_rfl) (listed' := #[true, false, true, true, true, true, true, true, false, false, true, true, true, true, false, false, false, false, false, false, false, false, false, false]) (by kernel_rfl) (fun _ _ _ h => h) (by kernel_rfl) (fun w' hR => by have x0 := (HF.out w' hR).2; go_simp; first | done | with_reducible rfl) rfl ?_
  try simp only [Act.put, List.setIfInBounds_toArray, List.set_cons_zero, List.set_cons_succ]
  refine re_take (fuel := 12) 14 rfl (by kernel_rfl) (listed' := #[true, false, true, true, true, true, true, true, false, false, true, true, true, true, true, false, false, false, false, false, false, false, false, false]) (by kernel_rfl) (fun _ _ _ h => h) (by kernel_rfl) (fun w' hR => by go_simp; first | done | with_reducible rfl) rfl ?_
  try simp only [Act.put, List.setIfInBounds_toArray, List.set_cons_zero, List.set_cons_succ]
  refine re_take (fuel := 11) 15 rfl (by kernel_rfl) (listed' := #[true, false, true, true, true, true, true, true, false, false, true, true, true, true, true, true, false, false, false, false, false, false, false, false]) (by kernel_rfl) (fun _ _ _ h => h) (by kernel_rfl) (fun w' hR => by go_simp; first | done | with_reducible rfl) rfl ?_
  try simp only [Act.put, List.setIfInBounds_toArray, List.set_cons_zero, List.set_cons_succ]
  refine re_any (fuel := 10) 1 rfl (by kernel_rfl) (listed' := #[true, true, true, true, true, true, true, true, false, false, true, true, true, true, true, true, false, false, false, false, false, false, false, false]) (by kernel_rfl) (fun _ _ _ h => h) (by kernel_rfl) (fun w' => by skip; go_simp; first | done | with_reducible rfl) rfl ?_
  try simp only [Act.put, List.setIfInBounds_toArray, List.set_cons_zero, List.set_cons_succ]
  refine re_fork (fuel := 9) 8 16 rfl rfl (by kernel_rfl) (by kernel_rfl) (by kernel_rfl) (listed1 := #[true, true, true, true, true, true, true, true, true, false, true, true, true, true, true, true, false, false, false, false, false, false, false, false]) (listed2 := #[true, true, true, true, true, true, true, true, false, false, true, true, true, true, true, true, true, false, false, false, false, false, false, false]) (by kernel_rfl) (by kernel_rfl) (fun K' hK => ?_) (fun K' hK => ?_)
  · (go_wp2_with fail); obtain ⟨Wa, hV⟩ : ∃ W1, W1 = World.drew (World.alloc w2 (.cells #[.int .i64 k] 3)) := ⟨_, rfl⟩; rw [← hV]; obtain ⟨b1, hb⟩ : ∃ b1, b1 = (World.heap w2).size := ⟨_, rfl⟩; try rw [← hb]; have hbn : (World.heap Wa)[b1]? = some (.cells #[.int .i64 k] 3 (0, 0)) := (by rw [hV, hb]; exact heap_alloc_new _ _); have hbz : w2.heap.size ≤ b1 := (by rw [hb]; exact HK.out.size); have hkv : Keep (RowsOf A1 A2) w2 Wa := (by rw [hV]; first | exact ((Keep.refl _ _).alloc _).drew | exact (Keep.refl _ _).alloc _); have HK := Aside0.mk (HK.out.trans hkv); have L1 := Aside0.mk (show Lit1 Wa b1 w2.heap.size 3 (.int .i64 k) from ⟨hbn, hbz⟩); have R1 := Aside0.mk (show World.ownsRow Wa 0 3 1 (.slice A1 t.length c1) t.length ((keysT t).map (Value.int .i64)) by rw [hV]; exact row_alloc R1.out _); have R2 := Aside0.mk (show World.ownsRow Wa 0 24 1 (.slice A2 t.length c2) t.length cs by rw [hV]; exact row_alloc R2.out _); (try have L2 := Aside0.mk (show Lit1 Wa b2 w2.heap.size 24 (.slice A v.length m) by rw [hV]; exact L2.out.alloc _)); have HKV := Aside0.mk hkv; clear hV hb hbn hbz hkv
    refine hK.out _ _ (Keep_undrew HKV.out) ?_
    clear hK K'
    try simp only [Act.put, List.setIfInBounds_toArray, List.set_cons_zero, List.set_cons_succ]
    refine re_fork (fuel := 8) 9 16 rfl rfl (by kernel_rfl) (by kernel_rfl) (by kernel_rfl) (listed1 := #[true, true, true, true, true, true, true, true, true, true, true, true, true, true, true, true, false, false, false, false, false, false, false, false]) (listed2 := #[true, true, true, true, true, true, true, true, true, false, true, true, true, true, true, true, true, false, false, false, false, false, false, false]) (by kernel_rfl) (by kernel_rfl) (fun K' hK => ?_) (fun K' hK => ?_)
    · go_wp2_with (first | (go_at_call 65; (refine (insI_calls A1 t.length c1 i ((keysT t).map (Value.int .i64)) [.int .i64 k] 1 0 Wa R1.out hil (by decide) rfl HOI.out HOK1.out b1 1 #[.int .i64 k] L1.out.1 HCV1.out (fun a ha => by have := HL1.out a ha; have := L1.out.2; omega) (by omega) (by decide) (Nat.zero_le _)).mono ?_; rintro e Wb ⟨v1, rfl, hr1, hg1, ha1⟩; have hwc : w2.heap.size ≤ (World.heap Wa).size := HK.out.size; obtain ⟨p1, k1, rfl, hpk⟩ := row_some hr1 (by omega); have HKV := Aside0.mk (show Keep (RowsOf A1 A2) Wa Wb from grown_keep (v := .slice A1 t.length c1) hg1 (fun j hj => .inl (own_some hj))); have HK := Aside0.mk (HK.out.trans HKV.out); have P1 := Aside0.mk (show (∃ a, A1 = some a ∧ a.block = p1) ∨ w2.heap.size ≤ p1 from ha1.elim (fun h => .inl (own_some h.symm)) (fun h => .inr (by obtain ⟨b, hb1, hb2⟩ := h; injection hb1 with hb1; exact Nat.le_trans hwc (Nat.le_trans hb2 (Nat.le_of_eq hb1.symm))))); have HP1 := Aside0.mk (show p1 < (World.heap Wb).size from row_lt hr1 _ rfl); have R1 := Aside0.mk hr1; have R2 := Aside0.mk (row_grown R2.out hg1 (fun b hb e => by obtain ⟨a, ha, ea⟩ := own_some e; obtain ⟨a', ha', ea'⟩ := own_some hb; exact H7.out a a' ha ha' (ea.trans ea'.symm))); (try have L2 := Aside0.mk (L2.out.grown hg1 (fun e => by obtain ⟨a, ha, ea⟩ := own_some e; have := HL1.out a ha; have := L2.out.2; omega))); clear hr1 hg1 ha1 L1)))
      refine hK.out _ _ HKV.out ?_
      clear hK K'
      try simp only [Act.put, List.setIfInBounds_toArray, List.set_cons_zero, List.set_cons_succ]
      refine re_step (fuel := 7) 16 rfl (by kernel_rfl) (listed' := #[true, true, true, true, true, true, true, true, true, true, true, true, true, true, true, true, true, false, false, false, false, false, false, false]) (by kernel_rfl) (by kernel_rfl) (fun K' hK => ?_)
      (go_wp2_with fail); obtain ⟨Wc, hV⟩ : ∃ W1, W1 = World.alloc Wb (.cells #[.slice A v.length m] 24) := ⟨_, rfl⟩; rw [← hV]; obtain ⟨b2, hb⟩ : ∃ b1, b1 = (World.heap Wb).size := ⟨_, rfl⟩; try rw [← hb]; have hbn : (World.heap Wc)[b2]? = some (.cells #[.slice A v.length m] 24 (0, 0)) := (by rw [hV, hb]; exact heap_alloc_new _ _); have hbz : w2.heap.size ≤ b2 := (by rw [hb]; exact HK.out.size); have hkv : Keep (RowsOf A1 A2) Wb Wc := (by rw [hV]; first | exact ((Keep.refl _ _).alloc _).drew | exact (Keep.refl _ _).alloc _); have HK := Aside0.mk (HK.out.trans hkv); have L2 := Aside0.mk (show Lit1 Wc b2 w2.heap.size 24 (.slice A v.length m) from ⟨hbn, hbz⟩); (first | (have R1 := Aside0.mk (show World.ownsRow Wc 0 3 1 (.slice (some ⟨p1, 0, none⟩) (t.length + 1) k1) (t.length + 1) (ins ((keysT t).map (Value.int .i64)) i [.int .i64 k]) by rw [hV]; exact row_alloc R1.out _); have HP1 := Aside0.mk (show p1 < (World.heap Wc).size from Nat.lt_of_lt_of_le HP1.out hkv.size)) | have R1 := Aside0.mk (show World.ownsRow Wc 0 3 1 (.slice A1 t.length c1) t.length ((keysT t).map (Value.int .i64)) by rw [hV]; exact row_alloc R1.out _)); have R2 := Aside0.mk (show World.ownsRow Wc 0 24 1 (.slice A2 t.length c2) t.length cs by rw [hV]; exact row_alloc R2.out _); (try have L1 := Aside0.mk (show Lit1 Wc b1 w2.heap.size 3 (.int .i64 k) by rw [hV]; exact L1.out.alloc _)); have HKV := Aside0.mk hkv; clear hV hb hbn hbz hkv
      refine hK.out _ _ HKV.out ?_
      clear hK K'
      try simp only [Act.put, List.setIfInBounds_toArray, List.set_cons_zero, List.set_cons_succ]
      refine re_step (fuel := 6) 17 rfl (by kernel_rfl) (listed' := #[true, true, true, true, true, true, true, true, true, true, true, true, true, true, true, true, true, true, false, false, false, false, false, false]) (by kernel_rfl) (by kernel_rfl) (fun K' hK => ?_)
      go_wp2_with (first | (go_at_call 66; (refine (insB_calls A2 t.length c2 i cs [.slice A v.length m] 1 0 Wc R2.out hil (by decide) rfl HOC.out HOK2.out b2 1 #[.slice A v.length m] L2.out.1 HCV2.out (fun a ha => by have := HL2.out a ha; have := L2.out.2; omega) (by omega) (by decide) (Nat.zero_le _)).mono ?_; rintro e Wd ⟨v2, rfl, hr2, hg2, ha2⟩; obtain ⟨p2, k2, rfl, hpk2⟩ := row_some hr2 (by omega); have hwc : w2.heap.size ≤ Wc.heap.size := HK.out.size; have HKV := Aside0.mk (show Keep (RowsOf A1 A2) Wc Wd from grown_keep (v := .slice A2 t.length c2) hg2 (fun j hj => .inr (own_some hj))); have HK := Aside0.mk (HK.out.trans HKV.out); have P2 := Aside0.mk (show (∃ a, A2 = some a ∧ a.block = p2) ∨ Wc.heap.size ≤ p2 from ha2.elim (fun h => .inl (own_some h.symm)) (fun h => .inr (by obtain ⟨b, hb1, hb2⟩ := h; injection hb1 with hb1; exact Nat.le_trans hb2 (Nat.le_of_eq hb1.symm)))); have P12 := Aside0.mk (show p1 ≠ p2 by rcases P1.out with ⟨a, ha, ea⟩ | h; (· rcases P2.out with ⟨a', ha', ea'⟩ | h'; (· have := H7.out a a' ha ha'; omega); (· have := HL1.out a ha; omega)); (· rcases P2.out with ⟨a', ha', ea'⟩ | h'; (· have := HL2.out a' ha'; omega); (· have := HP1.out; omega))); have R1 := Aside0.mk (row_grown R1.out hg2 (fun b hb e => by injection hb with hb; subst hb; obtain ⟨a, ha, ea⟩ := own_some e; rcases P1.out with ⟨a', ha', ea'⟩ | h'; (· exact H7.out a' a ha' ha (ea'.trans ea.symm)); (· have h2 := HL2.out a ha; rw [ea] at h2; exact absurd h2 (Nat.not_lt.2 h')))); have R2 := Aside0.mk hr2; have P2 := Aside0.mk (P2.out.imp id (Nat.le_trans hwc)); clear hr2 hg2 ha2 L2)))
      refine hK.out _ _ HKV.out ?_
      clear hK K'
      try simp only [Act.put, List.setIfInBounds_toArray, List.set_cons_zero, List.set_cons_succ]
      refine re_take (fuel := 5) 18 rfl (by kernel_rfl) (listed' := #[true, true, true, true, true, true, true, true, true, true, true, true, true, true, true, true, true, true, true, false, false, false, false, false]) (by kernel_rfl) (fun _ _ _ h => h) (by kernel_rfl) (fun w' hR => by go_simp; first | done | with_reducible rfl) rfl ?_
      try simp only [Act.put, List.setIfInBounds_toArray, List.set_cons_zero, List.set_cons_succ]
      refine re_take (fuel := 4) 19 rfl (by kernel_rfl) (listed' := #[true, true, true, true, true, true, true, true, true, true, true, true, true, true, true, true, true, true, true, true, false, false, false, false]) (by kernel_rfl) (fun _ _ _ h => h) (by kernel_rfl) (fun w' hR => by go_simp; first | done | with_reducible rfl) rfl ?_
      try simp only [Act.put, List.setIfInBounds_toArray, List.set_cons_zero, List.set_cons_succ]
      refine re_free (fuel := 3) 20 rfl (by kernel_rfl) (listed' := #[true, true, true, true, true, true, true, true, true, true, true, true, true, true, true, true, true, true, true, true, true, false, false, false]) (by kernel_rfl) (by kernel_rfl) (fun K' hK => ?_)
      have hh4 := (HK.out.block g HG.out.1 HG.out.2).trans HH.out; have hfz := blk_frozen hh4 2; have hx4 : Wd.cell? ⟨g, 2, none⟩ = some (.slice A1 t.length c1) := (by simp [World.cell?, hh4]); have hh5 := heap_setCell_same Wd g 2 _ 84 (.slice (some ⟨p1, 0, none⟩) (t.length + 1) k1) hh4; have HH5 := Aside0.mk hh5; clear hh4 hh5; go_wp2_with fail
      refine hK.out _ _ trivial ?_
      clear hK K'
      try simp only [Act.put, List.setIfInBounds_toArray, List.set_cons_zero, List.set_cons_succ]
      refine re_any (fuel := 2) 21 rfl (by kernel_rfl) (listed' := #[true, true, true, true, true, true, true, true, true, true, true, true, true, true, true, true, true, true, true, true, true, true, false, false]) (by kernel_rfl) (fun _ _ _ h => h) (by kernel_rfl) (fun w' => by skip; go_simp; first | done | with_reducible rfl) rfl ?_
      try simp only [Act.put, List.setIfInBounds_toArray, List.set_cons_zero, List.set_cons_succ]
      refine re_any (fuel := 1) 22 rfl (by kernel_rfl) (listed' := #[true, true, true, true, true, true, true, true, true, true, true, true, true, true, true, true, true, true, true, true, true, true, true, false]) (by kernel_rfl) (fun _ _ _ h => h) (by kernel_rfl) (fun w' => by skip; go_simp; first | done | with_reducible rfl) rfl ?_
      try simp only [Act.put, List.setIfInBounds_toArray, List.set_cons_zero, List.set_cons_succ]
      refine re_free (fuel := 0) 23 rfl (by kernel_rfl) (listed' := #[true, true, true, true, true, true, true, true, true, true, true, true, true, true, true, true, true, true, true, true, true, true, true, true]) (by kernel_rfl) (by kernel_rfl) (fun K' hK => ?_)
      have hh5 := HH5.out; have hfz := blk_frozen hh5 3; have hx5 : (Wd.setCell ⟨g, 2, none⟩ (.slice (some ⟨p1, 0, none⟩) (t.length + 1) k1)).cell? ⟨g, 3, none⟩ = some (.slice A2 t.length c2) := (by simp [World.cell?, hh5]); clear hh5; go_wp2_with fail
      refine hK.out _ _ trivial ?_
      clear hK K'
      try simp only [Act.put, List.setIfInBounds_toArray, List.set_cons_zero, List.set_cons_succ]
      refine re_done (by kernel_rfl) ?_
      go_wp2
      go_ret
      exact ⟨rfl, HFIN.out Wd i p1 p2 k1 k2 HPL.out HK.out R1.out R2.out P1.out P2.out P12.out⟩
    · (go_wp2_with fail); obtain ⟨Wb, hV⟩ : ∃ W1, W1 = World.alloc Wa (.cells #[.slice A v.length m] 24) := ⟨_, rfl⟩; rw [← hV]; obtain ⟨b2, hb⟩ : ∃ b1, b1 = (World.heap Wa).size := ⟨_, rfl⟩; try rw [← hb]; have hbn : (World.heap Wb)[b2]? = some (.cells #[.slice A v.length m] 24 (0, 0)) := (by rw [hV, hb]; exact heap_alloc_new _ _); have hbz : w2.heap.size ≤ b2 := (by rw [hb]; exact HK.out.size); have hkv : Keep (RowsOf A1 A2) Wa Wb := (by rw [hV]; first | exact ((Keep.refl _ _).alloc _).drew | exact (Keep.refl _ _).alloc _); have HK := Aside0.mk (HK.out.trans hkv); have L2 := Aside0.mk (show Lit1 Wb b2 w2.heap.size 24 (.slice A v.length m) from ⟨hbn, hbz⟩); (first | (have R1 := Aside0.mk (show World.ownsRow Wb 0 3 1 (.slice (some ⟨p1, 0, none⟩) (t.length + 1) k1) (t.length + 1) (ins ((keysT t).map (Value.int .i64)) i [.int .i64 k]) by rw [hV]; exact row_alloc R1.out _); have HP1 := Aside0.mk (show p1 < (World.heap Wb).size from Nat.lt_of_lt_of_le HP1.out hkv.size)) | have R1 := Aside0.mk (show World.ownsRow Wb 0 3 1 (.slice A1 t.length c1) t.length ((keysT t).map (Value.int .i64)) by rw [hV]; exact row_alloc R1.out _)); have R2 := Aside0.mk (show World.ownsRow Wb 0 24 1 (.slice A2 t.length c2) t.length cs by rw [hV]; exact row_alloc R2.out _); (try have L1 := Aside0.mk (show Lit1 Wb b1 w2.heap.size 3 (.int .i64 k) by rw [hV]; exact L1.out.alloc _)); have HKV := Aside0.mk hkv; clear hV hb hbn hbz hkv
      refine hK.out _ _ HKV.out ?_
      clear hK K'
      try simp only [Act.put, List.setIfInBounds_toArray, List.set_cons_zero, List.set_cons_succ]
      refine re_step (fuel := 7) 9 rfl (by kernel_rfl) (listed' := #[true, true, true, true, true, true, true, true, true, true, true, true, true, true, true, true, true, false, false, false, false, false, false, false]) (by kernel_rfl) (by kernel_rfl) (fun K' hK => ?_)
      go_wp2_with (first | (go_at_call 65; (refine (insI_calls A1 t.length c1 i ((keysT t).map (Value.int .i64)) [.int .i64 k] 1 0 Wb R1.out hil (by decide) rfl HOI.out HOK1.out b1 1 #[.int .i64 k] L1.out.1 HCV1.out (fun a ha => by have := HL1.out a ha; have := L1.out.2; omega) (by omega) (by decide) (Nat.zero_le _)).mono ?_; rintro e Wc ⟨v1, rfl, hr1, hg1, ha1⟩; have hwc : w2.heap.size ≤ (World.heap Wb).size := HK.out.size; obtain ⟨p1, k1, rfl, hpk⟩ := row_some hr1 (by omega); have HKV := Aside0.mk (show Keep (RowsOf A1 A2) Wb Wc from grown_keep (v := .slice A1 t.length c1) hg1 (fun j hj => .inl (own_some hj))); have HK := Aside0.mk (HK.out.trans HKV.out); have P1 := Aside0.mk (show (∃ a, A1 = some a ∧ a.block = p1) ∨ w2.heap.size ≤ p1 from ha1.elim (fun h => .inl (own_some h.symm)) (fun h => .inr (by obtain ⟨b, hb1, hb2⟩ := h; injection hb1 with hb1; exact Nat.le_trans hwc (Nat.le_trans hb2 (Nat.le_of_eq hb1.symm))))); have HP1 := Aside0.mk (show p1 < (World.heap Wc).size from row_lt hr1 _ rfl); have R1 := Aside0.mk hr1; have R2 := Aside0.mk (row_grown R2.out hg1 (fun b hb e => by obtain ⟨a, ha, ea⟩ := own_some e; obtain ⟨a', ha', ea'⟩ := own_some hb; exact H7.out a a' ha ha' (ea.trans ea'.symm))); (try have L2 := Aside0.mk (L2.out.grown hg1 (fun e => by obtain ⟨a, ha, ea⟩ := own_some e; have := HL1.out a ha; have := L2.out.2; omega))); clear hr1 hg1 ha1 L1)))
      refine hK.out _ _ HKV.out ?_
      clear hK K'
      try simp only [Act.put, List.setIfInBounds_toArray, List.set_cons_zero, List.set_cons_succ]
      refine re_step (fuel := 6) 17 rfl (by kernel_rfl) (listed' := #[true, true, true, true, true, true, true, true, true, true, true, true, true, true, true, true, true, true, false, false, false, false, false, false]) (by kernel_rfl) (by kernel_rfl) (fun K' hK => ?_)
      go_wp2_with (first | (go_at_call 66; (refine (insB_calls A2 t.length c2 i cs [.slice A v.length m] 1 0 Wc R2.out hil (by decide) rfl HOC.out HOK2.out b2 1 #[.slice A v.length m] L2.out.1 HCV2.out (fun a ha => by have := HL2.out a ha; have := L2.out.2; omega) (by omega) (by decide) (Nat.zero_le _)).mono ?_; rintro e Wd ⟨v2, rfl, hr2, hg2, ha2⟩; obtain ⟨p2, k2, rfl, hpk2⟩ := row_some hr2 (by omega); have hwc : w2.heap.size ≤ Wc.heap.size := HK.out.size; have HKV := Aside0.mk (show Keep (RowsOf A1 A2) Wc Wd from grown_keep (v := .slice A2 t.length c2) hg2 (fun j hj => .inr (own_some hj))); have HK := Aside0.mk (HK.out.trans HKV.out); have P2 := Aside0.mk (show (∃ a, A2 = some a ∧ a.block = p2) ∨ Wc.heap.size ≤ p2 from ha2.elim (fun h => .inl (own_some h.symm)) (fun h => .inr (by obtain ⟨b, hb1, hb2⟩ := h; injection hb1 with hb1; exact Nat.le_trans hb2 (Nat.le_of_eq hb1.symm)))); have P12 := Aside0.mk (show p1 ≠ p2 by rcases P1.out with ⟨a, ha, ea⟩ | h; (· rcases P2.out with ⟨a', ha', ea'⟩ | h'; (· have := H7.out a a' ha ha'; omega); (· have := HL1.out a ha; omega)); (· rcases P2.out with ⟨a', ha', ea'⟩ | h'; (· have := HL2.out a' ha'; omega); (· have := HP1.out; omega))); have R1 := Aside0.mk (row_grown R1.out hg2 (fun b hb e => by injection hb with hb; subst hb; obtain ⟨a, ha, ea⟩ := own_some e; rcases P1.out with ⟨a', ha', ea'⟩ | h'; (· exact H7.out a' a ha' ha (ea'.trans ea.symm)); (· have h2 := HL2.out a ha; rw [ea] at h2; exact absurd h2 (Nat.not_lt.2 h')))); have R2 := Aside0.mk hr2; have P2 := Aside0.mk (P2.out.imp id (Nat.le_trans hwc)); clear hr2 hg2 ha2 L2)))
      refine hK.out _ _ HKV.out ?_
      clear hK K'
      try simp only [Act.put, List.setIfInBounds_toArray, List.set_cons_zero, List.set_cons_succ]
      refine re_take (fuel := 5) 18 rfl (by kernel_rfl) (listed' := #[true, true, true, true, true, true, true, true, true, true, true, true, true, true, true, true, true, true, true, false, false, false, false, false]) (by kernel_rfl) (fun _ _ _ h => h) (by kernel_rfl) (fun w' hR => by go_simp; first | done | with_reducible rfl) rfl ?_
      try simp only [Act.put, List.setIfInBounds_toArray, List.set_cons_zero, List.set_cons_succ]
      refine re_take (fuel := 4) 19 rfl (by kernel_rfl) (listed' := #[true, true, true, true, true, true, true, true, true, true, true, true, true, true, true, true, true, true, true, true, false, false, false, false]) (by kernel_rfl) (fun _ _ _ h => h) (by kernel_rfl) (fun w' hR => by go_simp; first | done | with_reducible rfl) rfl ?_
      try simp only [Act.put, List.setIfInBounds_toArray, List.set_cons_zero, List.set_cons_succ]
      refine re_free (fuel := 3) 20 rfl (by kernel_rfl) (listed' := #[true, true, true, true, true, true, true, true, true, true, true, true, true, true, true, true, true, true, true, true, true, false, false, false]) (by kernel_rfl) (by kernel_rfl) (fun K' hK => ?_)
      have hh4 := (HK.out.block g HG.out.1 HG.out.2).trans HH.out; have hfz := blk_frozen hh4 2; have hx4 : Wd.cell? ⟨g, 2, none⟩ = some (.slice A1 t.length c1) := (by simp [World.cell?, hh4]); have hh5 := heap_setCell_same Wd g 2 _ 84 (.slice (some ⟨p1, 0, none⟩) (t.length + 1) k1) hh4; have HH5 := Aside0.mk hh5; clear hh4 hh5; go_wp2_with fail
      refine hK.out _ _ trivial ?_
      clear hK K'
      try simp only [Act.put, List.setIfInBounds_toArray, List.set_cons_zero, List.set_cons_succ]
      refine re_any (fuel := 2) 21 rfl (by kernel_rfl) (listed' := #[true, true, true, true, true, true, true, true, true, true, true, true, true, true, true, true, true, true, true, true, true, true, false, false]) (by kernel_rfl) (fun _ _ _ h => h) (by kernel_rfl) (fun w' => by skip; go_simp; first | done | with_reducible rfl) rfl ?_
      try simp only [Act.put, List.setIfInBounds_toArray, List.set_cons_zero, List.set_cons_succ]
      refine re_any (fuel := 1) 22 rfl (by kernel_rfl) (listed' := #[true, true, true, true, true, true, true, true, true, true, true, true, true, true, true, true, true, true, true, true, true, true, true, false]) (by kernel_rfl) (fun _ _ _ h => h) (by kernel_rfl) (fun w' => by skip; go_simp; first | done | with_reducible rfl) rfl ?_
      try simp only [Act.put, List.setIfInBounds_toArray, List.set_cons_zero, List.set_cons_succ]
      refine re_free (fuel := 0) 23 rfl (by kernel_rfl) (listed' := #[true, true, true, true, true, true, true, true, true, true, true, true, true, true, true, true, true, true, true, true, true, true, true, true]) (by kernel_rfl) (by kernel_rfl) (fun K' hK => ?_)
      have hh5 := HH5.out; have hfz := blk_frozen hh5 3; have hx5 : (Wd.setCell ⟨g, 2, none⟩ (.slice (some ⟨p1, 0, none⟩) (t.length + 1) k1)).cell? ⟨g, 3, none⟩ = some (.slice A2 t.length c2) := (by simp [World.cell?, hh5]); clear hh5; go_wp2_with fail
      refine hK.out _ _ trivial ?_
      clear hK K'
      try simp only [Act.put, List.setIfInBounds_toArray, List.set_cons_zero, List.set_cons_succ]
      refine re_done (by kernel_rfl) ?_
      go_wp2
      go_ret
      exact ⟨rfl, HFIN.out Wd i p1 p2 k1 k2 HPL.out HK.out R1.out R2.out P1.out P2.out P12.out⟩
  · (go_wp2_with fail); obtain ⟨Wa, hV⟩ : ∃ W1, W1 = World.drew (World.alloc w2 (.cells #[.slice A v.length m] 24)) := ⟨_, rfl⟩; rw [← hV]; obtain ⟨b2, hb⟩ : ∃ b1, b1 = (World.heap w2).size := ⟨_, rfl⟩; try rw [← hb]; have hbn : (World.heap Wa)[b2]? = some (.cells #[.slice A v.length m] 24 (0, 0)) := (by rw [hV, hb]; exact heap_alloc_new _ _); have hbz : w2.heap.size ≤ b2 := (by rw [hb]; exact HK.out.size); have hkv : Keep (RowsOf A1 A2) w2 Wa := (by rw [hV]; first | exact ((Keep.refl _ _).alloc _).drew | exact (Keep.refl _ _).alloc _); have HK := Aside0.mk (HK.out.trans hkv); have L2 := Aside0.mk (show Lit1 Wa b2 w2.heap.size 24 (.slice A v.length m) from ⟨hbn, hbz⟩); (first | (have R1 := Aside0.mk (show World.ownsRow Wa 0 3 1 (.slice (some ⟨p1, 0, none⟩) (t.length + 1) k1) (t.length + 1) (ins ((keysT t).map (Value.int .i64)) i [.int .i64 k]) by rw [hV]; exact row_alloc R1.out _); have HP1 := Aside0.mk (show p1 < (World.heap Wa).size from Nat.lt_of_lt_of_le HP1.out hkv.size)) | have R1 := Aside0.mk (show World.ownsRow Wa 0 3 1 (.slice A1 t.length c1) t.length ((keysT t).map (Value.int .i64)) by rw [hV]; exact row_alloc R1.out _)); have R2 := Aside0.mk (show World.ownsRow Wa 0 24 1 (.slice A2 t.length c2) t.length cs by rw [hV]; exact row_alloc R2.out _); (try have L1 := Aside0.mk (show Lit1 Wa b1 w2.heap.size 3 (.int .i64 k) by rw [hV]; exact L1.out.alloc _)); have HKV := Aside0.mk hkv; clear hV hb hbn hbz hkv
    refine hK.out _ _ (Keep_undrew HKV.out) ?_
    clear hK K'
    try simp only [Act.put, List.setIfInBounds_toArray, List.set_cons_zero, List.set_cons_succ]
    refine re_step (fuel := 8) 8 rfl (by kernel_rfl) (listed' := #[true, true, true, true, true, true, true, true, true, false, true, true, true, true, true, true, true, false, false, false, false, false, false, false]) (by kernel_rfl) (by kernel_rfl) (fun K' hK => ?_)
    (go_wp2_with fail); obtain ⟨Wb, hV⟩ : ∃ W1, W1 = World.alloc Wa (.cells #[.int .i64 k] 3) := ⟨_, rfl⟩; rw [← hV]; obtain ⟨b1, hb⟩ : ∃ b1, b1 = (World.heap Wa).size := ⟨_, rfl⟩; try rw [← hb]; have hbn : (World.heap Wb)[b1]? = some (.cells #[.int .i64 k] 3 (0, 0)) := (by rw [hV, hb]; exact heap_alloc_new _ _); have hbz : w2.heap.size ≤ b1 := (by rw [hb]; exact HK.out.size); have hkv : Keep (RowsOf A1 A2) Wa Wb := (by rw [hV]; first | exact ((Keep.refl _ _).alloc _).drew | exact (Keep.refl _ _).alloc _); have HK := Aside0.mk (HK.out.trans hkv); have L1 := Aside0.mk (show Lit1 Wb b1 w2.heap.size 3 (.int .i64 k) from ⟨hbn, hbz⟩); have R1 := Aside0.mk (show World.ownsRow Wb 0 3 1 (.slice A1 t.length c1) t.length ((keysT t).map (Value.int .i64)) by rw [hV]; exact row_alloc R1.out _); have R2 := Aside0.mk (show World.ownsRow Wb 0 24 1 (.slice A2 t.length c2) t.length cs by rw [hV]; exact row_alloc R2.out _); (try have L2 := Aside0.mk (show Lit1 Wb b2 w2.heap.size 24 (.slice A v.length m) by rw [hV]; exact L2.out.alloc _)); have HKV := Aside0.mk hkv; clear hV hb hbn hbz hkv
    refine hK.out _ _ HKV.out ?_
    clear hK K'
    try simp only [Act.put, List.setIfInBounds_toArray, List.set_cons_zero, List.set_cons_succ]
    refine re_step (fuel := 7) 9 rfl (by kernel_rfl) (listed' := #[true, true, true, true, true, true, true, true, true, true, true, true, true, true, true, true, true, false, false, false, false, false, false, false]) (by kernel_rfl) (by kernel_rfl) (fun K' hK => ?_)
    go_wp2_with (first | (go_at_call 65; (refine (insI_calls A1 t.length c1 i ((keysT t).map (Value.int .i64)) [.int .i64 k] 1 0 Wb R1.out hil (by decide) rfl HOI.out HOK1.out b1 1 #[.int .i64 k] L1.out.1 HCV1.out (fun a ha => by have := HL1.out a ha; have := L1.out.2; omega) (by omega) (by decide) (Nat.zero_le _)).mono ?_; rintro e Wc ⟨v1, rfl, hr1, hg1, ha1⟩; have hwc : w2.heap.size ≤ (World.heap Wb).size := HK.out.size; obtain ⟨p1, k1, rfl, hpk⟩ := row_some hr1 (by omega); have HKV := Aside0.mk (show Keep (RowsOf A1 A2) Wb Wc from grown_keep (v := .slice A1 t.length c1) hg1 (fun j hj => .inl (own_some hj))); have HK := Aside0.mk (HK.out.trans HKV.out); have P1 := Aside0.mk (show (∃ a, A1 = some a ∧ a.block = p1) ∨ w2.heap.size ≤ p1 from ha1.elim (fun h => .inl (own_some h.symm)) (fun h => .inr (by obtain ⟨b, hb1, hb2⟩ := h; injection hb1 with hb1; exact Nat.le_trans hwc (Nat.le_trans hb2 (Nat.le_of_eq hb1.symm))))); have HP1 := Aside0.mk (show p1 < (World.heap Wc).size from row_lt hr1 _ rfl); have R1 := Aside0.mk hr1; have R2 := Aside0.mk (row_grown R2.out hg1 (fun b hb e => by obtain ⟨a, ha, ea⟩ := own_some e; obtain ⟨a', ha', ea'⟩ := own_some hb; exact H7.out a a' ha ha' (ea.trans ea'.symm))); (try have L2 := Aside0.mk (L2.out.grown hg1 (fun e => by obtain ⟨a, ha, ea⟩ := own_some e; have := HL1.out a ha; have := L2.out.2; omega))); clear hr1 hg1 ha1 L1)))
    refine hK.out _ _ HKV.out ?_
    clear hK K'
    try simp only [Act.put, List.setIfInBounds_toArray, List.set_cons_zero, List.set_cons_succ]
    refine re_step (fuel := 6) 17 rfl (by kernel_rfl) (listed' := #[true, true, true, true, true, true, true, true, true, true, true, true, true, true, true, true, true, true, false, false, false, false, false, false]) (by kernel_rfl) (by kernel_rfl) (fun K' hK => ?_)
    go_wp2_with (first | (go_at_call 66; (refine (insB_calls A2 t.length c2 i cs [.slice A v.length m] 1 0 Wc R2.out hil (by decide) rfl HOC.out HOK2.out b2 1 #[.slice A v.length m] L2.out.1 HCV2.out (fun a ha => by have := HL2.out a ha; have := L2.out.2; omega) (by omega) (by decide) (Nat.zero_le _)).mono ?_; rintro e Wd ⟨v2, rfl, hr2, hg2, ha2⟩; obtain ⟨p2, k2, rfl, hpk2⟩ := row_some hr2 (by omega); have hwc : w2.heap.size ≤ Wc.heap.size := HK.out.size; have HKV := Aside0.mk (show Keep (RowsOf A1 A2) Wc Wd from grown_keep (v := .slice A2 t.length c2) hg2 (fun j hj => .inr (own_some hj))); have HK := Aside0.mk (HK.out.trans HKV.out); have P2 := Aside0.mk (show (∃ a, A2 = some a ∧ a.block = p2) ∨ Wc.heap.size ≤ p2 from ha2.elim (fun h => .inl (own_some h.symm)) (fun h => .inr (by obtain ⟨b, hb1, hb2⟩ := h; injection hb1 with hb1; exact Nat.le_trans hb2 (Nat.le_of_eq hb1.symm)))); have P12 := Aside0.mk (show p1 ≠ p2 by rcases P1.out with ⟨a, ha, ea⟩ | h; (· rcases P2.out with ⟨a', ha', ea'⟩ | h'; (· have := H7.out a a' ha ha'; omega); (· have := HL1.out a ha; omega)); (· rcases P2.out with ⟨a', ha', ea'⟩ | h'; (· have := HL2.out a' ha'; omega); (· have := HP1.out; omega))); have R1 := Aside0.mk (row_grown R1.out hg2 (fun b hb e => by injection hb with hb; subst hb; obtain ⟨a, ha, ea⟩ := own_some e; rcases P1.out with ⟨a', ha', ea'⟩ | h'; (· exact H7.out a' a ha' ha (ea'.trans ea.symm)); (· have h2 := HL2.out a ha; rw [ea] at h2; exact absurd h2 (Nat.not_lt.2 h')))); have R2 := Aside0.mk hr2; have P2 := Aside0.mk (P2.out.imp id (Nat.le_trans hwc)); clear hr2 hg2 ha2 L2)))
    refine hK.out _ _ HKV.out ?_
    clear hK K'
    try simp only [Act.put, List.setIfInBounds_toArray, List.set_cons_zero, List.set_cons_succ]
    refine re_take (fuel := 5) 18 rfl (by kernel_rfl) (listed' := #[true, true, true, true, true, true, true, true, true, true, true, true, true, true, true, true, true, true, true, false, false, false, false, false]) (by kernel_rfl) (fun _ _ _ h => h) (by kernel_rfl) (fun w' hR => by go_simp; first | done | with_reducible rfl) rfl ?_
    try simp only [Act.put, List.setIfInBounds_toArray, List.set_cons_zero, List.set_cons_succ]
    refine re_take (fuel := 4) 19 rfl (by kernel_rfl) (listed' := #[true, true, true, true, true, true, true, true, true, true, true, true, true, true, true, true, true, true, true, true, false, false, false, false]) (by kernel_rfl) (fun _ _ _ h => h) (by kernel_rfl) (fun w' hR => by go_simp; first | done | with_reducible rfl) rfl ?_
    try simp only [Act.put, List.setIfInBounds_toArray, List.set_cons_zero, List.set_cons_succ]
    refine re_free (fuel := 3) 20 rfl (by kernel_rfl) (listed' := #[true, true, true, true, true, true, true, true, true, true, true, true, true, true, true, true, true, true, true, true, true, false, false, false]) (by kernel_rfl) (by kernel_rfl) (fun K' hK => ?_)
    have hh4 := (HK.out.block g HG.out.1 HG.out.2).trans HH.out; have hfz := blk_frozen hh4 2; have hx4 : Wd.cell? ⟨g, 2, none⟩ = some (.slice A1 t.length c1) := (by simp [World.cell?, hh4]); have hh5 := heap_setCell_same Wd g 2 _ 84 (.slice (some ⟨p1, 0, none⟩) (t.length + 1) k1) hh4; have HH5 := Aside0.mk hh5; clear hh4 hh5; go_wp2_with fail
    refine hK.out _ _ trivial ?_
    clear hK K'
    try simp only [Act.put, List.setIfInBounds_toArray, List.set_cons_zero, List.set_cons_succ]
    refine re_any (fuel := 2) 21 rfl (by kernel_rfl) (listed' := #[true, true, true, true, true, true, true, true, true, true, true, true, true, true, true, true, true, true, true, true, true, true, false, false]) (by kernel_rfl) (fun _ _ _ h => h) (by kernel_rfl) (fun w' => by skip; go_simp; first | done | with_reducible rfl) rfl ?_
    try simp only [Act.put, List.setIfInBounds_toArray, List.set_cons_zero, List.set_cons_succ]
    refine re_any (fuel := 1) 22 rfl (by kernel_rfl) (listed' := #[true, true, true, true, true, true, true, true, true, true, true, true, true, true, true, true, true, true, true, true, true, true, true, false]) (by kernel_rfl) (fun _ _ _ h => h) (by kernel_rfl) (fun w' => by skip; go_simp; first | done | with_reducible rfl) rfl ?_
    try simp only [Act.put, List.setIfInBounds_toArray, List.set_cons_zero, List.set_cons_succ]
    refine re_free (fuel := 0) 23 rfl (by kernel_rfl) (listed' := #[true, true, true, true, true, true, true, true, true, true, true, true, true, true, true, true, true, true, true, true, true, true, true, true]) (by kernel_rfl) (by kernel_rfl) (fun K' hK => ?_)
    have hh5 := HH5.out; have hfz := blk_frozen hh5 3; have hx5 : (Wd.setCell ⟨g, 2, none⟩ (.slice (some ⟨p1, 0, none⟩) (t.length + 1) k1)).cell? ⟨g, 3, none⟩ = some (.slice A2 t.length c2) := (by simp [World.cell?, hh5]); clear hh5; go_wp2_with fail
    refine hK.out _ _ trivial ?_
    clear hK K'
    try simp only [Act.put, List.setIfInBounds_toArray, List.set_cons_zero, List.set_cons_succ]
    refine re_done (by kernel_rfl) ?_
    go_wp2
    go_ret
    exact ⟨rfl, HFIN.out Wd i p1 p2 k1 k2 HPL.out HK.out R1.out R2.out P1.out P2.out P12.out⟩
end Go.Proofs.Ytfcpnjoiloahcaa.Ta
namespace Go.Proofs.Ytfcpnjoiloahcaa.Fs
open Go.Proofs.Ytfcpnjoiloahcaa.B
set_option linter.unusedVariables false
set_option linter.unusedSimpArgs false
/-- With noughts up to n. -/
def padded (b : List Int) (n : Nat) : List Int := b ++ List.replicate (n - b.length) 0
/-- Bytes over others, at a place. -/
def laid (b : List Int) (i : Nat) (c : List Int) : List Int := (padded b (i + c.length)).take i ++ c ++ (padded b (i + c.length)).drop (i + c.length)
theorem padded_len (b : List Int) (n : Nat) : (padded b n).length = max b.length n := by simp [padded]; omega
theorem laid_len (b : List Int) (i : Nat) (c : List Int) : (laid b i c).length = max b.length (i + c.length) := by simp [laid, padded_len]; omega
theorem laid_nil (b : List Int) (i : Nat) (h : i ≤ b.length) : laid b i [] = b := by
  have : padded b i = b := by simp [padded, show i - b.length = 0 by omega]
  simp only [laid, List.length_nil, Nat.add_zero, this, List.append_nil, List.take_append_drop]
theorem laid_by {b c : List Int} (i : Nat) (hb : By b) (hc : By c) : By (laid b i c) := by
  have hp : By (padded b (i + c.length)) := hb.append (fun x hx => by have := List.eq_of_mem_replicate hx; omega)
  exact ((hp.take _).append hc).append (hp.drop _)
theorem laid_end (b c : List Int) : laid b b.length c = b ++ c := by
  simp [laid, padded, List.take_append, List.drop_append]
theorem laid_zero (c : List Int) : laid [] 0 c = c := by simpa using laid_end [] c
theorem laid_in {b c : List Int} {i : Nat} (h : i + c.length ≤ b.length) : laid b i c = b.take i ++ c ++ b.drop (i + c.length) := by
  simp [laid, padded, Nat.sub_eq_zero_of_le h]
theorem laid_over {b c : List Int} {i : Nat} (h : i ≤ b.length) : laid b i c = b.take i ++ c ++ b.drop (i + c.length) := by
  rcases Nat.le_total (i + c.length) b.length with h1 | h1
  · exact laid_in h1
  · rw [laid, List.drop_of_length_le (l := b) (by omega), List.drop_of_length_le (by rw [padded_len]; omega), padded, List.take_append_of_le_length h]
/-- What stands behind i bytes, laid one by one. -/
def layPart (b : List Int) (i : Nat) (c : List Int) : Nat → List Int
  | 0 => b
  | k + 1 => laid b i (c.take (k + 1))
theorem layPart_len (b : List Int) (i : Nat) (c : List Int) : ∀ k, k ≤ c.length → (layPart b i c k).length = if k = 0 then b.length else max b.length (i + k)
  | 0, _ => rfl
  | k + 1, h => by rw [layPart, laid_len, List.length_take, Nat.min_eq_left h, if_neg (by omega)]
theorem layPart_step (b : List Int) (i : Nat) {c : List Int} {k : Nat} {x : Int} (hx : c[k]? = some x) : ((padded (layPart b i c k) (i + k + 1)).set (i + k) x) = layPart b i c (k + 1) := by
  obtain ⟨hk, hx⟩ := List.getElem?_eq_some_iff.1 hx
  have hl : ∀ j, (layPart b i c j).length = _ := fun j => rfl
  apply List.ext_getElem?
  intro j
  have key : ∀ (n : Nat), n ≤ c.length → 0 < n → ∀ j, (layPart b i c n)[j]? = if j < i then (padded b (i + n))[j]? else if j < i + n then c[j - i]? else b[j]? := by
    intro n hn h0 j
    obtain ⟨n, rfl⟩ : ∃ n', n = n' + 1 := ⟨n - 1, by omega⟩
    rw [layPart, laid, List.length_take, Nat.min_eq_left hn]
    have hp := padded_len b (i + (n + 1))
    by_cases h1 : j < i
    · rw [if_pos h1, List.append_assoc, List.getElem?_append_left (by rw [List.length_take]; omega), List.getElem?_take_of_lt h1]
    · rw [if_neg h1]
      by_cases h2 : j < i + (n + 1)
      · rw [if_pos h2, List.getElem?_append_left (by rw [List.length_append, List.length_take, List.length_take]; omega), List.getElem?_append_right (by rw [List.length_take]; omega), List.length_take, Nat.min_eq_left (by omega), List.getElem?_take_of_lt (by omega)]
      · rw [if_neg h2, List.getElem?_append_right (by rw [List.length_append, List.length_take, List.length_take]; omega), List.length_append, List.length_take, List.length_take, List.getElem?_drop, Nat.min_eq_left (by omega), Nat.min_eq_left hn]
        rw [show i + (n + 1) + (j - (i + (n + 1))) = j by omega, padded]
        rcases Nat.lt_or_ge j b.length with h3 | h3
        · rw [List.getElem?_append_left h3]
        · rw [List.getElem?_append_right h3, List.getElem?_eq_none (by simp; omega), List.getElem?_eq_none h3]
  have pad : ∀ (l : List Int) (n j : Nat), (padded l n)[j]? = if j < l.length then l[j]? else if j < n then some 0 else none := by
    intro l n j
    rw [padded]
    by_cases h : j < l.length
    · rw [if_pos h, List.getElem?_append_left h]
    · rw [if_neg h, List.getElem?_append_right (by omega)]
      by_cases h2 : j < n
      · rw [if_pos h2, List.getElem?_replicate, if_pos (by omega)]
      · rw [if_neg h2, List.getElem?_eq_none (by simp; omega)]
  have hpl := layPart_len b i c k (by omega)
  rw [key (k + 1) (by omega) (by omega) j]
  by_cases hj : i + k = j
  · subst hj
    rw [List.getElem?_set_self (by rw [padded_len]; omega), if_neg (by omega), if_pos (by omega), show i + k - i = k by omega, List.getElem?_eq_getElem hk, hx]
  · rw [List.getElem?_set_ne hj, pad]
    rcases Nat.eq_zero_or_pos k with rfl | hk0
    · rw [layPart, pad]
      rw [layPart, if_pos rfl] at hpl
      have h3 : ¬ (j < i + (0 + 1)) ∨ j < i := by omega
      by_cases h1 : j < i
      · simp only [h1, if_true]
      · have h4 : ¬ (j < i + (0 + 1)) := by omega
        by_cases h2 : j < b.length
        · simp only [h1, h2, h4, if_true, if_false]
        · simp only [h1, h2, h4, if_false]
          rw [List.getElem?_eq_none (by omega)]
    · rw [if_neg (by omega)] at hpl
      rw [key k (by omega) hk0 j, pad, pad, hpl]
      by_cases h1 : j < i
      · simp only [h1, if_true]
        rw [if_pos (by omega)]
        by_cases h2 : j < b.length
        · simp [h2]
        · simp only [h2, if_false]
          rw [if_pos (by omega), if_pos (by omega)]
      · simp only [h1, if_false]
        by_cases h2 : j < i + k
        · rw [if_pos (by omega), if_pos h2, if_pos (by omega)]
        · by_cases h3 : j < b.length
          · rw [if_pos (by omega), if_neg h2, if_neg (by omega)]
          · rw [if_neg (by omega), if_neg (by omega), if_neg (by omega), List.getElem?_eq_none (by omega)]
/-- A row of writes over bytes. -/
def over : List (Int × List Int) → List Int → List Int
  | [], b => b
  | q :: r, b => over r (laid b q.1.toNat q.2)
theorem over_snoc (q : Int × List Int) : ∀ (l : List (Int × List Int)) (b : List Int), over (l ++ [q]) b = laid (over l b) q.1.toNat q.2
  | [], _ => rfl
  | _ :: r, b => over_snoc q r _
/-- So many first ones of a write are kept. -/
def kept (keep : List Int) (i : Nat) (n : Nat) : Nat := match keep[i]? with
  | some k => (max 0 (min k n)).toNat
  | none => 0
/-- What a crash leaves. -/
def fallen (keep : List Int) : Nat → List (Int × List Int) → List Int → List Int
  | _, [], b => b
  | i, q :: r, b => fallen keep (i + 1) r (if 0 < kept keep i q.2.length then laid b q.1.toNat (q.2.take (kept keep i q.2.length)) else b)
/-- What may stand in a file: sure bytes, writes that aren't; each begins where bytes are, and none goes past the room. -/
def OkQ (room : Int) : List (Int × List Int) → List Int → Prop
  | [], _ => True
  | q :: r, b => 0 ≤ q.1 ∧ q.1 ≤ b.length ∧ q.1 + q.2.length ≤ room ∧ By q.2 ∧ OkQ room r (laid b q.1.toNat q.2)
structure FOk (room : Int) (s : List Int) (q : List (Int × List Int)) : Prop where
  r0 : 0 ≤ room
  r1 : room ≤ 4194304
  s0 : (s.length : Int) ≤ room
  sb : By s
  ok : OkQ room q s
theorem laid_room {room : Int} {b c : List Int} {i : Int} (h : (b.length : Int) ≤ room) (h0 : 0 ≤ i) (h1 : i + c.length ≤ room) : ((laid b i.toNat c).length : Int) ≤ room := by rw [laid_len]; omega
theorem OkQ.all {room : Int} : ∀ {q : List (Int × List Int)} {b : List Int}, OkQ room q b → (b.length : Int) ≤ room → By b → ((over q b).length : Int) ≤ room ∧ By (over q b)
  | [], _, _, h, hb => ⟨h, hb⟩
  | p :: r, b, hq, h, hb => OkQ.all (q := r) (b := laid b p.1.toNat p.2) hq.2.2.2.2 (laid_room h hq.1 hq.2.2.1) (laid_by _ hb hq.2.2.2.1)
theorem OkQ.snoc {room : Int} {p : Int × List Int} : ∀ {q : List (Int × List Int)} {b : List Int}, OkQ room q b → 0 ≤ p.1 → p.1 ≤ (Fs.over q b).length → p.1 + p.2.length ≤ room → By p.2 → OkQ room (q ++ [p]) b
  | [], _, _, h0, h1, h2, h3 => ⟨h0, h1, h2, h3, trivial⟩
  | _ :: _, _, hq, h0, h1, h2, h3 => ⟨hq.1, hq.2.1, hq.2.2.1, hq.2.2.2.1, OkQ.snoc hq.2.2.2.2 h0 h1 h2 h3⟩
/-- At the k-th write. -/
theorem OkQ.get {room : Int} : ∀ {q : List (Int × List Int)} {b : List Int} {k : Nat} {p : Int × List Int}, OkQ room q b → q[k]? = some p → 0 ≤ p.1 ∧ p.1 ≤ (Fs.over (q.take k) b).length ∧ p.1 + p.2.length ≤ room ∧ By p.2
  | _ :: _, _, 0, _, hq, hp => by
    have := Option.some.inj hp
    subst this
    exact ⟨hq.1, hq.2.1, hq.2.2.1, hq.2.2.2.1⟩
  | _ :: r, _, k + 1, _, hq, hp => OkQ.get (q := r) (k := k) hq.2.2.2.2 (by simpa using hp)
theorem over_take {q : List (Int × List Int)} {b : List Int} {k : Nat} {p : Int × List Int} (hp : q[k]? = some p) : over (q.take (k + 1)) b = laid (over (q.take k) b) p.1.toNat p.2 := by
  obtain ⟨hl, hp⟩ := List.getElem?_eq_some_iff.1 hp
  rw [List.take_succ_eq_append_getElem hl, hp, over_snoc]
theorem OkQ.take {room : Int} : ∀ {q : List (Int × List Int)} {b : List Int} (k : Nat), OkQ room q b → OkQ room (q.take k) b
  | _, _, 0, _ => trivial
  | [], _, _ + 1, _ => trivial
  | _ :: _, _, k + 1, h => ⟨h.1, h.2.1, h.2.2.1, h.2.2.2.1, OkQ.take k h.2.2.2.2⟩
theorem FOk.all {room : Int} {s : List Int} {q : List (Int × List Int)} (h : FOk room s q) : ((over q s).length : Int) ≤ room ∧ By (Fs.over q s) := h.ok.all h.s0 h.sb
theorem FOk.part {room : Int} {s : List Int} {q : List (Int × List Int)} (h : FOk room s q) (k : Nat) : ((Fs.over (q.take k) s).length : Int) ≤ room ∧ By (Fs.over (q.take k) s) := (h.ok.take k).all h.s0 h.sb
/-- An error's number of a write, of a cut. -/
def wErr (room : Int) (n : Nat) (i : Int) (m : Nat) : Int := if i < 0 ∨ n < i then 2 else if room < i + m then 50 else 0
def cErr (n : Nat) (m : Int) : Int := if m < 0 ∨ n < m then 2 else 0
/-- What a cut, a write leaves. -/
def cutS (s : List Int) (q : List (Int × List Int)) (n : Int) : List Int := if cErr (over q s).length n = 0 then (over q s).take n.toNat else s
def cutQ (s : List Int) (q : List (Int × List Int)) (n : Int) : List (Int × List Int) := if cErr (over q s).length n = 0 then [] else q
def wrQ (room : Int) (s : List Int) (q : List (Int × List Int)) (i : Int) (c : List Int) : List (Int × List Int) := if wErr room (over q s).length i c.length = 0 then q ++ [(i, c)] else q
theorem FOk.write {room : Int} {s : List Int} {q : List (Int × List Int)} (h : FOk room s q) {i : Int} {c : List Int} (hc : By c) (he : wErr room (over q s).length i c.length = 0) : FOk room s (q ++ [(i, c)]) := by
  unfold wErr at he
  split at he
  · cases he
  · split at he
    · cases he
    · exact ⟨h.r0, h.r1, h.s0, h.sb, h.ok.snoc (by omega) (by omega) (by show i + (c.length : Int) ≤ room; omega) hc⟩
theorem FOk.sync {room : Int} {s : List Int} {q : List (Int × List Int)} (h : FOk room s q) : FOk room (Fs.over q s) [] := ⟨h.r0, h.r1, h.all.1, h.all.2, trivial⟩
theorem FOk.cut {room : Int} {s : List Int} {q : List (Int × List Int)} (h : FOk room s q) (n : Nat) : FOk room ((Fs.over q s).take n) [] :=
  ⟨h.r0, h.r1, by have := h.all.1; rw [List.length_take]; omega, h.all.2.take n, trivial⟩
theorem FOk.cutAny {room : Int} {s : List Int} {q : List (Int × List Int)} (h : FOk room s q) (n : Int) : FOk room (cutS s q n) (cutQ s q n) := by
  unfold cutS cutQ
  split
  · exact h.cut _
  · exact h
theorem FOk.writeAny {room : Int} {s : List Int} {q : List (Int × List Int)} (h : FOk room s q) (i : Int) {c : List Int} (hc : By c) : FOk room s (wrQ room s q i c) := by
  unfold wrQ
  split
  · rename_i he
    exact h.write hc he
  · exact h
theorem fallen_snoc (keep : List Int) (p : Int × List Int) : ∀ (q : List (Int × List Int)) (i : Nat) (b : List Int),
    fallen keep i (q ++ [p]) b = if 0 < kept keep (i + q.length) p.2.length then laid (fallen keep i q b) p.1.toNat (p.2.take (kept keep (i + q.length) p.2.length)) else fallen keep i q b
  | [], _, _ => rfl
  | _ :: r, i, b => by
    have h := fallen_snoc keep p r (i + 1)
    simp only [List.cons_append, fallen, List.length_cons]
    rw [h, show i + 1 + r.length = i + (r.length + 1) by omega]
theorem fallen_take {keep : List Int} {q : List (Int × List Int)} {b : List Int} {k : Nat} {p : Int × List Int} (hp : q[k]? = some p) :
    fallen keep 0 (q.take (k + 1)) b = if 0 < kept keep k p.2.length then laid (fallen keep 0 (q.take k) b) p.1.toNat (p.2.take (kept keep k p.2.length)) else fallen keep 0 (q.take k) b := by
  obtain ⟨hl, hp⟩ := List.getElem?_eq_some_iff.1 hp
  rw [List.take_succ_eq_append_getElem hl, hp, fallen_snoc, List.length_take, Nat.min_eq_left (by omega), Nat.zero_add]
theorem kept_le (keep : List Int) (i n : Nat) : kept keep i n ≤ n := by unfold kept; split <;> omega
theorem fallen_ok {keep : List Int} {room : Int} : ∀ {q : List (Int × List Int)} {b a : List Int} (i : Nat), OkQ room q a → (b.length : Int) ≤ room → By b → ((fallen keep i q b).length : Int) ≤ room ∧ By (fallen keep i q b)
  | [], _, _, _, _, h, hb => ⟨h, hb⟩
  | p :: r, b, _, i, hq, h, hb => by
    simp only [fallen]
    have hk := kept_le keep i p.2.length
    have hq1 := hq.2.2.1
    have hq0 := hq.1
    split
    · exact fallen_ok (i + 1) hq.2.2.2.2 (laid_room h hq.1 (by rw [List.length_take]; omega)) (laid_by _ hb (hq.2.2.2.1.take _))
    · exact fallen_ok (i + 1) hq.2.2.2.2 h hb
theorem FOk.crash {room : Int} {s : List Int} {q : List (Int × List Int)} (h : FOk room s q) (keep : List Int) : FOk room (fallen keep 0 q s) [] :=
  ⟨h.r0, h.r1, (fallen_ok 0 h.ok h.s0 h.sb).1, (fallen_ok 0 h.ok h.s0 h.sb).2, trivial⟩
theorem FOk.crashPart {room : Int} {s : List Int} {q : List (Int × List Int)} (h : FOk room s q) (keep : List Int) (k : Nat) : ((fallen keep 0 (q.take k) s).length : Int) ≤ room ∧ By (fallen keep 0 (q.take k) s) := fallen_ok 0 (h.ok.take k) h.s0 h.sb
theorem cutQ_len (s : List Int) (q : List (Int × List Int)) (n : Int) : (cutQ s q n).length ≤ q.length := by
  unfold cutQ
  split
  · simp
  · omega
theorem wrQ_len (room : Int) (s : List Int) (q : List (Int × List Int)) (i : Int) (c : List Int) : (wrQ room s q i c).length ≤ q.length + 1 := by
  unfold wrQ
  split
  · simp
  · omega
end Go.Proofs.Ytfcpnjoiloahcaa.Fs
