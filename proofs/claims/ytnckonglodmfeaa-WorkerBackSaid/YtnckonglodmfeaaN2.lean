/- Contracts and plain facts that the statements' proofs use (part 2). -/
import Derived.Test.YtnckonglodmfeaaN1
import Derived.WalkKit
import Derived.KernelRfl
import Derived.RowKit3
import Derived.Deep.LoopGhost
import Derived.Deep.QuietTactic
import Derived.BigQuiet
import Derived.WideLaws
import Derived.Deep.DeepCutAuto
import Derived.Deep.CutBlock
import Derived.Deep.RegionHeld3
import Derived.Lib.ConvBytes
import Derived.Deep.Slices
import Derived.ChangeArms
import Derived.Laws.BitsLemmas
import Derived.Deep.RegionHeld
import Derived.Test.YtnckonglodmfeaaProg
set_option linter.unusedVariables false
set_option linter.unusedSimpArgs false
namespace Go.Proofs.Ytnckonglodmfeaa.B
open Go.RowKit Go.Proofs.YtnckonglodmfeaaW.PrintWords Go.Proofs.YtnckonglodmfeaaW.PrintLast Go.Proofs.YtnckonglodmfeaaW.PrintMore
structure Keep (S : Nat → Prop) (w w' : World) : Prop where
 os : w'.os = w.os
 tape : w'.tape = w.tape
 output : w'.output = w.output
 size : w.heap.size ≤ w'.heap.size
 block : ∀ k, k < w.heap.size → ¬ S k → w'.heap[k]? = w.heap[k]?
theorem Keep.refl (S : Nat → Prop) (w : World) : Keep S w w := ⟨rfl, rfl, rfl, Nat.le_refl _, fun _ _ _ => rfl⟩
theorem Keep.of_below {S : Nat → Prop} {w w' : World} (h : Below w.heap.size w w') : Keep S w w' := ⟨h.os, h.tape, h.output, h.size, fun k hk _ => h.block k hk⟩
theorem Keep.trans {S : Nat → Prop} {a b c : World} (h : Keep S a b) (k : Keep S b c) : Keep S a c :=
 ⟨k.os.trans h.os, k.tape.trans h.tape, k.output.trans h.output, Nat.le_trans h.size k.size, fun i hi hs => (k.block i (Nat.lt_of_lt_of_le hi h.size) hs).trans (h.block i hi hs)⟩
theorem Keep.then {S S' : Nat → Prop} {a b c : World} (h : Keep S a b) (k : Keep S' b c) (hS : ∀ i, i < a.heap.size → S' i → S i) : Keep S a c :=
 ⟨k.os.trans h.os, k.tape.trans h.tape, k.output.trans h.output, Nat.le_trans h.size k.size, fun i hi hs => (k.block i (Nat.lt_of_lt_of_le hi h.size) (fun h' => hs (hS i hi h'))).trans (h.block i hi hs)⟩
theorem Keep.mono {S S' : Nat → Prop} {a b : World} (h : Keep S a b) (hS : ∀ i, i < a.heap.size → S i → S' i) : Keep S' a b :=
 ⟨h.os, h.tape, h.output, h.size, fun i hi hs => h.block i hi (fun h' => hs (hS i hi h'))⟩
theorem Keep.below {S : Nat → Prop} {N : Nat} {w w' : World} (h : Keep S w w') (hN : N ≤ w.heap.size) (hS : ∀ i, i < N → ¬ S i) : Below N w w' :=
 ⟨h.os, h.tape, h.output, h.size, fun k hk => h.block k (by omega) (hS k hk)⟩
theorem Keep.below_then {S : Nat → Prop} {N : Nat} {w0 w w' : World} (h0 : Below N w0 w) (h : Keep S w w') (hN : N ≤ w.heap.size) (hS : ∀ i, i < N → ¬ S i) : Below N w0 w' :=
 h0.trans (h.below hN hS)
theorem Keep.drew {S : Nat → Prop} {a w : World} (h : Keep S a w) : Keep S a w.drew := ⟨h.os, h.tape, h.output, h.size, h.block⟩
theorem Keep.alloc {S : Nat → Prop} {a w : World} (h : Keep S a w) (o : Obj) : Keep S a (w.alloc o) :=
 h.trans (Keep.of_below ((Below.refl _ _).alloc (Nat.le_refl _) o))
theorem Keep.setCell {S : Nat → Prop} {a w : World} (h : Keep S a w) (p : Addr) (u : Value) (hp : p.block < a.heap.size → S p.block) : Keep S a (w.setCell p u) :=
 h.then (S' := fun k => k = p.block) ⟨rfl, rfl, rfl, by simp [World.setCell], fun k hk hs => Below.heap_setCell _ _ _ _ (fun e => hs e)⟩ (fun i hi e => by subst e; exact hp hi)
theorem Keep.grown {S : Nat → Prop} {a w w' : World} {row : Option Nat} (h : Keep S a w) (hg : w.grownBy w' row) (hr : ∀ k, row = some k → k < a.heap.size → S k) : Keep S a w' :=
 h.then (S' := fun k => row = some k) ⟨hg.os, hg.tape, hg.output, hg.size, fun k hk hs => hg.block k hk (fun e => hs e.symm)⟩ (fun i hi e => hr i e hi)
theorem ret_eq {k : IntKind} {a b : Int} (h : a = b) : Ending.returned (.int k a) = .returned (.int k b) := by rw [h]
theorem wf_u64 {a : Int} (h : (Lit.int .u64 a).wf = true) : 0 ≤ a ∧ a < 18446744073709551616 := by
 have : IntKind.u64.min ≤ a ∧ a ≤ IntKind.u64.max := by simpa [Lit.wf] using h
 have e1 : IntKind.u64.min = 0 := by decide
 have e2 : IntKind.u64.max = 18446744073709551615 := by decide
 omega
theorem wf_i64 {a : Int} (h : (Lit.int .i64 a).wf = true) : -9223372036854775808 ≤ a ∧ a ≤ 9223372036854775807 := by
 have : IntKind.i64.min ≤ a ∧ a ≤ IntKind.i64.max := by simpa [Lit.wf] using h
 have e1 : IntKind.i64.min = -9223372036854775808 := by decide
 have e2 : IntKind.i64.max = 9223372036854775807 := by decide
 omega
theorem wf_u8 {a : Int} (h : (Lit.int .u8 a).wf = true) : 0 ≤ a ∧ a < 256 := by
 have : IntKind.u8.min ≤ a ∧ a ≤ IntKind.u8.max := by simpa [Lit.wf] using h
 have e1 : IntKind.u8.min = 0 := by decide
 have e2 : IntKind.u8.max = 255 := by decide
 omega
abbrev kU8 : Kd Int := Kd.int .u8
theorem add_block (a : Addr) (n : Nat) : (a.add n).block = a.block := by unfold Addr.add; split <;> rfl
theorem C_blk {k : IntKind} {w w' : World} {A : Option Addr} {n : Nat} {xs : List Int} (h : (Kd.int k).C w A n xs) (hb : ∀ a, A = some a → w'.heap[a.block]? = w.heap[a.block]?) : (Kd.int k).C w' A n xs := by
 refine ⟨h.1, h.2.1, fun hn => ?_⟩
 obtain ⟨ad, e, hc⟩ := h.2.2 hn
 refine ⟨ad, e, fun j p hj => ?_⟩
 obtain ⟨c, h1, h2, h3⟩ := hc j p hj
 refine ⟨c, h1, h2, fun i u hu => ?_⟩
 have hb' : (ad.add (j * (Kd.int k).sz + i)).block = ad.block := add_block _ _
 exact (World.cell?_of_block (by rw [hb']; exact hb ad e)).trans (h3 i u hu)
theorem C_cell {k : IntKind} {w : World} {ad : Addr} {n : Nat} {xs : List Int} (h : (Kd.int k).C w (some ad) n xs) {j : Nat} {x : Int} (hx : xs[j]? = some x) : w.cell? (ad.add j) = some (.int k x) := by
 have hj := (List.getElem?_eq_some_iff.1 hx).1
 obtain ⟨ad', e, hc⟩ := h.2.2 (by have := h.1; omega)
 injection e with e
 subst e
 obtain ⟨c, h1, h2, h3⟩ := hc j x hx
 have h2' : c = [.int k x] := h2
 have := h3 0 (.int k x) (by rw [h2']; rfl)
 rwa [Nat.add_zero, show (Kd.int k).sz = 1 from rfl, Nat.mul_one] at this
theorem C_some {k : IntKind} {w : World} {A : Option Addr} {n : Nat} {xs : List Int} (h : (Kd.int k).C w A n xs) (hn : 0 < n) : ∃ ad, A = some ad := by
 obtain ⟨ad, e, _⟩ := h.2.2 hn
 exact ⟨ad, e⟩
def Rdr (T : Nat) (w : World) (g b : Nat) (l : List Int) (code : Int) : Prop :=
 ∃ A c, w.heap[g]? = some (.cells #[.slice A l.length c, .int .i64 code] T (0, 0)) ∧ l.length ≤ c ∧ (∀ a, A = some a → a.block = b) ∧ kU8.C w A l.length l ∧ b ≠ g
theorem Rdr.lt {T : Nat} {w : World} {g b : Nat} {l : List Int} {code : Int} (h : Rdr T w g b l code) : g < w.heap.size := by
 obtain ⟨A, c, h, _⟩ := h
 exact blk_lt h
theorem Rdr.move {T : Nat} {w w' : World} {g b : Nat} {l : List Int} {code : Int} (h : Rdr T w g b l code) (hg : w'.heap[g]? = w.heap[g]?) (hb : w'.heap[b]? = w.heap[b]?) : Rdr T w' g b l code := by
 obtain ⟨A, c, h1, h2, h3, h4, h5⟩ := h
 exact ⟨A, c, hg.trans h1, h2, h3, C_blk h4 (fun a e => by rw [h3 a e]; exact hb), h5⟩
theorem Rdr.keep {T : Nat} {w w' : World} {g b : Nat} {l : List Int} {code : Int} {S : Nat → Prop} (h : Rdr T w g b l code) (hk : Keep S w w') (hg : ¬ S g) (hb : ¬ S b) (hlt : b < w.heap.size) : Rdr T w' g b l code :=
 h.move (hk.block g h.lt hg) (hk.block b hlt hb)
theorem Rdr.below {T : Nat} {w w' : World} {g b : Nat} {l : List Int} {code : Int} (h : Rdr T w g b l code) (hk : Below w.heap.size w w') (hlt : b < w.heap.size) : Rdr T w' g b l code :=
 h.keep (S := fun _ => False) (Keep.of_below hk) id id hlt
theorem Rdr.code {T : Nat} {w : World} {g b : Nat} {l : List Int} {code : Int} (h : Rdr T w g b l code) : w.cell? ⟨g, 1, none⟩ = some (.int .i64 code) ∧ w.frozen? ⟨g, 1, none⟩ = false := by
 obtain ⟨A, c, hb, -⟩ := h
 exact ⟨by simp [World.cell?, hb], blk_frozen hb 1⟩
theorem Rdr.left {T : Nat} {w : World} {g b : Nat} {l : List Int} {code : Int} (h : Rdr T w g b l code) : ∃ A c, w.cell? ⟨g, 0, none⟩ = some (.slice A l.length c) ∧ w.frozen? ⟨g, 0, none⟩ = false ∧ w.heap[g]? = some (.cells #[.slice A l.length c, .int .i64 code] T (0, 0)) ∧ l.length ≤ c ∧ (∀ a, A = some a → a.block = b) ∧ kU8.C w A l.length l ∧ b ≠ g := by
 obtain ⟨A, c, hb, h⟩ := h
 exact ⟨A, c, by simp [World.cell?, hb], blk_frozen hb 0, hb, h⟩
theorem Rdr.len {T : Nat} {w : World} {g b : Nat} {l : List Int} {code : Int} (h : Rdr T w g b l code) : l.length ≤ 9223372036854775807 := by
 obtain ⟨A, c, hb, _, _, h, _⟩ := h
 exact h.2.1
theorem Rdr.set {T : Nat} {w : World} {g b : Nat} {l : List Int} {code : Int} (h : Rdr T w g b l code) (n : Int) : Rdr T (w.setCell ⟨g, 1, none⟩ (.int .i64 n)) g b l n := by
 obtain ⟨A, c, h1, h2, h3, h4, h5⟩ := h
 refine ⟨A, c, ?_, h2, h3, C_blk h4 (fun a e => ?_), h5⟩
 · rw [heap_setCell_same w g 1 _ T _ h1]; rfl
 · rw [h3 a e]; exact Below.heap_setCell _ _ _ _ h5
theorem Rdr.cut {T : Nat} {w : World} {g b : Nat} {l l' : List Int} {code : Int} {A A' : Option Addr} {c c' : Nat} (h1 : w.heap[g]? = some (.cells #[.slice A l.length c, .int .i64 code] T (0, 0))) (hA : ∀ a, A = some a → a.block = b) (hne : b ≠ g)
 (hl : l'.length ≤ c') (hA' : ∀ a, A' = some a → ∃ a0, A = some a0 ∧ a.block = a0.block) (hC : kU8.C w A' l'.length l') : Rdr T (w.setCell ⟨g, 0, none⟩ (.slice A' l'.length c')) g b l' code := by
 have hb : ∀ a, A' = some a → a.block = b := fun a e => by
  obtain ⟨a0, e0, e1⟩ := hA' a e
  rw [e1, hA a0 e0]
 refine ⟨A', c', ?_, hl, hb, C_blk hC (fun a e => ?_), hne⟩
 · rw [heap_setCell_same w g 0 _ T _ h1]; rfl
 · rw [hb a e]; exact Below.heap_setCell _ _ _ _ hne
def By (l : List Int) : Prop := ∀ x ∈ l, 0 ≤ x ∧ x < 256
theorem By.drop {l : List Int} (h : By l) (n : Nat) : By (l.drop n) := fun x hx => h x (List.mem_of_mem_drop hx)
theorem By.take {l : List Int} (h : By l) (n : Nat) : By (l.take n) := fun x hx => h x (List.mem_of_mem_take hx)
theorem By.append {l m : List Int} (h : By l) (k : By m) : By (l ++ m) := fun x hx => (List.mem_append.1 hx).elim (h x) (k x)
theorem By.at {l : List Int} (h : By l) {j : Nat} {x : Int} (hx : l[j]? = some x) : 0 ≤ x ∧ x < 256 := h x (List.mem_of_getElem? hx)
theorem R_set_old {α : Type} {d : Kd α} {e : Nat} {w : World} {base : Nat} {v : Value} {xs : List α} (h : d.R e w base (fun _ => True) v xs) {g : Nat} (hg : g < base) (j : Nat) (u : Value) : d.R e (w.setCell ⟨g, j, none⟩ u) base (fun _ => True) v xs :=
 Kd.R_mono (Kd.R_far (p := ⟨g, j, none⟩) (Kd.R_mono (ok' := fun k => base ≤ k) (Kd.R_bound h) (fun k hk => hk.2.1)) (fun k hk => by show k ≠ g; omega) u) (fun _ _ => trivial)
theorem R_at {α : Type} {d : Kd α} {e : Nat} {w : World} {base : Nat} {ok : Nat → Prop} {a : Addr} {n c : Nat} {xs : List α} (h : d.R e w base ok (.slice (some a) n c) xs) : base ≤ a.block ∧ a.block < w.heap.size := by
 have := (Kd.R_bound h).1 a.block rfl
 exact ⟨this.2.1, this.2.2.1⟩
theorem R_head {α : Type} {d : Kd α} {e : Nat} {w : World} {base : Nat} {ok : Nat → Prop} {A : Option Addr} {n c : Nat} {xs : List α} (h : d.R e w base ok (.slice A n c) xs) (hx : 0 < xs.length) : ∃ g, A = some ⟨g, 0, none⟩ := by
 obtain ⟨inner, ho⟩ := Kd.R_own h
 rcases ho.2 with ⟨h1, h2⟩ | ⟨g, cap, cur, h1, _⟩
 · omega
 · injection h1 with h1
   exact ⟨g, h1⟩
theorem R_lit0 {α : Type} (d : Kd α) (e : Nat) (W : World) : d.R e (W.alloc (.cells #[] e)) W.heap.size (fun _ => True) (.slice (some ⟨W.heap.size, 0, none⟩) 0 0) [] :=
 ⟨fun _ _ => trivial, [], World.ownsRow_made W #[] 0 (Nat.le_refl _) (by simp [maxLen]) (by simp), Reps.none _ _⟩
theorem C_lit (k : IntKind) (e : Nat) (w : World) (xs : List Int) (h : xs.length ≤ 9223372036854775807) : (Kd.int k).C (w.alloc (.cells (xs.map (Value.int k)).toArray e)) (some ⟨w.heap.size, 0, none⟩) xs.length xs := by
 refine ⟨rfl, h, fun _ => ⟨_, rfl, fun j p hj => ⟨[.int k p], rfl, rfl, fun i u hu => ?_⟩⟩⟩
 obtain ⟨hi, rfl⟩ : i = 0 ∧ u = .int k p := by
  rcases i with _ | i
  · exact ⟨rfl, by simpa using hu.symm⟩
  · simp at hu
 subst hi
 show (w.alloc _).cell? (Addr.add _ (j * 1 + 0)) = _
 rw [Nat.mul_one, Nat.add_zero]
 have hadd : (⟨w.heap.size, 0, none⟩ : Addr).add j = ⟨w.heap.size, j, none⟩ := by unfold Addr.add; split <;> simp_all
 rw [hadd, cell_of_row _ w.heap.size j _ e (0, 0) (heap_alloc_new _ _)]
 simp [hj]
theorem C_nil (k : IntKind) (w : World) : (Kd.int k).C w none 0 [] := ⟨rfl, by simp, fun h => absurd h (by simp)⟩
theorem if_map_block {A : Option Addr} {c j m : Nat} {a : Addr} (h : (if c = j then A else A.map (·.add m)) = some a) : ∃ a0, A = some a0 ∧ a.block = a0.block := by
 split at h
 · exact ⟨a, h, rfl⟩
 · cases A with
   | none => simp at h
   | some a0 =>
    simp only [Option.map_some, Option.some.injEq] at h
    exact ⟨a0, rfl, by rw [← h, add_block]⟩
section
variable {P : Program} {α : Type} (d : Kd α) (t e : TypeId) (kl kh : IntKind) {i : TypeInfo} (ht : P.underlying t = some (.slice e)) (hi : P.info? e = some i) (hsz : i.size = d.sz) (A : Option Addr) (c : Nat) (xs : List α)
include ht hi
theorem sl_from (hsz : i.size = d.sz) (j : Int) (h0 : 0 ≤ j) (hm : j ≤ xs.length) (hc : xs.length ≤ c) :
 ∃ A', (∀ W : World, (Instr.slice t (.slice A xs.length c) (some (.int kl j)) none none).run P W = .ok (.slice A' (xs.drop j.toNat).length (c - j.toNat)) W) ∧
  (∀ w, d.C w A xs.length xs → d.C w A' (xs.drop j.toNat).length (xs.drop j.toNat)) ∧ (∀ a, A' = some a → ∃ a0, A = some a0 ∧ a.block = a0.block) ∧ (xs.drop j.toNat).length ≤ c - j.toNat :=
 ⟨_, fun W => by rw [cut_from t e kl ht hi d.sz hsz A xs.length c j h0 hm W, List.length_drop], fun w h => Kd.C_drop h (by omega) hc, fun a h => if_map_block h, by rw [List.length_drop]; omega⟩
theorem sl_to (j : Int) (h0 : 0 ≤ j) (hm : j ≤ xs.length) (hc : xs.length ≤ c) :
 (∀ W : World, (Instr.slice t (.slice A xs.length c) none (some (.int kh j)) none).run P W = .ok (.slice A (xs.take j.toNat).length c) W) ∧
  (∀ w, d.C w A xs.length xs → d.C w A (xs.take j.toNat).length (xs.take j.toNat)) ∧ (xs.take j.toNat).length ≤ c :=
 ⟨fun W => by rw [cut_to t e kh ht hi A xs.length c j h0 hm hc W, List.length_take, Nat.min_eq_left (by omega)], fun w h => Kd.C_take h (by omega), by rw [List.length_take]; omega⟩
theorem sl_mid (hsz : i.size = d.sz) (lo hi' : Int) (h0 : 0 ≤ lo) (h1 : lo ≤ hi') (h2 : hi' ≤ xs.length) (hc : xs.length ≤ c) :
 ∃ A', (∀ W : World, (Instr.slice t (.slice A xs.length c) (some (.int kl lo)) (some (.int kh hi')) none).run P W = .ok (.slice A' ((xs.take hi'.toNat).drop lo.toNat).length (c - lo.toNat)) W) ∧
  (∀ w, d.C w A xs.length xs → d.C w A' ((xs.take hi'.toNat).drop lo.toNat).length ((xs.take hi'.toNat).drop lo.toNat)) ∧ (∀ a, A' = some a → ∃ a0, A = some a0 ∧ a.block = a0.block) ∧ ((xs.take hi'.toNat).drop lo.toNat).length ≤ c - lo.toNat :=
 ⟨_, fun W => by rw [cut_mid t e kl kh ht hi d.sz hsz A xs.length c lo hi' h0 h1 h2 hc W, List.length_drop, List.length_take, Nat.min_eq_left (by omega)], fun w h => Kd.C_mid h (by omega) (by omega) hc, fun a h => if_map_block h, by rw [List.length_drop, List.length_take]; omega⟩
end
theorem info_ex {P : Program} {e : TypeId} {z : Option Value} {s b : Nat} (h : (P.info? e).map (fun i => (i.zero, i.size, i.bytes)) = some (z, s, b)) : ∃ i, P.info? e = some i ∧ i.zero = z ∧ i.size = s ∧ i.bytes = b := by
 obtain ⟨i, hi, he⟩ := Option.map_eq_some_iff.1 h
 simp only [Prod.mk.injEq] at he
 exact ⟨i, hi, he.1, he.2.1, he.2.2⟩
end Go.Proofs.Ytnckonglodmfeaa.B
namespace Go.Proofs.Ytnckonglodmfeaa.O
open Go Go.Deep Go.RowKit Go.Proofs.YtnckonglodmfeaaW.PrintWords B
def Opens {α : Type} (P : Program) (t : TypeId) (d : Kd α) (ok : α → Prop) : Prop :=
 ∀ (H : Type) (enc : TypeId × Value → H) (w : World) (base : Nat) (sp : Nat → Bool) (held : Bool) (fuel : Nat) (cs : List Value) (x : DataW H × List MemPlace), DataW.trod enc P w base sp held fuel t cs = some x → ∃ v, d.K w v cs ∧ ok v
section
variable {P : Program} {t e : TypeId}
theorem opens_mono {α : Type} {d : Kd α} {ok ok' : α → Prop} (h : Opens P t d ok) (hok : ∀ v, ok v → ok' v) : Opens P t d ok' := fun H enc w base sp held fuel cs x hx =>
 let ⟨v, h1, h2⟩ := h H enc w base sp held fuel cs x hx
 ⟨v, h1, hok v h2⟩
theorem opens_int {k : IntKind} (ht : P.underlying t = some (.int k)) : Opens P t (Kd.int k) (fun n => (Lit.int k n).wf = true) := by
 intro H enc w base sp held fuel cs x h
 cases fuel with
 | zero => simp [DataW.trod] at h
 | succ n =>
  unfold DataW.trod at h
  rw [ht] at h
  split at h <;> simp_all
  rename_i n' _
  obtain ⟨⟨rfl, hw⟩, _⟩ := h
  exact ⟨n', rfl, hw⟩
theorem opens_slice {α : Type} {d : Kd α} {ok : α → Prop} (ht : P.underlying t = some (.slice e)) (hs : P.cellsOf e = d.sz) (hd : Opens P e d ok) : Opens P t (Kd.slice e d) (fun l => (∀ v ∈ l, ok v) ∧ l.length ≤ 9223372036854775807) := by
 intro H enc w base sp held fuel cs x h
 rcases open_slice ht h with ⟨rfl, _⟩ | ⟨a, len, cap, m, n, D, Pl, rfl, hb, hl, hm, hmm, hxx, hx⟩
 · exact ⟨[], ⟨none, 0, rfl, Nat.le_refl _, ⟨rfl, by simp, fun h => absurd h (by simp)⟩⟩, fun v hv => by simp at hv, by simp⟩
 · have hlm : len ≤ m := by rw [hmm]; split <;> omega
   have key : ∀ i, i < len → ∃ v, ok v ∧ ∃ c, c.length = d.sz ∧ d.K w v c ∧ ∀ j u, c[j]? = some u → w.cell? (a.add (i * d.sz + j)) = some u := by
    intro i hi
    obtain ⟨cs', h1, h2⟩ := hx i (by omega)
    obtain ⟨v, hv, hok⟩ := hd H enc w base sp held n cs' _ h2
    obtain ⟨_, hlen, hc⟩ := World.cells?_some h1
    refine ⟨v, hok, cs', by rw [hlen, hs], hv, fun j u hu => ?_⟩
    have hj := (List.getElem?_eq_some_iff.1 hu).1
    have := hc j (by rw [← hlen]; exact hj)
    rw [Addr.add_add, hs] at this
    rw [this, hu]
   have : ∃ l : List α, l.length = len ∧ (∀ v ∈ l, ok v) ∧ ∀ i v, l[i]? = some v → ∃ c, c.length = d.sz ∧ d.K w v c ∧ ∀ j u, c[j]? = some u → w.cell? (a.add (i * d.sz + j)) = some u := by
    clear h hx hl hmm hlm hxx
    induction len with
    | zero => exact ⟨[], rfl, fun v hv => by simp at hv, fun i v h => by simp at h⟩
    | succ k ih =>
     obtain ⟨l, h1, h2, h3⟩ := ih (fun i hi => key i (by omega))
     obtain ⟨v, hv, hc⟩ := key k (by omega)
     refine ⟨l ++ [v], by simp [h1], fun u hu => ?_, fun i u hu => ?_⟩
     · rcases List.mem_append.1 hu with hu | hu
       · exact h2 u hu
       · rw [List.mem_singleton] at hu; subst hu; exact hv
     · rcases Nat.lt_or_ge i l.length with hi | hi
       · rw [List.getElem?_append_left hi] at hu; exact h3 i u hu
       · have : i = l.length := by
          have := (List.getElem?_eq_some_iff.1 hu).1
          simp at this
          omega
         subst this
         rw [List.getElem?_append_right (by omega)] at hu
         simp at hu
         subst hu
         rw [h1]
         exact hc
   obtain ⟨l, h1, h2, h3⟩ := this
   subst h1
   refine ⟨l, ⟨some a, cap, rfl, hl, ⟨rfl, ?_, fun _ => ⟨a, rfl, fun j p hj => ?_⟩⟩⟩, h2, ?_⟩
   · simp only [maxLen] at hm; omega
   · exact h3 j p hj
   · simp only [maxLen] at hm; omega
def OpensFs {α : Type} (P : Program) (fs : List Field) (off : Nat) (d : Kd α) (ok : α → Prop) : Prop :=
 ∀ (H : Type) (enc : TypeId × Value → H) (w : World) (base : Nat) (sp : Nat → Bool) (held : Bool) (fuel : Nat) (cs : List Value) (xs : List (DataW H × List MemPlace)), cs.length = off + d.sz →
  (fs.mapM fun f => DataW.trod enc P w base sp held fuel f.type ((cs.drop f.offset).take (P.cellsOf f.type))) = some xs → ∃ v, d.K w v (cs.drop off) ∧ ok v
theorem opens_last {α : Type} {d : Kd α} {ok : α → Prop} {f : Field} {off : Nat} (ho : f.offset = off) (hs : P.cellsOf f.type = d.sz) (h : Opens P f.type d ok) : OpensFs P [f] off d ok := by
 intro H enc w base sp held fuel cs xs hl hx
 simp only [List.mapM_cons, List.mapM_nil, Option.bind_eq_bind, Option.bind_eq_some_iff, Option.pure_def] at hx
 obtain ⟨y, hy, _⟩ := hx
 rw [ho, hs, List.take_of_length_le (by rw [List.length_drop]; omega)] at hy
 exact h H enc w base sp held fuel _ y hy
theorem opens_cons {α β : Type} {a : Kd α} {b : Kd β} {oka : α → Prop} {okb : β → Prop} {f : Field} {fs : List Field} {off : Nat} (ho : f.offset = off) (hs : P.cellsOf f.type = a.sz) (h : Opens P f.type a oka) (hr : OpensFs P fs (off + a.sz) b okb) :
 OpensFs P (f :: fs) off (Kd.pair a b) (fun p => oka p.1 ∧ okb p.2) := by
 intro H enc w base sp held fuel cs xs hl hx
 simp only [List.mapM_cons, Option.bind_eq_bind, Option.bind_eq_some_iff, Option.pure_def] at hx
 obtain ⟨y, hy, ys, hys, _⟩ := hx
 rw [ho, hs] at hy
 obtain ⟨u, hu, hou⟩ := h H enc w base sp held fuel _ y hy
 obtain ⟨v, hv, hov⟩ := hr H enc w base sp held fuel cs ys (by rw [hl]; show off + (a.sz + b.sz) = _; omega) hys
 refine ⟨(u, v), ⟨(cs.drop off).take a.sz, cs.drop (off + a.sz), ?_, hu, hv⟩, hou, hov⟩
 rw [← List.drop_drop, List.take_append_drop]
theorem opens_struct {α : Type} {d : Kd α} {ok : α → Prop} {fs : Array Field} (ht : P.underlying t = some (.struct fs)) (hs : P.cellsOf t = d.sz) (h : OpensFs P fs.toList 0 d ok) : Opens P t d ok := by
 intro H enc w base sp held fuel cs x hx
 cases fuel with
 | zero => simp [DataW.trod] at hx
 | succ n =>
  unfold DataW.trod at hx
  rw [ht] at hx
  simp only at hx
  split at hx
  · rename_i hl
    obtain ⟨xs, h1, _⟩ := Option.map_eq_some_iff.1 hx
    obtain ⟨v, hv, hov⟩ := h H enc w base sp held n cs xs (by rw [hl, hs]; omega) h1
    exact ⟨v, by simpa using hv, hov⟩
  · cases hx
end
end Go.Proofs.Ytnckonglodmfeaa.O
namespace Go.Proofs.Ytnckonglodmfeaa.Ls
open B
def numGo (l0 : List Int) : List Int → Nat → Int → Int × List Int × Int
 | [], _, _ => (0, l0, 3)
 | x :: r, i, n => if (i = 9 ∧ 1 < x) ∨ (0 < i ∧ x = 0) then (0, l0, 8) else if x < 128 then (n + x * 128 ^ i, r, 0) else numGo l0 r (i + 1) (n + (x - 128) * 128 ^ i)
def num (l : List Int) (c : Int) : Int × List Int × Int := if c = 0 then numGo l l 0 0 else (0, l, c)
def zag (n : Int) : Int := if n % 2 = 1 then - (n / 2) - 1 else n / 2
def below (limit : Int) (l : List Int) (c : Int) : Int × List Int × Int :=
 if (num l c).2.2 = 0 then (if limit < 1 ∨ limit ≤ (num l c).1 then (0, (num l c).2.1, 2) else num l c) else (0, (num l c).2)
def takes (n : Int) (l : List Int) (c : Int) : List Int × List Int × Int :=
 if c = 0 then (if n < 0 ∨ (l.length : Int) < n then ([], l, 3) else (l.take n.toNat, l.drop n.toNat, 0)) else ([], l, c)
def failed (n c : Int) : Int := if c = 0 then n else c
def ended (l : List Int) (c : Int) : Int := if 0 < l.length then failed 5 c else c
theorem pow_pos (i : Nat) : (0 : Int) < 128 ^ i := Int.pow_pos (by decide)
theorem pow_le (i j : Nat) (h : i ≤ j) : (128 : Int) ^ i ≤ 128 ^ j := by exact_mod_cast Nat.pow_le_pow_right (by decide : 0 < 128) h
theorem pow_two (i : Nat) : (2 : Int) ^ (7 * i) = 128 ^ i := by rw [Int.pow_mul]; rfl
theorem wraps_u64 (n : Int) (h₀ : 0 ≤ n) (h₁ : n < 2 ^ 64) : IntKind.u64.wrap n = n := by
 simp only [IntKind.wrap, IntKind.bits, IntKind.signed]
 simp
 omega
theorem wraps_u32 (n : Int) (h₀ : 0 ≤ n) (h₁ : n < 2 ^ 32) : IntKind.u32.wrap n = n := by
 simp only [IntKind.wrap, IntKind.bits, IntKind.signed]
 simp
 omega
theorem bits_or_comm (k : IntKind) (x y : Int) : Go.bits .or k x y = Go.bits .or k y x := by
 unfold Go.bits
 simp only [BitVec.or_comm]
theorem two64 : (2 : Int) ^ 64 = 18446744073709551616 := by decide
theorem or_add (i : Nat) (N y : Int) (hN0 : 0 ≤ N) (hN : N < 128 ^ i) (hN1 : N < 18446744073709551616) (hy0 : 0 ≤ y) (hy : y * 128 ^ i < 18446744073709551616) :
 Go.bits .or .u64 N (IntKind.u64.wrap (y * 2 ^ (7 * i))) = N + y * 128 ^ i := by
 rw [pow_two]
 have h0 : 0 ≤ y * 128 ^ i := Int.mul_nonneg hy0 (Int.le_of_lt (pow_pos i))
 rw [wraps_u64 _ h0 (by rw [two64]; exact hy), bits_or_comm, Int.add_comm]
 exact bits_join .u64 64 (by decide) wraps_u64 (7 * i) (y * 128 ^ i) N h0 (by rw [pow_two]; exact Int.mul_emod_left _ _) (by rw [two64]; exact hy) hN0 (by rw [pow_two]; exact hN) (by rw [two64]; exact hN1)
theorem and127 (x : Int) (h0 : 128 ≤ x) (h1 : x < 256) : Go.bits .and .u8 x 127 = x - 128 := by
 have := bits_mask .u8 8 (by decide) wraps_u8 7 (by decide) x (by omega) (by simpa using h1)
 have e : ((2 : Int) ^ 7 - 1) = 127 := by decide
 rw [e] at this
 rw [this]
 have : (2 : Int) ^ 7 = 128 := by decide
 omega
theorem pow9 : (128 : Int) ^ 9 = 9223372036854775808 := by decide
theorem go_lt (i : Nat) (N y : Int) (hN : N < 128 ^ i) (hy : y < 128) : N + y * 128 ^ i < 128 ^ (i + 1) := by
 have h := Int.mul_le_mul_of_nonneg_right (show y ≤ 127 by omega) (Int.le_of_lt (pow_pos i))
 rw [Int.pow_succ]
 omega
theorem go_max (i : Nat) (hi : i ≤ 9) (y : Int) (h0 : 0 ≤ y) (h : y < 128) (h9 : i = 9 → y ≤ 1) : y * 128 ^ i < 18446744073709551616 := by
 rcases Nat.lt_or_eq_of_le hi with h8 | rfl
 · have h1 := pow_le (i + 1) 9 h8
   rw [pow9, Int.pow_succ] at h1
   have h2 := Int.mul_le_mul_of_nonneg_right (show y ≤ 127 by omega) (Int.le_of_lt (pow_pos i))
   have := pow_pos i
   omega
 · rw [pow9]; have := h9 rfl; omega
theorem numGo_range (l0 : List Int) : ∀ (l : List Int) (i : Nat) (n : Int), By l → i ≤ 9 → 0 ≤ n → n < 128 ^ i → 0 ≤ (numGo l0 l i n).1 ∧ (numGo l0 l i n).1 < 18446744073709551616
 | [], _, _, _, _, _, _ => by simp [numGo]
 | x :: r, i, n, hl, hi, h0, h1 => by
  have hx := hl x List.mem_cons_self
  rw [numGo]
  split
  · simp
  · rename_i hb
    split
    · rename_i h128
      have hm := go_max i hi x hx.1 h128 (by omega)
      have := Int.mul_nonneg hx.1 (Int.le_of_lt (pow_pos i))
      have h9 := pow_le i 9 hi
      rw [pow9] at h9
      have hlt := go_lt i n x h1 h128
      refine ⟨by show 0 ≤ n + x * 128 ^ i; omega, ?_⟩
      show n + x * 128 ^ i < _
      rcases Nat.lt_or_eq_of_le hi with h8 | rfl
      · have := pow_le (i + 1) 9 h8
        rw [pow9] at this
        omega
      · have hx1 : x ≤ 1 := by omega
        have := Int.mul_le_mul_of_nonneg_right hx1 (Int.le_of_lt (pow_pos 9))
        rw [pow9] at *
        omega
    · rename_i h128
      have := Int.mul_nonneg (show 0 ≤ x - 128 by omega) (Int.le_of_lt (pow_pos i))
      exact numGo_range l0 r (i + 1) _ (fun y hy => hl y (List.mem_cons_of_mem _ hy)) (by omega) (by omega) (go_lt i n (x - 128) h1 (by omega))
theorem num_range (l : List Int) (c : Int) (h : By l) : 0 ≤ (num l c).1 ∧ (num l c).1 < 18446744073709551616 := by
 unfold num
 split
 · exact numGo_range l l 0 0 h (by omega) (by decide) (by decide)
 · simp
theorem numGo_by (l0 : List Int) (h0 : By l0) : ∀ (l : List Int) (i : Nat) (n : Int), By l → By (numGo l0 l i n).2.1
 | [], _, _, _ => by simpa [numGo] using h0
 | x :: r, i, n, hl => by
  have hr : By r := fun y hy => hl y (List.mem_cons_of_mem _ hy)
  rw [numGo]
  split
  · exact h0
  · split
    · exact hr
    · exact numGo_by l0 h0 r _ _ hr
theorem num_by (l : List Int) (c : Int) (h : By l) : By (num l c).2.1 := by
 unfold num
 split
 · exact numGo_by l h l 0 0 h
 · exact h
theorem below_by (m : Int) (l : List Int) (c : Int) (h : By l) : By (below m l c).2.1 := by
 unfold below
 split
 · split <;> exact num_by l c h
 · exact num_by l c h
theorem and1 (n : Int) (h0 : 0 ≤ n) (h1 : n < 18446744073709551616) : Go.bits .and .u64 n 1 = n % 2 := by
 have := bits_mask .u64 64 (by decide) wraps_u64 1 (by decide) n h0 (by rw [two64]; exact h1)
 simpa using this
theorem wrap_i64 (n : Int) (h0 : -9223372036854775808 ≤ n) (h1 : n ≤ 9223372036854775807) : IntKind.i64.wrap n = n := by
 rw [IntKind.wrap_i64]; omega
theorem xor_i64_0 (x : Int) (h0 : -9223372036854775808 ≤ x) (h1 : x ≤ 9223372036854775807) : Go.bits .xor .i64 x 0 = x := by
 show IntKind.i64.wrap ((BitVec.ofInt 64 x ^^^ BitVec.ofInt 64 0).toNat : Int) = x
 have e : BitVec.ofInt 64 0 = 0#64 := by decide
 rw [e, BitVec.xor_zero, IntKind.wrap_i64, BitVec.toNat_ofInt]
 omega
theorem xor_i64_m1 (x : Int) (h0 : -9223372036854775808 ≤ x) (h1 : x ≤ 9223372036854775807) : Go.bits .xor .i64 x (-1) = -x - 1 := by
 show IntKind.i64.wrap ((BitVec.ofInt 64 x ^^^ BitVec.ofInt 64 (-1)).toNat : Int) = -x - 1
 have e : BitVec.ofInt 64 (-1) = BitVec.allOnes 64 := by decide
 rw [e, BitVec.xor_allOnes, IntKind.wrap_i64, BitVec.toNat_not, BitVec.toNat_ofInt]
 omega
theorem zag_bits (n : Int) (h0 : 0 ≤ n) (h1 : n < 18446744073709551616) : Go.bits .xor .i64 (n / 2) (-(Go.bits .and .u64 n 1)) = zag n := by
 rw [and1 n h0 h1]
 unfold zag
 split
 · rename_i h
   rw [h, xor_i64_m1 _ (by omega) (by omega)]
 · rename_i h
   have h2 : n % 2 = 0 := by omega
   rw [h2]
   exact xor_i64_0 _ (by omega) (by omega)
theorem zag_range (n : Int) (h0 : 0 ≤ n) (h1 : n < 18446744073709551616) : -9223372036854775808 ≤ zag n ∧ zag n ≤ 9223372036854775807 := by
 unfold zag
 split <;> omega
def zig (n : Int) : Int := if n < 0 then -2 * n - 1 else 2 * n
theorem xor_u64_0 (x : Int) (h0 : 0 ≤ x) (h1 : x < 18446744073709551616) : Go.bits .xor .u64 x 0 = x := by
 show IntKind.u64.wrap ((BitVec.ofInt 64 x ^^^ BitVec.ofInt 64 0).toNat : Int) = x
 have e : BitVec.ofInt 64 0 = 0#64 := by decide
 rw [e, BitVec.xor_zero, BitVec.toNat_ofInt, wraps_u64 _ (by omega) (by omega)]
 omega
theorem xor_u64_m1 (x : Int) (h0 : 0 ≤ x) (h1 : x < 18446744073709551616) : Go.bits .xor .u64 x 18446744073709551615 = 18446744073709551615 - x := by
 show IntKind.u64.wrap ((BitVec.ofInt 64 x ^^^ BitVec.ofInt 64 18446744073709551615).toNat : Int) = _
 have e : BitVec.ofInt 64 18446744073709551615 = BitVec.allOnes 64 := by decide
 rw [e, BitVec.xor_allOnes, BitVec.toNat_not, BitVec.toNat_ofInt, wraps_u64 _ (by omega) (by omega)]
 omega
theorem wrap_u64 (n : Int) : IntKind.u64.wrap n = n % 18446744073709551616 := by
 simp [IntKind.wrap, IntKind.bits, IntKind.signed]
theorem zig_bits (n : Int) (h0 : -9223372036854775808 ≤ n) (h1 : n ≤ 9223372036854775807) :
 Go.bits .xor .u64 (IntKind.u64.wrap (IntKind.u64.wrap n * 2)) (IntKind.u64.wrap (n / 9223372036854775808)) = zig n := by
 unfold zig
 simp only [wrap_u64]
 split
 · rename_i h
   rw [show n / 9223372036854775808 % 18446744073709551616 = 18446744073709551615 by omega, xor_u64_m1 _ (by omega) (by omega)]
   omega
 · rename_i h
   rw [show n / 9223372036854775808 % 18446744073709551616 = 0 by omega, xor_u64_0 _ (by omega) (by omega)]
   omega
theorem zig_range (n : Int) (h0 : -9223372036854775808 ≤ n) (h1 : n ≤ 9223372036854775807) : 0 ≤ zig n ∧ zig n < 18446744073709551616 := by
 unfold zig
 split <;> omega
def putl (n : Nat) : List Int := if n < 128 then [(n : Int)] else ((n % 128 + 128 : Nat) : Int) :: putl (n / 128)
termination_by n
decreasing_by omega
theorem or128 (n : Int) (h0 : 0 ≤ n) : Go.bits .or .u8 (n % 256) 128 = n % 128 + 128 := by
 have key : ∀ m : Fin 256, Go.bits .or .u8 ((m.val : Nat) : Int) 128 = ((m.val % 128 + 128 : Nat) : Int) := by decide +kernel
 have h := key ⟨(n % 256).toNat, by omega⟩
 simp only at h
 rw [show (((n % 256).toNat : Nat) : Int) = n % 256 by omega] at h
 rw [h]
 omega
theorem putl_lt {n : Nat} (h : n < 128) : putl n = [(n : Int)] := by rw [putl, if_pos h]
theorem putl_ge {n : Nat} (h : ¬ n < 128) : putl n = ((n % 128 + 128 : Nat) : Int) :: putl (n / 128) := by rw [putl, if_neg h]
theorem putl_by (n : Nat) : By (putl n) := by
 induction n using Nat.strongRecOn with
 | ind n ih =>
  rw [putl]
  split
  · intro x hx
    rw [List.mem_singleton] at hx
    omega
  · intro x hx
    rcases List.mem_cons.1 hx with rfl | hx
    · omega
    · exact ih (n / 128) (by omega) x hx
theorem putl_len (n : Nat) : 0 < (putl n).length ∧ ∀ k, n < 128 ^ k → 0 < k → (putl n).length ≤ k := by
 induction n using Nat.strongRecOn with
 | ind n ih =>
  rw [putl]
  split
  · exact ⟨by simp, fun k _ hk => hk⟩
  · rename_i h
    refine ⟨by simp, fun k hn hk => ?_⟩
    rw [List.length_cons]
    obtain ⟨j, rfl⟩ : ∃ j, k = j + 1 := ⟨k - 1, by omega⟩
    rcases Nat.eq_zero_or_pos j with rfl | hj
    · simp at hn; omega
    · have := (ih (n / 128) (by omega)).2 j (by rw [Nat.pow_succ] at hn; omega) hj
      omega
theorem putl_ten (n : Nat) (h : n < 18446744073709551616) : (putl n).length ≤ 10 := by
 have h10 : 128 ^ 10 = 1180591620717411303424 := by decide
 exact (putl_len n).2 10 (by omega) (by decide)
end Go.Proofs.Ytnckonglodmfeaa.Ls
namespace Go.Proofs.Ytnckonglodmfeaa.Lt
open Go B Ls
theorem str_inj : ∀ (a b : List Int), By a → By b → strOfNums a = strOfNums b → a = b := by
 intro a b ha hb h
 have h1 : a.map (fun n => UInt8.ofNat n.toNat) = b.map (fun n => UInt8.ofNat n.toNat) := by
  unfold strOfNums at h
  injection h with h
  have := congrArg Array.toList h
  simpa using this
 clear h
 induction a generalizing b with
 | nil => cases b with
  | nil => rfl
  | cons y b => simp at h1
 | cons x a ih => cases b with
  | nil => simp at h1
  | cons y b =>
   simp only [List.map_cons, List.cons.injEq] at h1
   have hx := ha x List.mem_cons_self
   have hy := hb y List.mem_cons_self
   have e : x = y := by
    have := congrArg UInt8.toNat h1.1
    simp only [UInt8.toNat_ofNat'] at this
    omega
   rw [e, ih b (fun z hz => ha z (List.mem_cons_of_mem _ hz)) (fun z hz => hb z (List.mem_cons_of_mem _ hz)) h1.2]
theorem numGo_putl (l0 rest : List Int) (m : Nat) : ∀ (i : Nat) (n : Int), i ≤ 9 → (m : Int) * 128 ^ i < 18446744073709551616 → (i = 0 ∨ 0 < m) → numGo l0 (putl m ++ rest) i n = (n + (m : Int) * 128 ^ i, rest, 0) := by
 induction m using Nat.strongRecOn with
 | ind m ih =>
  intro i n hi hm h0
  by_cases h : m < 128
  · rw [putl_lt h, List.singleton_append, numGo, if_neg, if_pos (by omega)]
    rintro (⟨rfl, h9⟩ | ⟨hp, hz⟩)
    · rw [pow9] at hm; omega
    · omega
  · have hi9 : i ≠ 9 := by
     rintro rfl
     rw [pow9] at hm
     omega
    have hdm : (m : Int) = (m % 128 : Nat) + 128 * ((m / 128 : Nat) : Int) := by omega
    have hsp : (m : Int) * 128 ^ i = ((m % 128 : Nat) : Int) * 128 ^ i + ((m / 128 : Nat) : Int) * 128 ^ (i + 1) := by
     rw [Int.pow_succ]
     conv => lhs; rw [hdm]
     rw [Int.add_mul, Int.mul_comm 128 ((m / 128 : Nat) : Int), Int.mul_assoc, Int.mul_comm 128]
    have hnn : 0 ≤ ((m % 128 : Nat) : Int) * 128 ^ i := Int.mul_nonneg (by omega) (Int.le_of_lt (pow_pos i))
    rw [putl_ge h, List.cons_append, numGo, if_neg (by omega), if_neg (by omega), ih (m / 128) (by omega) (i + 1) _ (by omega) (by omega) (.inr (by omega))]
    rw [show ((m % 128 + 128 : Nat) : Int) - 128 = (m % 128 : Nat) by omega, hsp, Int.add_assoc]
theorem num_putl (rest : List Int) (m : Nat) (h : m < 18446744073709551616) : num (putl m ++ rest) 0 = ((m : Int), rest, 0) := by
 unfold num
 rw [if_pos rfl, numGo_putl _ _ m 0 0 (by omega) (by rw [Int.pow_zero]; omega) (.inl rfl)]
 simp
theorem zag_zig (n : Int) (h0 : -9223372036854775808 ≤ n) (h1 : n ≤ 9223372036854775807) : zag (zig n) = n := by
 unfold zag zig
 by_cases h : n < 0
 · rw [if_pos h, if_pos (by omega)]; omega
 · rw [if_neg h, if_neg (by omega)]; omega
end Go.Proofs.Ytnckonglodmfeaa.Lt
namespace Go.Proofs.Ytnckonglodmfeaa.S
open Go.RowKit Go.Proofs.YtnckonglodmfeaaW.PrintWords B
theorem str_inj : ∀ (a b : List Int), By a → By b → strOfNums a = strOfNums b → a = b := by
 intro a b ha hb h
 have h1 : a.map (fun n => UInt8.ofNat n.toNat) = b.map (fun n => UInt8.ofNat n.toNat) := by
  unfold strOfNums at h
  injection h with h
  have := congrArg Array.toList h
  simpa using this
 clear h
 induction a generalizing b with
 | nil => cases b with
  | nil => rfl
  | cons y b => simp at h1
 | cons x a ih => cases b with
  | nil => simp at h1
  | cons y b =>
   simp only [List.map_cons, List.cons.injEq] at h1
   have hx := ha x List.mem_cons_self
   have hy := hb y List.mem_cons_self
   have e : x = y := by
    have := congrArg UInt8.toNat h1.1
    simp only [UInt8.toNat_ofNat'] at this
    omega
   rw [e, ih b (fun z hz => ha z (List.mem_cons_of_mem _ hz)) (fun z hz => hb z (List.mem_cons_of_mem _ hz)) h1.2]
theorem wrI64 (n : Int) (h0 : -9223372036854775808 ≤ n) (h1 : n ≤ 9223372036854775807) : IntKind.i64.wrap n = n := by
 rw [IntKind.wrap_i64]; omega
theorem wrU64 (n : Int) (h0 : 0 ≤ n) (h1 : n < 18446744073709551616) : IntKind.u64.wrap n = n := by
 rw [IntKind.wrap_u64]; omega
theorem wrU64_range (n : Int) : 0 ≤ IntKind.u64.wrap n ∧ IntKind.u64.wrap n < 18446744073709551616 := by
 rw [IntKind.wrap_u64]; omega
theorem tmod_range {a b : Int} (h0 : 0 ≤ a) (hb : 0 < b) : 0 ≤ a.tmod b ∧ a.tmod b < b := by
 rw [Int.tmod_eq_emod_of_nonneg h0]
 exact ⟨Int.emod_nonneg _ (by omega), Int.emod_lt_of_pos _ hb⟩
end Go.Proofs.Ytnckonglodmfeaa.S
namespace Go.Proofs.Ytnckonglodmfeaa.Gs
open Go B Ls Lt
def crcBit (x : Int) : Int := if x % 2 = 1 then Go.bits .xor .u32 (x / 2) 3988292384 else x / 2
def crcBits : Nat → Int → Int
 | 0, x => x
 | n + 1, x => crcBits n (crcBit x)
def crcByte (x c : Int) : Int := crcBits 8 (Go.bits .xor .u32 x c)
def crcL (l : List Int) (x : Int) : Int := l.foldl crcByte x
def sumL (l : List Int) : Int := Go.bits .xor .u32 (crcL l 4294967295) 4294967295
def four (n : Int) : List Int := [n % 256, n / 256 % 256, n / 65536 % 256, n / 16777216]
def check (k : Int) (b : List Int) : List Int := four (sumL (k :: b))
def layL (k : Int) (b : List Int) : List Int := 111 :: k :: (putl b.length ++ (check k b ++ b))
theorem xor32_comm (x y : Int) : Go.bits .xor .u32 x y = Go.bits .xor .u32 y x := by
 unfold Go.bits
 simp only [BitVec.xor_comm]
theorem xor_range (x y : Int) : 0 ≤ Go.bits .xor .u32 x y ∧ Go.bits .xor .u32 x y < 4294967296 := by
 show 0 ≤ IntKind.u32.wrap _ ∧ IntKind.u32.wrap _ < 4294967296
 rw [IntKind.wrap_u32]
 omega
theorem xor32_0 (x : Int) (h0 : 0 ≤ x) (h1 : x < 4294967296) : Go.bits .xor .u32 x 0 = x := by
 show IntKind.u32.wrap ((BitVec.ofInt 32 x ^^^ BitVec.ofInt 32 0).toNat : Int) = x
 have e : BitVec.ofInt 32 0 = 0#32 := by decide
 rw [e, BitVec.xor_zero, BitVec.toNat_ofInt, IntKind.wrap_u32]
 omega
theorem and32_1 (n : Int) (h0 : 0 ≤ n) (h1 : n < 4294967296) : Go.bits .and .u32 n 1 = n % 2 := by
 have := bits_mask .u32 32 (by decide) wraps_u32 1 (by decide) n h0 (by simpa using h1)
 simpa using this
theorem poly_and (x : Int) (h0 : 0 ≤ x) (h1 : x < 4294967296) : Go.bits .and .u32 3988292384 ((-(Go.bits .and .u32 x 1)) % 4294967296) = if x % 2 = 1 then 3988292384 else 0 := by
 rw [and32_1 x h0 h1]
 split
 · rename_i h
   rw [h]
   decide
 · rename_i h
   rw [show x % 2 = 0 by omega]
   decide
theorem crcBit_impl (x : Int) (h0 : 0 ≤ x) (h1 : x < 4294967296) : Go.bits .xor .u32 (x / 2) (if x % 2 = 1 then 3988292384 else 0) = crcBit x := by
 unfold crcBit
 split
 · rfl
 · exact xor32_0 _ (by omega) (by omega)
theorem crcBit_range (x : Int) (h0 : 0 ≤ x) (h1 : x < 4294967296) : 0 ≤ crcBit x ∧ crcBit x < 4294967296 := by
 unfold crcBit
 split
 · exact xor_range _ _
 · omega
theorem crcL_append (a b : List Int) (x : Int) : crcL (a ++ b) x = crcL b (crcL a x) := List.foldl_append
theorem crcL_take {l : List Int} {k : Nat} {c : Int} (x : Int) (h : l[k]? = some c) : crcL (l.take (k + 1)) x = crcByte (crcL (l.take k) x) c := by
 obtain ⟨hl, he⟩ := List.getElem?_eq_some_iff.1 h
 rw [List.take_succ_eq_append_getElem hl, he, crcL_append]
 rfl
theorem sumL_range (l : List Int) : 0 ≤ sumL l ∧ sumL l < 4294967296 := xor_range _ _
theorem four_by (n : Int) (h0 : 0 ≤ n) (h1 : n < 4294967296) : By (four n) := by
 intro x hx
 simp only [four, List.mem_cons, List.not_mem_nil, or_false] at hx
 omega
theorem check_by (k : Int) (b : List Int) : By (check k b) := four_by _ (sumL_range _).1 (sumL_range _).2
theorem check_len (k : Int) (b : List Int) : (check k b).length = 4 := rfl
theorem lay_by {k : Int} {b : List Int} (hk : 0 ≤ k ∧ k < 256) (hb : By b) : By (layL k b) := by
 intro x hx
 simp only [layL, List.mem_cons, List.mem_append] at hx
 rcases hx with rfl | rfl | hx | hx | hx
 · omega
 · exact hk
 · exact putl_by _ x hx
 · exact check_by _ _ x hx
 · exact hb x hx
theorem lay_len (k : Int) (b : List Int) : (layL k b).length = 6 + (putl b.length).length + b.length := by
 simp only [layL, List.length_cons, List.length_append, check_len]; omega
def takeL : List Int → Int × List Int × Int × Int
 | m :: k :: r =>
  if m ≠ 111 then (0, [], 0, 7) else
  if (num (r.take 10) 0).2.2 ≠ 0 then (0, [], 0, (num (r.take 10) 0).2.2) else
  if 65536 < (num (r.take 10) 0).1 then (0, [], 0, 4) else
  if (r.length : Int) < ((r.take 10).length - (num (r.take 10) 0).2.1.length : Nat) + 4 + (num (r.take 10) 0).1 then (0, [], 0, 3) else
  if check k ((r.drop ((r.take 10).length - (num (r.take 10) 0).2.1.length + 4)).take (num (r.take 10) 0).1.toNat) ≠ (r.drop ((r.take 10).length - (num (r.take 10) 0).2.1.length)).take 4 then (0, [], 0, 6) else
  (k, (r.drop ((r.take 10).length - (num (r.take 10) 0).2.1.length + 4)).take (num (r.take 10) 0).1.toNat, 2 + ((r.take 10).length - (num (r.take 10) 0).2.1.length : Nat) + 4 + (num (r.take 10) 0).1, 0)
 | _ => (0, [], 0, 3)
theorem numGo_any (l0 : List Int) : ∀ (l : List Int) (i : Nat) (n v : Int) (r : List Int), By l → numGo l0 l i n = (v, r, 0) → ∃ m : Nat, v = n + (m : Int) * 128 ^ i ∧ l = putl m ++ r ∧ (0 < i → 0 < m)
 | [], _, _, _, _, _, h => by simp [numGo] at h
 | x :: t, i, n, v, r, hl, h => by
  have hx := hl x List.mem_cons_self
  rw [numGo] at h
  split at h
  · simp at h
  · rename_i hb
    split at h
    · rename_i h128
      simp only [Prod.mk.injEq, and_true] at h
      obtain ⟨rfl, rfl⟩ := h
      refine ⟨x.toNat, ?_, ?_, fun hi => by omega⟩
      · rw [Int.toNat_of_nonneg hx.1]
      · rw [putl_lt (by omega), Int.toNat_of_nonneg hx.1]; rfl
    · rename_i h128
      obtain ⟨m, h1, h2, h3⟩ := numGo_any l0 t (i + 1) _ v r (fun y hy => hl y (List.mem_cons_of_mem _ hy)) h
      have hm := h3 (by omega)
      refine ⟨(x - 128).toNat + 128 * m, ?_, ?_, fun _ => by omega⟩
      · rw [h1, Int.pow_succ, show (((x - 128).toNat + 128 * m : Nat) : Int) = (x - 128) + 128 * (m : Int) by omega, Int.add_mul, Int.mul_comm 128 (m : Int), Int.mul_assoc, Int.mul_comm 128, Int.add_assoc]
      · rw [putl_ge (by omega), show ((x - 128).toNat + 128 * m) / 128 = m by omega, List.cons_append, ← h2]
        congr 1
        omega
theorem num_any (l : List Int) (v : Int) (r : List Int) (hl : By l) (h : num l 0 = (v, r, 0)) : l = putl v.toNat ++ r ∧ 0 ≤ v := by
 unfold num at h
 rw [if_pos rfl] at h
 obtain ⟨m, h1, h2, -⟩ := numGo_any l l 0 0 v r hl h
 rw [Int.pow_zero] at h1
 refine ⟨?_, by omega⟩
 rw [h2]
 congr 2
 omega
theorem numGo_cut (l0 : List Int) (m : Nat) : ∀ (i j : Nat) (n : Int), i ≤ 9 → (m : Int) * 128 ^ i < 18446744073709551616 → (i = 0 ∨ 0 < m) → j < (putl m).length → numGo l0 ((putl m).take j) i n = (0, l0, 3) := by
 induction m using Nat.strongRecOn with
 | ind m ih =>
  intro i j n hi hm h0 hj
  cases j with
  | zero => simp [numGo]
  | succ j =>
   by_cases hlt : m < 128
   · rw [putl_lt hlt] at hj
     simp at hj
   · rw [putl_ge hlt] at hj ⊢
     rw [List.length_cons] at hj
     rw [List.take_succ_cons, numGo]
     have hi9 : i ≠ 9 := fun h => by
      subst h
      rw [pow9] at hm
      omega
     rw [if_neg (by omega), if_neg (by omega)]
     refine ih (m / 128) (by omega) (i + 1) j _ (by omega) ?_ (.inr (by omega)) (by omega)
     have h1 := pow_pos i
     rw [Int.pow_succ, ← Int.mul_assoc, Int.mul_right_comm]
     refine Int.lt_of_le_of_lt (Int.mul_le_mul_of_nonneg_right ?_ (Int.le_of_lt h1)) hm
     omega
theorem num_cut (m j : Nat) (hm : m < 18446744073709551616) (hj : j < (putl m).length) : num ((putl m).take j) 0 = (0, (putl m).take j, 3) := by
 unfold num
 rw [if_pos rfl]
 exact numGo_cut _ m 0 j 0 (by omega) (by rw [Int.pow_zero]; omega) (.inl rfl) hj
theorem putl_three {n : Nat} (h : n ≤ 65536) : 0 < (putl n).length ∧ (putl n).length ≤ 3 := ⟨(putl_len n).1, (putl_len n).2 3 (by omega) (by omega)⟩
theorem take_lay {k : Int} {b rest : List Int} (hl : b.length ≤ 65536) : takeL (layL k b ++ rest) = (k, b, ((layL k b).length : Int), 0) := by
 obtain ⟨h1, h3⟩ := putl_three hl
 have e : layL k b ++ rest = 111 :: k :: (putl b.length ++ (check k b ++ (b ++ rest))) := by simp [layL]
 have e2 : (putl b.length ++ (check k b ++ (b ++ rest))).take 10 = putl b.length ++ (check k b ++ (b ++ rest)).take (10 - (putl b.length).length) := by
  rw [List.take_append, List.take_of_length_le (by omega)]
 rw [e]
 simp only [takeL, e2]
 rw [num_putl _ _ (by omega)]
 have e3 : (putl b.length ++ (check k b ++ (b ++ rest)).take (10 - (putl b.length).length)).length - ((check k b ++ (b ++ rest)).take (10 - (putl b.length).length)).length = (putl b.length).length := by
  rw [List.length_append]; omega
 simp only [e3]
 have e4 : ((putl b.length ++ (check k b ++ (b ++ rest))).drop ((putl b.length).length + 4)).take ((b.length : Int)).toNat = b := by
  rw [Int.toNat_natCast, List.drop_append, List.drop_of_length_le (by omega), List.nil_append, show (putl b.length).length + 4 - (putl b.length).length = 4 by omega]
  have h4 := check_len k b
  rw [← h4, List.drop_left, List.take_left]
 have e5 : ((putl b.length ++ (check k b ++ (b ++ rest))).drop (putl b.length).length).take 4 = check k b := by
  rw [List.drop_left]
  have h4 := check_len k b
  rw [← h4, List.take_left]
 rw [e4, e5, if_neg (by simp), if_neg (by simp), if_neg (by omega), if_neg (by simp only [List.length_append, check_len]; omega), if_neg (by simp)]
 rw [lay_len]
 congr 3
 omega
theorem take_form {x : List Int} {k n : Int} {body : List Int} (hx : By x) (h : takeL x = (k, body, n, 0)) : x.take n.toNat = layL k body ∧ n = (layL k body).length ∧ body.length ≤ 65536 ∧ (0 ≤ k ∧ k < 256) ∧ By body ∧ n.toNat ≤ x.length := by
 match x, h with
 | [], h => simp [takeL] at h
 | [_], h => simp [takeL] at h
 | m :: k' :: r, h =>
  have hr : By r := fun y hy => hx y (by simp [hy])
  simp only [takeL] at h
  obtain ⟨v, left, c, hn⟩ : ∃ v left c, num (r.take 10) 0 = (v, left, c) := ⟨_, _, _, rfl⟩
  rw [hn] at h
  simp only at h
  split at h
  · simp at h
  rename_i h1
  split at h
  · rename_i hc; simp only [Prod.mk.injEq] at h; exact absurd h.2.2.2 hc
  rename_i h2
  split at h
  · simp at h
  rename_i h3
  split at h
  · simp at h
  rename_i h4
  split at h
  · simp at h
  rename_i h5
  have hc : c = 0 := by simpa using h2
  subst hc
  obtain ⟨hnum, hv0⟩ := num_any _ v left (hr.take 10) hn
  have hm : m = 111 := by simpa using h1
  subst hm
  have h5' := Classical.not_not.1 h5
  simp only [Prod.mk.injEq, and_true] at h
  obtain ⟨rfl, hbody, hsz⟩ := h
  have hul : (r.take 10).length - left.length = (putl v.toNat).length := by rw [hnum, List.length_append]; omega
  rw [hul] at h4 h5' hbody hsz
  obtain ⟨w, hw⟩ : ∃ w : Nat, v = w := ⟨v.toNat, by omega⟩
  subst hw
  rw [Int.toNat_natCast] at hul h4 h5' hbody hsz hnum
  have hrp : r = putl w ++ r.drop (putl w).length := by
   have h6 : r.take (putl w).length = putl w := by
    have h7 := congrArg (List.take (putl w).length) hnum
    rw [List.take_left, List.take_take, Nat.min_eq_left (by have := congrArg List.length hnum; rw [List.length_append, List.length_take] at this; omega)] at h7
    exact h7
   conv => lhs; rw [← List.take_append_drop (putl w).length r]
   rw [h6]
  have hbl : body.length = w := by
   rw [← hbody, List.length_take, List.length_drop]; omega
  rw [hbody] at h5'
  have hlay : 2 + (putl w).length + 4 + w = (layL k' body).length := by rw [lay_len, hbl]; omega
  refine ⟨?_, by omega, by omega, hx k' (by simp), by rw [← hbody]; exact (hr.drop _).take _, by simp only [List.length_cons]; omega⟩
  have hnn : n.toNat = (putl w).length + 4 + w + 2 := by omega
  rw [hnn, List.take_succ_cons, List.take_succ_cons, layL, hbl]
  congr 2
  conv => lhs; rw [hrp]
  rw [Nat.add_assoc, List.take_append, List.take_of_length_le (by omega), Nat.add_sub_cancel_left]
  congr 1
  rw [List.take_add, h5', List.drop_drop]
  congr 1
theorem take_cut {k : Int} {b : List Int} (hl : b.length ≤ 65536) {j : Nat} (hj : j < (layL k b).length) : (takeL ((layL k b).take j)).2.2.2 = 3 := by
 obtain ⟨h1, h3⟩ := putl_three hl
 rw [lay_len] at hj
 match j with
 | 0 => rfl
 | 1 => rfl
 | j + 2 =>
  rw [layL, List.take_succ_cons, List.take_succ_cons]
  simp only [takeL]
  rw [if_neg (by simp)]
  rcases Nat.lt_or_ge j (putl b.length).length with hlt | hge
  · have e : ((putl b.length ++ (check k b ++ b)).take j).take 10 = (putl b.length).take j := by
     rw [List.take_take, List.take_append_of_le_length (by omega)]
     congr 1
     omega
    rw [e, num_cut _ _ (by omega) hlt]
    rfl
  · have e : ((putl b.length ++ (check k b ++ b)).take j).take 10 = putl b.length ++ ((check k b ++ b).take (j - (putl b.length).length)).take (10 - (putl b.length).length) := by
     rw [List.take_append, List.take_of_length_le hge, List.take_append, List.take_of_length_le (by omega)]
    rw [e, num_putl _ _ (by omega), if_neg (by simp), if_neg (by simp only; omega), if_pos]
    simp only [List.length_append, List.length_take, check_len]
    omega
theorem xor_bit_all : (List.range 256).all (fun y => (List.range 8).all fun j => Go.bits .xor .u8 (y : Int) ((2 : Int) ^ j % 256) != (y : Int)) = true := by decide +kernel
theorem xor_bit (y : Int) (h0 : 0 ≤ y) (h1 : y < 256) (j : Nat) (hj : j < 8) : Go.bits .xor .u8 y ((2 : Int) ^ j % 256) ≠ y := by
 obtain ⟨n, rfl⟩ : ∃ n : Nat, y = n := ⟨y.toNat, by omega⟩
 have h := List.all_eq_true.1 xor_bit_all n (List.mem_range.2 (by omega))
 have h2 := List.all_eq_true.1 h j (List.mem_range.2 hj)
 simpa using h2
theorem xor8_range (x y : Int) : 0 ≤ Go.bits .xor .u8 x y ∧ Go.bits .xor .u8 x y < 256 := by
 show 0 ≤ IntKind.u8.wrap _ ∧ IntKind.u8.wrap _ < 256
 rw [IntKind.wrap_u8]
 omega
inductive AllR : List Int → List (Int × List Int) → Nat → Prop
 | stop {b : List Int} : (takeL b).2.2.2 ≠ 0 → AllR b [] 0
 | step {b : List Int} {k : Int} {body : List Int} {n : Nat} {l : List (Int × List Int)} {m : Nat} : takeL b = (k, body, (n : Int), 0) → AllR (b.drop n) l m → AllR b ((k, body) :: l) (n + m)
theorem AllR.same {b : List Int} {l l' : List (Int × List Int)} {m m' : Nat} (h : AllR b l m) (h' : AllR b l' m') : l = l' ∧ m = m' := by
 induction h generalizing l' m' with
 | stop h =>
  cases h' with
  | stop _ => exact ⟨rfl, rfl⟩
  | step h2 _ => rw [h2] at h; exact absurd rfl h
 | step h _ ih =>
  cases h' with
  | stop h2 => rw [h] at h2; exact absurd rfl h2
  | step h2 h3 =>
   rw [h] at h2
   simp only [Prod.mk.injEq, and_true] at h2
   obtain ⟨rfl, rfl, h2⟩ := h2
   have h2 := Int.ofNat.inj h2
   subst h2
   obtain ⟨rfl, rfl⟩ := ih h3
   exact ⟨rfl, rfl⟩
end Go.Proofs.Ytnckonglodmfeaa.Gs
namespace Go.Proofs.Ytnckonglodmfeaa.B
open Go.RowKit Go.Proofs.YtnckonglodmfeaaW.PrintWords Go.Proofs.YtnckonglodmfeaaW.PrintLast Go.Proofs.YtnckonglodmfeaaW.PrintMore
def Buf (k : IntKind) (e : Nat) (w : World) (S : Nat → Prop) (v : Value) (xs : List Int) : Prop :=
 (v = .slice none 0 0 ∧ xs = []) ∨
 ∃ (g cap : Nat) (cur : Array Value), v = .slice (some ⟨g, 0, none⟩) xs.length cap ∧ S g ∧ w.heap[g]? = some (.cells cur e (0, 0)) ∧ xs.length ≤ cap ∧ cap ≤ maxLen ∧ cap ≤ cur.size ∧ cur.toList.take xs.length = nums k xs
section
variable {k : IntKind} {e : Nat} {w w' : World} {S S' : Nat → Prop} {v : Value} {xs : List Int}
theorem Buf.nil (k : IntKind) (e : Nat) (w : World) (S : Nat → Prop) : Buf k e w S (.slice none 0 0) [] := .inl ⟨rfl, rfl⟩
theorem nums_len (k : IntKind) (xs : List Int) : (nums k xs).length = xs.length := by simp [nums]
theorem Buf.of_R {base : Nat} {ok : Nat → Prop} (h : (Kd.int k).R e w base ok v xs) : Buf k e w (fun i => ok i ∧ base ≤ i ∧ i < w.heap.size) v xs := by
 have hok := h.1
 rcases (Kd.own_of_R h).2 with ⟨h1, h2⟩ | ⟨g, cap, cur, h1, h2, h3, h4, h5, h6, h7⟩
 · exact .inl ⟨h1, List.eq_nil_of_length_eq_zero h2⟩
 · refine .inr ⟨g, cap, cur, h1, ⟨hok g (by rw [h1]; rfl), h2, blk_lt h3⟩, h3, h4, h5, by omega, ?_⟩
   rw [Nat.mul_one] at h7
   exact h7
theorem Buf.mono (h : Buf k e w S v xs) (hS : ∀ i, S i → i < w.heap.size → S' i) : Buf k e w S' v xs := by
 rcases h with h | ⟨g, cap, cur, h1, h2, h3, h4⟩
 · exact .inl h
 · exact .inr ⟨g, cap, cur, h1, hS g h2 (blk_lt h3), h3, h4⟩
theorem Buf.step (h : Buf k e w S v xs) (hm : ∀ i, S i → i < w.heap.size → w'.heap[i]? = w.heap[i]?) : Buf k e w' S v xs := by
 rcases h with h | ⟨g, cap, cur, h1, h2, h3, h4⟩
 · exact .inl h
 · exact .inr ⟨g, cap, cur, h1, h2, (hm g h2 (blk_lt h3)).trans h3, h4⟩
theorem Buf.keep {T : Nat → Prop} (h : Buf k e w S v xs) (hk : Keep T w w') (hd : ∀ i, S i → ¬ T i) : Buf k e w' S v xs := h.step (fun i hi hl => hk.block i hl (hd i hi))
theorem Buf.below (h : Buf k e w S v xs) (hb : Below w.heap.size w w') : Buf k e w' S v xs := h.step (fun i _ hl => hb.block i hl)
theorem Buf.own (h : Buf k e w S v xs) : ∀ i, v.ownBlock = some i → S i ∧ i < w.heap.size := by
 intro i hi
 rcases h with ⟨rfl, _⟩ | ⟨g, cap, cur, rfl, h2, h3, _⟩
 · simp [Value.ownBlock] at hi
 · simp only [Value.ownBlock, Option.some.injEq] at hi
   subst hi
   exact ⟨h2, blk_lt h3⟩
theorem Buf.exact (h : Buf k e w S v xs) : Buf k e w (fun i => v.ownBlock = some i) v xs := by
 rcases h with h | ⟨g, cap, cur, h1, h2, h3, h4⟩
 · exact .inl h
 · exact .inr ⟨g, cap, cur, h1, by rw [h1]; rfl, h3, h4⟩
theorem Buf.cell {g cap : Nat} {cur : Array Value} {xs : List Int} (h3 : w.heap[g]? = some (.cells cur e (0, 0))) (h7 : cur.toList.take xs.length = nums k xs) {j : Nat} {x : Int} (hx : xs[j]? = some x) : w.cell? ((⟨g, 0, none⟩ : Addr).add j) = some (.int k x) := by
 have hj := (List.getElem?_eq_some_iff.1 hx).1
 have hadd : (⟨g, 0, none⟩ : Addr).add j = ⟨g, j, none⟩ := by unfold Addr.add; split <;> simp_all
 rw [hadd, cell_of_row w g j cur e (0, 0) h3]
 have h := congrArg (fun l => l[j]?) h7
 simp only [List.getElem?_take, hj, if_true, nums, List.getElem?_map, hx, Option.map_some] at h
 rw [← h, Array.getElem?_toList]
theorem Buf.reads (h : Buf k e w S v xs) : ∃ A c, v = .slice A xs.length c ∧ xs.length ≤ c ∧ (Kd.int k).C w A xs.length xs ∧ ∀ a, A = some a → S a.block ∧ a.block < w.heap.size := by
 rcases h with ⟨rfl, rfl⟩ | ⟨g, cap, cur, h1, h2, h3, h4, h5, h6, h7⟩
 · exact ⟨none, 0, rfl, Nat.le_refl _, C_nil _ _, fun a ha => by cases ha⟩
 · refine ⟨_, cap, h1, h4, ⟨rfl, by simp only [maxLen] at h5; omega, fun _ => ⟨_, rfl, fun j x hx => ⟨[.int k x], rfl, rfl, fun i u hu => ?_⟩⟩⟩, fun a ha => by injection ha with ha; subst ha; exact ⟨h2, blk_lt h3⟩⟩
   obtain ⟨hi, rfl⟩ : i = 0 ∧ u = .int k x := by
    rcases i with _ | i
    · exact ⟨rfl, by simpa using hu.symm⟩
    · simp at hu
   subst hi
   show w.cell? (Addr.add _ (j * 1 + 0)) = _
   rw [Nat.mul_one, Nat.add_zero]
   exact Buf.cell (cap := cap) h3 h7 hx
theorem Buf.short (h : Buf k e w S v xs) {A : Option Addr} {n c : Nat} (hv : v = .slice A n c) {m c' : Nat} (hm : m ≤ xs.length) (hc1 : m ≤ c') (hc2 : c' ≤ c) (hne : A = none → m = 0 ∧ c' = 0) : Buf k e w S (.slice A m c') (xs.take m) := by
 rcases h with ⟨rfl, rfl⟩ | ⟨g, cap, cur, h1, h2, h3, h4, h5, h6, h7⟩
 · injection hv with h1 h2 h3
   subst h1
   obtain ⟨rfl, rfl⟩ := hne rfl
   exact .inl ⟨rfl, rfl⟩
 · rw [h1] at hv
   injection hv with h1 h1' h1''
   subst h1 h1''
   have hl : (xs.take m).length = m := by rw [List.length_take]; omega
   refine .inr ⟨g, c', cur, by rw [hl], h2, h3, by omega, by omega, by omega, ?_⟩
   rw [hl]
   have := congrArg (List.take m) h7
   rw [List.take_take, Nat.min_eq_left hm] at this
   rw [this]
   simp [nums, List.map_take]
end
section
variable {P : Program} {k : IntKind}
theorem Buf.run_append {W : World} {S : Nat → Prop} {v : Value} {xs : List Int} (t ty e : TypeId) (ht : P.underlying t = some (.slice e)) {bytes : Nat} (hinfo : (P.info? e).map (fun i => (i.zero, i.size, i.bytes)) = some (some (.int k 0), 1, bytes)) (hb0 : 0 < bytes)
 (h : Buf k e W S v xs) (ad : Addr) (m c : Nat) (ys : List Int) (hm : ys.length = m) (h0 : 0 < m) (hy : ∀ j y, ys[j]? = some y → W.cell? (ad.add j) = some (.int k y)) (hl : (xs.length + m) * bytes ≤ 140737488355328) :
 ∃ v1 w1, (Builtin.append_ #[t, t] ty #[v, .slice (some ad) m c]).run P W = .ok v1 w1 ∧ Buf k e w1 (fun i => S i ∨ W.heap.size ≤ i) v1 (xs ++ ys) ∧ W.grownBy w1 v.ownBlock := by
 obtain ⟨i0, hi, hzz⟩ := Option.map_eq_some_iff.1 hinfo
 simp only [Prod.mk.injEq] at hzz
 obtain ⟨hz0, hz1, hz2⟩ := hzz
 subst hm
 have hlen : xs.length + ys.length ≤ 140737488355328 := Nat.le_trans (Nat.le_mul_of_pos_right _ hb0) hl
 have hnl : (nums k ys).length = ys.length * i0.size := by rw [nums_len, hz1, Nat.mul_one]
 have hnews : ∀ j u, (nums k ys)[j]? = some u → W.cell? (ad.add j) = some u := fun j u hu => by
  simp only [nums, List.getElem?_map, Option.map_eq_some_iff] at hu
  obtain ⟨y, hy1, rfl⟩ := hu
  exact hy j y hy1
 have h1 : ∀ u ∈ nums k ys, u.oneCell' = true := by
  intro u hu
  simp only [nums, List.mem_map] at hu
  obtain ⟨q, _, rfl⟩ := hu
  rfl
 have grown : ∀ (old : Nat) (row : Option Nat), 
  Buf k e (W.drew.alloc (.cells ((nums k xs).toArray ++ (nums k ys).toArray ++ Builtin.zeroCells (Value.cells (.int k 0)) (grownCap W (xs.length + ys.length) old e - (xs.length + ys.length))) e)) (fun i => S i ∨ W.heap.size ≤ i)
   (.slice (some ⟨W.heap.size, 0, none⟩) (xs.length + ys.length) (grownCap W (xs.length + ys.length) old e)) (xs ++ ys) ∧
  W.grownBy (W.drew.alloc (.cells ((nums k xs).toArray ++ (nums k ys).toArray ++ Builtin.zeroCells (Value.cells (.int k 0)) (grownCap W (xs.length + ys.length) old e - (xs.length + ys.length))) e)) row := by
  intro old row
  have hge := grownCap_ge W (xs.length + ys.length) old e
  have hcm : grownCap W (xs.length + ys.length) old e ≤ maxLen := grownCap_le_maxLen W _ old e (by simp only [maxLen]; omega)
  refine ⟨.inr ⟨W.heap.size, _, _, by rw [List.length_append], .inr (Nat.le_refl _), heap_alloc_new W.drew _, by rw [List.length_append]; exact hge, hcm, ?_, ?_⟩, ⟨rfl, rfl, rfl, by simp, fun i hi _ => Below.heap_alloc W.drew _ i hi⟩⟩
  · simp only [Array.size_append, List.size_toArray, size_zeroCells, nums_len]
    have : (Value.cells (.int k 0)).size = 1 := rfl
    rw [this]
    omega
  · simp only [Array.toList_append]
    rw [show (xs ++ ys).length = (nums k xs ++ nums k ys).length by simp [nums]]
    rw [List.take_left]
    simp [nums]
 rcases h with ⟨rfl, rfl⟩ | ⟨g, cap, cur, rfl, h2, h3, h4, h5, h6, h7⟩
 · have hr := run_append_nil (P := P) W t ty e i0 (.int k 0) ht hi hz0 ad ys.length c (nums k ys) hnl hnews h0 (by omega) (by rw [hz2]; simp only [List.length_nil, Nat.zero_add] at hl; omega)
   have hg := grown 0 (Value.ownBlock (.slice none 0 0))
   simp only [List.length_nil, Nat.zero_add, List.nil_append] at hg hr ⊢
   refine ⟨_, _, hr, ?_, ?_⟩
   · simpa [nums] using hg.1
   · simpa [nums] using hg.2
 · by_cases hroom : xs.length + ys.length ≤ cap
   · have hr := run_append_room (P := P) W t ty e i0 ht hi g xs.length cap cur h3 ad ys.length c (nums k ys) hnl hnews h1 hroom (by rw [hz1, nums_len]; omega)
     refine ⟨_, _, hr, .inr ⟨g, cap, _, by rw [List.length_append], .inl h2, setRow_heap W g cur _ e _ h3, by rw [List.length_append]; exact hroom, h5, ?_, ?_⟩, ⟨rfl, rfl, rfl, by simp, fun k _ hk => setRow_other W g k _ (fun e => hk (by simp [Value.ownBlock, e]))⟩⟩
     · simp only [List.size_toArray, List.length_append, List.length_take, List.length_drop, Array.length_toList, nums_len, hz1, Nat.mul_one]
       omega
     · simp only [hz1, Nat.mul_one, h7]
       rw [show (xs ++ ys).length = (nums k xs ++ nums k ys).length by simp [nums]]
       rw [List.take_left]
       simp [nums]
   · have holds : ∀ j u, (nums k xs)[j]? = some u → W.cell? ((⟨g, 0, none⟩ : Addr).add j) = some u := fun j u hu => by
      simp only [nums, List.getElem?_map, Option.map_eq_some_iff] at hu
      obtain ⟨y, hy1, rfl⟩ := hu
      exact Buf.cell (cap := cap) h3 h7 hy1
     have hr := run_append_grow (P := P) W t ty e i0 (.int k 0) ht hi hz0 ⟨g, 0, none⟩ xs.length cap (nums k xs) (by rw [nums_len, hz1, Nat.mul_one]) holds ad ys.length c (nums k ys) hnl hnews (by omega) (by omega) (by rw [hz2]; exact growslice_fits (by omega) hl)
     have hg := grown cap (Value.ownBlock (.slice (some ⟨g, 0, none⟩) xs.length cap))
     exact ⟨_, _, hr, hg.1, hg.2⟩
end
section
variable {P : Program} {ops : Array Oper} {rest : List Oper} {o : Oper} {a : Act} {Q : Exit → Act → World → Prop} {k : IntKind}
theorem Buf.append {W : World} {S : Nat → Prop} (hgd : o.guard = none) (s x : Operand) (t e : TypeId) (bytes : Nat)
 (ho : o.op = .call { callee := .builtin .append, args := #[s, x], argTypes := #[t, t] })
 (ht : P.underlying t = some (.slice e)) (hinfo : (P.info? e).map (fun i => (i.zero, i.size, i.bytes)) = some (some (.int k 0), 1, bytes)) (hb0 : 0 < bytes)
 (v : Value) (xs : List Int) (y : Int) (hs : a.eval s = v) (hx : a.eval x = .slice (some ⟨W.heap.size, 0, none⟩) 1 1)
 (HO : Buf k e W S v xs) (hl : (xs.length + 1) * bytes ≤ 140737488355328)
 (h : ∀ v1 w1, Buf k e w1 (fun i => S i ∨ W.heap.size ≤ i) v1 (xs ++ [y]) → W.grownBy w1 v.ownBlock → wpList P ops Q rest (a.put o.dst v1) w1) :
 wpList P ops Q (o :: rest) a (W.alloc (.cells #[.int k y] e)) := by
 obtain ⟨v1, w1, hr, hb, hg⟩ := Buf.run_append (P := P) (W := W.alloc (.cells #[.int k y] e)) t o.type e ht hinfo hb0 (HO.below ((Below.refl _ _).alloc (Nat.le_refl _) _)) ⟨W.heap.size, 0, none⟩ 1 1 [y] rfl (by decide) (fun j u hu => by
  have hj : j = 0 := by
   have := (List.getElem?_eq_some_iff.1 hu).1
   simp at this
   omega
  subst hj
  have hu' : y = u := by simpa using hu
  subst hu'
  have hadd : (⟨W.heap.size, 0, none⟩ : Addr).add 0 = ⟨W.heap.size, 0, none⟩ := by unfold Addr.add; simp
  rw [hadd, cell_of_row _ W.heap.size 0 _ e (0, 0) (heap_alloc_new _ _)]
  rfl) hl
 refine wpList_plain hgd fun K hK => ?_
 unfold Oper.wp execOp
 simp only [ho, resolve, invoke, builtin, Sem.run_bind, Sem.run_pure, Result.andThen_ok, List.map_toArray, List.map_cons, List.map_nil, hs, hx, hr]
 exact hK _ _ (h v1 w1 (hb.mono (fun i hi _ => hi.imp id (fun hh => by simp at hh; omega))) (World.grownBy.trans (World.grownBy_alloc W _ _) hg))
end
theorem grown_keep {w w' : World} {v : Value} {S : Nat → Prop} (hg : w.grownBy w' v.ownBlock) (hS : ∀ i, v.ownBlock = some i → S i) : Keep S w w' :=
 ⟨hg.os, hg.tape, hg.output, hg.size, fun k hk hs => hg.block k hk (fun e => hs (hS k e.symm))⟩
theorem Buf.head {k : IntKind} {e : Nat} {w : World} {S : Nat → Prop} {A : Option Addr} {n c : Nat} {xs : List Int} (h : Buf k e w S (.slice A n c) xs) (h0 : 0 < xs.length) : ∃ g, A = some ⟨g, 0, none⟩ ∧ S g ∧ g < w.heap.size := by
 rcases h with ⟨_, rfl⟩ | ⟨g, cap, cur, h1, h2, h3, _⟩
 · simp at h0
 · injection h1 with h1
   exact ⟨g, h1, h2, blk_lt h3⟩
theorem Buf.set {k : IntKind} {e : Nat} {w : World} {S : Nat → Prop} {g n c : Nat} {xs : List Int} (h : Buf k e w S (.slice (some ⟨g, 0, none⟩) n c) xs) (j : Nat) (hj : j < xs.length) (x : Int) : Buf k e (w.setCell ⟨g, j, none⟩ (.int k x)) S (.slice (some ⟨g, 0, none⟩) n c) (xs.set j x) := by
 rcases h with ⟨_, rfl⟩ | ⟨g', cap, cur, h1, h2, h3, h4, h5, h6, h7⟩
 · simp at hj
 · injection h1 with h1 h1' h1''
   injection h1 with h1
   injection h1 with h1
   subst h1 h1' h1''
   refine .inr ⟨g, c, _, by rw [List.length_set], h2, heap_setCell_same w g j cur e _ h3, by rw [List.length_set]; exact h4, h5, by simpa using h6, ?_⟩
   rw [List.length_set]
   have e1 : nums k (xs.set j x) = (nums k xs).set j (.int k x) := by simp [nums, List.map_set]
   rw [e1, ← h7]
   simp [List.take_set]
theorem Buf.at {k : IntKind} {e : Nat} {w : World} {S : Nat → Prop} {g n c : Nat} {xs : List Int} (h : Buf k e w S (.slice (some ⟨g, 0, none⟩) n c) xs) {j : Nat} (hj : j < xs.length) : ∃ x, xs[j]? = some x ∧ w.cell? ⟨g, j, none⟩ = some (.int k x) ∧ w.frozen? ⟨g, j, none⟩ = false := by
 rcases h with ⟨_, rfl⟩ | ⟨g', cap, cur, h1, h2, h3, h4, h5, h6, h7⟩
 · simp at hj
 · injection h1 with h1 h1' h1''
   injection h1 with h1
   injection h1 with h1
   subst h1 h1' h1''
   have hx := List.getElem?_eq_getElem hj
   have h8 := Buf.cell (cap := c) h3 h7 hx
   have hadd : (⟨g, 0, none⟩ : Addr).add j = ⟨g, j, none⟩ := by unfold Addr.add; split <;> simp_all
   rw [hadd] at h8
   exact ⟨_, hx, h8, blk_frozen h3 j⟩
section
variable {P : Program} {o : Oper} {a : Act} {K : Act → World → Prop} {Q : Exit → Act → World → Prop}
end
end Go.Proofs.Ytnckonglodmfeaa.B
namespace Go.Proofs.Ytnckonglodmfeaa.B
open Go.RowKit Go.Proofs.YtnckonglodmfeaaW.PrintWords Go.Proofs.YtnckonglodmfeaaW.PrintLast Go.Proofs.YtnckonglodmfeaaW.PrintMore
theorem R_append_wp {P : Program} {o : Oper} {a : Act} {Q : Exit → Act → World → Prop} {K : Act → World → Prop} {α : Type} (d : Kd α) {W : World} (base : Nat) (s x : Operand) (t e : TypeId) (z : Value) (bytes : Nat)
 (ho : o.op = .call { callee := .builtin .append, args := #[s, x], argTypes := #[t, t] })
 (ht : P.underlying t = some (.slice e)) (hinfo : (P.info? e).map (fun i => (i.zero, i.size, i.bytes)) = some (some z, d.sz, bytes)) (hz : z.cells.size = d.sz) (hs0 : 0 < d.sz) (hb0 : 0 < bytes)
 (v : Value) (xs : List α) (p : α) (cs : List Value) (ok okp : Nat → Prop) (hs : a.eval s = v) (hx : a.eval x = .slice (some ⟨W.heap.size, 0, none⟩) 1 1) (hp : d.M W base okp p cs) (hokp : ∀ k, okp k → ok k ∧ some k ≠ v.ownBlock) (hfresh : ∀ k, W.heap.size ≤ k → ok k)
 (HO : d.R e W base ok v xs) (hbase : base ≤ W.heap.size) (hl : (xs.length + 1) * bytes ≤ 140737488355328)
 (h : ∀ v1 w1, d.R e w1 base ok v1 (xs ++ [p]) → W.grownBy w1 v.ownBlock → (W.alloc (.cells cs.toArray e)).grownBy w1 v.ownBlock → (v1.ownBlock = v.ownBlock ∨ ∃ b, v1.ownBlock = some b ∧ W.heap.size ≤ b) → K (a.put o.dst v1) w1) :
 Oper.wp P o a (W.alloc (.cells cs.toArray e)) K Q := by
 obtain ⟨h0, inner, hown, hr⟩ := HO
 obtain ⟨i0, hi, hzz⟩ := Option.map_eq_some_iff.1 hinfo
 simp only [Prod.mk.injEq] at hzz
 obtain ⟨hz0, hz1, hz2⟩ := hzz
 have hlen : xs.length + 1 ≤ 140737488355328 := Nat.le_trans (Nat.le_mul_of_pos_right _ hb0) hl
 have hcl := d.K_len (d.K_of_M hp)
 obtain ⟨v1, w1, hr1, hown1, hg, _, hat⟩ := run_append_own_at (P := P) (W.alloc (.cells cs.toArray e)) base t o.type e i0 z d.sz bytes ht hi hz0 hz1 hz2 hz hs0 v xs.length inner (hown.alloc _) ⟨W.heap.size, 0, none⟩ 1 1 cs (by rw [hcl]; simp)
  (by simpa using World.news_of_block (cs := cs.toArray) (t := e) (fr := (0, 0)) (heap_alloc_new W (.cells cs.toArray e))) (d.K_one (d.K_of_M hp)) (by simp only [maxLen]; omega) hl (by simp; omega)
 have hg' : W.grownBy w1 v.ownBlock := World.grownBy.trans (World.grownBy_alloc W _ _) hg
 have hat' : v1.ownBlock = v.ownBlock ∨ ∃ b, v1.ownBlock = some b ∧ W.heap.size ≤ b := by
  rcases hat with hat | hat
  · exact .inl hat
  · exact .inr ⟨_, hat, by simp⟩
 unfold Oper.wp execOp
 simp only [ho, resolve, invoke, builtin, Sem.run_bind, Sem.run_pure, Result.andThen_ok, List.map_toArray, List.map_cons, List.map_nil, hs, hx, hr1]
 exact h v1 w1 (Kd.R_appended h0 hr hp hokp hfresh hown1 hg' hat') hg' hg hat'
end Go.Proofs.Ytnckonglodmfeaa.B
namespace Go.Proofs.Ytnckonglodmfeaa.R
open Go Go.RowKit B
def Fut (w w' : World) : Prop := Below w.heap.size w w'
theorem Fut.refl (w : World) : Fut w w := Below.refl _ _
theorem Fut.trans {a b c : World} (h : Fut a b) (k : Fut b c) : Fut a c := Below.trans h (Below.mono k h.size)
theorem Fut.drew (w : World) : Fut w w.drew := (Below.refl _ _).drew
theorem Fut.below {a b : World} (h : Fut a b) : Below a.heap.size a b := h
theorem Fut.of {a b : World} (h : Below a.heap.size a b) : Fut a b := h
section
variable {P : Program} {ops : Array Oper} {Q : Exit → Act → World → Prop} {md : Region.Mode} {R : World → World → Prop}
def wpAnyR (P : Program) (md : Region.Mode) (ops : Array Oper) (Q : Exit → Act → World → Prop) (R : World → World → Prop) : Nat → Array Bool → Act → World → Prop
 | 0, listed, a, w => Region.ready md ops listed = [] ∧ Q .normal a w
 | fuel + 1, listed, a, w =>
  (Region.ready md ops listed = [] → Q .normal a w) ∧
  ∀ i ∈ Region.ready md ops listed, wpOp P ops Q i (fun a' w' => R w w' ∧ wpAnyR P md ops Q R fuel (listed.setIfInBounds i true) a' w') a w
theorem wpAny_of_R : ∀ (fuel : Nat) (listed : Array Bool) (a : Act) (w : World), wpAnyR P md ops Q R fuel listed a w → wpAny P md ops Q fuel listed a w
 | 0, _, _, _, h => h
 | fuel + 1, _, _, _, h => ⟨h.1, fun i hi => wpOp_mono (fun a' w' h' => wpAny_of_R fuel _ a' w' h'.2) (h.2 i hi)⟩
theorem yieldsIf_mono {S S' : World → Prop} {o : Oper} {v : Value} {a : Act} (h : YieldsIf P ops S o v a) (hs : ∀ w, S' w → S w) : YieldsIf P ops S' o v a :=
 h.imp (fun ⟨hw, hv⟩ => ⟨hw, fun w hw' => hv w (hs w hw')⟩) id
theorem wpAnyR_first (hrefl : ∀ w, R w w) (htr : ∀ a b c, R a b → R b c → R a c) {i : Nat} {oi : Oper} {v : Value} (hi : ops[i]? = some oi) (hsel : ∀ (j : Nat) (o : Oper) cs b, ops[j]? = some o → o.op ≠ .select cs b)
 (hQ : ∀ c a w, Q (.panic c) (a.put oi.dst v) w → Q (.panic c) a w) :
 ∀ (fuel : Nat) (listed : Array Bool) (a : Act) (w : World),
  (∀ j oj, ops[j]? = some oj → j ≠ i → listed.getD j true = false → (∀ e ∈ oj.after, Region.binds md e = true → e.on ≠ i) → oi.apart ops oj = true) →
  i ∈ Region.ready md ops listed → YieldsIf P ops (R w) oi v a →
  wpAnyR P md ops Q R fuel (listed.setIfInBounds i true) (a.put oi.dst v) w → wpAnyR P md ops Q R (fuel + 1) listed a w := by
 intro fuel
 induction fuel with
 | zero =>
  intro listed a w _ hr hy H
  refine ⟨fun h => (by rw [h] at hr; cases hr), fun j hj => ?_⟩
  by_cases hji : j = i
  · subst hji; exact hy.wpOp hi (hrefl w) ⟨hrefl w, H⟩
  · have := ready_mono hj hji
    rw [H.1] at this
    cases this
 | succ fuel ih =>
  intro listed a w hfree hr hy H
  refine ⟨fun h => (by rw [h] at hr; cases hr), fun j hj => ?_⟩
  by_cases hji : j = i
  · subst hji; exact hy.wpOp hi (hrefl w) ⟨hrefl w, H⟩
  · have h1 := H.2 j (ready_mono hj hji)
    obtain ⟨hjun, oj, hoj, hall⟩ := mem_ready.1 hj
    have hnot : ∀ e ∈ oj.after, Region.binds md e = true → e.on ≠ i := fun e he hb heq => by
     have h1 := hall e he hb
     have h0 := (mem_ready.1 hr).1
     rw [heq] at h1
     rcases Nat.lt_or_ge i listed.size with h' | h'
     · simp [h'] at h0 h1; rw [h0] at h1; cases h1
     · simp [Array.getElem?_eq_none h'] at h1
    have h2 := wpOp_putIf hoj (hfree j oj hoj hji hjun hnot) (fun cs b => hsel i oi cs b hi) (fun cs b => hsel j oj cs b hoj) hQ hy h1
    have hfree' : ∀ k ok, ops[k]? = some ok → k ≠ i → (listed.setIfInBounds j true).getD k true = false →
     (∀ e ∈ ok.after, Region.binds md e = true → e.on ≠ i) → oi.apart ops ok = true := fun k ok hk hki hun hno => by
     refine hfree k ok hk hki ?_ hno
     by_cases hjk : j = k
     · subst hjk; exact hjun
     · rw [getD_set_ne true hjk] at hun; exact hun
    refine wpOp_mono (fun a' w' h3 => ⟨h3.2.1, ih (listed.setIfInBounds j true) a' w' hfree' (ready_mono hr (Ne.symm hji)) (yieldsIf_mono h3.1 (fun w'' hw'' => htr _ _ _ h3.2.1 hw'')) ?_⟩) h2
    rw [Array.setIfInBounds_comm _ _ hji]
    exact h3.2.2
end
section
variable {P : Program} {ops : Array Oper} {Q : Exit → Act → World → Prop} {fuel : Nat} {listed listed' : Array Bool} {a : Act} {w : World}
end
end Go.Proofs.Ytnckonglodmfeaa.R
namespace Go.Proofs.Ytnckonglodmfeaa.R
open Go Go.RowKit B
section
variable {P : Program} {ops : Array Oper} {Q : Exit → Act → World → Prop} {md : Region.Mode} {R : World → World → Prop} {E : List Nat}
def closedB (md : Region.Mode) (ops : Array Oper) (listed : Array Bool) : Bool :=
 (List.range ops.size).all fun j => !listed.getD j true || ((ops[j]?).map (·.after.all fun e => !Region.binds md e || listed.getD e.on false)).getD true
def needsB (md : Region.Mode) (ops : Array Oper) (i : Nat) : Nat → Nat → Bool
 | 0, _ => false
 | n + 1, j => ((ops[j]?).map (·.after.any fun e => Region.binds md e && (e.on == i || needsB md ops i n e.on))).getD false
def Closed (md : Region.Mode) (ops : Array Oper) (listed : Array Bool) : Prop := ∀ j oj, ops[j]? = some oj → listed.getD j false = true → ∀ e ∈ oj.after, Region.binds md e = true → listed.getD e.on false = true
theorem closed_of {listed : Array Bool} (h : closedB md ops listed = true) : Closed md ops listed := by
 intro j oj hj hl e he hb
 have hjs := (Array.getElem?_eq_some_iff.1 hj).1
 unfold closedB at h
 rw [List.all_eq_true] at h
 have h1 := h j (List.mem_range.2 hjs)
 have hl' : listed.getD j true = true := by
  rcases Nat.lt_or_ge j listed.size with h' | h'
  · simpa [Array.getD, h'] using hl
  · simp [Array.getD, Nat.not_lt.2 h'] 
 rw [hl', hj] at h1
 simp only [Option.map_some, Option.getD_some, Bool.not_true, Bool.false_or, Array.all_eq_true_iff_forall_mem] at h1
 have h2 := h1 e he
 rw [hb] at h2
 simpa using h2
theorem needs_listed {listed : Array Bool} (hc : Closed md ops listed) {i : Nat} : ∀ (n j : Nat), needsB md ops i n j = true → (∀ oj, ops[j]? = some oj → ∀ e ∈ oj.after, Region.binds md e = true → listed.getD e.on false = true) → listed.getD i false = true
 | 0, _, h, _ => by simp [needsB] at h
 | n + 1, j, h, hall => by
  unfold needsB at h
  cases hj : ops[j]? with
  | none => rw [hj] at h; simp at h
  | some oj =>
   rw [hj] at h
   simp only [Option.map_some, Option.getD_some, Array.any_eq_true'] at h
   obtain ⟨e, he, h2⟩ := h
   simp only [Bool.and_eq_true, Bool.or_eq_true, beq_iff_eq] at h2
   have hon := hall oj hj e he h2.1
   rcases h2.2 with h3 | h3
   · rw [← h3]; exact hon
   · exact needs_listed hc n e.on h3 (fun oj' hj' e' he' hb' => hc e.on oj' hj' hon e' he' hb')
def wpAnyE (P : Program) (md : Region.Mode) (ops : Array Oper) (Q : Exit → Act → World → Prop) (R : World → World → Prop) (E : List Nat) : Nat → Array Bool → Act → World → Prop
 | 0, listed, a, w => Region.ready md ops listed = [] ∧ Q .normal a w
 | fuel + 1, listed, a, w =>
  (Region.ready md ops listed = [] → Q .normal a w) ∧
  ∀ i ∈ Region.ready md ops listed, wpOp P ops Q i (fun a' w' => (i ∈ E ∨ R w w') ∧ wpAnyE P md ops Q R E fuel (listed.setIfInBounds i true) a' w') a w
theorem wpAny_of_E : ∀ (fuel : Nat) (listed : Array Bool) (a : Act) (w : World), wpAnyE P md ops Q R E fuel listed a w → wpAny P md ops Q fuel listed a w
 | 0, _, _, _, h => h
 | fuel + 1, _, _, _, h => ⟨h.1, fun i hi => wpOp_mono (fun a' w' h' => wpAny_of_E fuel _ a' w' h'.2) (h.2 i hi)⟩
theorem closed_step {listed : Array Bool} (hc : Closed md ops listed) {i : Nat} (hi : i ∈ Region.ready md ops listed) : Closed md ops (listed.setIfInBounds i true) := by
 obtain ⟨hun, oi, hoi, hall⟩ := mem_ready.1 hi
 have up : ∀ k, listed.getD k false = true → (listed.setIfInBounds i true).getD k false = true := fun k hk => by
  by_cases hik : i = k
  · subst hik
    have : i < listed.size := by
     rcases Nat.lt_or_ge i listed.size with h | h
     · exact h
     · simp [Array.getD, Nat.not_lt.2 h] at hk
    simp [Array.getD, this]
  · rw [getD_set_ne false hik]; exact hk
 intro j oj hj hl e he hb
 by_cases hij : i = j
 · subst hij
   rw [hj] at hoi
   injection hoi with hoi
   subst hoi
   exact up _ (hall e he hb)
 · rw [getD_set_ne false hij] at hl
   exact up _ (hc j oj hj hl e he hb)
theorem wpAnyE_first (hrefl : ∀ w, R w w) (htr : ∀ a b c, R a b → R b c → R a c) {i : Nat} {oi : Oper} {v : Value} (hi : ops[i]? = some oi) (hsel : ∀ (j : Nat) (o : Oper) cs b, ops[j]? = some o → o.op ≠ .select cs b)
 (hE : ∀ j, j ∈ E → j ≠ i → ∃ n, needsB md ops i n j = true)
 (hQ : ∀ c a w, Q (.panic c) (a.put oi.dst v) w → Q (.panic c) a w) :
 ∀ (fuel : Nat) (listed : Array Bool) (a : Act) (w : World), Closed md ops listed →
  (∀ j oj, ops[j]? = some oj → j ≠ i → listed.getD j true = false → (∀ e ∈ oj.after, Region.binds md e = true → e.on ≠ i) → oi.apart ops oj = true) →
  i ∈ Region.ready md ops listed → YieldsIf P ops (R w) oi v a →
  wpAnyE P md ops Q R E fuel (listed.setIfInBounds i true) (a.put oi.dst v) w → wpAnyE P md ops Q R E (fuel + 1) listed a w := by
 intro fuel
 induction fuel with
 | zero =>
  intro listed a w _ _ hr hy H
  refine ⟨fun h => (by rw [h] at hr; cases hr), fun j hj => ?_⟩
  by_cases hji : j = i
  · subst hji; exact hy.wpOp hi (hrefl w) ⟨.inr (hrefl w), H⟩
  · have := ready_mono hj hji
    rw [H.1] at this
    cases this
 | succ fuel ih =>
  intro listed a w hcl hfree hr hy H
  refine ⟨fun h => (by rw [h] at hr; cases hr), fun j hj => ?_⟩
  by_cases hji : j = i
  · subst hji; exact hy.wpOp hi (hrefl w) ⟨.inr (hrefl w), H⟩
  · have h1 := H.2 j (ready_mono hj hji)
    obtain ⟨hjun, oj, hoj, hall⟩ := mem_ready.1 hj
    have hiun := (mem_ready.1 hr).1
    have hjE : j ∉ E := fun hm => by
     obtain ⟨n, hn⟩ := hE j hm hji
     have h2 := needs_listed hcl n j hn (fun oj' hoj' e he hb => by
      rw [hoj] at hoj'
      injection hoj' with hoj'
      subst hoj'
      exact hall e he hb)
     rcases Nat.lt_or_ge i listed.size with h' | h'
     · simp [Array.getD, h'] at h2 hiun
       rw [h2] at hiun
       cases hiun
     · simp [Array.getD, Nat.not_lt.2 h'] at h2
    have hnot : ∀ e ∈ oj.after, Region.binds md e = true → e.on ≠ i := fun e he hb heq => by
     have h1 := hall e he hb
     have h0 := (mem_ready.1 hr).1
     rw [heq] at h1
     rcases Nat.lt_or_ge i listed.size with h' | h'
     · simp [h'] at h0 h1; rw [h0] at h1; cases h1
     · simp [Array.getElem?_eq_none h'] at h1
    have h2 := wpOp_putIf hoj (hfree j oj hoj hji hjun hnot) (fun cs b => hsel i oi cs b hi) (fun cs b => hsel j oj cs b hoj) hQ hy h1
    have hfree' : ∀ k ok, ops[k]? = some ok → k ≠ i → (listed.setIfInBounds j true).getD k true = false →
     (∀ e ∈ ok.after, Region.binds md e = true → e.on ≠ i) → oi.apart ops ok = true := fun k ok hk hki hun hno => by
     refine hfree k ok hk hki ?_ hno
     by_cases hjk : j = k
     · subst hjk; exact hjun
     · rw [getD_set_ne true hjk] at hun; exact hun
    refine wpOp_mono (fun a' w' h3 => ⟨h3.2.1, ih (listed.setIfInBounds j true) a' w' (closed_step hcl hj) hfree' (ready_mono hr (Ne.symm hji)) (yieldsIf_mono h3.1 (fun w'' hw'' => htr _ _ _ (h3.2.1.resolve_left hjE) hw'')) ?_⟩) h2
    rw [Array.setIfInBounds_comm _ _ hji]
    exact h3.2.2
end
section
variable {P : Program} {ops : Array Oper} {Q : Exit → Act → World → Prop} {fuel : Nat} {listed listed' : Array Bool} {a : Act} {w : World} {S : Nat → Prop} {E : List Nat}
def Re (E : List Nat) (S : Nat → Prop) (P : Program) (ops : Array Oper) (Q : Exit → Act → World → Prop) (fuel : Nat) (listed : Array Bool) (a : Act) (w : World) : Prop := wpAnyE P .any ops Q (Keep S) E fuel listed a w
theorem re_start (E : List Nat) (S : Nat → Prop) {id : Nat} (hm : P.follows .mixedOrders = true) {n : Nat} {l : Array Bool} (hn : ops.size = n) (hl : Array.replicate n false = l)
 (h : Re E S P ops Q n l a w.drew) : (Code.region id ops true).wp P Q a w := by
 subst hn
 subst hl
 exact wp_region_any hm (wpAny_of_E _ _ _ _ h)
def takes (E : List Nat) (ops : Array Oper) (listed : Array Bool) (i : Nat) : Bool :=
 Region.noSelect ops && Region.free .any ops listed i && (Region.ready .any ops listed).contains i && closedB .any ops listed && E.all fun j => j == i || needsB .any ops i ops.size j
theorem takes_E {i : Nat} (h : (E.all fun j => j == i || needsB .any ops i ops.size j) = true) : ∀ j, j ∈ E → j ≠ i → ∃ n, needsB .any ops i n j = true := fun j hj hne => by
 have h1 := (List.all_eq_true.1 h) j hj
 simp only [Bool.or_eq_true, beq_iff_eq] at h1
 exact ⟨_, h1.resolve_left hne⟩
theorem re_take (i : Nat) {oi : Oper} {v : Value} {a' : Act} (hi0 : ops.toList[i]? = some oi) (hc : takes E ops listed i = true)
 (hl : listed.setIfInBounds i true = listed')
 (hQ : ∀ c a w, Q (.panic c) (a.put oi.dst v) w → Q (.panic c) a w) (hw : Region.wanted oi (yielded ops a.tmps) = true) (hy : ∀ w', Keep S w w' → (execOp a.eval oi).run P w' = .ok (.value v) w')
 (ha : a.put oi.dst v = a') (h : Re E S P ops Q fuel listed' a' w) : Re E S P ops Q (fuel + 1) listed a w := by
 have hi : ops[i]? = some oi := by rw [← hi0]; simp
 subst hl
 subst ha
 simp only [takes, Bool.and_eq_true] at hc
 exact wpAnyE_first (R := Keep S) (Keep.refl S) (fun _ _ _ => Keep.trans) hi (Region.noSelect_spec hc.1.1.1.1) (takes_E hc.2) hQ fuel listed a w (closed_of hc.1.2) (Region.free_spec hi hc.1.1.1.2) (by simpa using hc.1.1.2) (.inl ⟨hw, hy⟩) h
theorem et (i : Nat) (l2 : Array Bool) {oi : Oper} {v : Value} {a' : Act} (hi0 : ops.toList[i]? = some oi) (hy : ∀ w', Keep S w w' → (execOp a.eval oi).run P w' = .ok (.value v) w') (ha : a.put oi.dst v = a') (h : Re E S P ops Q fuel l2 a' w) (hc : takes E ops listed i = true := by kernel_rfl) (hl : listed.setIfInBounds i true = l2 := by kernel_rfl) (hQ : ∀ c a w, Q (.panic c) (a.put oi.dst v) w → Q (.panic c) a w := by exact fun _ _ _ h => h) (hw : Region.wanted oi (yielded ops a.tmps) = true := by kernel_rfl) : Re E S P ops Q (fuel + 1) listed a w := re_take i hi0 hc hl hQ hw hy ha h
theorem re_step (i : Nat) {oi : Oper} (hi0 : ops.toList[i]? = some oi) (hr : (Region.ready .any ops listed == [i]) = true) (hl : listed.setIfInBounds i true = listed') (hw : Region.wanted oi (yielded ops a.tmps) = true)
 (h : ∀ K' : Act → World → Prop, Shut (∀ a' w', Keep S w w' → Re E S P ops Q fuel listed' a' w' → K' a' w') → Oper.wp P oi a w K' Q) : Re E S P ops Q (fuel + 1) listed a w := by
 have hi : ops[i]? = some oi := by rw [← hi0]; simp
 subst hl
 have hr' : Region.ready .any ops listed = [i] := by simpa using hr
 refine ⟨fun h0 => (by rw [h0] at hr'; cases hr'), ?_⟩
 rw [hr']
 intro j hj
 rw [List.mem_singleton] at hj
 subst hj
 refine wpOp_step hi (fun K' hK => ?_)
 rw [if_pos hw]
 exact h K' (fun a' w' h1 h2 => hK a' w' ⟨.inr h1, h2⟩)
theorem re_free (i : Nat) {oi : Oper} (hi0 : ops.toList[i]? = some oi) (hr : (Region.ready .any ops listed == [i] && E.contains i) = true) (hl : listed.setIfInBounds i true = listed') (hw : Region.wanted oi (yielded ops a.tmps) = true)
 (h : ∀ K' : Act → World → Prop, Shut (∀ a' w', True → Re E S P ops Q fuel listed' a' w' → K' a' w') → Oper.wp P oi a w K' Q) : Re E S P ops Q (fuel + 1) listed a w := by
 have hi : ops[i]? = some oi := by rw [← hi0]; simp
 subst hl
 simp only [Bool.and_eq_true] at hr
 have hr' : Region.ready .any ops listed = [i] := by simpa using hr.1
 refine ⟨fun h0 => (by rw [h0] at hr'; cases hr'), ?_⟩
 rw [hr']
 intro j hj
 rw [List.mem_singleton] at hj
 subst hj
 refine wpOp_step hi (fun K' hK => ?_)
 rw [if_pos hw]
 exact h K' (fun a' w' _ h2 => hK a' w' ⟨.inl (by simpa using hr.2), h2⟩)
theorem re_done (hr : (Region.ready .any ops listed == []) = true) (h : Q .normal a w) : Re E S P ops Q fuel listed a w := by
 have hr' : Region.ready .any ops listed = [] := by simpa using hr
 cases fuel with
 | zero => exact ⟨hr', h⟩
 | succ n => exact ⟨fun _ => h, (by rw [hr']; intro j hj; cases hj)⟩
end
end Go.Proofs.Ytnckonglodmfeaa.R
namespace Go.Proofs.Ytnckonglodmfeaa.Gc
open Go.RowKit Go.Proofs.YtnckonglodmfeaaW.PrintWords Go.Proofs.YtnckonglodmfeaaW.PrintLast Go.Proofs.YtnckonglodmfeaaW.PrintMore B Ls Gs S
theorem infoU8 : (Try.prog.info? 5).map (fun i => (i.zero, i.size, i.bytes)) = some (some (.int .u8 0), 1, 1) := by kernel_rfl
abbrev kL : Kd (List Int) := Kd.slice 5 kU8
theorem kL_get {w : World} {ad : Addr} {n : Nat} {ps : List (List Int)} (h : kL.C w (some ad) n ps) {k : Nat} {l : List Int} (hk : ps[k]? = some l) : ∃ A c, w.cell? (ad.add k) = some (.slice A l.length c) ∧ l.length ≤ c ∧ kU8.C w A l.length l := by
 have hj := (List.getElem?_eq_some_iff.1 hk).1
 obtain ⟨ad', e, hc⟩ := h.2.2 (by have := h.1; omega)
 injection e with e
 subst e
 obtain ⟨cs, h1, ⟨A, c, rfl, h2, h3⟩, h4⟩ := hc k l hk
 have g0 := h4 0 _ rfl
 have hs : kL.sz = 1 := rfl
 rw [hs, Nat.mul_one, Nat.add_zero] at g0
 exact ⟨A, c, g0, h2, h3⟩
set_option maxHeartbeats 4000000 in
set_option maxRecDepth 100000 in
theorem sum_calls (A : Option Addr) (c : Nat) (ps : List (List Int)) (w : World) (hC : kL.C w A ps.length ps) (hby : ∀ l ∈ ps, By l) :
 Calls Try.prog 121 #[.slice A ps.length c] w fun e w' => e = .returned (.int .u32 (sumL ps.flatten)) ∧ w = w' := by
 have HC := aM hC
 have HBY := aM hby
 have hpl := hC.2.1
 clear hC hby
 go_enter Try.func121, Try.ntmps121
 go_wp2_with fail
 go_loopw [3, 10] (fun vx vi wr => wr = w ∧ ∃ (k : Nat) (x : Int), k ≤ ps.length ∧ vi = .int .i64 k ∧ vx = .int .u32 x ∧ 0 ≤ x ∧ x < 4294967296 ∧ Aside0 (x = crcL (ps.take k).flatten 4294967295)) (fun _ vi _ => ps.length - (intOf vi).toNat)
 case atStart => exact ⟨rfl, 0, _, by omega, rfl, rfl, by decide, by decide, ⟨rfl⟩⟩
 case round =>
  obtain ⟨rfl, k, x, hk, rfl, rfl, hx0, hx1, HX⟩ := hrel
  by_cases hlt : k < ps.length
  · obtain ⟨l, hl⟩ : ∃ l, ps[k]? = some l := ⟨_, List.getElem?_eq_getElem hlt⟩
    obtain ⟨ad, rfl⟩ : ∃ ad, A = some ad := by obtain ⟨ad, e, _⟩ := HC.out.2.2 (by omega); exact ⟨ad, e⟩
    obtain ⟨A1, c1, q1, hc1, hC1⟩ := kL_get HC.out hl
    have HC1 := aM hC1
    have hll := hC1.2.1
    have HL := aM (show crcL (ps.take (k + 1)).flatten 4294967295 = crcL l x by
     obtain ⟨hl1, hl2⟩ := List.getElem?_eq_some_iff.1 hl
     rw [List.take_succ_eq_append_getElem hl1, hl2, List.flatten_append, crcL_append, ← HX.out]
     simp)
    have HB1 := aM (HBY.out l (List.mem_of_getElem? hl))
    clear hC1 hl HX
    go_wp2_with fail
    go_loopw [3, 16] (fun vx vi wr' => wr' = wr ∧ ∃ (i : Nat) (y : Int), i ≤ l.length ∧ vi = .int .i64 i ∧ vx = .int .u32 y ∧ 0 ≤ y ∧ y < 4294967296 ∧ Aside0 (y = crcL (l.take i) x)) (fun _ vi _ => l.length - (intOf vi).toNat)
    case atStart => exact ⟨rfl, 0, x, by omega, rfl, rfl, hx0, hx1, ⟨rfl⟩⟩
    case round =>
     obtain ⟨rfl, i, y, hi, rfl, rfl, hy0, hy1, HY⟩ := hrel
     by_cases hil : i < l.length
     · obtain ⟨b, hb⟩ : ∃ b, l[i]? = some b := ⟨_, List.getElem?_eq_getElem hil⟩
       obtain ⟨ad1, rfl⟩ : ∃ ad, A1 = some ad := by obtain ⟨ad, e, _⟩ := HC1.out.2.2 (by omega); exact ⟨ad, e⟩
       have q2 := C_cell HC1.out hb
       obtain ⟨hb0, hb1⟩ := HB1.out.at hb
       have HT := aM (show crcL (l.take (i + 1)) x = crcByte y b by rw [crcL_take x hb, HY.out])
       clear hb HY
       go_wp2_with fail
       have hxr := xor_range y b
       obtain ⟨z0, hz0⟩ : ∃ z, Go.bits .xor .u32 y b = z := ⟨_, rfl⟩
       rw [hz0] at hxr
       rw [hz0]
       have HZ := aM hz0
       clear hz0
       obtain ⟨hz00, hz01⟩ := hxr
       go_loopw [3, 24] (fun vx vi wr' => wr' = wr ∧ ∃ (j : Nat) (z : Int), j ≤ 8 ∧ vi = .int .i64 j ∧ vx = .int .u32 z ∧ 0 ≤ z ∧ z < 4294967296 ∧ Aside0 (crcBits (8 - j) z = crcByte y b)) (fun _ vi _ => 8 - (intOf vi).toNat)
       case atStart => exact ⟨rfl, 0, z0, by omega, rfl, rfl, hz00, hz01, ⟨by rw [← HZ.out]; rfl⟩⟩
       case round =>
        obtain ⟨rfl, j, z, hj, rfl, rfl, hz0, hz1, HZ⟩ := hrel
        by_cases hj8 : j < 8
        · go_wp2
          go_roundw
          case rel =>
           have hT : Go.bits .xor .u32 (z / 2) (Go.bits .and .u32 3988292384 ((-(Go.bits .and .u32 z 1)) % 4294967296)) = crcBit z := by rw [poly_and z hz0 hz1, crcBit_impl z hz0 hz1]
           rw [hT]
           have hr := crcBit_range z hz0 hz1
           exact ⟨by first | rfl | trivial, j + 1, _, by omega, by go_num, rfl, hr.1, hr.2, ⟨by rw [← HZ.out, show 8 - j = (8 - (j + 1)) + 1 by omega]; rfl⟩⟩
          case measure => simp [intOf]; omega
        · have hje : j = 8 := by omega
          subst hje
          go_wp2
          go_roundw
          case rel => exact ⟨by first | rfl | trivial, i + 1, z, by omega, by go_num, rfl, hz0, hz1, ⟨by rw [HT.out, ← HZ.out]; rfl⟩⟩
          case measure => simp [intOf]; omega
     · have hie : i = l.length := by omega
       subst hie
       go_wp2
       go_roundw
       case rel => exact ⟨by first | rfl | trivial, k + 1, y, by omega, by go_num, rfl, hy0, hy1, ⟨by rw [HL.out, HY.out, List.take_length]⟩⟩
       case measure => simp [intOf]; omega
  · have hke : k = ps.length := by omega
    subst hke
    go_wp2
    go_ret
    rw [List.take_length] at HX
    refine ⟨?_, rfl⟩
    rw [sumL, ← HX.out, xor32_comm]
    rfl
end Go.Proofs.Ytnckonglodmfeaa.Gc
namespace Go.Proofs.Ytnckonglodmfeaa.Lc
open Go.RowKit Go.Proofs.YtnckonglodmfeaaW.PrintWords Go.Proofs.YtnckonglodmfeaaW.PrintLast Go.Proofs.YtnckonglodmfeaaW.PrintMore B Ls
theorem infoU8 : (Try.prog.info? 5).map (fun i => (i.zero, i.size, i.bytes)) = some (some (.int .u8 0), 1, 1) := by kernel_rfl
theorem fail_calls (g b : Nat) (l : List Int) (code n : Int) (w : World) (h : Rdr 170 w g b l code) :
 Calls Try.prog 94 #[.pointer (some ⟨g, 0, none⟩), .int .i64 n] w fun e w' => e = .returned (.tuple #[]) ∧ Rdr 170 w' g b l (failed n code) ∧ Keep (· = g) w w' ∧ w'.heap.size = w.heap.size := by
 have HR := aM h
 obtain ⟨A, c, hb, -⟩ := h
 have hc1 : w.cell? ⟨g, 1, none⟩ = some (.int .i64 code) := by simp [World.cell?, hb]
 have hf1 := blk_frozen hb 1
 clear hb
 by_cases h0 : code = 0
 · have h1 : (code == 0) = true := beq_iff_eq.mpr h0
   have h2 : failed n code = n := if_pos h0
   have H2 := aM h2
   clear h0 h2
   go_enter Try.func94, Try.ntmps94
   go_wp2
   first | go_end0 | ((try simp only [Exit.inBlock, Exit.then]); refine bodyPost_ret (results_none rfl _ _ _) rfl ?_)
   exact ⟨rfl, by rw [H2.out]; exact HR.out.set n, (Keep.refl _ _).setCell _ _ (fun _ => rfl), by simp [World.setCell]⟩
 · have h1 : (code == 0) = false := beq_eq_false_iff_ne.mpr h0
   have h2 : failed n code = code := if_neg h0
   have H2 := aM h2
   clear h0 h2
   go_enter Try.func94, Try.ntmps94
   go_wp2
   first | go_end0 | ((try simp only [Exit.inBlock, Exit.then]); refine bodyPost_ret (results_none rfl _ _ _) rfl ?_)
   exact ⟨rfl, by rw [H2.out]; exact HR.out, Keep.refl _ _, rfl⟩
set_option maxRecDepth 100000 in
set_option maxHeartbeats 4000000 in
theorem num_calls (g b : Nat) (l : List Int) (code : Int) (w : World) (h : Rdr 170 w g b l code) (hby : By l) :
 Calls Try.prog 47 #[.pointer (some ⟨g, 0, none⟩)] w fun e w' => e = .returned (.int .u64 (num l code).1) ∧ Rdr 170 w' g b (num l code).2.1 (num l code).2.2 ∧ Keep (· = g) w w' ∧ w'.heap.size = w.heap.size := by
 have HR := aM h
 obtain ⟨A, c, hb, hlc, hA, hC, hne⟩ := h
 have hc0 : w.cell? ⟨g, 0, none⟩ = some (.slice A l.length c) := by simp [World.cell?, hb]
 have hc1 : w.cell? ⟨g, 1, none⟩ = some (.int .i64 code) := by simp [World.cell?, hb]
 have hf0 := blk_frozen hb 0
 have HB := aM hb
 have HC := aM hC
 have HA := aM hA
 have HY := aM hby
 clear hb hC hA hby
 by_cases h0 : code = 0
 · subst h0
   have HN : Aside0 (num l 0 = numGo l (l.drop 0) 0 0) := ⟨rfl⟩
   have hmax : l.length ≤ 9223372036854775807 := HC.out.2.1
   go_enter Try.func47, Try.ntmps47
   go_wp2
   go_loopw [3, 4] (fun n i wr => ∃ (k : Nat) (N : Int), k ≤ l.length + 1 ∧ i = .int .i64 k ∧ n = .int .u64 N ∧ Aside0 ((k ≤ l.length ∧ k ≤ 9 ∧ 0 ≤ N ∧ N < 128 ^ k ∧ num l 0 = numGo l (l.drop k) k N ∧ wr = w) ∨ (∃ e, e ≠ 0 ∧ num l 0 = (0, l, e) ∧ Rdr 170 wr g b l e ∧ Keep (· = g) w wr ∧ wr.heap.size = w.heap.size))) (fun _ i _ => l.length + 1 - (intOf i).toNat)
   case atStart => exact ⟨0, 0, by omega, rfl, rfl, ⟨.inl ⟨by omega, by omega, by decide, by decide, HN.out, rfl⟩⟩⟩
   case round =>
    clear HN
    obtain ⟨k, N, hk1, rfl, rfl, HD⟩ := hrel
    rcases HD.out with ⟨hk, hk9, hN0, hN1, hN, rfl⟩ | ⟨e, he, hN, hr, hkp, hsz⟩
    · clear HD
      by_cases hlt : k < l.length
      · obtain ⟨ad, rfl⟩ := C_some HC.out (by omega)
        obtain ⟨x, hx⟩ : ∃ x, l[k]? = some x := ⟨_, List.getElem?_eq_getElem hlt⟩
        have hcx := C_cell HC.out hx
        obtain ⟨hx0, hx1⟩ := HY.out.at hx
        have hd : l.drop k = x :: l.drop (k + 1) := by rw [List.drop_eq_getElem_cons hlt]; congr 1; simpa [List.getElem?_eq_getElem hlt] using hx
        rw [hd, numGo] at hN
        clear hd
        have HX := aM hx
        clear hx
        by_cases hb1 : (k = 9 ∧ 1 < x) ∨ (0 < k ∧ x = 0)
        · rw [if_pos hb1] at hN
          have HN := aM hN
          clear hN
          by_cases h9 : k = 9 ∧ 1 < x
          · have h9a : ((k : Int) == 9) = true := by rw [beq_iff_eq]; omega
            have h9b : decide (1 < x) = true := by simp; omega
            clear hb1 h9
            go_wp2_with (first | (go_at_call 94; refine (fail_calls g b l 0 8 _ HR.out).mono ?_; rintro e w1 ⟨rfl, hr1, hk1, hs1⟩))
            go_roundw
            case rel => exact ⟨k + 1, N, by omega, by go_num, rfl, ⟨.inr ⟨8, by decide, HN.out, hr1, hk1, hs1⟩⟩⟩
            case measure => simp [intOf]; omega
          · have h9a : 0 < k := by omega
            have h9c : x = 0 := by omega
            subst h9c
            by_cases h9 : k = 9
            · have h9a : ((k : Int) == 9) = true := by rw [beq_iff_eq]; omega
              clear hb1 h9
              go_wp2_with (first | (go_at_call 94; refine (fail_calls g b l 0 8 _ HR.out).mono ?_; rintro e w1 ⟨rfl, hr1, hk1, hs1⟩))
              go_roundw
              case rel => exact ⟨k + 1, N, by omega, by go_num, rfl, ⟨.inr ⟨8, by decide, HN.out, hr1, hk1, hs1⟩⟩⟩
              case measure => simp [intOf]; omega
            · have h9a : ((k : Int) == 9) = false := by rw [beq_eq_false_iff_ne]; omega
              clear hb1 h9
              go_wp2_with (first | (go_at_call 94; refine (fail_calls g b l 0 8 _ HR.out).mono ?_; rintro e w1 ⟨rfl, hr1, hk1, hs1⟩))
              go_roundw
              case rel => exact ⟨k + 1, N, by omega, by go_num, rfl, ⟨.inr ⟨8, by decide, HN.out, hr1, hk1, hs1⟩⟩⟩
              case measure => simp [intOf]; omega
        · rw [if_neg hb1] at hN
          have hw := wraps_u64 x hx0 (by rw [two64]; omega)
          have hN2 : N < 18446744073709551616 := by
           have := pow_le k 9 hk9
           rw [pow9] at this
           omega
          have key : (((k : Int) == 9) = true ∧ decide (1 < x) = false ∧ 0 < k ∧ (x == 0) = false) ∨ (((k : Int) == 9) = false ∧ 0 < k ∧ (x == 0) = false) ∨ (((k : Int) == 9) = false ∧ ¬ 0 < k) := by
           by_cases h9 : k = 9
           · exact .inl ⟨by rw [beq_iff_eq]; omega, by simp; omega, by omega, by rw [beq_eq_false_iff_ne]; omega⟩
           · by_cases hp : 0 < k
             · exact .inr (.inl ⟨by rw [beq_eq_false_iff_ne]; omega, hp, by rw [beq_eq_false_iff_ne]; omega⟩)
             · exact .inr (.inr ⟨by rw [beq_eq_false_iff_ne]; omega, hp⟩)
          by_cases h128 : x < 128
          · rw [if_pos h128] at hN
            have hmx := go_max k hk9 x hx0 h128 (by omega)
            have hv := or_add k N x hN0 hN1 hN2 hx0 hmx
            obtain ⟨i5, hi5, -, hi5s, -⟩ := info_ex infoU8
            obtain ⟨A', hrun, hC', hblk, hlc'⟩ := sl_from kU8 28 5 .i64 Try.underlying28 hi5 (some ad) c l hi5s ((k : Int) + 1) (by omega) (by omega) hlc
            rw [show ((k : Int) + 1).toNat = k + 1 by omega] at hrun hC' hlc'
            have HN := aM hN
            have HW := aM hw
            have HV := aM hv
            have HC' := aM (hC' _ HC.out)
            have HBL := aM hblk
            have HMX := aM hmx
            have HN1 := aM hN1
            clear hN hw hv hC' hblk hi5 hi5s hb1 hmx hN1 hN2
            rcases key with ⟨f1, f2, f3, f4⟩ | ⟨f1, f3, f4⟩ | ⟨f1, f3⟩
            all_goals
             go_wp2
             go_ret
             refine ⟨ret_eq ?_, ?_, (Keep.refl _ _).setCell _ _ (fun _ => rfl), by simp [World.setCell]⟩
             · rw [HV.out, HN.out]
             · rw [HN.out]; have hcut := Rdr.cut HB.out HA.out hne hlc' HBL.out HC'.out
               rw [List.length_drop] at hcut
               exact hcut
          · rw [if_neg h128] at hN
            have hv := or_add k N (x - 128) hN0 hN1 hN2 (by omega) (go_max k hk9 (x - 128) (by omega) (by omega) (by omega))
            have hlt2 := go_lt k N (x - 128) hN1 (by omega)
            have hn0 : 0 ≤ N + (x - 128) * 128 ^ k := by
             have := Int.mul_nonneg (show 0 ≤ x - 128 by omega) (Int.le_of_lt (pow_pos k))
             omega
            have hw2 := wraps_u64 (x - 128) (by omega) (by rw [two64]; omega)
            have ha := and127 x (by omega) hx1
            have hk8 : k < 9 := by omega
            have HN := aM hN
            have HW := aM hw2
            have HV := aM hv
            have HA2 := aM ha
            have HLT := aM hlt2
            have HN0 := aM hn0
            clear hN hw hw2 hv ha hlt2 hb1 hN1 hN2 hn0
            rcases key with ⟨f1, f2, f3, f4⟩ | ⟨f1, f3, f4⟩ | ⟨f1, f3⟩
            all_goals
             go_wp2
             go_roundw
             case rel => exact ⟨k + 1, _, by omega, by go_num, by first | rw [HA2.out, HV.out] | rw [HA2.out, HW.out, HV.out], ⟨.inl ⟨by omega, by omega, HN0.out, HLT.out, HN.out, by first | rfl | trivial⟩⟩⟩
             case measure => simp [intOf]; omega
      · have hkl : k = l.length := by omega
        have hd : l.drop k = [] := by rw [List.drop_eq_nil_iff]; omega
        rw [hd, numGo] at hN
        have HN := aM hN
        clear hd hN hN1
        have hge : l.length ≤ k := by omega
        clear hkl
        go_wp2_with (first | (go_at_call 94; refine (fail_calls g b l 0 3 _ HR.out).mono ?_; rintro e w1 ⟨rfl, hr1, hk1, hs1⟩))
        go_roundw
        case rel => exact ⟨k + 1, N, by omega, by go_num, rfl, ⟨.inr ⟨3, by decide, HN.out, hr1, hk1, hs1⟩⟩⟩
        case measure => simp [intOf]; omega
    · clear HD
      have HN := aM hN
      have HR2 := aM hr
      have HK := aM hkp
      have HS := aM hsz
      obtain ⟨A2, c2, hb2, -⟩ := hr
      have hc2 : wr.cell? ⟨g, 1, none⟩ = some (.int .i64 e) := by simp [World.cell?, hb2]
      have he2 : (e == 0) = false := beq_eq_false_iff_ne.mpr he
      clear hN hkp hsz hb2 he hc0 hc1
      go_wp2
      go_ret
      exact ⟨ret_eq (by rw [HN.out]), by rw [HN.out]; exact HR2.out, HK.out, HS.out⟩
 · have h1 : (code == 0) = false := beq_eq_false_iff_ne.mpr h0
   have h2 : num l code = (0, l, code) := if_neg h0
   have H2 := aM h2
   clear h0 h2
   go_enter Try.func47, Try.ntmps47
   go_wp2
   go_loopw [3, 4] (fun n i wr => ∃ k : Nat, n = .int .u64 0 ∧ i = .int .i64 0 ∧ wr = w) (fun _ i _ => 0)
   case atStart => exact ⟨0, rfl, rfl, rfl⟩
   case round =>
    obtain ⟨-, rfl, rfl, rfl⟩ := hrel
    go_wp2
    go_ret
    exact ⟨ret_eq (by rw [H2.out]), by rw [H2.out]; exact HR.out, Keep.refl _ _, rfl⟩
end Go.Proofs.Ytnckonglodmfeaa.Lc
namespace Go.Proofs.Ytnckonglodmfeaa.Lc
open Go.RowKit Go.Proofs.YtnckonglodmfeaaW.PrintWords Go.Proofs.YtnckonglodmfeaaW.PrintLast Go.Proofs.YtnckonglodmfeaaW.PrintMore B Ls
theorem new_calls (A : Option Addr) (c : Nat) (l : List Int) (w : World) (hC : kU8.C w A l.length l) (hll : l.length ≤ 140737488355328) :
 Calls Try.prog 93 #[.slice A l.length c] w fun e w' => ∃ g b, e = .returned (.pointer (some ⟨g, 0, none⟩)) ∧ Rdr 170 w' g b l 0 ∧ Below w.heap.size w w' ∧ w.heap.size ≤ g ∧ w.heap.size ≤ b ∧ b < w'.heap.size := by
 have HC := aM hC
 clear hC
 go_enter Try.func93, Try.ntmps93
 go_wp2_with (first | ((with_reducible refine gate_builtin (b := .append) (xs := #[.tmp 3, .tmp 4]) rfl ?_); at_builtin; refine Kd.R_append_rows (Kd.int .u8) (w0 := w) w.heap.size rfl (.tmp 3) (.tmp 4) 28 5 (.int .u8 0) 1 rfl Try.underlying28 infoU8 rfl (by decide) (by omega) (.slice (some ⟨w.heap.size, 0, none⟩) 0 0) ([] : List Int) l _ _ _ (fun _ => True) (fun _ => False) rfl rfl ?aO ?aR (fun _ _ h => h) (fun _ h => h.elim) ?aF ?aB ?aS ?aL ?_; (case aR => exact Kd.C_alloc HC.out _); (case aB => exact (Below.refl _ _).alloc (Nat.le_refl _) _); (case aF => exact (fun _ _ => trivial)); (case aO => exact R_lit0 kU8 5 w); (case aS => simp); (case aL => (simp only [List.length_nil]; omega)); (intro v1 w1 ho hb1 hg hat; rw [List.nil_append] at ho; have hz := hg.size; rw [World.size_alloc] at hz; obtain ⟨A1, c1, rfl, hlc1, hC1⟩ := Kd.R_reads ho; have HO := aM ho; have HW := aM hb1; have HC1 := aM hC1; clear ho hb1 hg hat hC1)))
 go_ret
 have hnew : (w1.alloc (.cells #[.slice A1 l.length c1, .int .i64 0] 170)).heap[w1.heap.size]? = some (.cells #[.slice A1 l.length c1, .int .i64 0] 170 (0, 0)) := heap_alloc_new _ _
 have hsz : (w1.alloc (.cells #[.slice A1 l.length c1, .int .i64 0] 170)).heap.size = w1.heap.size + 1 := World.size_alloc _ _
 have hbw := HW.out.alloc (by omega) (.cells #[.slice A1 l.length c1, .int .i64 0] 170)
 have hC2 : kU8.C (w1.alloc (.cells #[.slice A1 l.length c1, .int .i64 0] 170)) A1 l.length l := Kd.C_alloc HC1.out _
 cases A1 with
 | none => exact ⟨w1.heap.size, w.heap.size, rfl, ⟨none, c1, hnew, hlc1, fun a e => by simp at e, hC2, by omega⟩, hbw, by omega, by omega, by omega⟩
 | some a =>
  have h2 := R_at HO.out
  exact ⟨w1.heap.size, a.block, rfl, ⟨some a, c1, hnew, hlc1, fun a' e => by injection e with e; rw [e], hC2, by omega⟩, hbw, by omega, h2.1, by omega⟩
set_option maxHeartbeats 1000000 in
theorem put_calls (A : Option Addr) (c : Nat) (l : List Int) (n : Int) (w : World) (hC : kU8.C w A l.length l) (hll : l.length ≤ 140737488355300) (h0 : 0 ≤ n) (h1 : n < 18446744073709551616) :
 Calls Try.prog 38 #[.slice A l.length c, .int .u64 n] w fun e w' => ∃ v, e = .returned v ∧ kU8.R 5 w' w.heap.size (fun _ => True) v (l ++ putl n.toNat) ∧ Below w.heap.size w w' := by
 have HC := aM hC
 clear hC
 go_enter Try.func38, Try.ntmps38
 go_wp2_with (first | ((with_reducible refine gate_builtin (b := .append) (xs := #[.tmp 6, .tmp 7]) rfl ?_); at_builtin; refine Kd.R_append_rows (Kd.int .u8) (w0 := w) w.heap.size rfl (.tmp 6) (.tmp 7) 28 5 (.int .u8 0) 1 rfl Try.underlying28 infoU8 rfl (by decide) (by omega) (.slice (some ⟨w.heap.size, 0, none⟩) 0 0) ([] : List Int) l _ _ _ (fun _ => True) (fun _ => False) rfl rfl ?aO ?aR (fun _ _ h => h) (fun _ h => h.elim) ?aF ?aB ?aS ?aL ?_; (case aR => exact Kd.C_alloc HC.out _); (case aB => exact (Below.refl _ _).alloc (Nat.le_refl _) _); (case aF => exact (fun _ _ => trivial)); (case aO => exact R_lit0 kU8 5 w); (case aS => simp); (case aL => (simp only [List.length_nil]; omega)); (intro v1 w1 ho hb1 hg hat; rw [List.nil_append] at ho; have HO := aM ho; have HW := aM hb1; clear ho hb1 hg hat)))
 go_loopw [1, 5] (fun vn vb wr => ∃ (m : Int) (xs : List Int), vn = .int .u64 m ∧ 0 ≤ m ∧ m < 18446744073709551616 ∧ Aside0 (xs ++ putl m.toNat = l ++ putl n.toNat) ∧ Aside0 (kU8.R 5 wr w.heap.size (fun _ => True) vb xs) ∧ Aside0 (Below w.heap.size w wr)) (fun vn _ _ => (intOf vn).toNat)
 case atStart => exact ⟨n, l, rfl, h0, h1, ⟨rfl⟩, HO, HW⟩
 case round =>
  clear HO HW
  obtain ⟨m, xs, rfl, hm0, hm1, HE, HO, HW⟩ := hrel
  have hlen := congrArg List.length HE.out
  rw [List.length_append, List.length_append] at hlen
  have h10 := putl_ten n.toNat (by omega)
  have h1 := (putl_len m.toNat).1
  have hxl : xs.length ≤ 140737488355310 := by omega
  clear hlen h10 h1
  by_cases hlt : m < 128
  · have hp := putl_lt (n := m.toNat) (by omega)
    rw [Int.toNat_of_nonneg hm0] at hp
    have HP := aM hp
    clear hp
    go_wp2_with (first | ((with_reducible refine gate_builtin (b := .append) (xs := #[.tmp 19, .tmp 22]) rfl ?_); at_builtin; refine Kd.R_append (Kd.int .u8) (w0 := w) w.heap.size rfl (.tmp 19) (.tmp 22) 28 5 (.int .u8 0) 1 rfl Try.underlying28 infoU8 rfl (by decide) (by omega) u5 xs m [.int .u8 m] (fun _ => True) (fun _ => False) rfl rfl ?aP (fun _ hk => hk.elim) ?aF ?aO ?aB ?aS ?aL ?_; (case aP => exact rfl); (case aB => exact HW.out); (case aF => exact (fun _ _ => trivial)); (case aO => exact HO.out); (case aS => exact HW.out.size); (case aL => omega); (intro v1 w1 ho hb1 hg hat; have HO2 := aM ho; have HW2 := aM hb1; clear ho hb1 hg hat)))
    go_ret
    exact ⟨_, rfl, by rw [← HE.out, HP.out]; exact HO2.out, HW2.out⟩
  · have hp := putl_ge (n := m.toNat) (by omega)
    rw [show ((m.toNat % 128 + 128 : Nat) : Int) = m % 128 + 128 by omega, show m.toNat / 128 = (m / 128).toNat by omega] at hp
    have HP := aM hp
    have HQ := aM (or128 m hm0)
    clear hp
    go_wp2_with (first | ((with_reducible refine gate_builtin (b := .append) (xs := #[.tmp 11, .tmp 15]) rfl ?_); at_builtin; refine Kd.R_append (Kd.int .u8) (w0 := w) w.heap.size rfl (.tmp 11) (.tmp 15) 28 5 (.int .u8 0) 1 rfl Try.underlying28 infoU8 rfl (by decide) (by omega) u5 xs (Go.bits .or .u8 (m % 256) 128) [.int .u8 (Go.bits .or .u8 (m % 256) 128)] (fun _ => True) (fun _ => False) rfl rfl ?aP (fun _ hk => hk.elim) ?aF ?aO ?aB ?aS ?aL ?_; (case aP => exact rfl); (case aB => exact HW.out); (case aF => exact (fun _ _ => trivial)); (case aO => exact HO.out); (case aS => exact HW.out.size); (case aL => omega); (intro v1 w1 ho hb1 hg hat; have HO2 := aM ho; have HW2 := aM hb1; clear ho hb1 hg hat)))
    go_roundw
    case rel => exact ⟨m / 128, _, rfl, by omega, by omega, ⟨by rw [← HE.out, HP.out, HQ.out, List.append_assoc]; rfl⟩, HO2, HW2⟩
    case measure => simp [intOf]; omega
theorem putInt_calls (A : Option Addr) (c : Nat) (l : List Int) (n : Int) (w : World) (hC : kU8.C w A l.length l) (hll : l.length ≤ 140737488355300) (h0 : -9223372036854775808 ≤ n) (h1 : n ≤ 9223372036854775807) :
 Calls Try.prog 142 #[.slice A l.length c, .int .i64 n] w fun e w' => ∃ v, e = .returned v ∧ kU8.R 5 w' w.heap.size (fun _ => True) v (l ++ putl (zig n).toNat) ∧ Below w.heap.size w w' := by
 have hz := zig_bits n h0 h1
 have hr := zig_range n h0 h1
 have HP := aM (put_calls A c l (zig n) w hC hll hr.1 hr.2)
 rw [← hz] at HP
 clear hC hz hr
 go_enter Try.func142, Try.ntmps142
 go_wp2_with (first | (go_at_call 38; refine HP.out.mono ?_; rintro e w1 ⟨v, rfl, ho, hb⟩; rw [zig_bits n h0 h1] at ho; obtain ⟨A1, c1, hv⟩ := Kd.R_slice ho; have HO := aM ho; have HV := aM hv; clear ho hv))
 go_ret
 exact ⟨_, rfl, HO.out, hb⟩
end Go.Proofs.Ytnckonglodmfeaa.Lc
namespace Go.Proofs.Ytnckonglodmfeaa.Lr
open Go.RowKit Go.Proofs.YtnckonglodmfeaaW.PrintWords Go.Proofs.YtnckonglodmfeaaW.PrintLast Go.Proofs.YtnckonglodmfeaaW.PrintMore B Ls Lc
theorem fail_calls (g b : Nat) (l : List Int) (code n : Int) (w : World) (h : Rdr 107 w g b l code) :
 Calls Try.prog 128 #[.pointer (some ⟨g, 0, none⟩), .int .i64 n] w fun e w' => e = .returned (.tuple #[]) ∧ Rdr 107 w' g b l (failed n code) ∧ Keep (· = g) w w' ∧ w'.heap.size = w.heap.size := by
 have HR := aM h
 obtain ⟨hc1, hf1⟩ := h.code
 clear h
 by_cases h0 : code = 0
 · have h1 : (code == 0) = true := beq_iff_eq.mpr h0
   have h2 : failed n code = n := if_pos h0
   have H2 := aM h2
   clear h0 h2
   go_enter Try.func128, Try.ntmps128
   go_wp2
   first | go_end0 | ((try simp only [Exit.inBlock, Exit.then]); refine bodyPost_ret (results_none rfl _ _ _) rfl ?_)
   exact ⟨rfl, by rw [H2.out]; exact HR.out.set n, (Keep.refl _ _).setCell _ _ (fun _ => rfl), by simp [World.setCell]⟩
 · have h1 : (code == 0) = false := beq_eq_false_iff_ne.mpr h0
   have h2 : failed n code = code := if_neg h0
   have H2 := aM h2
   clear h0 h2
   go_enter Try.func128, Try.ntmps128
   go_wp2
   first | go_end0 | ((try simp only [Exit.inBlock, Exit.then]); refine bodyPost_ret (results_none rfl _ _ _) rfl ?_)
   exact ⟨rfl, by rw [H2.out]; exact HR.out, Keep.refl _ _, rfl⟩
set_option maxRecDepth 100000 in
set_option maxHeartbeats 4000000 in
theorem num_calls (g b : Nat) (l : List Int) (code : Int) (w : World) (h : Rdr 107 w g b l code) (hby : By l) :
 Calls Try.prog 43 #[.pointer (some ⟨g, 0, none⟩)] w fun e w' => e = .returned (.int .u64 (num l code).1) ∧ Rdr 107 w' g b (num l code).2.1 (num l code).2.2 ∧ Keep (· = g) w w' ∧ w'.heap.size = w.heap.size := by
 have HR := aM h
 obtain ⟨A, c, hc0, hf0, hb, hlc, hA, hC, hne⟩ := h.left
 obtain ⟨hc1, hf1⟩ := h.code
 have HB := aM hb
 have HC := aM hC
 have HA := aM hA
 have HY := aM hby
 clear hb hC hA hby h
 by_cases h0 : code = 0
 · subst h0
   have HN : Aside0 (num l 0 = numGo l (l.drop 0) 0 0) := ⟨rfl⟩
   have hmax : l.length ≤ 9223372036854775807 := HC.out.2.1
   go_enter Try.func43, Try.ntmps43
   go_wp2
   go_loopw [3, 4, 5] (fun n u i wr => ∃ (k : Nat) (N U : Int), k ≤ l.length ∧ k ≤ 9 ∧ 0 ≤ N ∧ i = .int .i64 k ∧ n = .int .u64 N ∧ u = .int .u64 U ∧ 0 < U ∧ U ≤ 9223372036854775808 ∧ Aside0 (U = 128 ^ k ∧ N < 128 ^ k ∧ num l 0 = numGo l (l.drop k) k N) ∧ wr = w) (fun _ _ i _ => l.length - (intOf i).toNat)
   case atStart => exact ⟨0, 0, 1, by omega, by omega, by decide, rfl, rfl, rfl, by decide, by decide, ⟨by decide, by decide, HN.out⟩, rfl⟩
   case round =>
    clear HN
    obtain ⟨k, N, U, hk, hk9, hN0, rfl, rfl, rfl, hU0, hU1, HN, rfl⟩ := hrel
    by_cases hlt : k < l.length
    · obtain ⟨ad, rfl⟩ := C_some HC.out (by omega)
      obtain ⟨x, hx⟩ : ∃ x, l[k]? = some x := ⟨_, List.getElem?_eq_getElem hlt⟩
      have hcx := C_cell HC.out hx
      obtain ⟨hx0, hx1⟩ := HY.out.at hx
      have hd : l.drop k = x :: l.drop (k + 1) := by rw [List.drop_eq_getElem_cons hlt]; congr 1; simpa [List.getElem?_eq_getElem hlt] using hx
      obtain ⟨hU, hN1, hN⟩ := HN.out
      rw [hd, numGo] at hN
      have hkl : ((k : Int) == (l.length : Int)) = false := by rw [beq_eq_false_iff_ne]; omega
      clear hd HN hx
      by_cases hb1 : (k = 9 ∧ 1 < x) ∨ (0 < k ∧ x = 0)
      · rw [if_pos hb1] at hN
        have HN := aM hN
        clear hN hU hN1
        have key : (((k : Int) == 9) = true ∧ decide (1 < x) = true) ∨ (((k : Int) == 9) = true ∧ decide (1 < x) = false ∧ 0 < k ∧ (x == 0) = true) ∨ (((k : Int) == 9) = false ∧ 0 < k ∧ (x == 0) = true) := by
         by_cases h9 : k = 9
         · by_cases h1 : 1 < x
           · exact .inl ⟨by rw [beq_iff_eq]; omega, by simp; omega⟩
           · exact .inr (.inl ⟨by rw [beq_iff_eq]; omega, by simp; omega, by omega, by rw [beq_iff_eq]; omega⟩)
         · exact .inr (.inr ⟨by rw [beq_eq_false_iff_ne]; omega, by omega, by rw [beq_iff_eq]; omega⟩)
        clear hb1
        rcases key with ⟨f1, f2⟩ | ⟨f1, f2, f3, f4⟩ | ⟨f1, f3, f4⟩
        all_goals
         go_wp2
         go_ret
         exact ⟨ret_eq (by rw [HN.out]), by rw [HN.out]; exact HR.out.set 8, (Keep.refl _ _).setCell _ _ (fun _ => rfl), by simp [World.setCell]⟩
      · rw [if_neg hb1] at hN
        have key : (((k : Int) == 9) = true ∧ decide (1 < x) = false ∧ 0 < k ∧ (x == 0) = false) ∨ (((k : Int) == 9) = false ∧ 0 < k ∧ (x == 0) = false) ∨ (((k : Int) == 9) = false ∧ ¬ 0 < k) := by
         by_cases h9 : k = 9
         · exact .inl ⟨by rw [beq_iff_eq]; omega, by simp; omega, by omega, by rw [beq_eq_false_iff_ne]; omega⟩
         · by_cases hp : 0 < k
           · exact .inr (.inl ⟨by rw [beq_eq_false_iff_ne]; omega, hp, by rw [beq_eq_false_iff_ne]; omega⟩)
           · exact .inr (.inr ⟨by rw [beq_eq_false_iff_ne]; omega, hp⟩)
        have hmx := go_max k hk9 (x % 128) (by omega) (by omega) (by omega)
        have hnn := Int.mul_nonneg (show 0 ≤ x % 128 by omega) (Int.le_of_lt hU0)
        have hgl := go_lt k N (x % 128) hN1 (by omega)
        rw [← hU] at hmx hgl
        have htop : N + x % 128 * U < 18446744073709551616 := by
         rcases Nat.lt_or_eq_of_le hk9 with h8 | rfl
         · have := pow_le (k + 1) 9 h8
           rw [pow9] at this
           omega
         · have hU9 : U = 9223372036854775808 := by rw [hU, pow9]
           rw [pow9] at hN1
           have : x % 128 ≤ 1 := by omega
           have := Int.mul_le_mul_of_nonneg_right this (Int.le_of_lt hU0)
           omega
        have hw1 := wraps_u64 (x % 128 * U) hnn (by rw [two64]; exact hmx)
        have hw2 := wraps_u64 (N + x % 128 * U) (by omega) (by rw [two64]; exact htop)
        by_cases h128 : x < 128
        · rw [if_pos h128, ← hU] at hN
          have hxm : x % 128 = x := by omega
          obtain ⟨i5, hi5, -, hi5s, -⟩ := info_ex infoU8
          obtain ⟨A', hrun, hC', hblk, hlc'⟩ := sl_from kU8 28 5 .i64 Try.underlying28 hi5 (some ad) c l hi5s ((k : Int) + 1) (by omega) (by omega) hlc
          rw [show ((k : Int) + 1).toNat = k + 1 by omega] at hrun hC' hlc'
          have HN := aM hN
          have HM := aM hxm
          have HC' := aM (hC' _ HC.out)
          have HBL := aM hblk
          have HW1 := aM hw1
          have HW2 := aM hw2
          clear hN hC' hblk hi5 hi5s hb1 hmx hN1 hnn hgl htop hxm hU hw1 hw2
          rcases key with ⟨f1, f2, f3, f4⟩ | ⟨f1, f3, f4⟩ | ⟨f1, f3⟩
          all_goals
           go_wp2
           go_ret
           refine ⟨ret_eq ?_, ?_, (Keep.refl _ _).setCell _ _ (fun _ => rfl), by simp [World.setCell]⟩
           · rw [HN.out]; first | (simp only [HW1.out, HW2.out, HM.out]; done) | (simp only [HM.out] at *; simp only [HW1.out, HW2.out])
           · have hcut := Rdr.cut HB.out HA.out hne hlc' HBL.out HC'.out
             rw [List.length_drop] at hcut
             rw [HN.out]; exact hcut
        · rw [if_neg h128, ← hU] at hN
          have hxm : x % 128 = x - 128 := by omega
          have hk8 : k < 9 := by omega
          have hU2 : U * 128 = 128 ^ (k + 1) := by rw [Int.pow_succ, hU]
          have hU3 : U * 128 ≤ 9223372036854775808 := by
           have := pow_le (k + 1) 9 hk8
           rw [pow9] at this
           omega
          have HN := aM hN
          have HM := aM hxm
          have HG := aM hgl
          have HU := aM hU2
          have HNN := aM hnn
          have HW1 := aM hw1
          have HW2 := aM hw2
          clear hN hb1 hmx hN1 hnn hgl htop hxm hU hU2 hw1 hw2
          rcases key with ⟨f1, f2, f3, f4⟩ | ⟨f1, f3, f4⟩ | ⟨f1, f3⟩
          all_goals
           go_wp2
           go_roundw
           case rel => exact ⟨k + 1, N + x % 128 * U, U * 128, by omega, by omega, by have := HNN.out; omega, by go_num, by first | rw [HW1.out, HW2.out] | rfl, rfl, by omega, by omega, ⟨HU.out, HG.out, by rw [HM.out]; exact HN.out⟩, by first | rfl | trivial⟩
           case measure => simp [intOf]; omega
    · have hkl : ((k : Int) == (l.length : Int)) = true := by rw [beq_iff_eq]; omega
      have hd : l.drop k = [] := by rw [List.drop_eq_nil_iff]; omega
      have hN := HN.out.2.2
      rw [hd, numGo] at hN
      have HN := aM hN
      clear hd hN
      go_wp2
      go_ret
      exact ⟨ret_eq (by rw [HN.out]), by rw [HN.out]; exact HR.out.set 3, (Keep.refl _ _).setCell _ _ (fun _ => rfl), by simp [World.setCell]⟩
 · have h1 : (code != 0) = true := bne_iff_ne.mpr h0
   have h2 : num l code = (0, l, code) := if_neg h0
   have H2 := aM h2
   clear h0 h2
   go_enter Try.func43, Try.ntmps43
   go_wp2
   go_ret
   exact ⟨ret_eq (by rw [H2.out]), by rw [H2.out]; exact HR.out, Keep.refl _ _, rfl⟩
end Go.Proofs.Ytnckonglodmfeaa.Lr
