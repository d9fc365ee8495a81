/- Contracts and plain facts that the statements' proofs use (part 14). -/
import Derived.Test.YtnckonglodmfeaaM4
import Derived.Test.YtnckonglodmfeaaM13
set_option linter.unusedVariables false
set_option linter.unusedSimpArgs false
namespace Go.Proofs.Ytnckonglodmfeaa.Ik
open Go.RowKit Go.Proofs.YtnckonglodmfeaaW.PrintWords Go.Proofs.YtnckonglodmfeaaW.PrintLast Go.Proofs.YtnckonglodmfeaaW.PrintMore B R S Is
theorem rows_append_wp {P : Program} {o : Oper} {a : Act} {Q : Exit → Act → World → Prop} {K : Act → World → Prop} {α : Type} (d : Kd α) {W : World} (base : Nat) (hw : Region.wanted o (yielded #[] a.tmps) = true) (s x : Operand) (t e : TypeId) (z : Value) (bytes : Nat)
 (ho : o.op = .call { callee := .builtin .append, args := #[s, x], argTypes := #[t, t] })
 (ht : P.underlying t = some (.slice e)) (hinfo : (P.info? e).map (fun i => (i.zero, i.size, i.bytes)) = some (some z, d.sz, bytes)) (hz : z.cells.size = d.sz) (hs0 : 0 < d.sz) (hb0 : 0 < bytes)
 (v : Value) (xs ys : List α) (A : Option Addr) (m c : Nat) (okp : Nat → Prop) (hs : a.eval s = v) (hx : a.eval x = .slice A m c)
 (HO : d.R e W base (fun _ => True) v xs) (HR : ReadsRow (d.M W base okp) d.sz W A m ys) (hokp : ∀ k, okp k → some k ≠ v.ownBlock)
 (hbase : base ≤ W.heap.size) (hl : (xs.length + m) * bytes ≤ 140737488355328)
 (h : ∀ v1 w1, d.R e w1 base (fun _ => True) v1 (xs ++ ys) → W.grownBy w1 v.ownBlock → (v1.ownBlock = v.ownBlock ∨ ∃ b, v1.ownBlock = some b ∧ W.heap.size ≤ b) → K (a.put o.dst v1) w1) :
 Oper.wp P o a W K Q := by
 have h1 := Kd.R_append_rows_step (P := P) (ops := #[]) (o := o) (a := a) (Q := Q) (Kc := K) d (w0 := W) (W := W) (Rr := d.M W base okp) base hw s x t e z bytes ho ht hinfo hz hs0 hb0 v xs ys A m c (fun _ => True) okp hs hx HO HR (fun _ _ h => h) (fun k hk => ⟨trivial, hokp k hk⟩) (fun _ _ => trivial) (Below.refl _ _) hbase hl (fun v1 w1 g1 _ g3 g4 => h v1 w1 g1 g3 g4)
 rw [if_pos hw] at h1
 exact h1
theorem rows_read {α : Type} {d : Kd α} {e : Nat} {w : World} {base : Nat} {A : Option Addr} {n c : Nat} {xs : List α} (h : d.R e w base (fun _ => True) (.slice A n c) xs) : ReadsRow (d.M w base (fun k => k < w.heap.size)) d.sz w A n xs := by
 obtain ⟨A', c', he, -, hr⟩ := OwnRow.reads (Kd.R_bound h).2
 injection he with e1 e2 e3
 subst e1 e2
 exact hr.imp_ (Below.refl _ _) (fun x cs hp => d.M_mono (fun k hk => hk.1.2.2.1) hp)
theorem reads_take {α : Type} {R : α → List Value → Prop} {size : Nat} {w : World} {A : Option Addr} {n : Nat} {xs : List α} (h : ReadsRow R size w A n xs) {k : Nat} (hk : k ≤ n) : ReadsRow R size w A k (xs.take k) := by
 obtain ⟨h1, h2, h3⟩ := h
 refine ⟨by rw [List.length_take]; omega, by omega, fun hp => ?_⟩
 obtain ⟨ad, e, hc⟩ := h3 (by omega)
 refine ⟨ad, e, fun j p hj => hc j p ?_⟩
 rw [List.getElem?_take] at hj
 split at hj
 · exact hj
 · exact absurd hj (by simp)
theorem reads_drop {α : Type} {R : α → List Value → Prop} {size : Nat} {w : World} {A : Option Addr} {n c : Nat} {xs : List α} (h : ReadsRow R size w A n xs) {k : Nat} (hk : k ≤ n) (hnc : n ≤ c) : ReadsRow R size w (if c = k then A else A.map (·.add (k * size))) (n - k) (xs.drop k) := by
 obtain ⟨h1, h2, h3⟩ := h
 refine ⟨by rw [List.length_drop]; omega, by omega, fun hp => ?_⟩
 obtain ⟨ad, e, hc⟩ := h3 (by omega)
 subst e
 rw [if_neg (by omega)]
 refine ⟨ad.add (k * size), rfl, fun j p hj => ?_⟩
 rw [List.getElem?_drop] at hj
 obtain ⟨c', g1, g2, g3⟩ := hc (k + j) p hj
 refine ⟨c', g1, g2, fun i u hu => ?_⟩
 rw [← g3 i u hu]
 have : (ad.add (k * size)).add (j * size + i) = ad.add ((k + j) * size + i) := by
  rw [Addr.add_add]
  congr 1
  rw [Nat.add_mul]
  omega
 rw [this]
theorem reads_keep {α : Type} {d : Kd α} {w w' : World} {base N : Nat} {A : Option Addr} {n : Nat} {xs : List α} (h : ReadsRow (d.M w base (fun k => k < N)) d.sz w A n xs) (hk : Keep (fun _ => False) w w') : ReadsRow (d.M w' base (fun k => k < N)) d.sz w' A n xs :=
 h.imp_ (hk.below (Nat.le_refl _) (fun _ _ => id)) (fun x cs hp => Kd.M_below hp (hk.below (Nat.le_refl _) (fun _ _ => id)))
theorem lit_one (W : World) (base : Nat) (k op d a b n : Int) : ReadsRow (kIns.M (W.alloc (.cells #[.int .u8 k, .int .u8 op, .int .i64 d, .int .i64 a, .int .i64 b, .int .i64 n, .slice none 0 0] 92)) base (fun _ => False)) kIns.sz (W.alloc (.cells #[.int .u8 k, .int .u8 op, .int .i64 d, .int .i64 a, .int .i64 b, .int .i64 n, .slice none 0 0] 92)) (some ⟨W.heap.size, 0, none⟩) 1 [(k, op, d, a, b, n, [])] := by
 refine ⟨rfl, by decide, fun _ => ⟨_, rfl, fun j p hj => ?_⟩⟩
 obtain ⟨rfl, rfl⟩ : j = 0 ∧ p = (k, op, d, a, b, n, []) := by
  rcases j with _ | j
  · exact ⟨rfl, by simpa using hj.symm⟩
  · simp at hj
 refine ⟨_, rfl, ins_M (Kd.R_nil _ _ _ _ _), fun i u hu => ?_⟩
 rw [Nat.zero_mul, Nat.zero_add, add_plain, blk_cell (heap_alloc_new _ _)]
 rw [← hu]
 simp
theorem M_false {α : Type} {d : Kd α} {w : World} {base : Nat} {A : Option Addr} {n N : Nat} {xs : List α} (h : ReadsRow (d.M w base (fun _ => False)) d.sz w A n xs) : ReadsRow (d.M w base (fun k => k < N)) d.sz w A n xs :=
 h.imp_ (Below.refl _ _) (fun x cs hp => d.M_mono (fun _ hk => hk.elim) hp)
theorem lit_empty (W : World) (base : Nat) (hb : base ≤ W.heap.size) : kIns.R 92 (W.alloc (.cells #[] 92)) base (fun _ => True) (.slice (some ⟨W.heap.size, 0, none⟩) 0 0) [] :=
 Kd.R_lower (R_lit0 kIns 92 W) hb
def From (N : Nat) (v : Value) : Prop := ∀ b, v.ownBlock = some b → N ≤ b
theorem From.next {N : Nat} {W : World} {v v1 : Value} (h : From N v) (hN : N ≤ W.heap.size) (hat : v1.ownBlock = v.ownBlock ∨ ∃ b, v1.ownBlock = some b ∧ W.heap.size ≤ b) : From N v1 := by
 intro b hb
 rcases hat with e | ⟨b', e, h'⟩
 · exact h b (e ▸ hb)
 · rw [e] at hb
   injection hb with hb
   omega
theorem From.ne {N : Nat} {v : Value} (h : From N v) (k : Nat) (hk : k < N) : some k ≠ v.ownBlock := fun e => by
 have := h k e.symm
 omega
theorem From.keep {N : Nat} {w W W1 : World} {v : Value} (h : From N v) (hN : N = w.heap.size) (hk : Keep (fun _ => False) w W) (hg : W.grownBy W1 v.ownBlock) : Keep (fun _ => False) w W1 := by
 subst hN
 exact hk.then (grown_keep (S := fun i => w.heap.size ≤ i) hg h) (fun i hi hs => absurd hs (by omega))
theorem ins_fits2 {a b : Nat} (h : a + b ≤ 1000) : (a + b) * 64 ≤ 140737488355328 := by omega
theorem ins_box {W : World} {g : Nat} {k op d a b n : Int} {s : Value} {e : Nat} (h : W.heap[g]? = some (.cells #[.int .u8 k, .int .u8 op, .int .i64 d, .int .i64 a, .int .i64 b, .int .i64 n, s] e (0, 0))) :
 W.cell? ⟨g, 0, none⟩ = some (.int .u8 k) ∧ W.cell? ⟨g, 1, none⟩ = some (.int .u8 op) ∧ W.cell? ⟨g, 2, none⟩ = some (.int .i64 d) ∧ W.cell? ⟨g, 3, none⟩ = some (.int .i64 a) ∧ W.cell? ⟨g, 4, none⟩ = some (.int .i64 b) ∧ W.cell? ⟨g, 5, none⟩ = some (.int .i64 n) ∧ W.cell? ⟨g, 6, none⟩ = some s :=
 ⟨cell_at h 0 _ rfl, cell_at h 1 _ rfl, cell_at h 2 _ rfl, cell_at h 3 _ rfl, cell_at h 4 _ rfl, cell_at h 5 _ rfl, cell_at h 6 _ rfl⟩
theorem keep_heap {W W' : World} {g : Nat} {o : Obj} (h : Keep (fun _ => False) W W') (hg : W.heap[g]? = some o) : W'.heap[g]? = some o := (h.block g (blk_lt hg) id).trans hg
theorem C5.below {w W : World} {p R S : Int} {ad : Addr} {cap n c : Nat} (h : C5 w W p R S ad cap n c) : Below w.heap.size w W ∧ w.heap.size + 3 ≤ W.heap.size := by
 obtain ⟨l, h1, -⟩ := h
 exact ⟨h1.below, by have := blk_lt h1.box; omega⟩
theorem C5.frz {w W : World} {p R S : Int} {ad : Addr} {cap n c : Nat} (h : C5 w W p R S ad cap n c) {b : Nat} (hb : b < n) : W.frozen? (ad.add (b * 5)) = false := by
 obtain ⟨_, _, _, _, -, -, -, -, hf, -⟩ := h.put hb
 exact hf
theorem C5.res {w W : World} {p R S : Int} {ad : Addr} {cap n c : Nat} (h : C5 w W p R S ad cap n c) : W.heap[w.heap.size + 1]? = some (.cells #[.int .i64 0, .int .i64 0, .int .i64 0, .slice none 0 0] 54 (0, 0)) := by
 obtain ⟨l, h1, -⟩ := h
 exact h1.res
theorem C5.fin {w W W' : World} {p R S : Int} {ad : Addr} {cap n c : Nat} (h : C5 w W p R S ad cap n c) (hp : 0 ≤ p ∧ p ≤ 4) (hR : 3 ≤ R ∧ R ≤ 8) (hS : p ≤ S ∧ S ≤ 64) (hn : 1 ≤ n ∧ n ≤ 16) (hc : c ≤ 20) (hk : Keep (fun i => i = w.heap.size + 1) W W') :
 ∃ bs : List Blk, bs.length = n ∧ kBlk.R 84 W' w.heap.size (fun _ => True) (.slice (some ad) n cap) bs ∧ codeErr (p, R, S, bs) = 0 ∧ (∀ b ∈ bs, BlkR b ∧ b.1.length ≤ 28) ∧ Below w.heap.size w W' := by
 obtain ⟨l, h1, h2⟩ := h
 have hcc := cod_code hp hR hS h1.len hn (fun b hb => ⟨by have := (h2 b hb).1; omega, (h2 b hb).2⟩)
 refine ⟨l, h1.len, ?_, hcc.1, fun b hb => ⟨hcc.2 b hb, by have := (h2 b hb).1; omega⟩, h1.below.trans (hk.below h1.below.size (fun i hi e => by have e : i = w.heap.size + 1 := e; omega))⟩
 exact Kd.R_mono (Kd.R_lower (Kd.R_step (Kd.R_mono (Kd.R_bound h1.rows) (ok' := fun k => w.heap.size + 3 ≤ k) (fun k hk => hk.2.1)) (fun k hk' hl => hk.block k hl (fun e => by have e : k = w.heap.size + 1 := e; omega))) (by omega)) (fun _ _ => trivial)
theorem keep_old {N : Nat} {W W' : World} (h : Keep (fun i => N ≤ i) W W') (hN : W.heap.size ≤ N) : Keep (fun _ => False) W W' := ⟨h.os, h.tape, h.output, h.size, fun k hk _ => h.block k hk (by omega)⟩
theorem keep_new {N : Nat} {W W' : World} (h : Keep (fun _ => False) W W') : Keep (fun i => N ≤ i) W W' := h.mono (fun _ _ h => h.elim)
theorem reads_grown {α : Type} {d : Kd α} {w w' : World} {base N : Nat} {A : Option Addr} {n : Nat} {xs : List α} {v : Value} (h : ReadsRow (d.M w base (fun k => k < N)) d.sz w A n xs) (hv : From N v) (hA : ∀ a, A = some a → some a.block ≠ v.ownBlock) (hg : w.grownBy w' v.ownBlock) : ReadsRow (d.M w' base (fun k => k < N)) d.sz w' A n xs := by
 obtain ⟨h1, h2, h3⟩ := h
 refine ⟨h1, h2, fun hp => ?_⟩
 obtain ⟨ad, e, hc⟩ := h3 hp
 refine ⟨ad, e, fun j p hj => ?_⟩
 obtain ⟨c, g1, g2, g3⟩ := hc j p hj
 refine ⟨c, g1, Kd.M_step g2 (fun k hk hl => hg.block k hl (hv.ne k hk)), fun i u hu => ?_⟩
 have h0 := g3 i u hu
 rw [← h0]
 refine World.cell?_of_block ?_
 rw [B.add_block]
 refine hg.block _ ?_ (hA ad e)
 have := World.block_lt_of_cell? w _ h0
 rwa [B.add_block] at this
theorem rest_of {y : Int} {n : Nat} (hy : 0 ≤ y ∧ y < 256) (hn : 1 ≤ n) : ∃ k : Nat, k < n ∧ y.tmod (n : Int) = (k : Int) ∧ y % (n : Int) = (k : Int) ∧ ((n : Int) = 0) = False ∧ (n = 0) = False := by
 refine ⟨(y % (n : Int)).toNat, ?_, ?_, ?_, ?_, ?_⟩
 · have := Int.emod_lt_of_pos y (show (0 : Int) < n by omega)
   have := Int.emod_nonneg y (show (n : Int) ≠ 0 by omega)
   omega
 · rw [Int.tmod_eq_emod_of_nonneg hy.1]
   have := Int.emod_nonneg y (show (n : Int) ≠ 0 by omega)
   omega
 · have := Int.emod_nonneg y (show (n : Int) ≠ 0 by omega)
   omega
 · simp; omega
 · simp; omega
theorem rest_ofI {y R : Int} (hy : 0 ≤ y ∧ y < 256) (hR : 1 ≤ R) : ∃ k : Int, (0 ≤ k ∧ k < R) ∧ y.tmod R = k ∧ y % R = k ∧ (R = 0) = False := by
 refine ⟨y % R, ⟨Int.emod_nonneg y (by omega), Int.emod_lt_of_pos y (by omega)⟩, Int.tmod_eq_emod_of_nonneg hy.1, rfl, ?_⟩
 simp; omega
end Go.Proofs.Ytnckonglodmfeaa.Ik
namespace Go.Proofs.Ytnckonglodmfeaa.Ik
open Go.RowKit Go.Proofs.YtnckonglodmfeaaW.PrintWords Go.Proofs.YtnckonglodmfeaaW.PrintLast Go.Proofs.YtnckonglodmfeaaW.PrintMore B R S Is
theorem emod_less {R u : Int} (h0 : 0 ≤ u) (hR : 3 ≤ R) (hR8 : R ≤ 8) : Less R u (u % R) := by
 rw [← Int.tmod_eq_emod_of_nonneg h0]
 exact tmod_less h0 hR hR8
set_option maxHeartbeats 1000000 in
set_option maxRecDepth 100000 in
theorem at_calls (n R : Int) (gc : Nat) (w : World) (h0 : 0 ≤ n) (hn : I64 n) (h1 : 3 ≤ R) (h2 : R ≤ 8) (hc : w.cell? ⟨gc, 1, none⟩ = some (.int .i64 R)) :
 Calls Try.prog 55 #[.int .i64 n, .pointer (some ⟨gc, 0, none⟩)] w fun e w' => (∃ x, e = .returned (.int .i64 x) ∧ Less R n x) ∧ w' = w := by
 obtain ⟨hn0, hn1⟩ := hn
 have h3 : ¬ R = 0 := by omega
 have h4 : ¬ R = -1 := by omega
 have h5 : (R == 0) = false := beq_eq_false_iff_ne.mpr h3
 have HL1 := aM (tmod_less h0 h1 h2)
 have HL2 := aM (emod_less h0 h1 h2)
 go_enter Try.func55, Try.ntmps55
 go_wp2
 go_ret
 first
  | exact ⟨⟨_, rfl, HL1.out⟩, rfl⟩
  | exact ⟨⟨_, rfl, HL2.out⟩, rfl⟩
end Go.Proofs.Ytnckonglodmfeaa.Ik
