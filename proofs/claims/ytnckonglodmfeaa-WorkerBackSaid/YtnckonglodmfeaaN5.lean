/- Contracts and plain facts that the statements' proofs use (part 5). -/
import Derived.Test.YtnckonglodmfeaaN2
import Derived.Test.YtnckonglodmfeaaN3
import Derived.Test.YtnckonglodmfeaaN4
import Derived.Handy
set_option linter.unusedVariables false
set_option linter.unusedSimpArgs false
namespace Go.Proofs.Ytnckonglodmfeaa.Ik
open Ls Go.RowKit Go.Proofs.YtnckonglodmfeaaW.PrintWords Go.Proofs.YtnckonglodmfeaaW.PrintLast Go.Proofs.YtnckonglodmfeaaW.PrintMore B R S Is Js
def Rq (w : World) (g b : Nat) (s : St) : Prop := Rdr 107 w g b s.1 s.2 ∧ By s.1 ∧ b < w.heap.size
theorem Rq.keep {w w' : World} {g b : Nat} {s : St} {S : Nat → Prop} (h : Rq w g b s) (hk : Keep S w w') (hg : ¬ S g) (hb : ¬ S b) : Rq w' g b s := ⟨h.1.keep hk hg hb h.2.2, h.2.1, Nat.lt_of_lt_of_le h.2.2 hk.size⟩
theorem Rq.below {w w' : World} {g b : Nat} {s : St} (h : Rq w g b s) (hk : Below w.heap.size w w') : Rq w' g b s := h.keep (S := fun _ => False) (Keep.of_below hk) id id
theorem Rq.code {w : World} {g b : Nat} {s : St} (h : Rq w g b s) : w.cell? ⟨g, 1, none⟩ = some (.int .i64 s.2) := h.1.code.1
structure QS (T : Nat) (wo W : World) (g b gb : Nat) (s : St) (F : Array Value) : Prop where
 rd : Rq W g b s
 bx : W.heap[gb]? = some (.cells F T (0, 0))
 keep : Keep (· = g) wo W
 base : wo.heap.size ≤ gb
 hg : g < wo.heap.size
 hb : b < wo.heap.size
section
variable {T : Nat} {wo W W' : World} {g b gb : Nat} {s s' : St} {F : Array Value}
theorem QS.move (h : QS T wo W g b gb s F) (hk : Keep (fun i => i = g ∨ gb < i) W W') (hr : Rq W' g b s') : QS T wo W' g b gb s' F := by
 have h1 := h.hg
 have h2 := h.base
 exact ⟨hr, (hk.block gb (blk_lt h.bx) (fun e => by omega)).trans h.bx, h.keep.then hk (fun i hi e => by omega), h2, h1, h.hb⟩
theorem QS.step (h : QS T wo W g b gb s F) (hk : Keep (· = g) W W') (hr : Rq W' g b s') : QS T wo W' g b gb s' F := h.move (hk.mono (fun i _ e => .inl e)) hr
theorem QS.set (h : QS T wo W g b gb s F) (j : Nat) (x : Value) : QS T wo (W.setCell ⟨gb, j, none⟩ x) g b gb s (F.setIfInBounds j x) := by
 have h1 := h.hg
 have h2 := h.base
 have h3 := h.hb
 have hk : Keep (· = gb) W (W.setCell ⟨gb, j, none⟩ x) := (Keep.refl _ _).setCell ⟨gb, j, none⟩ x (fun _ => rfl)
 exact ⟨h.rd.keep hk (by omega) (by omega), heap_setCell_same W gb j F _ _ h.bx, h.keep.setCell _ _ (fun hh => by have hh : gb < wo.heap.size := hh; omega), h2, h1, h3⟩
theorem QS.drew (h : QS T wo W g b gb s F) : QS T wo W.drew g b gb s F := ⟨⟨h.rd.1, h.rd.2⟩, h.bx, h.keep.drew, h.base, h.hg, h.hb⟩
theorem QS.cell (h : QS T wo W g b gb s F) (j : Nat) (x : Value) (hx : F[j]? = some x) : W.cell? ⟨gb, j, none⟩ = some x ∧ W.frozen? ⟨gb, j, none⟩ = false := ⟨cell_at h.bx j x hx, blk_frozen h.bx j⟩
end
structure QB (wo W : World) (g b gb : Nat) (s : St) (F : Array Value) (vv : Value) (is : List Ins) : Prop where
 q : QS 84 wo W g b gb s F
 row : kIns.R 92 W (gb + 1) (fun k => gb < k) vv is
section
variable {wo W W' : World} {g b gb : Nat} {s s' : St} {F : Array Value} {vv : Value} {is : List Ins}
theorem QB.step (h : QB wo W g b gb s F vv is) (hk : Keep (· = g) W W') (hr : Rq W' g b s') : QB wo W' g b gb s' F vv is :=
 ⟨h.q.step hk hr, Kd.R_step h.row (fun k hk' hl => hk.block k hl (fun e => by have e : k = g := e; have := h.q.hg; have := h.q.base; omega))⟩
theorem QB.set (h : QB wo W g b gb s F vv is) (j : Nat) (x : Value) : QB wo (W.setCell ⟨gb, j, none⟩ x) g b gb s (F.setIfInBounds j x) vv is :=
 ⟨h.q.set j x, Kd.R_step h.row (fun k hk hl => Below.heap_setCell _ _ _ _ (show k ≠ gb by omega))⟩
theorem QB.cells {x0 x1 x2 x3 x4 : Value} (h : QB wo W g b gb s F vv is) (hF : F = #[x0, x1, x2, x3, x4]) :
 W.cell? ⟨gb, 0, none⟩ = some x0 ∧ W.cell? ⟨gb, 1, none⟩ = some x1 ∧ W.cell? ⟨gb, 2, none⟩ = some x2 ∧ W.cell? ⟨gb, 3, none⟩ = some x3 ∧ W.cell? ⟨gb, 4, none⟩ = some x4 ∧ W.frozen? ⟨gb, 1, none⟩ = false ∧ W.frozen? ⟨gb, 2, none⟩ = false ∧ W.frozen? ⟨gb, 3, none⟩ = false ∧ W.frozen? ⟨gb, 4, none⟩ = false ∧ W.cell? ⟨g, 1, none⟩ = some (.int .i64 s.2) ∧ ∀ j x, (W.setCell ⟨gb, j, none⟩ x).cell? ⟨g, 1, none⟩ = some (.int .i64 s.2) := by
 subst hF
 exact ⟨cell_at h.q.bx 0 _ rfl, cell_at h.q.bx 1 _ rfl, cell_at h.q.bx 2 _ rfl, cell_at h.q.bx 3 _ rfl, cell_at h.q.bx 4 _ rfl, blk_frozen h.q.bx 1, blk_frozen h.q.bx 2, blk_frozen h.q.bx 3, blk_frozen h.q.bx 4, h.q.rd.code, fun j x => (h.set j x).q.rd.code⟩
end
end Go.Proofs.Ytnckonglodmfeaa.Ik
namespace Go.Proofs.Ytnckonglodmfeaa.Ik
open Ls Go.RowKit Go.Proofs.YtnckonglodmfeaaW.PrintWords Go.Proofs.YtnckonglodmfeaaW.PrintLast Go.Proofs.YtnckonglodmfeaaW.PrintMore B R S Is Js
def Rb (w : World) (v : Value) (l : List Int) : Prop := ∃ (A : Option Addr) (c : Nat), v = .slice A l.length c ∧ l.length ≤ c ∧ kU8.C w A l.length l
theorem Rb.below {w w' : World} {v : Value} {l : List Int} (h : Rb w v l) (hb : Below w.heap.size w w') : Rb w' v l := by
 obtain ⟨A, c, h1, h2, h3⟩ := h
 exact ⟨A, c, h1, h2, Kd.C_below h3 hb⟩
end Go.Proofs.Ytnckonglodmfeaa.Ik
namespace Go.Proofs.Ytnckonglodmfeaa.Ik
open Ls Lc Go.RowKit Go.Proofs.YtnckonglodmfeaaW.PrintWords Go.Proofs.YtnckonglodmfeaaW.PrintLast Go.Proofs.YtnckonglodmfeaaW.PrintMore B R S Is
theorem fault_field (W : World) (e x y : Int) : Sem.run Try.prog (Instr.field 75 (.agg #[.int .i64 e, .int .i64 x, .int .i64 y]) 0) W = .ok (.int .i64 e) W := by
 simp [Instr.field, asAgg, go_sem]
theorem firstN_zero {l : List Int} (h : firstN l = 0) : ∀ x ∈ l, x = 0 := by
 induction l with
 | nil => intro x hx; cases hx
 | cons y l ih =>
  rw [firstN] at h
  by_cases hy : y = 0
  · rw [if_pos hy] at h
    intro x hx
    rcases List.mem_cons.1 hx with rfl | hx
    · exact hy
    · exact ih h x hx
  · rw [if_neg hy] at h
    exact absurd h hy
theorem ins_args {m s : Int} {i : Ins} (h : insErr m s i = 0) : i.2.2.2.2.2.2.length ≤ 3 := by
 refine Nat.le_of_not_lt (fun h3 => ?_)
 have h20 : ∀ (c : Prop) [Decidable c], (if c then (20 : Int) else 25) ≠ 0 := fun c _ => by split <;> decide
 unfold insErr at h
 rw [if_pos h3] at h
 exact h20 _ h
theorem blks_ok {m s : Int} {most : Nat} {l : List Blk} (hm : most ≤ 400) (h : blocksErr m s most l = 0) (hR : ∀ b ∈ l, BlkR b) : ∀ b ∈ l, OkB b := by
 intro b hb
 have h1 := firstN_zero h _ (List.mem_map_of_mem hb)
 unfold blkErr at h1
 split at h1
 · cases h1
 · refine ⟨by omega, (hR b hb).2, fun i hi => ⟨(hR b hb).1 i hi, ?_⟩⟩
   exact ins_args (m := m) (s := s) (firstN_zero h1 _ (List.mem_append_left _ (List.mem_map_of_mem hi)))
theorem fun_ok {p v : Int} {l : List Blk} (h : funcErr (p, v, l) = 0) (hR : ∀ b ∈ l, BlkR b) : l.length ≤ 16 ∧ ∀ b ∈ l, OkB b := by
 unfold funcErr at h
 split at h
 · cases h
 · rename_i h1
   simp only [not_or, Nat.not_lt] at h1
   exact ⟨h1.2.2.2.2.2, blks_ok (by decide) h hR⟩
def BytesOr (E : Int) (bad : Int) (l : List Int) (w' : World) (r : Ending) : Prop :=
 (E ≠ 0 → r = .returned (.tuple #[.slice none 0 0, .int .i64 bad])) ∧ (E = 0 → ∃ (A : Option Addr) (c : Nat), r = .returned (.tuple #[.slice A l.length c, .int .i64 0]) ∧ l.length ≤ c ∧ kU8.C w' A l.length l)
set_option maxHeartbeats 4000000 in
set_option maxRecDepth 100000 in
theorem wfunc_calls (p v : Int) (l : List Blk) (A : Option Addr) (c : Nat) (w : World) (hC : kBlk.C w A l.length l) (hR : ∀ b ∈ l, BlkR b) (hll : l.length ≤ 100000) :
 Calls Try.prog 37 #[.agg #[.int .i64 p, .int .i64 v, .slice A l.length c]] w fun r w' => BytesOr (funcErr (p, v, l)) 30 (funcL (p, v, l)) w' r ∧ Below w.heap.size w w' := by
 have mixed : Try.prog.follows .mixedOrders = true := by kernel_rfl
 have HC := aM hC
 have hff := fault_field
 have HOK := aM (fun h => fun_ok (p := p) (v := v) h hR)
 obtain ⟨E, hE⟩ : ∃ E, funcErr (p, v, l) = E := ⟨_, rfl⟩
 rw [hE] at HOK ⊢
 have HE := aM hE
 have HA := aM (show Below w.heap.size w (w.alloc (.cells #[.int .i64 p, .int .i64 v, .slice A l.length c] 25)) from (Below.refl _ _).alloc (Nat.le_refl _) _)
 have HSZ := aM (World.size_alloc w (.cells #[.int .i64 p, .int .i64 v, .slice A l.length c] 25))
 have HX := aM (show ∀ W', Below (w.heap.size + 1) (w.alloc (.cells #[.int .i64 p, .int .i64 v, .slice A l.length c] 25)) W' → W'.cell? ⟨w.heap.size, 0, none⟩ = some (.int .i64 p) ∧ W'.cell? ⟨w.heap.size, 1, none⟩ = some (.int .i64 v) ∧ W'.cell? ⟨w.heap.size, 2, none⟩ = some (.slice A l.length c) from fun W' h => by
  have g := below_cells (h.mono (by rw [World.size_alloc]; omega))
  exact ⟨cell_at g 0 _ rfl, cell_at g 1 _ rfl, cell_at g 2 _ rfl⟩)
 clear hC hR hE
 by_cases hE0 : E = 0
 · subst hE0
   have hl16 := (HOK.out rfl).1
   have HOKB := aM (HOK.out rfl).2
   go_enter Try.func37, Try.ntmps37
   go_upto_region 4 with (first | (go_at_call 85; refine (check_calls p v l A c _ (Kd.C_below HC.out HA.out) hll).mono ?_; rintro _ w1 ⟨⟨x1, y1, rfl⟩, hb⟩; rw [HE.out]; have HZ1 := aM (hb.mono (by rw [HSZ.out]; exact Nat.le_refl _)); obtain ⟨f0, f1, f2⟩ := HX.out w1 HZ1.out; clear hb))
   obtain ⟨WV, hWV⟩ : ∃ WV, WV = w1.alloc (.cells #[.slice none 0 0] 157) := ⟨_, rfl⟩
   rw [← hWV]
   have HG := aM (show w.heap.size + 1 ≤ w1.heap.size by have := HZ1.out.size; rw [HSZ.out] at this; exact this)
   have HWV := aM (show Wtr WV w1.heap.size [] by rw [hWV]; exact ⟨none, 0, heap_alloc_new _ _, Nat.le_refl _, fun a e => (by cases e), C_nil .u8 _⟩)
   have HZV := aM (HZ1.out.trans (show Below (w.heap.size + 1) w1 WV by rw [hWV]; exact (Below.refl _ _).alloc HG.out _))
   have HSV := aM (show WV.heap.size = w1.heap.size + 1 by rw [hWV, World.size_alloc])
   clear hWV f0 f1 f2
   obtain ⟨f0, f1, f2⟩ := HX.out WV HZV.out
   go_wp2_with (first | (have HWc := HWV; clear HWV; go_at_call 86; refine (nums_lit w1.heap.size [] [p, v] 2 rfl WV _ HWc.out rfl (by simp)).mono ?_; rintro _ w2 ⟨rfl, m1, hm, hml1, hw, hk⟩; have HE_1 := aM hm; have HZ2 := aM (Keep.below_then HZV.out hk (by rw [HSV.out]; have := HG.out; omega) (fun i hi e => by have e : i = w1.heap.size := e; have := HG.out; omega)); clear f0 f1 f2; obtain ⟨f0, f1, f2⟩ := HX.out w2 HZ2.out; have HW2 := aM hw; clear hm hw hk HWc) | (go_at_call 87; refine (wblocks_calls w1.heap.size m1 l A c w w2 HC.out (HA.out.trans (HZ2.out.mono (by omega))) (by have := HG.out; omega) HW2.out (by simp at hml1; omega) hl16 HOKB.out).mono ?_; rintro _ w3 ⟨rfl, hw, hk⟩; have HZ3 := aM (Keep.below_then HZ2.out hk (by have := HZ2.out.size; rw [HSZ.out] at this; exact this) (fun i hi e => by have e : i = w1.heap.size := e; have := HG.out; omega)); obtain ⟨m2, hm2⟩ : ∃ m2, m2 = m1 ++ blksL l := ⟨_, rfl⟩; rw [← hm2] at hw; have HM2 := aM hm2; obtain ⟨A9, c9, hh9, hlc9, -, hC9⟩ := hw; have hc9 := cell_at hh9 0 _ rfl; have HC9 := aM hC9; clear hk hm2 hh9 hC9 f0 f1 f2))
   go_returns
   refine ⟨⟨fun h => absurd rfl h, fun _ => ?_⟩, HA.out.trans (HZ3.out.mono (by omega))⟩
   have hm : m2 = funcL (p, v, l) := by rw [HM2.out, HE_1.out]; simp [funcL, fieldsL]
   subst hm
   exact ⟨_, _, rfl, hlc9, HC9.out⟩
 · have hEb : (E == 0) = false := beq_eq_false_iff_ne.mpr hE0
   have HEN := aM hE0
   clear hE0
   go_enter Try.func37, Try.ntmps37
   go_wp2_with (first | (go_at_call 85; refine (check_calls p v l A c _ (Kd.C_below HC.out HA.out) hll).mono ?_; rintro _ w1 ⟨⟨x1, y1, rfl⟩, hb⟩; rw [HE.out]; have HZ1 := aM (hb.mono (by rw [HSZ.out]; exact Nat.le_refl _)); obtain ⟨f0, f1, f2⟩ := HX.out w1 HZ1.out; clear hb))
   go_returns
   exact ⟨⟨fun _ => rfl, fun h => absurd h HEN.out⟩, HA.out.trans (HZ1.out.mono (by omega))⟩
end Go.Proofs.Ytnckonglodmfeaa.Ik
namespace Go.Proofs.Ytnckonglodmfeaa.Ik
open Ls Go.RowKit Go.Proofs.YtnckonglodmfeaaW.PrintWords Go.Proofs.YtnckonglodmfeaaW.PrintLast Go.Proofs.YtnckonglodmfeaaW.PrintMore B R S Is Js
def OkK (b : Blk) : Prop := OkB b ∧ (1 ≤ b.2.1 ∧ b.2.1 ≤ 3) ∧ ∀ i ∈ b.1, 1 ≤ i.1 ∧ i.1 ≤ 8
end Go.Proofs.Ytnckonglodmfeaa.Ik
namespace Go.Proofs.Ytnckonglodmfeaa.Ik
open Ls Go.RowKit Go.Proofs.YtnckonglodmfeaaW.PrintWords Go.Proofs.YtnckonglodmfeaaW.PrintLast Go.Proofs.YtnckonglodmfeaaW.PrintMore B R S Is Js
theorem ins_kind {v t : Int} {i : Ins} (h : insErr v t i = 0) : 1 ≤ i.1 ∧ i.1 ≤ 8 := by
 unfold insErr at h
 have hm : (if t < 0 then (6 : Int) else 8) ≤ 8 := by split <;> decide
 by_cases hb : i.1 < 1 ∨ (if t < 0 then (6 : Int) else 8) < i.1 ∨ plainB i = false ∨ (i.1 = 3 ∧ (i.2.1 < 1 ∨ 7 < i.2.1))
 · rw [if_pos hb] at h; cases h
 · simp only [not_or] at hb
   omega
theorem end_kind {v m x : Int} {e : IEnd} (h : endErr v m x e = 0) : 1 ≤ e.1 ∧ e.1 ≤ 3 := by
 obtain ⟨k, a, t, e⟩ := e
 unfold endErr at h
 simp only at h ⊢
 by_cases hb : k < 1 ∨ 3 < k ∨ (k = 1 ∧ (a ≠ 0 ∨ e ≠ 0)) ∨ (k = 3 ∧ (t ≠ 0 ∨ e ≠ 0))
 · rw [if_pos hb] at h; cases h
 · omega
theorem blks_okk {m s : Int} {most : Nat} {l : List Blk} (hm : most ≤ 400) (h : blocksErr m s most l = 0) (hR : ∀ b ∈ l, BlkR b) : ∀ b ∈ l, OkK b := by
 intro b hb
 have h0 := blks_ok hm h hR b hb
 have h1 := firstN_zero h _ (List.mem_map_of_mem hb)
 unfold blkErr at h1
 split at h1
 · cases h1
 · exact ⟨h0, end_kind (firstN_zero h1 _ (List.mem_append_right _ List.mem_cons_self)), fun i hi => ins_kind (firstN_zero h1 _ (List.mem_append_left _ (List.mem_map_of_mem hi)))⟩
theorem fun_okk {p v : Int} {l : List Blk} (h : funcErr (p, v, l) = 0) (hR : ∀ b ∈ l, BlkR b) : l.length ≤ 16 ∧ ∀ b ∈ l, OkK b := by
 unfold funcErr at h
 split at h
 · cases h
 · rename_i h1
   simp only [not_or, Nat.not_lt] at h1
   exact ⟨h1.2.2.2.2.2, blks_okk (by decide) h hR⟩
end Go.Proofs.Ytnckonglodmfeaa.Ik
namespace Go.Proofs.Ytnckonglodmfeaa.Ik
open B Ls Is Js Gs
abbrev Ask := Int × Int × Int × Fun
def zeroAsk : Ask := (0, 0, 0, (0, 0, []))
def openL (kind : Int) (b : List Int) : List Int × Int :=
 if (takeL b).2.2.2 ≠ 0 then ([], (takeL b).2.2.2) else if (takeL b).2.2.1 ≠ b.length then ([], 5) else if (takeL b).1 ≠ kind then ([], 20) else ((takeL b).2.1, 0)
def sHead (s : St) : (Int × Int × Int) × St :=
 match sBelow 16 s with
 | (j, s1) => match num s1.1 s1.2 with
  | (n, s2) => match sBelow 9 s2 with
   | (r, s3) => ((j, n, r), s3)
def readAsk (b : List Int) : Ask × Int :=
 if (openL 2 b).2 ≠ 0 then (zeroAsk, (openL 2 b).2)
 else if (sHead ((openL 2 b).1, 0)).2.2 ≠ 0 then (zeroAsk, (sHead ((openL 2 b).1, 0)).2.2)
 else if (sFun (sHead ((openL 2 b).1, 0)).2.1).2 ≠ 0 then (zeroAsk, (sFun (sHead ((openL 2 b).1, 0)).2.1).2)
 else (((sHead ((openL 2 b).1, 0)).1.1, (sHead ((openL 2 b).1, 0)).1.2.1, (sHead ((openL 2 b).1, 0)).1.2.2, (sFun (sHead ((openL 2 b).1, 0)).2.1).1), 0)
def askErr (a : Ask) : Int := if funcErr a.2.2.2 ≠ 0 then 30 else if a.1 < 0 ∨ 16 ≤ a.1 ∨ a.2.2.1 < 0 ∨ 8 < a.2.2.1 then 2 else 0
def askB (a : Ask) : List Int := fieldL a.1 ++ (putl a.2.1.toNat ++ (fieldL a.2.2.1 ++ funcL a.2.2.2))
def askL (a : Ask) : List Int := layL 2 (askB a)
theorem wblk_len (b : Blk) (h : OkB b) (h32 : b.1.length ≤ 32) : (blkL b).length ≤ 3250 := by
 have h1 := insl_len b.1 h.2.2
 have h2 := end_len b.2
 have h3 := field_len b.1.length
 simp only [blkL, List.length_append]
 omega
theorem flat_len {α : Type} (f : α → List Int) (m : Nat) (l : List α) (h : ∀ x ∈ l, (f x).length ≤ m) : ((l.map f).flatten).length ≤ m * l.length := by
 induction l with
 | nil => simp
 | cons x l ih =>
  rw [List.map_cons, List.flatten_cons, List.length_append, List.length_cons, Nat.mul_succ]
  have h1 := h x (by simp)
  have h2 := ih (fun y hy => h y (by simp [hy]))
  omega
theorem func_len (p v : Int) (l : List Blk) (h0 : funcErr (p, v, l) = 0) (hR : ∀ b ∈ l, BlkR b) : (funcL (p, v, l)).length ≤ 60000 := by
 obtain ⟨h16, hok⟩ := fun_okk h0 hR
 have h32 : ∀ b ∈ l, b.1.length ≤ 32 := fun b hb => by
  unfold funcErr at h0
  split at h0
  · cases h0
  · have h1 := firstN_zero h0 _ (List.mem_map_of_mem hb)
    unfold blkErr at h1
    split at h1
    · cases h1
    · rename_i h2
      exact Nat.le_of_not_lt h2
 have h1 := flat_len blkL 3250 l (fun b hb => wblk_len b (hok b hb).1 (h32 b hb))
 have h2 := field_len l.length
 have h3 := fields_len [p, v]
 simp only [funcL, blksL, List.length_append, List.length_cons, List.length_nil] at *
 omega
theorem field_by' (x : Int) : By (fieldL x) := putl_by _
theorem fields_byL (l : List Int) : By (fieldsL l) := by
 intro x hx
 simp only [fieldsL, List.mem_flatten, List.mem_map] at hx
 obtain ⟨m, ⟨y, _, rfl⟩, hx⟩ := hx
 exact field_by' y x hx
theorem ins_byL (i : Ins) : By (insL i) := by
 obtain ⟨k, op, d, a, b, n, args⟩ := i
 unfold insL
 refine By.append (field_by' _) ?_
 repeat' split
 · exact By.append (field_by' _) (putl_by _)
 · exact fields_byL _
 · exact fields_byL _
 · exact fields_byL _
 · exact By.append (field_by' _) (By.append (putl_by _) (By.append (field_by' _) (fields_byL _)))
 · intro x hx; cases hx
theorem end_byL (e : IEnd) : By (endL e) := by
 obtain ⟨k, a, t, e⟩ := e
 unfold endL
 refine By.append (field_by' _) ?_
 repeat' split
 all_goals exact fields_byL _
theorem flat_by {α : Type} (f : α → List Int) (l : List α) (h : ∀ x, By (f x)) : By ((l.map f).flatten) := by
 intro x hx
 simp only [List.mem_flatten, List.mem_map] at hx
 obtain ⟨m, ⟨y, _, rfl⟩, hx⟩ := hx
 exact h y x hx
theorem blk_byL (b : Blk) : By (blkL b) := By.append (field_by' _) (By.append (flat_by _ _ ins_byL) (end_byL _))
theorem blks_byL (l : List Blk) : By (blksL l) := By.append (field_by' _) (flat_by _ _ blk_byL)
theorem func_byL (f : Fun) : By (funcL f) := By.append (fields_byL _) (blks_byL _)
theorem ask_byB (a : Ask) : By (askB a) := By.append (field_by' _) (By.append (putl_by _) (By.append (field_by' _) (func_byL _)))
end Go.Proofs.Ytnckonglodmfeaa.Ik
namespace Go.Proofs.Ytnckonglodmfeaa.Ik
open Ls Lc Go.RowKit Go.Proofs.YtnckonglodmfeaaW.PrintWords Go.Proofs.YtnckonglodmfeaaW.PrintLast Go.Proofs.YtnckonglodmfeaaW.PrintMore B R S Is Js
def Rd (w : World) (g b : Nat) (s : St) : Prop := Rdr 170 w g b s.1 s.2 ∧ By s.1 ∧ b < w.heap.size
theorem Rd.keep {w w' : World} {g b : Nat} {s : St} {S : Nat → Prop} (h : Rd w g b s) (hk : Keep S w w') (hg : ¬ S g) (hb : ¬ S b) : Rd w' g b s := ⟨h.1.keep hk hg hb h.2.2, h.2.1, Nat.lt_of_lt_of_le h.2.2 hk.size⟩
theorem Rd.below {w w' : World} {g b : Nat} {s : St} (h : Rd w g b s) (hk : Below w.heap.size w w') : Rd w' g b s := h.keep (S := fun _ => False) (Keep.of_below hk) id id
theorem rd_below (g b : Nat) (s : St) (m : Int) (w : World) (h : Rd w g b s) (hm0 : -9223372036854775808 ≤ m) (hm1 : m ≤ 9223372036854775807) :
 Calls Try.prog 46 #[.pointer (some ⟨g, 0, none⟩), .int .i64 m] w fun e w' => e = .returned (.int .i64 (sBelow m s).1) ∧ Rd w' g b (sBelow m s).2 ∧ Keep (· = g) w w' ∧ w'.heap.size = w.heap.size := by
 refine (below_calls g b s.1 s.2 m w h.1 h.2.1 hm0 hm1).mono ?_
 rintro e w' ⟨h1, h2, h3, h4⟩
 exact ⟨h1, ⟨h2, sbelow_by h.2.1, by rw [h4]; exact h.2.2⟩, h3, h4⟩
theorem rd_int (g b : Nat) (s : St) (w : World) (h : Rd w g b s) :
 Calls Try.prog 146 #[.pointer (some ⟨g, 0, none⟩)] w fun e w' => e = .returned (.int .i64 (sInt s).1) ∧ Rd w' g b (sInt s).2 ∧ Keep (· = g) w w' ∧ w'.heap.size = w.heap.size := by
 refine (int_calls g b s.1 s.2 w h.1 h.2.1).mono ?_
 rintro e w' ⟨h1, h2, h3, h4⟩
 exact ⟨h1, ⟨h2, sint_by h.2.1, by rw [h4]; exact h.2.2⟩, h3, h4⟩
theorem rd_fail (g b : Nat) (s : St) (n : Int) (w : World) (h : Rd w g b s) :
 Calls Try.prog 94 #[.pointer (some ⟨g, 0, none⟩), .int .i64 n] w fun e w' => e = .returned (.tuple #[]) ∧ Rd w' g b (sFail n s) ∧ Keep (· = g) w w' ∧ w'.heap.size = w.heap.size := by
 refine (fail_calls g b s.1 s.2 n w h.1).mono ?_
 rintro e w' ⟨h1, h2, h3, h4⟩
 exact ⟨h1, ⟨h2, h.2.1, by rw [h4]; exact h.2.2⟩, h3, h4⟩
theorem rd_code (g b : Nat) (s : St) (w : World) (h : Rd w g b s) :
 Calls Try.prog 99 #[.pointer (some ⟨g, 0, none⟩)] w fun e w' => e = .returned (.int .i64 s.2) ∧ w = w' := code_calls g b s.1 s.2 w h.1
set_option maxRecDepth 100000 in
theorem insnum_calls (g b gr : Nat) (s : St) (w : World) (h : Rd w g b s) (hr : w.cell? ⟨gr, 0, none⟩ = some (.pointer (some ⟨g, 0, none⟩))) :
 Calls Try.prog 145 #[.pointer (some ⟨gr, 0, none⟩)] w fun e w' => e = .returned (.int .i64 (sBelow 4096 s).1) ∧ Rd w' g b (sBelow 4096 s).2 ∧ Keep (· = g) w w' ∧ w'.heap.size = w.heap.size := by
 have H := aM h
 clear h
 go_enter Try.func145, Try.ntmps145
 go_wp2_with (go_at_call 46; refine (rd_below g b s 4096 _ H.out (by decide) (by decide)).mono ?_; rintro _ w1 ⟨rfl, hd, hk, hs⟩; have HD := aM hd; have HK := aM hk; have HS := aM hs; clear hd hk hs)
 go_ret
 exact ⟨rfl, HD.out, HK.out, HS.out⟩
structure InsS (w0 W : World) (g b gr gb : Nat) (s : St) (F : Array Value) : Prop where
 rd : Rd W g b s
 r : W.heap[gr]? = some (.cells #[.pointer (some ⟨g, 0, none⟩)] 109 (0, 0))
 res : W.heap[gr + 1]? = some (.cells #[.int .u8 0, .int .u8 0, .int .i64 0, .int .i64 0, .int .i64 0, .int .i64 0, .slice none 0 0] 92 (0, 0))
 bx : W.heap[gb]? = some (.cells F 92 (0, 0))
 keep : Keep (· = g) w0 W
 base : w0.heap.size = gr
 hg : g < gr
 hb : b < gr
 hgb : gr + 2 ≤ gb
theorem InsS.step {w0 W W' : World} {g b gr gb : Nat} {s s' : St} {F : Array Value} (h : InsS w0 W g b gr gb s F) (hk : Keep (· = g) W W') (hr : Rd W' g b s') : InsS w0 W' g b gr gb s' F := by
 have h1 := h.hg
 have h2 := h.hb
 have h3 := h.hgb
 exact ⟨hr, (hk.block gr (blk_lt h.r) (fun e => by have e : gr = g := e; omega)).trans h.r, (hk.block _ (blk_lt h.res) (fun e => by have e : gr + 1 = g := e; omega)).trans h.res, (hk.block gb (blk_lt h.bx) (fun e => by have e : gb = g := e; omega)).trans h.bx, h.keep.trans hk, h.base, h1, h2, h3⟩
theorem InsS.set {w0 W : World} {g b gr gb : Nat} {s : St} {F : Array Value} (h : InsS w0 W g b gr gb s F) (j : Nat) (x : Value) : InsS w0 (W.setCell ⟨gb, j, none⟩ x) g b gr gb s (F.setIfInBounds j x) := by
 have h1 := h.hg
 have h2 := h.hb
 have h3 := h.hgb
 have hk : Keep (· = gb) W (W.setCell ⟨gb, j, none⟩ x) := (Keep.refl _ _).setCell ⟨gb, j, none⟩ x (fun _ => rfl)
 have ho : ∀ i, i ≠ gb → (W.setCell ⟨gb, j, none⟩ x).heap[i]? = W.heap[i]? := fun i hi => Below.heap_setCell _ _ _ _ hi
 exact ⟨h.rd.keep hk (by omega) (by omega), (ho gr (by omega)).trans h.r, (ho _ (by omega)).trans h.res, heap_setCell_same W gb j F _ _ h.bx, h.keep.setCell _ _ (fun hh => by have hh : gb < w0.heap.size := hh; rw [h.base] at hh; omega), h.base, h1, h2, h3⟩
theorem InsS.cell {w0 W : World} {g b gr gb : Nat} {s : St} {F : Array Value} (h : InsS w0 W g b gr gb s F) (j : Nat) (x : Value) (hx : F[j]? = some x) : W.cell? ⟨gb, j, none⟩ = some x ∧ W.frozen? ⟨gb, j, none⟩ = false := ⟨cell_at h.bx j x hx, blk_frozen h.bx j⟩
theorem InsS.ptr {w0 W : World} {g b gr gb : Nat} {s : St} {F : Array Value} (h : InsS w0 W g b gr gb s F) : W.cell? ⟨gr, 0, none⟩ = some (.pointer (some ⟨g, 0, none⟩)) := cell_at h.r 0 _ rfl
theorem InsS.ptrs {w0 W : World} {g b gr gb : Nat} {s : St} {F : Array Value} (h : InsS w0 W g b gr gb s F) : ∀ j x, (W.setCell ⟨gb, j, none⟩ x).cell? ⟨gr, 0, none⟩ = some (.pointer (some ⟨g, 0, none⟩)) := fun j x => (h.set j x).ptr
theorem ins_num {w0 W : World} {g b gr gb : Nat} {s : St} {F : Array Value} (h : InsS w0 W g b gr gb s F) :
 Calls Try.prog 145 #[.pointer (some ⟨gr, 0, none⟩)] W fun e w' => e = .returned (.int .i64 (sBelow 4096 s).1) ∧ InsS w0 w' g b gr gb (sBelow 4096 s).2 F := by
 refine (insnum_calls g b gr s W h.rd h.ptr).mono ?_
 rintro e w' ⟨h1, h2, h3, -⟩
 exact ⟨h1, h.step h3 h2⟩
theorem ins_below {w0 W : World} {g b gr gb : Nat} {s : St} {F : Array Value} (h : InsS w0 W g b gr gb s F) (m : Int) (hm0 : -9223372036854775808 ≤ m) (hm1 : m ≤ 9223372036854775807) :
 Calls Try.prog 46 #[.pointer (some ⟨g, 0, none⟩), .int .i64 m] W fun e w' => e = .returned (.int .i64 (sBelow m s).1) ∧ InsS w0 w' g b gr gb (sBelow m s).2 F := by
 refine (rd_below g b s m W h.rd hm0 hm1).mono ?_
 rintro e w' ⟨h1, h2, h3, -⟩
 exact ⟨h1, h.step h3 h2⟩
theorem ins_int {w0 W : World} {g b gr gb : Nat} {s : St} {F : Array Value} (h : InsS w0 W g b gr gb s F) :
 Calls Try.prog 146 #[.pointer (some ⟨g, 0, none⟩)] W fun e w' => e = .returned (.int .i64 (sInt s).1) ∧ InsS w0 w' g b gr gb (sInt s).2 F := by
 refine (rd_int g b s W h.rd).mono ?_
 rintro e w' ⟨h1, h2, h3, -⟩
 exact ⟨h1, h.step h3 h2⟩
theorem ins_fail {w0 W : World} {g b gr gb : Nat} {s : St} {F : Array Value} (h : InsS w0 W g b gr gb s F) (n : Int) :
 Calls Try.prog 94 #[.pointer (some ⟨g, 0, none⟩), .int .i64 n] W fun e w' => e = .returned (.tuple #[]) ∧ InsS w0 w' g b gr gb (sFail n s) F := by
 refine (rd_fail g b s n W h.rd).mono ?_
 rintro e w' ⟨h1, h2, h3, -⟩
 exact ⟨h1, h.step h3 h2⟩
theorem InsS.rest {w0 W : World} {g b gr gb : Nat} {s : St} {F : Array Value} (h : InsS w0 W g b gr gb s F) : (W.cell? ⟨gr + 1, 0, none⟩ = some (.int .u8 0) ∧ W.cell? ⟨gr + 1, 1, none⟩ = some (.int .u8 0) ∧ W.cell? ⟨gr + 1, 2, none⟩ = some (.int .i64 0) ∧ W.cell? ⟨gr + 1, 3, none⟩ = some (.int .i64 0) ∧ W.cell? ⟨gr + 1, 4, none⟩ = some (.int .i64 0) ∧ W.cell? ⟨gr + 1, 5, none⟩ = some (.int .i64 0) ∧ W.cell? ⟨gr + 1, 6, none⟩ = some (.slice none 0 0)) ∧
 W.frozen? ⟨gr + 1, 0, none⟩ = false ∧ W.frozen? ⟨gr + 1, 1, none⟩ = false ∧ W.frozen? ⟨gr + 1, 2, none⟩ = false ∧ W.frozen? ⟨gr + 1, 3, none⟩ = false ∧ W.frozen? ⟨gr + 1, 4, none⟩ = false ∧ W.frozen? ⟨gr + 1, 5, none⟩ = false ∧ W.frozen? ⟨gr + 1, 6, none⟩ = false :=
 ⟨⟨cell_at h.res 0 _ rfl, cell_at h.res 1 _ rfl, cell_at h.res 2 _ rfl, cell_at h.res 3 _ rfl, cell_at h.res 4 _ rfl, cell_at h.res 5 _ rfl, cell_at h.res 6 _ rfl⟩, blk_frozen h.res 0, blk_frozen h.res 1, blk_frozen h.res 2, blk_frozen h.res 3, blk_frozen h.res 4, blk_frozen h.res 5, blk_frozen h.res 6⟩
theorem put7 {W : World} {g e : Nat} {u0 u1 u2 u3 u4 u5 u6 : Value} (h : W.heap[g]? = some (.cells #[u0, u1, u2, u3, u4, u5, u6] e (0, 0))) (x0 x1 x2 x3 x4 x5 x6 : Value) :
 (((((((W.setCell ⟨g, 0, none⟩ x0).setCell ⟨g, 1, none⟩ x1).setCell ⟨g, 2, none⟩ x2).setCell ⟨g, 3, none⟩ x3).setCell ⟨g, 4, none⟩ x4).setCell ⟨g, 5, none⟩ x5).setCell ⟨g, 6, none⟩ x6).heap[g]? = some (.cells #[x0, x1, x2, x3, x4, x5, x6] e (0, 0)) := by
 have a0 := blk_put h 0 x0 (show _ = #[x0, u1, u2, u3, u4, u5, u6] from rfl)
 have a1 := blk_put a0 1 x1 (show _ = #[x0, x1, u2, u3, u4, u5, u6] from rfl)
 have a2 := blk_put a1 2 x2 (show _ = #[x0, x1, x2, u3, u4, u5, u6] from rfl)
 have a3 := blk_put a2 3 x3 (show _ = #[x0, x1, x2, x3, u4, u5, u6] from rfl)
 have a4 := blk_put a3 4 x4 (show _ = #[x0, x1, x2, x3, x4, u5, u6] from rfl)
 have a5 := blk_put a4 5 x5 (show _ = #[x0, x1, x2, x3, x4, x5, u6] from rfl)
 exact blk_put a5 6 x6 rfl
theorem put7_far {W : World} {g : Nat} (x0 x1 x2 x3 x4 x5 x6 : Value) : Keep (· = g) W (((((((W.setCell ⟨g, 0, none⟩ x0).setCell ⟨g, 1, none⟩ x1).setCell ⟨g, 2, none⟩ x2).setCell ⟨g, 3, none⟩ x3).setCell ⟨g, 4, none⟩ x4).setCell ⟨g, 5, none⟩ x5).setCell ⟨g, 6, none⟩ x6) := by
 have a0 := (Keep.refl (· = g) W).setCell ⟨g, 0, none⟩ x0 (fun _ => rfl)
 have a1 := a0.setCell ⟨g, 1, none⟩ x1 (fun _ => rfl)
 have a2 := a1.setCell ⟨g, 2, none⟩ x2 (fun _ => rfl)
 have a3 := a2.setCell ⟨g, 3, none⟩ x3 (fun _ => rfl)
 have a4 := a3.setCell ⟨g, 4, none⟩ x4 (fun _ => rfl)
 have a5 := a4.setCell ⟨g, 5, none⟩ x5 (fun _ => rfl)
 exact a5.setCell ⟨g, 6, none⟩ x6 (fun _ => rfl)
theorem InsS.out {w0 W : World} {g b gr gb : Nat} {s : St} {F : Array Value} (h : InsS w0 W g b gr gb s F) (x0 x1 x2 x3 x4 x5 x6 : Value) (W' : World) (e : W' = (((((((W.setCell ⟨gr + 1, 0, none⟩ x0).setCell ⟨gr + 1, 1, none⟩ x1).setCell ⟨gr + 1, 2, none⟩ x2).setCell ⟨gr + 1, 3, none⟩ x3).setCell ⟨gr + 1, 4, none⟩ x4).setCell ⟨gr + 1, 5, none⟩ x5).setCell ⟨gr + 1, 6, none⟩ x6)) :
 W'.heap[gr + 1]? = some (.cells #[x0, x1, x2, x3, x4, x5, x6] 92 (0, 0)) ∧ Rd W' g b s ∧ Keep (· = g) w0 W' ∧ Keep (· = gr + 1) W W' := by
 have h1 := h.hg
 have h2 := h.hb
 have hk := put7_far (W := W) (g := gr + 1) x0 x1 x2 x3 x4 x5 x6
 subst e
 exact ⟨put7 h.res x0 x1 x2 x3 x4 x5 x6, h.rd.keep hk (by omega) (by omega), h.keep.then hk (fun i hi e => by have e : i = gr + 1 := e; rw [h.base] at hi; omega), hk⟩
theorem InsS.drew {w0 W : World} {g b gr gb : Nat} {s : St} {F : Array Value} (h : InsS w0 W g b gr gb s F) : InsS w0 W.drew g b gr gb s F := ⟨⟨h.rd.1, h.rd.2⟩, h.r, h.res, h.bx, h.keep.drew, h.base, h.hg, h.hb, h.hgb⟩
theorem InsS.move {w0 W W' : World} {g b gr gb : Nat} {s s' : St} {F : Array Value} (h : InsS w0 W g b gr gb s F) (hk : Keep (fun i => i = g ∨ gb < i) W W') (hr : Rd W' g b s') : InsS w0 W' g b gr gb s' F := by
 have h1 := h.hg
 have h2 := h.hb
 have h3 := h.hgb
 exact ⟨hr, (hk.block gr (blk_lt h.r) (fun e => by omega)).trans h.r, (hk.block _ (blk_lt h.res) (fun e => by omega)).trans h.res, (hk.block gb (blk_lt h.bx) (fun e => by omega)).trans h.bx, h.keep.then hk (fun i hi e => by rw [h.base] at hi; omega), h.base, h1, h2, h3⟩
theorem wraps_u8' (n : Int) (h0 : 0 ≤ n) (h1 : n < 256) : IntKind.u8.wrap n = n := by
 simp only [IntKind.wrap, IntKind.bits, IntKind.signed]
 simp
 omega
theorem ins_start {w w1 : World} {g b : Nat} {s : St} {c1 c2 F : Array Value} {e1 e2 : Nat} (hk : Keep (· = g) ((w.alloc (.cells c1 e1)).alloc (.cells c2 e2)) w1) (hr : Rd w1 g b s) (hg : g < w.heap.size) (hb : b < w.heap.size)
 (h1 : c1 = #[.pointer (some ⟨g, 0, none⟩)]) (h2 : e1 = 109) (h3 : c2 = #[.int .u8 0, .int .u8 0, .int .i64 0, .int .i64 0, .int .i64 0, .int .i64 0, .slice none 0 0]) (h4 : e2 = 92) :
 InsS w (w1.alloc (.cells F 92)) g b w.heap.size w1.heap.size s F := by
 subst h1 h2 h3 h4
 have hs := hk.size
 rw [World.size_alloc, World.size_alloc] at hs
 have a1 : w1.heap[w.heap.size]? = some (.cells #[.pointer (some ⟨g, 0, none⟩)] 109 (0, 0)) := by
  rw [hk.block _ (by rw [World.size_alloc, World.size_alloc]; omega) (fun e => by have e : w.heap.size = g := e; omega), heap_alloc_old _ _ (by rw [World.size_alloc]; omega), heap_alloc_new]
 have a2 : w1.heap[w.heap.size + 1]? = some (.cells #[.int .u8 0, .int .u8 0, .int .i64 0, .int .i64 0, .int .i64 0, .int .i64 0, .slice none 0 0] 92 (0, 0)) := by
  rw [hk.block _ (by rw [World.size_alloc, World.size_alloc]; omega) (fun e => by have e : w.heap.size + 1 = g := e; omega), ← World.size_alloc w (.cells #[.pointer (some ⟨g, 0, none⟩)] 109), heap_alloc_new]
 have hb2 : Below w1.heap.size w1 (w1.alloc (.cells F 92)) := (Below.refl _ _).alloc (Nat.le_refl _) _
 exact ⟨hr.below hb2, (hb2.block _ (by omega)).trans a1, (hb2.block _ (by omega)).trans a2, heap_alloc_new _ _, ((((Keep.refl (· = g) w).alloc _).alloc _).trans hk).alloc _, rfl, hg, hb, hs⟩
def insVal (i : Ins) (v : Value) : Value := .agg #[.int .u8 i.1, .int .u8 i.2.1, .int .i64 i.2.2.1, .int .i64 i.2.2.2.1, .int .i64 i.2.2.2.2.1, .int .i64 i.2.2.2.2.2.1, v]
set_option maxHeartbeats 4000000 in
set_option maxRecDepth 100000 in
theorem rins2 (g b : Nat) (s : St) (w : World) (h : Rd w g b s) (hg : g < w.heap.size) (hk : (sBelow 256 s).1 = 2) :
 Calls Try.prog 126 #[.pointer (some ⟨g, 0, none⟩)] w fun e w' => ∃ v, e = .returned (insVal (sBody 2 (sBelow 256 s).2).1 v) ∧ kI.R 3 w' w.heap.size (fun _ => True) v (sBody 2 (sBelow 256 s).2).1.2.2.2.2.2.2 ∧ Rd w' g b (sBody 2 (sBelow 256 s).2).2 ∧ Keep (· = g) w w' := by
 have mixed : Try.prog.follows .mixedOrders = true := by kernel_rfl
 have H := aM h
 have HE := aM hk
 have HWK := aM (trivial)
 obtain ⟨s1, hs1⟩ : ∃ s1, (sBelow 256 s).2 = s1 := ⟨_, rfl⟩
 rw [hs1]
 have HS1 := aM hs1
 clear h hk hs1
 go_enter Try.func126, Try.ntmps126
 go_upto_region 2 with (go_at_call 46; refine (rd_below g b s 256 _ (H.out.below (((Below.refl _ _).alloc (Nat.le_refl _) _).alloc (by simp) _)) (by decide) (by decide)).mono ?_; rintro _ w1 ⟨rfl, hd, hk, hs⟩; have hwk := HWK.out; rw [HE.out]; rw [HS1.out] at hd; have HD := aM hd; have HK := aM hk; clear hd hk hs)
 have HI := aM (ins_start (F := #[.int .u8 2, .int .u8 0, .int .i64 0, .int .i64 0, .int .i64 0, .int .i64 0, .slice none 0 0]) HK.out HD.out hg H.out.2.2 rfl rfl rfl rfl); clear HD HK; obtain ⟨gb, hgb⟩ : ∃ gb, w1.heap.size = gb := ⟨_, rfl⟩; rw [hgb] at HI ⊢; obtain ⟨WB, hWB⟩ : ∃ WB, WB = w1.alloc (.cells #[.int .u8 2, .int .u8 0, .int .i64 0, .int .i64 0, .int .i64 0, .int .i64 0, .slice none 0 0] 92) := ⟨_, rfl⟩; rw [← hWB] at HI ⊢; clear hWB hgb; have q0 := (HI.out.cell 0 _ rfl).1; obtain ⟨q1, z1⟩ := HI.out.cell 1 _ rfl; obtain ⟨q2, z2⟩ := HI.out.cell 2 _ rfl; obtain ⟨q3, z3⟩ := HI.out.cell 3 _ rfl; obtain ⟨q4, z4⟩ := HI.out.cell 4 _ rfl; obtain ⟨q5, z5⟩ := HI.out.cell 5 _ rfl; obtain ⟨q6, z6⟩ := HI.out.cell 6 _ rfl; have qr := HI.out.ptr; have qs := HI.out.ptrs; obtain ⟨⟨y0, y1, y2, y3, y4, y5, y6⟩, v0, v1, v2, v3, v4, v5, v6⟩ := HI.out.rest
 go_upto_region 29 with (go_at_call 145; (first | refine (ins_num HI.out ).mono ?_ | refine (ins_num (HI.out.set _ _) ).mono ?_); rintro _ w2 ⟨rfl, hi⟩; clear HI; (try clear q0 q1 q2 q3 q4 q5 q6 z1 z2 z3 z4 z5 z6 qr qs y0 y1 y2 y3 y4 y5 y6 v0 v1 v2 v3 v4 v5 v6); have HI := aM hi; clear hi; have q0 := (HI.out.cell 0 _ rfl).1; obtain ⟨q1, z1⟩ := HI.out.cell 1 _ rfl; obtain ⟨q2, z2⟩ := HI.out.cell 2 _ rfl; obtain ⟨q3, z3⟩ := HI.out.cell 3 _ rfl; obtain ⟨q4, z4⟩ := HI.out.cell 4 _ rfl; obtain ⟨q5, z5⟩ := HI.out.cell 5 _ rfl; obtain ⟨q6, z6⟩ := HI.out.cell 6 _ rfl; have qr := HI.out.ptr; have qs := HI.out.ptrs; obtain ⟨⟨y0, y1, y2, y3, y4, y5, y6⟩, v0, v1, v2, v3, v4, v5, v6⟩ := HI.out.rest)
 have hset := HI.out.set 3 (.int .i64 (sBelow 4096 (sBelow 4096 s1).2).1)
 generalize w2.setCell ⟨gb, 3, none⟩ (.int .i64 (sBelow 4096 (sBelow 4096 s1).2).1) = WL at hset ⊢
 clear HI
 have HI := aM hset
 clear q0 q1 q2 q3 q4 q5 q6 z1 z2 z3 z4 z5 z6 qr qs y0 y1 y2 y3 y4 y5 y6 v0 v1 v2 v3 v4 v5 v6
 clear hset
 have q0 := (HI.out.cell 0 _ rfl).1; obtain ⟨q1, z1⟩ := HI.out.cell 1 _ rfl; obtain ⟨q2, z2⟩ := HI.out.cell 2 _ rfl; obtain ⟨q3, z3⟩ := HI.out.cell 3 _ rfl; obtain ⟨q4, z4⟩ := HI.out.cell 4 _ rfl; obtain ⟨q5, z5⟩ := HI.out.cell 5 _ rfl; obtain ⟨q6, z6⟩ := HI.out.cell 6 _ rfl; have qr := HI.out.ptr; have qs := HI.out.ptrs; obtain ⟨⟨y0, y1, y2, y3, y4, y5, y6⟩, v0, v1, v2, v3, v4, v5, v6⟩ := HI.out.rest
 go_wp2
 have p := HI.out.res; have p0 := fun x0 x1 x2 x3 x4 x5 x6 => cell_at (put7 p x0 x1 x2 x3 x4 x5 x6) 0 _ rfl; have p1 := fun x0 x1 x2 x3 x4 x5 x6 => cell_at (put7 p x0 x1 x2 x3 x4 x5 x6) 1 _ rfl; have p2 := fun x0 x1 x2 x3 x4 x5 x6 => cell_at (put7 p x0 x1 x2 x3 x4 x5 x6) 2 _ rfl; have p3 := fun x0 x1 x2 x3 x4 x5 x6 => cell_at (put7 p x0 x1 x2 x3 x4 x5 x6) 3 _ rfl; have p4 := fun x0 x1 x2 x3 x4 x5 x6 => cell_at (put7 p x0 x1 x2 x3 x4 x5 x6) 4 _ rfl; have p5 := fun x0 x1 x2 x3 x4 x5 x6 => cell_at (put7 p x0 x1 x2 x3 x4 x5 x6) 5 _ rfl; have p6 := fun x0 x1 x2 x3 x4 x5 x6 => cell_at (put7 p x0 x1 x2 x3 x4 x5 x6) 6 _ rfl; (try simp only [Exit.inBlock, Exit.then]); refine bodyPost_ret (by simp [results, Try.results126, go_sem, p0, p1, p2, p3, p4, p5, p6]; try rfl) rfl ?_
 obtain ⟨-, o2, o3, -⟩ := HI.out.out _ _ _ _ _ _ _ _ rfl
 exact ⟨.slice none 0 0, rfl, Kd.R_nil _ _ _ _ _, o2, o3⟩
set_option maxHeartbeats 4000000 in
set_option maxRecDepth 100000 in
theorem rins4 (g b : Nat) (s : St) (w : World) (h : Rd w g b s) (hg : g < w.heap.size) (hk : (sBelow 256 s).1 = 4) :
 Calls Try.prog 126 #[.pointer (some ⟨g, 0, none⟩)] w fun e w' => ∃ v, e = .returned (insVal (sBody 4 (sBelow 256 s).2).1 v) ∧ kI.R 3 w' w.heap.size (fun _ => True) v (sBody 4 (sBelow 256 s).2).1.2.2.2.2.2.2 ∧ Rd w' g b (sBody 4 (sBelow 256 s).2).2 ∧ Keep (· = g) w w' := by
 have mixed : Try.prog.follows .mixedOrders = true := by kernel_rfl
 have H := aM h
 have HE := aM hk
 have HWK := aM (trivial)
 obtain ⟨s1, hs1⟩ : ∃ s1, (sBelow 256 s).2 = s1 := ⟨_, rfl⟩
 rw [hs1]
 have HS1 := aM hs1
 clear h hk hs1
 go_enter Try.func126, Try.ntmps126
 go_upto_region 2 with (go_at_call 46; refine (rd_below g b s 256 _ (H.out.below (((Below.refl _ _).alloc (Nat.le_refl _) _).alloc (by simp) _)) (by decide) (by decide)).mono ?_; rintro _ w1 ⟨rfl, hd, hk, hs⟩; have hwk := HWK.out; rw [HE.out]; rw [HS1.out] at hd; have HD := aM hd; have HK := aM hk; clear hd hk hs)
 have HI := aM (ins_start (F := #[.int .u8 4, .int .u8 0, .int .i64 0, .int .i64 0, .int .i64 0, .int .i64 0, .slice none 0 0]) HK.out HD.out hg H.out.2.2 rfl rfl rfl rfl); clear HD HK; obtain ⟨gb, hgb⟩ : ∃ gb, w1.heap.size = gb := ⟨_, rfl⟩; rw [hgb] at HI ⊢; obtain ⟨WB, hWB⟩ : ∃ WB, WB = w1.alloc (.cells #[.int .u8 4, .int .u8 0, .int .i64 0, .int .i64 0, .int .i64 0, .int .i64 0, .slice none 0 0] 92) := ⟨_, rfl⟩; rw [← hWB] at HI ⊢; clear hWB hgb; have q0 := (HI.out.cell 0 _ rfl).1; obtain ⟨q1, z1⟩ := HI.out.cell 1 _ rfl; obtain ⟨q2, z2⟩ := HI.out.cell 2 _ rfl; obtain ⟨q3, z3⟩ := HI.out.cell 3 _ rfl; obtain ⟨q4, z4⟩ := HI.out.cell 4 _ rfl; obtain ⟨q5, z5⟩ := HI.out.cell 5 _ rfl; obtain ⟨q6, z6⟩ := HI.out.cell 6 _ rfl; have qr := HI.out.ptr; have qs := HI.out.ptrs; obtain ⟨⟨y0, y1, y2, y3, y4, y5, y6⟩, v0, v1, v2, v3, v4, v5, v6⟩ := HI.out.rest
 go_upto_region 29 with (go_at_call 145; (first | refine (ins_num HI.out ).mono ?_ | refine (ins_num (HI.out.set _ _) ).mono ?_); rintro _ w2 ⟨rfl, hi⟩; clear HI; (try clear q0 q1 q2 q3 q4 q5 q6 z1 z2 z3 z4 z5 z6 qr qs y0 y1 y2 y3 y4 y5 y6 v0 v1 v2 v3 v4 v5 v6); have HI := aM hi; clear hi; have q0 := (HI.out.cell 0 _ rfl).1; obtain ⟨q1, z1⟩ := HI.out.cell 1 _ rfl; obtain ⟨q2, z2⟩ := HI.out.cell 2 _ rfl; obtain ⟨q3, z3⟩ := HI.out.cell 3 _ rfl; obtain ⟨q4, z4⟩ := HI.out.cell 4 _ rfl; obtain ⟨q5, z5⟩ := HI.out.cell 5 _ rfl; obtain ⟨q6, z6⟩ := HI.out.cell 6 _ rfl; have qr := HI.out.ptr; have qs := HI.out.ptrs; obtain ⟨⟨y0, y1, y2, y3, y4, y5, y6⟩, v0, v1, v2, v3, v4, v5, v6⟩ := HI.out.rest)
 have hset := HI.out.set 3 (.int .i64 (sBelow 4096 (sBelow 4096 s1).2).1)
 generalize w2.setCell ⟨gb, 3, none⟩ (.int .i64 (sBelow 4096 (sBelow 4096 s1).2).1) = WL at hset ⊢
 clear HI
 have HI := aM hset
 clear q0 q1 q2 q3 q4 q5 q6 z1 z2 z3 z4 z5 z6 qr qs y0 y1 y2 y3 y4 y5 y6 v0 v1 v2 v3 v4 v5 v6
 clear hset
 have q0 := (HI.out.cell 0 _ rfl).1; obtain ⟨q1, z1⟩ := HI.out.cell 1 _ rfl; obtain ⟨q2, z2⟩ := HI.out.cell 2 _ rfl; obtain ⟨q3, z3⟩ := HI.out.cell 3 _ rfl; obtain ⟨q4, z4⟩ := HI.out.cell 4 _ rfl; obtain ⟨q5, z5⟩ := HI.out.cell 5 _ rfl; obtain ⟨q6, z6⟩ := HI.out.cell 6 _ rfl; have qr := HI.out.ptr; have qs := HI.out.ptrs; obtain ⟨⟨y0, y1, y2, y3, y4, y5, y6⟩, v0, v1, v2, v3, v4, v5, v6⟩ := HI.out.rest
 go_wp2
 have p := HI.out.res; have p0 := fun x0 x1 x2 x3 x4 x5 x6 => cell_at (put7 p x0 x1 x2 x3 x4 x5 x6) 0 _ rfl; have p1 := fun x0 x1 x2 x3 x4 x5 x6 => cell_at (put7 p x0 x1 x2 x3 x4 x5 x6) 1 _ rfl; have p2 := fun x0 x1 x2 x3 x4 x5 x6 => cell_at (put7 p x0 x1 x2 x3 x4 x5 x6) 2 _ rfl; have p3 := fun x0 x1 x2 x3 x4 x5 x6 => cell_at (put7 p x0 x1 x2 x3 x4 x5 x6) 3 _ rfl; have p4 := fun x0 x1 x2 x3 x4 x5 x6 => cell_at (put7 p x0 x1 x2 x3 x4 x5 x6) 4 _ rfl; have p5 := fun x0 x1 x2 x3 x4 x5 x6 => cell_at (put7 p x0 x1 x2 x3 x4 x5 x6) 5 _ rfl; have p6 := fun x0 x1 x2 x3 x4 x5 x6 => cell_at (put7 p x0 x1 x2 x3 x4 x5 x6) 6 _ rfl; (try simp only [Exit.inBlock, Exit.then]); refine bodyPost_ret (by simp [results, Try.results126, go_sem, p0, p1, p2, p3, p4, p5, p6]; try rfl) rfl ?_
 obtain ⟨-, o2, o3, -⟩ := HI.out.out _ _ _ _ _ _ _ _ rfl
 exact ⟨.slice none 0 0, rfl, Kd.R_nil _ _ _ _ _, o2, o3⟩
set_option maxHeartbeats 4000000 in
set_option maxRecDepth 100000 in
theorem rins7 (g b : Nat) (s : St) (w : World) (h : Rd w g b s) (hg : g < w.heap.size) (hk : (sBelow 256 s).1 = 7) :
 Calls Try.prog 126 #[.pointer (some ⟨g, 0, none⟩)] w fun e w' => ∃ v, e = .returned (insVal (sBody 7 (sBelow 256 s).2).1 v) ∧ kI.R 3 w' w.heap.size (fun _ => True) v (sBody 7 (sBelow 256 s).2).1.2.2.2.2.2.2 ∧ Rd w' g b (sBody 7 (sBelow 256 s).2).2 ∧ Keep (· = g) w w' := by
 have mixed : Try.prog.follows .mixedOrders = true := by kernel_rfl
 have H := aM h
 have HE := aM hk
 have HWK := aM (trivial)
 obtain ⟨s1, hs1⟩ : ∃ s1, (sBelow 256 s).2 = s1 := ⟨_, rfl⟩
 rw [hs1]
 have HS1 := aM hs1
 clear h hk hs1
 go_enter Try.func126, Try.ntmps126
 go_upto_region 2 with (go_at_call 46; refine (rd_below g b s 256 _ (H.out.below (((Below.refl _ _).alloc (Nat.le_refl _) _).alloc (by simp) _)) (by decide) (by decide)).mono ?_; rintro _ w1 ⟨rfl, hd, hk, hs⟩; have hwk := HWK.out; rw [HE.out]; rw [HS1.out] at hd; have HD := aM hd; have HK := aM hk; clear hd hk hs)
 have HI := aM (ins_start (F := #[.int .u8 7, .int .u8 0, .int .i64 0, .int .i64 0, .int .i64 0, .int .i64 0, .slice none 0 0]) HK.out HD.out hg H.out.2.2 rfl rfl rfl rfl); clear HD HK; obtain ⟨gb, hgb⟩ : ∃ gb, w1.heap.size = gb := ⟨_, rfl⟩; rw [hgb] at HI ⊢; obtain ⟨WB, hWB⟩ : ∃ WB, WB = w1.alloc (.cells #[.int .u8 7, .int .u8 0, .int .i64 0, .int .i64 0, .int .i64 0, .int .i64 0, .slice none 0 0] 92) := ⟨_, rfl⟩; rw [← hWB] at HI ⊢; clear hWB hgb; have q0 := (HI.out.cell 0 _ rfl).1; obtain ⟨q1, z1⟩ := HI.out.cell 1 _ rfl; obtain ⟨q2, z2⟩ := HI.out.cell 2 _ rfl; obtain ⟨q3, z3⟩ := HI.out.cell 3 _ rfl; obtain ⟨q4, z4⟩ := HI.out.cell 4 _ rfl; obtain ⟨q5, z5⟩ := HI.out.cell 5 _ rfl; obtain ⟨q6, z6⟩ := HI.out.cell 6 _ rfl; have qr := HI.out.ptr; have qs := HI.out.ptrs; obtain ⟨⟨y0, y1, y2, y3, y4, y5, y6⟩, v0, v1, v2, v3, v4, v5, v6⟩ := HI.out.rest
 go_upto_region 29 with (go_at_call 145; (first | refine (ins_num HI.out ).mono ?_ | refine (ins_num (HI.out.set _ _) ).mono ?_); rintro _ w2 ⟨rfl, hi⟩; clear HI; (try clear q0 q1 q2 q3 q4 q5 q6 z1 z2 z3 z4 z5 z6 qr qs y0 y1 y2 y3 y4 y5 y6 v0 v1 v2 v3 v4 v5 v6); have HI := aM hi; clear hi; have q0 := (HI.out.cell 0 _ rfl).1; obtain ⟨q1, z1⟩ := HI.out.cell 1 _ rfl; obtain ⟨q2, z2⟩ := HI.out.cell 2 _ rfl; obtain ⟨q3, z3⟩ := HI.out.cell 3 _ rfl; obtain ⟨q4, z4⟩ := HI.out.cell 4 _ rfl; obtain ⟨q5, z5⟩ := HI.out.cell 5 _ rfl; obtain ⟨q6, z6⟩ := HI.out.cell 6 _ rfl; have qr := HI.out.ptr; have qs := HI.out.ptrs; obtain ⟨⟨y0, y1, y2, y3, y4, y5, y6⟩, v0, v1, v2, v3, v4, v5, v6⟩ := HI.out.rest)
 have hset := HI.out.set 3 (.int .i64 (sBelow 4096 (sBelow 4096 s1).2).1)
 generalize w2.setCell ⟨gb, 3, none⟩ (.int .i64 (sBelow 4096 (sBelow 4096 s1).2).1) = WL at hset ⊢
 clear HI
 have HI := aM hset
 clear q0 q1 q2 q3 q4 q5 q6 z1 z2 z3 z4 z5 z6 qr qs y0 y1 y2 y3 y4 y5 y6 v0 v1 v2 v3 v4 v5 v6
 clear hset
 have q0 := (HI.out.cell 0 _ rfl).1; obtain ⟨q1, z1⟩ := HI.out.cell 1 _ rfl; obtain ⟨q2, z2⟩ := HI.out.cell 2 _ rfl; obtain ⟨q3, z3⟩ := HI.out.cell 3 _ rfl; obtain ⟨q4, z4⟩ := HI.out.cell 4 _ rfl; obtain ⟨q5, z5⟩ := HI.out.cell 5 _ rfl; obtain ⟨q6, z6⟩ := HI.out.cell 6 _ rfl; have qr := HI.out.ptr; have qs := HI.out.ptrs; obtain ⟨⟨y0, y1, y2, y3, y4, y5, y6⟩, v0, v1, v2, v3, v4, v5, v6⟩ := HI.out.rest
 go_wp2
 have p := HI.out.res; have p0 := fun x0 x1 x2 x3 x4 x5 x6 => cell_at (put7 p x0 x1 x2 x3 x4 x5 x6) 0 _ rfl; have p1 := fun x0 x1 x2 x3 x4 x5 x6 => cell_at (put7 p x0 x1 x2 x3 x4 x5 x6) 1 _ rfl; have p2 := fun x0 x1 x2 x3 x4 x5 x6 => cell_at (put7 p x0 x1 x2 x3 x4 x5 x6) 2 _ rfl; have p3 := fun x0 x1 x2 x3 x4 x5 x6 => cell_at (put7 p x0 x1 x2 x3 x4 x5 x6) 3 _ rfl; have p4 := fun x0 x1 x2 x3 x4 x5 x6 => cell_at (put7 p x0 x1 x2 x3 x4 x5 x6) 4 _ rfl; have p5 := fun x0 x1 x2 x3 x4 x5 x6 => cell_at (put7 p x0 x1 x2 x3 x4 x5 x6) 5 _ rfl; have p6 := fun x0 x1 x2 x3 x4 x5 x6 => cell_at (put7 p x0 x1 x2 x3 x4 x5 x6) 6 _ rfl; (try simp only [Exit.inBlock, Exit.then]); refine bodyPost_ret (by simp [results, Try.results126, go_sem, p0, p1, p2, p3, p4, p5, p6]; try rfl) rfl ?_
 obtain ⟨-, o2, o3, -⟩ := HI.out.out _ _ _ _ _ _ _ _ rfl
 exact ⟨.slice none 0 0, rfl, Kd.R_nil _ _ _ _ _, o2, o3⟩
set_option maxHeartbeats 4000000 in
set_option maxRecDepth 100000 in
theorem rins8 (g b : Nat) (s : St) (w : World) (h : Rd w g b s) (hg : g < w.heap.size) (hk : (sBelow 256 s).1 = 8) :
 Calls Try.prog 126 #[.pointer (some ⟨g, 0, none⟩)] w fun e w' => ∃ v, e = .returned (insVal (sBody 8 (sBelow 256 s).2).1 v) ∧ kI.R 3 w' w.heap.size (fun _ => True) v (sBody 8 (sBelow 256 s).2).1.2.2.2.2.2.2 ∧ Rd w' g b (sBody 8 (sBelow 256 s).2).2 ∧ Keep (· = g) w w' := by
 have mixed : Try.prog.follows .mixedOrders = true := by kernel_rfl
 have H := aM h
 have HE := aM hk
 have HWK := aM (trivial)
 obtain ⟨s1, hs1⟩ : ∃ s1, (sBelow 256 s).2 = s1 := ⟨_, rfl⟩
 rw [hs1]
 have HS1 := aM hs1
 clear h hk hs1
 go_enter Try.func126, Try.ntmps126
 go_upto_region 2 with (go_at_call 46; refine (rd_below g b s 256 _ (H.out.below (((Below.refl _ _).alloc (Nat.le_refl _) _).alloc (by simp) _)) (by decide) (by decide)).mono ?_; rintro _ w1 ⟨rfl, hd, hk, hs⟩; have hwk := HWK.out; rw [HE.out]; rw [HS1.out] at hd; have HD := aM hd; have HK := aM hk; clear hd hk hs)
 have HI := aM (ins_start (F := #[.int .u8 8, .int .u8 0, .int .i64 0, .int .i64 0, .int .i64 0, .int .i64 0, .slice none 0 0]) HK.out HD.out hg H.out.2.2 rfl rfl rfl rfl); clear HD HK; obtain ⟨gb, hgb⟩ : ∃ gb, w1.heap.size = gb := ⟨_, rfl⟩; rw [hgb] at HI ⊢; obtain ⟨WB, hWB⟩ : ∃ WB, WB = w1.alloc (.cells #[.int .u8 8, .int .u8 0, .int .i64 0, .int .i64 0, .int .i64 0, .int .i64 0, .slice none 0 0] 92) := ⟨_, rfl⟩; rw [← hWB] at HI ⊢; clear hWB hgb; have q0 := (HI.out.cell 0 _ rfl).1; obtain ⟨q1, z1⟩ := HI.out.cell 1 _ rfl; obtain ⟨q2, z2⟩ := HI.out.cell 2 _ rfl; obtain ⟨q3, z3⟩ := HI.out.cell 3 _ rfl; obtain ⟨q4, z4⟩ := HI.out.cell 4 _ rfl; obtain ⟨q5, z5⟩ := HI.out.cell 5 _ rfl; obtain ⟨q6, z6⟩ := HI.out.cell 6 _ rfl; have qr := HI.out.ptr; have qs := HI.out.ptrs; obtain ⟨⟨y0, y1, y2, y3, y4, y5, y6⟩, v0, v1, v2, v3, v4, v5, v6⟩ := HI.out.rest
 go_upto_region 29 with (go_at_call 145; (first | refine (ins_num HI.out ).mono ?_ | refine (ins_num (HI.out.set _ _) ).mono ?_); rintro _ w2 ⟨rfl, hi⟩; clear HI; (try clear q0 q1 q2 q3 q4 q5 q6 z1 z2 z3 z4 z5 z6 qr qs y0 y1 y2 y3 y4 y5 y6 v0 v1 v2 v3 v4 v5 v6); have HI := aM hi; clear hi; have q0 := (HI.out.cell 0 _ rfl).1; obtain ⟨q1, z1⟩ := HI.out.cell 1 _ rfl; obtain ⟨q2, z2⟩ := HI.out.cell 2 _ rfl; obtain ⟨q3, z3⟩ := HI.out.cell 3 _ rfl; obtain ⟨q4, z4⟩ := HI.out.cell 4 _ rfl; obtain ⟨q5, z5⟩ := HI.out.cell 5 _ rfl; obtain ⟨q6, z6⟩ := HI.out.cell 6 _ rfl; have qr := HI.out.ptr; have qs := HI.out.ptrs; obtain ⟨⟨y0, y1, y2, y3, y4, y5, y6⟩, v0, v1, v2, v3, v4, v5, v6⟩ := HI.out.rest)
 have hset := HI.out.set 3 (.int .i64 (sBelow 4096 (sBelow 4096 s1).2).1)
 generalize w2.setCell ⟨gb, 3, none⟩ (.int .i64 (sBelow 4096 (sBelow 4096 s1).2).1) = WL at hset ⊢
 clear HI
 have HI := aM hset
 clear q0 q1 q2 q3 q4 q5 q6 z1 z2 z3 z4 z5 z6 qr qs y0 y1 y2 y3 y4 y5 y6 v0 v1 v2 v3 v4 v5 v6
 clear hset
 have q0 := (HI.out.cell 0 _ rfl).1; obtain ⟨q1, z1⟩ := HI.out.cell 1 _ rfl; obtain ⟨q2, z2⟩ := HI.out.cell 2 _ rfl; obtain ⟨q3, z3⟩ := HI.out.cell 3 _ rfl; obtain ⟨q4, z4⟩ := HI.out.cell 4 _ rfl; obtain ⟨q5, z5⟩ := HI.out.cell 5 _ rfl; obtain ⟨q6, z6⟩ := HI.out.cell 6 _ rfl; have qr := HI.out.ptr; have qs := HI.out.ptrs; obtain ⟨⟨y0, y1, y2, y3, y4, y5, y6⟩, v0, v1, v2, v3, v4, v5, v6⟩ := HI.out.rest
 go_wp2
 have p := HI.out.res; have p0 := fun x0 x1 x2 x3 x4 x5 x6 => cell_at (put7 p x0 x1 x2 x3 x4 x5 x6) 0 _ rfl; have p1 := fun x0 x1 x2 x3 x4 x5 x6 => cell_at (put7 p x0 x1 x2 x3 x4 x5 x6) 1 _ rfl; have p2 := fun x0 x1 x2 x3 x4 x5 x6 => cell_at (put7 p x0 x1 x2 x3 x4 x5 x6) 2 _ rfl; have p3 := fun x0 x1 x2 x3 x4 x5 x6 => cell_at (put7 p x0 x1 x2 x3 x4 x5 x6) 3 _ rfl; have p4 := fun x0 x1 x2 x3 x4 x5 x6 => cell_at (put7 p x0 x1 x2 x3 x4 x5 x6) 4 _ rfl; have p5 := fun x0 x1 x2 x3 x4 x5 x6 => cell_at (put7 p x0 x1 x2 x3 x4 x5 x6) 5 _ rfl; have p6 := fun x0 x1 x2 x3 x4 x5 x6 => cell_at (put7 p x0 x1 x2 x3 x4 x5 x6) 6 _ rfl; (try simp only [Exit.inBlock, Exit.then]); refine bodyPost_ret (by simp [results, Try.results126, go_sem, p0, p1, p2, p3, p4, p5, p6]; try rfl) rfl ?_
 obtain ⟨-, o2, o3, -⟩ := HI.out.out _ _ _ _ _ _ _ _ rfl
 exact ⟨.slice none 0 0, rfl, Kd.R_nil _ _ _ _ _, o2, o3⟩
set_option maxHeartbeats 4000000 in
set_option maxRecDepth 100000 in
theorem rins5 (g b : Nat) (s : St) (w : World) (h : Rd w g b s) (hg : g < w.heap.size) (hk : (sBelow 256 s).1 = 5) :
 Calls Try.prog 126 #[.pointer (some ⟨g, 0, none⟩)] w fun e w' => ∃ v, e = .returned (insVal (sBody 5 (sBelow 256 s).2).1 v) ∧ kI.R 3 w' w.heap.size (fun _ => True) v (sBody 5 (sBelow 256 s).2).1.2.2.2.2.2.2 ∧ Rd w' g b (sBody 5 (sBelow 256 s).2).2 ∧ Keep (· = g) w w' := by
 have mixed : Try.prog.follows .mixedOrders = true := by kernel_rfl
 have H := aM h
 have HE := aM hk
 have HWK := aM (trivial)
 obtain ⟨s1, hs1⟩ : ∃ s1, (sBelow 256 s).2 = s1 := ⟨_, rfl⟩
 rw [hs1]
 have HS1 := aM hs1
 clear h hk hs1
 go_enter Try.func126, Try.ntmps126
 go_upto_region 2 with (go_at_call 46; refine (rd_below g b s 256 _ (H.out.below (((Below.refl _ _).alloc (Nat.le_refl _) _).alloc (by simp) _)) (by decide) (by decide)).mono ?_; rintro _ w1 ⟨rfl, hd, hk, hs⟩; have hwk := HWK.out; rw [HE.out]; rw [HS1.out] at hd; have HD := aM hd; have HK := aM hk; clear hd hk hs)
 have HI := aM (ins_start (F := #[.int .u8 5, .int .u8 0, .int .i64 0, .int .i64 0, .int .i64 0, .int .i64 0, .slice none 0 0]) HK.out HD.out hg H.out.2.2 rfl rfl rfl rfl); clear HD HK; obtain ⟨gb, hgb⟩ : ∃ gb, w1.heap.size = gb := ⟨_, rfl⟩; rw [hgb] at HI ⊢; obtain ⟨WB, hWB⟩ : ∃ WB, WB = w1.alloc (.cells #[.int .u8 5, .int .u8 0, .int .i64 0, .int .i64 0, .int .i64 0, .int .i64 0, .slice none 0 0] 92) := ⟨_, rfl⟩; rw [← hWB] at HI ⊢; clear hWB hgb; have q0 := (HI.out.cell 0 _ rfl).1; obtain ⟨q1, z1⟩ := HI.out.cell 1 _ rfl; obtain ⟨q2, z2⟩ := HI.out.cell 2 _ rfl; obtain ⟨q3, z3⟩ := HI.out.cell 3 _ rfl; obtain ⟨q4, z4⟩ := HI.out.cell 4 _ rfl; obtain ⟨q5, z5⟩ := HI.out.cell 5 _ rfl; obtain ⟨q6, z6⟩ := HI.out.cell 6 _ rfl; have qr := HI.out.ptr; have qs := HI.out.ptrs; obtain ⟨⟨y0, y1, y2, y3, y4, y5, y6⟩, v0, v1, v2, v3, v4, v5, v6⟩ := HI.out.rest
 go_upto_region 29 with (go_at_call 145; (first | refine (ins_num HI.out ).mono ?_ | refine (ins_num (HI.out.set _ _) ).mono ?_); rintro _ w2 ⟨rfl, hi⟩; clear HI; (try clear q0 q1 q2 q3 q4 q5 q6 z1 z2 z3 z4 z5 z6 qr qs y0 y1 y2 y3 y4 y5 y6 v0 v1 v2 v3 v4 v5 v6); have HI := aM hi; clear hi; have q0 := (HI.out.cell 0 _ rfl).1; obtain ⟨q1, z1⟩ := HI.out.cell 1 _ rfl; obtain ⟨q2, z2⟩ := HI.out.cell 2 _ rfl; obtain ⟨q3, z3⟩ := HI.out.cell 3 _ rfl; obtain ⟨q4, z4⟩ := HI.out.cell 4 _ rfl; obtain ⟨q5, z5⟩ := HI.out.cell 5 _ rfl; obtain ⟨q6, z6⟩ := HI.out.cell 6 _ rfl; have qr := HI.out.ptr; have qs := HI.out.ptrs; obtain ⟨⟨y0, y1, y2, y3, y4, y5, y6⟩, v0, v1, v2, v3, v4, v5, v6⟩ := HI.out.rest)
 have hset := HI.out.set 4 (.int .i64 (sBelow 4096 (sBelow 4096 s1).2).1)
 generalize w2.setCell ⟨gb, 4, none⟩ (.int .i64 (sBelow 4096 (sBelow 4096 s1).2).1) = WL at hset ⊢
 clear HI
 have HI := aM hset
 clear q0 q1 q2 q3 q4 q5 q6 z1 z2 z3 z4 z5 z6 qr qs y0 y1 y2 y3 y4 y5 y6 v0 v1 v2 v3 v4 v5 v6
 clear hset
 have q0 := (HI.out.cell 0 _ rfl).1; obtain ⟨q1, z1⟩ := HI.out.cell 1 _ rfl; obtain ⟨q2, z2⟩ := HI.out.cell 2 _ rfl; obtain ⟨q3, z3⟩ := HI.out.cell 3 _ rfl; obtain ⟨q4, z4⟩ := HI.out.cell 4 _ rfl; obtain ⟨q5, z5⟩ := HI.out.cell 5 _ rfl; obtain ⟨q6, z6⟩ := HI.out.cell 6 _ rfl; have qr := HI.out.ptr; have qs := HI.out.ptrs; obtain ⟨⟨y0, y1, y2, y3, y4, y5, y6⟩, v0, v1, v2, v3, v4, v5, v6⟩ := HI.out.rest
 go_wp2
 have p := HI.out.res; have p0 := fun x0 x1 x2 x3 x4 x5 x6 => cell_at (put7 p x0 x1 x2 x3 x4 x5 x6) 0 _ rfl; have p1 := fun x0 x1 x2 x3 x4 x5 x6 => cell_at (put7 p x0 x1 x2 x3 x4 x5 x6) 1 _ rfl; have p2 := fun x0 x1 x2 x3 x4 x5 x6 => cell_at (put7 p x0 x1 x2 x3 x4 x5 x6) 2 _ rfl; have p3 := fun x0 x1 x2 x3 x4 x5 x6 => cell_at (put7 p x0 x1 x2 x3 x4 x5 x6) 3 _ rfl; have p4 := fun x0 x1 x2 x3 x4 x5 x6 => cell_at (put7 p x0 x1 x2 x3 x4 x5 x6) 4 _ rfl; have p5 := fun x0 x1 x2 x3 x4 x5 x6 => cell_at (put7 p x0 x1 x2 x3 x4 x5 x6) 5 _ rfl; have p6 := fun x0 x1 x2 x3 x4 x5 x6 => cell_at (put7 p x0 x1 x2 x3 x4 x5 x6) 6 _ rfl; (try simp only [Exit.inBlock, Exit.then]); refine bodyPost_ret (by simp [results, Try.results126, go_sem, p0, p1, p2, p3, p4, p5, p6]; try rfl) rfl ?_
 obtain ⟨-, o2, o3, -⟩ := HI.out.out _ _ _ _ _ _ _ _ rfl
 exact ⟨.slice none 0 0, rfl, Kd.R_nil _ _ _ _ _, o2, o3⟩
set_option maxHeartbeats 4000000 in
set_option maxRecDepth 100000 in
theorem rins1 (g b : Nat) (s : St) (w : World) (h : Rd w g b s) (hg : g < w.heap.size) (hk : (sBelow 256 s).1 = 1) :
 Calls Try.prog 126 #[.pointer (some ⟨g, 0, none⟩)] w fun e w' => ∃ v, e = .returned (insVal (sBody 1 (sBelow 256 s).2).1 v) ∧ kI.R 3 w' w.heap.size (fun _ => True) v (sBody 1 (sBelow 256 s).2).1.2.2.2.2.2.2 ∧ Rd w' g b (sBody 1 (sBelow 256 s).2).2 ∧ Keep (· = g) w w' := by
 have mixed : Try.prog.follows .mixedOrders = true := by kernel_rfl
 have H := aM h
 have HE := aM hk
 have HWK := aM (trivial)
 obtain ⟨s1, hs1⟩ : ∃ s1, (sBelow 256 s).2 = s1 := ⟨_, rfl⟩
 rw [hs1]
 have HS1 := aM hs1
 clear h hk hs1
 go_enter Try.func126, Try.ntmps126
 go_upto_region 2 with (go_at_call 46; refine (rd_below g b s 256 _ (H.out.below (((Below.refl _ _).alloc (Nat.le_refl _) _).alloc (by simp) _)) (by decide) (by decide)).mono ?_; rintro _ w1 ⟨rfl, hd, hk, hs⟩; have hwk := HWK.out; rw [HE.out]; rw [HS1.out] at hd; have HD := aM hd; have HK := aM hk; clear hd hk hs)
 have HI := aM (ins_start (F := #[.int .u8 1, .int .u8 0, .int .i64 0, .int .i64 0, .int .i64 0, .int .i64 0, .slice none 0 0]) HK.out HD.out hg H.out.2.2 rfl rfl rfl rfl); clear HD HK; obtain ⟨gb, hgb⟩ : ∃ gb, w1.heap.size = gb := ⟨_, rfl⟩; rw [hgb] at HI ⊢; obtain ⟨WB, hWB⟩ : ∃ WB, WB = w1.alloc (.cells #[.int .u8 1, .int .u8 0, .int .i64 0, .int .i64 0, .int .i64 0, .int .i64 0, .slice none 0 0] 92) := ⟨_, rfl⟩; rw [← hWB] at HI ⊢; clear hWB hgb; have q0 := (HI.out.cell 0 _ rfl).1; obtain ⟨q1, z1⟩ := HI.out.cell 1 _ rfl; obtain ⟨q2, z2⟩ := HI.out.cell 2 _ rfl; obtain ⟨q3, z3⟩ := HI.out.cell 3 _ rfl; obtain ⟨q4, z4⟩ := HI.out.cell 4 _ rfl; obtain ⟨q5, z5⟩ := HI.out.cell 5 _ rfl; obtain ⟨q6, z6⟩ := HI.out.cell 6 _ rfl; have qr := HI.out.ptr; have qs := HI.out.ptrs; obtain ⟨⟨y0, y1, y2, y3, y4, y5, y6⟩, v0, v1, v2, v3, v4, v5, v6⟩ := HI.out.rest
 go_upto_region 29 with (first | (go_at_call 145; (first | refine (ins_num HI.out ).mono ?_ | refine (ins_num (HI.out.set _ _) ).mono ?_); rintro _ w2 ⟨rfl, hi⟩; clear HI; (try clear q0 q1 q2 q3 q4 q5 q6 z1 z2 z3 z4 z5 z6 qr qs y0 y1 y2 y3 y4 y5 y6 v0 v1 v2 v3 v4 v5 v6); have HI := aM hi; clear hi; have q0 := (HI.out.cell 0 _ rfl).1; obtain ⟨q1, z1⟩ := HI.out.cell 1 _ rfl; obtain ⟨q2, z2⟩ := HI.out.cell 2 _ rfl; obtain ⟨q3, z3⟩ := HI.out.cell 3 _ rfl; obtain ⟨q4, z4⟩ := HI.out.cell 4 _ rfl; obtain ⟨q5, z5⟩ := HI.out.cell 5 _ rfl; obtain ⟨q6, z6⟩ := HI.out.cell 6 _ rfl; have qr := HI.out.ptr; have qs := HI.out.ptrs; obtain ⟨⟨y0, y1, y2, y3, y4, y5, y6⟩, v0, v1, v2, v3, v4, v5, v6⟩ := HI.out.rest) | (go_at_call 146; (first | refine (ins_int HI.out ).mono ?_ | refine (ins_int (HI.out.set _ _) ).mono ?_); rintro _ w2 ⟨rfl, hi⟩; clear HI; (try clear q0 q1 q2 q3 q4 q5 q6 z1 z2 z3 z4 z5 z6 qr qs y0 y1 y2 y3 y4 y5 y6 v0 v1 v2 v3 v4 v5 v6); have HI := aM hi; clear hi; have q0 := (HI.out.cell 0 _ rfl).1; obtain ⟨q1, z1⟩ := HI.out.cell 1 _ rfl; obtain ⟨q2, z2⟩ := HI.out.cell 2 _ rfl; obtain ⟨q3, z3⟩ := HI.out.cell 3 _ rfl; obtain ⟨q4, z4⟩ := HI.out.cell 4 _ rfl; obtain ⟨q5, z5⟩ := HI.out.cell 5 _ rfl; obtain ⟨q6, z6⟩ := HI.out.cell 6 _ rfl; have qr := HI.out.ptr; have qs := HI.out.ptrs; obtain ⟨⟨y0, y1, y2, y3, y4, y5, y6⟩, v0, v1, v2, v3, v4, v5, v6⟩ := HI.out.rest))
 have hset := HI.out.set 5 (.int .i64 (sInt (sBelow 4096 s1).2).1)
 generalize w2.setCell ⟨gb, 5, none⟩ (.int .i64 (sInt (sBelow 4096 s1).2).1) = WL at hset ⊢
 clear HI
 have HI := aM hset
 clear q0 q1 q2 q3 q4 q5 q6 z1 z2 z3 z4 z5 z6 qr qs y0 y1 y2 y3 y4 y5 y6 v0 v1 v2 v3 v4 v5 v6
 clear hset
 have q0 := (HI.out.cell 0 _ rfl).1; obtain ⟨q1, z1⟩ := HI.out.cell 1 _ rfl; obtain ⟨q2, z2⟩ := HI.out.cell 2 _ rfl; obtain ⟨q3, z3⟩ := HI.out.cell 3 _ rfl; obtain ⟨q4, z4⟩ := HI.out.cell 4 _ rfl; obtain ⟨q5, z5⟩ := HI.out.cell 5 _ rfl; obtain ⟨q6, z6⟩ := HI.out.cell 6 _ rfl; have qr := HI.out.ptr; have qs := HI.out.ptrs; obtain ⟨⟨y0, y1, y2, y3, y4, y5, y6⟩, v0, v1, v2, v3, v4, v5, v6⟩ := HI.out.rest
 go_wp2
 have p := HI.out.res; have p0 := fun x0 x1 x2 x3 x4 x5 x6 => cell_at (put7 p x0 x1 x2 x3 x4 x5 x6) 0 _ rfl; have p1 := fun x0 x1 x2 x3 x4 x5 x6 => cell_at (put7 p x0 x1 x2 x3 x4 x5 x6) 1 _ rfl; have p2 := fun x0 x1 x2 x3 x4 x5 x6 => cell_at (put7 p x0 x1 x2 x3 x4 x5 x6) 2 _ rfl; have p3 := fun x0 x1 x2 x3 x4 x5 x6 => cell_at (put7 p x0 x1 x2 x3 x4 x5 x6) 3 _ rfl; have p4 := fun x0 x1 x2 x3 x4 x5 x6 => cell_at (put7 p x0 x1 x2 x3 x4 x5 x6) 4 _ rfl; have p5 := fun x0 x1 x2 x3 x4 x5 x6 => cell_at (put7 p x0 x1 x2 x3 x4 x5 x6) 5 _ rfl; have p6 := fun x0 x1 x2 x3 x4 x5 x6 => cell_at (put7 p x0 x1 x2 x3 x4 x5 x6) 6 _ rfl; (try simp only [Exit.inBlock, Exit.then]); refine bodyPost_ret (by simp [results, Try.results126, go_sem, p0, p1, p2, p3, p4, p5, p6]; try rfl) rfl ?_
 obtain ⟨-, o2, o3, -⟩ := HI.out.out _ _ _ _ _ _ _ _ rfl
 exact ⟨.slice none 0 0, rfl, Kd.R_nil _ _ _ _ _, o2, o3⟩
set_option maxHeartbeats 4000000 in
set_option maxRecDepth 100000 in
theorem rins3 (g b : Nat) (s : St) (w : World) (h : Rd w g b s) (hg : g < w.heap.size) (hk : (sBelow 256 s).1 = 3) :
 Calls Try.prog 126 #[.pointer (some ⟨g, 0, none⟩)] w fun e w' => ∃ v, e = .returned (insVal (sBody 3 (sBelow 256 s).2).1 v) ∧ kI.R 3 w' w.heap.size (fun _ => True) v (sBody 3 (sBelow 256 s).2).1.2.2.2.2.2.2 ∧ Rd w' g b (sBody 3 (sBelow 256 s).2).2 ∧ Keep (· = g) w w' := by
 have mixed : Try.prog.follows .mixedOrders = true := by kernel_rfl
 have H := aM h
 have HE := aM hk
 have HWK := aM (trivial)
 obtain ⟨s1, hs1⟩ : ∃ s1, (sBelow 256 s).2 = s1 := ⟨_, rfl⟩
 rw [hs1]
 have HS1 := aM hs1
 have HWR := aM (show IntKind.u8.wrap (sBelow 256 s1).1 = (sBelow 256 s1).1 from by
  have := below_range (m := 256) (s := s1) (by decide) (by rw [← hs1]; exact sbelow_by h.2.1)
  exact wraps_u8' _ this.1 this.2)
 clear h hk hs1
 go_enter Try.func126, Try.ntmps126
 go_upto_region 2 with (go_at_call 46; refine (rd_below g b s 256 _ (H.out.below (((Below.refl _ _).alloc (Nat.le_refl _) _).alloc (by simp) _)) (by decide) (by decide)).mono ?_; rintro _ w1 ⟨rfl, hd, hk, hs⟩; have hwk := HWK.out; rw [HE.out]; rw [HS1.out] at hd; have HD := aM hd; have HK := aM hk; clear hd hk hs)
 have HI := aM (ins_start (F := #[.int .u8 3, .int .u8 0, .int .i64 0, .int .i64 0, .int .i64 0, .int .i64 0, .slice none 0 0]) HK.out HD.out hg H.out.2.2 rfl rfl rfl rfl); clear HD HK; obtain ⟨gb, hgb⟩ : ∃ gb, w1.heap.size = gb := ⟨_, rfl⟩; rw [hgb] at HI ⊢; obtain ⟨WB, hWB⟩ : ∃ WB, WB = w1.alloc (.cells #[.int .u8 3, .int .u8 0, .int .i64 0, .int .i64 0, .int .i64 0, .int .i64 0, .slice none 0 0] 92) := ⟨_, rfl⟩; rw [← hWB] at HI ⊢; clear hWB hgb; have q0 := (HI.out.cell 0 _ rfl).1; obtain ⟨q1, z1⟩ := HI.out.cell 1 _ rfl; obtain ⟨q2, z2⟩ := HI.out.cell 2 _ rfl; obtain ⟨q3, z3⟩ := HI.out.cell 3 _ rfl; obtain ⟨q4, z4⟩ := HI.out.cell 4 _ rfl; obtain ⟨q5, z5⟩ := HI.out.cell 5 _ rfl; obtain ⟨q6, z6⟩ := HI.out.cell 6 _ rfl; have qr := HI.out.ptr; have qs := HI.out.ptrs; obtain ⟨⟨y0, y1, y2, y3, y4, y5, y6⟩, v0, v1, v2, v3, v4, v5, v6⟩ := HI.out.rest
 go_upto_region 29 with (first | (go_at_call 145; (first | refine (ins_num HI.out ).mono ?_ | refine (ins_num (HI.out.set _ _) ).mono ?_); rintro _ w2 ⟨rfl, hi⟩; clear HI; (try clear q0 q1 q2 q3 q4 q5 q6 z1 z2 z3 z4 z5 z6 qr qs y0 y1 y2 y3 y4 y5 y6 v0 v1 v2 v3 v4 v5 v6); have HI := aM hi; clear hi; have q0 := (HI.out.cell 0 _ rfl).1; obtain ⟨q1, z1⟩ := HI.out.cell 1 _ rfl; obtain ⟨q2, z2⟩ := HI.out.cell 2 _ rfl; obtain ⟨q3, z3⟩ := HI.out.cell 3 _ rfl; obtain ⟨q4, z4⟩ := HI.out.cell 4 _ rfl; obtain ⟨q5, z5⟩ := HI.out.cell 5 _ rfl; obtain ⟨q6, z6⟩ := HI.out.cell 6 _ rfl; have qr := HI.out.ptr; have qs := HI.out.ptrs; obtain ⟨⟨y0, y1, y2, y3, y4, y5, y6⟩, v0, v1, v2, v3, v4, v5, v6⟩ := HI.out.rest) | (go_at_call 46; (first | refine (ins_below HI.out 256 (by decide) (by decide)).mono ?_ | refine (ins_below (HI.out.set _ _) 256 (by decide) (by decide)).mono ?_); rintro _ w2 ⟨rfl, hi⟩; clear HI; (try clear q0 q1 q2 q3 q4 q5 q6 z1 z2 z3 z4 z5 z6 qr qs y0 y1 y2 y3 y4 y5 y6 v0 v1 v2 v3 v4 v5 v6); have HI := aM hi; clear hi; have hwr := HWR.out; have q0 := (HI.out.cell 0 _ rfl).1; obtain ⟨q1, z1⟩ := HI.out.cell 1 _ rfl; obtain ⟨q2, z2⟩ := HI.out.cell 2 _ rfl; obtain ⟨q3, z3⟩ := HI.out.cell 3 _ rfl; obtain ⟨q4, z4⟩ := HI.out.cell 4 _ rfl; obtain ⟨q5, z5⟩ := HI.out.cell 5 _ rfl; obtain ⟨q6, z6⟩ := HI.out.cell 6 _ rfl; have qr := HI.out.ptr; have qs := HI.out.ptrs; obtain ⟨⟨y0, y1, y2, y3, y4, y5, y6⟩, v0, v1, v2, v3, v4, v5, v6⟩ := HI.out.rest))
 have hset := HI.out.set 4 (.int .i64 (sBelow 4096 (sBelow 4096 (sBelow 4096 (sBelow 256 s1).2).2).2).1)
 generalize w2.setCell ⟨gb, 4, none⟩ (.int .i64 (sBelow 4096 (sBelow 4096 (sBelow 4096 (sBelow 256 s1).2).2).2).1) = WL at hset ⊢
 clear HI
 have HI := aM hset
 clear q0 q1 q2 q3 q4 q5 q6 z1 z2 z3 z4 z5 z6 qr qs y0 y1 y2 y3 y4 y5 y6 v0 v1 v2 v3 v4 v5 v6
 clear hset
 have q0 := (HI.out.cell 0 _ rfl).1; obtain ⟨q1, z1⟩ := HI.out.cell 1 _ rfl; obtain ⟨q2, z2⟩ := HI.out.cell 2 _ rfl; obtain ⟨q3, z3⟩ := HI.out.cell 3 _ rfl; obtain ⟨q4, z4⟩ := HI.out.cell 4 _ rfl; obtain ⟨q5, z5⟩ := HI.out.cell 5 _ rfl; obtain ⟨q6, z6⟩ := HI.out.cell 6 _ rfl; have qr := HI.out.ptr; have qs := HI.out.ptrs; obtain ⟨⟨y0, y1, y2, y3, y4, y5, y6⟩, v0, v1, v2, v3, v4, v5, v6⟩ := HI.out.rest
 go_wp2
 have p := HI.out.res; have p0 := fun x0 x1 x2 x3 x4 x5 x6 => cell_at (put7 p x0 x1 x2 x3 x4 x5 x6) 0 _ rfl; have p1 := fun x0 x1 x2 x3 x4 x5 x6 => cell_at (put7 p x0 x1 x2 x3 x4 x5 x6) 1 _ rfl; have p2 := fun x0 x1 x2 x3 x4 x5 x6 => cell_at (put7 p x0 x1 x2 x3 x4 x5 x6) 2 _ rfl; have p3 := fun x0 x1 x2 x3 x4 x5 x6 => cell_at (put7 p x0 x1 x2 x3 x4 x5 x6) 3 _ rfl; have p4 := fun x0 x1 x2 x3 x4 x5 x6 => cell_at (put7 p x0 x1 x2 x3 x4 x5 x6) 4 _ rfl; have p5 := fun x0 x1 x2 x3 x4 x5 x6 => cell_at (put7 p x0 x1 x2 x3 x4 x5 x6) 5 _ rfl; have p6 := fun x0 x1 x2 x3 x4 x5 x6 => cell_at (put7 p x0 x1 x2 x3 x4 x5 x6) 6 _ rfl; (try simp only [Exit.inBlock, Exit.then]); refine bodyPost_ret (by simp [results, Try.results126, go_sem, p0, p1, p2, p3, p4, p5, p6]; try rfl) rfl ?_
 obtain ⟨-, o2, o3, -⟩ := HI.out.out _ _ _ _ _ _ _ _ rfl
 exact ⟨.slice none 0 0, rfl, Kd.R_nil _ _ _ _ _, o2, o3⟩
set_option maxHeartbeats 4000000 in
set_option maxRecDepth 100000 in
theorem rins0 (g b : Nat) (s : St) (w : World) (h : Rd w g b s) (hg : g < w.heap.size) (k : Int) (hk : (sBelow 256 s).1 = k) (hkk : (k == 1) = false ∧ (k == 2) = false ∧ (k == 3) = false ∧ (k == 4) = false ∧ (k == 5) = false ∧ (k == 6) = false ∧ (k == 7) = false ∧ (k == 8) = false) :
 Calls Try.prog 126 #[.pointer (some ⟨g, 0, none⟩)] w fun e w' => ∃ v, e = .returned (insVal ((((k, 0, 0, 0, 0, 0, []), sFail 20 (sBelow 256 s).2) : Ins × St)).1 v) ∧ kI.R 3 w' w.heap.size (fun _ => True) v ((((k, 0, 0, 0, 0, 0, []), sFail 20 (sBelow 256 s).2) : Ins × St)).1.2.2.2.2.2.2 ∧ Rd w' g b ((((k, 0, 0, 0, 0, 0, []), sFail 20 (sBelow 256 s).2) : Ins × St)).2 ∧ Keep (· = g) w w' := by
 have mixed : Try.prog.follows .mixedOrders = true := by kernel_rfl
 have H := aM h
 have HE := aM hk
 have HWK := aM (show IntKind.u8.wrap k = k from by have := below_range (m := 256) (s := s) (by decide) h.2.1; rw [hk] at this; exact wraps_u8' _ this.1 this.2)
 obtain ⟨s1, hs1⟩ : ∃ s1, (sBelow 256 s).2 = s1 := ⟨_, rfl⟩
 rw [hs1]
 have HS1 := aM hs1
 obtain ⟨k1, k2, k3, k4, k5, k6, k7, k8⟩ := hkk
 clear h hk hs1
 go_enter Try.func126, Try.ntmps126
 go_upto_region 2 with (go_at_call 46; refine (rd_below g b s 256 _ (H.out.below (((Below.refl _ _).alloc (Nat.le_refl _) _).alloc (by simp) _)) (by decide) (by decide)).mono ?_; rintro _ w1 ⟨rfl, hd, hk, hs⟩; have hwk := HWK.out; rw [HE.out]; rw [HS1.out] at hd; have HD := aM hd; have HK := aM hk; clear hd hk hs)
 have HI := aM (ins_start (F := #[.int .u8 k, .int .u8 0, .int .i64 0, .int .i64 0, .int .i64 0, .int .i64 0, .slice none 0 0]) HK.out HD.out hg H.out.2.2 rfl rfl rfl rfl); clear HD HK; obtain ⟨gb, hgb⟩ : ∃ gb, w1.heap.size = gb := ⟨_, rfl⟩; rw [hgb] at HI ⊢; obtain ⟨WB, hWB⟩ : ∃ WB, WB = w1.alloc (.cells #[.int .u8 k, .int .u8 0, .int .i64 0, .int .i64 0, .int .i64 0, .int .i64 0, .slice none 0 0] 92) := ⟨_, rfl⟩; rw [← hWB] at HI ⊢; clear hWB hgb; have q0 := (HI.out.cell 0 _ rfl).1; obtain ⟨q1, z1⟩ := HI.out.cell 1 _ rfl; obtain ⟨q2, z2⟩ := HI.out.cell 2 _ rfl; obtain ⟨q3, z3⟩ := HI.out.cell 3 _ rfl; obtain ⟨q4, z4⟩ := HI.out.cell 4 _ rfl; obtain ⟨q5, z5⟩ := HI.out.cell 5 _ rfl; obtain ⟨q6, z6⟩ := HI.out.cell 6 _ rfl; have qr := HI.out.ptr; have qs := HI.out.ptrs; obtain ⟨⟨y0, y1, y2, y3, y4, y5, y6⟩, v0, v1, v2, v3, v4, v5, v6⟩ := HI.out.rest
 go_upto_region 29 with (go_at_call 94; (first | refine (ins_fail HI.out 20).mono ?_ | refine (ins_fail (HI.out.set _ _) 20).mono ?_); rintro _ w2 ⟨rfl, hi⟩; clear HI; (try clear q0 q1 q2 q3 q4 q5 q6 z1 z2 z3 z4 z5 z6 qr qs y0 y1 y2 y3 y4 y5 y6 v0 v1 v2 v3 v4 v5 v6); have HI := aM hi; clear hi; have q0 := (HI.out.cell 0 _ rfl).1; obtain ⟨q1, z1⟩ := HI.out.cell 1 _ rfl; obtain ⟨q2, z2⟩ := HI.out.cell 2 _ rfl; obtain ⟨q3, z3⟩ := HI.out.cell 3 _ rfl; obtain ⟨q4, z4⟩ := HI.out.cell 4 _ rfl; obtain ⟨q5, z5⟩ := HI.out.cell 5 _ rfl; obtain ⟨q6, z6⟩ := HI.out.cell 6 _ rfl; have qr := HI.out.ptr; have qs := HI.out.ptrs; obtain ⟨⟨y0, y1, y2, y3, y4, y5, y6⟩, v0, v1, v2, v3, v4, v5, v6⟩ := HI.out.rest)
 go_wp2
 have p := HI.out.res; have p0 := fun x0 x1 x2 x3 x4 x5 x6 => cell_at (put7 p x0 x1 x2 x3 x4 x5 x6) 0 _ rfl; have p1 := fun x0 x1 x2 x3 x4 x5 x6 => cell_at (put7 p x0 x1 x2 x3 x4 x5 x6) 1 _ rfl; have p2 := fun x0 x1 x2 x3 x4 x5 x6 => cell_at (put7 p x0 x1 x2 x3 x4 x5 x6) 2 _ rfl; have p3 := fun x0 x1 x2 x3 x4 x5 x6 => cell_at (put7 p x0 x1 x2 x3 x4 x5 x6) 3 _ rfl; have p4 := fun x0 x1 x2 x3 x4 x5 x6 => cell_at (put7 p x0 x1 x2 x3 x4 x5 x6) 4 _ rfl; have p5 := fun x0 x1 x2 x3 x4 x5 x6 => cell_at (put7 p x0 x1 x2 x3 x4 x5 x6) 5 _ rfl; have p6 := fun x0 x1 x2 x3 x4 x5 x6 => cell_at (put7 p x0 x1 x2 x3 x4 x5 x6) 6 _ rfl; (try simp only [Exit.inBlock, Exit.then]); refine bodyPost_ret (by simp [results, Try.results126, go_sem, p0, p1, p2, p3, p4, p5, p6]; try rfl) rfl ?_
 obtain ⟨-, o2, o3, -⟩ := HI.out.out _ _ _ _ _ _ _ _ rfl
 exact ⟨.slice none 0 0, rfl, Kd.R_nil _ _ _ _ _, o2, o3⟩
end Go.Proofs.Ytnckonglodmfeaa.Ik
namespace Go.Proofs.Ytnckonglodmfeaa.Gc
open Go.RowKit Go.Proofs.YtnckonglodmfeaaW.PrintWords Go.Proofs.YtnckonglodmfeaaW.PrintLast Go.Proofs.YtnckonglodmfeaaW.PrintMore B Ls Gs S R
end Go.Proofs.Ytnckonglodmfeaa.Gc
namespace Go.Proofs.Ytnckonglodmfeaa.Ik
open Ls Lc Go.RowKit Go.Proofs.YtnckonglodmfeaaW.PrintWords Go.Proofs.YtnckonglodmfeaaW.PrintLast Go.Proofs.YtnckonglodmfeaaW.PrintMore B R S Is Js Gs Gc
theorem takeL_by {b : List Int} (h : By b) : By (takeL b).2.1 := by
 match b, h with
 | [], _ => intro x hx; cases hx
 | [_], _ => intro x hx; cases hx
 | m :: k :: r, h =>
  have hr : By r := fun x hx => h x (by simp [hx])
  simp only [takeL]
  repeat' split
  all_goals first | (intro x hx; cases hx; done) | exact By.take (By.drop hr _) _
theorem takeL_len (b : List Int) : (takeL b).2.1.length ≤ b.length := by
 match b with
 | [] => simp [takeL]
 | [_] => simp [takeL]
 | m :: k :: r =>
  simp only [takeL]
  repeat' split
  all_goals (simp only [List.length_nil, List.length_take, List.length_drop, List.length_cons]; omega)
def OpenRet (T : Nat) (w w' : World) (x : List Int × Int) (r : Ending) : Prop :=
 (x.2 ≠ 0 ∧ r = .returned (.tuple #[.pointer none, .int .i64 x.2])) ∨ (x.2 = 0 ∧ ∃ g b, r = .returned (.tuple #[.pointer (some ⟨g, 0, none⟩), .int .i64 0]) ∧ Rdr T w' g b x.1 0 ∧ By x.1 ∧ w.heap.size ≤ g ∧ g < w'.heap.size ∧ b < w'.heap.size ∧ x.1.length ≤ 1000000)
theorem open_eq {kind k sz er : Int} {b body : List Int} {n : Nat} (hn : b.length = n) (ht : takeL b = (k, body, sz, er)) : openL kind b = if er ≠ 0 then ([], er) else if sz ≠ n then ([], 5) else if k ≠ kind then ([], 20) else (body, 0) := by
 simp only [openL, ht, hn]
set_option maxHeartbeats 1000000 in
set_option maxRecDepth 100000 in
theorem wopen_calls (kind : Int) (A : Option Addr) (c : Nat) (b : List Int) (n : Nat) (hn : b.length = n) (w : World) (hC : kU8.C w A n b) (hc : n ≤ c) (hby : By b) (hl : n ≤ 1000000) :
 Calls Try.prog 45 #[.slice A n c, .int .u8 kind] w fun e w' => OpenRet 170 w w' (openL kind b) e ∧ Below w.heap.size w w' := by
 obtain ⟨k, body, sz, er, ht⟩ : ∃ k body sz er, takeL b = (k, body, sz, er) := ⟨_, _, _, _, rfl⟩
 rw [open_eq hn ht]
 have hbb := takeL_by hby
 have hbl := takeL_len b
 rw [ht] at hbb hbl
 have HBL := aM (show body.length ≤ 1000000 by simp only at hbl; omega)
 have HBB := aM hbb
 have HT := aM ht
 have HN := aM hn
 have HC := aM hC
 have HBY := aM hby
 clear hbb hbl ht hn hC hby
 by_cases h1 : er = 0
 case neg =>
  rw [if_pos h1]
  have hb1 : (er == 0) = false := beq_eq_false_iff_ne.mpr h1
  have hb2 : (er != 0) = true := bne_iff_ne.mpr h1
  have H1 := aM h1
  clear h1
  go_enter Try.func45, Try.ntmps45
  go_wp2_with (go_at_call 92; refine (take_n A c b n HN.out k body sz er HT.out _ HC.out hc HBY.out hl).mono ?_; rintro e w2 ⟨A2, c2, rfl, -, hC2, hlc2, hb⟩; have HC2 := aM hC2; have HB2 := aM hb; clear hC2 hb)
  go_returns
  exact ⟨.inl ⟨H1.out, rfl⟩, HB2.out⟩
 subst h1
 rw [if_neg (by simp)]
 by_cases h2 : sz = n
 case neg =>
  rw [if_pos h2]
  have hb1 : (sz == (n : Int)) = false := beq_eq_false_iff_ne.mpr h2
  have hb2 : (sz != (n : Int)) = true := bne_iff_ne.mpr h2
  clear h2
  go_enter Try.func45, Try.ntmps45
  go_wp2_with (go_at_call 92; refine (take_n A c b n HN.out k body sz 0 HT.out _ HC.out hc HBY.out hl).mono ?_; rintro e w2 ⟨A2, c2, rfl, -, hC2, hlc2, hb⟩; have HC2 := aM hC2; have HB2 := aM hb; clear hC2 hb)
  go_returns
  exact ⟨.inl ⟨by decide, rfl⟩, HB2.out⟩
 subst h2
 rw [if_neg (by simp)]
 by_cases h3 : k = kind
 case neg =>
  rw [if_pos h3]
  have hb1 : (k == kind) = false := beq_eq_false_iff_ne.mpr h3
  have hb2 : (k != kind) = true := bne_iff_ne.mpr h3
  clear h3
  go_enter Try.func45, Try.ntmps45
  go_wp2_with (go_at_call 92; refine (take_n A c b n HN.out k body n 0 HT.out _ HC.out hc HBY.out hl).mono ?_; rintro e w2 ⟨A2, c2, rfl, -, hC2, hlc2, hb⟩; have HC2 := aM hC2; have HB2 := aM hb; clear hC2 hb)
  go_returns
  exact ⟨.inl ⟨by decide, rfl⟩, HB2.out⟩
 subst h3
 rw [if_neg (by simp)]
 go_enter Try.func45, Try.ntmps45
 go_wp2_with (first | (go_at_call 92; refine (take_n A c b n HN.out k body n 0 HT.out _ HC.out hc HBY.out hl).mono ?_; rintro e w2 ⟨A2, c2, rfl, -, hC2, hlc2, hb⟩; have HC2 := aM hC2; have HB2 := aM hb; clear hC2 hb) | (go_at_call 93; refine (Lc.new_calls A2 c2 body _ HC2.out (by have := HBL.out; omega)).mono ?_; rintro e1 w3 ⟨g, b1, rfl, hr1, hb1, hg1, hbb, hbl⟩; have HR1 := aM hr1; have HB1 := aM hb1; clear hr1 hb1))
 go_returns
 have hz := HB2.out.size
 exact ⟨.inr ⟨rfl, g, b1, rfl, HR1.out, HBB.out, by omega, HR1.out.lt, hbl, HBL.out⟩, HB2.out.trans (HB1.out.mono hz)⟩
end Go.Proofs.Ytnckonglodmfeaa.Ik
namespace Go.Proofs.Ytnckonglodmfeaa.Ik
open Ls Lc Go.RowKit Go.Proofs.YtnckonglodmfeaaW.PrintWords Go.Proofs.YtnckonglodmfeaaW.PrintLast Go.Proofs.YtnckonglodmfeaaW.PrintMore B R S Is Js
set_option maxHeartbeats 4000000 in
set_option maxRecDepth 100000 in
theorem rins6 (g b : Nat) (s : St) (w : World) (h : Rd w g b s) (hg : g < w.heap.size) (hk : (sBelow 256 s).1 = 6) :
 Calls Try.prog 126 #[.pointer (some ⟨g, 0, none⟩)] w fun e w' => ∃ v, e = .returned (insVal (sBody 6 (sBelow 256 s).2).1 v) ∧ kI.R 3 w' w.heap.size (fun _ => True) v (sBody 6 (sBelow 256 s).2).1.2.2.2.2.2.2 ∧ Rd w' g b (sBody 6 (sBelow 256 s).2).2 ∧ Keep (· = g) w w' := by
 have mixed : Try.prog.follows .mixedOrders = true := by kernel_rfl
 have H := aM h
 have HE := aM hk
 have HWK := aM (trivial)
 obtain ⟨s1, hs1⟩ : ∃ s1, (sBelow 256 s).2 = s1 := ⟨_, rfl⟩
 rw [hs1]
 have HS1 := aM hs1
 have hby1 : By s1.1 := by rw [← hs1]; exact sbelow_by h.2.1
 obtain ⟨d, s2, hd⟩ : ∃ d s2, sBelow 4096 s1 = (d, s2) := ⟨_, _, rfl⟩
 obtain ⟨nn, s3, hn⟩ : ∃ n s3, sInt s2 = (n, s3) := ⟨_, _, rfl⟩
 obtain ⟨c, s4, hc⟩ : ∃ c s4, sBelow 4 s3 = (c, s4) := ⟨_, _, rfl⟩
 have hby2 : By s2.1 := by have := sbelow_by (m := 4096) hby1; rw [hd] at this; exact this
 have hby3 : By s3.1 := by have := sint_by hby2; rw [hn] at this; exact this
 have hc4 := below_range (m := 4) (by decide) hby3
 rw [hc] at hc4
 obtain ⟨N, hN⟩ : ∃ N : Nat, c = (N : Int) := ⟨c.toNat, by simp only at hc4; omega⟩
 subst hN
 have hN4 : N < 4 := by simp only at hc4; omega
 have hbody : sBody 6 s1 = ((6, 0, d, 0, 0, nn, (sReps N s4).1), (sReps N s4).2) := by
  show sField (sField (sField ((6, 0, 0, 0, 0, 0, []), s1) 68) 78) 82 = _
  simp [sField, hd, hn, sArgs, hc]
 rw [hbody]
 have HDD := aM hd
 have HNN := aM hn
 have HCC := aM hc
 clear h hk hs1 hd hn hc hc4 hbody hby1 hby2 hby3
 go_enter Try.func126, Try.ntmps126
 go_upto_region 2 with (go_at_call 46; refine (rd_below g b s 256 _ (H.out.below (((Below.refl _ _).alloc (Nat.le_refl _) _).alloc (by simp) _)) (by decide) (by decide)).mono ?_; rintro _ w1 ⟨rfl, hd, hk, hs⟩; have hwk := HWK.out; rw [HE.out]; rw [HS1.out] at hd; have HD := aM hd; have HK := aM hk; clear hd hk hs)
 have HI := aM (ins_start (F := #[.int .u8 6, .int .u8 0, .int .i64 0, .int .i64 0, .int .i64 0, .int .i64 0, .slice none 0 0]) HK.out HD.out hg H.out.2.2 rfl rfl rfl rfl); clear HD HK; obtain ⟨gb, hgb⟩ : ∃ gb, w1.heap.size = gb := ⟨_, rfl⟩; rw [hgb] at HI ⊢; obtain ⟨WB, hWB⟩ : ∃ WB, WB = w1.alloc (.cells #[.int .u8 6, .int .u8 0, .int .i64 0, .int .i64 0, .int .i64 0, .int .i64 0, .slice none 0 0] 92) := ⟨_, rfl⟩; rw [← hWB] at HI ⊢; clear hWB hgb; have q0 := (HI.out.cell 0 _ rfl).1; obtain ⟨q1, z1⟩ := HI.out.cell 1 _ rfl; obtain ⟨q2, z2⟩ := HI.out.cell 2 _ rfl; obtain ⟨q3, z3⟩ := HI.out.cell 3 _ rfl; obtain ⟨q4, z4⟩ := HI.out.cell 4 _ rfl; obtain ⟨q5, z5⟩ := HI.out.cell 5 _ rfl; obtain ⟨q6, z6⟩ := HI.out.cell 6 _ rfl; have qr := HI.out.ptr; have qs := HI.out.ptrs; obtain ⟨⟨y0, y1, y2, y3, y4, y5, y6⟩, v0, v1, v2, v3, v4, v5, v6⟩ := HI.out.rest
 go_wp2_with (first
  | (go_at_call 145; (first | refine (ins_num HI.out ).mono ?_ | refine (ins_num (HI.out.set _ _) ).mono ?_); rintro _ w2 ⟨rfl, hi⟩; clear HI; clear q0 q1 q2 q3 q4 q5 q6 z1 z2 z3 z4 z5 z6 qr qs y0 y1 y2 y3 y4 y5 y6 v0 v1 v2 v3 v4 v5 v6; rw [HDD.out] at hi ⊢; have HI := aM hi; clear hi; have q0 := (HI.out.cell 0 _ rfl).1; obtain ⟨q1, z1⟩ := HI.out.cell 1 _ rfl; obtain ⟨q2, z2⟩ := HI.out.cell 2 _ rfl; obtain ⟨q3, z3⟩ := HI.out.cell 3 _ rfl; obtain ⟨q4, z4⟩ := HI.out.cell 4 _ rfl; obtain ⟨q5, z5⟩ := HI.out.cell 5 _ rfl; obtain ⟨q6, z6⟩ := HI.out.cell 6 _ rfl; have qr := HI.out.ptr; have qs := HI.out.ptrs; obtain ⟨⟨y0, y1, y2, y3, y4, y5, y6⟩, v0, v1, v2, v3, v4, v5, v6⟩ := HI.out.rest)
  | (go_at_call 146; (first | refine (ins_int HI.out ).mono ?_ | refine (ins_int (HI.out.set _ _) ).mono ?_); rintro _ w2 ⟨rfl, hi⟩; clear HI; clear q0 q1 q2 q3 q4 q5 q6 z1 z2 z3 z4 z5 z6 qr qs y0 y1 y2 y3 y4 y5 y6 v0 v1 v2 v3 v4 v5 v6; rw [HNN.out] at hi ⊢; have HI := aM hi; clear hi; have q0 := (HI.out.cell 0 _ rfl).1; obtain ⟨q1, z1⟩ := HI.out.cell 1 _ rfl; obtain ⟨q2, z2⟩ := HI.out.cell 2 _ rfl; obtain ⟨q3, z3⟩ := HI.out.cell 3 _ rfl; obtain ⟨q4, z4⟩ := HI.out.cell 4 _ rfl; obtain ⟨q5, z5⟩ := HI.out.cell 5 _ rfl; obtain ⟨q6, z6⟩ := HI.out.cell 6 _ rfl; have qr := HI.out.ptr; have qs := HI.out.ptrs; obtain ⟨⟨y0, y1, y2, y3, y4, y5, y6⟩, v0, v1, v2, v3, v4, v5, v6⟩ := HI.out.rest)
  | (go_at_call 46; (first | refine (ins_below HI.out 4 (by decide) (by decide)).mono ?_ | refine (ins_below (HI.out.set _ _) 4 (by decide) (by decide)).mono ?_); rintro _ w2 ⟨rfl, hi⟩; clear HI; clear q0 q1 q2 q3 q4 q5 q6 z1 z2 z3 z4 z5 z6 qr qs y0 y1 y2 y3 y4 y5 y6 v0 v1 v2 v3 v4 v5 v6; rw [HCC.out] at hi ⊢; have HI := aM hi; clear hi))
 obtain ⟨F, hF⟩ : ∃ F : Value → Array Value, F = fun va => #[.int .u8 6, .int .u8 0, .int .i64 d, .int .i64 0, .int .i64 0, .int .i64 nn, va] := ⟨_, rfl⟩
 have hi := HI.out
 rw [show ((#[Value.int .u8 6, .int .u8 0, .int .i64 0, .int .i64 0, .int .i64 0, .int .i64 0, .slice none 0 0].setIfInBounds 2 (.int .i64 d)).setIfInBounds 5 (.int .i64 nn)) = F (.slice none 0 0) from by rw [hF]; rfl] at hi
 have HF := aM hF
 have HF6 := aM (show ∀ va, (F va)[6]? = some va from fun va => by rw [hF]; rfl)
 have HFS := aM (show ∀ va vb, (F va).setIfInBounds 6 vb = F vb from fun va vb => by rw [hF]; rfl)
 have HI0 := aM hi
 clear hi hF HI
 go_loopw [66] (fun vi wr => ∃ j : Nat, j ≤ N ∧ vi = .int .i64 j ∧ ∃ va, Aside0 (InsS w wr g b w.heap.size gb (sReps j s4).2 (F va)) ∧ Aside0 (kI.R 3 wr (gb + 1) (fun k => gb < k) va (sReps j s4).1)) (fun vi _ => N - (intOf vi).toNat)
 case atStart => exact ⟨0, by omega, rfl, .slice none 0 0, HI0, ⟨Kd.R_nil _ _ _ _ _⟩⟩
 case round =>
  clear HI0
  obtain ⟨j, hj, rfl, va, HI, HV⟩ := hrel
  by_cases hjl : j < N
  · obtain ⟨x, hx⟩ : ∃ x, (sBelow 4096 (sReps j s4).2).1 = x := ⟨_, rfl⟩
    obtain ⟨xs, hxs⟩ : ∃ xs, (sReps j s4).1 = xs := ⟨_, rfl⟩
    have hlen : xs.length ≤ 10 := by rw [← hxs, reps_len]; omega
    rw [hxs] at HV
    have HX := aM hx
    have HXS := aM hxs
    clear hx hxs
    have HC6 := aM (show ∀ W', Keep (fun i => i = g ∨ gb < i) wr.drew W' → W'.heap[gb]? = some (.cells (F va) 92 (0, 0)) from fun W' h => (h.block gb (blk_lt HI.out.bx) (fun e => by have := HI.out.hg; have := HI.out.hgb; omega)).trans HI.out.bx)
    have qr := HI.out.ptr
    go_wp2_with fail
    refine re_start [7] (fun i => i = g ∨ gb < i) (by kernel_rfl) (n := 8) (l := (bl 8 0)) (by kernel_rfl) (by kernel_rfl) ?_
    refine et 0 (bl 8 1) rfl (fun w' hR => by go_simp; first | done | with_reducible rfl) rfl ?_
    try simp only [Act.put, pB, pC, pD]
    refine et 1 (bl 8 3) rfl (fun w' hR => by have x0 := cell_at (HC6.out w' hR) 6 va (HF6.out va); go_simp; first | done | with_reducible rfl) rfl ?_
    try simp only [Act.put, pB, pC, pD]
    refine et 2 (bl 8 7) rfl (fun w' hR => by go_simp; first | done | with_reducible rfl) rfl ?_
    try simp only [Act.put, pB, pC, pD]
    refine re_step (fuel := 4) 3 rfl (by kernel_rfl) (listed' := (bl 8 15)) (by kernel_rfl) (by kernel_rfl) (fun K' hK => ?_)
    go_wp2_with (go_at_call 145; refine (insnum_calls g b w.heap.size _ wr.drew HI.out.drew.rd HI.out.drew.ptr).mono ?_; rintro _ w3 ⟨rfl, hd, hk, -⟩; rw [HX.out]; have HD3 := aM hd; have HK3 := aM hk; clear hd hk)
    refine hK.out _ _ (HK3.out.mono (fun i _ h => .inl h)) ?_
    clear hK K'
    try simp only [Act.put, pB, pC, pD]
    refine re_step (fuel := 3) 4 rfl (by kernel_rfl) (listed' := (bl 8 31)) (by kernel_rfl) (by kernel_rfl) (fun K' hK => ?_)
    (go_wp2_with fail); have HD4 := aM (HD3.out.below ((Below.refl w3.heap.size w3).alloc (Nat.le_refl _) (.cells #[.int .i64 x] 3)))
    refine hK.out _ _ (Keep.of_below ((Below.refl w3.heap.size w3).alloc (Nat.le_refl _) (.cells #[.int .i64 x] 3))) ?_
    clear hK K'
    try simp only [Act.put, pB, pC, pD]
    refine re_step (fuel := 2) 5 rfl (by kernel_rfl) (listed' := (bl 8 63)) (by kernel_rfl) (by kernel_rfl) (fun K' hK => ?_)
    refine R_append_wp kI (W := w3) (gb + 1) (.tmp 69) (.tmp 72) 31 3 (.int .i64 0) 8 rfl Try.underlying31 infoI rfl (by decide) (by decide) va xs x [.int .i64 x] (fun k => gb < k) (fun _ => False) rfl rfl rfl (fun _ h => h.elim) (fun k hk => ?_) (Kd.R_step HV.out (fun k hk hl => HK3.out.block k hl (fun e => by have := HI.out.hg; have := HI.out.hgb; omega))) ?_ (by omega) ?_; (have := HK3.out.size; have := blk_lt HI.out.bx; exact Nat.lt_of_lt_of_le this (Nat.le_trans HK3.out.size hk)); (have := HK3.out.size; have := blk_lt HI.out.bx; exact Nat.lt_of_lt_of_le this HK3.out.size); intro v4 w4 ho4 hg4 hg4' hat4; obtain ⟨A4, c4, hv4, -, -⟩ := Kd.R_reads ho4; obtain ⟨m4, hm4⟩ : ∃ m4, (xs ++ [x]).length = m4 := ⟨_, rfl⟩; rw [hm4] at hv4; subst hv4; clear hm4; have HO4 := aM ho4; have HK4 := aM (show Keep (fun i => gb < i) (w3.alloc (.cells #[.int .i64 x] 3)) w4 from grown_keep hg4' (fun i hi => HV.out.1 i hi)); clear ho4 hg4 hg4' hat4
    refine hK.out _ _ (HK4.out.mono (fun i _ h => .inr h)) ?_
    clear hK K'
    try simp only [Act.put, pB, pC, pD]
    refine et 6 (bl 8 127) rfl (fun w' hR => by go_simp; first | done | with_reducible rfl) rfl ?_
    try simp only [Act.put, pB, pC, pD]
    refine re_free (fuel := 0) 7 rfl (by kernel_rfl) (listed' := (bl 8 255)) (by kernel_rfl) (by kernel_rfl) (fun K' hK => ?_)
    have hk4 : Keep (fun i => i = g ∨ gb < i) wr.drew w4 := ((HK3.out.mono (fun i _ h => .inl h)).trans (Keep.of_below ((Below.refl w3.heap.size w3).alloc (Nat.le_refl _) (.cells #[.int .i64 x] 3)))).trans (HK4.out.mono (fun i _ h => .inr h)); have hh := HC6.out w4 hk4; have x7 := cell_at hh 6 va (HF6.out va); have x8 := blk_frozen hh 6; have HKW := aM hk4; clear hk4 hh; go_wp2_with fail
    refine hK.out _ _ trivial ?_
    clear hK K'
    try simp only [Act.put, pB, pC, pD]
    refine re_done (by kernel_rfl) ?_
    have hrd : Rd w4 g b (sBelow 4096 (sReps j s4).2).2 := HD4.out.keep HK4.out (fun e => by have := HI.out.hg; have := HI.out.hgb; omega) (fun e => by have := HI.out.hb; have := HI.out.hgb; omega)
    have hin := (HI.out.drew.move HKW.out hrd).set 6 (.slice A4 m4 c4)
    rw [HFS.out] at hin
    have HIN := aM hin
    have HRN := aM (show kI.R 3 (w4.setCell ⟨gb, 6, none⟩ (.slice A4 m4 c4)) (gb + 1) (fun k => gb < k) (.slice A4 m4 c4) (xs ++ [x]) from Kd.R_step HO4.out (fun k hk hl => Below.heap_setCell _ _ _ _ (show k ≠ gb by omega)))
    have HSR := aM (show sReps (j + 1) s4 = (xs ++ [x], (sBelow 4096 (sReps j s4).2).2) by rw [sReps, HXS.out, HX.out])
    clear hrd hin
    go_wp2
    go_roundw
    case rel => exact ⟨j + 1, by omega, by go_num, .slice A4 m4 c4, ⟨by rw [HSR.out]; exact HIN.out⟩, ⟨by rw [HSR.out]; exact HRN.out⟩⟩
    case measure => simp [intOf]; omega
  · obtain rfl : j = N := by omega
    obtain rfl := HF.out
    obtain ⟨Av, cv, hv, -, -⟩ := Kd.R_reads HV.out
    obtain ⟨mv, hm⟩ : ∃ m, (sReps j s4).1.length = m := ⟨_, rfl⟩
    rw [hm] at hv
    subst hv
    clear hm
    have q0 := (HI.out.cell 0 _ rfl).1; obtain ⟨q1, z1⟩ := HI.out.cell 1 _ rfl; obtain ⟨q2, z2⟩ := HI.out.cell 2 _ rfl; obtain ⟨q3, z3⟩ := HI.out.cell 3 _ rfl; obtain ⟨q4, z4⟩ := HI.out.cell 4 _ rfl; obtain ⟨q5, z5⟩ := HI.out.cell 5 _ rfl; obtain ⟨q6, z6⟩ := HI.out.cell 6 _ rfl; have qr := HI.out.ptr; have qs := HI.out.ptrs; obtain ⟨⟨y0, y1, y2, y3, y4, y5, y6⟩, v0, v1, v2, v3, v4, v5, v6⟩ := HI.out.rest
    go_wp2
    have p := HI.out.res; have p0 := fun x0 x1 x2 x3 x4 x5 x6 => cell_at (put7 p x0 x1 x2 x3 x4 x5 x6) 0 _ rfl; have p1 := fun x0 x1 x2 x3 x4 x5 x6 => cell_at (put7 p x0 x1 x2 x3 x4 x5 x6) 1 _ rfl; have p2 := fun x0 x1 x2 x3 x4 x5 x6 => cell_at (put7 p x0 x1 x2 x3 x4 x5 x6) 2 _ rfl; have p3 := fun x0 x1 x2 x3 x4 x5 x6 => cell_at (put7 p x0 x1 x2 x3 x4 x5 x6) 3 _ rfl; have p4 := fun x0 x1 x2 x3 x4 x5 x6 => cell_at (put7 p x0 x1 x2 x3 x4 x5 x6) 4 _ rfl; have p5 := fun x0 x1 x2 x3 x4 x5 x6 => cell_at (put7 p x0 x1 x2 x3 x4 x5 x6) 5 _ rfl; have p6 := fun x0 x1 x2 x3 x4 x5 x6 => cell_at (put7 p x0 x1 x2 x3 x4 x5 x6) 6 _ rfl; (try simp only [Exit.inBlock, Exit.then]); refine bodyPost_ret (by simp [results, Try.results126, go_sem, p0, p1, p2, p3, p4, p5, p6]; try rfl) rfl ?_
    obtain ⟨-, o2, o3, o4⟩ := HI.out.out _ _ _ _ _ _ _ _ rfl
    have h3 := HI.out.hgb
    exact ⟨.slice Av mv cv, rfl, Kd.R_lower (Kd.R_mono (Kd.R_step HV.out (fun k hk hl => o4.block k hl (fun e => by have e : k = w.heap.size + 1 := e; omega))) (fun _ _ => trivial)) (by omega), o2, o3⟩
theorem wread_ins (g b : Nat) (s : St) (w : World) (h : Rd w g b s) (hg : g < w.heap.size) : Calls Try.prog 126 #[.pointer (some ⟨g, 0, none⟩)] w fun e w' => ∃ v, e = .returned (insVal (sIns s).1 v) ∧ kI.R 3 w' w.heap.size (fun _ => True) v (sIns s).1.2.2.2.2.2.2 ∧ Rd w' g b (sIns s).2 ∧ Keep (· = g) w w' := by
 rcases kinds (sBelow 256 s).1 with hk | hk | hk | hk | hk | hk | hk | hk | hk
 · rw [show sIns s = sBody 1 (sBelow 256 s).2 by simp [sIns, hk]]; exact rins1 g b s w h hg hk
 · rw [show sIns s = sBody 2 (sBelow 256 s).2 by simp [sIns, hk]]; exact rins2 g b s w h hg hk
 · rw [show sIns s = sBody 3 (sBelow 256 s).2 by simp [sIns, hk]]; exact rins3 g b s w h hg hk
 · rw [show sIns s = sBody 4 (sBelow 256 s).2 by simp [sIns, hk]]; exact rins4 g b s w h hg hk
 · rw [show sIns s = sBody 5 (sBelow 256 s).2 by simp [sIns, hk]]; exact rins5 g b s w h hg hk
 · rw [show sIns s = sBody 6 (sBelow 256 s).2 by simp [sIns, hk]]; exact rins6 g b s w h hg hk
 · rw [show sIns s = sBody 7 (sBelow 256 s).2 by simp [sIns, hk]]; exact rins7 g b s w h hg hk
 · rw [show sIns s = sBody 8 (sBelow 256 s).2 by simp [sIns, hk]]; exact rins8 g b s w h hg hk
 · have hk' := hk
   simp only [beq_eq_false_iff_ne] at hk'
   rw [show sIns s = (((sBelow 256 s).1, 0, 0, 0, 0, 0, []), sFail 20 (sBelow 256 s).2) from if_neg (by omega)]
   exact rins0 g b s w h hg _ rfl hk
end Go.Proofs.Ytnckonglodmfeaa.Ik
namespace Go.Proofs.Ytnckonglodmfeaa.Ik
open Ls Lc Go.RowKit Go.Proofs.YtnckonglodmfeaaW.PrintWords Go.Proofs.YtnckonglodmfeaaW.PrintLast Go.Proofs.YtnckonglodmfeaaW.PrintMore B R S Is Js
def endV (e : IEnd) : Value := .agg #[.int .u8 e.1, .int .i64 e.2.1, .int .i64 e.2.2.1, .int .i64 e.2.2.2]
set_option maxRecDepth 100000 in
theorem endnum_calls (g b gr : Nat) (s : St) (w : World) (h : Rd w g b s) (hr : w.cell? ⟨gr, 0, none⟩ = some (.pointer (some ⟨g, 0, none⟩))) :
 Calls Try.prog 147 #[.pointer (some ⟨gr, 0, none⟩)] w fun e w' => e = .returned (.int .i64 (sBelow 4096 s).1) ∧ Rd w' g b (sBelow 4096 s).2 ∧ Keep (· = g) w w' ∧ w'.heap.size = w.heap.size := by
 have H := aM h
 clear h
 go_enter Try.func147, Try.ntmps147
 go_wp2_with (go_at_call 46; refine (rd_below g b s 4096 _ H.out (by decide) (by decide)).mono ?_; rintro _ w1 ⟨rfl, hd, hk, hs⟩; have HD := aM hd; have HK := aM hk; have HS := aM hs; clear hd hk hs)
 go_ret
 exact ⟨rfl, HD.out, HK.out, HS.out⟩
structure EndS (w0 W : World) (g b gr gb : Nat) (s : St) (F : Array Value) : Prop where
 rd : Rd W g b s
 r : W.heap[gr]? = some (.cells #[.pointer (some ⟨g, 0, none⟩)] 109 (0, 0))
 res : W.heap[gr + 1]? = some (.cells #[.int .u8 0, .int .i64 0, .int .i64 0, .int .i64 0] 82 (0, 0))
 bx : W.heap[gb]? = some (.cells F 82 (0, 0))
 keep : Keep (· = g) w0 W
 base : w0.heap.size = gr
 hg : g < gr
 hb : b < gr
 hgb : gr + 2 ≤ gb
theorem EndS.step {w0 W W' : World} {g b gr gb : Nat} {s s' : St} {F : Array Value} (h : EndS w0 W g b gr gb s F) (hk : Keep (· = g) W W') (hr : Rd W' g b s') : EndS w0 W' g b gr gb s' F := by
 have h1 := h.hg
 have h2 := h.hb
 have h3 := h.hgb
 exact ⟨hr, (hk.block gr (blk_lt h.r) (fun e => by have e : gr = g := e; omega)).trans h.r, (hk.block _ (blk_lt h.res) (fun e => by have e : gr + 1 = g := e; omega)).trans h.res, (hk.block gb (blk_lt h.bx) (fun e => by have e : gb = g := e; omega)).trans h.bx, h.keep.trans hk, h.base, h1, h2, h3⟩
theorem EndS.set {w0 W : World} {g b gr gb : Nat} {s : St} {F : Array Value} (h : EndS w0 W g b gr gb s F) (j : Nat) (x : Value) : EndS w0 (W.setCell ⟨gb, j, none⟩ x) g b gr gb s (F.setIfInBounds j x) := by
 have h1 := h.hg
 have h2 := h.hb
 have h3 := h.hgb
 have hk : Keep (· = gb) W (W.setCell ⟨gb, j, none⟩ x) := (Keep.refl _ _).setCell ⟨gb, j, none⟩ x (fun _ => rfl)
 have ho : ∀ i, i ≠ gb → (W.setCell ⟨gb, j, none⟩ x).heap[i]? = W.heap[i]? := fun i hi => Below.heap_setCell _ _ _ _ hi
 exact ⟨h.rd.keep hk (by omega) (by omega), (ho gr (by omega)).trans h.r, (ho _ (by omega)).trans h.res, heap_setCell_same W gb j F _ _ h.bx, h.keep.setCell _ _ (fun hh => by have hh : gb < w0.heap.size := hh; rw [h.base] at hh; omega), h.base, h1, h2, h3⟩
theorem EndS.cell {w0 W : World} {g b gr gb : Nat} {s : St} {F : Array Value} (h : EndS w0 W g b gr gb s F) (j : Nat) (x : Value) (hx : F[j]? = some x) : W.cell? ⟨gb, j, none⟩ = some x ∧ W.frozen? ⟨gb, j, none⟩ = false := ⟨cell_at h.bx j x hx, blk_frozen h.bx j⟩
theorem EndS.ptr {w0 W : World} {g b gr gb : Nat} {s : St} {F : Array Value} (h : EndS w0 W g b gr gb s F) : W.cell? ⟨gr, 0, none⟩ = some (.pointer (some ⟨g, 0, none⟩)) := cell_at h.r 0 _ rfl
theorem EndS.ptrs {w0 W : World} {g b gr gb : Nat} {s : St} {F : Array Value} (h : EndS w0 W g b gr gb s F) : ∀ j x, (W.setCell ⟨gb, j, none⟩ x).cell? ⟨gr, 0, none⟩ = some (.pointer (some ⟨g, 0, none⟩)) := fun j x => (h.set j x).ptr
theorem end_num {w0 W : World} {g b gr gb : Nat} {s : St} {F : Array Value} (h : EndS w0 W g b gr gb s F) :
 Calls Try.prog 147 #[.pointer (some ⟨gr, 0, none⟩)] W fun e w' => e = .returned (.int .i64 (sBelow 4096 s).1) ∧ EndS w0 w' g b gr gb (sBelow 4096 s).2 F := by
 refine (endnum_calls g b gr s W h.rd h.ptr).mono ?_
 rintro e w' ⟨h1, h2, h3, -⟩
 exact ⟨h1, h.step h3 h2⟩
theorem end_fail {w0 W : World} {g b gr gb : Nat} {s : St} {F : Array Value} (h : EndS w0 W g b gr gb s F) (n : Int) :
 Calls Try.prog 94 #[.pointer (some ⟨g, 0, none⟩), .int .i64 n] W fun e w' => e = .returned (.tuple #[]) ∧ EndS w0 w' g b gr gb (sFail n s) F := by
 refine (rd_fail g b s n W h.rd).mono ?_
 rintro e w' ⟨h1, h2, h3, -⟩
 exact ⟨h1, h.step h3 h2⟩
theorem EndS.rest {w0 W : World} {g b gr gb : Nat} {s : St} {F : Array Value} (h : EndS w0 W g b gr gb s F) : (W.cell? ⟨gr + 1, 0, none⟩ = some (.int .u8 0) ∧ W.cell? ⟨gr + 1, 1, none⟩ = some (.int .i64 0) ∧ W.cell? ⟨gr + 1, 2, none⟩ = some (.int .i64 0) ∧ W.cell? ⟨gr + 1, 3, none⟩ = some (.int .i64 0)) ∧
 W.frozen? ⟨gr + 1, 0, none⟩ = false ∧ W.frozen? ⟨gr + 1, 1, none⟩ = false ∧ W.frozen? ⟨gr + 1, 2, none⟩ = false ∧ W.frozen? ⟨gr + 1, 3, none⟩ = false :=
 ⟨⟨cell_at h.res 0 _ rfl, cell_at h.res 1 _ rfl, cell_at h.res 2 _ rfl, cell_at h.res 3 _ rfl⟩, blk_frozen h.res 0, blk_frozen h.res 1, blk_frozen h.res 2, blk_frozen h.res 3⟩
theorem put4 {W : World} {g e : Nat} {u0 u1 u2 u3 : Value} (h : W.heap[g]? = some (.cells #[u0, u1, u2, u3] e (0, 0))) (x0 x1 x2 x3 : Value) :
 ((((W.setCell ⟨g, 0, none⟩ x0).setCell ⟨g, 1, none⟩ x1).setCell ⟨g, 2, none⟩ x2).setCell ⟨g, 3, none⟩ x3).heap[g]? = some (.cells #[x0, x1, x2, x3] e (0, 0)) := by
 have a0 := blk_put h 0 x0 (show _ = #[x0, u1, u2, u3] from rfl)
 have a1 := blk_put a0 1 x1 (show _ = #[x0, x1, u2, u3] from rfl)
 have a2 := blk_put a1 2 x2 (show _ = #[x0, x1, x2, u3] from rfl)
 exact blk_put a2 3 x3 rfl
theorem put4_far {W : World} {g : Nat} (x0 x1 x2 x3 : Value) : Keep (· = g) W ((((W.setCell ⟨g, 0, none⟩ x0).setCell ⟨g, 1, none⟩ x1).setCell ⟨g, 2, none⟩ x2).setCell ⟨g, 3, none⟩ x3) := by
 have a0 := (Keep.refl (· = g) W).setCell ⟨g, 0, none⟩ x0 (fun _ => rfl)
 have a1 := a0.setCell ⟨g, 1, none⟩ x1 (fun _ => rfl)
 have a2 := a1.setCell ⟨g, 2, none⟩ x2 (fun _ => rfl)
 exact a2.setCell ⟨g, 3, none⟩ x3 (fun _ => rfl)
theorem EndS.out {w0 W : World} {g b gr gb : Nat} {s : St} {F : Array Value} (h : EndS w0 W g b gr gb s F) (x0 x1 x2 x3 : Value) (W' : World) (e : W' = ((((W.setCell ⟨gr + 1, 0, none⟩ x0).setCell ⟨gr + 1, 1, none⟩ x1).setCell ⟨gr + 1, 2, none⟩ x2).setCell ⟨gr + 1, 3, none⟩ x3)) :
 W'.heap[gr + 1]? = some (.cells #[x0, x1, x2, x3] 82 (0, 0)) ∧ Rd W' g b s ∧ Keep (· = g) w0 W' ∧ Keep (· = gr + 1) W W' := by
 have h1 := h.hg
 have h2 := h.hb
 have hk := put4_far (W := W) (g := gr + 1) x0 x1 x2 x3
 subst e
 exact ⟨put4 h.res x0 x1 x2 x3, h.rd.keep hk (by omega) (by omega), h.keep.then hk (fun i hi e => by have e : i = gr + 1 := e; rw [h.base] at hi; omega), hk⟩
theorem EndS.drew {w0 W : World} {g b gr gb : Nat} {s : St} {F : Array Value} (h : EndS w0 W g b gr gb s F) : EndS w0 W.drew g b gr gb s F := ⟨⟨h.rd.1, h.rd.2⟩, h.r, h.res, h.bx, h.keep.drew, h.base, h.hg, h.hb, h.hgb⟩
theorem EndS.move {w0 W W' : World} {g b gr gb : Nat} {s s' : St} {F : Array Value} (h : EndS w0 W g b gr gb s F) (hk : Keep (fun i => i = g ∨ gb < i) W W') (hr : Rd W' g b s') : EndS w0 W' g b gr gb s' F := by
 have h1 := h.hg
 have h2 := h.hb
 have h3 := h.hgb
 exact ⟨hr, (hk.block gr (blk_lt h.r) (fun e => by omega)).trans h.r, (hk.block _ (blk_lt h.res) (fun e => by omega)).trans h.res, (hk.block gb (blk_lt h.bx) (fun e => by omega)).trans h.bx, h.keep.then hk (fun i hi e => by rw [h.base] at hi; omega), h.base, h1, h2, h3⟩
theorem end_start {w w1 : World} {g b : Nat} {s : St} {c1 c2 F : Array Value} {e1 e2 : Nat} (hk : Keep (· = g) ((w.alloc (.cells c1 e1)).alloc (.cells c2 e2)) w1) (hr : Rd w1 g b s) (hg : g < w.heap.size) (hb : b < w.heap.size)
 (h1 : c1 = #[.pointer (some ⟨g, 0, none⟩)]) (h2 : e1 = 109) (h3 : c2 = #[.int .u8 0, .int .i64 0, .int .i64 0, .int .i64 0]) (h4 : e2 = 82) :
 EndS w (w1.alloc (.cells F 82)) g b w.heap.size w1.heap.size s F := by
 subst h1 h2 h3 h4
 have hs := hk.size
 rw [World.size_alloc, World.size_alloc] at hs
 have a1 : w1.heap[w.heap.size]? = some (.cells #[.pointer (some ⟨g, 0, none⟩)] 109 (0, 0)) := by
  rw [hk.block _ (by rw [World.size_alloc, World.size_alloc]; omega) (fun e => by have e : w.heap.size = g := e; omega), heap_alloc_old _ _ (by rw [World.size_alloc]; omega), heap_alloc_new]
 have a2 : w1.heap[w.heap.size + 1]? = some (.cells #[.int .u8 0, .int .i64 0, .int .i64 0, .int .i64 0] 82 (0, 0)) := by
  rw [hk.block _ (by rw [World.size_alloc, World.size_alloc]; omega) (fun e => by have e : w.heap.size + 1 = g := e; omega), ← World.size_alloc w (.cells #[.pointer (some ⟨g, 0, none⟩)] 109), heap_alloc_new]
 have hb2 : Below w1.heap.size w1 (w1.alloc (.cells F 82)) := (Below.refl _ _).alloc (Nat.le_refl _) _
 exact ⟨hr.below hb2, (hb2.block _ (by omega)).trans a1, (hb2.block _ (by omega)).trans a2, heap_alloc_new _ _, ((((Keep.refl (· = g) w).alloc _).alloc _).trans hk).alloc _, rfl, hg, hb, hs⟩
set_option maxHeartbeats 4000000 in
set_option maxRecDepth 100000 in
theorem rend1 (g b : Nat) (s : St) (w : World) (h : Rd w g b s) (hg : g < w.heap.size) (hk : (sBelow 256 s).1 = 1) :
 Calls Try.prog 127 #[.pointer (some ⟨g, 0, none⟩)] w fun e w' => e = .returned (endV (sEnd s).1) ∧ Rd w' g b (sEnd s).2 ∧ Keep (· = g) w w' := by
 have mixed : Try.prog.follows .mixedOrders = true := by kernel_rfl
 have H := aM h
 have HE := aM hk
 have HWK := aM (trivial)
 obtain ⟨s1, hs1⟩ : ∃ s1, (sBelow 256 s).2 = s1 := ⟨_, rfl⟩
 have HS1 := aM hs1
 rw [show sEnd s = ((1, 0, (sBelow 4096 s1).1, 0), (sBelow 4096 s1).2) from by simp [sEnd, show sBelow 256 s = (1, s1) from by rw [← hk, ← hs1]]]
 clear h hk hs1
 go_enter Try.func127, Try.ntmps127
 go_upto_region 2 with (go_at_call 46; refine (rd_below g b s 256 _ (H.out.below (((Below.refl _ _).alloc (Nat.le_refl _) _).alloc (by simp) _)) (by decide) (by decide)).mono ?_; rintro _ w1 ⟨rfl, hd, hk, hs⟩; have hwk := HWK.out; rw [HE.out]; rw [HS1.out] at hd; have HD := aM hd; have HK := aM hk; clear hd hk hs)
 have HI := aM (end_start (F := #[.int .u8 1, .int .i64 0, .int .i64 0, .int .i64 0]) HK.out HD.out hg H.out.2.2 rfl rfl rfl rfl); clear HD HK; obtain ⟨gb, hgb⟩ : ∃ gb, w1.heap.size = gb := ⟨_, rfl⟩; rw [hgb] at HI ⊢; obtain ⟨WB, hWB⟩ : ∃ WB, WB = w1.alloc (.cells #[.int .u8 1, .int .i64 0, .int .i64 0, .int .i64 0] 82) := ⟨_, rfl⟩; rw [← hWB] at HI ⊢; clear hWB hgb; have q0 := (HI.out.cell 0 _ rfl).1; obtain ⟨q1, z1⟩ := HI.out.cell 1 _ rfl; obtain ⟨q2, z2⟩ := HI.out.cell 2 _ rfl; obtain ⟨q3, z3⟩ := HI.out.cell 3 _ rfl; have qr := HI.out.ptr; have qs := HI.out.ptrs; obtain ⟨⟨y0, y1, y2, y3⟩, v0, v1, v2, v3⟩ := HI.out.rest
 go_upto_region 13 with (go_at_call 147; (first | refine (end_num HI.out ).mono ?_ | refine (end_num (HI.out.set _ _) ).mono ?_); rintro _ w2 ⟨rfl, hi⟩; clear HI; (try clear q0 q1 q2 q3 z1 z2 z3 qr qs y0 y1 y2 y3 v0 v1 v2 v3); have HI := aM hi; clear hi; have q0 := (HI.out.cell 0 _ rfl).1; obtain ⟨q1, z1⟩ := HI.out.cell 1 _ rfl; obtain ⟨q2, z2⟩ := HI.out.cell 2 _ rfl; obtain ⟨q3, z3⟩ := HI.out.cell 3 _ rfl; have qr := HI.out.ptr; have qs := HI.out.ptrs; obtain ⟨⟨y0, y1, y2, y3⟩, v0, v1, v2, v3⟩ := HI.out.rest)
 have hset := HI.out.set 2 (.int .i64 (sBelow 4096 s1).1)
 generalize w2.setCell ⟨gb, 2, none⟩ (.int .i64 (sBelow 4096 s1).1) = WL at hset ⊢
 clear HI
 have HI := aM hset
 clear q0 q1 q2 q3 z1 z2 z3 qr qs y0 y1 y2 y3 v0 v1 v2 v3
 clear hset
 have q0 := (HI.out.cell 0 _ rfl).1; obtain ⟨q1, z1⟩ := HI.out.cell 1 _ rfl; obtain ⟨q2, z2⟩ := HI.out.cell 2 _ rfl; obtain ⟨q3, z3⟩ := HI.out.cell 3 _ rfl; have qr := HI.out.ptr; have qs := HI.out.ptrs; obtain ⟨⟨y0, y1, y2, y3⟩, v0, v1, v2, v3⟩ := HI.out.rest
 go_wp2
 have p := HI.out.res; have p0 := fun x0 x1 x2 x3 => cell_at (put4 p x0 x1 x2 x3) 0 _ rfl; have p1 := fun x0 x1 x2 x3 => cell_at (put4 p x0 x1 x2 x3) 1 _ rfl; have p2 := fun x0 x1 x2 x3 => cell_at (put4 p x0 x1 x2 x3) 2 _ rfl; have p3 := fun x0 x1 x2 x3 => cell_at (put4 p x0 x1 x2 x3) 3 _ rfl; (try simp only [Exit.inBlock, Exit.then]); refine bodyPost_ret (by simp [results, Try.results127, go_sem, p0, p1, p2, p3]; try rfl) rfl ?_
 obtain ⟨-, o2, o3, -⟩ := HI.out.out _ _ _ _ _ rfl
 exact ⟨rfl, o2, o3⟩
set_option maxHeartbeats 4000000 in
set_option maxRecDepth 100000 in
theorem rend2 (g b : Nat) (s : St) (w : World) (h : Rd w g b s) (hg : g < w.heap.size) (hk : (sBelow 256 s).1 = 2) :
 Calls Try.prog 127 #[.pointer (some ⟨g, 0, none⟩)] w fun e w' => e = .returned (endV (sEnd s).1) ∧ Rd w' g b (sEnd s).2 ∧ Keep (· = g) w w' := by
 have mixed : Try.prog.follows .mixedOrders = true := by kernel_rfl
 have H := aM h
 have HE := aM hk
 have HWK := aM (trivial)
 obtain ⟨s1, hs1⟩ : ∃ s1, (sBelow 256 s).2 = s1 := ⟨_, rfl⟩
 have HS1 := aM hs1
 rw [show sEnd s = ((2, (sBelow 4096 s1).1, (sBelow 4096 (sBelow 4096 s1).2).1, (sBelow 4096 (sBelow 4096 (sBelow 4096 s1).2).2).1), (sBelow 4096 (sBelow 4096 (sBelow 4096 s1).2).2).2) from by simp [sEnd, show sBelow 256 s = (2, s1) from by rw [← hk, ← hs1]]]
 clear h hk hs1
 go_enter Try.func127, Try.ntmps127
 go_upto_region 2 with (go_at_call 46; refine (rd_below g b s 256 _ (H.out.below (((Below.refl _ _).alloc (Nat.le_refl _) _).alloc (by simp) _)) (by decide) (by decide)).mono ?_; rintro _ w1 ⟨rfl, hd, hk, hs⟩; have hwk := HWK.out; rw [HE.out]; rw [HS1.out] at hd; have HD := aM hd; have HK := aM hk; clear hd hk hs)
 have HI := aM (end_start (F := #[.int .u8 2, .int .i64 0, .int .i64 0, .int .i64 0]) HK.out HD.out hg H.out.2.2 rfl rfl rfl rfl); clear HD HK; obtain ⟨gb, hgb⟩ : ∃ gb, w1.heap.size = gb := ⟨_, rfl⟩; rw [hgb] at HI ⊢; obtain ⟨WB, hWB⟩ : ∃ WB, WB = w1.alloc (.cells #[.int .u8 2, .int .i64 0, .int .i64 0, .int .i64 0] 82) := ⟨_, rfl⟩; rw [← hWB] at HI ⊢; clear hWB hgb; have q0 := (HI.out.cell 0 _ rfl).1; obtain ⟨q1, z1⟩ := HI.out.cell 1 _ rfl; obtain ⟨q2, z2⟩ := HI.out.cell 2 _ rfl; obtain ⟨q3, z3⟩ := HI.out.cell 3 _ rfl; have qr := HI.out.ptr; have qs := HI.out.ptrs; obtain ⟨⟨y0, y1, y2, y3⟩, v0, v1, v2, v3⟩ := HI.out.rest
 go_upto_region 13 with (go_at_call 147; (first | refine (end_num HI.out ).mono ?_ | refine (end_num (HI.out.set _ _) ).mono ?_); rintro _ w2 ⟨rfl, hi⟩; clear HI; (try clear q0 q1 q2 q3 z1 z2 z3 qr qs y0 y1 y2 y3 v0 v1 v2 v3); have HI := aM hi; clear hi; have q0 := (HI.out.cell 0 _ rfl).1; obtain ⟨q1, z1⟩ := HI.out.cell 1 _ rfl; obtain ⟨q2, z2⟩ := HI.out.cell 2 _ rfl; obtain ⟨q3, z3⟩ := HI.out.cell 3 _ rfl; have qr := HI.out.ptr; have qs := HI.out.ptrs; obtain ⟨⟨y0, y1, y2, y3⟩, v0, v1, v2, v3⟩ := HI.out.rest)
 have hset := HI.out.set 3 (.int .i64 (sBelow 4096 (sBelow 4096 (sBelow 4096 s1).2).2).1)
 generalize w2.setCell ⟨gb, 3, none⟩ (.int .i64 (sBelow 4096 (sBelow 4096 (sBelow 4096 s1).2).2).1) = WL at hset ⊢
 clear HI
 have HI := aM hset
 clear q0 q1 q2 q3 z1 z2 z3 qr qs y0 y1 y2 y3 v0 v1 v2 v3
 clear hset
 have q0 := (HI.out.cell 0 _ rfl).1; obtain ⟨q1, z1⟩ := HI.out.cell 1 _ rfl; obtain ⟨q2, z2⟩ := HI.out.cell 2 _ rfl; obtain ⟨q3, z3⟩ := HI.out.cell 3 _ rfl; have qr := HI.out.ptr; have qs := HI.out.ptrs; obtain ⟨⟨y0, y1, y2, y3⟩, v0, v1, v2, v3⟩ := HI.out.rest
 go_wp2
 have p := HI.out.res; have p0 := fun x0 x1 x2 x3 => cell_at (put4 p x0 x1 x2 x3) 0 _ rfl; have p1 := fun x0 x1 x2 x3 => cell_at (put4 p x0 x1 x2 x3) 1 _ rfl; have p2 := fun x0 x1 x2 x3 => cell_at (put4 p x0 x1 x2 x3) 2 _ rfl; have p3 := fun x0 x1 x2 x3 => cell_at (put4 p x0 x1 x2 x3) 3 _ rfl; (try simp only [Exit.inBlock, Exit.then]); refine bodyPost_ret (by simp [results, Try.results127, go_sem, p0, p1, p2, p3]; try rfl) rfl ?_
 obtain ⟨-, o2, o3, -⟩ := HI.out.out _ _ _ _ _ rfl
 exact ⟨rfl, o2, o3⟩
set_option maxHeartbeats 4000000 in
set_option maxRecDepth 100000 in
theorem rend3 (g b : Nat) (s : St) (w : World) (h : Rd w g b s) (hg : g < w.heap.size) (hk : (sBelow 256 s).1 = 3) :
 Calls Try.prog 127 #[.pointer (some ⟨g, 0, none⟩)] w fun e w' => e = .returned (endV (sEnd s).1) ∧ Rd w' g b (sEnd s).2 ∧ Keep (· = g) w w' := by
 have mixed : Try.prog.follows .mixedOrders = true := by kernel_rfl
 have H := aM h
 have HE := aM hk
 have HWK := aM (trivial)
 obtain ⟨s1, hs1⟩ : ∃ s1, (sBelow 256 s).2 = s1 := ⟨_, rfl⟩
 have HS1 := aM hs1
 rw [show sEnd s = ((3, (sBelow 4096 s1).1, 0, 0), (sBelow 4096 s1).2) from by simp [sEnd, show sBelow 256 s = (3, s1) from by rw [← hk, ← hs1]]]
 clear h hk hs1
 go_enter Try.func127, Try.ntmps127
 go_upto_region 2 with (go_at_call 46; refine (rd_below g b s 256 _ (H.out.below (((Below.refl _ _).alloc (Nat.le_refl _) _).alloc (by simp) _)) (by decide) (by decide)).mono ?_; rintro _ w1 ⟨rfl, hd, hk, hs⟩; have hwk := HWK.out; rw [HE.out]; rw [HS1.out] at hd; have HD := aM hd; have HK := aM hk; clear hd hk hs)
 have HI := aM (end_start (F := #[.int .u8 3, .int .i64 0, .int .i64 0, .int .i64 0]) HK.out HD.out hg H.out.2.2 rfl rfl rfl rfl); clear HD HK; obtain ⟨gb, hgb⟩ : ∃ gb, w1.heap.size = gb := ⟨_, rfl⟩; rw [hgb] at HI ⊢; obtain ⟨WB, hWB⟩ : ∃ WB, WB = w1.alloc (.cells #[.int .u8 3, .int .i64 0, .int .i64 0, .int .i64 0] 82) := ⟨_, rfl⟩; rw [← hWB] at HI ⊢; clear hWB hgb; have q0 := (HI.out.cell 0 _ rfl).1; obtain ⟨q1, z1⟩ := HI.out.cell 1 _ rfl; obtain ⟨q2, z2⟩ := HI.out.cell 2 _ rfl; obtain ⟨q3, z3⟩ := HI.out.cell 3 _ rfl; have qr := HI.out.ptr; have qs := HI.out.ptrs; obtain ⟨⟨y0, y1, y2, y3⟩, v0, v1, v2, v3⟩ := HI.out.rest
 go_upto_region 13 with (go_at_call 147; (first | refine (end_num HI.out ).mono ?_ | refine (end_num (HI.out.set _ _) ).mono ?_); rintro _ w2 ⟨rfl, hi⟩; clear HI; (try clear q0 q1 q2 q3 z1 z2 z3 qr qs y0 y1 y2 y3 v0 v1 v2 v3); have HI := aM hi; clear hi; have q0 := (HI.out.cell 0 _ rfl).1; obtain ⟨q1, z1⟩ := HI.out.cell 1 _ rfl; obtain ⟨q2, z2⟩ := HI.out.cell 2 _ rfl; obtain ⟨q3, z3⟩ := HI.out.cell 3 _ rfl; have qr := HI.out.ptr; have qs := HI.out.ptrs; obtain ⟨⟨y0, y1, y2, y3⟩, v0, v1, v2, v3⟩ := HI.out.rest)
 have hset := HI.out.set 1 (.int .i64 (sBelow 4096 s1).1)
 generalize w2.setCell ⟨gb, 1, none⟩ (.int .i64 (sBelow 4096 s1).1) = WL at hset ⊢
 clear HI
 have HI := aM hset
 clear q0 q1 q2 q3 z1 z2 z3 qr qs y0 y1 y2 y3 v0 v1 v2 v3
 clear hset
 have q0 := (HI.out.cell 0 _ rfl).1; obtain ⟨q1, z1⟩ := HI.out.cell 1 _ rfl; obtain ⟨q2, z2⟩ := HI.out.cell 2 _ rfl; obtain ⟨q3, z3⟩ := HI.out.cell 3 _ rfl; have qr := HI.out.ptr; have qs := HI.out.ptrs; obtain ⟨⟨y0, y1, y2, y3⟩, v0, v1, v2, v3⟩ := HI.out.rest
 go_wp2
 have p := HI.out.res; have p0 := fun x0 x1 x2 x3 => cell_at (put4 p x0 x1 x2 x3) 0 _ rfl; have p1 := fun x0 x1 x2 x3 => cell_at (put4 p x0 x1 x2 x3) 1 _ rfl; have p2 := fun x0 x1 x2 x3 => cell_at (put4 p x0 x1 x2 x3) 2 _ rfl; have p3 := fun x0 x1 x2 x3 => cell_at (put4 p x0 x1 x2 x3) 3 _ rfl; (try simp only [Exit.inBlock, Exit.then]); refine bodyPost_ret (by simp [results, Try.results127, go_sem, p0, p1, p2, p3]; try rfl) rfl ?_
 obtain ⟨-, o2, o3, -⟩ := HI.out.out _ _ _ _ _ rfl
 exact ⟨rfl, o2, o3⟩
set_option maxHeartbeats 4000000 in
set_option maxRecDepth 100000 in
theorem rend0 (g b : Nat) (s : St) (w : World) (h : Rd w g b s) (hg : g < w.heap.size) (k : Int) (hk : (sBelow 256 s).1 = k) (hkk : (k == 1) = false ∧ (k == 2) = false ∧ (k == 3) = false) :
 Calls Try.prog 127 #[.pointer (some ⟨g, 0, none⟩)] w fun e w' => e = .returned (endV (sEnd s).1) ∧ Rd w' g b (sEnd s).2 ∧ Keep (· = g) w w' := by
 have mixed : Try.prog.follows .mixedOrders = true := by kernel_rfl
 have H := aM h
 have HE := aM hk
 have HWK := aM (show IntKind.u8.wrap k = k from by have := below_range (m := 256) (s := s) (by decide) h.2.1; rw [hk] at this; exact wraps_u8' _ this.1 this.2)
 obtain ⟨s1, hs1⟩ : ∃ s1, (sBelow 256 s).2 = s1 := ⟨_, rfl⟩
 have HS1 := aM hs1
 obtain ⟨e1, e2, e3⟩ := hkk
 have k1 := beq_eq_false_iff_ne.1 e1
 have k2 := beq_eq_false_iff_ne.1 e2
 have k3 := beq_eq_false_iff_ne.1 e3
 rw [show sEnd s = ((k, 0, 0, 0), sFail 20 s1) from by simp [sEnd, show sBelow 256 s = (k, s1) from by rw [← hk, ← hs1], k1, k2, k3]]
 clear h hk hs1
 go_enter Try.func127, Try.ntmps127
 go_upto_region 2 with (go_at_call 46; refine (rd_below g b s 256 _ (H.out.below (((Below.refl _ _).alloc (Nat.le_refl _) _).alloc (by simp) _)) (by decide) (by decide)).mono ?_; rintro _ w1 ⟨rfl, hd, hk, hs⟩; have hwk := HWK.out; rw [HE.out]; rw [HS1.out] at hd; have HD := aM hd; have HK := aM hk; clear hd hk hs)
 have HI := aM (end_start (F := #[.int .u8 k, .int .i64 0, .int .i64 0, .int .i64 0]) HK.out HD.out hg H.out.2.2 rfl rfl rfl rfl); clear HD HK; obtain ⟨gb, hgb⟩ : ∃ gb, w1.heap.size = gb := ⟨_, rfl⟩; rw [hgb] at HI ⊢; obtain ⟨WB, hWB⟩ : ∃ WB, WB = w1.alloc (.cells #[.int .u8 k, .int .i64 0, .int .i64 0, .int .i64 0] 82) := ⟨_, rfl⟩; rw [← hWB] at HI ⊢; clear hWB hgb; have q0 := (HI.out.cell 0 _ rfl).1; obtain ⟨q1, z1⟩ := HI.out.cell 1 _ rfl; obtain ⟨q2, z2⟩ := HI.out.cell 2 _ rfl; obtain ⟨q3, z3⟩ := HI.out.cell 3 _ rfl; have qr := HI.out.ptr; have qs := HI.out.ptrs; obtain ⟨⟨y0, y1, y2, y3⟩, v0, v1, v2, v3⟩ := HI.out.rest
 go_upto_region 13 with (go_at_call 94; (first | refine (end_fail HI.out 20).mono ?_ | refine (end_fail (HI.out.set _ _) 20).mono ?_); rintro _ w2 ⟨rfl, hi⟩; clear HI; (try clear q0 q1 q2 q3 z1 z2 z3 qr qs y0 y1 y2 y3 v0 v1 v2 v3); have HI := aM hi; clear hi; have q0 := (HI.out.cell 0 _ rfl).1; obtain ⟨q1, z1⟩ := HI.out.cell 1 _ rfl; obtain ⟨q2, z2⟩ := HI.out.cell 2 _ rfl; obtain ⟨q3, z3⟩ := HI.out.cell 3 _ rfl; have qr := HI.out.ptr; have qs := HI.out.ptrs; obtain ⟨⟨y0, y1, y2, y3⟩, v0, v1, v2, v3⟩ := HI.out.rest)
 go_wp2
 have p := HI.out.res; have p0 := fun x0 x1 x2 x3 => cell_at (put4 p x0 x1 x2 x3) 0 _ rfl; have p1 := fun x0 x1 x2 x3 => cell_at (put4 p x0 x1 x2 x3) 1 _ rfl; have p2 := fun x0 x1 x2 x3 => cell_at (put4 p x0 x1 x2 x3) 2 _ rfl; have p3 := fun x0 x1 x2 x3 => cell_at (put4 p x0 x1 x2 x3) 3 _ rfl; (try simp only [Exit.inBlock, Exit.then]); refine bodyPost_ret (by simp [results, Try.results127, go_sem, p0, p1, p2, p3]; try rfl) rfl ?_
 obtain ⟨-, o2, o3, -⟩ := HI.out.out _ _ _ _ _ rfl
 exact ⟨rfl, o2, o3⟩
theorem wread_end (g b : Nat) (s : St) (w : World) (h : Rd w g b s) (hg : g < w.heap.size) : Calls Try.prog 127 #[.pointer (some ⟨g, 0, none⟩)] w fun e w' => e = .returned (endV (sEnd s).1) ∧ Rd w' g b (sEnd s).2 ∧ Keep (· = g) w w' := by
 rcases (by simp only [beq_eq_false_iff_ne]; omega : (sBelow 256 s).1 = 1 ∨ (sBelow 256 s).1 = 2 ∨ (sBelow 256 s).1 = 3 ∨ (((sBelow 256 s).1 == 1) = false ∧ ((sBelow 256 s).1 == 2) = false ∧ ((sBelow 256 s).1 == 3) = false)) with hk | hk | hk | hk
 · exact rend1 g b s w h hg hk
 · exact rend2 g b s w h hg hk
 · exact rend3 g b s w h hg hk
 · exact rend0 g b s w h hg _ rfl hk
end Go.Proofs.Ytnckonglodmfeaa.Ik
