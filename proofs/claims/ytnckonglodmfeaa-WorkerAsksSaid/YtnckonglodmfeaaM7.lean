/- Contracts and plain facts that the statements' proofs use (part 7). -/
import Derived.Test.YtnckonglodmfeaaM5
import Derived.Test.YtnckonglodmfeaaM6
import Derived.Handy
namespace Go.Proofs.Ytnckonglodmfeaa.Ik
open Go.Proofs.Ytnckonglodmfeaa.Ls Go.Proofs.Ytnckonglodmfeaa.Lc Go.RowKit Go.Proofs.YtnckonglodmfeaaW.PrintWords Go.Proofs.YtnckonglodmfeaaW.PrintLast Go.Proofs.YtnckonglodmfeaaW.PrintMore Go.Proofs.Ytnckonglodmfeaa.B Go.Proofs.Ytnckonglodmfeaa.R Go.Proofs.Ytnckonglodmfeaa.S Go.Proofs.Ytnckonglodmfeaa.Is Go.Proofs.Ytnckonglodmfeaa.Js
set_option linter.unusedVariables false
set_option linter.unusedSimpArgs false
/-- An end's value. -/
def endV (e : IEnd) : Value := .agg #[.int .u8 e.1, .int .i64 e.2.1, .int .i64 e.2.2.1, .int .i64 e.2.2.2]
set_option maxRecDepth 100000 in
theorem endnum_calls (g b gr : Nat) (s : St) (w : World) (h : Rd w g b s) (hr : w.cell? ⟨gr, 0, none⟩ = some (.pointer (some ⟨g, 0, none⟩))) :
    Calls Try.prog 147 #[.pointer (some ⟨gr, 0, none⟩)] w fun e w' => e = .returned (.int .i64 (sBelow 4096 s).1) ∧ Rd w' g b (sBelow 4096 s).2 ∧ Keep (· = g) w w' ∧ w'.heap.size = w.heap.size := by
  have H := Aside0.mk h
  clear h
  go_enter Try.func147, Try.ntmps147
  go_wp2_with (go_at_call 46; refine (rd_below g b s 4096 _ H.out (by decide) (by decide)).mono ?_; rintro _ w1 ⟨rfl, hd, hk, hs⟩; have HD := Aside0.mk hd; have HK := Aside0.mk hk; have HS := Aside0.mk hs; clear hd hk hs)
  go_ret
  exact ⟨rfl, HD.out, HK.out, HS.out⟩
/-- What wire.end has in memory: the reader, its box at gr, the result's cells behind it, the end's at gb. -/
structure EndS (w0 W : World) (g b gr gb : Nat) (s : St) (F : Array Value) : Prop where
  rd : Rd W g b s
  r : W.heap[gr]? = some (.cells #[.pointer (some ⟨g, 0, none⟩)] 109 (0, 0))
  res : W.heap[gr + 1]? = some (.cells #[.int .u8 0, .int .i64 0, .int .i64 0, .int .i64 0] 82 (0, 0))
  bx : W.heap[gb]? = some (.cells F 82 (0, 0))
  keep : Keep (· = g) w0 W
  base : w0.heap.size = gr
  hg : g < gr
  hb : b < gr
  hgb : gr + 2 ≤ gb
theorem EndS.step {w0 W W' : World} {g b gr gb : Nat} {s s' : St} {F : Array Value} (h : EndS w0 W g b gr gb s F) (hk : Keep (· = g) W W') (hr : Rd W' g b s') : EndS w0 W' g b gr gb s' F := by
  have h1 := h.hg
  have h2 := h.hb
  have h3 := h.hgb
  exact ⟨hr, (hk.block gr (blk_lt h.r) (fun e => by have e : gr = g := e; omega)).trans h.r, (hk.block _ (blk_lt h.res) (fun e => by have e : gr + 1 = g := e; omega)).trans h.res, (hk.block gb (blk_lt h.bx) (fun e => by have e : gb = g := e; omega)).trans h.bx, h.keep.trans hk, h.base, h1, h2, h3⟩
theorem EndS.set {w0 W : World} {g b gr gb : Nat} {s : St} {F : Array Value} (h : EndS w0 W g b gr gb s F) (j : Nat) (x : Value) : EndS w0 (W.setCell ⟨gb, j, none⟩ x) g b gr gb s (F.setIfInBounds j x) := by
  have h1 := h.hg
  have h2 := h.hb
  have h3 := h.hgb
  have hk : Keep (· = gb) W (W.setCell ⟨gb, j, none⟩ x) := (Keep.refl _ _).setCell ⟨gb, j, none⟩ x (fun _ => rfl)
  have ho : ∀ i, i ≠ gb → (W.setCell ⟨gb, j, none⟩ x).heap[i]? = W.heap[i]? := fun i hi => Below.heap_setCell _ _ _ _ hi
  exact ⟨h.rd.keep hk (by omega) (by omega), (ho gr (by omega)).trans h.r, (ho _ (by omega)).trans h.res, heap_setCell_same W gb j F _ _ h.bx, h.keep.setCell _ _ (fun hh => by have hh : gb < w0.heap.size := hh; rw [h.base] at hh; omega), h.base, h1, h2, h3⟩
theorem EndS.cell {w0 W : World} {g b gr gb : Nat} {s : St} {F : Array Value} (h : EndS w0 W g b gr gb s F) (j : Nat) (x : Value) (hx : F[j]? = some x) : W.cell? ⟨gb, j, none⟩ = some x ∧ W.frozen? ⟨gb, j, none⟩ = false := ⟨cell_at h.bx j x hx, blk_frozen h.bx j⟩
theorem EndS.ptr {w0 W : World} {g b gr gb : Nat} {s : St} {F : Array Value} (h : EndS w0 W g b gr gb s F) : W.cell? ⟨gr, 0, none⟩ = some (.pointer (some ⟨g, 0, none⟩)) := cell_at h.r 0 _ rfl
theorem EndS.ptrs {w0 W : World} {g b gr gb : Nat} {s : St} {F : Array Value} (h : EndS w0 W g b gr gb s F) : ∀ j x, (W.setCell ⟨gb, j, none⟩ x).cell? ⟨gr, 0, none⟩ = some (.pointer (some ⟨g, 0, none⟩)) := fun j x => (h.set j x).ptr
theorem end_num {w0 W : World} {g b gr gb : Nat} {s : St} {F : Array Value} (h : EndS w0 W g b gr gb s F) :
    Calls Try.prog 147 #[.pointer (some ⟨gr, 0, none⟩)] W fun e w' => e = .returned (.int .i64 (sBelow 4096 s).1) ∧ EndS w0 w' g b gr gb (sBelow 4096 s).2 F := by
  refine (endnum_calls g b gr s W h.rd h.ptr).mono ?_
  rintro e w' ⟨h1, h2, h3, -⟩
  exact ⟨h1, h.step h3 h2⟩
theorem end_fail {w0 W : World} {g b gr gb : Nat} {s : St} {F : Array Value} (h : EndS w0 W g b gr gb s F) (n : Int) :
    Calls Try.prog 94 #[.pointer (some ⟨g, 0, none⟩), .int .i64 n] W fun e w' => e = .returned (.tuple #[]) ∧ EndS w0 w' g b gr gb (sFail n s) F := by
  refine (rd_fail g b s n W h.rd).mono ?_
  rintro e w' ⟨h1, h2, h3, -⟩
  exact ⟨h1, h.step h3 h2⟩
theorem EndS.rest {w0 W : World} {g b gr gb : Nat} {s : St} {F : Array Value} (h : EndS w0 W g b gr gb s F) : (W.cell? ⟨gr + 1, 0, none⟩ = some (.int .u8 0) ∧ W.cell? ⟨gr + 1, 1, none⟩ = some (.int .i64 0) ∧ W.cell? ⟨gr + 1, 2, none⟩ = some (.int .i64 0) ∧ W.cell? ⟨gr + 1, 3, none⟩ = some (.int .i64 0)) ∧
    W.frozen? ⟨gr + 1, 0, none⟩ = false ∧ W.frozen? ⟨gr + 1, 1, none⟩ = false ∧ W.frozen? ⟨gr + 1, 2, none⟩ = false ∧ W.frozen? ⟨gr + 1, 3, none⟩ = false :=
  ⟨⟨cell_at h.res 0 _ rfl, cell_at h.res 1 _ rfl, cell_at h.res 2 _ rfl, cell_at h.res 3 _ rfl⟩, blk_frozen h.res 0, blk_frozen h.res 1, blk_frozen h.res 2, blk_frozen h.res 3⟩
/-- Four cells are laid: what is read of them. -/
theorem put4 {W : World} {g e : Nat} {u0 u1 u2 u3 : Value} (h : W.heap[g]? = some (.cells #[u0, u1, u2, u3] e (0, 0))) (x0 x1 x2 x3 : Value) :
    ((((W.setCell ⟨g, 0, none⟩ x0).setCell ⟨g, 1, none⟩ x1).setCell ⟨g, 2, none⟩ x2).setCell ⟨g, 3, none⟩ x3).heap[g]? = some (.cells #[x0, x1, x2, x3] e (0, 0)) := by
  have a0 := blk_put h 0 x0 (show _ = #[x0, u1, u2, u3] from rfl)
  have a1 := blk_put a0 1 x1 (show _ = #[x0, x1, u2, u3] from rfl)
  have a2 := blk_put a1 2 x2 (show _ = #[x0, x1, x2, u3] from rfl)
  exact blk_put a2 3 x3 rfl
theorem put4_far {W : World} {g : Nat} (x0 x1 x2 x3 : Value) : Keep (· = g) W ((((W.setCell ⟨g, 0, none⟩ x0).setCell ⟨g, 1, none⟩ x1).setCell ⟨g, 2, none⟩ x2).setCell ⟨g, 3, none⟩ x3) := by
  have a0 := (Keep.refl (· = g) W).setCell ⟨g, 0, none⟩ x0 (fun _ => rfl)
  have a1 := a0.setCell ⟨g, 1, none⟩ x1 (fun _ => rfl)
  have a2 := a1.setCell ⟨g, 2, none⟩ x2 (fun _ => rfl)
  exact a2.setCell ⟨g, 3, none⟩ x3 (fun _ => rfl)
/-- The result is laid. -/
theorem EndS.out {w0 W : World} {g b gr gb : Nat} {s : St} {F : Array Value} (h : EndS w0 W g b gr gb s F) (x0 x1 x2 x3 : Value) (W' : World) (e : W' = ((((W.setCell ⟨gr + 1, 0, none⟩ x0).setCell ⟨gr + 1, 1, none⟩ x1).setCell ⟨gr + 1, 2, none⟩ x2).setCell ⟨gr + 1, 3, none⟩ x3)) :
    W'.heap[gr + 1]? = some (.cells #[x0, x1, x2, x3] 82 (0, 0)) ∧ Rd W' g b s ∧ Keep (· = g) w0 W' ∧ Keep (· = gr + 1) W W' := by
  have h1 := h.hg
  have h2 := h.hb
  have hk := put4_far (W := W) (g := gr + 1) x0 x1 x2 x3
  subst e
  exact ⟨put4 h.res x0 x1 x2 x3, h.rd.keep hk (by omega) (by omega), h.keep.then hk (fun i hi e => by have e : i = gr + 1 := e; rw [h.base] at hi; omega), hk⟩
theorem EndS.drew {w0 W : World} {g b gr gb : Nat} {s : St} {F : Array Value} (h : EndS w0 W g b gr gb s F) : EndS w0 W.drew g b gr gb s F := ⟨⟨h.rd.1, h.rd.2⟩, h.r, h.res, h.bx, h.keep.drew, h.base, h.hg, h.hb, h.hgb⟩
theorem EndS.move {w0 W W' : World} {g b gr gb : Nat} {s s' : St} {F : Array Value} (h : EndS w0 W g b gr gb s F) (hk : Keep (fun i => i = g ∨ gb < i) W W') (hr : Rd W' g b s') : EndS w0 W' g b gr gb s' F := by
  have h1 := h.hg
  have h2 := h.hb
  have h3 := h.hgb
  exact ⟨hr, (hk.block gr (blk_lt h.r) (fun e => by omega)).trans h.r, (hk.block _ (blk_lt h.res) (fun e => by omega)).trans h.res, (hk.block gb (blk_lt h.bx) (fun e => by omega)).trans h.bx, h.keep.then hk (fun i hi e => by rw [h.base] at hi; omega), h.base, h1, h2, h3⟩
theorem end_start {w w1 : World} {g b : Nat} {s : St} {c1 c2 F : Array Value} {e1 e2 : Nat} (hk : Keep (· = g) ((w.alloc (.cells c1 e1)).alloc (.cells c2 e2)) w1) (hr : Rd w1 g b s) (hg : g < w.heap.size) (hb : b < w.heap.size)
    (h1 : c1 = #[.pointer (some ⟨g, 0, none⟩)]) (h2 : e1 = 109) (h3 : c2 = #[.int .u8 0, .int .i64 0, .int .i64 0, .int .i64 0]) (h4 : e2 = 82) :
    EndS w (w1.alloc (.cells F 82)) g b w.heap.size w1.heap.size s F := by
  subst h1 h2 h3 h4
  have hs := hk.size
  rw [World.size_alloc, World.size_alloc] at hs
  have a1 : w1.heap[w.heap.size]? = some (.cells #[.pointer (some ⟨g, 0, none⟩)] 109 (0, 0)) := by
    rw [hk.block _ (by rw [World.size_alloc, World.size_alloc]; omega) (fun e => by have e : w.heap.size = g := e; omega), heap_alloc_old _ _ (by rw [World.size_alloc]; omega), heap_alloc_new]
  have a2 : w1.heap[w.heap.size + 1]? = some (.cells #[.int .u8 0, .int .i64 0, .int .i64 0, .int .i64 0] 82 (0, 0)) := by
    rw [hk.block _ (by rw [World.size_alloc, World.size_alloc]; omega) (fun e => by have e : w.heap.size + 1 = g := e; omega), ← World.size_alloc w (.cells #[.pointer (some ⟨g, 0, none⟩)] 109), heap_alloc_new]
  have hb2 : Below w1.heap.size w1 (w1.alloc (.cells F 82)) := (Below.refl _ _).alloc (Nat.le_refl _) _
  exact ⟨hr.below hb2, (hb2.block _ (by omega)).trans a1, (hb2.block _ (by omega)).trans a2, heap_alloc_new _ _, ((((Keep.refl (· = g) w).alloc _).alloc _).trans hk).alloc _, rfl, hg, hb, hs⟩
set_option maxHeartbeats 4000000 in
set_option maxRecDepth 100000 in
theorem rend1 (g b : Nat) (s : St) (w : World) (h : Rd w g b s) (hg : g < w.heap.size) (hk : (sBelow 256 s).1 = 1) :
    Calls Try.prog 127 #[.pointer (some ⟨g, 0, none⟩)] w fun e w' => e = .returned (endV (sEnd s).1) ∧ Rd w' g b (sEnd s).2 ∧ Keep (· = g) w w' := by
  have mixed : Try.prog.follows .mixedOrders = true := by kernel_rfl
  have H := Aside0.mk h
  have HE := Aside0.mk hk
  have HWK := Aside0.mk (trivial)
  obtain ⟨s1, hs1⟩ : ∃ s1, (sBelow 256 s).2 = s1 := ⟨_, rfl⟩
  have HS1 := Aside0.mk hs1
  rw [show sEnd s = ((1, 0, (sBelow 4096 s1).1, 0), (sBelow 4096 s1).2) from by simp [sEnd, show sBelow 256 s = (1, s1) from by rw [← hk, ← hs1]]]
  clear h hk hs1
  go_enter Try.func127, Try.ntmps127
  go_upto_region 2 with (go_at_call 46; refine (rd_below g b s 256 _ (H.out.below (((Below.refl _ _).alloc (Nat.le_refl _) _).alloc (by simp) _)) (by decide) (by decide)).mono ?_; rintro _ w1 ⟨rfl, hd, hk, hs⟩; have hwk := HWK.out; rw [HE.out]; rw [HS1.out] at hd; have HD := Aside0.mk hd; have HK := Aside0.mk hk; clear hd hk hs)
  have HI := Aside0.mk (end_start (F := #[.int .u8 1, .int .i64 0, .int .i64 0, .int .i64 0]) HK.out HD.out hg H.out.2.2 rfl rfl rfl rfl); clear HD HK; obtain ⟨gb, hgb⟩ : ∃ gb, w1.heap.size = gb := ⟨_, rfl⟩; rw [hgb] at HI ⊢; obtain ⟨WB, hWB⟩ : ∃ WB, WB = w1.alloc (.cells #[.int .u8 1, .int .i64 0, .int .i64 0, .int .i64 0] 82) := ⟨_, rfl⟩; rw [← hWB] at HI ⊢; clear hWB hgb; have q0 := (HI.out.cell 0 _ rfl).1; obtain ⟨q1, z1⟩ := HI.out.cell 1 _ rfl; obtain ⟨q2, z2⟩ := HI.out.cell 2 _ rfl; obtain ⟨q3, z3⟩ := HI.out.cell 3 _ rfl; have qr := HI.out.ptr; have qs := HI.out.ptrs; obtain ⟨⟨y0, y1, y2, y3⟩, v0, v1, v2, v3⟩ := HI.out.rest
  go_upto_region 13 with (go_at_call 147; (first | refine (end_num HI.out ).mono ?_ | refine (end_num (HI.out.set _ _) ).mono ?_); rintro _ w2 ⟨rfl, hi⟩; clear HI; (try clear q0 q1 q2 q3 z1 z2 z3 qr qs y0 y1 y2 y3 v0 v1 v2 v3); have HI := Aside0.mk hi; clear hi; have q0 := (HI.out.cell 0 _ rfl).1; obtain ⟨q1, z1⟩ := HI.out.cell 1 _ rfl; obtain ⟨q2, z2⟩ := HI.out.cell 2 _ rfl; obtain ⟨q3, z3⟩ := HI.out.cell 3 _ rfl; have qr := HI.out.ptr; have qs := HI.out.ptrs; obtain ⟨⟨y0, y1, y2, y3⟩, v0, v1, v2, v3⟩ := HI.out.rest)
  have hset := HI.out.set 2 (.int .i64 (sBelow 4096 s1).1)
  generalize w2.setCell ⟨gb, 2, none⟩ (.int .i64 (sBelow 4096 s1).1) = WL at hset ⊢
  clear HI
  have HI := Aside0.mk hset
  clear q0 q1 q2 q3 z1 z2 z3 qr qs y0 y1 y2 y3 v0 v1 v2 v3
  clear hset
  have q0 := (HI.out.cell 0 _ rfl).1; obtain ⟨q1, z1⟩ := HI.out.cell 1 _ rfl; obtain ⟨q2, z2⟩ := HI.out.cell 2 _ rfl; obtain ⟨q3, z3⟩ := HI.out.cell 3 _ rfl; have qr := HI.out.ptr; have qs := HI.out.ptrs; obtain ⟨⟨y0, y1, y2, y3⟩, v0, v1, v2, v3⟩ := HI.out.rest
  go_wp2
  have p := HI.out.res; have p0 := fun x0 x1 x2 x3 => cell_at (put4 p x0 x1 x2 x3) 0 _ rfl; have p1 := fun x0 x1 x2 x3 => cell_at (put4 p x0 x1 x2 x3) 1 _ rfl; have p2 := fun x0 x1 x2 x3 => cell_at (put4 p x0 x1 x2 x3) 2 _ rfl; have p3 := fun x0 x1 x2 x3 => cell_at (put4 p x0 x1 x2 x3) 3 _ rfl; (try simp only [Exit.inBlock, Exit.then]); refine bodyPost_ret (by simp [results, Try.results127, go_sem, p0, p1, p2, p3]; try rfl) rfl ?_
  obtain ⟨-, o2, o3, -⟩ := HI.out.out _ _ _ _ _ rfl
  exact ⟨rfl, o2, o3⟩
set_option maxHeartbeats 4000000 in
set_option maxRecDepth 100000 in
theorem rend2 (g b : Nat) (s : St) (w : World) (h : Rd w g b s) (hg : g < w.heap.size) (hk : (sBelow 256 s).1 = 2) :
    Calls Try.prog 127 #[.pointer (some ⟨g, 0, none⟩)] w fun e w' => e = .returned (endV (sEnd s).1) ∧ Rd w' g b (sEnd s).2 ∧ Keep (· = g) w w' := by
  have mixed : Try.prog.follows .mixedOrders = true := by kernel_rfl
  have H := Aside0.mk h
  have HE := Aside0.mk hk
  have HWK := Aside0.mk (trivial)
  obtain ⟨s1, hs1⟩ : ∃ s1, (sBelow 256 s).2 = s1 := ⟨_, rfl⟩
  have HS1 := Aside0.mk hs1
  rw [show sEnd s = ((2, (sBelow 4096 s1).1, (sBelow 4096 (sBelow 4096 s1).2).1, (sBelow 4096 (sBelow 4096 (sBelow 4096 s1).2).2).1), (sBelow 4096 (sBelow 4096 (sBelow 4096 s1).2).2).2) from by simp [sEnd, show sBelow 256 s = (2, s1) from by rw [← hk, ← hs1]]]
  clear h hk hs1
  go_enter Try.func127, Try.ntmps127
  go_upto_region 2 with (go_at_call 46; refine (rd_below g b s 256 _ (H.out.below (((Below.refl _ _).alloc (Nat.le_refl _) _).alloc (by simp) _)) (by decide) (by decide)).mono ?_; rintro _ w1 ⟨rfl, hd, hk, hs⟩; have hwk := HWK.out; rw [HE.out]; rw [HS1.out] at hd; have HD := Aside0.mk hd; have HK := Aside0.mk hk; clear hd hk hs)
  have HI := Aside0.mk (end_start (F := #[.int .u8 2, .int .i64 0, .int .i64 0, .int .i64 0]) HK.out HD.out hg H.out.2.2 rfl rfl rfl rfl); clear HD HK; obtain ⟨gb, hgb⟩ : ∃ gb, w1.heap.size = gb := ⟨_, rfl⟩; rw [hgb] at HI ⊢; obtain ⟨WB, hWB⟩ : ∃ WB, WB = w1.alloc (.cells #[.int .u8 2, .int .i64 0, .int .i64 0, .int .i64 0] 82) := ⟨_, rfl⟩; rw [← hWB] at HI ⊢; clear hWB hgb; have q0 := (HI.out.cell 0 _ rfl).1; obtain ⟨q1, z1⟩ := HI.out.cell 1 _ rfl; obtain ⟨q2, z2⟩ := HI.out.cell 2 _ rfl; obtain ⟨q3, z3⟩ := HI.out.cell 3 _ rfl; have qr := HI.out.ptr; have qs := HI.out.ptrs; obtain ⟨⟨y0, y1, y2, y3⟩, v0, v1, v2, v3⟩ := HI.out.rest
  go_upto_region 13 with (go_at_call 147; (first | refine (end_num HI.out ).mono ?_ | refine (end_num (HI.out.set _ _) ).mono ?_); rintro _ w2 ⟨rfl, hi⟩; clear HI; (try clear q0 q1 q2 q3 z1 z2 z3 qr qs y0 y1 y2 y3 v0 v1 v2 v3); have HI := Aside0.mk hi; clear hi; have q0 := (HI.out.cell 0 _ rfl).1; obtain ⟨q1, z1⟩ := HI.out.cell 1 _ rfl; obtain ⟨q2, z2⟩ := HI.out.cell 2 _ rfl; obtain ⟨q3, z3⟩ := HI.out.cell 3 _ rfl; have qr := HI.out.ptr; have qs := HI.out.ptrs; obtain ⟨⟨y0, y1, y2, y3⟩, v0, v1, v2, v3⟩ := HI.out.rest)
  have hset := HI.out.set 3 (.int .i64 (sBelow 4096 (sBelow 4096 (sBelow 4096 s1).2).2).1)
  generalize w2.setCell ⟨gb, 3, none⟩ (.int .i64 (sBelow 4096 (sBelow 4096 (sBelow 4096 s1).2).2).1) = WL at hset ⊢
  clear HI
  have HI := Aside0.mk hset
  clear q0 q1 q2 q3 z1 z2 z3 qr qs y0 y1 y2 y3 v0 v1 v2 v3
  clear hset
  have q0 := (HI.out.cell 0 _ rfl).1; obtain ⟨q1, z1⟩ := HI.out.cell 1 _ rfl; obtain ⟨q2, z2⟩ := HI.out.cell 2 _ rfl; obtain ⟨q3, z3⟩ := HI.out.cell 3 _ rfl; have qr := HI.out.ptr; have qs := HI.out.ptrs; obtain ⟨⟨y0, y1, y2, y3⟩, v0, v1, v2, v3⟩ := HI.out.rest
  go_wp2
  have p := HI.out.res; have p0 := fun x0 x1 x2 x3 => cell_at (put4 p x0 x1 x2 x3) 0 _ rfl; have p1 := fun x0 x1 x2 x3 => cell_at (put4 p x0 x1 x2 x3) 1 _ rfl; have p2 := fun x0 x1 x2 x3 => cell_at (put4 p x0 x1 x2 x3) 2 _ rfl; have p3 := fun x0 x1 x2 x3 => cell_at (put4 p x0 x1 x2 x3) 3 _ rfl; (try simp only [Exit.inBlock, Exit.then]); refine bodyPost_ret (by simp [results, Try.results127, go_sem, p0, p1, p2, p3]; try rfl) rfl ?_
  obtain ⟨-, o2, o3, -⟩ := HI.out.out _ _ _ _ _ rfl
  exact ⟨rfl, o2, o3⟩
set_option maxHeartbeats 4000000 in
set_option maxRecDepth 100000 in
theorem rend3 (g b : Nat) (s : St) (w : World) (h : Rd w g b s) (hg : g < w.heap.size) (hk : (sBelow 256 s).1 = 3) :
    Calls Try.prog 127 #[.pointer (some ⟨g, 0, none⟩)] w fun e w' => e = .returned (endV (sEnd s).1) ∧ Rd w' g b (sEnd s).2 ∧ Keep (· = g) w w' := by
  have mixed : Try.prog.follows .mixedOrders = true := by kernel_rfl
  have H := Aside0.mk h
  have HE := Aside0.mk hk
  have HWK := Aside0.mk (trivial)
  obtain ⟨s1, hs1⟩ : ∃ s1, (sBelow 256 s).2 = s1 := ⟨_, rfl⟩
  have HS1 := Aside0.mk hs1
  rw [show sEnd s = ((3, (sBelow 4096 s1).1, 0, 0), (sBelow 4096 s1).2) from by simp [sEnd, show sBelow 256 s = (3, s1) from by rw [← hk, ← hs1]]]
  clear h hk hs1
  go_enter Try.func127, Try.ntmps127
  go_upto_region 2 with (go_at_call 46; refine (rd_below g b s 256 _ (H.out.below (((Below.refl _ _).alloc (Nat.le_refl _) _).alloc (by simp) _)) (by decide) (by decide)).mono ?_; rintro _ w1 ⟨rfl, hd, hk, hs⟩; have hwk := HWK.out; rw [HE.out]; rw [HS1.out] at hd; have HD := Aside0.mk hd; have HK := Aside0.mk hk; clear hd hk hs)
  have HI := Aside0.mk (end_start (F := #[.int .u8 3, .int .i64 0, .int .i64 0, .int .i64 0]) HK.out HD.out hg H.out.2.2 rfl rfl rfl rfl); clear HD HK; obtain ⟨gb, hgb⟩ : ∃ gb, w1.heap.size = gb := ⟨_, rfl⟩; rw [hgb] at HI ⊢; obtain ⟨WB, hWB⟩ : ∃ WB, WB = w1.alloc (.cells #[.int .u8 3, .int .i64 0, .int .i64 0, .int .i64 0] 82) := ⟨_, rfl⟩; rw [← hWB] at HI ⊢; clear hWB hgb; have q0 := (HI.out.cell 0 _ rfl).1; obtain ⟨q1, z1⟩ := HI.out.cell 1 _ rfl; obtain ⟨q2, z2⟩ := HI.out.cell 2 _ rfl; obtain ⟨q3, z3⟩ := HI.out.cell 3 _ rfl; have qr := HI.out.ptr; have qs := HI.out.ptrs; obtain ⟨⟨y0, y1, y2, y3⟩, v0, v1, v2, v3⟩ := HI.out.rest
  go_upto_region 13 with (go_at_call 147; (first | refine (end_num HI.out ).mono ?_ | refine (end_num (HI.out.set _ _) ).mono ?_); rintro _ w2 ⟨rfl, hi⟩; clear HI; (try clear q0 q1 q2 q3 z1 z2 z3 qr qs y0 y1 y2 y3 v0 v1 v2 v3); have HI := Aside0.mk hi; clear hi; have q0 := (HI.out.cell 0 _ rfl).1; obtain ⟨q1, z1⟩ := HI.out.cell 1 _ rfl; obtain ⟨q2, z2⟩ := HI.out.cell 2 _ rfl; obtain ⟨q3, z3⟩ := HI.out.cell 3 _ rfl; have qr := HI.out.ptr; have qs := HI.out.ptrs; obtain ⟨⟨y0, y1, y2, y3⟩, v0, v1, v2, v3⟩ := HI.out.rest)
  have hset := HI.out.set 1 (.int .i64 (sBelow 4096 s1).1)
  generalize w2.setCell ⟨gb, 1, none⟩ (.int .i64 (sBelow 4096 s1).1) = WL at hset ⊢
  clear HI
  have HI := Aside0.mk hset
  clear q0 q1 q2 q3 z1 z2 z3 qr qs y0 y1 y2 y3 v0 v1 v2 v3
  clear hset
  have q0 := (HI.out.cell 0 _ rfl).1; obtain ⟨q1, z1⟩ := HI.out.cell 1 _ rfl; obtain ⟨q2, z2⟩ := HI.out.cell 2 _ rfl; obtain ⟨q3, z3⟩ := HI.out.cell 3 _ rfl; have qr := HI.out.ptr; have qs := HI.out.ptrs; obtain ⟨⟨y0, y1, y2, y3⟩, v0, v1, v2, v3⟩ := HI.out.rest
  go_wp2
  have p := HI.out.res; have p0 := fun x0 x1 x2 x3 => cell_at (put4 p x0 x1 x2 x3) 0 _ rfl; have p1 := fun x0 x1 x2 x3 => cell_at (put4 p x0 x1 x2 x3) 1 _ rfl; have p2 := fun x0 x1 x2 x3 => cell_at (put4 p x0 x1 x2 x3) 2 _ rfl; have p3 := fun x0 x1 x2 x3 => cell_at (put4 p x0 x1 x2 x3) 3 _ rfl; (try simp only [Exit.inBlock, Exit.then]); refine bodyPost_ret (by simp [results, Try.results127, go_sem, p0, p1, p2, p3]; try rfl) rfl ?_
  obtain ⟨-, o2, o3, -⟩ := HI.out.out _ _ _ _ _ rfl
  exact ⟨rfl, o2, o3⟩
set_option maxHeartbeats 4000000 in
set_option maxRecDepth 100000 in
theorem rend0 (g b : Nat) (s : St) (w : World) (h : Rd w g b s) (hg : g < w.heap.size) (k : Int) (hk : (sBelow 256 s).1 = k) (hkk : (k == 1) = false ∧ (k == 2) = false ∧ (k == 3) = false) :
    Calls Try.prog 127 #[.pointer (some ⟨g, 0, none⟩)] w fun e w' => e = .returned (endV (sEnd s).1) ∧ Rd w' g b (sEnd s).2 ∧ Keep (· = g) w w' := by
  have mixed : Try.prog.follows .mixedOrders = true := by kernel_rfl
  have H := Aside0.mk h
  have HE := Aside0.mk hk
  have HWK := Aside0.mk (show IntKind.u8.wrap k = k from by have := below_range (m := 256) (s := s) (by decide) h.2.1; rw [hk] at this; exact wraps_u8' _ this.1 this.2)
  obtain ⟨s1, hs1⟩ : ∃ s1, (sBelow 256 s).2 = s1 := ⟨_, rfl⟩
  have HS1 := Aside0.mk hs1
  obtain ⟨e1, e2, e3⟩ := hkk
  have k1 := beq_eq_false_iff_ne.1 e1
  have k2 := beq_eq_false_iff_ne.1 e2
  have k3 := beq_eq_false_iff_ne.1 e3
  rw [show sEnd s = ((k, 0, 0, 0), sFail 20 s1) from by simp [sEnd, show sBelow 256 s = (k, s1) from by rw [← hk, ← hs1], k1, k2, k3]]
  clear h hk hs1
  go_enter Try.func127, Try.ntmps127
  go_upto_region 2 with (go_at_call 46; refine (rd_below g b s 256 _ (H.out.below (((Below.refl _ _).alloc (Nat.le_refl _) _).alloc (by simp) _)) (by decide) (by decide)).mono ?_; rintro _ w1 ⟨rfl, hd, hk, hs⟩; have hwk := HWK.out; rw [HE.out]; rw [HS1.out] at hd; have HD := Aside0.mk hd; have HK := Aside0.mk hk; clear hd hk hs)
  have HI := Aside0.mk (end_start (F := #[.int .u8 k, .int .i64 0, .int .i64 0, .int .i64 0]) HK.out HD.out hg H.out.2.2 rfl rfl rfl rfl); clear HD HK; obtain ⟨gb, hgb⟩ : ∃ gb, w1.heap.size = gb := ⟨_, rfl⟩; rw [hgb] at HI ⊢; obtain ⟨WB, hWB⟩ : ∃ WB, WB = w1.alloc (.cells #[.int .u8 k, .int .i64 0, .int .i64 0, .int .i64 0] 82) := ⟨_, rfl⟩; rw [← hWB] at HI ⊢; clear hWB hgb; have q0 := (HI.out.cell 0 _ rfl).1; obtain ⟨q1, z1⟩ := HI.out.cell 1 _ rfl; obtain ⟨q2, z2⟩ := HI.out.cell 2 _ rfl; obtain ⟨q3, z3⟩ := HI.out.cell 3 _ rfl; have qr := HI.out.ptr; have qs := HI.out.ptrs; obtain ⟨⟨y0, y1, y2, y3⟩, v0, v1, v2, v3⟩ := HI.out.rest
  go_upto_region 13 with (go_at_call 94; (first | refine (end_fail HI.out 20).mono ?_ | refine (end_fail (HI.out.set _ _) 20).mono ?_); rintro _ w2 ⟨rfl, hi⟩; clear HI; (try clear q0 q1 q2 q3 z1 z2 z3 qr qs y0 y1 y2 y3 v0 v1 v2 v3); have HI := Aside0.mk hi; clear hi; have q0 := (HI.out.cell 0 _ rfl).1; obtain ⟨q1, z1⟩ := HI.out.cell 1 _ rfl; obtain ⟨q2, z2⟩ := HI.out.cell 2 _ rfl; obtain ⟨q3, z3⟩ := HI.out.cell 3 _ rfl; have qr := HI.out.ptr; have qs := HI.out.ptrs; obtain ⟨⟨y0, y1, y2, y3⟩, v0, v1, v2, v3⟩ := HI.out.rest)
  go_wp2
  have p := HI.out.res; have p0 := fun x0 x1 x2 x3 => cell_at (put4 p x0 x1 x2 x3) 0 _ rfl; have p1 := fun x0 x1 x2 x3 => cell_at (put4 p x0 x1 x2 x3) 1 _ rfl; have p2 := fun x0 x1 x2 x3 => cell_at (put4 p x0 x1 x2 x3) 2 _ rfl; have p3 := fun x0 x1 x2 x3 => cell_at (put4 p x0 x1 x2 x3) 3 _ rfl; (try simp only [Exit.inBlock, Exit.then]); refine bodyPost_ret (by simp [results, Try.results127, go_sem, p0, p1, p2, p3]; try rfl) rfl ?_
  obtain ⟨-, o2, o3, -⟩ := HI.out.out _ _ _ _ _ rfl
  exact ⟨rfl, o2, o3⟩
/-- Any end is read. -/
theorem wread_end (g b : Nat) (s : St) (w : World) (h : Rd w g b s) (hg : g < w.heap.size) : Calls Try.prog 127 #[.pointer (some ⟨g, 0, none⟩)] w fun e w' => e = .returned (endV (sEnd s).1) ∧ Rd w' g b (sEnd s).2 ∧ Keep (· = g) w w' := by
  rcases (by simp only [beq_eq_false_iff_ne]; omega : (sBelow 256 s).1 = 1 ∨ (sBelow 256 s).1 = 2 ∨ (sBelow 256 s).1 = 3 ∨ (((sBelow 256 s).1 == 1) = false ∧ ((sBelow 256 s).1 == 2) = false ∧ ((sBelow 256 s).1 == 3) = false)) with hk | hk | hk | hk
  · exact rend1 g b s w h hg hk
  · exact rend2 g b s w h hg hk
  · exact rend3 g b s w h hg hk
  · exact rend0 g b s w h hg _ rfl hk
end Go.Proofs.Ytnckonglodmfeaa.Ik

namespace Go.Proofs.Ytnckonglodmfeaa.Ik
open Go.Proofs.Ytnckonglodmfeaa.Ls Go.Proofs.Ytnckonglodmfeaa.Lc Go.RowKit Go.Proofs.YtnckonglodmfeaaW.PrintWords Go.Proofs.YtnckonglodmfeaaW.PrintLast Go.Proofs.YtnckonglodmfeaaW.PrintMore Go.Proofs.Ytnckonglodmfeaa.B Go.Proofs.Ytnckonglodmfeaa.R Go.Proofs.Ytnckonglodmfeaa.S Go.Proofs.Ytnckonglodmfeaa.Is Go.Proofs.Ytnckonglodmfeaa.Js
set_option linter.unusedVariables false
set_option linter.unusedSimpArgs false
/-- A block that is being read lies at gb. -/
structure BlkS (wo W : World) (g b gb : Nat) (s : St) (F : Array Value) : Prop where
  rd : Rd W g b s
  bx : W.heap[gb]? = some (.cells F 84 (0, 0))
  keep : Keep (· = g) wo W
  base : wo.heap.size ≤ gb
  hg : g < wo.heap.size
  hb : b < wo.heap.size
theorem BlkS.move {wo W W' : World} {g b gb : Nat} {s s' : St} {F : Array Value} (h : BlkS wo W g b gb s F) (hk : Keep (fun i => i = g ∨ gb < i) W W') (hr : Rd W' g b s') : BlkS wo W' g b gb s' F := by
  have h1 := h.hg
  have h2 := h.base
  exact ⟨hr, (hk.block gb (blk_lt h.bx) (fun e => by omega)).trans h.bx, h.keep.then hk (fun i hi e => by omega), h2, h1, h.hb⟩
theorem BlkS.step {wo W W' : World} {g b gb : Nat} {s s' : St} {F : Array Value} (h : BlkS wo W g b gb s F) (hk : Keep (· = g) W W') (hr : Rd W' g b s') : BlkS wo W' g b gb s' F := h.move (hk.mono (fun i _ e => .inl e)) hr
theorem BlkS.set {wo W : World} {g b gb : Nat} {s : St} {F : Array Value} (h : BlkS wo W g b gb s F) (j : Nat) (x : Value) : BlkS wo (W.setCell ⟨gb, j, none⟩ x) g b gb s (F.setIfInBounds j x) := by
  have h1 := h.hg
  have h2 := h.base
  have h3 := h.hb
  have hk : Keep (· = gb) W (W.setCell ⟨gb, j, none⟩ x) := (Keep.refl _ _).setCell ⟨gb, j, none⟩ x (fun _ => rfl)
  exact ⟨h.rd.keep hk (by omega) (by omega), heap_setCell_same W gb j F _ _ h.bx, h.keep.setCell _ _ (fun hh => by have hh : gb < wo.heap.size := hh; omega), h2, h1, h3⟩
theorem BlkS.drew {wo W : World} {g b gb : Nat} {s : St} {F : Array Value} (h : BlkS wo W g b gb s F) : BlkS wo W.drew g b gb s F := ⟨⟨h.rd.1, h.rd.2⟩, h.bx, h.keep.drew, h.base, h.hg, h.hb⟩
theorem BlkS.cell {wo W : World} {g b gb : Nat} {s : St} {F : Array Value} (h : BlkS wo W g b gb s F) (j : Nat) (x : Value) (hx : F[j]? = some x) : W.cell? ⟨gb, j, none⟩ = some x ∧ W.frozen? ⟨gb, j, none⟩ = false := ⟨cell_at h.bx j x hx, blk_frozen h.bx j⟩
/-- An instruction that was made, as cells. -/
theorem ins_M {w : World} {base : Nat} {ok : Nat → Prop} {k op d a b n : Int} {args : List Int} {v : Value} (h : kI.R 3 w base ok v args) : kIns.M w base ok (k, op, d, a, b, n, args) [.int .u8 k, .int .u8 op, .int .i64 d, .int .i64 a, .int .i64 b, .int .i64 n, v] :=
  ⟨[_], _, rfl, rfl, [_], _, rfl, rfl, [_], _, rfl, rfl, [_], _, rfl, rfl, [_], _, rfl, rfl, [_], _, rfl, rfl, v, rfl, h⟩
theorem blk_M {w : World} {base : Nat} {ok : Nat → Prop} {k a t e : Int} {l : List Ins} {v : Value} (h : kIns.R 92 w base ok v l) : kBlk.M w base ok (l, k, a, t, e) [v, .int .u8 k, .int .i64 a, .int .i64 t, .int .i64 e] :=
  ⟨[_], _, rfl, ⟨v, rfl, h⟩, [_], _, rfl, rfl, [_], _, rfl, rfl, [_], _, rfl, rfl, rfl⟩
theorem ins_fits {n : Nat} (h : n ≤ 1000) : (n + 1) * 64 ≤ 140737488355328 := by omega
theorem blk_fits {n : Nat} (h : n ≤ 1000) : (n + 1) * 56 ≤ 140737488355328 := by omega
theorem keep_of_below {N : Nat} {w w' : World} (h : Below N w w') : Keep (fun i => N ≤ i) w w' := ⟨h.os, h.tape, h.output, h.size, fun k _ hs => h.block k (Nat.lt_of_not_le hs)⟩
set_option maxHeartbeats 4000000 in
set_option maxRecDepth 100000 in
theorem wread_blocks (g b : Nat) (s : St) (most : Int) (w : World) (h : Rd w g b s) (hg : g < w.heap.size) (hm0 : 0 ≤ most) (hm1 : most ≤ 400) :
    Calls Try.prog 95 #[.pointer (some ⟨g, 0, none⟩), .int .i64 most] w fun e w' => ∃ v bs, e = .returned v ∧ kBlk.R 84 w' w.heap.size (fun _ => True) v bs ∧ ((sBlks most s).2.2 = 0 → bs = (sBlks most s).1) ∧ Rd w' g b (sBlks most s).2 ∧ Keep (· = g) w w' := by
  have mixed : Try.prog.follows .mixedOrders = true := by kernel_rfl
  have H := Aside0.mk h
  have hr17 := below_range (m := 17) (by decide) h.2.1
  have HP := Aside0.mk (below_pos (m := 17) (s := s))
  obtain ⟨N, hN⟩ : ∃ N : Nat, (sBelow 17 s).1 = (N : Int) := ⟨(sBelow 17 s).1.toNat, by omega⟩
  obtain ⟨s1, hs1⟩ : ∃ s1, (sBelow 17 s).2 = s1 := ⟨_, rfl⟩
  have hN16 : N ≤ 16 := by omega
  rw [show sBlks most s = sBlkN most N s1 by unfold sBlks; rw [hN, hs1]; rfl]
  have HN := Aside0.mk hN
  have HS1 := Aside0.mk hs1
  clear h hr17 hN hs1
  go_enter Try.func95, Try.ntmps95
  go_wp2_with (go_at_call 46; refine (rd_below g b s 17 _ H.out (by decide) (by decide)).mono ?_; rintro _ w1 ⟨rfl, hd, hk, -⟩; rw [HS1.out] at hd; rw [HN.out]; have HD := Aside0.mk hd; have HK := Aside0.mk hk; clear hd hk)
  have HC0 := Aside0.mk (show 0 < N → s1.2 = 0 from fun h => by rw [← HS1.out]; exact HP.out (by rw [HN.out]; omega))
  go_loopw [5, 9] (fun vo vi wr => ∃ x : Nat, x ≤ N ∧ vi = .int .i64 x ∧ ∃ bs, Aside0 (kBlk.R 84 wr w.heap.size (fun _ => True) vo bs) ∧ Aside0 (Rd wr g b (sBlkN most x s1).2) ∧ Aside0 ((sBlkN most x s1).1 = bs ∧ (x < N → (sBlkN most x s1).2.2 = 0)) ∧ Aside0 (Keep (· = g) w wr)) (fun _ vi _ => N - (intOf vi).toNat)
  case atStart => exact ⟨0, by omega, rfl, [], ⟨Kd.R_nil _ _ _ _ _⟩, HD, ⟨rfl, HC0.out⟩, HK⟩
  case round =>
    clear HD HK
    obtain ⟨wo, hwo⟩ : ∃ wo, wo = wr := ⟨_, rfl⟩
    subst hwo
    obtain ⟨x, hx, rfl, bs, HO, HD, HB, HK⟩ := hrel
    by_cases hxN : x < N
    · obtain ⟨sx, hsx⟩ : ∃ sx, (sBlkN most x s1).2 = sx := ⟨_, rfl⟩
      have hc := HB.out.2 hxN
      rw [hsx] at hc
      have HNX := Aside0.mk (show sBlkN most (x + 1) s1 = (bs ++ [(sBlk most sx).1], (sBlk most sx).2) by rw [blkN_succ (by rw [hsx]; exact hc), hsx, HB.out.1])
      have hbl : bs.length ≤ 16 := by rw [← HB.out.1]; exact Nat.le_trans (blkN_len _ _ _) (by omega)
      rw [hsx] at HD
      have hby := HD.out.2.1
      have hrm := below_range (m := most + 1) (by omega) hby
      obtain ⟨m, hm⟩ : ∃ m : Nat, (sBelow (most + 1) sx).1 = (m : Int) := ⟨(sBelow (most + 1) sx).1.toNat, by omega⟩
      obtain ⟨s2, hs2⟩ : ∃ s2, (sBelow (most + 1) sx).2 = s2 := ⟨_, rfl⟩
      have hm4 : m ≤ 400 := by omega
      have HSB := Aside0.mk (show sBlk most sx = (((sInss m s2).1, (sEnd (sInss m s2).2).1), (sEnd (sInss m s2).2).2) by rw [blk_eq, hm, hs2]; rfl)
      have HM := Aside0.mk hm
      have HS2 := Aside0.mk hs2
      have hwrap := wrap_i64 (most + 1) (by omega) (by omega)
      have HGL := Aside0.mk (show g < wo.heap.size ∧ b < wo.heap.size from ⟨HD.out.1.lt, HD.out.2.2⟩)
      clear hsx hc hby hrm hm hs2
      go_wp2_with (go_at_call 46; refine (rd_below g b sx (most + 1) _ (HD.out.below ((Below.refl _ _).alloc (Nat.le_refl _) _)) (by omega) (by omega)).mono ?_; rintro _ w1 ⟨rfl, hd, hk, -⟩; rw [HS2.out] at hd; rw [HM.out]; have HD2 := Aside0.mk hd; have HK2 := Aside0.mk hk; clear hd hk)
      have HI0 := Aside0.mk (show BlkS wo w1 g b wo.heap.size s2 #[.slice none 0 0, .int .u8 0, .int .i64 0, .int .i64 0, .int .i64 0] from ⟨HD2.out, (HK2.out.block wo.heap.size (by rw [World.size_alloc]; omega) (fun e => by have e : wo.heap.size = g := e; have := HGL.out.1; omega)).trans (heap_alloc_new _ _), ((Keep.refl (· = g) wo).alloc _).trans HK2.out, Nat.le_refl _, HGL.out.1, HGL.out.2⟩)
      clear HD2 HK2
      go_loopw [15] (fun vi wi => ∃ i : Nat, i ≤ m ∧ vi = .int .i64 i ∧ ∃ vv is, Aside0 (BlkS wo wi g b wo.heap.size (sInss i s2).2 #[vv, .int .u8 0, .int .i64 0, .int .i64 0, .int .i64 0]) ∧ Aside0 (kIns.R 92 wi (wo.heap.size + 1) (fun k => wo.heap.size < k) vv is) ∧ Aside0 ((sInss i s2).1 = is)) (fun vi _ => m - (intOf vi).toNat)
      case atStart => exact ⟨0, by omega, rfl, .slice none 0 0, [], HI0, ⟨Kd.R_nil _ _ _ _ _⟩, ⟨rfl⟩⟩
      case round =>
        clear HI0
        obtain ⟨wi, hwi⟩ : ∃ wi, wi = wr := ⟨_, rfl⟩
        subst hwi
        obtain ⟨i, hi, rfl, vv, is, HI, HV, HS⟩ := hrel
        by_cases him : i < m
        · obtain ⟨si, hsi⟩ : ∃ si, (sInss i s2).2 = si := ⟨_, rfl⟩
          have HSI := Aside0.mk hsi
          rw [hsi] at HI
          clear hsi
          by_cases hc : si.2 = 0
          · obtain ⟨⟨k, op, d, a, bb, nn, args⟩, s', hx⟩ : ∃ x s', sIns si = (x, s') := ⟨_, _, rfl⟩
            have HNI := Aside0.mk (show sInss (i + 1) s2 = (is ++ [(k, op, d, a, bb, nn, args)], s') by rw [inss_succ (by rw [HSI.out]; exact hc), HSI.out, HS.out, hx])
            have hil : is.length ≤ 1000 := by rw [← HS.out]; exact Nat.le_trans (inss_len _ _) (by omega)
            have HX := Aside0.mk hx
            have HL := Aside0.mk (blk_lt HI.out.bx)
            have HCD := Aside0.mk hc
            have HC0' := Aside0.mk (show ∀ W', Keep (fun i => i = g ∨ wo.heap.size < i) wi.drew W' → W'.heap[wo.heap.size]? = some (.cells #[vv, .int .u8 0, .int .i64 0, .int .i64 0, .int .i64 0] 84 (0, 0)) from fun W' h => (h.block wo.heap.size (blk_lt HI.out.bx) (fun e => by have := HI.out.hg; omega)).trans HI.out.bx)
            clear hx hc
            go_wp2_with (go_at_call 99; refine (rd_code g b si _ HI.out.rd).mono ?_; rintro _ _ ⟨rfl, rfl⟩; rw [HCD.out])
            refine re_start [7] (fun i => i = g ∨ wo.heap.size < i) (by kernel_rfl) (n := 8) (l := #[false, false, false, false, false, false, false, false]) (by kernel_rfl) (by kernel_rfl) ?_
            refine re_take (fuel := 7) 0 rfl (by kernel_rfl) (listed' := #[true, false, false, false, false, false, false, false]) (by kernel_rfl) (fun _ _ _ h => h) (by kernel_rfl) (fun w' hR => by go_simp; first | done | with_reducible rfl) rfl ?_
            try simp only [Act.put, List.setIfInBounds_toArray, List.set_cons_zero, List.set_cons_succ]
            refine re_take (fuel := 6) 1 rfl (by kernel_rfl) (listed' := #[true, true, false, false, false, false, false, false]) (by kernel_rfl) (fun _ _ _ h => h) (by kernel_rfl) (fun w' hR => by have x0 := cell_at (HC0'.out w' hR) 0 vv rfl; go_simp; first | done | with_reducible rfl) rfl ?_
            try simp only [Act.put, List.setIfInBounds_toArray, List.set_cons_zero, List.set_cons_succ]
            refine re_take (fuel := 5) 2 rfl (by kernel_rfl) (listed' := #[true, true, true, false, false, false, false, false]) (by kernel_rfl) (fun _ _ _ h => h) (by kernel_rfl) (fun w' hR => by go_simp; first | done | with_reducible rfl) rfl ?_
            try simp only [Act.put, List.setIfInBounds_toArray, List.set_cons_zero, List.set_cons_succ]
            refine re_step (fuel := 4) 3 rfl (by kernel_rfl) (listed' := #[true, true, true, true, false, false, false, false]) (by kernel_rfl) (by kernel_rfl) (fun K' hK => ?_)
            go_wp2_with (go_at_call 126; refine (wread_ins g b si wi.drew HI.out.drew.rd (HI.out.drew.rd.1.lt)).mono ?_; rintro _ w3 ⟨va, rfl, hra, hd, hk⟩; rw [HX.out] at hra hd ⊢; simp only [insVal]; obtain ⟨Aa, ca, hva, -, -⟩ := Kd.R_reads hra; subst hva; have HRA := Aside0.mk hra; have HD3 := Aside0.mk hd; have HK3 := Aside0.mk hk; clear hra hd hk)
            refine hK.out _ _ (HK3.out.mono (fun i _ h => .inl h)) ?_
            clear hK K'
            try simp only [Act.put, List.setIfInBounds_toArray, List.set_cons_zero, List.set_cons_succ]
            refine re_step (fuel := 3) 4 rfl (by kernel_rfl) (listed' := #[true, true, true, true, true, false, false, false]) (by kernel_rfl) (by kernel_rfl) (fun K' hK => ?_)
            (go_wp2_with fail)
            refine hK.out _ _ (Keep.of_below ((Below.refl w3.heap.size w3).alloc (Nat.le_refl _) (.cells #[.int .u8 k, .int .u8 op, .int .i64 d, .int .i64 a, .int .i64 bb, .int .i64 nn, .slice Aa args.length ca] 92))) ?_
            clear hK K'
            try simp only [Act.put, List.setIfInBounds_toArray, List.set_cons_zero, List.set_cons_succ]
            refine re_step (fuel := 2) 5 rfl (by kernel_rfl) (listed' := #[true, true, true, true, true, true, false, false]) (by kernel_rfl) (by kernel_rfl) (fun K' hK => ?_)
            refine R_append_wp kIns (W := w3) (wo.heap.size + 1) (.tmp 21) (.tmp 24) 79 92 (.agg #[.int .u8 0, .int .u8 0, .int .i64 0, .int .i64 0, .int .i64 0, .int .i64 0, .slice none 0 0]) 64 rfl Try.underlying79 infoIns rfl (show 0 < 7 by decide) (by decide) vv is (k, op, d, a, bb, nn, args) [.int .u8 k, .int .u8 op, .int .i64 d, .int .i64 a, .int .i64 bb, .int .i64 nn, .slice Aa args.length ca] (fun k => wo.heap.size < k) (fun k => wi.heap.size ≤ k) rfl rfl (ins_M (Kd.R_lower (Kd.R_mono (Kd.R_bound HRA.out) (fun k hk => hk.2.1)) (Nat.succ_le_of_lt HL.out))) (fun k hk => ⟨Nat.lt_of_lt_of_le HL.out hk, fun e => absurd ((Kd.R_bound HV.out).1 k e.symm).2.2.1 (Nat.not_lt.2 hk)⟩) (fun k hk => Nat.lt_of_lt_of_le HL.out (Nat.le_trans HK3.out.size hk)) (Kd.R_step HV.out (fun k hk hl => HK3.out.block k hl (fun e => by have e : k = g := e; have := HI.out.hg; omega))) (Nat.le_trans (Nat.succ_le_of_lt HL.out) HK3.out.size) (ins_fits hil) ?_; intro v4 w4 ho4 hg4 hg4' hat4; obtain ⟨A4, c4, hv4, -, -⟩ := Kd.R_reads ho4; obtain ⟨m4, hm4⟩ : ∃ m4, (is ++ [(k, op, d, a, bb, nn, args)]).length = m4 := ⟨_, rfl⟩; rw [hm4] at hv4; subst hv4; clear hm4; have HO4 := Aside0.mk ho4; have HK4 := Aside0.mk (show Keep (fun i => wo.heap.size < i) (w3.alloc (.cells #[.int .u8 k, .int .u8 op, .int .i64 d, .int .i64 a, .int .i64 bb, .int .i64 nn, .slice Aa args.length ca] 92)) w4 from grown_keep hg4' (fun i hi => HV.out.1 i hi)); clear ho4 hg4 hg4' hat4
            refine hK.out _ _ (HK4.out.mono (fun i _ h => .inr h)) ?_
            clear hK K'
            try simp only [Act.put, List.setIfInBounds_toArray, List.set_cons_zero, List.set_cons_succ]
            refine re_take (fuel := 1) 6 rfl (by kernel_rfl) (listed' := #[true, true, true, true, true, true, true, false]) (by kernel_rfl) (fun _ _ _ h => h) (by kernel_rfl) (fun w' hR => by go_simp; first | done | with_reducible rfl) rfl ?_
            try simp only [Act.put, List.setIfInBounds_toArray, List.set_cons_zero, List.set_cons_succ]
            refine re_free (fuel := 0) 7 rfl (by kernel_rfl) (listed' := #[true, true, true, true, true, true, true, true]) (by kernel_rfl) (by kernel_rfl) (fun K' hK => ?_)
            have hal : Below w3.heap.size w3 (w3.alloc (.cells #[.int .u8 k, .int .u8 op, .int .i64 d, .int .i64 a, .int .i64 bb, .int .i64 nn, .slice Aa args.length ca] 92)) := (Below.refl _ _).alloc (Nat.le_refl _) _; have hk4 : Keep (fun i => i = g ∨ wo.heap.size < i) wi.drew w4 := ((HK3.out.mono (fun i _ h => .inl h)).trans (Keep.of_below hal)).trans (HK4.out.mono (fun i _ h => .inr h)); have hh := HC0'.out w4 hk4; have x7 := cell_at hh 0 vv rfl; have x8 := blk_frozen hh 0; have HKW := Aside0.mk hk4; have HRD4 := Aside0.mk ((HD3.out.below hal).keep HK4.out (fun e => by have := HI.out.hg; omega) (fun e => by have := HI.out.hb; omega)); clear hk4 hh hal; go_wp2_with fail
            refine hK.out _ _ trivial ?_
            clear hK K'
            try simp only [Act.put, List.setIfInBounds_toArray, List.set_cons_zero, List.set_cons_succ]
            refine re_done (by kernel_rfl) ?_
            have hin := (HI.out.drew.move HKW.out HRD4.out).set 0 (.slice A4 m4 c4)
            have HIN := Aside0.mk (show BlkS wo (w4.setCell ⟨wo.heap.size, 0, none⟩ (.slice A4 m4 c4)) g b wo.heap.size s' #[.slice A4 m4 c4, .int .u8 0, .int .i64 0, .int .i64 0, .int .i64 0] from hin)
            have HRN := Aside0.mk (show kIns.R 92 (w4.setCell ⟨wo.heap.size, 0, none⟩ (.slice A4 m4 c4)) (wo.heap.size + 1) (fun k => wo.heap.size < k) (.slice A4 m4 c4) (is ++ [(k, op, d, a, bb, nn, args)]) from Kd.R_step HO4.out (fun k hk hl => Below.heap_setCell _ _ _ _ (show k ≠ wo.heap.size by omega)))
            clear hin
            go_wp2
            go_roundw
            case rel => exact ⟨i + 1, by omega, by go_num, .slice A4 m4 c4, _, ⟨by rw [HNI.out]; exact HIN.out⟩, ⟨HRN.out⟩, ⟨by rw [HNI.out]⟩⟩
            case measure => simp [intOf]; omega
          · have hcb : (si.2 == 0) = false := beq_eq_false_iff_ne.mpr hc
            have HNI := Aside0.mk (show sInss (i + 1) s2 = (is, si) by rw [sInss, if_neg (by rw [HSI.out]; exact hc), ← HS.out, ← HSI.out])
            clear hc
            go_wp2_with (go_at_call 99; refine (rd_code g b si _ HI.out.rd).mono ?_; rintro _ _ ⟨rfl, rfl⟩)
            go_roundw
            case rel => exact ⟨i + 1, by omega, by go_num, vv, is, ⟨by rw [HNI.out]; exact HI.out⟩, HV, ⟨by rw [HNI.out]⟩⟩
            case measure => simp [intOf]; omega
        · obtain rfl : i = m := by omega
          obtain ⟨⟨k, a, tt, ee⟩, s4, he⟩ : ∃ x s', sEnd (sInss i s2).2 = (x, s') := ⟨_, _, rfl⟩
          have HE := Aside0.mk he
          have HNY := Aside0.mk (show sBlkN most (x + 1) s1 = (bs ++ [(is, k, a, tt, ee)], s4) by rw [HNX.out, HSB.out, he, HS.out])
          obtain ⟨Av, cv, hv, -, -⟩ := Kd.R_reads HV.out
          obtain ⟨mv, hmv⟩ : ∃ m, is.length = m := ⟨_, rfl⟩
          rw [hmv] at hv
          subst hv
          clear he hmv
          by_cases hc : s4.2 = 0
          · have HCD := Aside0.mk hc
            clear hc
            go_wp2_with (first
              | (go_at_call 127; refine (wread_end g b _ _ HI.out.rd HI.out.rd.1.lt).mono ?_; rintro _ w5 ⟨rfl, hd, hk⟩; rw [HE.out] at hd ⊢; simp only [endV]; have HI5 := Aside0.mk (HI.out.step hk hd); have HK5 := Aside0.mk hk; obtain ⟨y1, z1⟩ := HI5.out.cell 1 _ rfl; obtain ⟨y2, z2⟩ := HI5.out.cell 2 _ rfl; obtain ⟨y3, z3⟩ := HI5.out.cell 3 _ rfl; obtain ⟨y4, z4⟩ := HI5.out.cell 4 _ rfl; clear hd hk)
              | (go_at_call 99; have HI6 := Aside0.mk ((((HI5.out.set 1 (.int .u8 k)).set 2 (.int .i64 a)).set 3 (.int .i64 tt)).set 4 (.int .i64 ee)); refine (rd_code g b s4 _ HI6.out.rd).mono ?_; rintro _ w6 ⟨rfl, hw6⟩; rw [HCD.out]; have HK6 := Aside0.mk (show Keep (· = wo.heap.size) w5 w6 from by rw [← hw6]; exact ((((Keep.refl (fun i => i = wo.heap.size) w5).setCell ⟨wo.heap.size, 1, none⟩ (.int .u8 k) (fun _ => rfl)).setCell ⟨wo.heap.size, 2, none⟩ (.int .i64 a) (fun _ => rfl)).setCell ⟨wo.heap.size, 3, none⟩ (.int .i64 tt) (fun _ => rfl)).setCell ⟨wo.heap.size, 4, none⟩ (.int .i64 ee) (fun _ => rfl)); rw [hw6] at HI6; clear y1 y2 y3 y4 z1 z2 z3 z4; have x0 := (HI6.out.cell 0 _ rfl).1; have x1 := (HI6.out.cell 1 _ rfl).1; have x2 := (HI6.out.cell 2 _ rfl).1; have x3 := (HI6.out.cell 3 _ rfl).1; have x4 := (HI6.out.cell 4 _ rfl).1)
              | ((with_reducible refine gate_builtin (b := .append) (xs := #[.tmp 34, .tmp 36]) rfl ?_); at_builtin; refine Kd.R_append kBlk (w0 := w6) w.heap.size rfl (.tmp 34) (.tmp 36) 23 84 (.agg #[.slice none 0 0, .int .u8 0, .int .i64 0, .int .i64 0, .int .i64 0]) 56 rfl Try.underlying23 infoBlk rfl (show 0 < 5 by decide) (by decide) u5 bs (is, k, a, tt, ee) [.slice Av mv cv, .int .u8 k, .int .i64 a, .int .i64 tt, .int .i64 ee] (fun _ => True) (fun k => wo.heap.size < k) rfl rfl (blk_M (Kd.R_lower (Kd.R_step HV.out (fun k hk hl => (HK6.out.block k (Nat.lt_of_lt_of_le hl HK5.out.size) (fun e => by have e : k = wo.heap.size := e; omega)).trans (HK5.out.block k hl (fun e => by have e : k = g := e; have := HGL.out.1; omega)))) (Nat.le_succ_of_le HK.out.size))) (fun k hk => ⟨trivial, fun e => absurd ((Kd.R_bound HO.out).1 k e.symm).2.2.1 (by omega)⟩) (fun _ _ => trivial) (Kd.R_mono (Kd.R_step (Kd.R_mono (Kd.R_bound HO.out) (ok' := fun k => w.heap.size ≤ k) (fun k hk => hk.2.1)) (fun k hk hl => HI6.out.keep.block k hl (fun e => by have e : k = g := e; omega))) (fun _ _ => trivial)) (Below.refl _ _) (Nat.le_trans HK.out.size HI6.out.keep.size) (blk_fits (by omega)) ?_; intro v7 w7 ho7 hb7 hg7 hat7; have HO7 := Aside0.mk ho7; have HB7 := Aside0.mk hb7; clear ho7 hb7 hg7 hat7))
            go_roundw
            case rel => exact ⟨x + 1, by omega, by go_num, _, HO7, ⟨by rw [HNY.out]; exact HI6.out.rd.keep (keep_of_below HB7.out) (by omega) (by have := H.out.2.2; omega)⟩, ⟨by rw [HNY.out], fun _ => by rw [HNY.out]; exact HCD.out⟩, ⟨(HK.out.trans HI6.out.keep).then (keep_of_below HB7.out) (fun i h1 h2 => by omega)⟩⟩
            case measure => simp [intOf]; omega
          · have HCD := Aside0.mk hc
            have hcn : (s4.2 != 0) = true := bne_iff_ne.mpr hc
            have hcb : (s4.2 == 0) = false := beq_eq_false_iff_ne.mpr hc
            have HFN := Aside0.mk (show (sBlkN most N s1) = (sBlkN most (x + 1) s1) from blkN_stuck (by rw [HNY.out]; exact hc) (by omega))
            clear hc
            go_wp2_with (first
              | (go_at_call 127; refine (wread_end g b _ _ HI.out.rd HI.out.rd.1.lt).mono ?_; rintro _ w5 ⟨rfl, hd, hk⟩; rw [HE.out] at hd ⊢; simp only [endV]; have HI5 := Aside0.mk (HI.out.step hk hd); have HK5 := Aside0.mk hk; obtain ⟨y1, z1⟩ := HI5.out.cell 1 _ rfl; obtain ⟨y2, z2⟩ := HI5.out.cell 2 _ rfl; obtain ⟨y3, z3⟩ := HI5.out.cell 3 _ rfl; obtain ⟨y4, z4⟩ := HI5.out.cell 4 _ rfl; clear hd hk)
              | (go_at_call 99; have HI6 := Aside0.mk ((((HI5.out.set 1 (.int .u8 k)).set 2 (.int .i64 a)).set 3 (.int .i64 tt)).set 4 (.int .i64 ee)); refine (rd_code g b s4 _ HI6.out.rd).mono ?_; rintro _ w6 ⟨rfl, hw6⟩; skip; have HK6 := Aside0.mk (show Keep (· = wo.heap.size) w5 w6 from by rw [← hw6]; exact ((((Keep.refl (fun i => i = wo.heap.size) w5).setCell ⟨wo.heap.size, 1, none⟩ (.int .u8 k) (fun _ => rfl)).setCell ⟨wo.heap.size, 2, none⟩ (.int .i64 a) (fun _ => rfl)).setCell ⟨wo.heap.size, 3, none⟩ (.int .i64 tt) (fun _ => rfl)).setCell ⟨wo.heap.size, 4, none⟩ (.int .i64 ee) (fun _ => rfl)); rw [hw6] at HI6; clear y1 y2 y3 y4 z1 z2 z3 z4; have x0 := (HI6.out.cell 0 _ rfl).1; have x1 := (HI6.out.cell 1 _ rfl).1; have x2 := (HI6.out.cell 2 _ rfl).1; have x3 := (HI6.out.cell 3 _ rfl).1; have x4 := (HI6.out.cell 4 _ rfl).1))
            go_returns
            exact ⟨.slice none 0 0, [], rfl, Kd.R_nil _ _ _ _ _, fun h0 => absurd (by rw [HFN.out, HNY.out] at h0; exact h0) HCD.out, by rw [HFN.out, HNY.out]; exact HI6.out.rd, HK.out.trans HI6.out.keep⟩
    · obtain rfl : x = N := by omega
      go_wp2
      go_returns
      exact ⟨_, bs, rfl, HO.out, fun _ => HB.out.1.symm, HD.out, HK.out⟩
end Go.Proofs.Ytnckonglodmfeaa.Ik

namespace Go.Proofs.Ytnckonglodmfeaa.Ik
open Go.Proofs.Ytnckonglodmfeaa.Ls Go.Proofs.Ytnckonglodmfeaa.Lc Go.RowKit Go.Proofs.YtnckonglodmfeaaW.PrintWords Go.Proofs.YtnckonglodmfeaaW.PrintLast Go.Proofs.YtnckonglodmfeaaW.PrintMore Go.Proofs.Ytnckonglodmfeaa.B Go.Proofs.Ytnckonglodmfeaa.R Go.Proofs.Ytnckonglodmfeaa.S Go.Proofs.Ytnckonglodmfeaa.Is Go.Proofs.Ytnckonglodmfeaa.Js
set_option linter.unusedVariables false
set_option linter.unusedSimpArgs false
/-- What is answered: a function, or a fault and nothing. -/
def FunRet (w' : World) (base : Nat) (x : Fun × Int) (e : Ending) : Prop :=
  ∃ p v vb bs, e = .returned (.tuple #[.agg #[.int .i64 p, .int .i64 v, vb], .int .i64 x.2]) ∧ kBlk.R 84 w' base (fun _ => True) vb bs ∧ ((x.2 = 0 ∧ x.1 = (p, v, bs)) ∨ (x.2 ≠ 0 ∧ p = 0 ∧ v = 0 ∧ bs = []))
/-- Three cells are laid. -/
theorem put3 {W : World} {g e : Nat} {u0 u1 u2 : Value} (h : W.heap[g]? = some (.cells #[u0, u1, u2] e (0, 0))) (x0 x1 x2 : Value) :
    (((W.setCell ⟨g, 0, none⟩ x0).setCell ⟨g, 1, none⟩ x1).setCell ⟨g, 2, none⟩ x2).heap[g]? = some (.cells #[x0, x1, x2] e (0, 0)) := by
  have a0 := blk_put h 0 x0 (show _ = #[x0, u1, u2] from rfl)
  have a1 := blk_put a0 1 x1 (show _ = #[x0, x1, u2] from rfl)
  exact blk_put a1 2 x2 rfl
theorem put3_far {W : World} {g : Nat} (x0 x1 x2 : Value) : Keep (fun i => i = g) W (((W.setCell ⟨g, 0, none⟩ x0).setCell ⟨g, 1, none⟩ x1).setCell ⟨g, 2, none⟩ x2) := by
  have a0 := (Keep.refl (fun i => i = g) W).setCell ⟨g, 0, none⟩ x0 (fun _ => rfl)
  have a1 := a0.setCell ⟨g, 1, none⟩ x1 (fun _ => rfl)
  exact a1.setCell ⟨g, 2, none⟩ x2 (fun _ => rfl)
theorem size_set (W : World) (p : Addr) (u : Value) : (W.setCell p u).heap.size = W.heap.size := by simp [World.setCell]
theorem rd_end (g b : Nat) (s : St) (w : World) (h : Rd w g b s) :
    Calls Try.prog 50 #[.pointer (some ⟨g, 0, none⟩)] w fun e w' => e = .returned (.int .i64 (ended s.1 s.2)) ∧ Keep (· = g) w w' ∧ w'.heap.size = w.heap.size := by
  refine (end_calls g b s.1 s.2 w h.1).mono ?_
  rintro e w' ⟨h1, h2, h3, h4⟩
  exact ⟨h1, h3, h4⟩
theorem keep_below {S : Nat → Prop} {N : Nat} {w w' : World} (h : Keep S w w') (hN : N ≤ w.heap.size) (hS : ∀ i, S i → N ≤ i) : Below N w w' := h.below hN (fun i hi hs => by have := hS i hs; omega)
/-- A function that is being read lies at gb, the result behind the world that was. -/
structure RfS (w0 W : World) (g b gb : Nat) (s : St) (F : Array Value) : Prop where
  rd : Rd W g b s
  res : W.heap[w0.heap.size]? = some (.cells #[.int .i64 0, .int .i64 0, .slice none 0 0] 25 (0, 0))
  bx : W.heap[gb]? = some (.cells F 25 (0, 0))
  below : Below w0.heap.size w0 W
  hg : w0.heap.size + 1 ≤ g
  hb : w0.heap.size + 1 ≤ b
  hgb : g < gb
  hbb : b < gb
theorem RfS.step {w0 W W' : World} {g b gb : Nat} {s s' : St} {F : Array Value} (h : RfS w0 W g b gb s F) (hk : Keep (· = g) W W') (hr : Rd W' g b s') : RfS w0 W' g b gb s' F := by
  have h1 := h.hg
  have h2 := h.hgb
  have hs := h.below.size
  exact ⟨hr, (hk.block _ (blk_lt h.res) (fun e => by have e : w0.heap.size = g := e; omega)).trans h.res, (hk.block gb (blk_lt h.bx) (fun e => by have e : gb = g := e; omega)).trans h.bx, h.below.trans (keep_below hk hs (fun i e => by have e : i = g := e; omega)), h1, h.hb, h2, h.hbb⟩
/-- The reader isn't looked at any more. -/
structure RfK (w0 W : World) (gb : Nat) (F : Array Value) : Prop where
  res : W.heap[w0.heap.size]? = some (.cells #[.int .i64 0, .int .i64 0, .slice none 0 0] 25 (0, 0))
  bx : W.heap[gb]? = some (.cells F 25 (0, 0))
  below : Below w0.heap.size w0 W
  hgb : w0.heap.size < gb
theorem RfK.step {w0 W W' : World} {gb : Nat} {F : Array Value} (h : RfK w0 W gb F) (hk : Below W.heap.size W W') : RfK w0 W' gb F :=
  ⟨(hk.block _ (blk_lt h.res)).trans h.res, (hk.block _ (blk_lt h.bx)).trans h.bx, h.below.trans (hk.mono h.below.size), h.hgb⟩
theorem RfS.stepK {w0 W W' : World} {g b gb : Nat} {s : St} {F : Array Value} (h : RfS w0 W g b gb s F) (hk : Keep (· = g) W W') (hs : W'.heap.size = W.heap.size) : RfK w0 W' gb F := by
  have h1 := h.hg
  have h2 := h.hgb
  have hz := h.below.size
  exact ⟨(hk.block _ (blk_lt h.res) (fun e => by have e : w0.heap.size = g := e; omega)).trans h.res, (hk.block gb (blk_lt h.bx) (fun e => by have e : gb = g := e; omega)).trans h.bx, h.below.trans (keep_below hk hz (fun i e => by have e : i = g := e; omega)), by omega⟩
theorem RfS.set {w0 W : World} {g b gb : Nat} {s : St} {F : Array Value} (h : RfS w0 W g b gb s F) (j : Nat) (x : Value) : RfS w0 (W.setCell ⟨gb, j, none⟩ x) g b gb s (F.setIfInBounds j x) := by
  have h1 := h.hg
  have h2 := h.hgb
  have h3 := h.hbb
  have hk : Keep (· = gb) W (W.setCell ⟨gb, j, none⟩ x) := (Keep.refl _ _).setCell ⟨gb, j, none⟩ x (fun _ => rfl)
  have ho : ∀ i, i ≠ gb → (W.setCell ⟨gb, j, none⟩ x).heap[i]? = W.heap[i]? := fun i hi => Below.heap_setCell _ _ _ _ hi
  exact ⟨h.rd.keep hk (by omega) (by omega), (ho _ (by omega)).trans h.res, heap_setCell_same W gb j F _ _ h.bx, h.below.setCell (by show w0.heap.size ≤ gb; omega) _, h1, h.hb, h2, h3⟩
theorem RfK.cells {w0 W : World} {gb : Nat} {F : Array Value} {x0 x1 x2 : Value} (h : RfK w0 W gb F) (hF : F = #[x0, x1, x2]) :
    W.cell? ⟨gb, 0, none⟩ = some x0 ∧ W.cell? ⟨gb, 1, none⟩ = some x1 ∧ W.cell? ⟨gb, 2, none⟩ = some x2 ∧ W.frozen? ⟨gb, 2, none⟩ = false ∧ W.cell? ⟨w0.heap.size, 0, none⟩ = some (.int .i64 0) ∧ W.cell? ⟨w0.heap.size, 1, none⟩ = some (.int .i64 0) ∧ W.cell? ⟨w0.heap.size, 2, none⟩ = some (.slice none 0 0) ∧ W.frozen? ⟨w0.heap.size, 0, none⟩ = false ∧ W.frozen? ⟨w0.heap.size, 1, none⟩ = false ∧ W.frozen? ⟨w0.heap.size, 2, none⟩ = false := by
  subst hF
  exact ⟨cell_at h.bx 0 _ rfl, cell_at h.bx 1 _ rfl, cell_at h.bx 2 _ rfl, blk_frozen h.bx 2, cell_at h.res 0 _ rfl, cell_at h.res 1 _ rfl, cell_at h.res 2 _ rfl, blk_frozen h.res 0, blk_frozen h.res 1, blk_frozen h.res 2⟩
theorem RfS.cells {w0 W : World} {g b gb : Nat} {s : St} {F : Array Value} {x0 x1 x2 : Value} (h : RfS w0 W g b gb s F) (hF : F = #[x0, x1, x2]) :
    W.cell? ⟨gb, 0, none⟩ = some x0 ∧ W.cell? ⟨gb, 1, none⟩ = some x1 ∧ W.cell? ⟨gb, 2, none⟩ = some x2 ∧ W.frozen? ⟨gb, 2, none⟩ = false ∧ W.cell? ⟨w0.heap.size, 0, none⟩ = some (.int .i64 0) ∧ W.cell? ⟨w0.heap.size, 1, none⟩ = some (.int .i64 0) ∧ W.cell? ⟨w0.heap.size, 2, none⟩ = some (.slice none 0 0) ∧ W.frozen? ⟨w0.heap.size, 0, none⟩ = false ∧ W.frozen? ⟨w0.heap.size, 1, none⟩ = false ∧ W.frozen? ⟨w0.heap.size, 2, none⟩ = false :=
  RfK.cells (h := ⟨h.res, h.bx, h.below, by have := h.hg; have := h.hgb; omega⟩) hF
set_option maxHeartbeats 4000000 in
set_option maxRecDepth 100000 in
theorem wread_func (A : Option Addr) (c : Nat) (l : List Int) (w : World) (hC : kU8.C w A l.length l) (hll : l.length ≤ 1000000) (hby : By l) :
    Calls Try.prog 51 #[.slice A l.length c] w fun e w' => FunRet w' w.heap.size (sFun l) e ∧ Below w.heap.size w w' := by
  have mixed : Try.prog.follows .mixedOrders = true := by kernel_rfl
  have hff := fault_field
  have HC := Aside0.mk hC
  have HBY := Aside0.mk hby
  obtain ⟨p, s1, hp⟩ : ∃ p s1, sBelow 4096 (l, 0) = (p, s1) := ⟨_, _, rfl⟩
  obtain ⟨v, s2, hv⟩ : ∃ v s2, sBelow 4096 s1 = (v, s2) := ⟨_, _, rfl⟩
  obtain ⟨B, s3, hB⟩ : ∃ B s3, sBlks 32 s2 = (B, s3) := ⟨_, _, rfl⟩
  obtain ⟨E, hE⟩ : ∃ E, ended s3.1 s3.2 = E := ⟨_, rfl⟩
  have hF : sFun l = ((p, v, B), if E = 0 then (if funcErr (p, v, B) = 0 then 0 else 30) else E) := by
    unfold sFun
    simp only [hp, hv, hB, hE]
  have HCD := Aside0.mk (show E = 0 → s3.2 = 0 from fun h => by
    rw [← hE] at h
    unfold ended failed at h
    by_cases h1 : 0 < s3.1.length
    · rw [if_pos h1] at h
      by_cases h2 : s3.2 = 0
      · exact h2
      · rw [if_neg h2] at h; exact h
    · rwa [if_neg h1] at h)
  have HBL := Aside0.mk (show B.length ≤ 16 from by
    have h1 : sBlks 32 s2 = sBlkN 32 (sBelow 17 s2).1.toNat (sBelow 17 s2).2 := rfl
    have h2 := blkN_len 32 (sBelow 17 s2).1.toNat (sBelow 17 s2).2
    rw [← h1, hB] at h2
    have hby2 : By s2.1 := by
      have a := sbelow_by (m := 4096) (s := (l, 0)) hby
      rw [hp] at a
      have a := sbelow_by (m := 4096) (s := s1) a
      rw [hv] at a
      exact a
    have h3 := below_range (m := 17) (by decide) hby2
    simp only at h2
    omega)
  obtain ⟨X, hX⟩ : ∃ X : Int, (if E = 0 then (if funcErr (p, v, B) = 0 then 0 else 30) else E) = X := ⟨_, rfl⟩
  rw [hX] at hF
  rw [hF]
  have HXX := Aside0.mk hX
  clear hX
  have HP := Aside0.mk hp
  have HV := Aside0.mk hv
  have HB := Aside0.mk hB
  have HE := Aside0.mk hE
  clear hC hby hp hv hB hE hF
  go_enter Try.func51, Try.ntmps51
  go_upto_region 3 with (first
    | (go_at_call 93; refine (new_calls A c l _ (Kd.C_alloc HC.out _) (by omega)).mono ?_; rintro _ w1 ⟨g, b, rfl, hr, hb, hg1, hb1, hb2⟩; have HD := Aside0.mk (show Rd w1 g b (l, 0) from ⟨hr, HBY.out, hb2⟩); have HK := Aside0.mk (Keep.refl (· = g) w1); have HW1 := Aside0.mk hb; have HG := Aside0.mk (And.intro hg1 hb1); clear hr hb hg1 hb1 hb2)
    | (go_at_call 46; refine (rd_below g b _ 4096 _ HD.out (by decide) (by decide)).mono ?_; rintro _ w2 ⟨rfl, hd, hk, -⟩; (first | rw [HP.out] at hd ⊢; clear HP | rw [HV.out] at hd ⊢); have HKn := Aside0.mk (HK.out.trans hk); clear HK HD; have HK := HKn; have HD := Aside0.mk hd; clear hd hk HKn))
  obtain ⟨hg1, hb1⟩ := HG.out
  rw [World.size_alloc] at hg1 hb1
  have hgl := HD.out.1.lt
  have hbl := HD.out.2.2
  have hkw : Below (w.heap.size + 1) w1 w2 := keep_below HK.out (by have := HW1.out.size; rw [World.size_alloc] at this; exact this) (fun i e => by have e : i = g := e; omega)
  have hw2 : Below (w.heap.size + 1) (w.alloc (.cells #[.int .i64 0, .int .i64 0, .slice none 0 0] 25)) w2 := by
    have h := HW1.out
    rw [World.size_alloc] at h
    exact h.trans hkw
  have HI := Aside0.mk (show RfS w (w2.alloc (.cells #[.int .i64 p, .int .i64 v, .slice none 0 0] 25)) g b w2.heap.size s2 #[.int .i64 p, .int .i64 v, .slice none 0 0] from
    ⟨HD.out.below ((Below.refl _ _).alloc (Nat.le_refl _) _), (((Below.refl (w.heap.size + 1) w2).alloc (by omega) _).block _ (by omega)).trans ((hw2.block _ (by omega)).trans (heap_alloc_new _ _)), heap_alloc_new _ _, (((Below.refl w.heap.size w).alloc (Nat.le_refl _) _).trans (hw2.mono (by omega))).alloc (by omega) _, by omega, by omega, by omega, by omega⟩)
  clear HD HK HW1 HG hkw hw2
  obtain ⟨gb, hgb⟩ : ∃ gb, w2.heap.size = gb := ⟨_, rfl⟩
  rw [hgb] at HI hgl hbl ⊢
  obtain ⟨WB, hWB⟩ : ∃ WB, WB = w2.alloc (.cells #[.int .i64 p, .int .i64 v, .slice none 0 0] 25) := ⟨_, rfl⟩
  rw [← hWB] at HI ⊢
  clear hWB hgb
  obtain ⟨q0, q1, q2, z2, y0, y1, y2, v0, v1, v2⟩ := HI.out.cells rfl
  go_upto_region 5 with (first
    | (go_at_call 95; refine (wread_blocks g b s2 32 _ HI.out.rd HI.out.rd.1.lt (by decide) (by decide)).mono ?_; rintro _ w5 ⟨vb, bs, rfl, hr, hbs, hd, hk⟩; obtain ⟨Ab, cb, hvb, hlb, hCb⟩ := Kd.R_reads hr; obtain ⟨nb, hnb⟩ : ∃ n, bs.length = n := ⟨_, rfl⟩; rw [hnb] at hvb hlb hCb; subst hvb; rw [HB.out] at hbs hd; have HLW := Aside0.mk (blk_lt HI.out.bx); have HI5 := Aside0.mk (HI.out.step hk hd); have HR := Aside0.mk hr; have HBS := Aside0.mk hbs; have HNB := Aside0.mk hnb; have HCB := Aside0.mk hCb; have HRK := Aside0.mk hk; clear HI; clear q0 q1 q2 z2 y0 y1 y2 v0 v1 v2; obtain ⟨q0, q1, q2, z2, y0, y1, y2, v0, v1, v2⟩ := HI5.out.cells rfl; clear hr hbs hd hk hnb hCb)
    | (go_at_call 50; have HI6 := Aside0.mk (HI5.out.set 2 (.slice Ab nb cb)); refine (rd_end g b s3 _ HI6.out.rd).mono ?_; rintro _ w6 ⟨rfl, hk, hs⟩; rw [HE.out]; have HI7 := Aside0.mk (HI6.out.stepK hk hs); have HK7 := Aside0.mk hk; clear q0 q1 q2 z2 y0 y1 y2 v0 v1 v2 hk hs; obtain ⟨q0, q1, q2, z2, y0, y1, y2, v0, v1, v2⟩ := HI7.out.cells rfl))
  obtain rfl := HNB.out
  have HR6 := Aside0.mk (show kBlk.R 84 w6 w.heap.size (fun k => gb < k) (.slice Ab bs.length cb) bs from by
    have hz := HI7.out.hgb
    refine Kd.R_lower (Kd.R_step (Kd.R_mono (Kd.R_bound HR.out) (ok' := fun k => gb < k) (fun k hk => by have := hk.2.1; have := HLW.out; omega)) (fun k hk hl => (HK7.out.block k (by rw [size_set]; exact hl) (fun e => by have e : k = g := e; omega)).trans (Below.heap_setCell _ _ _ _ (by show k ≠ gb; omega)))) (by have := HLW.out; omega))
  have HC6 := Aside0.mk (show kBlk.C w6 Ab bs.length bs from by
    obtain ⟨A', c', e, -, hC⟩ := Kd.R_reads HR6.out
    injection e with e1 e2 e3
    subst e1
    exact hC)
  clear HR HCB HK7 HRK HLW HI6 HNB
  by_cases hE0 : E = 0
  · subst hE0
    have hbs : bs = B := HBS.out (HCD.out rfl)
    subst hbs
    have hl16 := HBL.out
    obtain ⟨FE, hFE⟩ : ∃ FE, funcErr (p, v, bs) = FE := ⟨_, rfl⟩
    have HFE := Aside0.mk hFE
    clear hFE
    by_cases hF0 : FE = 0
    · subst hF0
      go_wp2_with (first | (go_at_call 85; refine (check_calls p v bs Ab cb _ HC6.out (by omega)).mono ?_; rintro _ w7 ⟨⟨x9, y9, rfl⟩, hb⟩; rw [HFE.out]; have HI8 := Aside0.mk (HI7.out.step hb); have HB7 := Aside0.mk hb; clear q0 q1 q2 z2 y0 y1 y2 v0 v1 v2 hb; obtain ⟨q0, q1, q2, z2, y0, y1, y2, v0, v1, v2⟩ := HI8.out.cells rfl))
      have rr := HI8.out.res; have p0 := fun x0 x1 x2 => cell_at (put3 rr x0 x1 x2) 0 _ rfl; have p1 := fun x0 x1 x2 => cell_at (put3 rr x0 x1 x2) 1 _ rfl; have p2 := fun x0 x1 x2 => cell_at (put3 rr x0 x1 x2) 2 _ rfl; (try simp only [Exit.inBlock, Exit.then]); refine bodyPost_ret (by simp [results, Try.results51, go_sem, p0, p1, p2]; try rfl) rfl ?_
      refine ⟨?_, HI8.out.below.trans (keep_below (put3_far _ _ _) HI8.out.below.size (fun i e => by omega))⟩
      rw [show X = 0 from by rw [← HXX.out]; simp [HFE.out]]
      refine ⟨p, v, _, bs, rfl, Kd.R_mono (Kd.R_step (Kd.R_below HR6.out HB7.out) (fun k hk hl => (put3_far _ _ _).block k hl (fun e => by have := HI8.out.hgb; omega))) (fun _ _ => trivial), .inl ⟨rfl, rfl⟩⟩
    · have hcn : (FE != 0) = true := bne_iff_ne.mpr hF0
      have hcb : (FE == 0) = false := beq_eq_false_iff_ne.mpr hF0
      have HF0 := Aside0.mk hF0
      clear hF0
      go_wp2_with (first | (go_at_call 85; refine (check_calls p v bs Ab cb _ HC6.out (by omega)).mono ?_; rintro _ w7 ⟨⟨x9, y9, rfl⟩, hb⟩; rw [HFE.out]; have HI8 := Aside0.mk (HI7.out.step hb); have HB7 := Aside0.mk hb; clear q0 q1 q2 z2 y0 y1 y2 v0 v1 v2 hb; obtain ⟨q0, q1, q2, z2, y0, y1, y2, v0, v1, v2⟩ := HI8.out.cells rfl))
      have rr := HI8.out.res; have p0 := fun x0 x1 x2 => cell_at (put3 rr x0 x1 x2) 0 _ rfl; have p1 := fun x0 x1 x2 => cell_at (put3 rr x0 x1 x2) 1 _ rfl; have p2 := fun x0 x1 x2 => cell_at (put3 rr x0 x1 x2) 2 _ rfl; (try simp only [Exit.inBlock, Exit.then]); refine bodyPost_ret (by simp [results, Try.results51, go_sem, p0, p1, p2]; try rfl) rfl ?_
      refine ⟨?_, HI8.out.below.trans (keep_below (put3_far _ _ _) HI8.out.below.size (fun i e => by omega))⟩
      rw [show X = 30 from by rw [← HXX.out]; simp [HFE.out, HF0.out]]
      exact ⟨0, 0, _, [], rfl, Kd.R_nil _ _ _ _ _, .inr ⟨(by decide : (30 : Int) ≠ 0), rfl, rfl, rfl⟩⟩
  · have hcn : (E != 0) = true := bne_iff_ne.mpr hE0
    have hcb : (E == 0) = false := beq_eq_false_iff_ne.mpr hE0
    have HE0 := Aside0.mk hE0
    have HI8 := HI7
    clear hE0
    go_wp2
    have rr := HI8.out.res; have p0 := fun x0 x1 x2 => cell_at (put3 rr x0 x1 x2) 0 _ rfl; have p1 := fun x0 x1 x2 => cell_at (put3 rr x0 x1 x2) 1 _ rfl; have p2 := fun x0 x1 x2 => cell_at (put3 rr x0 x1 x2) 2 _ rfl; (try simp only [Exit.inBlock, Exit.then]); refine bodyPost_ret (by simp [results, Try.results51, go_sem, p0, p1, p2]; try rfl) rfl ?_
    refine ⟨?_, HI8.out.below.trans (keep_below (put3_far _ _ _) HI8.out.below.size (fun i e => by omega))⟩
    rw [show X = E from by rw [← HXX.out]; exact if_neg HE0.out]
    exact ⟨0, 0, _, [], rfl, Kd.R_nil _ _ _ _ _, .inr ⟨HE0.out, rfl, rfl, rfl⟩⟩
end Go.Proofs.Ytnckonglodmfeaa.Ik

namespace Go.Proofs.Ytnckonglodmfeaa.Ik
open Go.Proofs.Ytnckonglodmfeaa.Ls Go.Proofs.Ytnckonglodmfeaa.Lc Go.RowKit Go.Proofs.YtnckonglodmfeaaW.PrintWords Go.Proofs.YtnckonglodmfeaaW.PrintLast Go.Proofs.YtnckonglodmfeaaW.PrintMore Go.Proofs.Ytnckonglodmfeaa.B Go.Proofs.Ytnckonglodmfeaa.R Go.Proofs.Ytnckonglodmfeaa.S Go.Proofs.Ytnckonglodmfeaa.Is Go.Proofs.Ytnckonglodmfeaa.Js Go.Proofs.Ytnckonglodmfeaa.Gs Go.Proofs.Ytnckonglodmfeaa.Gc
set_option linter.unusedVariables false
set_option linter.unusedSimpArgs false
/-- What is answered: an ask, or a fault and nothing. -/
def AskRet (w' : World) (base : Nat) (x : Ask × Int) (e : Ending) : Prop :=
  ∃ j n r p v vb bs, e = .returned (.tuple #[.agg #[.int .i64 j, .int .u64 n, .int .i64 r, .int .i64 p, .int .i64 v, vb], .int .i64 x.2]) ∧ kBlk.R 84 w' base (fun _ => True) vb bs ∧ x.1 = (j, n, r, p, v, bs)
/-- An ask in the making lies at gb, the result behind the world that was. -/
structure Tk (w0 W : World) (gb : Nat) (F : Array Value) : Prop where
  res : W.heap[w0.heap.size]? = some (.cells #[.int .i64 0, .int .u64 0, .int .i64 0, .int .i64 0, .int .i64 0, .slice none 0 0] 27 (0, 0))
  bx : W.heap[gb]? = some (.cells F 27 (0, 0))
  below : Below w0.heap.size w0 W
  hgb : w0.heap.size < gb
theorem Tk.keep {w0 W W' : World} {gb : Nat} {F : Array Value} {S : Nat → Prop} (h : Tk w0 W gb F) (hk : Keep S W W') (h1 : ¬ S w0.heap.size) (h2 : ¬ S gb) (h3 : ∀ i, S i → w0.heap.size ≤ i) : Tk w0 W' gb F :=
  ⟨(hk.block _ (blk_lt h.res) h1).trans h.res, (hk.block _ (blk_lt h.bx) h2).trans h.bx, h.below.trans (keep_below hk h.below.size h3), h.hgb⟩
theorem Tk.grow {w0 W W' : World} {gb : Nat} {F : Array Value} (h : Tk w0 W gb F) (hb : Below W.heap.size W W') : Tk w0 W' gb F := h.keep (S := fun _ => False) (Keep.of_below hb) id id (fun _ => False.elim)
theorem Tk.set {w0 W : World} {gb : Nat} {F : Array Value} (h : Tk w0 W gb F) (j : Nat) (x : Value) : Tk w0 (W.setCell ⟨gb, j, none⟩ x) gb (F.setIfInBounds j x) := by
  have h1 := h.hgb
  exact ⟨(Below.heap_setCell _ _ _ _ (show w0.heap.size ≠ gb by omega)).trans h.res, heap_setCell_same W gb j F _ _ h.bx, h.below.setCell (by show w0.heap.size ≤ gb; omega) _, h1⟩
theorem Tk.cells {w0 W : World} {gb : Nat} {F : Array Value} {x0 x1 x2 x3 x4 x5 : Value} (h : Tk w0 W gb F) (hF : F = #[x0, x1, x2, x3, x4, x5]) :
    (W.cell? ⟨gb, 0, none⟩ = some x0 ∧ W.cell? ⟨gb, 1, none⟩ = some x1 ∧ W.cell? ⟨gb, 2, none⟩ = some x2 ∧ W.cell? ⟨gb, 3, none⟩ = some x3 ∧ W.cell? ⟨gb, 4, none⟩ = some x4 ∧ W.cell? ⟨gb, 5, none⟩ = some x5) ∧ (∀ j, W.frozen? ⟨gb, j, none⟩ = false) ∧
    (W.cell? ⟨w0.heap.size, 0, none⟩ = some (.int .i64 0) ∧ W.cell? ⟨w0.heap.size, 1, none⟩ = some (.int .u64 0) ∧ W.cell? ⟨w0.heap.size, 2, none⟩ = some (.int .i64 0) ∧ W.cell? ⟨w0.heap.size, 3, none⟩ = some (.int .i64 0) ∧ W.cell? ⟨w0.heap.size, 4, none⟩ = some (.int .i64 0) ∧ W.cell? ⟨w0.heap.size, 5, none⟩ = some (.slice none 0 0)) ∧ ∀ j, W.frozen? ⟨w0.heap.size, j, none⟩ = false := by
  subst hF
  exact ⟨⟨cell_at h.bx 0 _ rfl, cell_at h.bx 1 _ rfl, cell_at h.bx 2 _ rfl, cell_at h.bx 3 _ rfl, cell_at h.bx 4 _ rfl, cell_at h.bx 5 _ rfl⟩, fun j => blk_frozen h.bx j, ⟨cell_at h.res 0 _ rfl, cell_at h.res 1 _ rfl, cell_at h.res 2 _ rfl, cell_at h.res 3 _ rfl, cell_at h.res 4 _ rfl, cell_at h.res 5 _ rfl⟩, fun j => blk_frozen h.res j⟩
/-- Six cells are laid. -/
theorem put6 {W : World} {g e : Nat} {u0 u1 u2 u3 u4 u5 : Value} (h : W.heap[g]? = some (.cells #[u0, u1, u2, u3, u4, u5] e (0, 0))) (x0 x1 x2 x3 x4 x5 : Value) :
    ((((((W.setCell ⟨g, 0, none⟩ x0).setCell ⟨g, 1, none⟩ x1).setCell ⟨g, 2, none⟩ x2).setCell ⟨g, 3, none⟩ x3).setCell ⟨g, 4, none⟩ x4).setCell ⟨g, 5, none⟩ x5).heap[g]? = some (.cells #[x0, x1, x2, x3, x4, x5] e (0, 0)) := by
  have a0 := blk_put h 0 x0 (show _ = #[x0, u1, u2, u3, u4, u5] from rfl)
  have a1 := blk_put a0 1 x1 (show _ = #[x0, x1, u2, u3, u4, u5] from rfl)
  have a2 := blk_put a1 2 x2 (show _ = #[x0, x1, x2, u3, u4, u5] from rfl)
  have a3 := blk_put a2 3 x3 (show _ = #[x0, x1, x2, x3, u4, u5] from rfl)
  have a4 := blk_put a3 4 x4 (show _ = #[x0, x1, x2, x3, x4, u5] from rfl)
  exact blk_put a4 5 x5 rfl
theorem put6_far {W : World} {g : Nat} (x0 x1 x2 x3 x4 x5 : Value) : Keep (fun i => i = g) W ((((((W.setCell ⟨g, 0, none⟩ x0).setCell ⟨g, 1, none⟩ x1).setCell ⟨g, 2, none⟩ x2).setCell ⟨g, 3, none⟩ x3).setCell ⟨g, 4, none⟩ x4).setCell ⟨g, 5, none⟩ x5) := by
  have a0 := (Keep.refl (fun i => i = g) W).setCell ⟨g, 0, none⟩ x0 (fun _ => rfl)
  have a1 := a0.setCell ⟨g, 1, none⟩ x1 (fun _ => rfl)
  have a2 := a1.setCell ⟨g, 2, none⟩ x2 (fun _ => rfl)
  have a3 := a2.setCell ⟨g, 3, none⟩ x3 (fun _ => rfl)
  have a4 := a3.setCell ⟨g, 4, none⟩ x4 (fun _ => rfl)
  exact a4.setCell ⟨g, 5, none⟩ x5 (fun _ => rfl)
theorem rd_num (g b : Nat) (s : St) (w : World) (h : Rd w g b s) :
    Calls Try.prog 47 #[.pointer (some ⟨g, 0, none⟩)] w fun e w' => e = .returned (.int .u64 (num s.1 s.2).1) ∧ Rd w' g b (num s.1 s.2).2 ∧ Keep (· = g) w w' ∧ w'.heap.size = w.heap.size := by
  refine (num_calls g b s.1 s.2 w h.1 h.2.1).mono ?_
  rintro e w' ⟨h1, h2, h3, h4⟩
  exact ⟨h1, ⟨h2, num_by s.1 s.2 h.2.1, by rw [h4]; exact h.2.2⟩, h3, h4⟩
theorem num_len (l : List Int) (c : Int) : (num l c).2.1.length ≤ l.length := num_left l c
theorem below_len (m : Int) (s : St) : (sBelow m s).2.1.length ≤ s.1.length := by
  have h := num_left s.1 s.2
  unfold sBelow below
  split
  · split
    · exact h
    · exact h
  · exact h
/-- The result's cells, none laid yet. -/
theorem zero6 {W : World} {g : Nat} (h : W.heap[g]? = some (.cells #[.int .i64 0, .int .u64 0, .int .i64 0, .int .i64 0, .int .i64 0, .slice none 0 0] 27 (0, 0))) : (W.cell? ⟨g, 0, none⟩ = some (.int .i64 0) ∧ W.cell? ⟨g, 1, none⟩ = some (.int .u64 0) ∧ W.cell? ⟨g, 2, none⟩ = some (.int .i64 0) ∧ W.cell? ⟨g, 3, none⟩ = some (.int .i64 0) ∧ W.cell? ⟨g, 4, none⟩ = some (.int .i64 0) ∧ W.cell? ⟨g, 5, none⟩ = some (.slice none 0 0)) ∧ ∀ j, W.frozen? ⟨g, j, none⟩ = false :=
  ⟨⟨cell_at h 0 _ rfl, cell_at h 1 _ rfl, cell_at h 2 _ rfl, cell_at h 3 _ rfl, cell_at h 4 _ rfl, cell_at h 5 _ rfl⟩, fun j => blk_frozen h j⟩
theorem readAsk_eq {b body : List Int} {oe : Int} (ho : openL 2 b = (body, oe)) {j n r : Int} {s1 s2 s3 : St} (h1 : sBelow 16 (body, 0) = (j, s1)) (h2 : num s1.1 s1.2 = (n, s2)) (h3 : sBelow 9 s2 = (r, s3)) {fx : Fun} {fe : Int} (hf : sFun s3.1 = (fx, fe)) :
    readAsk b = if oe ≠ 0 then (zeroAsk, oe) else if s3.2 ≠ 0 then (zeroAsk, s3.2) else if fe ≠ 0 then (zeroAsk, fe) else ((j, n, r, fx), 0) := by
  have hh : sHead (body, 0) = ((j, n, r), s3) := by simp only [sHead, h1, h2, h3]
  simp only [readAsk, ho, hh, hf]
set_option maxHeartbeats 4000000 in
set_option maxRecDepth 100000 in
theorem takeask_calls (A : Option Addr) (c : Nat) (b : List Int) (n0 : Nat) (hn : b.length = n0) (w : World) (hC : kU8.C w A n0 b) (hc : n0 ≤ c) (hby : By b) (hl : n0 ≤ 1000000) :
    Calls Try.prog 18 #[.slice A n0 c] w fun e w' => AskRet w' w.heap.size (readAsk b) e ∧ Below w.heap.size w w' := by
  have mixed : Try.prog.follows .mixedOrders = true := by kernel_rfl
  have HC := Aside0.mk hC
  have HBY := Aside0.mk hby
  have HN := Aside0.mk hn
  obtain ⟨body, oe, ho⟩ : ∃ body oe, openL 2 b = (body, oe) := ⟨_, _, rfl⟩
  obtain ⟨j, s1, h1⟩ : ∃ j s1, sBelow 16 (body, 0) = (j, s1) := ⟨_, _, rfl⟩
  obtain ⟨n, s2, h2⟩ : ∃ n s2, num s1.1 s1.2 = (n, s2) := ⟨_, _, rfl⟩
  obtain ⟨r, s3, h3⟩ : ∃ r s3, sBelow 9 s2 = (r, s3) := ⟨_, _, rfl⟩
  obtain ⟨fx, fe, hf⟩ : ∃ fx fe, sFun s3.1 = (fx, fe) := ⟨_, _, rfl⟩
  rw [readAsk_eq ho h1 h2 h3 hf]
  have HO := Aside0.mk ho
  have H1 := Aside0.mk h1
  have H2 := Aside0.mk h2
  have H3 := Aside0.mk h3
  have HF := Aside0.mk hf
  have HSZ := Aside0.mk (World.size_alloc w (.cells #[.int .i64 0, .int .u64 0, .int .i64 0, .int .i64 0, .int .i64 0, .slice none 0 0] 27))
  have HA := Aside0.mk (show Below w.heap.size w (w.alloc (.cells #[.int .i64 0, .int .u64 0, .int .i64 0, .int .i64 0, .int .i64 0, .slice none 0 0] 27)) from (Below.refl _ _).alloc (Nat.le_refl _) _)
  have HRES := Aside0.mk (show ∀ W', Below (w.heap.size + 1) (w.alloc (.cells #[.int .i64 0, .int .u64 0, .int .i64 0, .int .i64 0, .int .i64 0, .slice none 0 0] 27)) W' → W'.heap[w.heap.size]? = some (.cells #[.int .i64 0, .int .u64 0, .int .i64 0, .int .i64 0, .int .i64 0, .slice none 0 0] 27 (0, 0)) from fun W' h => below_cells (h.mono (by rw [World.size_alloc]; exact Nat.le_refl _)))
  clear hC hby hn ho h1 h2 h3 hf
  by_cases hoe : oe = 0
  case neg =>
    rw [if_pos hoe]
    have hb1 : (oe == 0) = false := beq_eq_false_iff_ne.mpr hoe
    have hb2 : (oe != 0) = true := bne_iff_ne.mpr hoe
    have HOE := Aside0.mk hoe
    clear hoe
    go_enter Try.func18, Try.ntmps18
    go_upto_region 3 with (go_at_call 45; refine (wopen_calls 2 A c b n0 HN.out _ (Kd.C_below HC.out HA.out) hc HBY.out hl).mono ?_; rintro _ w1 ⟨hr, hb⟩; rw [HO.out] at hr; have HB1 := Aside0.mk (show Below (w.heap.size + 1) (w.alloc (.cells #[.int .i64 0, .int .u64 0, .int .i64 0, .int .i64 0, .int .i64 0, .slice none 0 0] 27)) w1 from hb.mono (by rw [HSZ.out]; exact Nat.le_refl _)); clear hb; rcases hr with ⟨-, rfl⟩ | ⟨h0, -⟩; rotate_left; (exact absurd h0 HOE.out); have hres := HRES.out w1 HB1.out)
    obtain ⟨⟨x0, x1, x2, x3, x4, x5⟩, xz⟩ := zero6 hres
    have HRS := Aside0.mk hres
    clear hres
    go_wp2
    (have rr := HRS.out; have p0 := fun x0 x1 x2 x3 x4 x5 => cell_at (put6 rr x0 x1 x2 x3 x4 x5) 0 _ rfl; have p1 := fun x0 x1 x2 x3 x4 x5 => cell_at (put6 rr x0 x1 x2 x3 x4 x5) 1 _ rfl; have p2 := fun x0 x1 x2 x3 x4 x5 => cell_at (put6 rr x0 x1 x2 x3 x4 x5) 2 _ rfl; have p3 := fun x0 x1 x2 x3 x4 x5 => cell_at (put6 rr x0 x1 x2 x3 x4 x5) 3 _ rfl; have p4 := fun x0 x1 x2 x3 x4 x5 => cell_at (put6 rr x0 x1 x2 x3 x4 x5) 4 _ rfl; have p5 := fun x0 x1 x2 x3 x4 x5 => cell_at (put6 rr x0 x1 x2 x3 x4 x5) 5 _ rfl; (try simp only [Exit.inBlock, Exit.then]); refine bodyPost_ret (by simp [results, Try.results18, go_sem, p0, p1, p2, p3, p4, p5]; try rfl) rfl ?_)
    exact ⟨⟨0, 0, 0, 0, 0, _, [], rfl, Kd.R_nil _ _ _ _ _, rfl⟩, (HA.out.trans (HB1.out.mono (by omega))).trans (keep_below (put6_far _ _ _ _ _ _) (HA.out.trans (HB1.out.mono (by omega))).size (fun i e => by omega))⟩
  subst hoe
  rw [if_neg (by simp)]
  have HBB := Aside0.mk (show By body ∧ body.length ≤ 1000000 from by
    have h1 := takeL_by HBY.out
    have h2 := takeL_len b
    have h3 := HO.out
    unfold openL at h3
    have h4 := HN.out
    repeat' split at h3
    all_goals (injection h3 with e1 e2; subst e1)
    all_goals first | exact ⟨fun x hx => (by cases hx), by simp⟩ | exact ⟨h1, by omega⟩)
  have hl3 : s3.1.length ≤ 1000000 := by
    have a1 := below_len 16 (body, 0)
    rw [H1.out] at a1
    have a2 := num_len s1.1 s1.2
    rw [H2.out] at a2
    have a3 := below_len 9 s2
    rw [H3.out] at a3
    have := HBB.out.2
    simp only at a1 a2 a3
    omega
  obtain ⟨X, hX⟩ : ∃ X : Ask × Int, (if s3.2 ≠ 0 then (zeroAsk, s3.2) else if fe ≠ 0 then (zeroAsk, fe) else ((j, n, r, fx), 0)) = X := ⟨_, rfl⟩
  rw [hX]
  have HXX := Aside0.mk hX
  clear hX
  go_enter Try.func18, Try.ntmps18
  go_upto_region 4 with (go_at_call 45; refine (wopen_calls 2 A c b n0 HN.out _ (Kd.C_below HC.out HA.out) hc HBY.out hl).mono ?_; rintro _ w1 ⟨hr, hb⟩; rw [HO.out] at hr; have HB1 := Aside0.mk (show Below (w.heap.size + 1) (w.alloc (.cells #[.int .i64 0, .int .u64 0, .int .i64 0, .int .i64 0, .int .i64 0, .slice none 0 0] 27)) w1 from hb.mono (by rw [HSZ.out]; exact Nat.le_refl _)); clear hb; rcases hr with ⟨h0, -⟩ | ⟨-, g, bb, rfl, hR, hBy, hg0, hg1, hb1, -⟩; (exact absurd rfl h0); have HD0 := Aside0.mk (show Rd w1 g bb (body, 0) from ⟨hR, hBy, hb1⟩); have HG := Aside0.mk (show w.heap.size + 1 ≤ g from by rw [HSZ.out] at hg0; exact hg0); clear hR hBy hg0 hg1 hb1)
  go_upto_region 5 with (first
    | (go_at_call 46; refine (rd_below g bb (body, 0) 16 _ HD0.out (by decide) (by decide)).mono ?_; rintro _ w2 ⟨rfl, hd, hk, -⟩; rw [H1.out] at hd ⊢; have HD1 := Aside0.mk hd; have HK1 := Aside0.mk hk; clear hd hk HD0)
    | (go_at_call 47; refine (rd_num g bb s1 _ HD1.out).mono ?_; rintro _ w3 ⟨rfl, hd, hk, -⟩; rw [H2.out] at hd ⊢; have HD2 := Aside0.mk hd; have HK2 := Aside0.mk (HK1.out.trans hk); clear hd hk HD1)
    | (go_at_call 46; refine (rd_below g bb s2 9 _ HD2.out (by decide) (by decide)).mono ?_; rintro _ w4 ⟨rfl, hd, hk, -⟩; rw [H3.out] at hd ⊢; have HD3 := Aside0.mk hd; have HK3 := Aside0.mk (HK2.out.trans hk); clear hd hk HD2))
  have hzg := HG.out
  have hb4 : Below (w.heap.size + 1) (w.alloc (.cells #[.int .i64 0, .int .u64 0, .int .i64 0, .int .i64 0, .int .i64 0, .slice none 0 0] 27)) w4 := HB1.out.trans (keep_below HK3.out (by have := HB1.out.size; rw [HSZ.out] at this; exact this) (fun i e => by have e : i = g := e; omega))
  have hz4 : w.heap.size + 1 ≤ w4.heap.size := by have := hb4.size; rw [HSZ.out] at this; exact this
  have HT := Aside0.mk (show Tk w (w4.alloc (.cells #[.int .i64 j, .int .u64 n, .int .i64 r, .int .i64 0, .int .i64 0, .slice none 0 0] 27)) w4.heap.size #[.int .i64 j, .int .u64 n, .int .i64 r, .int .i64 0, .int .i64 0, .slice none 0 0] from
    ⟨HRES.out _ (hb4.alloc hz4 _), heap_alloc_new _ _, (HA.out.trans (hb4.mono (by omega))).alloc (by omega) _, by omega⟩)
  have HD := Aside0.mk (show Rd (w4.alloc (.cells #[.int .i64 j, .int .u64 n, .int .i64 r, .int .i64 0, .int .i64 0, .slice none 0 0] 27)) g bb s3 from HD3.out.below ((Below.refl _ _).alloc (Nat.le_refl _) _))
  have hgl := HD3.out.1.lt
  obtain ⟨gb, hgb⟩ : ∃ gb, w4.heap.size = gb := ⟨_, rfl⟩
  rw [hgb] at HT hgl ⊢
  obtain ⟨W, hW⟩ : ∃ W, W = w4.alloc (.cells #[.int .i64 j, .int .u64 n, .int .i64 r, .int .i64 0, .int .i64 0, .slice none 0 0] 27) := ⟨_, rfl⟩
  rw [← hW] at HT HD ⊢
  clear hW hgb hz4 hb4 HD3 HK1 HK2 HK3 HB1
  obtain ⟨⟨q0, q1, q2, q3, q4, q5⟩, qz, ⟨x0, x1, x2, x3, x4, x5⟩, xz⟩ := HT.out.cells rfl
  by_cases hs3 : s3.2 = 0
  case neg =>
    have HXE := Aside0.mk (show X = (zeroAsk, s3.2) from by rw [← HXX.out]; exact if_pos hs3)
    have htk : takes (s3.1.length : Int) s3.1 s3.2 = ([], s3.1, s3.2) := if_neg hs3
    have hend : ended s3.1 s3.2 = s3.2 := by unfold ended failed; rw [if_neg hs3]; split <;> rfl
    have HTK := Aside0.mk htk
    have HEN := Aside0.mk hend
    have hb1 : (s3.2 == 0) = false := beq_eq_false_iff_ne.mpr hs3
    have hb2 : (s3.2 != 0) = true := bne_iff_ne.mpr hs3
    clear hs3 htk hend
    go_wp2_with (first
      | (go_at_call 49; refine (left_calls g bb s3.1 s3.2 _ HD.out.1).mono ?_; rintro _ _ ⟨rfl, rfl⟩)
      | (go_at_call 48; refine (bytes_calls g bb s3.1 s3.2 _ _ HD.out.1 HD.out.2.2 (by omega)).mono ?_; rintro _ w5 ⟨v5, rfl, hv5, hr5, hk5⟩; rw [HTK.out] at hv5 hr5; obtain ⟨A5, c5, rfl, -, -⟩ := Kd.R_reads hv5; have HT5 := Aside0.mk (HT.out.keep hk5 (fun e => by have e : w.heap.size = g := e; omega) (fun e => by have e : gb = g := e; omega) (fun i e => by have e : i = g := e; omega)); have HD5 := Aside0.mk (show Rdr 170 w5 g bb s3.1 s3.2 from hr5); clear hv5 hr5 hk5 q0 q1 q2 q3 q4 q5 qz x0 x1 x2 x3 x4 x5 xz)
      | (go_at_call 50; refine (end_calls g bb s3.1 s3.2 _ HD5.out).mono ?_; rintro _ w6 ⟨rfl, -, hk6, -⟩; rw [HEN.out]; have HT6 := Aside0.mk (HT5.out.keep hk6 (fun e => by have e : w.heap.size = g := e; omega) (fun e => by have e : gb = g := e; omega) (fun i e => by have e : i = g := e; omega)); clear hk6; obtain ⟨⟨q0, q1, q2, q3, q4, q5⟩, qz, ⟨x0, x1, x2, x3, x4, x5⟩, xz⟩ := HT6.out.cells rfl))
    (have rr := HT6.out.res; have p0 := fun x0 x1 x2 x3 x4 x5 => cell_at (put6 rr x0 x1 x2 x3 x4 x5) 0 _ rfl; have p1 := fun x0 x1 x2 x3 x4 x5 => cell_at (put6 rr x0 x1 x2 x3 x4 x5) 1 _ rfl; have p2 := fun x0 x1 x2 x3 x4 x5 => cell_at (put6 rr x0 x1 x2 x3 x4 x5) 2 _ rfl; have p3 := fun x0 x1 x2 x3 x4 x5 => cell_at (put6 rr x0 x1 x2 x3 x4 x5) 3 _ rfl; have p4 := fun x0 x1 x2 x3 x4 x5 => cell_at (put6 rr x0 x1 x2 x3 x4 x5) 4 _ rfl; have p5 := fun x0 x1 x2 x3 x4 x5 => cell_at (put6 rr x0 x1 x2 x3 x4 x5) 5 _ rfl; (try simp only [Exit.inBlock, Exit.then]); refine bodyPost_ret (by simp [results, Try.results18, go_sem, p0, p1, p2, p3, p4, p5]; try rfl) rfl ?_)
    rw [HXE.out]
    exact ⟨⟨0, 0, 0, 0, 0, _, [], rfl, Kd.R_nil _ _ _ _ _, rfl⟩, HT6.out.below.trans (keep_below (put6_far _ _ _ _ _ _) HT6.out.below.size (fun i e => by omega))⟩
  obtain ⟨l3, c3⟩ := s3
  simp only at hs3
  subst hs3
  simp only at HF hl3 HXX
  have hgW := HD.out.1.lt
  have htk : takes (l3.length : Int) l3 0 = (l3, [], 0) := by
    unfold Ls.takes
    rw [if_pos rfl, if_neg (by omega), Int.toNat_natCast, List.take_length, List.drop_length]
  have HTK := Aside0.mk htk
  have HBY3 := Aside0.mk (show By l3 from HD.out.2.1)
  have HL3 := Aside0.mk hl3
  clear htk
  go_upto_region 9 with (first
    | (go_at_call 49; refine (left_calls g bb l3 0 _ HD.out.1).mono ?_; rintro _ _ ⟨rfl, rfl⟩)
    | (go_at_call 48; refine (bytes_calls g bb l3 0 _ _ HD.out.1 HD.out.2.2 (by omega)).mono ?_; rintro _ w5 ⟨v5, rfl, hv5, hr5, hk5⟩; rw [HTK.out] at hv5 hr5; obtain ⟨A5, c5, rfl, -, -⟩ := Kd.R_reads hv5; have HT5 := Aside0.mk (HT.out.keep hk5 (fun e => by have e : w.heap.size = g := e; omega) (fun e => by have e : gb = g := e; omega) (fun i e => by have e : i = g := e; omega)); have HV5 := Aside0.mk (Kd.R_mono (Kd.R_bound hv5) (ok' := fun k => W.heap.size ≤ k) (fun k hk => hk.2.1)); have HD5 := Aside0.mk (show Rdr 170 w5 g bb [] 0 from hr5); clear hv5 hr5 hk5 q0 q1 q2 q3 q4 q5 qz x0 x1 x2 x3 x4 x5 xz)
    | (go_at_call 50; refine (end_calls g bb [] 0 _ HD5.out).mono ?_; rintro _ w6 ⟨rfl, -, hk6, -⟩; rw [show ended [] 0 = 0 from rfl]; have HT6 := Aside0.mk (HT5.out.keep hk6 (fun e => by have e : w.heap.size = g := e; omega) (fun e => by have e : gb = g := e; omega) (fun i e => by have e : i = g := e; omega)); have HV6 := Aside0.mk (Kd.R_step HV5.out (fun k hk hl => hk6.block k hl (fun e => by have e : k = g := e; omega))); clear hk6; obtain ⟨⟨q0, q1, q2, q3, q4, q5⟩, qz, ⟨x0, x1, x2, x3, x4, x5⟩, xz⟩ := HT6.out.cells rfl))
  obtain ⟨A5', c5', hv6, hl6, hC6⟩ := Kd.R_reads HV6.out
  injection hv6 with hv6 _ hv6'
  subst hv6 hv6'
  have HC6 := Aside0.mk hC6
  have hgb6 := blk_lt HT6.out.bx
  clear hC6 hl6 HT HT5 HD HD5 HV5 HV6
  by_cases hfe : fe = 0
  case neg =>
    have HXE := Aside0.mk (show X = (zeroAsk, fe) from by rw [← HXX.out, if_neg (by simp)]; exact if_pos hfe)
    have hb1 : (fe == 0) = false := beq_eq_false_iff_ne.mpr hfe
    have hb2 : (fe != 0) = true := bne_iff_ne.mpr hfe
    clear hfe
    go_wp2_with (go_at_call 51; refine (wread_func A5 c5 l3 _ HC6.out HL3.out HBY3.out).mono ?_; rintro _ w7 ⟨hr7, hb7⟩; rw [HF.out] at hr7; obtain ⟨p, v, vb, bs, rfl, hR7, hx7⟩ := hr7; obtain ⟨Ab, cb, rfl, -, -⟩ := Kd.R_reads hR7; obtain ⟨nb, hnb⟩ : ∃ nb, bs.length = nb := ⟨_, rfl⟩; rw [hnb]; have HT7 := Aside0.mk (HT6.out.grow hb7); have HT8 := Aside0.mk (((HT7.out.set 3 (.int .i64 p)).set 4 (.int .i64 v)).set 5 (.slice Ab nb cb)); clear hb7 hR7 hx7 hnb q0 q1 q2 q3 q4 q5 qz x0 x1 x2 x3 x4 x5 xz; obtain ⟨⟨q0, q1, q2, q3, q4, q5⟩, qz, ⟨x0, x1, x2, x3, x4, x5⟩, xz⟩ := HT7.out.cells rfl; obtain ⟨⟨r0, r1, r2, r3, r4, r5⟩, rz, ⟨y0, y1, y2, y3, y4, y5⟩, yz⟩ := HT8.out.cells rfl)
    (have rr := HT8.out.res; have p0 := fun x0 x1 x2 x3 x4 x5 => cell_at (put6 rr x0 x1 x2 x3 x4 x5) 0 _ rfl; have p1 := fun x0 x1 x2 x3 x4 x5 => cell_at (put6 rr x0 x1 x2 x3 x4 x5) 1 _ rfl; have p2 := fun x0 x1 x2 x3 x4 x5 => cell_at (put6 rr x0 x1 x2 x3 x4 x5) 2 _ rfl; have p3 := fun x0 x1 x2 x3 x4 x5 => cell_at (put6 rr x0 x1 x2 x3 x4 x5) 3 _ rfl; have p4 := fun x0 x1 x2 x3 x4 x5 => cell_at (put6 rr x0 x1 x2 x3 x4 x5) 4 _ rfl; have p5 := fun x0 x1 x2 x3 x4 x5 => cell_at (put6 rr x0 x1 x2 x3 x4 x5) 5 _ rfl; (try simp only [Exit.inBlock, Exit.then]); refine bodyPost_ret (by simp [results, Try.results18, go_sem, p0, p1, p2, p3, p4, p5]; try rfl) rfl ?_)
    rw [HXE.out]
    exact ⟨⟨0, 0, 0, 0, 0, _, [], rfl, Kd.R_nil _ _ _ _ _, rfl⟩, HT8.out.below.trans (keep_below (put6_far _ _ _ _ _ _) HT8.out.below.size (fun i e => by omega))⟩
  subst hfe
  have HXE := Aside0.mk (show X = ((j, n, r, fx), 0) from by rw [← HXX.out, if_neg (by simp), if_neg (by simp)])
  go_wp2_with (go_at_call 51; refine (wread_func A5 c5 l3 _ HC6.out HL3.out HBY3.out).mono ?_; rintro _ w7 ⟨hr7, hb7⟩; rw [HF.out] at hr7; obtain ⟨p, v, vb, bs, rfl, hR7, hx7⟩ := hr7; obtain ⟨Ab, cb, rfl, -, -⟩ := Kd.R_reads hR7; obtain ⟨nb, hnb⟩ : ∃ nb, bs.length = nb := ⟨_, rfl⟩; rw [hnb] at hR7 ⊢; have HT7 := Aside0.mk (HT6.out.grow hb7); have HR7 := Aside0.mk hR7; have HX7 := Aside0.mk hx7; have HT8 := Aside0.mk (((HT7.out.set 3 (.int .i64 p)).set 4 (.int .i64 v)).set 5 (.slice Ab nb cb)); clear hb7 hR7 hx7 hnb q0 q1 q2 q3 q4 q5 qz x0 x1 x2 x3 x4 x5 xz; obtain ⟨⟨q0, q1, q2, q3, q4, q5⟩, qz, ⟨x0, x1, x2, x3, x4, x5⟩, xz⟩ := HT7.out.cells rfl; obtain ⟨⟨r0, r1, r2, r3, r4, r5⟩, rz, ⟨y0, y1, y2, y3, y4, y5⟩, yz⟩ := HT8.out.cells rfl)
  (have rr := HT8.out.res; have p0 := fun x0 x1 x2 x3 x4 x5 => cell_at (put6 rr x0 x1 x2 x3 x4 x5) 0 _ rfl; have p1 := fun x0 x1 x2 x3 x4 x5 => cell_at (put6 rr x0 x1 x2 x3 x4 x5) 1 _ rfl; have p2 := fun x0 x1 x2 x3 x4 x5 => cell_at (put6 rr x0 x1 x2 x3 x4 x5) 2 _ rfl; have p3 := fun x0 x1 x2 x3 x4 x5 => cell_at (put6 rr x0 x1 x2 x3 x4 x5) 3 _ rfl; have p4 := fun x0 x1 x2 x3 x4 x5 => cell_at (put6 rr x0 x1 x2 x3 x4 x5) 4 _ rfl; have p5 := fun x0 x1 x2 x3 x4 x5 => cell_at (put6 rr x0 x1 x2 x3 x4 x5) 5 _ rfl; (try simp only [Exit.inBlock, Exit.then]); refine bodyPost_ret (by simp [results, Try.results18, go_sem, p0, p1, p2, p3, p4, p5]; try rfl) rfl ?_)
  rw [HXE.out]
  have hfx : fx = (p, v, bs) := by
    rcases HX7.out with ⟨-, h⟩ | ⟨h, -⟩
    · exact h
    · exact absurd rfl h
  refine ⟨⟨j, n, r, p, v, _, bs, rfl, ?_, by rw [hfx]⟩, HT8.out.below.trans (keep_below (put6_far _ _ _ _ _ _) HT8.out.below.size (fun i e => by omega))⟩
  have hgw := HT8.out.hgb
  refine Kd.R_mono (Kd.R_step (Kd.R_lower (Kd.R_mono (Kd.R_bound HR7.out) (ok' := fun k => w6.heap.size ≤ k) (fun k hk => hk.2.1)) (by omega)) (fun k hk hl => ?_)) (fun _ _ => trivial)
  refine ((put6_far _ _ _ _ _ _).block k (by simp only [size_set]; exact hl) (fun e => by omega)).trans ?_
  rw [Below.heap_setCell _ _ _ _ (show k ≠ gb by omega), Below.heap_setCell _ _ _ _ (show k ≠ gb by omega), Below.heap_setCell _ _ _ _ (show k ≠ gb by omega)]
end Go.Proofs.Ytnckonglodmfeaa.Ik
