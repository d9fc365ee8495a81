/- The reference's sets: tables in memory. -/
import Derived.Test.YtmkkebllmmafmaaPh
import Derived.Laws.MakeOwn
namespace Go.Proofs.Ytmkkebllmmafmaa.Px
open Go.Sort Go.RowKit Go.Proofs.YtmkkebllmmafmaaW.PrintWords Go.Proofs.YtmkkebllmmafmaaW.PrintLast Go.Proofs.YtmkkebllmmafmaaW.PrintMore Go.Proofs.Ytmkkebllmmafmaa.B Go.Proofs.Ytmkkebllmmafmaa.Ps Go.Proofs.Ytmkkebllmmafmaa.R Go.Proofs.Ytmkkebllmmafmaa.Pk Go.Proofs.Ytmkkebllmmafmaa.Pa Go.Proofs.Ytmkkebllmmafmaa.Pm Go.Proofs.Ytmkkebllmmafmaa.Pw Go.Proofs.Ytmkkebllmmafmaa.Pd Go.Proofs.Ytmkkebllmmafmaa.Pg Go.Proofs.Ytmkkebllmmafmaa.Ph Go.Proofs.Ytmkkebllmmafmaa.S
set_option linter.unusedVariables false
set_option linter.unusedSimpArgs false
/-- A set in memory: its block g, its table's block h. -/
structure SetAt (w : World) (base g h V n N : Nat) (f : Nat → Nat → Bool) : Prop where
  eN : N = V * n
  gb : base ≤ g
  hb : base ≤ h
  ne : g ≠ h
  obj : w.heap[g]? = some (.cells #[.int .i64 V, .int .i64 n, .slice (some ⟨h, 0, none⟩) N N] 54 (0, 0))
  row : w.heap[h]? = some (.cells ((tab V n f).map Value.bool).toArray 4 (0, 0))
section
variable {w w' : World} {base g h V n N : Nat} {f : Nat → Nat → Bool}
theorem SetAt.move (s : SetAt w base g h V n N f) (hg : w'.heap[g]? = w.heap[g]?) (hh : w'.heap[h]? = w.heap[h]?) : SetAt w' base g h V n N f := ⟨s.eN, s.gb, s.hb, s.ne, hg.trans s.obj, hh.trans s.row⟩
theorem SetAt.lt (s : SetAt w base g h V n N f) : g < w.heap.size ∧ h < w.heap.size := ⟨(Array.getElem?_eq_some_iff.1 s.obj).1, (Array.getElem?_eq_some_iff.1 s.row).1⟩
theorem SetAt.below (s : SetAt w base g h V n N f) (hb : Below w.heap.size w w') : SetAt w' base g h V n N f := s.move (hb.block g s.lt.1) (hb.block h s.lt.2)
theorem SetAt.lower {base' : Nat} (s : SetAt w base g h V n N f) (hb : base' ≤ base) : SetAt w base' g h V n N f := ⟨s.eN, Nat.le_trans hb s.gb, Nat.le_trans hb s.hb, s.ne, s.obj, s.row⟩
theorem SetAt.cells (s : SetAt w base g h V n N f) : w.cell? ⟨g, 0, none⟩ = some (.int .i64 V) ∧ w.cell? ⟨g, 1, none⟩ = some (.int .i64 n) ∧ w.cell? ⟨g, 2, none⟩ = some (.slice (some ⟨h, 0, none⟩) N N) := by
  have := s.obj
  exact ⟨by simp [World.cell?, this], by simp [World.cell?, this], by simp [World.cell?, this]⟩
theorem SetAt.at (s : SetAt w base g h V n N f) {v l : Nat} (hv : v < V) (hl : l < n) : w.cell? ⟨h, v * n + l, none⟩ = some (.bool (f v l)) := by
  have := s.row
  simp only [World.cell?, this]
  have h1 := tab_at f hv hl
  simp [h1]
theorem SetAt.put (s : SetAt w base g h V n N f) {v l : Nat} (hv : v < V) (hl : l < n) (x : Bool) : SetAt (w.setCell ⟨h, v * n + l, none⟩ (.bool x)) base g h V n N (upd f v l x) := by
  refine ⟨s.eN, s.gb, s.hb, s.ne, (Below.heap_setCell w ⟨h, v * n + l, none⟩ (.bool x) g s.ne).trans s.obj, ?_⟩
  rw [heap_setCell_same w h (v * n + l) _ 4 (.bool x) s.row, ← tab_set f hv hl x]
  congr 2
  apply Array.toList_inj.1
  simp [List.map_set]
theorem SetAt.congr {f' : Nat → Nat → Bool} (s : SetAt w base g h V n N f) (hf : ∀ v l, v < V → l < n → f v l = f' v l) : SetAt w base g h V n N f' := ⟨s.eN, s.gb, s.hb, s.ne, s.obj, by rw [← tab_congr hf]; exact s.row⟩
end
theorem infoB : (Try.prog.info? 4).map (fun i => (i.zero, i.size, i.bytes)) = some (some (.bool false), 1, 1) := by kernel_rfl
theorem run_mk (N : Nat) (hN : N ≤ 100000) (W : World) : (Instr.makeSlice 52 (.int .i64 N) (.int .i64 N)).run Try.prog W = .ok (.slice (some ⟨W.heap.size, 0, none⟩) N N) (W.alloc (.cells (List.replicate N (Value.bool false)).toArray 4)) := by
  obtain ⟨i0, hi, hzz⟩ := Option.map_eq_some_iff.1 infoB
  simp only [Prod.mk.injEq] at hzz
  obtain ⟨hz0, hz1, hz2⟩ := hzz
  have h := run_make (P := Try.prog) W 52 4 i0 (.bool false) Try.underlying52 hi hz0 .i64 .i64 N N (by omega) (by omega) (by rw [hz2]; omega) (by omega)
  rw [h, hz1]
  congr 3
  · apply Array.toList_inj.1
    apply List.ext_getElem
    · simp [madeCells]
    · intro i h1 h2
      have hv : (Value.bool false).cells = #[.bool false] := rfl
      simp [madeCells, hv, Nat.mod_one]
set_option maxRecDepth 100000 in
theorem new_calls (V n N : Nat) (hN : N = V * n) (hV : V ≤ 1000) (hn : n ≤ 1000) (hb : N ≤ 100000) (w : World) :
    Calls Try.prog 29 #[.int .i64 V, .int .i64 n] w fun e w' => ∃ g h, e = .returned (.pointer (some ⟨g, 0, none⟩)) ∧ SetAt w' w.heap.size g h V n N (fun _ _ => false) ∧ Below w.heap.size w w' := by
  have hm : IntKind.i64.wrap ((V : Int) * (n : Int)) = (N : Int) := by
    have e : (V : Int) * (n : Int) = (N : Int) := by rw [hN, Int.natCast_mul]
    rw [e]
    exact wrI64 _ (by omega) (by omega)
  have hmk := fun W => run_mk N hb W
  have HN := Aside0.mk hN
  clear hN
  go_enter Try.func29, Try.ntmps29
  go_wp2_with fail
  go_ret
  refine ⟨w.heap.size + 1, w.heap.size, rfl, ⟨HN.out, by omega, Nat.le_refl _, by omega, ?_, ?_⟩, ((Below.refl _ _).alloc (Nat.le_refl _) _).alloc (by rw [World.size_alloc]; omega) _⟩
  · have := heap_alloc_new (w.alloc (.cells (Array.replicate N (Value.bool false)) 4)) (.cells #[.int .i64 V, .int .i64 n, .slice (some ⟨w.heap.size, 0, none⟩) N N] 54)
    rw [World.size_alloc] at this
    exact this
  · refine ((Below.heap_alloc _ _ w.heap.size (by rw [World.size_alloc]; omega)).trans (heap_alloc_new w _)).trans ?_
    rw [← tab_false, ← HN.out]
    congr 3
    apply Array.toList_inj.1
    simp
section
variable {w : World} {base g h V n N : Nat} {f : Nat → Nat → Bool}
theorem ix_wrap {V n N v l : Nat} (hN : N = V * n) (hb : N ≤ 100000) (hv : v < V) (hl : l < n) : IntKind.i64.wrap ((v : Int) * (n : Int)) = ((v * n : Nat) : Int) ∧ v * n + l < N := by
  have h := ix_lt hv hl
  rw [← hN] at h
  refine ⟨?_, h⟩
  have e : (v : Int) * (n : Int) = ((v * n : Nat) : Int) := by rw [Int.natCast_mul]
  rw [e]
  exact wrI64 _ (by omega) (by omega)
set_option maxRecDepth 100000 in
theorem has_calls (s : SetAt w base g h V n N f) (hb : N ≤ 100000) {v l : Nat} (hv : v < V) (hl : l < n) :
    Calls Try.prog 28 #[.pointer (some ⟨g, 0, none⟩), .int .i64 v, .int .i64 l] w fun e w' => e = .returned (.bool (f v l)) ∧ ∃ q, w' = w.drewN q := by
  obtain ⟨y0, y1, y2⟩ := s.cells
  have y3 := s.at hv hl
  obtain ⟨hw, hlt⟩ := ix_wrap s.eN hb hv hl
  obtain ⟨a, ha⟩ : ∃ a, a = v * n := ⟨_, rfl⟩
  rw [← ha] at hw hlt y3
  have hgl := s.lt.1
  generalize f v l = r at *
  clear s ha
  go_enter Try.func28, Try.ntmps28
  go_wp2_with fail
  go_quiet (fail)
  go_wp2
  go_ret
  exact ⟨rfl, _, rfl⟩
set_option maxRecDepth 100000 in
theorem put_calls (s : SetAt w base g h V n N f) (hb : N ≤ 100000) {v l : Nat} (hv : v < V) (hl : l < n) (x : Bool) :
    Calls Try.prog 32 #[.pointer (some ⟨g, 0, none⟩), .int .i64 v, .int .i64 l, .bool x] w fun e w' => e = .returned (.tuple #[]) ∧ SetAt w' base g h V n N (upd f v l x) ∧ Keep (· = h) w w' := by
  have HS := Aside0.mk s
  obtain ⟨y0, y1, y2⟩ := s.cells
  have y3 := s.at hv hl
  obtain ⟨hw, hlt⟩ := ix_wrap s.eN hb hv hl
  have hfz := blk_frozen s.row (v * n + l)
  obtain ⟨a, ha⟩ : ∃ a, a = v * n := ⟨_, rfl⟩
  have HA := Aside0.mk ha
  rw [← ha] at hw hlt y3 hfz
  have hgl := s.lt.1
  generalize f v l = r at y3
  have hgh := s.ne
  have hhl := s.lt.2
  have HF := Aside0.mk (show ∀ W, Keep (· = h) w.drew W → W.cell? ⟨g, 0, none⟩ = some (.int .i64 V) ∧ W.cell? ⟨g, 1, none⟩ = some (.int .i64 n) ∧ W.cell? ⟨g, 2, none⟩ = some (.slice (some ⟨h, 0, none⟩) N N) ∧ g < W.heap.size from fun W hW => by
    have h1 := (hW.block g hgl hgh).trans s.obj
    exact ⟨by simp [World.cell?, h1], by simp [World.cell?, h1], by simp [World.cell?, h1], (Array.getElem?_eq_some_iff.1 h1).1⟩)
  obtain ⟨ix, hix⟩ : ∃ ix, ix = a + l := ⟨_, rfl⟩
  have wa : IntKind.i64.wrap ((a : Int) + l) = (ix : Int) := by rw [wrI64 _ (by omega) (by omega)]; omega
  have HIX := Aside0.mk hix
  rw [← hix] at hlt y3 hfz
  clear s ha hix
  go_enter Try.func32, Try.ntmps32
  refine rk_start ((· = h)) (by kernel_rfl) (n := 15) (l := #[false, false, false, false, false, false, false, false, false, false, false, false, false, false, false]) (by kernel_rfl) (by kernel_rfl) ?_
  refine rk_take (fuel := 14) 0 rfl (by kernel_rfl) (listed' := #[true, false, false, false, false, false, false, false, false, false, false, false, false, false, false]) (by kernel_rfl) (fun _ _ _ h => h) (by kernel_rfl) (fun w' hR => by obtain ⟨x0, x1, x2, x3⟩ := HF.out w' hR; go_simp; first | done | with_reducible rfl) rfl ?_
  try simp only [Act.put, List.setIfInBounds_toArray, List.set_cons_zero, List.set_cons_succ]
  refine rk_take (fuel := 13) 1 rfl (by kernel_rfl) (listed' := #[true, true, false, false, false, false, false, false, false, false, false, false, false, false, false]) (by kernel_rfl) (fun _ _ _ h => h) (by kernel_rfl) (fun w' hR => by obtain ⟨x0, x1, x2, x3⟩ := HF.out w' hR; go_simp; first | done | with_reducible rfl) rfl ?_
  try simp only [Act.put, List.setIfInBounds_toArray, List.set_cons_zero, List.set_cons_succ]
  refine rk_take (fuel := 12) 2 rfl (by kernel_rfl) (listed' := #[true, true, true, false, false, false, false, false, false, false, false, false, false, false, false]) (by kernel_rfl) (fun _ _ _ h => h) (by kernel_rfl) (fun w' hR => by obtain ⟨x0, x1, x2, x3⟩ := HF.out w' hR; go_simp; first | done | with_reducible rfl) rfl ?_
  try simp only [Act.put, List.setIfInBounds_toArray, List.set_cons_zero, List.set_cons_succ]
  refine rk_take (fuel := 11) 3 rfl (by kernel_rfl) (listed' := #[true, true, true, true, false, false, false, false, false, false, false, false, false, false, false]) (by kernel_rfl) (fun _ _ _ h => h) (by kernel_rfl) (fun w' hR => by obtain ⟨x0, x1, x2, x3⟩ := HF.out w' hR; go_simp; first | done | with_reducible rfl) rfl ?_
  try simp only [Act.put, List.setIfInBounds_toArray, List.set_cons_zero, List.set_cons_succ]
  refine rk_take (fuel := 10) 4 rfl (by kernel_rfl) (listed' := #[true, true, true, true, true, false, false, false, false, false, false, false, false, false, false]) (by kernel_rfl) (fun _ _ _ h => h) (by kernel_rfl) (fun w' hR => by obtain ⟨x0, x1, x2, x3⟩ := HF.out w' hR; go_simp; first | done | with_reducible rfl) rfl ?_
  try simp only [Act.put, List.setIfInBounds_toArray, List.set_cons_zero, List.set_cons_succ]
  refine rk_take (fuel := 9) 5 rfl (by kernel_rfl) (listed' := #[true, true, true, true, true, true, false, false, false, false, false, false, false, false, false]) (by kernel_rfl) (fun _ _ _ h => h) (by kernel_rfl) (fun w' hR => by obtain ⟨x0, x1, x2, x3⟩ := HF.out w' hR; go_simp; first | done | with_reducible rfl) rfl ?_
  try simp only [Act.put, List.setIfInBounds_toArray, List.set_cons_zero, List.set_cons_succ]
  refine rk_take (fuel := 8) 6 rfl (by kernel_rfl) (listed' := #[true, true, true, true, true, true, true, false, false, false, false, false, false, false, false]) (by kernel_rfl) (fun _ _ _ h => h) (by kernel_rfl) (fun w' hR => by obtain ⟨x0, x1, x2, x3⟩ := HF.out w' hR; go_simp; first | done | with_reducible rfl) rfl ?_
  try simp only [Act.put, List.setIfInBounds_toArray, List.set_cons_zero, List.set_cons_succ]
  refine rk_take (fuel := 7) 7 rfl (by kernel_rfl) (listed' := #[true, true, true, true, true, true, true, true, false, false, false, false, false, false, false]) (by kernel_rfl) (fun _ _ _ h => h) (by kernel_rfl) (fun w' hR => by obtain ⟨x0, x1, x2, x3⟩ := HF.out w' hR; go_simp; first | done | with_reducible rfl) rfl ?_
  try simp only [Act.put, List.setIfInBounds_toArray, List.set_cons_zero, List.set_cons_succ]
  refine rk_take (fuel := 6) 8 rfl (by kernel_rfl) (listed' := #[true, true, true, true, true, true, true, true, true, false, false, false, false, false, false]) (by kernel_rfl) (fun _ _ _ h => h) (by kernel_rfl) (fun w' hR => by obtain ⟨x0, x1, x2, x3⟩ := HF.out w' hR; go_simp; first | done | with_reducible rfl) rfl ?_
  try simp only [Act.put, List.setIfInBounds_toArray, List.set_cons_zero, List.set_cons_succ]
  refine rk_take (fuel := 5) 9 rfl (by kernel_rfl) (listed' := #[true, true, true, true, true, true, true, true, true, true, false, false, false, false, false]) (by kernel_rfl) (fun _ _ _ h => h) (by kernel_rfl) (fun w' hR => by obtain ⟨x0, x1, x2, x3⟩ := HF.out w' hR; go_simp; first | done | with_reducible rfl) rfl ?_
  try simp only [Act.put, List.setIfInBounds_toArray, List.set_cons_zero, List.set_cons_succ]
  refine rk_take (fuel := 4) 10 rfl (by kernel_rfl) (listed' := #[true, true, true, true, true, true, true, true, true, true, true, false, false, false, false]) (by kernel_rfl) (fun _ _ _ h => h) (by kernel_rfl) (fun w' hR => by obtain ⟨x0, x1, x2, x3⟩ := HF.out w' hR; go_simp; first | done | with_reducible rfl) rfl ?_
  try simp only [Act.put, List.setIfInBounds_toArray, List.set_cons_zero, List.set_cons_succ]
  refine rk_take (fuel := 3) 11 rfl (by kernel_rfl) (listed' := #[true, true, true, true, true, true, true, true, true, true, true, true, false, false, false]) (by kernel_rfl) (fun _ _ _ h => h) (by kernel_rfl) (fun w' hR => by obtain ⟨x0, x1, x2, x3⟩ := HF.out w' hR; go_simp; first | done | with_reducible rfl) rfl ?_
  try simp only [Act.put, List.setIfInBounds_toArray, List.set_cons_zero, List.set_cons_succ]
  refine rk_take (fuel := 2) 12 rfl (by kernel_rfl) (listed' := #[true, true, true, true, true, true, true, true, true, true, true, true, true, false, false]) (by kernel_rfl) (fun _ _ _ h => h) (by kernel_rfl) (fun w' hR => by obtain ⟨x0, x1, x2, x3⟩ := HF.out w' hR; go_simp; first | done | with_reducible rfl) rfl ?_
  try simp only [Act.put, List.setIfInBounds_toArray, List.set_cons_zero, List.set_cons_succ]
  refine rk_take (fuel := 1) 13 rfl (by kernel_rfl) (listed' := #[true, true, true, true, true, true, true, true, true, true, true, true, true, true, false]) (by kernel_rfl) (fun _ _ _ h => h) (by kernel_rfl) (fun w' hR => by obtain ⟨x0, x1, x2, x3⟩ := HF.out w' hR; go_simp; first | done | with_reducible rfl) rfl ?_
  try simp only [Act.put, List.setIfInBounds_toArray, List.set_cons_zero, List.set_cons_succ]
  refine rk_step (fuel := 0) 14 rfl (by kernel_rfl) (listed' := #[true, true, true, true, true, true, true, true, true, true, true, true, true, true, true]) (by kernel_rfl) (by kernel_rfl) (fun K' hK => ?_)
  (go_wp2_with fail)
  refine hK.out _ _ (Keep.setCell (Keep.refl _ _) ⟨h, ix, none⟩ _ (fun _ => rfl)) ?_
  clear hK K'
  try simp only [Act.put, List.setIfInBounds_toArray, List.set_cons_zero, List.set_cons_succ]
  refine rk_done (by kernel_rfl) ?_
  go_wp2
  go_end0
  refine ⟨rfl, ?_, Keep.setCell (Keep.drew (Keep.refl _ _)) _ _ (fun _ => rfl)⟩
  have hp := (HS.out.move (w' := w.drew) rfl rfl).put hv hl x
  rw [← HA.out, ← HIX.out] at hp
  exact hp
end
end Go.Proofs.Ytmkkebllmmafmaa.Px
