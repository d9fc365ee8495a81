/- Given, Has, Within, Meet of pairs. -/
import Derived.Test.YtmkkebllmmafmaaPd
namespace Go.Proofs.Ytmkkebllmmafmaa.Pg
open Go.Sort Go.RowKit Go.Proofs.YtmkkebllmmafmaaW.PrintWords Go.Proofs.YtmkkebllmmafmaaW.PrintLast Go.Proofs.YtmkkebllmmafmaaW.PrintMore Go.Proofs.Ytmkkebllmmafmaa.B Go.Proofs.Ytmkkebllmmafmaa.Ps Go.Proofs.Ytmkkebllmmafmaa.R Go.Proofs.Ytmkkebllmmafmaa.Pk Go.Proofs.Ytmkkebllmmafmaa.Pa Go.Proofs.Ytmkkebllmmafmaa.Pm Go.Proofs.Ytmkkebllmmafmaa.Pw Go.Proofs.Ytmkkebllmmafmaa.Pd Go.Proofs.Ytmkkebllmmafmaa.S
set_option linter.unusedVariables false
set_option linter.unusedSimpArgs false
/-- A literal's row. -/
theorem C_litP (e : Nat) (w : World) (l : List Pr) (fr : Nat × Nat) (h : l.length ≤ 1000000) : kP.C (w.alloc (.cells (flatP l).toArray e fr)) (some ⟨w.heap.size, 0, none⟩) l.length l := by
  refine ⟨rfl, by omega, fun _ => ⟨_, rfl, fun j p hj => ⟨encP p, rfl, kP_K.2 rfl, fun i u hu => ?_⟩⟩⟩
  have hj2 := flatP_at l hj
  have hadd : (⟨w.heap.size, 0, none⟩ : Addr).add (j * 2 + i) = ⟨w.heap.size, j * 2 + i, none⟩ := by unfold Addr.add; split <;> simp_all
  show (w.alloc _).cell? (Addr.add _ (j * 2 + i)) = _
  rw [hadd, cell_of_row _ w.heap.size _ _ e fr (heap_alloc_new _ _)]
  rcases i with _ | _ | i
  · have e1 : u = .int .i64 p.1 := by simpa [encP] using hu.symm
    subst e1
    simpa using hj2.1
  · have e1 : u = .int .i64 p.2 := by simpa [encP] using hu.symm
    subst e1
    simpa using hj2.2
  · simp [encP] at hu
theorem blk_of_cell {w : World} {a : Addr} {v : Value} (h : w.cell? a = some v) : a.block < w.heap.size := by
  unfold World.cell? at h
  cases hh : w.heap[a.block]? with
  | none => rw [hh] at h; simp at h
  | some o => exact (Array.getElem?_eq_some_iff.1 hh).1
theorem given_fn (p : Pr) (v pl : Int) (b b2 : Nat) (w : World) (hb : w.cell? ⟨b, 0, none⟩ = some (.int .i64 v)) (hb2 : w.cell? ⟨b2, 0, none⟩ = some (.int .i64 pl)) :
    Calls Try.prog 37 (#[.agg #[.int .i64 p.1, .int .i64 p.2]] ++ #[.pointer (some ⟨b, 0, none⟩), .pointer (some ⟨b2, 0, none⟩)]) w fun e w' => e = .returned (.bool (p.1 != v && p.2 != pl)) ∧ Below w.heap.size w w' := by
  show Calls Try.prog 37 #[.agg #[.int .i64 p.1, .int .i64 p.2], .pointer (some ⟨b, 0, none⟩), .pointer (some ⟨b2, 0, none⟩)] w _
  have hbl := blk_of_cell hb
  have hbl2 := blk_of_cell hb2
  simp only at hbl hbl2
  have hc := pw_cell_below ((Below.refl w.heap.size w).alloc (Nat.le_refl _) (.cells #[.int .i64 p.1, .int .i64 p.2] 25)) hb
  have hc2 := pw_cell_below ((Below.refl w.heap.size w).alloc (Nat.le_refl _) (.cells #[.int .i64 p.1, .int .i64 p.2] 25)) hb2
  clear hb hb2
  go_enter Try.func37, Try.ntmps37
  by_cases h : p.1 = v
  · have h1 : (p.1 != v) = false := by simp [h]
    clear h
    rw [h1]
    go_wp2
    go_ret
    exact ⟨rfl, (Below.refl _ _).alloc (Nat.le_refl _) _⟩
  · have h1 : (p.1 != v) = true := by simp [h]
    clear h
    rw [h1]
    obtain ⟨r, hr⟩ : ∃ r, r = (p.2 != pl) := ⟨_, rfl⟩
    rw [← hr]
    go_wp2
    go_ret
    exact ⟨by rw [hr]; rfl, (Below.refl _ _).alloc (Nat.le_refl _) _⟩
theorem given_enters : ∀ args w, (callFunc 37 args).run Try.prog w = .ok (.enter 37 args) w := enters_of Try.func37 (by kernel_rfl) rfl
theorem given_nodup {l : List Pr} (h : l.Nodup) (v pl : Int) : (l.filter (fun p => p.1 != v && p.2 != pl) ++ [(v, pl)]).Nodup := by
  rw [List.nodup_append]
  refine ⟨h.filter _, by simp, ?_⟩
  intro p hp q hq e
  have hp2 := (List.mem_filter.1 hp).2
  have : q = (v, pl) := by simpa using hq
  subst e this
  simp at hp2
set_option maxHeartbeats 4000000 in
set_option maxRecDepth 100000 in
theorem given_calls (A : Option Addr) (n c : Nat) (l : List Pr) (hn : l.length = n) (v pl : Int) (w : World) (hC : kP.C w A n l) (hr : Rise l) (hl : n ≤ 500) :
    Calls Try.prog 22 #[.slice A n c, .int .i64 v, .int .i64 pl] w fun e w' => ∃ u l', e = .returned u ∧ kP.R 25 w' w.heap.size (fun _ => True) u l' ∧ Rise l' ∧ (∀ p, p ∈ l' ↔ MemGiven l v pl p) ∧ Below w.heap.size w w' := by
  have HC := Aside0.mk hC
  have HN := Aside0.mk hn
  have HRI := Aside0.mk hr
  obtain ⟨W, hW⟩ : ∃ W, W = (w.alloc (.cells #[.int .i64 v] 3)).alloc (.cells #[.int .i64 pl] 3) := ⟨_, rfl⟩
  have hal1 : Below w.heap.size w (w.alloc (.cells #[.int .i64 v] 3)) := (Below.refl _ _).alloc (Nat.le_refl _) _
  have hal : Below w.heap.size w W := by rw [hW]; exact hal1.alloc (by rw [World.size_alloc]; omega) _
  have hws : W.heap.size = w.heap.size + 2 := by rw [hW, World.size_alloc, World.size_alloc]
  have hnew1 : W.heap[w.heap.size]? = some (.cells #[.int .i64 v] 3 (0, 0)) := by
    rw [hW]
    exact (Below.heap_alloc _ _ w.heap.size (by rw [World.size_alloc]; omega)).trans (heap_alloc_new w _)
  have hnew2 : W.heap[w.heap.size + 1]? = some (.cells #[.int .i64 pl] 3 (0, 0)) := by
    rw [hW]
    have := heap_alloc_new (w.alloc (.cells #[.int .i64 v] 3)) (.cells #[.int .i64 pl] 3)
    rw [World.size_alloc] at this
    exact this
  obtain ⟨WR, hWR⟩ : ∃ WR, WR = W.alloc (.cells #[.int .i64 v, .int .i64 pl] 25) := ⟨_, rfl⟩
  have hb3 : Below W.heap.size W WR := by rw [hWR]; exact (Below.refl _ _).alloc (Nat.le_refl _) _
  have hlit : kP.C WR (some ⟨W.heap.size, 0, none⟩) 1 [(v, pl)] := by rw [hWR]; exact C_litP 25 W [(v, pl)] (0, 0) (by simp)
  have HLIT := Aside0.mk hlit
  have HBW := Aside0.mk (show Below w.heap.size w WR from hal.trans (hb3.mono hal.size))
  have y0 : W.cell? ⟨w.heap.size, 0, none⟩ = some (.int .i64 v) := by simp [World.cell?, hnew1]
  have y1 : W.cell? ⟨w.heap.size + 1, 0, none⟩ = some (.int .i64 pl) := by simp [World.cell?, hnew2]
  have HY0 := Aside0.mk (pw_cell_below hb3 y0)
  have HY1 := Aside0.mk (pw_cell_below hb3 y1)
  clear hC hn hr hal hal1 hnew1 hnew2 hb3 hlit
  go_enter Try.func22, Try.ntmps22
  go_upto_region 1 with fail
  rw [← hW]
  clear hW hws
  go_wp2_with (first | (rw [← hWR]; go_at_call 34; refine (with_calls A n c l HN.out 37 #[.pointer (some ⟨w.heap.size, 0, none⟩), .pointer (some ⟨w.heap.size + 1, 0, none⟩)] (fun p => p.1 != v && p.2 != pl) _ 1 _ [(v, pl)] rfl WR (Kd.C_below HC.out HBW.out) HLIT.out given_enters (fun p W2 _ hW2 => given_fn p v pl w.heap.size (w.heap.size + 1) W2 (pw_cell_below hW2 HY0.out) (pw_cell_below hW2 HY1.out)) (given_nodup HRI.out.nodup v pl) (by omega) (by omega)).mono ?_; rintro e w5 ⟨v5, l5, rfl, ho5, hr5, hm5, hb5⟩; have HO5 := Aside0.mk ho5; have HR5 := Aside0.mk hr5; have HM5 := Aside0.mk hm5; have HB5 := Aside0.mk hb5; clear ho5 hr5 hm5 hb5))
  go_ret
  refine ⟨_, l5, rfl, Kd.R_lower HO5.out HBW.out.size, HR5.out, fun p => ?_, HBW.out.trans (HB5.out.mono HBW.out.size)⟩
  rw [HM5.out p]
  unfold MemGiven
  simp
end Go.Proofs.Ytmkkebllmmafmaa.Pg
