/- LebReads: any bytes, by calls in any order. No condition. -/
import Derived.Test.YtddocpienaoldaaRows
import Derived.ProofKit
import Derived.OpenShut
import Derived.ShutString
import Derived.ChangeOld
import Derived.SizedLaws
import Derived.Test.YtddocpienaoldaaWSized
import Derived.Test.YtddocpienaoldaaLa
import Derived.Test.YtddocpienaoldaaLq
import Derived.Test.YtddocpienaoldaaLt
import Derived.Test.YtddocpienaoldaaR
import Derived.Test.YtddocpienaoldaaO
import Derived.Test.YtddocpienaoldaaQ
import Derived.Test.YtddocpienaoldaaK
namespace Go.Proofs.Ytddocpienaoldaa.LebReads
open Go.ChangeShapes Go.WideShapes Go.ChangeAt Go.RowKit Go.Proofs.YtddocpienaoldaaW.PrintWords Go.Proofs.YtddocpienaoldaaW.PrintLast Go.Proofs.YtddocpienaoldaaW.PrintMore Go.Proofs.Ytddocpienaoldaa.B Go.Proofs.Ytddocpienaoldaa.Ls Go.Proofs.Ytddocpienaoldaa.Lc Go.Proofs.Ytddocpienaoldaa.La Go.Proofs.Ytddocpienaoldaa.Lt Go.Proofs.Ytddocpienaoldaa.R Go.Proofs.Ytddocpienaoldaa.O
set_option linter.unusedVariables false
/-- A call: its kind, its number, its fault. -/
def kAct : Kd (Int × Int × Int) := Kd.pair (Kd.int .u8) (Kd.pair (Kd.int .i64) (Kd.int .u8))
def ActOk (p : Int × Int × Int) : Prop := (0 ≤ p.1 ∧ p.1 < 256) ∧ (-9223372036854775808 ≤ p.2.1 ∧ p.2.1 ≤ 9223372036854775807) ∧ (0 ≤ p.2.2 ∧ p.2.2 < 256)

theorem act_cells {w : World} {ad : Addr} {m : List (Int × Int × Int)} (h : kAct.C w (some ad) m.length m) {k : Nat} {kd n cd : Int} (hk : m[k]? = some (kd, n, cd)) :
    w.cell? (ad.add (k * 3)) = some (.int .u8 kd) ∧ w.cell? ⟨(ad.add (k * 3)).block, (ad.add (k * 3)).off + 1, none⟩ = some (.int .i64 n) ∧ w.cell? ⟨(ad.add (k * 3)).block, (ad.add (k * 3)).off + 2, none⟩ = some (.int .u8 cd) := by
  have hj := (List.getElem?_eq_some_iff.1 hk).1
  obtain ⟨ad', e, hc⟩ := h.2.2 (by omega)
  injection e with e
  subst e
  obtain ⟨c, h1, ⟨c0, c1, rfl, h2, c2, c3, rfl, h3, h4⟩, h5⟩ := hc k _ hk
  have e0 : c0 = [.int .u8 kd] := h2
  have e1 : c2 = [.int .i64 n] := h3
  have e2 : c3 = [.int .u8 cd] := h4
  subst e0 e1 e2
  have g0 := h5 0 (.int .u8 kd) rfl
  have g1 := h5 1 (.int .i64 n) rfl
  have g2 := h5 2 (.int .u8 cd) rfl
  have hs : kAct.sz = 3 := rfl
  rw [hs] at g0 g1 g2
  rw [← add_add] at g1 g2
  exact ⟨g0, g1, g2⟩

/-- What a call comes to: what is left, and the fault. -/
def step (p : Int × Int × Int) (l : List Int) (c : Int) : List Int × Int :=
  if p.1 % 7 = 0 ∨ p.1 % 7 = 1 ∨ p.1 % 7 = 2 then (num l c).2 else if p.1 % 7 = 3 then (below p.2.1 l c).2 else if p.1 % 7 = 4 then (takes p.2.1 l c).2 else if p.1 % 7 = 5 then (l, failed p.2.2 c) else (l, ended l c)
theorem numGo_len (l0 : List Int) : ∀ (l : List Int) (i : Nat) (n : Int), l.length ≤ l0.length → (numGo l0 l i n).2.1.length ≤ l0.length
  | [], _, _, _ => by simp [numGo]
  | x :: r, i, n, h => by
    rw [List.length_cons] at h
    rw [numGo]
    split
    · exact Nat.le_refl _
    · split
      · show r.length ≤ _; omega
      · exact numGo_len l0 r _ _ (by omega)
theorem num_len (l : List Int) (c : Int) : (num l c).2.1.length ≤ l.length := by
  unfold num
  split
  · exact numGo_len l l 0 0 (Nat.le_refl _)
  · exact Nat.le_refl _
theorem step_by (p : Int × Int × Int) (l : List Int) (c : Int) (h : By l) : By (step p l c).1 := by
  unfold step
  split
  · exact num_by l c h
  · split
    · exact below_by _ l c h
    · split
      · exact (takes_by _ l c h).2
      · split <;> exact h
theorem step_len (p : Int × Int × Int) (l : List Int) (c : Int) : (step p l c).1.length ≤ l.length := by
  unfold step
  split
  · exact num_len l c
  · split
    · unfold below
      split
      · split <;> exact num_len l c
      · exact num_len l c
    · split
      · unfold takes
        split
        · split
          · exact Nat.le_refl _
          · show (l.drop _).length ≤ _; rw [List.length_drop]; omega
        · exact Nat.le_refl _
      · split <;> exact Nat.le_refl _
set_option maxRecDepth 100000 in
set_option maxHeartbeats 40000000 in
theorem walk (w : World) (A : Option Addr) (c : Nat) (l : List Int) (hC : kU8.C w A l.length l) (hcap : l.length ≤ c) (hwf : ∀ x ∈ l, (Lit.int .u8 x).wf = true) (hAlt : ∀ a, A = some a → a.block < w.heap.size)
    (A' : Option Addr) (c' : Nat) (m : List (Int × Int × Int)) (hC' : kAct.C w A' m.length m) (hcap' : m.length ≤ c') (hok : ∀ p ∈ m, ActOk p) (hml : m.length ≤ 9223372036854775807) :
    Calls Try.prog 8 #[.slice A l.length c, .slice A' m.length c'] w fun e w' => e = .returned (.bool true) ∧ Below w.heap.size w w' := by
  have HY := Aside0.mk (show By l from fun x hx => wf_u8 (hwf x hx))
  have HOK := Aside0.mk hok
  have HC := Aside0.mk hC
  have HC' := Aside0.mk hC'
  have HALT := Aside0.mk hAlt
  clear hwf hC hC' hok hAlt
  by_cases h1 : 2000 < l.length
  · go_enter Try.func8, Try.ntmps8
    go_wp2_with (first | (go_at_call 9; refine (awake_calls _).mono ?_; rintro e w1 ⟨rfl, hb1⟩))
    go_ret
    exact ⟨rfl, hb1⟩
  have d2000 : decide ((2000 : Int) < l.length) = false := by simp; omega
  go_enter Try.func8, Try.ntmps8
  go_wp2_with (first
    | (go_at_call 9; refine (awake_calls _).mono ?_; rintro e w1 ⟨rfl, hb1⟩; have HB1 := Aside0.mk hb1; have hz1 := hb1.size; have HC1 := Aside0.mk (Kd.C_below HC.out hb1); clear hb1)
    | ((with_reducible refine gate_builtin (b := .append) (xs := #[.tmp 17, .tmp 18]) rfl ?_); at_builtin; refine Kd.R_append_rows (Kd.int .u8) (w0 := w1) w1.heap.size rfl (.tmp 17) (.tmp 18) 22 5 (.int .u8 0) 1 rfl Try.underlying22 infoU8 rfl (by decide) (by omega) (.slice (some ⟨w1.heap.size, 0, none⟩) 0 0) ([] : List Int) l _ _ _ (fun _ => True) (fun _ => False) rfl rfl ?aO ?aR (fun _ _ h => h) (fun _ h => h.elim) ?aF ?aB ?aS ?aL ?_; (case aR => exact Kd.C_alloc HC1.out _); (case aB => exact (Below.refl _ _).alloc (Nat.le_refl _) _); (case aF => exact (fun _ _ => trivial)); (case aO => exact R_lit0 kU8 5 w1); (case aS => simp); (case aL => (simp only [List.length_nil]; omega)); (intro v2 w2 ho hb2 hg hat; rw [List.nil_append] at ho; obtain ⟨A2, c2, rfl, hlc2, hC2⟩ := Kd.R_reads ho; have HO2 := Aside0.mk ho; have HC2 := Aside0.mk hC2; have HB2 := Aside0.mk hb2; have hz2 := hb2.size; clear ho hb2 hg hat hC2))
    | (go_at_call 14; refine (new_calls A2 c2 l _ HC2.out (by omega)).mono ?_; rintro e w3 ⟨g, b, rfl, hr3, hb3, hg3, hbb, hbl⟩; have HR3 := Aside0.mk hr3; have HB3 := Aside0.mk hb3; have hz3 := hb3.size; clear hr3 hb3))
  -- what stands behind the set-up
  have hrow : 0 < l.length → ∃ (g1 : Nat) (cur : Array Value), A2 = some ⟨g1, 0, none⟩ ∧ w3.heap[g1]? = some (.cells cur 5 (0, 0)) ∧ w1.heap.size ≤ g1 ∧ g1 < w2.heap.size ∧ ∀ j : Nat, j < l.length → ∃ y, cur[j]? = some (.int .u8 y) := fun hp => by
    obtain ⟨g1, cur, e1, e2, e3, e4, -, e5⟩ := R_row HO2.out hp
    exact ⟨g1, cur, e1, (HB3.out.block g1 e4).trans e2, e3, e4, fun j hj => ⟨_, e5 j _ (List.getElem?_eq_getElem hj)⟩⟩
  obtain ⟨bA, hA1, hA2, hA3, hA4⟩ : ∃ bA, (∀ a, A = some a → a.block = bA) ∧ bA < w3.heap.size ∧ bA ≠ g ∧ (bA < w.heap.size ∨ w2.heap.size ≤ bA) := by
    cases A with
    | none => exact ⟨b, fun a e => (by cases e), hbl, HR3.out.ne, .inr hbb⟩
    | some a =>
      have := HALT.out a rfl
      exact ⟨a.block, fun a' e => (by injection e with e; rw [e]), by omega, by omega, .inl this⟩
  have hR2 : Rdr 44 (w3.alloc (.cells #[.slice A l.length c, .int .i64 0] 44)) w3.heap.size bA l 0 :=
    ⟨A, c, heap_alloc_new _ _, hcap, hA1, Kd.C_alloc (Kd.C_below (Kd.C_below HC1.out HB2.out) HB3.out) _, by omega⟩
  have hsz0 : (w3.alloc (.cells #[.slice A l.length c, .int .i64 0] 44)).heap.size = w3.heap.size + 1 := World.size_alloc _ _
  have hR1 := HR3.out.below ((Below.refl _ _).alloc (Nat.le_refl _) (.cells #[.slice A l.length c, .int .i64 0] 44)) hbl
  have hB0 : Below w.heap.size w (w3.alloc (.cells #[.slice A l.length c, .int .i64 0] 44)) := ((HB1.out.trans (HB2.out.mono hz1)).trans (HB3.out.mono (by omega))).alloc (by omega) _
  have hrow0 : 0 < l.length → ∃ (g1 : Nat) (cur : Array Value), A2 = some ⟨g1, 0, none⟩ ∧ (w3.alloc (.cells #[.slice A l.length c, .int .i64 0] 44)).heap[g1]? = some (.cells cur 5 (0, 0)) ∧ w1.heap.size ≤ g1 ∧ g1 < w2.heap.size ∧ ∀ j : Nat, j < l.length → ∃ y, cur[j]? = some (.int .u8 y) := fun hp => by
    obtain ⟨g1, cur, e1, e2, e3, e4, e5⟩ := hrow hp
    exact ⟨g1, cur, e1, (Below.heap_alloc _ _ _ (by omega)).trans e2, e3, e4, e5⟩
  have hgl := HR3.out.lt
  have hbg := HR3.out.ne
  have HR1 := Aside0.mk hR1
  have HR2 := Aside0.mk hR2
  have HB0 := Aside0.mk hB0
  have HW0 := Aside0.mk hrow0
  have HS0 := Aside0.mk hsz0
  have HA1 := Aside0.mk hA1
  obtain ⟨W0, hW0⟩ : ∃ W0, W0 = w3.alloc (.cells #[.slice A l.length c, .int .i64 0] 44) := ⟨_, rfl⟩
  have hg2 : w3.heap.size = W0.heap.size - 1 := by rw [hW0, hsz0]; omega
  obtain ⟨g2, hg2'⟩ : ∃ g2, g2 = w3.heap.size := ⟨_, rfl⟩
  rw [← hW0, ← hg2'] at HR2
  rw [← hW0] at HR1 HB0 HW0 HS0
  rw [← hW0, ← hg2']
  have HG2 := Aside0.mk hg2'
  clear hrow hR2 hR1 hB0 hrow0 hsz0 hA1 HR3 HC2 HO2 HC1 HB1 HB2 HB3 hW0 hg2 hg2'
  go_loopw [27] (fun i wr => ∃ k : Nat, k ≤ l.length ∧ i = .int .i64 k ∧ Aside0 (Rdr 56 wr g b l 0) ∧ Aside0 (Rdr 44 wr g2 bA l 0) ∧ Aside0 (Below w.heap.size w wr) ∧ Aside0 (wr.heap.size = W0.heap.size) ∧
      Aside0 (0 < l.length → ∃ (g1 : Nat) (cur : Array Value), A2 = some ⟨g1, 0, none⟩ ∧ wr.heap[g1]? = some (.cells cur 5 (0, 0)) ∧ w1.heap.size ≤ g1 ∧ g1 < w2.heap.size ∧ ∀ j : Nat, j < l.length → ∃ y, cur[j]? = some (.int .u8 y))) (fun i _ => l.length - (intOf i).toNat)
  case atStart => exact ⟨0, by omega, rfl, HR1, HR2, HB0, ⟨rfl⟩, HW0⟩
  case round =>
    clear HR1 HR2 HB0 HW0
    obtain ⟨k, hk, rfl, HR1, HR2, HB, HS, HW⟩ := hrel
    by_cases hlt : k < l.length
    · obtain ⟨g1, cur, rfl, hh, hg1a, hg1b, hcur⟩ := HW.out (by omega)
      obtain ⟨y, hy⟩ := hcur k hlt
      have hcy : wr.cell? ⟨g1, k, none⟩ = some (.int .u8 y) := (cell_of_row wr g1 k cur 5 (0, 0) hh).trans hy
      have hfy := blk_frozen hh k
      have HH := Aside0.mk hh
      have HCUR := Aside0.mk hcur
      clear hh hcur hy HW
      go_wp2
      go_roundw
      case rel =>
        have hG := HG2.out
        have hS0 := HS0.out
        refine ⟨k + 1, by omega, by go_num, ⟨HR1.out.move (Below.heap_setCell _ _ _ _ (by show g ≠ g1; omega)) (Below.heap_setCell _ _ _ _ (by show b ≠ g1; omega))⟩, ⟨HR2.out.move (Below.heap_setCell _ _ _ _ (by show g2 ≠ g1; omega)) (Below.heap_setCell _ _ _ _ (by show bA ≠ g1; omega))⟩, ⟨HB.out.setCell (by show w.heap.size ≤ g1; omega) _⟩, ⟨by rw [World.size_setCell]; exact HS.out⟩, ⟨fun _ => ⟨g1, _, rfl, heap_setCell_same wr g1 k cur 5 _ HH.out, hg1a, hg1b, fun j hj => ?_⟩⟩⟩
        by_cases hjk : k = j
        · subst hjk
          obtain ⟨y', hy'⟩ := HCUR.out k hj
          have := (Array.getElem?_eq_some_iff.1 hy').1
          exact ⟨_, by rw [Array.getElem?_setIfInBounds_self_of_lt this]⟩
        · obtain ⟨y', hy'⟩ := HCUR.out j hj
          exact ⟨y', by rw [Array.getElem?_setIfInBounds_ne hjk]; exact hy'⟩
      case measure => simp [intOf]; omega
    · have hge : l.length ≤ k := by omega
      have hdk : decide (k < l.length) = false := by simp; omega
      clear HW hlt hk
      have hA2' : bA < wr.heap.size ∧ g < wr.heap.size ∧ b < wr.heap.size ∧ g2 < wr.heap.size ∧ w.heap.size ≤ g ∧ w.heap.size ≤ g2 ∧ b ≠ g2 ∧ bA ≠ g ∧ g ≠ g2 := by
        have h1 := HG2.out
        have h2 := HS0.out
        have h3 := HS.out
        refine ⟨by omega, by omega, by omega, by omega, by omega, by omega, by omega, hA3, by omega⟩
      go_wp2
      obtain ⟨hbA, hgw, hbw, hg2w, hwg, hwg2, hbg2, hbAg, hgg2⟩ := hA2'
      have HLB := Aside0.mk (show By l ∧ l.length ≤ 2000 from ⟨HY.out, by omega⟩)
      obtain ⟨W5, hW5⟩ : ∃ W5 : World, W5 = wr := ⟨_, rfl⟩
      rw [← hW5] at hbA hgw hbw hg2w
      have HS5 := Aside0.mk (show W5.heap.size ≤ wr.heap.size by rw [hW5]; exact Nat.le_refl _)
      clear hW5 HS0 HS HG2 HA1 hA2 hA3 hA4 hgl hbg hbl hbb hz3 hg3 hz2 hlc2 hz1 HY HALT HC hge
      go_loopw [39] (fun i wr => ∃ (k : Nat) (lr : List Int) (cr : Int), k ≤ m.length ∧ i = .int .i64 k ∧ Aside0 (Rdr 56 wr g b lr cr) ∧ Aside0 (Rdr 44 wr g2 bA lr cr) ∧ Aside0 (By lr ∧ lr.length ≤ 2000) ∧ Aside0 (Below w.heap.size w wr) ∧ Aside0 (W5.heap.size ≤ wr.heap.size)) (fun i _ => m.length - (intOf i).toNat)
      case atStart => exact ⟨0, l, 0, by omega, rfl, HR1, HR2, HLB, HB, HS5⟩
      case round =>
        clear HR1 HR2 HLB HB HS5
        obtain ⟨k, lr, cr, hk, rfl, HR1, HR2, HLB, HB, HS5⟩ := hrel
        by_cases hlt : k < m.length
        · obtain ⟨⟨kd, n, cd⟩, hp⟩ : ∃ p, m[k]? = some p := ⟨_, List.getElem?_eq_getElem hlt⟩
          obtain ⟨⟨hk0, hk1⟩, ⟨hn0, hn1⟩, ⟨hc0, hc1⟩⟩ : (0 ≤ kd ∧ kd < 256) ∧ (-9223372036854775808 ≤ n ∧ n ≤ 9223372036854775807) ∧ (0 ≤ cd ∧ cd < 256) := HOK.out _ (List.mem_of_getElem? hp)
          obtain ⟨ad, rfl⟩ : ∃ ad, A' = some ad := by obtain ⟨ad, e, _⟩ := HC'.out.2.2 (by omega); exact ⟨ad, e⟩
          obtain ⟨q0, q1, q2⟩ := act_cells (Kd.C_below HC'.out HB.out) hp
          clear hp
          by_cases h60 : 60 < k
          · go_wp2
            go_ret
            exact ⟨rfl, HB.out.alloc HB.out.size _⟩
          · have d60 : decide ((60 : Int) < k) = false := by simp; omega
            have hbwr : b < wr.heap.size := Nat.lt_of_lt_of_le hbw HS5.out
            have hbAwr : bA < wr.heap.size := Nat.lt_of_lt_of_le hbA HS5.out
            have hgwr : g < wr.heap.size := Nat.lt_of_lt_of_le hgw HS5.out
            have hg2wr : g2 < wr.heap.size := Nat.lt_of_lt_of_le hg2w HS5.out
            have hal : Below wr.heap.size wr (wr.alloc (.cells #[.int .u8 kd, .int .i64 n, .int .u8 cd] 46)) := (Below.refl _ _).alloc (Nat.le_refl _) _
            have hnew : (wr.alloc (.cells #[.int .u8 kd, .int .i64 n, .int .u8 cd] 46)).heap[wr.heap.size]? = some (.cells #[.int .u8 kd, .int .i64 n, .int .u8 cd] 46 (0, 0)) := heap_alloc_new _ _
            have HA1 := Aside0.mk (HR1.out.below hal hbwr)
            have HA2 := Aside0.mk (HR2.out.below hal hbAwr)
            have HAB := Aside0.mk (HB.out.trans (hal.mono HB.out.size))
            have HAS := Aside0.mk (Nat.le_trans HS5.out hal.size)
            have hlty : wr.heap.size < (wr.alloc (.cells #[.int .u8 kd, .int .i64 n, .int .u8 cd] 46)).heap.size := by rw [World.size_alloc]; omega
            go_upto_block 4 with fail
            obtain ⟨wy, hwy⟩ : ∃ wy, wy = wr.alloc (.cells #[.int .u8 kd, .int .i64 n, .int .u8 cd] 46) := ⟨_, rfl⟩
            obtain ⟨gv, hgv⟩ : ∃ gv, gv = wr.heap.size := ⟨_, rfl⟩
            rw [← hwy, ← hgv]
            rw [← hwy] at HA1 HA2 HAB HAS hlty
            rw [← hwy, ← hgv] at hnew
            have hgv1 : gv ≠ g := by omega
            have hgv2 : gv ≠ g2 := by omega
            have hby : b < wy.heap.size := by omega
            have hbAy : bA < wy.heap.size := by omega
            have hgvy : gv < wy.heap.size := by omega
            have hgy : g < wy.heap.size := by omega
            have hg2y : g2 < wy.heap.size := by omega
            have hbAg2 : bA ≠ g2 := HA2.out.ne
            have HV : Aside0 (∀ W, Keep (fun i => i = g ∨ i = g2) wy W → W.cell? ⟨gv, 0, none⟩ = some (.int .u8 kd) ∧ W.cell? ⟨gv, 1, none⟩ = some (.int .i64 n) ∧ W.cell? ⟨gv, 2, none⟩ = some (.int .u8 cd)) := ⟨fun W hW => by
              have h := (hW.block gv hgvy (by omega)).trans hnew
              exact ⟨by simp [World.cell?, h], by simp [World.cell?, h], by simp [World.cell?, h]⟩⟩
            clear HR1 HR2 HB HS5 hal hnew hwy hgv hlty hbwr hbAwr hgwr hg2wr q0 q1 q2 h60
            go_cut [11] (fun s11 wx => s11 = .bool true ∧ Aside0 (Rdr 56 wx g b (step (kd, n, cd) lr cr).1 (step (kd, n, cd) lr cr).2) ∧ Aside0 (Rdr 44 wx g2 bA (step (kd, n, cd) lr cr).1 (step (kd, n, cd) lr cr).2) ∧ Aside0 (Below w.heap.size w wx) ∧ Aside0 (W5.heap.size ≤ wx.heap.size))
            case first =>
              obtain ⟨v0, v1, v2⟩ := HV.out wy (Keep.refl _ _)
              have hkd : kd % 7 = 0 ∨ kd % 7 = 1 ∨ kd % 7 = 2 ∨ kd % 7 = 3 ∨ kd % 7 = 4 ∨ kd % 7 = 5 ∨ kd % 7 = 6 := by omega
              rcases hkd with h7 | h7 | h7 | h7 | h7 | h7 | h7
              case inl =>
                have HST : Aside0 (step (kd, n, cd) lr cr = (num lr cr).2) := ⟨by simp [step, h7]⟩
                have b0 : (kd % 7 == 0) = true := by rw [h7]; rfl
                have b1 : (kd % 7 == 1) = false := by rw [h7]; rfl
                have b2 : (kd % 7 == 2) = false := by rw [h7]; rfl
                have b3 : (kd % 7 == 3) = false := by rw [h7]; rfl
                have b4 : (kd % 7 == 4) = false := by rw [h7]; rfl
                have b5 : (kd % 7 == 5) = false := by rw [h7]; rfl
                clear h7
                go_wp2_with (first
                  | (go_at_call 15; refine (num_calls g b lr cr _ HA1.out HLB.out.1).mono ?_; rintro e w6 ⟨rfl, hr6, hk6, hs6⟩; have HR6 := Aside0.mk hr6; have HK6 := Aside0.mk hk6; clear hr6 hk6)
                  | (go_at_call 18; refine (Lr.num_calls g2 bA lr cr _ (HA2.out.keep HK6.out (Ne.symm hgg2) hbAg hbAy) HLB.out.1).mono ?_; rintro e w7 ⟨rfl, hr7, hk7, hs7⟩; have HR7 := Aside0.mk hr7; have HK7 := Aside0.mk hk7; clear hr7 hk7))
                go_meet
                refine ⟨rfl, ⟨by rw [HST.out]; exact HR6.out.keep HK7.out hgg2 hbg2 (by omega)⟩, ⟨by rw [HST.out]; exact HR7.out⟩, ⟨Keep.below_then (Keep.below_then HAB.out HK6.out HAB.out.size (fun i hi e => by omega)) HK7.out (by have := HAB.out.size; omega) (fun i hi e => by omega)⟩, ⟨by have := HAS.out; omega⟩⟩
              case inr.inl =>
                have HST : Aside0 (step (kd, n, cd) lr cr = (num lr cr).2) := ⟨by simp [step, h7]⟩
                have b0 : (kd % 7 == 0) = false := by rw [h7]; rfl
                have b1 : (kd % 7 == 1) = true := by rw [h7]; rfl
                have b2 : (kd % 7 == 2) = false := by rw [h7]; rfl
                have b3 : (kd % 7 == 3) = false := by rw [h7]; rfl
                have b4 : (kd % 7 == 4) = false := by rw [h7]; rfl
                have b5 : (kd % 7 == 5) = false := by rw [h7]; rfl
                clear h7
                go_wp2_with (first
                  | (go_at_call 15; refine (num_calls g b lr cr _ HA1.out HLB.out.1).mono ?_; rintro e w6 ⟨rfl, hr6, hk6, hs6⟩; have HR6 := Aside0.mk hr6; have HK6 := Aside0.mk hk6; clear hr6 hk6)
                  | (go_at_call 18; refine (Lr.num_calls g2 bA lr cr _ (HA2.out.keep HK6.out (Ne.symm hgg2) hbAg hbAy) HLB.out.1).mono ?_; rintro e w7 ⟨rfl, hr7, hk7, hs7⟩; have HR7 := Aside0.mk hr7; have HK7 := Aside0.mk hk7; clear hr7 hk7))
                go_meet
                refine ⟨rfl, ⟨by rw [HST.out]; exact HR6.out.keep HK7.out hgg2 hbg2 (by omega)⟩, ⟨by rw [HST.out]; exact HR7.out⟩, ⟨Keep.below_then (Keep.below_then HAB.out HK6.out HAB.out.size (fun i hi e => by omega)) HK7.out (by have := HAB.out.size; omega) (fun i hi e => by omega)⟩, ⟨by have := HAS.out; omega⟩⟩
              case inr.inr.inl =>
                have HST : Aside0 (step (kd, n, cd) lr cr = (num lr cr).2) := ⟨by simp [step, h7]⟩
                have b0 : (kd % 7 == 0) = false := by rw [h7]; rfl
                have b1 : (kd % 7 == 1) = false := by rw [h7]; rfl
                have b2 : (kd % 7 == 2) = true := by rw [h7]; rfl
                have b3 : (kd % 7 == 3) = false := by rw [h7]; rfl
                have b4 : (kd % 7 == 4) = false := by rw [h7]; rfl
                have b5 : (kd % 7 == 5) = false := by rw [h7]; rfl
                clear h7
                have HNR := Aside0.mk (num_range lr cr HLB.out.1)
                go_wp2_with (first
                  | (go_at_call 17; refine (int_calls g b lr cr _ HA1.out HLB.out.1).mono ?_; rintro e w6 ⟨rfl, hr6, hk6, hs6⟩; have HR6 := Aside0.mk hr6; have HK6 := Aside0.mk hk6; clear hr6 hk6)
                  | (go_at_call 18; refine (Lr.num_calls g2 bA lr cr _ (HA2.out.keep HK6.out (Ne.symm hgg2) hbAg hbAy) HLB.out.1).mono ?_; rintro e w7 ⟨rfl, hr7, hk7, hs7⟩; have HR7 := Aside0.mk hr7; have HK7 := Aside0.mk hk7; clear hr7 hk7)
                  | (go_at_call 19; refine (Lr.zag_calls (num lr cr).1 _ HNR.out.1 HNR.out.2).mono ?_; rintro e w8 ⟨rfl, rfl⟩))
                go_meet
                refine ⟨rfl, ⟨by rw [HST.out]; exact HR6.out.keep HK7.out hgg2 hbg2 (by omega)⟩, ⟨by rw [HST.out]; exact HR7.out⟩, ⟨Keep.below_then (Keep.below_then HAB.out HK6.out HAB.out.size (fun i hi e => by omega)) HK7.out (by have := HAB.out.size; omega) (fun i hi e => by omega)⟩, ⟨by have := HAS.out; omega⟩⟩
              case inr.inr.inr.inl =>
                have HST : Aside0 (step (kd, n, cd) lr cr = (below n lr cr).2) := ⟨by simp [step, h7]⟩
                have b0 : (kd % 7 == 0) = false := by rw [h7]; rfl
                have b1 : (kd % 7 == 1) = false := by rw [h7]; rfl
                have b2 : (kd % 7 == 2) = false := by rw [h7]; rfl
                have b3 : (kd % 7 == 3) = true := by rw [h7]; rfl
                have b4 : (kd % 7 == 4) = false := by rw [h7]; rfl
                have b5 : (kd % 7 == 5) = false := by rw [h7]; rfl
                clear h7
                go_wp2_with fail
                have HCUR := Aside0.mk (Keep.drew (Keep.refl (fun i => i = g ∨ i = g2) wy))
                refine rk_start ((fun i => i = g ∨ i = g2)) (by kernel_rfl) (n := 10) (l := #[false, false, false, false, false, false, false, false, false, false]) (by kernel_rfl) (by kernel_rfl) ?_
                refine rk_take (fuel := 9) 0 rfl (by kernel_rfl) (listed' := #[true, false, false, false, false, false, false, false, false, false]) (by kernel_rfl) (fun _ _ _ h => h) (by kernel_rfl) (fun w' hR => by obtain ⟨x0, x1, x2⟩ := HV.out w' (HCUR.out.trans hR); go_simp; first | done | with_reducible rfl) rfl ?_
                try simp only [Act.put, List.setIfInBounds_toArray, List.set_cons_zero, List.set_cons_succ]
                refine rk_take (fuel := 8) 1 rfl (by kernel_rfl) (listed' := #[true, true, false, false, false, false, false, false, false, false]) (by kernel_rfl) (fun _ _ _ h => h) (by kernel_rfl) (fun w' hR => by obtain ⟨x0, x1, x2⟩ := HV.out w' (HCUR.out.trans hR); go_simp; first | done | with_reducible rfl) rfl ?_
                try simp only [Act.put, List.setIfInBounds_toArray, List.set_cons_zero, List.set_cons_succ]
                refine rk_take (fuel := 7) 2 rfl (by kernel_rfl) (listed' := #[true, true, true, false, false, false, false, false, false, false]) (by kernel_rfl) (fun _ _ _ h => h) (by kernel_rfl) (fun w' hR => by obtain ⟨x0, x1, x2⟩ := HV.out w' (HCUR.out.trans hR); go_simp; first | done | with_reducible rfl) rfl ?_
                try simp only [Act.put, List.setIfInBounds_toArray, List.set_cons_zero, List.set_cons_succ]
                refine rk_take (fuel := 6) 4 rfl (by kernel_rfl) (listed' := #[true, true, true, false, true, false, false, false, false, false]) (by kernel_rfl) (fun _ _ _ h => h) (by kernel_rfl) (fun w' hR => by obtain ⟨x0, x1, x2⟩ := HV.out w' (HCUR.out.trans hR); go_simp; first | done | with_reducible rfl) rfl ?_
                try simp only [Act.put, List.setIfInBounds_toArray, List.set_cons_zero, List.set_cons_succ]
                refine rk_take (fuel := 5) 5 rfl (by kernel_rfl) (listed' := #[true, true, true, false, true, true, false, false, false, false]) (by kernel_rfl) (fun _ _ _ h => h) (by kernel_rfl) (fun w' hR => by obtain ⟨x0, x1, x2⟩ := HV.out w' (HCUR.out.trans hR); go_simp; first | done | with_reducible rfl) rfl ?_
                try simp only [Act.put, List.setIfInBounds_toArray, List.set_cons_zero, List.set_cons_succ]
                refine rk_take (fuel := 4) 6 rfl (by kernel_rfl) (listed' := #[true, true, true, false, true, true, true, false, false, false]) (by kernel_rfl) (fun _ _ _ h => h) (by kernel_rfl) (fun w' hR => by obtain ⟨x0, x1, x2⟩ := HV.out w' (HCUR.out.trans hR); go_simp; first | done | with_reducible rfl) rfl ?_
                try simp only [Act.put, List.setIfInBounds_toArray, List.set_cons_zero, List.set_cons_succ]
                refine rk_step (fuel := 3) 3 rfl (by kernel_rfl) (listed' := #[true, true, true, true, true, true, true, false, false, false]) (by kernel_rfl) (by kernel_rfl) (fun K' hK => ?_)
                go_wp2_with (first | (go_at_call 20; refine (below_calls g b lr cr n _ (HA1.out.move (w' := wy.drew) rfl rfl) HLB.out.1 hn0 hn1).mono ?_; rintro e w6 ⟨rfl, hr6, hk6, hs6⟩; have HR6 := Aside0.mk hr6; have HK6 := Aside0.mk hk6; have HCUR := Aside0.mk (HCUR.out.trans (hk6.mono (fun i _ e => Or.inl e))); have hs6 : w6.heap.size = wy.heap.size := hs6; clear hr6 hk6))
                refine hK.out _ _ (HK6.out.mono (fun i _ e => Or.inl e)) ?_
                clear hK K'
                try simp only [Act.put, List.setIfInBounds_toArray, List.set_cons_zero, List.set_cons_succ]
                refine rk_step (fuel := 2) 7 rfl (by kernel_rfl) (listed' := #[true, true, true, true, true, true, true, true, false, false]) (by kernel_rfl) (by kernel_rfl) (fun K' hK => ?_)
                go_wp2_with (first | (go_at_call 21; refine (Lr.below_calls g2 bA lr cr n _ ((HA2.out.move (w' := wy.drew) rfl rfl).keep HK6.out (Ne.symm hgg2) hbAg hbAy) HLB.out.1 hn0 hn1).mono ?_; rintro e w7 ⟨rfl, hr7, hk7, hs7⟩; have HR7 := Aside0.mk hr7; have HK7 := Aside0.mk hk7; have HCUR := Aside0.mk (HCUR.out.trans (hk7.mono (fun i _ e => Or.inr e))); clear hr7 hk7))
                refine hK.out _ _ (HK7.out.mono (fun i _ e => Or.inr e)) ?_
                clear hK K'
                try simp only [Act.put, List.setIfInBounds_toArray, List.set_cons_zero, List.set_cons_succ]
                refine rk_take (fuel := 1) 8 rfl (by kernel_rfl) (listed' := #[true, true, true, true, true, true, true, true, true, false]) (by kernel_rfl) (fun _ _ _ h => h) (by kernel_rfl) (fun w' hR => by obtain ⟨x0, x1, x2⟩ := HV.out w' (HCUR.out.trans hR); go_simp; first | done | with_reducible rfl) rfl ?_
                try simp only [Act.put, List.setIfInBounds_toArray, List.set_cons_zero, List.set_cons_succ]
                refine rk_take (fuel := 0) 9 rfl (by kernel_rfl) (listed' := #[true, true, true, true, true, true, true, true, true, true]) (by kernel_rfl) (fun _ _ _ h => h) (by kernel_rfl) (fun w' hR => by obtain ⟨x0, x1, x2⟩ := HV.out w' (HCUR.out.trans hR); go_simp; first | done | with_reducible rfl) rfl ?_
                try simp only [Act.put, List.setIfInBounds_toArray, List.set_cons_zero, List.set_cons_succ]
                refine rk_done (by kernel_rfl) ?_
                go_wp2_with fail
                go_meet
                refine ⟨rfl, ⟨by rw [HST.out]; exact HR6.out.keep HK7.out hgg2 hbg2 (by omega)⟩, ⟨by rw [HST.out]; exact HR7.out⟩, ⟨Keep.below_then HAB.out HCUR.out HAB.out.size (fun i hi e => by omega)⟩, ⟨by have := HAS.out; have := HCUR.out.size; omega⟩⟩
              case inr.inr.inr.inr.inl =>
                have HST : Aside0 (step (kd, n, cd) lr cr = (takes n lr cr).2) := ⟨by simp [step, h7]⟩
                have b0 : (kd % 7 == 0) = false := by rw [h7]; rfl
                have b1 : (kd % 7 == 1) = false := by rw [h7]; rfl
                have b2 : (kd % 7 == 2) = false := by rw [h7]; rfl
                have b3 : (kd % 7 == 3) = false := by rw [h7]; rfl
                have b4 : (kd % 7 == 4) = true := by rw [h7]; rfl
                have b5 : (kd % 7 == 5) = false := by rw [h7]; rfl
                clear h7
                go_wp2_with fail
                have HCUR := Aside0.mk (Keep.drew (Keep.refl (fun i => i = g ∨ i = g2) wy))
                refine rk_start ((fun i => i = g ∨ i = g2)) (by kernel_rfl) (n := 12) (l := #[false, false, false, false, false, false, false, false, false, false, false, false]) (by kernel_rfl) (by kernel_rfl) ?_
                refine rk_take (fuel := 11) 0 rfl (by kernel_rfl) (listed' := #[true, false, false, false, false, false, false, false, false, false, false, false]) (by kernel_rfl) (fun _ _ _ h => h) (by kernel_rfl) (fun w' hR => by obtain ⟨x0, x1, x2⟩ := HV.out w' (HCUR.out.trans hR); go_simp; first | done | with_reducible rfl) rfl ?_
                try simp only [Act.put, List.setIfInBounds_toArray, List.set_cons_zero, List.set_cons_succ]
                refine rk_take (fuel := 10) 1 rfl (by kernel_rfl) (listed' := #[true, true, false, false, false, false, false, false, false, false, false, false]) (by kernel_rfl) (fun _ _ _ h => h) (by kernel_rfl) (fun w' hR => by obtain ⟨x0, x1, x2⟩ := HV.out w' (HCUR.out.trans hR); go_simp; first | done | with_reducible rfl) rfl ?_
                try simp only [Act.put, List.setIfInBounds_toArray, List.set_cons_zero, List.set_cons_succ]
                refine rk_take (fuel := 9) 2 rfl (by kernel_rfl) (listed' := #[true, true, true, false, false, false, false, false, false, false, false, false]) (by kernel_rfl) (fun _ _ _ h => h) (by kernel_rfl) (fun w' hR => by obtain ⟨x0, x1, x2⟩ := HV.out w' (HCUR.out.trans hR); go_simp; first | done | with_reducible rfl) rfl ?_
                try simp only [Act.put, List.setIfInBounds_toArray, List.set_cons_zero, List.set_cons_succ]
                refine rk_take (fuel := 8) 5 rfl (by kernel_rfl) (listed' := #[true, true, true, false, false, true, false, false, false, false, false, false]) (by kernel_rfl) (fun _ _ _ h => h) (by kernel_rfl) (fun w' hR => by obtain ⟨x0, x1, x2⟩ := HV.out w' (HCUR.out.trans hR); go_simp; first | done | with_reducible rfl) rfl ?_
                try simp only [Act.put, List.setIfInBounds_toArray, List.set_cons_zero, List.set_cons_succ]
                refine rk_take (fuel := 7) 6 rfl (by kernel_rfl) (listed' := #[true, true, true, false, false, true, true, false, false, false, false, false]) (by kernel_rfl) (fun _ _ _ h => h) (by kernel_rfl) (fun w' hR => by obtain ⟨x0, x1, x2⟩ := HV.out w' (HCUR.out.trans hR); go_simp; first | done | with_reducible rfl) rfl ?_
                try simp only [Act.put, List.setIfInBounds_toArray, List.set_cons_zero, List.set_cons_succ]
                refine rk_take (fuel := 6) 7 rfl (by kernel_rfl) (listed' := #[true, true, true, false, false, true, true, true, false, false, false, false]) (by kernel_rfl) (fun _ _ _ h => h) (by kernel_rfl) (fun w' hR => by obtain ⟨x0, x1, x2⟩ := HV.out w' (HCUR.out.trans hR); go_simp; first | done | with_reducible rfl) rfl ?_
                try simp only [Act.put, List.setIfInBounds_toArray, List.set_cons_zero, List.set_cons_succ]
                refine rk_step (fuel := 5) 3 rfl (by kernel_rfl) (listed' := #[true, true, true, true, false, true, true, true, false, false, false, false]) (by kernel_rfl) (by kernel_rfl) (fun K' hK => ?_)
                go_wp2_with (first | (go_at_call 22; refine (bytes_calls g b lr cr n _ (HA1.out.move (w' := wy.drew) rfl rfl) hby (by have := HLB.out.2; omega)).mono ?_; rintro e w6 ⟨v6, rfl, ho6, hr6, hk6⟩; obtain ⟨A6, c6, rfl, -, hC6⟩ := Kd.R_reads ho6; have hfr6 : ∀ a, A6 = some a → wy.heap.size ≤ a.block ∧ a.block < w6.heap.size := (fun a e => by subst e; exact R_at ho6); have HFR6 := Aside0.mk hfr6; have HC6 := Aside0.mk hC6; have HR6 := Aside0.mk hr6; have HK6 := Aside0.mk hk6; have HCUR := Aside0.mk (HCUR.out.trans (hk6.mono (fun i _ e => Or.inl e))); have hs6 : wy.heap.size ≤ w6.heap.size := hk6.size; clear ho6 hr6 hk6 hC6 hfr6))
                refine hK.out _ _ (HK6.out.mono (fun i _ e => Or.inl e)) ?_
                clear hK K'
                try simp only [Act.put, List.setIfInBounds_toArray, List.set_cons_zero, List.set_cons_succ]
                refine rk_take (fuel := 4) 4 rfl (by kernel_rfl) (listed' := #[true, true, true, true, true, true, true, true, false, false, false, false]) (by kernel_rfl) (fun _ _ _ h => h) (by kernel_rfl) (fun w' hR => by have s6 := Kd.C_string (P := Try.prog) Try.underlying22 Try.underlying5 Try.underlying9 (c := c6) (C_blk HC6.out (fun a e => hR.block a.block (HFR6.out a e).2 (by have := (HFR6.out a e).1; omega))); go_simp; first | done | with_reducible rfl) rfl ?_
                try simp only [Act.put, List.setIfInBounds_toArray, List.set_cons_zero, List.set_cons_succ]
                refine rk_step (fuel := 3) 8 rfl (by kernel_rfl) (listed' := #[true, true, true, true, true, true, true, true, true, false, false, false]) (by kernel_rfl) (by kernel_rfl) (fun K' hK => ?_)
                go_wp2_with (first | (go_at_call 23; refine (Lr.bytes_calls g2 bA lr cr n _ ((HA2.out.move (w' := wy.drew) rfl rfl).keep HK6.out (Ne.symm hgg2) hbAg hbAy)).mono ?_; rintro e w7 ⟨⟨A7, c7, rfl, -, hC7, hA7⟩, hr7, hk7, hs7⟩; have HA7 := Aside0.mk hA7; have HC7 := Aside0.mk hC7; have HR7 := Aside0.mk hr7; have HK7 := Aside0.mk hk7; have HCUR := Aside0.mk (HCUR.out.trans (hk7.mono (fun i _ e => Or.inr e))); clear hr7 hk7 hC7 hA7))
                refine hK.out _ _ (HK7.out.mono (fun i _ e => Or.inr e)) ?_
                clear hK K'
                try simp only [Act.put, List.setIfInBounds_toArray, List.set_cons_zero, List.set_cons_succ]
                refine rk_take (fuel := 2) 9 rfl (by kernel_rfl) (listed' := #[true, true, true, true, true, true, true, true, true, true, false, false]) (by kernel_rfl) (fun _ _ _ h => h) (by kernel_rfl) (fun w' hR => by have hx7 := hR.block bA (by omega) (by omega); have s7 := Kd.C_string (P := Try.prog) Try.underlying22 Try.underlying5 Try.underlying9 (c := c7) (C_blk HC7.out (fun a e => (congrArg (fun i => w'.heap[i]? = w7.heap[i]?) (HA7.out a e)).mpr hx7)); go_simp; first | done | with_reducible rfl) rfl ?_
                try simp only [Act.put, List.setIfInBounds_toArray, List.set_cons_zero, List.set_cons_succ]
                refine rk_take (fuel := 1) 10 rfl (by kernel_rfl) (listed' := #[true, true, true, true, true, true, true, true, true, true, true, false]) (by kernel_rfl) (fun _ _ _ h => h) (by kernel_rfl) (fun w' hR => by obtain ⟨x0, x1, x2⟩ := HV.out w' (HCUR.out.trans hR); go_simp; first | done | with_reducible rfl) rfl ?_
                try simp only [Act.put, List.setIfInBounds_toArray, List.set_cons_zero, List.set_cons_succ]
                refine rk_take (fuel := 0) 11 rfl (by kernel_rfl) (listed' := #[true, true, true, true, true, true, true, true, true, true, true, true]) (by kernel_rfl) (fun _ _ _ h => h) (by kernel_rfl) (fun w' hR => by obtain ⟨x0, x1, x2⟩ := HV.out w' (HCUR.out.trans hR); go_simp; first | done | with_reducible rfl) rfl ?_
                try simp only [Act.put, List.setIfInBounds_toArray, List.set_cons_zero, List.set_cons_succ]
                refine rk_done (by kernel_rfl) ?_
                go_wp2_with fail
                go_meet
                refine ⟨rfl, ⟨by rw [HST.out]; exact HR6.out.keep HK7.out hgg2 hbg2 (by omega)⟩, ⟨by rw [HST.out]; exact HR7.out⟩, ⟨Keep.below_then HAB.out HCUR.out HAB.out.size (fun i hi e => by omega)⟩, ⟨by have := HAS.out; have := HCUR.out.size; omega⟩⟩
              case inr.inr.inr.inr.inr.inl =>
                have HST : Aside0 (step (kd, n, cd) lr cr = (lr, failed cd cr)) := ⟨by simp [step, h7]⟩
                have hw64 : wrap64 cd = cd := by unfold wrap64; omega
                have b0 : (kd % 7 == 0) = false := by rw [h7]; rfl
                have b1 : (kd % 7 == 1) = false := by rw [h7]; rfl
                have b2 : (kd % 7 == 2) = false := by rw [h7]; rfl
                have b3 : (kd % 7 == 3) = false := by rw [h7]; rfl
                have b4 : (kd % 7 == 4) = false := by rw [h7]; rfl
                have b5 : (kd % 7 == 5) = true := by rw [h7]; rfl
                clear h7
                go_wp2_with (first
                  | (go_at_call 24; refine (fail_calls g b lr cr cd _ HA1.out).mono ?_; rintro e w6 ⟨rfl, hr6, hk6, hs6⟩; have HR6 := Aside0.mk hr6; have HK6 := Aside0.mk hk6; obtain ⟨x0, x1, x2⟩ := HV.out w6 (hk6.mono (fun i _ e => Or.inl e)); clear hr6 hk6)
                  | (go_at_call 25; refine (Lr.fail_calls g2 bA lr cr cd _ (HA2.out.keep HK6.out (Ne.symm hgg2) hbAg hbAy)).mono ?_; rintro e w7 ⟨rfl, hr7, hk7, hs7⟩; have HR7 := Aside0.mk hr7; have HK7 := Aside0.mk hk7; clear hr7 hk7))
                go_meet
                refine ⟨rfl, ⟨by rw [HST.out]; exact HR6.out.keep HK7.out hgg2 hbg2 (by omega)⟩, ⟨by rw [HST.out]; exact HR7.out⟩, ⟨Keep.below_then (Keep.below_then HAB.out HK6.out HAB.out.size (fun i hi e => by omega)) HK7.out (by have := HAB.out.size; omega) (fun i hi e => by omega)⟩, ⟨by have := HAS.out; omega⟩⟩
              case inr.inr.inr.inr.inr.inr =>
                have HST : Aside0 (step (kd, n, cd) lr cr = (lr, ended lr cr)) := ⟨by simp [step, h7]⟩
                have b0 : (kd % 7 == 0) = false := by rw [h7]; rfl
                have b1 : (kd % 7 == 1) = false := by rw [h7]; rfl
                have b2 : (kd % 7 == 2) = false := by rw [h7]; rfl
                have b3 : (kd % 7 == 3) = false := by rw [h7]; rfl
                have b4 : (kd % 7 == 4) = false := by rw [h7]; rfl
                have b5 : (kd % 7 == 5) = false := by rw [h7]; rfl
                clear h7
                go_wp2_with (first
                  | (go_at_call 16; refine (end_calls g b lr cr _ HA1.out).mono ?_; rintro e w6 ⟨rfl, hr6, hk6, hs6⟩; have HR6 := Aside0.mk hr6; have HK6 := Aside0.mk hk6; clear hr6 hk6)
                  | (go_at_call 26; refine (Lr.end_calls g2 bA lr cr _ (HA2.out.keep HK6.out (Ne.symm hgg2) hbAg hbAy)).mono ?_; rintro e w7 ⟨rfl, hr7, hk7, hs7⟩; have HR7 := Aside0.mk hr7; have HK7 := Aside0.mk hk7; clear hr7 hk7))
                go_meet
                refine ⟨rfl, ⟨by rw [HST.out]; exact HR6.out.keep HK7.out hgg2 hbg2 (by omega)⟩, ⟨by rw [HST.out]; exact HR7.out⟩, ⟨Keep.below_then (Keep.below_then HAB.out HK6.out HAB.out.size (fun i hi e => by omega)) HK7.out (by have := HAB.out.size; omega) (fun i hi e => by omega)⟩, ⟨by have := HAS.out; omega⟩⟩
            case rest =>
              obtain ⟨rfl, HX1, HX2, HXB, HXS⟩ := hcut
              have HLB2 : Aside0 (By (step (kd, n, cd) lr cr).1 ∧ (step (kd, n, cd) lr cr).1.length ≤ 2000) := ⟨step_by _ _ _ HLB.out.1, Nat.le_trans (step_len _ _ _) HLB.out.2⟩
              obtain ⟨l2, hl2⟩ : ∃ l2, l2 = (step (kd, n, cd) lr cr).1 := ⟨_, rfl⟩
              obtain ⟨c2, hc2⟩ : ∃ c2, c2 = (step (kd, n, cd) lr cr).2 := ⟨_, rfl⟩
              rw [← hl2, ← hc2] at HX1 HX2
              rw [← hl2] at HLB2
              clear hl2 hc2 HA1 HA2 HAB HAS HV HLB
              obtain ⟨z1, -⟩ := HX2.out.code
              obtain ⟨A9, c9, z2, -⟩ := HX2.out.left
              have HF : Aside0 (∀ W, Fut wc W → W.cell? ⟨g2, 1, none⟩ = some (.int .i64 c2) ∧ W.cell? ⟨g2, 0, none⟩ = some (.slice A9 l2.length c9)) := ⟨fun W hW => ⟨(hW.cell (p := ⟨g2, 1, none⟩) HX2.out.lt).trans z1, (hW.cell (p := ⟨g2, 0, none⟩) HX2.out.lt).trans z2⟩⟩
              have hcc : (c2 != c2) = false := by simp
              have hll : ((l2.length : Int) != (l2.length : Int)) = false := by simp
              clear z1 z2
              go_wp2_with fail
              have HCUR := Aside0.mk (Fut.drew wc)
              refine rg_start (by kernel_rfl) (n := 21) (l := #[false, false, false, false, false, false, false, false, false, false, false, false, false, false, false, false, false, false, false, false, false]) (by kernel_rfl) (by kernel_rfl) ?_
              refine rg_take (fuel := 20) 0 rfl (by kernel_rfl) (listed' := #[true, false, false, false, false, false, false, false, false, false, false, false, false, false, false, false, false, false, false, false, false]) (by kernel_rfl) (fun _ _ _ h => h) (by kernel_rfl) (fun w' hR => by obtain ⟨x1, x2⟩ := HF.out w' (HCUR.out.trans hR); go_simp; first | done | with_reducible rfl) rfl ?_
              try simp only [Act.put, List.setIfInBounds_toArray, List.set_cons_zero, List.set_cons_succ]
              refine rg_take (fuel := 19) 1 rfl (by kernel_rfl) (listed' := #[true, true, false, false, false, false, false, false, false, false, false, false, false, false, false, false, false, false, false, false, false]) (by kernel_rfl) (fun _ _ _ h => h) (by kernel_rfl) (fun w' hR => by obtain ⟨x1, x2⟩ := HF.out w' (HCUR.out.trans hR); go_simp; first | done | with_reducible rfl) rfl ?_
              try simp only [Act.put, List.setIfInBounds_toArray, List.set_cons_zero, List.set_cons_succ]
              refine rg_take (fuel := 18) 2 rfl (by kernel_rfl) (listed' := #[true, true, true, false, false, false, false, false, false, false, false, false, false, false, false, false, false, false, false, false, false]) (by kernel_rfl) (fun _ _ _ h => h) (by kernel_rfl) (fun w' hR => by obtain ⟨x1, x2⟩ := HF.out w' (HCUR.out.trans hR); go_simp; first | done | with_reducible rfl) rfl ?_
              try simp only [Act.put, List.setIfInBounds_toArray, List.set_cons_zero, List.set_cons_succ]
              refine rg_take (fuel := 17) 3 rfl (by kernel_rfl) (listed' := #[true, true, true, true, false, false, false, false, false, false, false, false, false, false, false, false, false, false, false, false, false]) (by kernel_rfl) (fun _ _ _ h => h) (by kernel_rfl) (fun w' hR => by obtain ⟨x1, x2⟩ := HF.out w' (HCUR.out.trans hR); go_simp; first | done | with_reducible rfl) rfl ?_
              try simp only [Act.put, List.setIfInBounds_toArray, List.set_cons_zero, List.set_cons_succ]
              refine rg_take (fuel := 16) 5 rfl (by kernel_rfl) (listed' := #[true, true, true, true, false, true, false, false, false, false, false, false, false, false, false, false, false, false, false, false, false]) (by kernel_rfl) (fun _ _ _ h => h) (by kernel_rfl) (fun w' hR => by obtain ⟨x1, x2⟩ := HF.out w' (HCUR.out.trans hR); go_simp; first | done | with_reducible rfl) rfl ?_
              try simp only [Act.put, List.setIfInBounds_toArray, List.set_cons_zero, List.set_cons_succ]
              refine rg_take (fuel := 15) 6 rfl (by kernel_rfl) (listed' := #[true, true, true, true, false, true, true, false, false, false, false, false, false, false, false, false, false, false, false, false, false]) (by kernel_rfl) (fun _ _ _ h => h) (by kernel_rfl) (fun w' hR => by obtain ⟨x1, x2⟩ := HF.out w' (HCUR.out.trans hR); go_simp; first | done | with_reducible rfl) rfl ?_
              try simp only [Act.put, List.setIfInBounds_toArray, List.set_cons_zero, List.set_cons_succ]
              refine rg_take (fuel := 14) 7 rfl (by kernel_rfl) (listed' := #[true, true, true, true, false, true, true, true, false, false, false, false, false, false, false, false, false, false, false, false, false]) (by kernel_rfl) (fun _ _ _ h => h) (by kernel_rfl) (fun w' hR => by obtain ⟨x1, x2⟩ := HF.out w' (HCUR.out.trans hR); go_simp; first | done | with_reducible rfl) rfl ?_
              try simp only [Act.put, List.setIfInBounds_toArray, List.set_cons_zero, List.set_cons_succ]
              refine rg_take (fuel := 13) 8 rfl (by kernel_rfl) (listed' := #[true, true, true, true, false, true, true, true, true, false, false, false, false, false, false, false, false, false, false, false, false]) (by kernel_rfl) (fun _ _ _ h => h) (by kernel_rfl) (fun w' hR => by obtain ⟨x1, x2⟩ := HF.out w' (HCUR.out.trans hR); go_simp; first | done | with_reducible rfl) rfl ?_
              try simp only [Act.put, List.setIfInBounds_toArray, List.set_cons_zero, List.set_cons_succ]
              refine rg_step (fuel := 12) 4 rfl (by kernel_rfl) (listed' := #[true, true, true, true, true, true, true, true, true, false, false, false, false, false, false, false, false, false, false, false, false]) (by kernel_rfl) (by kernel_rfl) (fun K' hK => ?_)
              go_wp2_with (first | (go_at_call 27; refine (code_calls g b l2 c2 _ (HX1.out.move (w' := wc.drew) rfl rfl)).mono ?_; rintro e w6 ⟨rfl, rfl⟩))
              refine hK.out _ _ (Fut.refl _) ?_
              clear hK K'
              try simp only [Act.put, List.setIfInBounds_toArray, List.set_cons_zero, List.set_cons_succ]
              refine rg_take (fuel := 11) 9 rfl (by kernel_rfl) (listed' := #[true, true, true, true, true, true, true, true, true, true, false, false, false, false, false, false, false, false, false, false, false]) (by kernel_rfl) (fun _ _ _ h => h) (by kernel_rfl) (fun w' hR => by obtain ⟨x1, x2⟩ := HF.out w' (HCUR.out.trans hR); go_simp; first | done | with_reducible rfl) rfl ?_
              try simp only [Act.put, List.setIfInBounds_toArray, List.set_cons_zero, List.set_cons_succ]
              refine rg_take (fuel := 10) 10 rfl (by kernel_rfl) (listed' := #[true, true, true, true, true, true, true, true, true, true, true, false, false, false, false, false, false, false, false, false, false]) (by kernel_rfl) (fun _ _ _ h => h) (by kernel_rfl) (fun w' hR => by obtain ⟨x1, x2⟩ := HF.out w' (HCUR.out.trans hR); go_simp; first | done | with_reducible rfl) rfl ?_
              try simp only [Act.put, List.setIfInBounds_toArray, List.set_cons_zero, List.set_cons_succ]
              refine rg_take (fuel := 9) 11 rfl (by kernel_rfl) (listed' := #[true, true, true, true, true, true, true, true, true, true, true, true, false, false, false, false, false, false, false, false, false]) (by kernel_rfl) (fun _ _ _ h => h) (by kernel_rfl) (fun w' hR => by obtain ⟨x1, x2⟩ := HF.out w' (HCUR.out.trans hR); go_simp; first | done | with_reducible rfl) rfl ?_
              try simp only [Act.put, List.setIfInBounds_toArray, List.set_cons_zero, List.set_cons_succ]
              refine rg_take (fuel := 8) 12 rfl (by kernel_rfl) (listed' := #[true, true, true, true, true, true, true, true, true, true, true, true, true, false, false, false, false, false, false, false, false]) (by kernel_rfl) (fun _ _ _ h => h) (by kernel_rfl) (fun w' hR => by obtain ⟨x1, x2⟩ := HF.out w' (HCUR.out.trans hR); go_simp; first | done | with_reducible rfl) rfl ?_
              try simp only [Act.put, List.setIfInBounds_toArray, List.set_cons_zero, List.set_cons_succ]
              refine rg_take (fuel := 7) 14 rfl (by kernel_rfl) (listed' := #[true, true, true, true, true, true, true, true, true, true, true, true, true, false, true, false, false, false, false, false, false]) (by kernel_rfl) (fun _ _ _ h => h) (by kernel_rfl) (fun w' hR => by obtain ⟨x1, x2⟩ := HF.out w' (HCUR.out.trans hR); go_simp; first | done | with_reducible rfl) rfl ?_
              try simp only [Act.put, List.setIfInBounds_toArray, List.set_cons_zero, List.set_cons_succ]
              refine rg_take (fuel := 6) 15 rfl (by kernel_rfl) (listed' := #[true, true, true, true, true, true, true, true, true, true, true, true, true, false, true, true, false, false, false, false, false]) (by kernel_rfl) (fun _ _ _ h => h) (by kernel_rfl) (fun w' hR => by obtain ⟨x1, x2⟩ := HF.out w' (HCUR.out.trans hR); go_simp; first | done | with_reducible rfl) rfl ?_
              try simp only [Act.put, List.setIfInBounds_toArray, List.set_cons_zero, List.set_cons_succ]
              refine rg_take (fuel := 5) 16 rfl (by kernel_rfl) (listed' := #[true, true, true, true, true, true, true, true, true, true, true, true, true, false, true, true, true, false, false, false, false]) (by kernel_rfl) (fun _ _ _ h => h) (by kernel_rfl) (fun w' hR => by obtain ⟨x1, x2⟩ := HF.out w' (HCUR.out.trans hR); go_simp; first | done | with_reducible rfl) rfl ?_
              try simp only [Act.put, List.setIfInBounds_toArray, List.set_cons_zero, List.set_cons_succ]
              refine rg_take (fuel := 4) 17 rfl (by kernel_rfl) (listed' := #[true, true, true, true, true, true, true, true, true, true, true, true, true, false, true, true, true, true, false, false, false]) (by kernel_rfl) (fun _ _ _ h => h) (by kernel_rfl) (fun w' hR => by obtain ⟨x1, x2⟩ := HF.out w' (HCUR.out.trans hR); go_simp; first | done | with_reducible rfl) rfl ?_
              try simp only [Act.put, List.setIfInBounds_toArray, List.set_cons_zero, List.set_cons_succ]
              refine rg_take (fuel := 3) 18 rfl (by kernel_rfl) (listed' := #[true, true, true, true, true, true, true, true, true, true, true, true, true, false, true, true, true, true, true, false, false]) (by kernel_rfl) (fun _ _ _ h => h) (by kernel_rfl) (fun w' hR => by obtain ⟨x1, x2⟩ := HF.out w' (HCUR.out.trans hR); go_simp; first | done | with_reducible rfl) rfl ?_
              try simp only [Act.put, List.setIfInBounds_toArray, List.set_cons_zero, List.set_cons_succ]
              refine rg_step (fuel := 2) 13 rfl (by kernel_rfl) (listed' := #[true, true, true, true, true, true, true, true, true, true, true, true, true, true, true, true, true, true, true, false, false]) (by kernel_rfl) (by kernel_rfl) (fun K' hK => ?_)
              go_wp2_with (first | (go_at_call 28; refine (left_calls g b l2 c2 _ (HX1.out.move (w' := wc.drew) rfl rfl)).mono ?_; rintro e w6 ⟨rfl, rfl⟩))
              refine hK.out _ _ (Fut.refl _) ?_
              clear hK K'
              try simp only [Act.put, List.setIfInBounds_toArray, List.set_cons_zero, List.set_cons_succ]
              refine rg_take (fuel := 1) 19 rfl (by kernel_rfl) (listed' := #[true, true, true, true, true, true, true, true, true, true, true, true, true, true, true, true, true, true, true, true, false]) (by kernel_rfl) (fun _ _ _ h => h) (by kernel_rfl) (fun w' hR => by obtain ⟨x1, x2⟩ := HF.out w' (HCUR.out.trans hR); go_simp; first | done | with_reducible rfl) rfl ?_
              try simp only [Act.put, List.setIfInBounds_toArray, List.set_cons_zero, List.set_cons_succ]
              refine rg_take (fuel := 0) 20 rfl (by kernel_rfl) (listed' := #[true, true, true, true, true, true, true, true, true, true, true, true, true, true, true, true, true, true, true, true, true]) (by kernel_rfl) (fun _ _ _ h => h) (by kernel_rfl) (fun w' hR => by obtain ⟨x1, x2⟩ := HF.out w' (HCUR.out.trans hR); go_simp; first | done | with_reducible rfl) rfl ?_
              try simp only [Act.put, List.setIfInBounds_toArray, List.set_cons_zero, List.set_cons_succ]
              refine rg_done (by kernel_rfl) ?_
              go_wp2
              go_roundw
              case rel => exact ⟨k + 1, l2, c2, by omega, by go_num, ⟨HX1.out.move (w' := wc.drew) rfl rfl⟩, ⟨HX2.out.move (w' := wc.drew) rfl rfl⟩, HLB2, ⟨HXB.out.drew⟩, HXS⟩
              case measure => simp [intOf]; omega
        · have hge : m.length ≤ k := by omega
          clear hlt hk
          go_wp2
          go_ret
          exact ⟨rfl, HB.out⟩
theorem opens_u8s : Opens Try.prog 22 (Kd.slice 5 kU8) (fun l => (∀ v ∈ l, (Lit.int .u8 v).wf = true) ∧ l.length ≤ 9223372036854775807) := opens_slice Try.underlying22 (by kernel_rfl) (opens_int Try.underlying5)
theorem opens_act : Opens Try.prog 46 kAct ActOk :=
  opens_mono (opens_struct Try.underlying46 (by kernel_rfl) (opens_cons rfl (by kernel_rfl) (opens_int Try.underlying5) (opens_cons rfl (by kernel_rfl) (opens_int Try.underlying3) (opens_last rfl (by kernel_rfl) (opens_int Try.underlying5))))) (fun p h => ⟨wf_u8 h.1, wf_i64 h.2.1, wf_u8 h.2.2⟩)
theorem opens_acts : Opens Try.prog 41 (Kd.slice 46 kAct) (fun l => (∀ v ∈ l, ActOk v) ∧ l.length ≤ 9223372036854775807) := opens_slice Try.underlying41 (by kernel_rfl) opens_act
theorem walk2 (w : World) (A : Option Addr) (c : Nat) (l : List Int) (hC : kU8.C w A l.length l) (hcap : l.length ≤ c) (hok : (∀ x ∈ l, (Lit.int .u8 x).wf = true) ∧ l.length ≤ 9223372036854775807) (hAlt : ∀ a, A = some a → a.block < w.heap.size)
    (A' : Option Addr) (c' : Nat) (m : List (Int × Int × Int)) (hC' : kAct.C w A' m.length m) (hcap' : m.length ≤ c') (hok' : (∀ p ∈ m, ActOk p) ∧ m.length ≤ 9223372036854775807) (_ : ∀ a, A' = some a → a.block < w.heap.size) :
    Calls Try.prog 8 #[.slice A l.length c, .slice A' m.length c'] w fun e w' => e = .returned (.bool true) ∧ Below w.heap.size w w' :=
  walk w A c l hC hcap hok.1 hAlt A' c' m hC' hcap' hok'.1 hok'.2
theorem own : ownKnob Try.prog.godebug = none := by kernel_rfl
theorem laidOut : laidOutB Try.prog = true := by kernel_rfl
def IsRow (k : IntKind) (w : World) (a : Option Addr) (len cap : Nat) (zs : List Int) : Prop :=
  (a = none ∧ len = 0 ∧ cap = 0 ∧ zs = []) ∨
  ∃ x, a = some x ∧ len ≤ cap ∧ cap ≤ maxLen ∧ zs.length = cap ∧ (∀ i, i < zs.length → w.cell? (x.add i) = some (.int k (zs.getD i 0))) ∧ ∀ n ∈ zs, (Lit.int k n).wf = true
set_option maxRecDepth 100000 in
theorem lifted (os : Os) (started : os.Started) (H : Type) (enc : TypeId × Value → H) :
    ReturnsInHanded {} Try.checked os 8 .any (Rows.lebReadsSpec.pre6 enc Try.prog Try.f8 Rows.lebReadsRow.domain false) (Rows.lebReadsSpec.post enc Try.prog Try.f8 false true false false) := by
  refine returnsInHanded_of_change_sized (C := Try.checked) own started (by kernel_rfl) Try.func8
    (ChangeSpec.witness6 (enc := enc) (C := Try.checked) false ⟨#[], #[.slice none 0 0, .slice none 0 0], []⟩ 8 (by kernel_rfl) (by kernel_rfl) (by kernel_rfl) (by kernel_rfl)) ?_
  intro W base args ds gs before hval0 hW hcnd hsz0 _
  have hsz : (DataW.weightsEach Try.prog (Try.f8.params.toList ++ Rows.lebReadsSpec.plain.varTypes Try.prog) (ds ++ gs)).all (· ≤ reachBytes) = true := hsz0
  have hval : ∀ (j : Nat) t v, Try.f8.params[j]? = some t → args[j]? = some v → Value.okWide Try.prog W .any base t v := hval0
  have hW' := hW
  obtain ⟨p, q, hA0, hV, rfl, hfz, hnd⟩ := hW
  have hA : DataW.TrodAll enc Try.prog W 0 (fun _ => true) true Try.f8.params.toList args.toList ds p := hA0
  rw [Try.params8] at hA hval hsz
  obtain ⟨v0, vs0, d0, ds0, p0, q0, hargs, rfl, rfl, h0, r0⟩ := trodAll_cons hA
  obtain ⟨v1, vs1, d1, ds1, p1, q1, rfl, rfl, rfl, h1, r1⟩ := trodAll_cons r0
  obtain ⟨rfl, rfl, rfl⟩ := trodAll_nil r1
  obtain rfl : args = #[v0, v1] := by cases args; simp_all
  obtain ⟨rfl, rfl⟩ := trodVars_none hV
  obtain ⟨a0, len0, cap0, rfl⟩ := okWide_slice Try.underlying22 (hval 0 22 v0 rfl rfl)
  have k0 := h0
  have alt0 := okWide_alt Try.underlying22 (hval 0 22 _ rfl rfl)
  have lt0 : ∀ x ∈ p0, x.block < W.heap.size := by obtain ⟨m, hm⟩ := k0; exact DataW.trod_lt m _ _ _ hm
  obtain ⟨l0, rfl, hcap0, hC0, hok0⟩ := opens_arg opens_u8s h0
  obtain ⟨a1, len1, cap1, rfl⟩ := okWide_slice Try.underlying41 (hval 1 41 v1 rfl rfl)
  have k1 := h1
  have alt1 := okWide_alt Try.underlying41 (hval 1 41 _ rfl rfl)
  have lt1 : ∀ x ∈ p1, x.block < W.heap.size := by obtain ⟨m, hm⟩ := k1; exact DataW.trod_lt m _ _ _ hm
  obtain ⟨l1, rfl, hcap1, hC1, hok1⟩ := opens_arg opens_acts h1
  clear hA0 hval0 hsz0 hsz
  refine (walk2 W _ _ l0 hC0 hcap0 hok0 alt0 _ _ l1 hC1 hcap1 hok1 alt1).mono fun e W' ⟨he, bel⟩ => ?_
  subst he
  exact ⟨_, rfl, _, _, _, [], _, [], hW', trodAll_mk1 (shut_bool Try.underlying4 _), (trodAll_cons_mk (Below.trod laidOut (by kernel_rfl) (of_decide_eq_true (by kernel_rfl)) k0 bel lt0) (trodAll_cons_mk (Below.trod laidOut (by kernel_rfl) (of_decide_eq_true (by kernel_rfl)) k1 bel lt1) trodAll_mk0)), rfl, bel.frame _, fun h => by cases h⟩
theorem over : Rows.lebReadsRow.holds Try.pinned (OpenSpec.ofChange Rows.lebReadsSpec) :=
  OpenClaim.holds_of_wide 8 Try.f8 rfl rfl rfl rfl rfl rfl rfl ⟨rfl, rfl, rfl, rfl, rfl⟩ rfl rfl rfl rfl rfl (by kernel_rfl) Try.func8 (by kernel_rfl)
    (of_decide_eq_true (by kernel_rfl)) (by unfold Func.isWrapper; first | (rw [if_pos (by decide +kernel)]; kernel_rfl) | (rw [if_neg (by decide +kernel)]; exact ⟨rfl, rfl⟩))
    (fun os started H enc _ => lifted os started H enc)
end Go.Proofs.Ytddocpienaoldaa.LebReads
namespace Go.Proofs.Ytddocpienaoldaa
/-- The statement. -/
theorem lebReads_holds : Rows.LebReadsSaid := LebReads.over
#print axioms lebReads_holds
end Go.Proofs.Ytddocpienaoldaa
