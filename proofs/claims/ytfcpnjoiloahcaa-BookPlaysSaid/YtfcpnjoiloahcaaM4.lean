/- Contracts and plain facts that the statements' proofs use (part 4). -/
import Derived.Test.YtfcpnjoiloahcaaM3
import Derived.OwnWalk
namespace Go.Proofs.Ytfcpnjoiloahcaa.Mk
open Go.RowKit Go.Proofs.YtfcpnjoiloahcaaW.PrintWords Go.Proofs.YtfcpnjoiloahcaaW.PrintLast Go.Proofs.YtfcpnjoiloahcaaW.PrintMore Go.Proofs.Ytfcpnjoiloahcaa.B Go.Proofs.Ytfcpnjoiloahcaa.Ta Go.Proofs.Ytfcpnjoiloahcaa.Fs Go.Proofs.Ytfcpnjoiloahcaa.Sp Go.Proofs.Ytfcpnjoiloahcaa.Ls Go.Proofs.Ytfcpnjoiloahcaa.Gs Go.Proofs.Ytfcpnjoiloahcaa.S Go.Proofs.Ytfcpnjoiloahcaa.R Go.Proofs.Ytfcpnjoiloahcaa.Bk
set_option linter.unusedVariables false
set_option linter.unusedSimpArgs false
def jobsTo (is : Nat → Bool) : Nat → List Int
  | 0 => []
  | k + 1 => if is k then jobsTo is k ++ [(k : Int)] else jobsTo is k
theorem jobsTo_len (is : Nat → Bool) : ∀ k, (jobsTo is k).length ≤ k
  | 0 => Nat.le_refl _
  | k + 1 => by
    have := jobsTo_len is k
    unfold jobsTo
    split
    · rw [List.length_append, List.length_singleton]; omega
    · omega
theorem jobsTo_mem {is : Nat → Bool} : ∀ {k : Nat} {x : Int}, x ∈ jobsTo is k ↔ ∃ i : Nat, i < k ∧ is i = true ∧ x = i
  | 0, x => by simp [jobsTo]
  | k + 1, x => by
    unfold jobsTo
    constructor
    · intro h
      split at h
      · rename_i hk
        rcases List.mem_append.1 h with h | h
        · obtain ⟨i, h1, h2, h3⟩ := jobsTo_mem.1 h
          exact ⟨i, by omega, h2, h3⟩
        · rw [List.mem_singleton] at h
          exact ⟨k, by omega, hk, h⟩
      · obtain ⟨i, h1, h2, h3⟩ := jobsTo_mem.1 h
        exact ⟨i, by omega, h2, h3⟩
    · rintro ⟨i, h1, h2, h3⟩
      split
      · by_cases e : i = k
        · subst e; rw [h3]; simp
        · exact List.mem_append_left _ (jobsTo_mem.2 ⟨i, by omega, h2, h3⟩)
      · rename_i hk
        by_cases e : i = k
        · subst e; exact absurd h2 hk
        · exact jobsTo_mem.2 ⟨i, by omega, h2, h3⟩
theorem jobsTo_inc {is : Nat → Bool} : ∀ {k : Nat}, Inc (jobsTo is k)
  | 0 => List.Pairwise.nil
  | k + 1 => by
    unfold jobsTo
    split
    · refine List.pairwise_append.2 ⟨jobsTo_inc, by simp, fun a ha b hb => ?_⟩
      obtain ⟨i, h1, h2, h3⟩ := jobsTo_mem.1 ha
      rw [List.mem_singleton] at hb
      omega
    · exact jobsTo_inc
theorem jobs_keys {t : Tab} (h : TOk t) : jobsTo (isT t) 16 = keysT t := inc_ext jobsTo_inc h.inc fun x => by
  rw [jobsTo_mem]
  constructor
  · rintro ⟨i, h1, h2, h3⟩
    rw [h3]
    exact (get_mem _ _).1 h2
  · intro hx
    have := h.key x hx
    refine ⟨x.toNat, by omega, ?_, by omega⟩
    unfold isT
    rw [Int.toNat_of_nonneg this.1]
    exact (get_mem _ _).2 hx
section
variable {W0 w w' w1 : World} {N own : Nat → Prop} {R : Assn} {g gB gF : Nat} {room size : Int} {is : Nat → Bool} {dat : Nat → List Int} {s s' : List Int} {q : List (Int × List Int)} {t t' : Tab}
set_option maxHeartbeats 2000000 in
set_option maxRecDepth 100000 in
theorem mjobs (hW : AtP W0 N w (Star (MBA g gF size is dat) R)) (hR : Firm R) (l : List Int) (n : Nat) (hl : jobsTo is 16 = l) (hn : l.length = n) :
    Calls Try.prog 51 #[.pointer (some ⟨g, 0, none⟩)] w fun e w' => ∃ A c, e = .returned (.slice A n c) ∧ kI.C w' A n l ∧ n ≤ c ∧ Below w.heap.size w w' := by
  have H := Aside0.mk hW
  have HLN := Aside0.mk (And.intro hl hn)
  have HR0 := Aside0.mk (Kd.R_nil kI 3 w w.heap.size (fun _ => True))
  have HB0 := Aside0.mk (Below.refl w.heap.size w)
  clear hW hl hn
  go_enter Try.func51, Try.ntmps51
  go_wp2_with fail
  go_loopw [3, 4] (fun vo vi wr => ∃ k : Nat, k ≤ 16 ∧ vi = .int .i64 k ∧ Aside0 (kI.R 3 wr w.heap.size (fun _ => True) vo (jobsTo is k)) ∧ Aside0 (Below w.heap.size w wr)) (fun _ vi _ => 16 - (intOf vi).toNat)
  case atStart => exact ⟨0, by omega, rfl, HR0, HB0⟩
  case round =>
    clear HR0 HB0
    obtain ⟨k, hk, rfl, HR, HB⟩ := hrel
    obtain ⟨Ao, co, rfl, hco⟩ := Kd.R_reads HR.out
    have hjl := jobsTo_len is k
    obtain ⟨lo, hlo⟩ : ∃ lo, jobsTo is k = lo := ⟨_, rfl⟩
    rw [hlo] at HR hjl
    rw [hlo]
    have HLO := Aside0.mk hlo
    clear hco hlo
    by_cases hlt : k < 16
    · have x0 := (mb_cells (H.out.below (MBA.firm.star hR) HB.out)).2.2.2.1 k hlt
      cases hik : is k with
      | true =>
        rw [hik] at x0
        have HIK := Aside0.mk hik
        clear hik
        go_wp2_with (first | ((with_reducible refine gate_builtin (b := .append) (xs := #[.tmp 15, .tmp 17]) rfl ?_); at_builtin; refine Kd.R_append kI (w0 := w) w.heap.size rfl (.tmp 15) (.tmp 17) 23 3 (.int .i64 0) 8 rfl Try.underlying23 insI_info rfl (by decide) (by omega) (.slice Ao lo.length co) lo (k : Int) [.int .i64 (k : Int)] (fun _ => True) (fun _ => False) rfl rfl ?aP (fun _ hk => hk.elim) ?aF ?aO ?aB ?aS ?aL ?_; (case aP => exact rfl); (case aB => exact HB.out); (case aF => exact (fun _ _ => trivial)); (case aO => exact HR.out); (case aS => (exact HB.out.size)); (case aL => omega); (intro v3 w3 ho3 hb3 hg hat; have HO3 := Aside0.mk ho3; have HB3 := Aside0.mk hb3; clear ho3 hb3 hg hat)))
        go_roundw
        case rel => exact ⟨k + 1, by omega, by go_num, ⟨by rw [jobsTo, if_pos HIK.out, HLO.out]; exact HO3.out⟩, HB3⟩
        case measure => simp [intOf]; omega
      | false =>
        rw [hik] at x0
        have HIK := Aside0.mk hik
        clear hik
        go_wp2_with fail
        go_roundw
        case rel => exact ⟨k + 1, by omega, by go_num, ⟨by rw [jobsTo, if_neg (by rw [HIK.out]; decide), HLO.out]; exact HR.out⟩, HB⟩
        case measure => simp [intOf]; omega
    · have hke : k = 16 := by omega
      subst hke
      go_wp2_with fail
      go_ret
      obtain ⟨A2, c2, e2, hl2, hC2⟩ := Kd.R_reads HR.out
      injection e2 with e2 e3 e4
      subst e2 e4
      have e5 : l = lo := HLN.out.1.symm.trans HLO.out
      have e6 : lo.length = n := by rw [← e5]; exact HLN.out.2
      rw [e6] at hl2 hC2
      rw [e6, e5]
      exact ⟨_, _, rfl, hC2, hl2, HB.out⟩
set_option maxHeartbeats 2000000 in
set_option maxRecDepth 100000 in
/-- Begin: what it tells, and what waits. -/
theorem mbegin (h : AtP W0 N w (Star (BookM gB gF room s [] t) R)) (hR : Firm R) (htk : TOk t) (j : Int) (hj0 : -9223372036854775808 ≤ j) (hj1 : j ≤ 9223372036854775807) (A : Option Addr) (n c : Nat) (b : List Int) (hn : b.length = n) (hC : kU8.C w A n b) (hby : By b) (hl : n ≤ 60000) (r : Int) (hr : layR room s t j b = r) :
    Calls Try.prog 20 #[.pointer (some ⟨gB, 0, none⟩), .int .i64 j, .slice A n c] w fun e w' => e = .returned (.int .i64 r) ∧ AtP W0 N w' (Star (BookM gB gF room s (layQ room s t j b) t) R) := by
  have HX := Aside0.mk h
  have H := Aside0.mk h.first
  have hRF : Firm (Star (FileM gF room s []) R) := FileM.firm.star hR
  have hRT : ∀ z, Firm (Star (TabM gB gF z t) R) := fun z => MBA.firm.star hR
  clear h
  by_cases h0 : j < 0 ∨ 16 ≤ j
  · have hr2 : r = 2 := by rw [← hr, layR, if_pos h0]
    have HQ := Aside0.mk (show layQ room s t j b = [] by rw [layQ, if_neg (by rw [hr, hr2]; decide)])
    subst hr2
    clear hC hr
    have h0' : j < 0 ∨ 0 ≤ j ∧ 15 < j := by omega
    rcases h0' with h0 | ⟨h0, h1⟩
    all_goals
      go_enter Try.func20, Try.ntmps20
      go_wp2_with fail
      go_ret
      rw [HQ.out]
      exact ⟨rfl, HX.out⟩
  obtain ⟨p, rfl⟩ : ∃ p : Nat, j = p := ⟨j.toNat, by omega⟩
  have hp16 : p < 16 := by omega
  have x0 := (mb_cells H.out).2.2.2.1 p hp16
  cases hg : (getT t p).isSome with
  | true =>
    have hr2 : r = 51 := by rw [← hr, layR, if_neg h0, if_pos hg]
    have HQ := Aside0.mk (show layQ room s t p b = [] by rw [layQ, if_neg (by rw [hr, hr2]; decide)])
    subst hr2
    rw [show isT t p = true from hg] at x0
    clear hC hr hg h0
    go_enter Try.func20, Try.ntmps20
    go_wp2_with fail
    go_ret
    rw [HQ.out]
    exact ⟨rfl, HX.out⟩
  | false =>
    rw [show isT t p = false from hg] at x0
    subst hn
    obtain ⟨rc, hrc⟩ : ∃ rc, recL p b = rc := ⟨_, rfl⟩
    obtain ⟨m, hm⟩ : ∃ m, rc.length = m := ⟨_, rfl⟩
    have hwe : wErr room (over [] s).length (s.length : Int) m = r := by
      rw [← hr, layR, if_neg h0, if_neg (by rw [hg]; decide), hrc, hm]
      show (if (s.length : Int) < 0 ∨ (s.length : Int) < s.length then (2 : Int) else if room < s.length + m then 50 else 0) = _
      rw [if_neg (by omega)]
    have hq : wrQ room s [] (s.length : Int) rc = layQ room s t p b := by
      rw [wrQ, layQ, hm, hwe, hr, hrc]
      rfl
    have hpb : By ((p : Int) :: b) := fun x hx => by
      rcases List.mem_cons.1 hx with rfl | hx
      · omega
      · exact hby x hx
    have hrby : By rc := by rw [← hrc]; exact lay_by (by decide) hpb
    have hsl : (s.length : Int) ≤ 4194304 := by
      have h1 := mok H.out.swap.first
      have := h1.s0; have := h1.r1; omega
    have hml : m ≤ 60020 := by rw [← hm, ← hrc]; have := rec_len p b; omega
    have HQ := Aside0.mk hq
    have HWE := Aside0.mk hwe
    have HM := Aside0.mk hm
    have HRB := Aside0.mk hrby
    have HPB := Aside0.mk hpb
    have HRC := Aside0.mk (show layL 1 ((p : Int) :: b) = rc from hrc)
    have HC := Aside0.mk hC
    have HP := Aside0.mk (put_one (j := (p : Int)) (by omega) (by omega))
    obtain ⟨n1, hn1⟩ : ∃ n1, ((p : Int) :: b).length = n1 := ⟨_, rfl⟩
    have hn1b : n1 ≤ 60001 := by rw [← hn1]; simp; omega
    have HL := Aside0.mk hn1
    have d1 : decide ((65536 : Int) < (n1 : Int)) = false := decide_eq_false (by omega)
    clear hn1
    have y1 := wrU64 (p : Int) (by omega) (by omega)
    have mixed : Try.prog.follows .mixedOrders = true := by kernel_rfl
    clear hC hg hq hr hwe hrby hrc hm hby hpb h0
    go_enter Try.func20, Try.ntmps20
    go_wp2_with (first
      | (go_at_call 29; refine (Lr.put_calls none 0 [] (p : Int) _ (C_nil .u8 w) (by simp) (by omega) (by omega)).mono ?_; rintro e w1 ⟨v1, rfl, ho1, hb1⟩; rw [HP.out, List.nil_append] at ho1; have HO1 := Aside0.mk ho1; have HB1 := Aside0.mk hb1; clear ho1 hb1)
      | ((with_reducible refine gate_builtin (b := .append) (xs := #[.tmp 22, .tmp 23]) rfl ?_); at_builtin; refine Kd.R_append_rows (Kd.int .u8) (w0 := w) w.heap.size rfl (.tmp 22) (.tmp 23) 24 5 (.int .u8 0) 1 rfl Try.underlying24 infoU8 rfl (by decide) (by omega) v1 [(p : Int)] b _ _ _ (fun _ => True) (fun _ => False) rfl rfl ?aO ?aR (fun _ _ h => h) (fun _ h => h.elim) ?aF ?aB ?aS ?aL ?_; (case aR => exact (Kd.C_below HC.out HB1.out)); (case aB => exact HB1.out); (case aF => exact (fun _ _ => trivial)); (case aO => exact HO1.out); (case aS => (exact HB1.out.size)); (case aL => (simp only [List.length_cons, List.length_nil]; omega)); (intro v3 w3 ho3 hb3 hg hat; rw [List.singleton_append] at ho3; obtain ⟨A3, c3, rfl, hl3, hC3⟩ := Kd.R_reads ho3; rw [HL.out] at hl3 hC3; (try rw [HL.out]); have HL3 := Aside0.mk hl3; have HC3 := Aside0.mk hC3; have H3 := Aside0.mk (H.out.below (MBA.firm.star hRF) hb3); clear ho3 hb3 hg hat hl3 hC3)))
    clear x0
    have HF := Aside0.mk (fun (W : World) (hW : Keep (fun _ => False) w3.drew W) => mb_cells ((H3.out.drew (MBA.firm.star hRF)).below (MBA.firm.star hRF) (hW.below (Nat.le_refl _) (fun _ _ => id))))
    refine re_start [10] (fun _ => False) (by kernel_rfl) (n := 12) (l := #[false, false, false, false, false, false, false, false, false, false, false, false]) (by kernel_rfl) (by kernel_rfl) ?_
    refine re_take (fuel := 11) 0 rfl (by kernel_rfl) (listed' := #[true, false, false, false, false, false, false, false, false, false, false, false]) (by kernel_rfl) (fun _ _ _ h => h) (by kernel_rfl) (fun w' hR => by go_simp; first | done | with_reducible rfl) rfl ?_
    try simp only [Act.put, List.setIfInBounds_toArray, List.set_cons_zero, List.set_cons_succ]
    refine re_take (fuel := 10) 1 rfl (by kernel_rfl) (listed' := #[true, true, false, false, false, false, false, false, false, false, false, false]) (by kernel_rfl) (fun _ _ _ h => h) (by kernel_rfl) (fun w' hR => by go_simp; first | done | with_reducible rfl) rfl ?_
    try simp only [Act.put, List.setIfInBounds_toArray, List.set_cons_zero, List.set_cons_succ]
    refine re_take (fuel := 9) 2 rfl (by kernel_rfl) (listed' := #[true, true, true, false, false, false, false, false, false, false, false, false]) (by kernel_rfl) (fun _ _ _ h => h) (by kernel_rfl) (fun w' hR => by go_simp; first | done | with_reducible rfl) rfl ?_
    try simp only [Act.put, List.setIfInBounds_toArray, List.set_cons_zero, List.set_cons_succ]
    refine re_take (fuel := 8) 3 rfl (by kernel_rfl) (listed' := #[true, true, true, true, false, false, false, false, false, false, false, false]) (by kernel_rfl) (fun _ _ _ h => h) (by kernel_rfl) (fun w' hR => by have x0 := (HF.out w' hR).1; go_simp; first | done | with_reducible rfl) rfl ?_
    try simp only [Act.put, List.setIfInBounds_toArray, List.set_cons_zero, List.set_cons_succ]
    refine re_take (fuel := 7) 4 rfl (by kernel_rfl) (listed' := #[true, true, true, true, true, false, false, false, false, false, false, false]) (by kernel_rfl) (fun _ _ _ h => h) (by kernel_rfl) (fun w' hR => by go_simp; first | done | with_reducible rfl) rfl ?_
    try simp only [Act.put, List.setIfInBounds_toArray, List.set_cons_zero, List.set_cons_succ]
    refine re_take (fuel := 6) 5 rfl (by kernel_rfl) (listed' := #[true, true, true, true, true, true, false, false, false, false, false, false]) (by kernel_rfl) (fun _ _ _ h => h) (by kernel_rfl) (fun w' hR => by go_simp; first | done | with_reducible rfl) rfl ?_
    try simp only [Act.put, List.setIfInBounds_toArray, List.set_cons_zero, List.set_cons_succ]
    refine re_take (fuel := 5) 6 rfl (by kernel_rfl) (listed' := #[true, true, true, true, true, true, true, false, false, false, false, false]) (by kernel_rfl) (fun _ _ _ h => h) (by kernel_rfl) (fun w' hR => by go_simp; first | done | with_reducible rfl) rfl ?_
    try simp only [Act.put, List.setIfInBounds_toArray, List.set_cons_zero, List.set_cons_succ]
    refine re_take (fuel := 4) 7 rfl (by kernel_rfl) (listed' := #[true, true, true, true, true, true, true, true, false, false, false, false]) (by kernel_rfl) (fun _ _ _ h => h) (by kernel_rfl) (fun w' hR => by have x0 := (HF.out w' hR).2.1; go_simp; first | done | with_reducible rfl) rfl ?_
    try simp only [Act.put, List.setIfInBounds_toArray, List.set_cons_zero, List.set_cons_succ]
    refine re_take (fuel := 3) 8 rfl (by kernel_rfl) (listed' := #[true, true, true, true, true, true, true, true, true, false, false, false]) (by kernel_rfl) (fun _ _ _ h => h) (by kernel_rfl) (fun w' hR => by go_simp; first | done | with_reducible rfl) rfl ?_
    try simp only [Act.put, List.setIfInBounds_toArray, List.set_cons_zero, List.set_cons_succ]
    refine re_step (fuel := 2) 9 rfl (by kernel_rfl) (listed' := #[true, true, true, true, true, true, true, true, true, true, false, false]) (by kernel_rfl) (by kernel_rfl) (fun K' hK => ?_)
    go_wp2_with (first | (go_at_call 11; refine (Gc.rlay_n 1 (by decide) (by decide) A3 c3 ((p : Int) :: b) n1 HL.out rc m HRC.out HM.out _ (Kd.C_drew HC3.out) HPB.out (by omega)).mono ?_; rintro e w4 ⟨A4, c4, rfl, -, hC4, -, hb4⟩; have HC4 := Aside0.mk hC4; have HB4 := Aside0.mk hb4; clear hC4 hb4))
    refine hK.out _ _ (Keep.of_below HB4.out) ?_
    clear hK K'
    try simp only [Act.put, List.setIfInBounds_toArray, List.set_cons_zero, List.set_cons_succ]
    refine re_free (fuel := 1) 10 rfl (by kernel_rfl) (listed' := #[true, true, true, true, true, true, true, true, true, true, true, false]) (by kernel_rfl) (by kernel_rfl) (fun K' hK => ?_)
    go_wp2_with (first | (go_at_call 46; refine (m_write (w1 := w3.drew) (H3.out.drew (MBA.firm.star hRF)).unfirst.second HB4.out (hRT _) (by decide) s.length (by omega) (by omega) A4 m c4 rc HM.out (by omega) HC4.out HRB.out r HWE.out).mono ?_; rintro e w5 ⟨rfl, h5⟩; rw [HQ.out] at h5; have H5 := Aside0.mk h5.unsecond; clear h5))
    refine hK.out _ _ trivial ?_
    clear hK K'
    try simp only [Act.put, List.setIfInBounds_toArray, List.set_cons_zero, List.set_cons_succ]
    refine re_any (fuel := 0) 11 rfl (by kernel_rfl) (listed' := #[true, true, true, true, true, true, true, true, true, true, true, true]) (by kernel_rfl) (fun _ _ _ h => h) (by kernel_rfl) (fun w' => by skip; go_simp; first | done | with_reducible rfl) rfl ?_
    try simp only [Act.put, List.setIfInBounds_toArray, List.set_cons_zero, List.set_cons_succ]
    refine re_done (by kernel_rfl) ?_
    go_wp2
    go_ret
    exact ⟨rfl, H5.out⟩
/-- append([]byte{}, x...). -/
theorem run_copy_lit (W : World) {A : Option Addr} {m c : Nat} {xs : List Int} (hC : kU8.C W A m xs) (hm : m ≤ 1000000) :
    ∃ A3 c3 w2, (Builtin.append_ #[24, 24] 24 #[.slice (some ⟨W.heap.size, 0, none⟩) 0 0, .slice A m c]).run Try.prog (W.alloc (.cells #[] 5)) = .ok (.slice A3 m c3) w2 ∧ kU8.C w2 A3 m xs ∧ m ≤ c3 ∧
      (∀ a, A3 = some a → W.heap.size ≤ a.block ∧ a.block < w2.heap.size) ∧ Below W.heap.size W w2 ∧ Keep (fun k => W.heap.size ≤ k) W (W.alloc (.cells #[] 5)) ∧ Keep (fun k => W.heap.size ≤ k) (W.alloc (.cells #[] 5)) w2 := by
  have hxm := hC.1
  obtain ⟨v2, w2, hr2, ho2, hg2, -⟩ := run_append_rows (P := Try.prog) 24 24 5 1 W.heap.size Try.underlying24 infoU8 (by decide) (.slice (some ⟨W.heap.size, 0, none⟩) 0 0) [] xs A m c (R_lit0 kU8 5 W) (Kd.C_alloc hC (.cells #[] 5)) (by simp) (by simp; omega)
  rw [List.nil_append] at ho2
  obtain ⟨A3, c3, rfl, hl3, hC3⟩ := Kd.R_reads ho2
  rw [hxm] at hr2 ho2 hl3 hC3
  have hb2 : Below W.heap.size W w2 := ((Below.refl W.heap.size W).alloc (Nat.le_refl _) (.cells #[] 5)).grown hg2 (by simp) (fun k hk => by simp only [Value.ownBlock, Option.some.injEq] at hk; omega)
  exact ⟨A3, c3, w2, hr2, hC3, hl3, fun a ha => R_at (a := a) (by rw [← ha]; exact ho2), hb2, Keep.of_below ((Below.refl _ _).alloc (Nat.le_refl _) _), ⟨hg2.os, hg2.tape, hg2.output, hg2.size, fun k hk hs => hg2.block k hk (fun e => by simp only [Value.ownBlock, Option.some.injEq] at e; exact hs (by omega))⟩⟩
set_option maxRecDepth 100000 in
theorem mcommit_no (h : AtP W0 N w (Star (BookM gB gF room s [] t) R)) (hR : Firm R) (htk : TOk t) (j : Int) (hj0 : -9223372036854775808 ≤ j) (hj1 : j ≤ 9223372036854775807) (A : Option Addr) (n c : Nat) (b : List Int) (hn : b.length = n) (hC : kU8.C w A n b) (hby : By b) (hl : n ≤ 60000) (r : Int) (hr : layR room s t j b = r) (hr0 : r ≠ 0) :
    Calls Try.prog 24 #[.pointer (some ⟨gB, 0, none⟩), .int .i64 j, .slice A n c] w fun e w' => e = .returned (.int .i64 r) ∧ AtP W0 N w' (Star (BookM gB gF room s [] t) R) := by
  have HL := Aside0.mk (mbegin h hR htk j hj0 hj1 A n c b hn hC hby hl r hr)
  have HQ := Aside0.mk (show layQ room s t j b = [] by rw [layQ, if_neg (by rw [hr]; exact hr0)])
  have hrb : (r == 0) = false := beq_eq_false_iff_ne.mpr hr0
  clear h hC hr
  go_enter Try.func24, Try.ntmps24
  go_wp2_with (first | (go_at_call 20; refine HL.out.mono ?_; rintro e w2 ⟨rfl, h2⟩; rw [HQ.out] at h2; have H2 := Aside0.mk h2; clear h2))
  go_ret
  exact ⟨rfl, H2.out⟩
set_option maxHeartbeats 2000000 in
set_option maxRecDepth 100000 in
theorem mcommit_yes (h : AtP W0 N w1 (Star (BookM gB gF room s [] t) R)) (hb : Below w1.heap.size w1 w) (hR : Firm R) (htk : TOk t) (j : Int) (hj0 : -9223372036854775808 ≤ j) (hj1 : j ≤ 9223372036854775807) (A : Option Addr) (n c : Nat) (b : List Int) (hn : b.length = n) (hC : kU8.C w A n b) (hA : ∀ a, A = some a → 0 < n → (w1.heap.size ≤ a.block ∨ ¬ N a.block ∧ a.block < W0.heap.size) ∧ a.block < w.heap.size) (hby : By b) (hl : n ≤ 60000) (hr : layR room s t j b = 0) (hs : s ++ recL j b = s') (ht : putT t j b = t') :
    Calls Try.prog 24 #[.pointer (some ⟨gB, 0, none⟩), .int .i64 j, .slice A n c] w fun e w' => e = .returned (.int .i64 0) ∧ AtP W0 N w' (Star (BookM gB gF room s' [] t') R) := by
  subst hn
  subst ht
  obtain ⟨N', hN'⟩ : ∃ N' : Nat → Prop, N' = fun k => (N k ∨ W0.heap.size ≤ k) ∧ k < w1.heap.size := ⟨_, rfl⟩
  have hAN : ∀ a, A = some a → 0 < b.length → ¬ N' a.block ∧ a.block < w.heap.size := fun a ha h0 => ⟨fun hx => by
    rw [hN'] at hx
    rcases (hA a ha h0).1 with h1 | ⟨h1, h2⟩
    · omega
    · rcases hx.1 with h3 | h3
      · exact h1 h3
      · omega, (hA a ha h0).2⟩
  have hCW : ∀ W, Keep N' w W → kU8.C W A b.length b := fun W hW => by
    rcases Nat.eq_zero_or_pos b.length with h0 | h0
    · exact ⟨rfl, hC.2.1, fun h => absurd h (by omega)⟩
    · exact C_blk hC (fun a ha => hW.block _ (hAN a ha h0).2 (hAN a ha h0).1)
  have h' : AtP w N' w (Star (BookM gB gF room s [] t) R) := by rw [hN']; exact h.rebase (BookM.firm.star hR) hb
  have HBACK := Aside0.mk (show ∀ W (P : Assn), AtP w N' W P → AtP W0 N W P from fun W P hx => hx.back (fun k hk => by rw [hN'] at hk; exact hk.1) (h.keep.trans (Keep.of_below hb)))
  have hjr : ¬ (j < 0 ∨ 16 ≤ j) ∧ (getT t j).isSome = false := by
    unfold layR at hr
    split at hr
    · omega
    · rename_i h1
      split at hr
      · omega
      · rename_i h2
        exact ⟨h1, by simpa using h2⟩
  have hg : getT t j = none := by simpa using hjr.2
  obtain ⟨p, rfl⟩ : ∃ p : Nat, j = p := ⟨j.toNat, by have := hjr.1; omega⟩
  have hp16 : p < 16 := by have := hjr.1; omega
  have hql : layQ room s t p b = [((s.length : Int), recL p b)] := if_pos hr
  have HL := Aside0.mk (mbegin h' hR htk p hj0 hj1 A b.length c b rfl hC hby hl 0 hr)
  rw [hql] at HL
  have HOV := Aside0.mk (show over [((s.length : Int), recL p b)] s = s' by
    rw [← hs]
    show laid s ((s.length : Int)).toNat (recL p b) = _
    rw [Int.toNat_natCast, laid_end])
  have HCW := Aside0.mk hCW
  have HBY := Aside0.mk hby
  have HIS := Aside0.mk (isT_put (d := b) hg)
  have HDT := Aside0.mk (datT_put (d := b) hg)
  have hRT : ∀ z is dat, Firm (Star (MBA gB gF z is dat) R) := fun z is dat => MBA.firm.star hR
  have hRF : Firm (Star (FileM gF room s' []) R) := FileM.firm.star hR
  have mixed : Try.prog.follows .mixedOrders = true := by kernel_rfl
  clear h h' hC hA hAN hCW hN' hjr hg hql hby hs hr
  go_enter Try.func24, Try.ntmps24
  go_wp2_with (first
    | (go_at_call 20; refine HL.out.mono ?_; rintro e w2 ⟨rfl, h2⟩; have x0 := (mb_cells h2.first).1; have H2 := Aside0.mk h2; clear h2 HL)
    | (go_at_call 50; refine (m_sync H2.out.second (hRT _ _ _) s' HOV.out).mono ?_; rintro e w3 ⟨rfl, h3⟩; obtain ⟨x0, x1, x2, x4, -⟩ := mb_cells h3.unsecond.first; replace x4 := x4 p hp16; obtain ⟨A9, c9, x3, -⟩ := m_safe h3; have H3 := Aside0.mk h3.unsecond; clear h3 H2))
  obtain ⟨w5, hw5⟩ : ∃ w5, w5 = (w3.setCell ⟨gB, 1, none⟩ (.int .i64 s'.length)).setCell ⟨gB, 2 + p, none⟩ (.bool true) := ⟨_, rfl⟩
  have H5 := Aside0.mk (show AtP w N' w5 (Star (MBA gB gF s'.length (upd (isT t) p true) (datT t)) (Star (FileM gF room s' []) R)) by rw [hw5]; exact mb_is (mb_size H3.out.first hRF s'.length) hRF hp16 true)
  rw [← hw5]
  clear hw5 x0 x1 x2 x3 x4 H3
  obtain ⟨A6, c6, w6, hr6, hC6, hl6, hA6, hb6, hk5, hk6⟩ := run_copy_lit w5.drew (Kd.C_drew (HCW.out _ H5.out.keep)) (show b.length ≤ 1000000 by omega)
  have H6 := Aside0.mk ((H5.out.drew (MBA.firm.star hRF)).below (MBA.firm.star hRF) hb6)
  have H7 := Aside0.mk (mb_data (H5.out.drew (MBA.firm.star hRF)) hb6 hRF hp16 hl6 hC6 hA6 HBY.out (by omega))
  have HR6 := Aside0.mk hr6
  have HK5 := Aside0.mk hk5
  have HK6 := Aside0.mk hk6
  clear hr6 hC6 hA6 hb6 hk5 hk6
  have hpI : (p : Int) < 16 := by omega
  refine re_start [8] (fun k => w5.drew.heap.size ≤ k) (by kernel_rfl) (n := 9) (l := #[false, false, false, false, false, false, false, false, false]) (by kernel_rfl) (by kernel_rfl) ?_
  refine re_take (fuel := 8) 0 rfl (by kernel_rfl) (listed' := #[true, false, false, false, false, false, false, false, false]) (by kernel_rfl) (fun _ _ _ h => h) (by kernel_rfl) (fun w' hR => by go_simp; first | done | with_reducible rfl) rfl ?_
  try simp only [Act.put, List.setIfInBounds_toArray, List.set_cons_zero, List.set_cons_succ]
  refine re_take (fuel := 7) 1 rfl (by kernel_rfl) (listed' := #[true, true, false, false, false, false, false, false, false]) (by kernel_rfl) (fun _ _ _ h => h) (by kernel_rfl) (fun w' hR => by go_simp; first | done | with_reducible rfl) rfl ?_
  try simp only [Act.put, List.setIfInBounds_toArray, List.set_cons_zero, List.set_cons_succ]
  refine re_take (fuel := 6) 3 rfl (by kernel_rfl) (listed' := #[true, true, false, true, false, false, false, false, false]) (by kernel_rfl) (fun _ _ _ h => h) (by kernel_rfl) (fun w' hR => by go_simp; first | done | with_reducible rfl) rfl ?_
  try simp only [Act.put, List.setIfInBounds_toArray, List.set_cons_zero, List.set_cons_succ]
  refine re_take (fuel := 5) 5 rfl (by kernel_rfl) (listed' := #[true, true, false, true, false, true, false, false, false]) (by kernel_rfl) (fun _ _ _ h => h) (by kernel_rfl) (fun w' hR => by go_simp; first | done | with_reducible rfl) rfl ?_
  try simp only [Act.put, List.setIfInBounds_toArray, List.set_cons_zero, List.set_cons_succ]
  refine re_take (fuel := 4) 6 rfl (by kernel_rfl) (listed' := #[true, true, false, true, false, true, true, false, false]) (by kernel_rfl) (fun _ _ _ h => h) (by kernel_rfl) (fun w' hR => by go_simp; first | done | with_reducible rfl) rfl ?_
  try simp only [Act.put, List.setIfInBounds_toArray, List.set_cons_zero, List.set_cons_succ]
  refine re_step (fuel := 3) 2 rfl (by kernel_rfl) (listed' := #[true, true, true, true, false, true, true, false, false]) (by kernel_rfl) (by kernel_rfl) (fun K' hK => ?_)
  (go_wp2_with fail)
  refine hK.out _ _ HK5.out ?_
  clear hK K'
  try simp only [Act.put, List.setIfInBounds_toArray, List.set_cons_zero, List.set_cons_succ]
  refine re_step (fuel := 2) 4 rfl (by kernel_rfl) (listed' := #[true, true, true, true, true, true, true, false, false]) (by kernel_rfl) (by kernel_rfl) (fun K' hK => ?_)
  refine wp_append (.tmp 37) (.tmp 38) 24 24 rfl _ _ _ rfl rfl HR6.out ?_
  refine hK.out _ _ HK6.out ?_
  clear hK K'
  try simp only [Act.put, List.setIfInBounds_toArray, List.set_cons_zero, List.set_cons_succ]
  refine re_take (fuel := 1) 7 rfl (by kernel_rfl) (listed' := #[true, true, true, true, true, true, true, true, false]) (by kernel_rfl) (fun _ _ _ h => h) (by kernel_rfl) (fun w' hR => by go_simp; first | done | with_reducible rfl) rfl ?_
  try simp only [Act.put, List.setIfInBounds_toArray, List.set_cons_zero, List.set_cons_succ]
  refine re_free (fuel := 0) 8 rfl (by kernel_rfl) (listed' := #[true, true, true, true, true, true, true, true, true]) (by kernel_rfl) (by kernel_rfl) (fun K' hK => ?_)
  obtain ⟨-, -, x2, -, x5⟩ := mb_cells H6.out; obtain ⟨A8, c8, x5, -⟩ := x5 p hp16; go_wp2_with fail
  refine hK.out _ _ trivial ?_
  clear hK K'
  try simp only [Act.put, List.setIfInBounds_toArray, List.set_cons_zero, List.set_cons_succ]
  refine re_done (by kernel_rfl) ?_
  go_wp2
  go_ret
  rw [HIS.out, HDT.out] at H7
  exact ⟨rfl, HBACK.out _ _ H7.out.unfirst⟩
end
end Go.Proofs.Ytfcpnjoiloahcaa.Mk
namespace Go.Proofs.Ytfcpnjoiloahcaa.Mk
open Go.RowKit Go.Proofs.YtfcpnjoiloahcaaW.PrintWords Go.Proofs.YtfcpnjoiloahcaaW.PrintLast Go.Proofs.YtfcpnjoiloahcaaW.PrintMore Go.Proofs.Ytfcpnjoiloahcaa.B Go.Proofs.Ytfcpnjoiloahcaa.Ta Go.Proofs.Ytfcpnjoiloahcaa.Fs Go.Proofs.Ytfcpnjoiloahcaa.Sp Go.Proofs.Ytfcpnjoiloahcaa.Ls Go.Proofs.Ytfcpnjoiloahcaa.Gs Go.Proofs.Ytfcpnjoiloahcaa.Go1 Go.Proofs.Ytfcpnjoiloahcaa.S Go.Proofs.Ytfcpnjoiloahcaa.R Go.Proofs.Ytfcpnjoiloahcaa.Bk Go.Proofs.Ytfcpnjoiloahcaa.Gc
set_option linter.unusedVariables false
set_option linter.unusedSimpArgs false
/-- Bytes that lie in a row of bytes: where that one is read they are. -/
def kSub (A : Option Addr) (n : Nat) (b : List Int) : Kd (List Int) where
  sz := 1
  E := []
  K := fun _ x cs => ∃ A2 c2, cs = [.slice A2 x.length c2] ∧ x.length ≤ c2 ∧ (∀ W, kU8.C W A n b → kU8.C W A2 x.length x) ∧ ∀ a, A2 = some a → ∃ a0, A = some a0 ∧ a.block = a0.block
  M := fun _ _ _ x cs => ∃ A2 c2, cs = [.slice A2 x.length c2] ∧ x.length ≤ c2 ∧ (∀ W, kU8.C W A n b → kU8.C W A2 x.length x) ∧ ∀ a, A2 = some a → ∃ a0, A = some a0 ∧ a.block = a0.block
  K_len := fun ⟨_, _, h, _⟩ => by rw [h]; rfl
  K_one := fun ⟨_, _, h, _⟩ u hu => by rw [h, List.mem_singleton] at hu; rw [hu]; rfl
  K_below := fun _ h => h
  K_of_M := fun h => h
  M_mono := fun _ h => h
  M_bound := fun h => h
  M_move := fun _ h => h
  M_lower := fun _ h => h
/-- Frames whose bytes lie in a row of bytes. -/
abbrev kY (A : Option Addr) (n : Nat) (b : List Int) : Kd (Int × List Int) := Kd.pair (Kd.int .u8) (kSub A n b)
/-- One of them, where they were made. -/
theorem Y_own {A0 : Option Addr} {n0 : Nat} {b : List Int} {w : World} {S2 : Nat → Prop} {A2 : Option Addr} {n c2 : Nat} {q : List (Int × List Int)} (h : (kY A0 n0 b).R 27 w 0 S2 (.slice A2 n c2) q) {j : Nat} {i : Int} {c : List Int} (hj : q[j]? = some (i, c)) :
    ∃ (ad : Addr) (A : Option Addr) (c' : Nat), A2 = some ad ∧ S2 ad.block ∧ ad.block < w.heap.size ∧ w.cell? (ad.add (j * 2)) = some (.int .u8 i) ∧ w.cell? ⟨(ad.add (j * 2)).block, (ad.add (j * 2)).off + 1, none⟩ = some (.slice A c.length c') ∧ c.length ≤ c' ∧ (∀ W, kU8.C W A0 n0 b → kU8.C W A c.length c) ∧ ∀ a, A = some a → ∃ a0, A0 = some a0 ∧ a.block = a0.block := by
  obtain ⟨ad, cs, rfl, h1, h2, h3, ⟨c0, c1, rfl, hk0, A, c', rfl, hl, hR⟩, h4⟩ := R_get h hj
  have hk : c0 = [.int .u8 i] := hk0
  subst hk
  have g0 := h4 0 (.int .u8 i) rfl
  have g1 := h4 1 (.slice A c.length c') rfl
  have hs : (kY A0 n0 b).sz = 2 := rfl
  rw [hs] at g0 g1
  rw [← Go.Proofs.YtfcpnjoiloahcaaW.PrintWords.add_add] at g1
  exact ⟨ad, A, c', rfl, h1, h2, g0, g1, hl, hR⟩
set_option maxHeartbeats 4000000 in
set_option maxRecDepth 100000 in
theorem rallY_calls (A : Option Addr) (c : Nat) (b : List Int) (n0 : Nat) (hn0 : b.length = n0) (w : World) (hC : kU8.C w A n0 b) (hc : n0 ≤ c) (hby : By b) (hl : n0 ≤ 1000000) :
    Calls Try.prog 13 #[.slice A n0 c] w fun e w' => ∃ (v : Value) (l : List (Int × List Int)) (m : Nat), e = .returned (.tuple #[v, .int .i64 m]) ∧ AllR b l m ∧ l.length ≤ m ∧ (kY A n0 b).R 27 w' w.heap.size (fun _ => True) v l ∧ Below w.heap.size w w' := by
  have HC := Aside0.mk hC
  have HBY := Aside0.mk hby
  have HN0 := Aside0.mk hn0
  obtain ⟨i5, hi5, -, hi5s, -⟩ := info_ex Gc.infoU8
  have HSL := Aside0.mk (fun (j : Int) (h0 : 0 ≤ j) (h1 : j ≤ b.length) => sl_from kU8 24 5 .i64 Try.underlying24 hi5 A c b hi5s j h0 h1 (by rw [hn0]; exact hc))
  have HR0 := Aside0.mk (Kd.R_nil (kY A n0 b) 27 w w.heap.size (fun _ => True))
  have HB0 := Aside0.mk (Below.refl w.heap.size w)
  have HL0 := Aside0.mk (show ∀ l' m', AllR (b.drop 0) l' m' → AllR b ([] ++ l') (0 + m') from fun l' m' h => by simpa using h)
  clear hC hby hn0 hi5s
  go_enter Try.func13, Try.ntmps13
  go_wp2_with fail
  go_loopw [4, 5] (fun vo vi wr => ∃ (l : List (Int × List Int)) (n : Nat), n ≤ n0 ∧ vi = .int .i64 n ∧ l.length ≤ n ∧ Aside0 ((kY A n0 b).R 27 wr w.heap.size (fun _ => True) vo l) ∧ Aside0 (Below w.heap.size w wr) ∧ Aside0 (∀ l' m', AllR (b.drop n) l' m' → AllR b (l ++ l') (n + m'))) (fun _ vi _ => n0 - (intOf vi).toNat)
  case atStart => exact ⟨[], 0, by omega, rfl, by simp, HR0, HB0, HL0⟩
  case round =>
    clear HR0 HB0 HL0
    obtain ⟨l, n, hn, rfl, hln, HR, HB, HL⟩ := hrel
    obtain ⟨A1, hrun, hC1, hAB1, hl1⟩ := HSL.out (n : Int) (by omega) (by rw [HN0.out]; omega)
    rw [Int.toNat_natCast] at hrun hC1 hl1
    have h0 := HC.out
    rw [← HN0.out] at h0
    have hC2 := hC1 _ h0
    rw [HN0.out] at hrun
    have hbd := HBY.out.drop n
    have hbl : (b.drop n).length = n0 - n := by rw [List.length_drop, HN0.out]
    obtain ⟨bd, hbd'⟩ : ∃ bd, b.drop n = bd := ⟨_, rfl⟩
    rw [hbd'] at hrun hC2 hbd hbl hl1
    obtain ⟨nd, hnd⟩ : ∃ nd, bd.length = nd := ⟨_, rfl⟩
    rw [hnd] at hrun hC2 hbl hl1
    obtain ⟨k, body, sz, er, ht⟩ : ∃ k body sz er, takeL bd = (k, body, sz, er) := ⟨_, _, _, _, rfl⟩
    have HC0 := Aside0.mk hC2
    have HC2 := Aside0.mk (Kd.C_below hC2 HB.out)
    have HBD := Aside0.mk hbd
    have HT := Aside0.mk ht
    have HND := Aside0.mk hnd
    have HBD' := Aside0.mk hbd'
    obtain ⟨Ao, co, rfl, hco⟩ := Kd.R_reads HR.out
    have hcap := hl1
    have HTO := Aside0.mk (And.intro hC1 hAB1)
    clear h0 hC1 hAB1 hC2 hbd hbl hbd' hnd hl1 hco
    have hnd0 : nd ≤ n0 := by
      have h := congrArg List.length HBD'.out
      rw [List.length_drop, HN0.out, HND.out] at h
      omega
    by_cases her : er = 0
    case neg =>
      have heb : (er != 0) = true := bne_iff_ne.mpr her
      have HST := Aside0.mk (show AllR b (l ++ []) (n + 0) from HL.out [] 0 (by rw [HBD'.out]; exact AllR.stop (by rw [HT.out]; exact her)))
      clear her
      go_wp2_with (first | (go_at_call 38; refine (rtakeB_n A1 (c - n) bd nd HND.out k body sz er HT.out _ HC2.out hcap HBD.out (by omega)).mono ?_; rintro e w2 ⟨A2, c2, rfl, -, -, hb⟩; have HB2 := Aside0.mk hb; clear hb))
      go_ret2
      rw [List.append_nil, Nat.add_zero] at HST
      exact ⟨_, l, n, rfl, HST.out, hln, Kd.R_below HR.out HB2.out, HB.out.trans (HB2.out.mono HB.out.size)⟩
    subst her
    have heb : ((0 : Int) != 0) = false := by decide
    obtain ⟨hf1, hf2, hf3, -, -, hf6⟩ := take_form HBD.out HT.out
    obtain ⟨s, rfl⟩ : ∃ s : Nat, sz = s := ⟨sz.toNat, by omega⟩
    have hs6 : 6 ≤ s := by rw [lay_len] at hf2; omega
    rw [HND.out, Int.toNat_natCast] at hf6
    have hns : n + s ≤ n0 := by
      have h := congrArg List.length HBD'.out
      rw [List.length_drop, HN0.out, HND.out] at h
      omega
    have HST := Aside0.mk (show ∀ l' m', AllR (b.drop (n + s)) l' m' → AllR b ((l ++ [(k, body)]) ++ l') ((n + s) + m') from fun l' m' h => by
      have h2 := HL.out ((k, body) :: l') (s + m') (by rw [HBD'.out]; exact AllR.step HT.out (by rw [← HBD'.out, List.drop_drop]; exact h))
      rw [List.append_assoc, Nat.add_assoc]
      exact h2)
    clear hf1 hf2 hf6
    go_wp2_with (first
      | (go_at_call 38; refine (rtakeB_n A1 (c - n) bd nd HND.out k body s 0 HT.out _ HC2.out hcap HBD.out (by omega)).mono ?_; rintro e w2 ⟨A2, c2, rfl, hl2, hto, hb⟩; have HO2 := Aside0.mk (And.intro hl2 (And.intro (show ∀ W, kU8.C W A n0 b → kU8.C W A2 body.length body from fun W hW => hto.1 W (by have h9 := HTO.out.1 W (by rw [HN0.out]; exact hW); rw [HBD'.out, HND.out] at h9; exact h9)) (show ∀ a, A2 = some a → ∃ a0, A = some a0 ∧ a.block = a0.block from fun a ha => by obtain ⟨a1, h1, h2⟩ := hto.2 a ha; obtain ⟨a2, h3, h4⟩ := HTO.out.2 a1 h1; exact ⟨a2, h3, h2.trans h4⟩))); have HB2 := Aside0.mk hb; have HRR := Aside0.mk (Kd.R_below HR.out hb); have HWW := Aside0.mk (HB.out.trans (hb.mono HB.out.size)); clear hb hl2 hto)
      | ((with_reducible refine gate_builtin (b := .append) (xs := #[.tmp 23, .tmp 27]) rfl ?_); at_builtin; refine Kd.R_append (kY A n0 b) (w0 := w) w.heap.size rfl (.tmp 23) (.tmp 27) 22 27 (.agg #[.int .u8 0, .slice none 0 0]) 32 rfl Try.underlying22 infoF rfl (show 0 < 2 by decide) (by decide) (.slice Ao l.length co) l (k, body) [.int .u8 k, .slice A2 body.length c2] (fun _ => True) (fun i => wr.heap.size ≤ i) rfl rfl ⟨[_], [_], rfl, rfl, A2, c2, rfl, HO2.out.1, HO2.out.2⟩ (fun i hi => ⟨trivial, fun e => by have := own_lt (Kd.R_own HR.out).choose_spec i e.symm; omega⟩) (fun _ _ => trivial) HRR.out HWW.out HWW.out.size (by omega) ?_; intro v3 w3 ho3 hb3 hg hat; have HO3 := Aside0.mk ho3; have HB3 := Aside0.mk hb3; clear ho3 hb3 hg hat))
    go_roundw
    case rel => exact ⟨l ++ [(k, body)], n + s, hns, by go_num, by simp; omega, HO3, HB3, HST⟩
    case measure => simp [intOf]; omega
section
variable {W0 w w' w1 : World} {N own : Nat → Prop} {R : Assn} {g gB gF : Nat} {room size : Int} {is : Nat → Bool} {dat : Nat → List Int} {s s' : List Int} {q : List (Int × List Int)} {t t' : Tab}
theorem mb_lt (h : AtP W0 N w (Star (MBA g gF size is dat) R)) : g < w.heap.size := by
  obtain ⟨own, ⟨⟨cs, V, h1, h2, h3, h4, h5, h6, h7, h8, h9⟩, hok⟩, -⟩ := h.get
  exact blk_lt h1
theorem fresh_cs (gF : Nat) : (#[.pointer (some ⟨gF, 0, none⟩), .int .i64 0, .bool false, .bool false, .bool false, .bool false, .bool false, .bool false, .bool false, .bool false, .bool false, .bool false, .bool false, .bool false, .bool false, .bool false, .bool false, .bool false, .slice none 0 0, .slice none 0 0, .slice none 0 0, .slice none 0 0, .slice none 0 0, .slice none 0 0, .slice none 0 0, .slice none 0 0, .slice none 0 0, .slice none 0 0, .slice none 0 0, .slice none 0 0, .slice none 0 0, .slice none 0 0, .slice none 0 0, .slice none 0 0] : Array Value) = #[.pointer (some ⟨gF, 0, none⟩), .int .i64 0] ++ Array.replicate 16 (.bool false) ++ Array.replicate 16 (.slice none 0 0) := by kernel_rfl
theorem MB.made' (gF : Nat) (w W2 : World) (hW : W2 = w.alloc (.cells #[.pointer (some ⟨gF, 0, none⟩), .int .i64 0, .bool false, .bool false, .bool false, .bool false, .bool false, .bool false, .bool false, .bool false, .bool false, .bool false, .bool false, .bool false, .bool false, .bool false, .bool false, .bool false, .slice none 0 0, .slice none 0 0, .slice none 0 0, .slice none 0 0, .slice none 0 0, .slice none 0 0, .slice none 0 0, .slice none 0 0, .slice none 0 0, .slice none 0 0, .slice none 0 0, .slice none 0 0, .slice none 0 0, .slice none 0 0, .slice none 0 0, .slice none 0 0] 92)) : MB W2 w.heap.size gF 0 (fun k => k = w.heap.size) (fun _ => false) (fun _ => []) := by
  rw [hW, fresh_cs]
  exact MB.made gF w
/-- A reader that is made of bytes. -/
theorem rdr_made (w : World) {A : Option Addr} {c : Nat} {l : List Int} (hl : l.length ≤ c) (hC : kU8.C w A l.length l) (hA : ∀ a, A = some a → a.block < w.heap.size) :
    ∃ b, Rdr 95 (w.alloc (.cells #[.slice A l.length c, .int .i64 0] 95)) w.heap.size b l 0 ∧ ∀ g, g < w.heap.size → (∀ a, A = some a → a.block ≠ g) → b ≠ g := by
  cases A with
  | none => exact ⟨w.heap.size + 1, ⟨none, c, heap_alloc_new _ _, hl, fun a ha => (by cases ha), Kd.C_alloc hC _, by omega⟩, fun g hg _ => by omega⟩
  | some a => exact ⟨a.block, ⟨some a, c, heap_alloc_new _ _, hl, fun a' ha => (by injection ha with ha; rw [ha]), Kd.C_alloc hC _, by have := hA a rfl; omega⟩, fun g hg h => h a rfl⟩
set_option maxHeartbeats 4000000 in
set_option maxRecDepth 100000 in
theorem mopen_at (h : AtP W0 N w (Star (FileM gF room s q) R)) (hR : Firm R) (b : List Int) (nb : Nat) (hb : over q s = b) (hnb : b.length = nb) (hlen : nb ≤ 1000000) :
    Calls Try.prog 18 #[.pointer (some ⟨gF, 0, none⟩)] w fun e w' => ∃ gB T n, e = .returned (.pointer (some ⟨gB, 0, none⟩)) ∧ Opened b T n ∧ n ≤ nb ∧ AtP W0 N w' (Star (BookM gB gF room (b.take n) [] T) R) := by
  obtain ⟨W2, hW2⟩ : ∃ W2, W2 = w.alloc (.cells #[.pointer (some ⟨gF, 0, none⟩), .int .i64 0, .bool false, .bool false, .bool false, .bool false, .bool false, .bool false, .bool false, .bool false, .bool false, .bool false, .bool false, .bool false, .bool false, .bool false, .bool false, .bool false, .slice none 0 0, .slice none 0 0, .slice none 0 0, .slice none 0 0, .slice none 0 0, .slice none 0 0, .slice none 0 0, .slice none 0 0, .slice none 0 0, .slice none 0 0, .slice none 0 0, .slice none 0 0, .slice none 0 0, .slice none 0 0, .slice none 0 0, .slice none 0 0] 92) := ⟨_, rfl⟩
  have hRF : Firm (Star (FileM gF room s q) R) := FileM.firm.star hR
  have hRT : ∀ g z is dat, Firm (Star (MBA g gF z is dat) R) := fun g z is dat => MBA.firm.star hR
  have hFT : ∀ g z is dat, Firm (Star (MBA g gF z is dat) (Star (FileM gF room s q) R)) := fun g z is dat => MBA.firm.star hRF
  have hb2 : Below w.heap.size w W2 := by rw [hW2]; exact (Below.refl _ _).alloc (Nat.le_refl _) _
  have h2 : AtP W0 N W2 (Star (MBA w.heap.size gF 0 (isT []) (datT [])) (Star (FileM gF room s q) R)) := h.more hRF hb2 (o1 := fun k => k = w.heap.size) ⟨MB.made' gF w W2 hW2, fun i hi => ⟨fun x hx => (by cases hx), by simp [datT, getT]⟩⟩ (fun k hk => by omega)
  have hok := mok h
  have hby : By b := by rw [← hb]; exact hok.all.2
  obtain ⟨gM, hgM⟩ : ∃ gM, gM = w.heap.size := ⟨_, rfl⟩
  rw [← hgM] at h2
  have HBE := Aside0.mk hb
  have H2 := Aside0.mk h2
  have HBY := Aside0.mk hby
  have HNB := Aside0.mk hnb
  have HB2 := Aside0.mk hb2
  have mixed : Try.prog.follows .mixedOrders = true := by kernel_rfl
  clear h h2 hok hby hb hnb hb2
  go_enter Try.func18, Try.ntmps18
  go_wp2_with (first
    | (go_at_call 27; rw [← hW2, ← hgM]; clear hW2 hgM; refine (m_bytes H2.out.unfirst.second b nb HBE.out HNB.out).mono ?_; rintro e w3 ⟨A3, c3, rfl, hC3, hl3, hA3, hb3⟩; have HC3 := Aside0.mk hC3; have HA3 := Aside0.mk hA3; have HB3 := Aside0.mk hb3; clear hC3 hA3 hb3)
    | (go_at_call 13; refine (rallY_calls A3 c3 b nb HNB.out w3 HC3.out hl3 HBY.out hlen).mono ?_; rintro e w4 ⟨v4, l, m, rfl, hall, hlm, hr4, hb4⟩; obtain ⟨A4, c4, rfl, hl4, -⟩ := Kd.R_reads hr4; have HALL := Aside0.mk hall; have HR4 := Aside0.mk hr4; have HB4 := Aside0.mk hb4; clear hr4 hb4 hall))
  obtain ⟨N', hN'⟩ : ∃ N' : Nat → Prop, N' = fun k => (N k ∨ W0.heap.size ≤ k) ∧ k < W2.heap.size := ⟨_, rfl⟩
  have HBW := Aside0.mk (HB3.out.trans (HB4.out.mono HB3.out.size))
  have HI := Aside0.mk (show AtP w4 N' w4 (Star (MBA gM gF (0 : Nat) (isT []) (datT [])) (Star (FileM gF room s q) R)) by rw [hN']; exact H2.out.rebase (hFT _ _ _ _) HBW.out)
  have HBACK := Aside0.mk (show ∀ W (P : Assn), AtP w4 N' W P → AtP W0 N W P from fun W P hx => hx.back (fun k hk => by rw [hN'] at hk; exact hk.1) (H2.out.keep.trans (Keep.of_below HBW.out)))
  have HNN := Aside0.mk (show ∀ k, W2.heap.size ≤ k → ¬ N' k from fun k hk hn => by rw [hN'] at hn; have := hn.2; omega)
  have HCW := Aside0.mk (show ∀ W, Keep N' w4 W → kU8.C W A3 nb b from fun W hW => C_blk (Kd.C_below HC3.out HB4.out) (fun a ha => hW.block _ (Nat.lt_of_lt_of_le (HA3.out a ha).2 HB4.out.size) (HNN.out _ (HA3.out a ha).1)))
  have HLY := Aside0.mk (HALL.out.lays HBY.out)
  have hmb : m ≤ nb := by have := HLY.out.2.1; rwa [HNB.out] at this
  have HO0 := Aside0.mk (show openL (l.drop 0) [] 0 = openL l [] 0 from rfl)
  have HN0 := Aside0.mk (show 0 + (laysL (l.drop 0)).length ≤ nb by
    rw [List.drop_zero, HLY.out.1, List.length_take, HNB.out]; omega)
  have hz23 := HB3.out.size
  clear hN' HC3
  go_loopw [6] (fun vi wr => ∃ (i : Nat) (T : Tab) (n : Nat), i ≤ l.length ∧ vi = .int .i64 i ∧ Aside0 (AtP w4 N' wr (Star (MBA gM gF (n : Int) (isT T) (datT T)) (Star (FileM gF room s q) R))) ∧ Aside0 (openL (l.drop i) T n = openL l [] 0) ∧ Aside0 (n + (laysL (l.drop i)).length ≤ nb)) (fun vi _ => l.length - (intOf vi).toNat)
  case atStart => exact ⟨0, [], 0, by omega, rfl, HI, HO0, HN0⟩
  case round =>
    clear HI HO0 HN0
    obtain ⟨i, T, n, hi, rfl, H, HO, HN⟩ := hrel
    by_cases hlt : i < l.length
    · obtain ⟨⟨k, bd⟩, hp⟩ : ∃ p, l[i]? = some p := ⟨_, List.getElem?_eq_getElem hlt⟩
      obtain ⟨ad, A5, c5, rfl, hs5, hs5', g1, g2, hcc, hCb, hAB⟩ := Y_own (Kd.R_lower (Kd.R_mono (ok' := fun k => w3.heap.size ≤ k) (Kd.R_bound HR4.out) (fun k hk => hk.2.1)) (Nat.zero_le _)) hp
      have HFG := Aside0.mk (show ∀ W, Keep N' w4 W → W.cell? (ad.add (i * 2)) = some (.int .u8 k) ∧ W.cell? ⟨(ad.add (i * 2)).block, (ad.add (i * 2)).off + 1, none⟩ = some (.slice A5 bd.length c5) ∧ kU8.C W A5 bd.length bd from fun W hW => by
        have hbk : (ad.add (i * 2)).block = ad.block := B.add_block _ _
        have hh := hW.block ad.block hs5' (HNN.out _ (by omega))
        exact ⟨(World.cell?_of_block (by rw [hbk]; exact hh)).trans g1, (World.cell?_of_block (a := ⟨(ad.add (i * 2)).block, (ad.add (i * 2)).off + 1, none⟩) (by show W.heap[(ad.add (i * 2)).block]? = _; rw [hbk]; exact hh)).trans g2, hCb W (HCW.out W hW)⟩)
      obtain ⟨q1, q2, hC5⟩ := HFG.out wr H.out.keep
      obtain ⟨⟨hk0, hk1⟩, hbdy, hbdl⟩ := HLY.out.2.2 _ (List.mem_of_getElem? hp)
      simp only at hk0 hk1 hbdy hbdl
      obtain ⟨j, rest, cd, hbe⟩ : ∃ j rest cd, below 16 bd 0 = (j, rest, cd) := ⟨_, _, _, rfl⟩
      obtain ⟨hj0, hj1, hrl, hrb⟩ := rd_range hbdy hbe
      obtain ⟨pj, rfl⟩ : ∃ pj : Nat, j = pj := ⟨j.toNat, by omega⟩
      have hpj : pj < 16 := by omega
      have hdrop : l.drop i = (k, bd) :: l.drop (i + 1) := by
        obtain ⟨h1, h2⟩ := List.getElem?_eq_some_iff.1 hp
        rw [List.drop_eq_getElem_cons h1, h2]
      obtain ⟨W5, hW5⟩ : ∃ W5, W5 = wr.alloc (.cells #[.slice A5 bd.length c5, .int .i64 0] 95) := ⟨_, rfl⟩
      have hA5 : ∀ a, A5 = some a → a.block < wr.heap.size := fun a ha => by
        obtain ⟨a0, h1, h2⟩ := hAB a ha
        rw [h2]
        exact Nat.lt_of_lt_of_le (HA3.out a0 h1).2 (Nat.le_trans HB4.out.size H.out.keep.size)
      have hgM := mb_lt H.out
      obtain ⟨bR, hrd, hbR⟩ := rdr_made wr hcc hC5 hA5
      have hbRM := hbR gM hgM (fun a ha e => by
        obtain ⟨a0, h1, h2⟩ := hAB a ha
        have h3 := (HA3.out a0 h1).1
        have h4 := mb_lt H2.out
        omega)
      rw [← hW5] at hrd
      have hb5 : Below wr.heap.size wr W5 := by rw [hW5]; exact (Below.refl _ _).alloc (Nat.le_refl _) _
      have hlow : ∀ W, Keep (· = wr.heap.size) W5 W → Below wr.heap.size wr W := fun W hW => Keep.below_then hb5 hW hb5.size (fun i hi e => by omega)
      have HLOW := Aside0.mk hlow
      have HRD := Aside0.mk hrd
      have HBE2 := Aside0.mk hbe
      have HDR := Aside0.mk hdrop
      have HBDY := Aside0.mk hbdy
      have HRB := Aside0.mk hrb
      have hgMR : gM ≠ wr.heap.size := by omega
      clear g1 g2 hCb hA5 hp hbdy hrb hbe hdrop hb5 hs5 hs5' hC5 hbR hrd hlow hAB
      by_cases hst : k = 1 ∧ cd = 0 ∧ getT T pj = none
      · obtain ⟨hk, hcd, hgt⟩ := hst
        subst hk hcd
        have HO2 := Aside0.mk (show openL (l.drop (i + 1)) (putT T pj rest) (n + (layL 1 bd).length) = openL l [] 0 by
          rw [← openL_go HBE2.out ⟨rfl, rfl, hgt⟩, ← HDR.out]; exact HO.out)
        have hLn : n + (layL 1 bd).length + (laysL (l.drop (i + 1))).length ≤ nb := by
          have h := HN.out
          rw [HDR.out, laysL, List.map_cons, List.flatten_cons, List.length_append] at h
          unfold laysL
          have h2 : n + ((layL 1 bd).length + (List.map (fun p => layL p.1 p.2) (List.drop (i + 1) l)).flatten.length) ≤ nb := h
          omega
        obtain ⟨L, hL⟩ : ∃ L, (layL 1 bd).length = L := ⟨_, rfl⟩
        rw [hL] at hLn HO2
        have HL := Aside0.mk hL
        have HGT := Aside0.mk hgt
        have HIS := Aside0.mk (isT_put (d := rest) hgt)
        have HDT := Aside0.mk (datT_put (d := rest) hgt)
        have hisf : isT T pj = false := by unfold isT; rw [hgt]; rfl
        have y1 := wrI64 ((n : Int) + (L : Int)) (by omega) (by omega)
        clear hgt hL
        go_wp2_with (first
          | (go_at_call 43; rw [← hW5]; clear hW5; refine (Lr.below_calls wr.heap.size bR bd 0 16 W5 HRD.out HBDY.out (by decide) (by decide)).mono ?_; rw [HBE2.out]; rintro e w6 ⟨rfl, hr6, hk6, hs6⟩; have h6 := H.out.below (hFT _ _ _ _) (HLOW.out w6 hk6); obtain ⟨x1, x1'⟩ := hr6.code; obtain ⟨x2, x3, -⟩ := HFG.out w6 h6.keep; have x4 := (mb_cells h6).2.2.2.1 pj hpj; rw [hisf] at x4; have x5 := (mb_cells h6).2.2.1; have H6 := Aside0.mk h6; have HRD6 := Aside0.mk hr6; clear h6 hr6 hk6 hs6))
        obtain ⟨w7, hw7⟩ : ∃ w7, w7 = w6.setCell ⟨gM, 2 + pj, none⟩ (.bool true) := ⟨_, rfl⟩
        have H7 := Aside0.mk (show AtP w4 N' w7 (Star (MBA gM gF n (upd (isT T) pj true) (datT T)) (Star (FileM gF room s q) R)) by rw [hw7]; exact mb_is H6.out hRF hpj true)
        obtain ⟨A6, c6, y6, -, hR6, hl6, hA6, hC6, -⟩ := HRD6.out.left
        have hC7 : kU8.C w7 A6 rest.length rest := by
          rw [hw7]
          exact C_blk hC6 (fun a ha => Below.heap_setCell _ _ _ _ (by show a.block ≠ gM; rw [hA6 a ha]; exact hbRM))
        have hR7 : w7.heap[wr.heap.size]? = some (.cells #[.slice A6 rest.length c6, .int .i64 0] 95 (0, 0)) := by
          rw [hw7]
          exact (Below.heap_setCell _ _ _ _ (Ne.symm hgMR)).trans hR6
        have hz7 : wr.heap.size < w7.heap.size := blk_lt hR7
        have HX7 := Aside0.mk (show ∀ W, Keep (fun k => w7.drew.heap.size ≤ k) w7.drew W → W.cell? ⟨wr.heap.size, 0, none⟩ = some (.slice A6 rest.length c6) from fun W hW => by
          have h := (hW.block wr.heap.size hz7 (fun h => by have h2 : w7.heap.size ≤ wr.heap.size := h; omega)).trans hR7
          simp [World.cell?, h])
        obtain ⟨A8, c8, w8, hr8, hC8, hl8, hA8, hb8, hk8, hk8'⟩ := run_copy_lit (c := c6) w7.drew (Kd.C_drew hC7) (show rest.length ≤ 1000000 by omega)
        have H8 := Aside0.mk ((H7.out.drew (hFT _ _ _ _)).below (hFT _ _ _ _) hb8)
        have H9 := Aside0.mk (mb_data (H7.out.drew (hFT _ _ _ _)) hb8 hRF hpj hl8 hC8 hA8 HRB.out (by omega))
        have HR8 := Aside0.mk hr8
        have HK8 := Aside0.mk hk8
        have HK8' := Aside0.mk hk8'
        have hpI : (pj : Int) < 16 := by omega
        rw [← hw7]
        clear hw7 x1 x1' x2 x3 x4 x5 H6 HRD6 y6 hR6 hA6 hC6 hC7 hR7 hr8 hC8 hA8 hb8 hk8 hk8'
        refine re_start [11] (fun k => w7.drew.heap.size ≤ k) (by kernel_rfl) (n := 12) (l := #[false, false, false, false, false, false, false, false, false, false, false, false]) (by kernel_rfl) (by kernel_rfl) ?_
        refine re_take (fuel := 11) 0 rfl (by kernel_rfl) (listed' := #[true, false, false, false, false, false, false, false, false, false, false, false]) (by kernel_rfl) (fun _ _ _ h => h) (by kernel_rfl) (fun w' hR => by go_simp; first | done | with_reducible rfl) rfl ?_
        try simp only [Act.put, List.setIfInBounds_toArray, List.set_cons_zero, List.set_cons_succ]
        refine re_take (fuel := 10) 1 rfl (by kernel_rfl) (listed' := #[true, true, false, false, false, false, false, false, false, false, false, false]) (by kernel_rfl) (fun _ _ _ h => h) (by kernel_rfl) (fun w' hR => by go_simp; first | done | with_reducible rfl) rfl ?_
        try simp only [Act.put, List.setIfInBounds_toArray, List.set_cons_zero, List.set_cons_succ]
        refine re_take (fuel := 9) 3 rfl (by kernel_rfl) (listed' := #[true, true, false, true, false, false, false, false, false, false, false, false]) (by kernel_rfl) (fun _ _ _ h => h) (by kernel_rfl) (fun w' hR => by go_simp; first | done | with_reducible rfl) rfl ?_
        try simp only [Act.put, List.setIfInBounds_toArray, List.set_cons_zero, List.set_cons_succ]
        refine re_take (fuel := 8) 4 rfl (by kernel_rfl) (listed' := #[true, true, false, true, true, false, false, false, false, false, false, false]) (by kernel_rfl) (fun _ _ _ h => h) (by kernel_rfl) (fun w' hR => by go_simp; first | done | with_reducible rfl) rfl ?_
        try simp only [Act.put, List.setIfInBounds_toArray, List.set_cons_zero, List.set_cons_succ]
        refine re_take (fuel := 7) 5 rfl (by kernel_rfl) (listed' := #[true, true, false, true, true, true, false, false, false, false, false, false]) (by kernel_rfl) (fun _ _ _ h => h) (by kernel_rfl) (fun w' hR => by go_simp; first | done | with_reducible rfl) rfl ?_
        try simp only [Act.put, List.setIfInBounds_toArray, List.set_cons_zero, List.set_cons_succ]
        refine re_take (fuel := 6) 6 rfl (by kernel_rfl) (listed' := #[true, true, false, true, true, true, true, false, false, false, false, false]) (by kernel_rfl) (fun _ _ _ h => h) (by kernel_rfl) (fun w' hR => by have x0 := HX7.out w' hR; go_simp; first | done | with_reducible rfl) rfl ?_
        try simp only [Act.put, List.setIfInBounds_toArray, List.set_cons_zero, List.set_cons_succ]
        refine re_take (fuel := 5) 8 rfl (by kernel_rfl) (listed' := #[true, true, false, true, true, true, true, false, true, false, false, false]) (by kernel_rfl) (fun _ _ _ h => h) (by kernel_rfl) (fun w' hR => by go_simp; first | done | with_reducible rfl) rfl ?_
        try simp only [Act.put, List.setIfInBounds_toArray, List.set_cons_zero, List.set_cons_succ]
        refine re_take (fuel := 4) 9 rfl (by kernel_rfl) (listed' := #[true, true, false, true, true, true, true, false, true, true, false, false]) (by kernel_rfl) (fun _ _ _ h => h) (by kernel_rfl) (fun w' hR => by go_simp; first | done | with_reducible rfl) rfl ?_
        try simp only [Act.put, List.setIfInBounds_toArray, List.set_cons_zero, List.set_cons_succ]
        refine re_step (fuel := 3) 2 rfl (by kernel_rfl) (listed' := #[true, true, true, true, true, true, true, false, true, true, false, false]) (by kernel_rfl) (by kernel_rfl) (fun K' hK => ?_)
        (go_wp2_with fail)
        refine hK.out _ _ HK8.out ?_
        clear hK K'
        try simp only [Act.put, List.setIfInBounds_toArray, List.set_cons_zero, List.set_cons_succ]
        refine re_step (fuel := 2) 7 rfl (by kernel_rfl) (listed' := #[true, true, true, true, true, true, true, true, true, true, false, false]) (by kernel_rfl) (by kernel_rfl) (fun K' hK => ?_)
        refine wp_append (.tmp 61) (.tmp 65) 24 24 rfl _ _ _ rfl rfl HR8.out ?_
        refine hK.out _ _ HK8'.out ?_
        clear hK K'
        try simp only [Act.put, List.setIfInBounds_toArray, List.set_cons_zero, List.set_cons_succ]
        refine re_take (fuel := 1) 10 rfl (by kernel_rfl) (listed' := #[true, true, true, true, true, true, true, true, true, true, true, false]) (by kernel_rfl) (fun _ _ _ h => h) (by kernel_rfl) (fun w' hR => by go_simp; first | done | with_reducible rfl) rfl ?_
        try simp only [Act.put, List.setIfInBounds_toArray, List.set_cons_zero, List.set_cons_succ]
        refine re_free (fuel := 0) 11 rfl (by kernel_rfl) (listed' := #[true, true, true, true, true, true, true, true, true, true, true, true]) (by kernel_rfl) (by kernel_rfl) (fun K' hK => ?_)
        obtain ⟨-, -, x2, -, x5⟩ := mb_cells H8.out; obtain ⟨A9, c9, x5, -⟩ := x5 pj hpj; go_wp2_with fail
        refine hK.out _ _ trivial ?_
        clear hK K'
        try simp only [Act.put, List.setIfInBounds_toArray, List.set_cons_zero, List.set_cons_succ]
        refine re_done (by kernel_rfl) ?_
        go_wp2_with fail
        obtain ⟨w9, hw9⟩ : ∃ w9, w9 = w8.setCell ⟨gM, 18 + pj, none⟩ (.slice A8 rest.length c8) := ⟨_, rfl⟩
        rw [← hw9, HIS.out, HDT.out] at H9
        rw [← hw9]
        clear hw9 HX7 HR8 HK8 HK8' H8 H7
        have HF := Aside0.mk (show ∀ W, Keep (fun _ => False) w9.drew W → W.cell? ⟨gM, 1, none⟩ = some (.int .i64 n) ∧ W.frozen? ⟨gM, 1, none⟩ = false ∧ W.cell? (ad.add (i * 2)) = some (.int .u8 1) ∧ W.cell? ⟨(ad.add (i * 2)).block, (ad.add (i * 2)).off + 1, none⟩ = some (.slice A5 bd.length c5) ∧ kU8.C W A5 bd.length bd ∧ AtP w4 N' W (Star (MBA gM gF n (isT (putT T pj rest)) (datT (putT T pj rest))) (Star (FileM gF room s q) R)) from fun W hW => by
          have h := (H9.out.drew (hFT _ _ _ _)).below (hFT _ _ _ _) (hW.below (Nat.le_refl _) (fun _ _ => id))
          have h2 := mb_cells h
          have h3 := HFG.out W h.keep
          exact ⟨h2.2.1, h2.2.2.1 1, h3.1, h3.2.1, h3.2.2, h⟩)
        refine re_start [15] (fun _ => False) (by kernel_rfl) (n := 16) (l := #[false, false, false, false, false, false, false, false, false, false, false, false, false, false, false, false]) (by kernel_rfl) (by kernel_rfl) ?_
        refine re_take (fuel := 15) 0 rfl (by kernel_rfl) (listed' := #[true, false, false, false, false, false, false, false, false, false, false, false, false, false, false, false]) (by kernel_rfl) (fun _ _ _ h => h) (by kernel_rfl) (fun w' hR => by go_simp; first | done | with_reducible rfl) rfl ?_
        try simp only [Act.put, List.setIfInBounds_toArray, List.set_cons_zero, List.set_cons_succ]
        refine re_take (fuel := 14) 1 rfl (by kernel_rfl) (listed' := #[true, true, false, false, false, false, false, false, false, false, false, false, false, false, false, false]) (by kernel_rfl) (fun _ _ _ h => h) (by kernel_rfl) (fun w' hR => by go_simp; first | done | with_reducible rfl) rfl ?_
        try simp only [Act.put, List.setIfInBounds_toArray, List.set_cons_zero, List.set_cons_succ]
        refine re_take (fuel := 13) 2 rfl (by kernel_rfl) (listed' := #[true, true, true, false, false, false, false, false, false, false, false, false, false, false, false, false]) (by kernel_rfl) (fun _ _ _ h => h) (by kernel_rfl) (fun w' hR => by go_simp; first | done | with_reducible rfl) rfl ?_
        try simp only [Act.put, List.setIfInBounds_toArray, List.set_cons_zero, List.set_cons_succ]
        refine re_take (fuel := 12) 3 rfl (by kernel_rfl) (listed' := #[true, true, true, true, false, false, false, false, false, false, false, false, false, false, false, false]) (by kernel_rfl) (fun _ _ _ h => h) (by kernel_rfl) (fun w' hR => by go_simp; first | done | with_reducible rfl) rfl ?_
        try simp only [Act.put, List.setIfInBounds_toArray, List.set_cons_zero, List.set_cons_succ]
        refine re_take (fuel := 11) 4 rfl (by kernel_rfl) (listed' := #[true, true, true, true, true, false, false, false, false, false, false, false, false, false, false, false]) (by kernel_rfl) (fun _ _ _ h => h) (by kernel_rfl) (fun w' hR => by obtain ⟨x0, -, x1, x2, -, -⟩ := HF.out w' hR; go_simp; first | done | with_reducible rfl) rfl ?_
        try simp only [Act.put, List.setIfInBounds_toArray, List.set_cons_zero, List.set_cons_succ]
        refine re_take (fuel := 10) 5 rfl (by kernel_rfl) (listed' := #[true, true, true, true, true, true, false, false, false, false, false, false, false, false, false, false]) (by kernel_rfl) (fun _ _ _ h => h) (by kernel_rfl) (fun w' hR => by go_simp; first | done | with_reducible rfl) rfl ?_
        try simp only [Act.put, List.setIfInBounds_toArray, List.set_cons_zero, List.set_cons_succ]
        refine re_take (fuel := 9) 6 rfl (by kernel_rfl) (listed' := #[true, true, true, true, true, true, true, false, false, false, false, false, false, false, false, false]) (by kernel_rfl) (fun _ _ _ h => h) (by kernel_rfl) (fun w' hR => by go_simp; first | done | with_reducible rfl) rfl ?_
        try simp only [Act.put, List.setIfInBounds_toArray, List.set_cons_zero, List.set_cons_succ]
        refine re_take (fuel := 8) 7 rfl (by kernel_rfl) (listed' := #[true, true, true, true, true, true, true, true, false, false, false, false, false, false, false, false]) (by kernel_rfl) (fun _ _ _ h => h) (by kernel_rfl) (fun w' hR => by go_simp; first | done | with_reducible rfl) rfl ?_
        try simp only [Act.put, List.setIfInBounds_toArray, List.set_cons_zero, List.set_cons_succ]
        refine re_take (fuel := 7) 8 rfl (by kernel_rfl) (listed' := #[true, true, true, true, true, true, true, true, true, false, false, false, false, false, false, false]) (by kernel_rfl) (fun _ _ _ h => h) (by kernel_rfl) (fun w' hR => by go_simp; first | done | with_reducible rfl) rfl ?_
        try simp only [Act.put, List.setIfInBounds_toArray, List.set_cons_zero, List.set_cons_succ]
        refine re_take (fuel := 6) 9 rfl (by kernel_rfl) (listed' := #[true, true, true, true, true, true, true, true, true, true, false, false, false, false, false, false]) (by kernel_rfl) (fun _ _ _ h => h) (by kernel_rfl) (fun w' hR => by obtain ⟨x0, -, x1, x2, -, -⟩ := HF.out w' hR; go_simp; first | done | with_reducible rfl) rfl ?_
        try simp only [Act.put, List.setIfInBounds_toArray, List.set_cons_zero, List.set_cons_succ]
        refine re_step (fuel := 5) 10 rfl (by kernel_rfl) (listed' := #[true, true, true, true, true, true, true, true, true, true, true, false, false, false, false, false]) (by kernel_rfl) (by kernel_rfl) (fun K' hK => ?_)
        go_wp2_with (first | (go_at_call 11; refine (Gc.rlay_n 1 (by decide) (by decide) A5 c5 bd bd.length rfl (layL 1 bd) L rfl HL.out _ (HF.out _ (Keep.refl _ _)).2.2.2.2.1 HBDY.out (by omega)).mono ?_; rintro e w10 ⟨A10, c10, rfl, -, -, -, hb10⟩; have HB10 := Aside0.mk hb10; clear hb10))
        refine hK.out _ _ (Keep.of_below HB10.out) ?_
        clear hK K'
        try simp only [Act.put, List.setIfInBounds_toArray, List.set_cons_zero, List.set_cons_succ]
        refine re_take (fuel := 4) 11 rfl (by kernel_rfl) (listed' := #[true, true, true, true, true, true, true, true, true, true, true, true, false, false, false, false]) (by kernel_rfl) (fun _ _ _ h => h) (by kernel_rfl) (fun w' hR => by go_simp; first | done | with_reducible rfl) rfl ?_
        try simp only [Act.put, List.setIfInBounds_toArray, List.set_cons_zero, List.set_cons_succ]
        refine re_take (fuel := 3) 12 rfl (by kernel_rfl) (listed' := #[true, true, true, true, true, true, true, true, true, true, true, true, true, false, false, false]) (by kernel_rfl) (fun _ _ _ h => h) (by kernel_rfl) (fun w' hR => by have y2 := y1; go_simp; first | done | with_reducible rfl) rfl ?_
        try simp only [Act.put, List.setIfInBounds_toArray, List.set_cons_zero, List.set_cons_succ]
        refine re_take (fuel := 2) 13 rfl (by kernel_rfl) (listed' := #[true, true, true, true, true, true, true, true, true, true, true, true, true, true, false, false]) (by kernel_rfl) (fun _ _ _ h => h) (by kernel_rfl) (fun w' hR => by go_simp; first | done | with_reducible rfl) rfl ?_
        try simp only [Act.put, List.setIfInBounds_toArray, List.set_cons_zero, List.set_cons_succ]
        refine re_take (fuel := 1) 14 rfl (by kernel_rfl) (listed' := #[true, true, true, true, true, true, true, true, true, true, true, true, true, true, true, false]) (by kernel_rfl) (fun _ _ _ h => h) (by kernel_rfl) (fun w' hR => by go_simp; first | done | with_reducible rfl) rfl ?_
        try simp only [Act.put, List.setIfInBounds_toArray, List.set_cons_zero, List.set_cons_succ]
        refine re_free (fuel := 0) 15 rfl (by kernel_rfl) (listed' := #[true, true, true, true, true, true, true, true, true, true, true, true, true, true, true, true]) (by kernel_rfl) (by kernel_rfl) (fun K' hK => ?_)
        obtain ⟨x0, x1, -⟩ := HF.out w10 (Keep.of_below HB10.out); go_wp2_with fail
        refine hK.out _ _ trivial ?_
        clear hK K'
        try simp only [Act.put, List.setIfInBounds_toArray, List.set_cons_zero, List.set_cons_succ]
        refine re_done (by kernel_rfl) ?_
        go_wp2
        have H11 := Aside0.mk (mb_size (HF.out w10 (Keep.of_below HB10.out)).2.2.2.2.2 hRF ((n : Int) + (L : Int)))
        go_roundw
        case rel =>
          refine ⟨i + 1, putT T pj rest, n + L, by omega, by go_num, ⟨?_⟩, HO2, ⟨hLn⟩⟩
          have h := H11.out
          rw [show ((n : Int) + (L : Int)) = ((n + L : Nat) : Int) by omega] at h
          exact h
        case measure => simp [intOf]; omega
      · have HST := Aside0.mk (show openL (l.drop i) T n = (T, n) by rw [HDR.out]; exact openL_stop HBE2.out hst)
        have hnb2 : n ≤ nb := by have := HN.out; omega
        have hst3 : cd ≠ 0 ∨ (cd = 0 ∧ k ≠ 1) ∨ (cd = 0 ∧ k = 1 ∧ isT T pj = true) := by
          by_cases h1 : cd = 0
          · by_cases h2 : k = 1
            · refine .inr (.inr ⟨h1, h2, ?_⟩)
              cases hg : getT T pj with
              | none => exact absurd ⟨h2, h1, hg⟩ hst
              | some v => unfold isT; rw [hg]; rfl
            · exact .inr (.inl ⟨h1, h2⟩)
          · exact .inl h1
        clear hst
        have hcd : (cd != 0) = false → cd = 0 := fun h => by simpa using h
        clear hcd
        rcases hst3 with h1 | ⟨h1, h2⟩ | ⟨h1, h2, h3⟩
        · have hb1 : (cd != 0) = true := bne_iff_ne.mpr h1
          clear h1
          go_wp2_with (first
            | (go_at_call 43; rw [← hW5]; clear hW5; refine (Lr.below_calls wr.heap.size bR bd 0 16 W5 HRD.out HBDY.out (by decide) (by decide)).mono ?_; rw [HBE2.out]; rintro e w6 ⟨rfl, hr6, hk6, hs6⟩; have h6 := H.out.below (hFT _ _ _ _) (HLOW.out w6 hk6); obtain ⟨x1, x1'⟩ := hr6.code; have x4 := (mb_cells h6).2.1; have H6 := Aside0.mk h6; clear h6 hr6 hk6 hs6)
            | (go_at_call 44; refine (m_cut (H6.out).unfirst.second (hRT _ _ _ _) n (by rw [HBE.out, HNB.out]; omega)).mono ?_; rintro e w9 ⟨rfl, h9⟩; have H9 := Aside0.mk h9.unsecond; clear h9))
          go_ret
          refine ⟨gM, T, n, rfl, ⟨l, m, HALL.out, ?_⟩, by omega, ?_⟩
          · rw [← HO.out]; exact HST.out
          · have h := HBACK.out _ _ H9.out
            rw [HBE.out] at h
            show AtP W0 N w9 (Star (Star (MBA gM gF ((b.take n).length : Int) (isT T) (datT T)) (FileM gF room (b.take n) [])) R)
            rw [show ((b.take n).length : Int) = n by rw [List.length_take, HNB.out]; omega]
            exact h
        · subst h1
          have hb2 : (k != 1) = true := bne_iff_ne.mpr h2
          clear h2
          go_wp2_with (first
            | (go_at_call 43; rw [← hW5]; clear hW5; refine (Lr.below_calls wr.heap.size bR bd 0 16 W5 HRD.out HBDY.out (by decide) (by decide)).mono ?_; rw [HBE2.out]; rintro e w6 ⟨rfl, hr6, hk6, hs6⟩; have h6 := H.out.below (hFT _ _ _ _) (HLOW.out w6 hk6); obtain ⟨x1, x1'⟩ := hr6.code; obtain ⟨x2, x3, -⟩ := HFG.out w6 h6.keep; have x4 := (mb_cells h6).2.1; have H6 := Aside0.mk h6; clear h6 hr6 hk6 hs6)
            | (go_at_call 44; refine (m_cut (H6.out).unfirst.second (hRT _ _ _ _) n (by rw [HBE.out, HNB.out]; omega)).mono ?_; rintro e w9 ⟨rfl, h9⟩; have H9 := Aside0.mk h9.unsecond; clear h9))
          go_ret
          refine ⟨gM, T, n, rfl, ⟨l, m, HALL.out, ?_⟩, by omega, ?_⟩
          · rw [← HO.out]; exact HST.out
          · have h := HBACK.out _ _ H9.out
            rw [HBE.out] at h
            show AtP W0 N w9 (Star (Star (MBA gM gF ((b.take n).length : Int) (isT T) (datT T)) (FileM gF room (b.take n) [])) R)
            rw [show ((b.take n).length : Int) = n by rw [List.length_take, HNB.out]; omega]
            exact h
        · subst h1 h2
          go_wp2_with (first
            | (go_at_call 43; rw [← hW5]; clear hW5; refine (Lr.below_calls wr.heap.size bR bd 0 16 W5 HRD.out HBDY.out (by decide) (by decide)).mono ?_; rw [HBE2.out]; rintro e w6 ⟨rfl, hr6, hk6, hs6⟩; have h6 := H.out.below (hFT _ _ _ _) (HLOW.out w6 hk6); obtain ⟨x1, x1'⟩ := hr6.code; obtain ⟨x2, x3, -⟩ := HFG.out w6 h6.keep; have x4 := (mb_cells h6).2.1; have x5 := (mb_cells h6).2.2.2.1 pj hpj; rw [h3] at x5; have H6 := Aside0.mk h6; clear h6 hr6 hk6 hs6)
            | (go_at_call 44; refine (m_cut (H6.out).unfirst.second (hRT _ _ _ _) n (by rw [HBE.out, HNB.out]; omega)).mono ?_; rintro e w9 ⟨rfl, h9⟩; have H9 := Aside0.mk h9.unsecond; clear h9))
          go_ret
          refine ⟨gM, T, n, rfl, ⟨l, m, HALL.out, ?_⟩, by omega, ?_⟩
          · rw [← HO.out]; exact HST.out
          · have h := HBACK.out _ _ H9.out
            rw [HBE.out] at h
            show AtP W0 N w9 (Star (Star (MBA gM gF ((b.take n).length : Int) (isT T) (datT T)) (FileM gF room (b.take n) [])) R)
            rw [show ((b.take n).length : Int) = n by rw [List.length_take, HNB.out]; omega]
            exact h
    · have hie : i = l.length := by omega
      subst hie
      have HST := Aside0.mk (show openL (l.drop l.length) T n = (T, n) by rw [List.drop_length]; rfl)
      have hnb2 : n ≤ nb := by have := HN.out; omega
      have x4 := (mb_cells H.out).2.1
      have H6 := H
      go_wp2_with (first
        | (go_at_call 44; refine (m_cut (H6.out).unfirst.second (hRT _ _ _ _) n (by rw [HBE.out, HNB.out]; omega)).mono ?_; rintro e w9 ⟨rfl, h9⟩; have H9 := Aside0.mk h9.unsecond; clear h9))
      go_ret
      refine ⟨gM, T, n, rfl, ⟨l, m, HALL.out, ?_⟩, by omega, ?_⟩
      · rw [← HO.out]; exact HST.out
      · have h := HBACK.out _ _ H9.out
        rw [HBE.out] at h
        show AtP W0 N w9 (Star (Star (MBA gM gF ((b.take n).length : Int) (isT T) (datT T)) (FileM gF room (b.take n) [])) R)
        rw [show ((b.take n).length : Int) = n by rw [List.length_take, HNB.out]; omega]
        exact h
end
end Go.Proofs.Ytfcpnjoiloahcaa.Mk
namespace Go.Proofs.Ytfcpnjoiloahcaa.Mk
open Go.RowKit Go.Proofs.YtfcpnjoiloahcaaW.PrintWords Go.Proofs.YtfcpnjoiloahcaaW.PrintLast Go.Proofs.YtfcpnjoiloahcaaW.PrintMore Go.Proofs.Ytfcpnjoiloahcaa.B Go.Proofs.Ytfcpnjoiloahcaa.Ta Go.Proofs.Ytfcpnjoiloahcaa.Fs Go.Proofs.Ytfcpnjoiloahcaa.Sp Go.Proofs.Ytfcpnjoiloahcaa.Ls Go.Proofs.Ytfcpnjoiloahcaa.Gs Go.Proofs.Ytfcpnjoiloahcaa.S Go.Proofs.Ytfcpnjoiloahcaa.R Go.Proofs.Ytfcpnjoiloahcaa.Bk
set_option linter.unusedVariables false
set_option linter.unusedSimpArgs false
section
variable {W0 w w' w1 : World} {N own : Nat → Prop} {R : Assn} {g gB gF gM gMF : Nat} {room size size' : Int} {s s' : List Int} {q : List (Int × List Int)} {t t' : Tab}
set_option maxHeartbeats 4000000 in
set_option maxRecDepth 100000 in
theorem shows_true (h : AtP W0 N w (Star (TabA gB gF size t) (Star (TabM gM gMF size' t) R))) (hR : Firm R) :
    Calls Try.prog 25 #[.pointer (some ⟨gB, 0, none⟩), .pointer (some ⟨gM, 0, none⟩)] w fun e w' => e = .returned (.bool true) ∧ Below w.heap.size w w' := by
  have H := Aside0.mk h
  have hfm : Firm (Star (TabA gB gF size t) (Star (TabM gM gMF size' t) R)) := TabA.firm.star (MBA.firm.star hR)
  have HTK := Aside0.mk h.tok
  obtain ⟨nj, hnj⟩ : ∃ nj, (keysT t).length = nj := ⟨_, rfl⟩
  have hnj16 : nj ≤ 16 := by rw [← hnj, keys_len]; exact h.tok.len
  have HNJ := Aside0.mk hnj
  have HJK := Aside0.mk (jobs_keys h.tok)
  have mixed : Try.prog.follows .mixedOrders = true := by kernel_rfl
  clear h hnj
  go_enter Try.func25, Try.ntmps25
  go_wp2_with (first
    | (go_at_call 32; refine (jobs_at H.out (keysT t) nj rfl HNJ.out).mono ?_; rintro e w2 ⟨A2, c2, rfl, hC2, -, hb2⟩; have HC2 := Aside0.mk hC2; have HB2 := Aside0.mk hb2; clear hC2 hb2)
    | (go_at_call 51; refine (mjobs ((H.out.below hfm HB2.out).unfirst.second) (TabA.firm.star hR) (keysT t) nj HJK.out HNJ.out).mono ?_; rintro e w3 ⟨A3, c3, rfl, hC3, -, hb3⟩; have HC3 := Aside0.mk hC3; have HC2' := Aside0.mk (Kd.C_below HC2.out hb3); have HB3 := Aside0.mk (HB2.out.trans (hb3.mono HB2.out.size)); clear hC3 hb3 HC2)
    | (go_at_call 33; refine (same_ints A2 A3 c2 c3 (keysT t) nj HNJ.out (by omega) w3 HC2'.out HC3.out).mono ?_; rintro e w4 ⟨rfl, hb4⟩; have HB4 := Aside0.mk (HB3.out.trans (hb4.mono HB3.out.size)); clear hb4))
  clear HB2 HB3 HC2' HC3
  go_loopw [5] (fun vi wr => ∃ i : Int, -1 ≤ i ∧ i ≤ 17 ∧ vi = .int .i64 i ∧ Aside0 (Below w.heap.size w wr)) (fun vi _ => (17 - intOf vi).toNat)
  case atStart => exact ⟨-1, by omega, by omega, rfl, HB4⟩
  case round =>
    clear HB4
    obtain ⟨i, hi0, hi1, rfl, HB⟩ := hrel
    have HH := Aside0.mk (H.out.below hfm HB.out)
    by_cases hk17 : i = 17
    · subst hk17
      go_wp2_with fail
      go_ret
      exact ⟨rfl, HB.out⟩
    by_cases hm1 : i = -1
    · subst hm1
      have HG := Aside0.mk (show getT t (-1) = none from none_of (fun hm => by have := HTK.out.key _ hm; omega))
      go_wp2_with (first
        | (go_at_call 34; refine (bget_none HH.out (-1) HG.out).mono ?_; rintro e w5 ⟨A5, c5, rfl, hb5⟩; have HB2 := Aside0.mk (HB.out.trans (hb5.mono HB.out.size)); clear hb5))
      refine rk_start (fun _ => False) (by kernel_rfl) (n := 27) (l := #[false, false, false, false, false, false, false, false, false, false, false, false, false, false, false, false, false, false, false, false, false, false, false, false, false, false, false]) (by kernel_rfl) (by kernel_rfl) ?_
      refine rk_take (fuel := 26) 0 rfl (by kernel_rfl) (listed' := #[true, false, false, false, false, false, false, false, false, false, false, false, false, false, false, false, false, false, false, false, false, false, false, false, false, false, false]) (by kernel_rfl) (fun _ _ _ h => h) (by kernel_rfl) (fun w' hR => by go_simp; first | done | with_reducible rfl) rfl ?_
      try simp only [Act.put, List.setIfInBounds_toArray, List.set_cons_zero, List.set_cons_succ]
      refine rk_take (fuel := 25) 1 rfl (by kernel_rfl) (listed' := #[true, true, false, false, false, false, false, false, false, false, false, false, false, false, false, false, false, false, false, false, false, false, false, false, false, false, false]) (by kernel_rfl) (fun _ _ _ h => h) (by kernel_rfl) (fun w' hR => by go_simp; first | done | with_reducible rfl) rfl ?_
      try simp only [Act.put, List.setIfInBounds_toArray, List.set_cons_zero, List.set_cons_succ]
      refine rk_take (fuel := 24) 2 rfl (by kernel_rfl) (listed' := #[true, true, true, false, false, false, false, false, false, false, false, false, false, false, false, false, false, false, false, false, false, false, false, false, false, false, false]) (by kernel_rfl) (fun _ _ _ h => h) (by kernel_rfl) (fun w' hR => by go_simp; first | done | with_reducible rfl) rfl ?_
      try simp only [Act.put, List.setIfInBounds_toArray, List.set_cons_zero, List.set_cons_succ]
      refine rk_take (fuel := 23) 3 rfl (by kernel_rfl) (listed' := #[true, true, true, true, false, false, false, false, false, false, false, false, false, false, false, false, false, false, false, false, false, false, false, false, false, false, false]) (by kernel_rfl) (fun _ _ _ h => h) (by kernel_rfl) (fun w' hR => by go_simp; first | done | with_reducible rfl) rfl ?_
      try simp only [Act.put, List.setIfInBounds_toArray, List.set_cons_zero, List.set_cons_succ]
      refine rk_take (fuel := 22) 4 rfl (by kernel_rfl) (listed' := #[true, true, true, true, true, false, false, false, false, false, false, false, false, false, false, false, false, false, false, false, false, false, false, false, false, false, false]) (by kernel_rfl) (fun _ _ _ h => h) (by kernel_rfl) (fun w' hR => by go_simp; first | done | with_reducible rfl) rfl ?_
      try simp only [Act.put, List.setIfInBounds_toArray, List.set_cons_zero, List.set_cons_succ]
      refine rk_take (fuel := 21) 5 rfl (by kernel_rfl) (listed' := #[true, true, true, true, true, true, false, false, false, false, false, false, false, false, false, false, false, false, false, false, false, false, false, false, false, false, false]) (by kernel_rfl) (fun _ _ _ h => h) (by kernel_rfl) (fun w' hR => by go_simp; first | done | with_reducible rfl) rfl ?_
      try simp only [Act.put, List.setIfInBounds_toArray, List.set_cons_zero, List.set_cons_succ]
      refine rk_skip (fuel := 20) 6 rfl (by kernel_rfl) (listed' := #[true, true, true, true, true, true, true, false, false, false, false, false, false, false, false, false, false, false, false, false, false, false, false, false, false, false, false]) (by kernel_rfl) (fun _ _ _ h => h) (by kernel_rfl) rfl ?_
      try simp only [Act.put, List.setIfInBounds_toArray, List.set_cons_zero, List.set_cons_succ]
      refine rk_skip (fuel := 19) 7 rfl (by kernel_rfl) (listed' := #[true, true, true, true, true, true, true, true, false, false, false, false, false, false, false, false, false, false, false, false, false, false, false, false, false, false, false]) (by kernel_rfl) (fun _ _ _ h => h) (by kernel_rfl) rfl ?_
      try simp only [Act.put, List.setIfInBounds_toArray, List.set_cons_zero, List.set_cons_succ]
      refine rk_skip (fuel := 18) 8 rfl (by kernel_rfl) (listed' := #[true, true, true, true, true, true, true, true, true, false, false, false, false, false, false, false, false, false, false, false, false, false, false, false, false, false, false]) (by kernel_rfl) (fun _ _ _ h => h) (by kernel_rfl) rfl ?_
      try simp only [Act.put, List.setIfInBounds_toArray, List.set_cons_zero, List.set_cons_succ]
      refine rk_skip (fuel := 17) 9 rfl (by kernel_rfl) (listed' := #[true, true, true, true, true, true, true, true, true, true, false, false, false, false, false, false, false, false, false, false, false, false, false, false, false, false, false]) (by kernel_rfl) (fun _ _ _ h => h) (by kernel_rfl) rfl ?_
      try simp only [Act.put, List.setIfInBounds_toArray, List.set_cons_zero, List.set_cons_succ]
      refine rk_skip (fuel := 16) 10 rfl (by kernel_rfl) (listed' := #[true, true, true, true, true, true, true, true, true, true, true, false, false, false, false, false, false, false, false, false, false, false, false, false, false, false, false]) (by kernel_rfl) (fun _ _ _ h => h) (by kernel_rfl) rfl ?_
      try simp only [Act.put, List.setIfInBounds_toArray, List.set_cons_zero, List.set_cons_succ]
      refine rk_skip (fuel := 15) 11 rfl (by kernel_rfl) (listed' := #[true, true, true, true, true, true, true, true, true, true, true, true, false, false, false, false, false, false, false, false, false, false, false, false, false, false, false]) (by kernel_rfl) (fun _ _ _ h => h) (by kernel_rfl) rfl ?_
      try simp only [Act.put, List.setIfInBounds_toArray, List.set_cons_zero, List.set_cons_succ]
      refine rk_skip (fuel := 14) 12 rfl (by kernel_rfl) (listed' := #[true, true, true, true, true, true, true, true, true, true, true, true, true, false, false, false, false, false, false, false, false, false, false, false, false, false, false]) (by kernel_rfl) (fun _ _ _ h => h) (by kernel_rfl) rfl ?_
      try simp only [Act.put, List.setIfInBounds_toArray, List.set_cons_zero, List.set_cons_succ]
      refine rk_skip (fuel := 13) 13 rfl (by kernel_rfl) (listed' := #[true, true, true, true, true, true, true, true, true, true, true, true, true, true, false, false, false, false, false, false, false, false, false, false, false, false, false]) (by kernel_rfl) (fun _ _ _ h => h) (by kernel_rfl) rfl ?_
      try simp only [Act.put, List.setIfInBounds_toArray, List.set_cons_zero, List.set_cons_succ]
      refine rk_skip (fuel := 12) 14 rfl (by kernel_rfl) (listed' := #[true, true, true, true, true, true, true, true, true, true, true, true, true, true, true, false, false, false, false, false, false, false, false, false, false, false, false]) (by kernel_rfl) (fun _ _ _ h => h) (by kernel_rfl) rfl ?_
      try simp only [Act.put, List.setIfInBounds_toArray, List.set_cons_zero, List.set_cons_succ]
      refine rk_skip (fuel := 11) 15 rfl (by kernel_rfl) (listed' := #[true, true, true, true, true, true, true, true, true, true, true, true, true, true, true, true, false, false, false, false, false, false, false, false, false, false, false]) (by kernel_rfl) (fun _ _ _ h => h) (by kernel_rfl) rfl ?_
      try simp only [Act.put, List.setIfInBounds_toArray, List.set_cons_zero, List.set_cons_succ]
      refine rk_take (fuel := 10) 16 rfl (by kernel_rfl) (listed' := #[true, true, true, true, true, true, true, true, true, true, true, true, true, true, true, true, true, false, false, false, false, false, false, false, false, false, false]) (by kernel_rfl) (fun _ _ _ h => h) (by kernel_rfl) (fun w' hR => by go_simp; first | done | with_reducible rfl) rfl ?_
      try simp only [Act.put, List.setIfInBounds_toArray, List.set_cons_zero, List.set_cons_succ]
      refine rk_take (fuel := 9) 17 rfl (by kernel_rfl) (listed' := #[true, true, true, true, true, true, true, true, true, true, true, true, true, true, true, true, true, true, false, false, false, false, false, false, false, false, false]) (by kernel_rfl) (fun _ _ _ h => h) (by kernel_rfl) (fun w' hR => by go_simp; first | done | with_reducible rfl) rfl ?_
      try simp only [Act.put, List.setIfInBounds_toArray, List.set_cons_zero, List.set_cons_succ]
      refine rk_take (fuel := 8) 18 rfl (by kernel_rfl) (listed' := #[true, true, true, true, true, true, true, true, true, true, true, true, true, true, true, true, true, true, true, false, false, false, false, false, false, false, false]) (by kernel_rfl) (fun _ _ _ h => h) (by kernel_rfl) (fun w' hR => by go_simp; first | done | with_reducible rfl) rfl ?_
      try simp only [Act.put, List.setIfInBounds_toArray, List.set_cons_zero, List.set_cons_succ]
      refine rk_take (fuel := 7) 19 rfl (by kernel_rfl) (listed' := #[true, true, true, true, true, true, true, true, true, true, true, true, true, true, true, true, true, true, true, true, false, false, false, false, false, false, false]) (by kernel_rfl) (fun _ _ _ h => h) (by kernel_rfl) (fun w' hR => by go_simp; first | done | with_reducible rfl) rfl ?_
      try simp only [Act.put, List.setIfInBounds_toArray, List.set_cons_zero, List.set_cons_succ]
      refine rk_take (fuel := 6) 20 rfl (by kernel_rfl) (listed' := #[true, true, true, true, true, true, true, true, true, true, true, true, true, true, true, true, true, true, true, true, true, false, false, false, false, false, false]) (by kernel_rfl) (fun _ _ _ h => h) (by kernel_rfl) (fun w' hR => by go_simp; first | done | with_reducible rfl) rfl ?_
      try simp only [Act.put, List.setIfInBounds_toArray, List.set_cons_zero, List.set_cons_succ]
      refine rk_take (fuel := 5) 21 rfl (by kernel_rfl) (listed' := #[true, true, true, true, true, true, true, true, true, true, true, true, true, true, true, true, true, true, true, true, true, true, false, false, false, false, false]) (by kernel_rfl) (fun _ _ _ h => h) (by kernel_rfl) (fun w' hR => by go_simp; first | done | with_reducible rfl) rfl ?_
      try simp only [Act.put, List.setIfInBounds_toArray, List.set_cons_zero, List.set_cons_succ]
      refine rk_take (fuel := 4) 22 rfl (by kernel_rfl) (listed' := #[true, true, true, true, true, true, true, true, true, true, true, true, true, true, true, true, true, true, true, true, true, true, true, false, false, false, false]) (by kernel_rfl) (fun _ _ _ h => h) (by kernel_rfl) (fun w' hR => by go_simp; first | done | with_reducible rfl) rfl ?_
      try simp only [Act.put, List.setIfInBounds_toArray, List.set_cons_zero, List.set_cons_succ]
      refine rk_take (fuel := 3) 23 rfl (by kernel_rfl) (listed' := #[true, true, true, true, true, true, true, true, true, true, true, true, true, true, true, true, true, true, true, true, true, true, true, true, false, false, false]) (by kernel_rfl) (fun _ _ _ h => h) (by kernel_rfl) (fun w' hR => by go_simp; first | done | with_reducible rfl) rfl ?_
      try simp only [Act.put, List.setIfInBounds_toArray, List.set_cons_zero, List.set_cons_succ]
      refine rk_take (fuel := 2) 24 rfl (by kernel_rfl) (listed' := #[true, true, true, true, true, true, true, true, true, true, true, true, true, true, true, true, true, true, true, true, true, true, true, true, true, false, false]) (by kernel_rfl) (fun _ _ _ h => h) (by kernel_rfl) (fun w' hR => by go_simp; first | done | with_reducible rfl) rfl ?_
      try simp only [Act.put, List.setIfInBounds_toArray, List.set_cons_zero, List.set_cons_succ]
      refine rk_take (fuel := 1) 25 rfl (by kernel_rfl) (listed' := #[true, true, true, true, true, true, true, true, true, true, true, true, true, true, true, true, true, true, true, true, true, true, true, true, true, true, false]) (by kernel_rfl) (fun _ _ _ h => h) (by kernel_rfl) (fun w' hR => by go_simp; first | done | with_reducible rfl) rfl ?_
      try simp only [Act.put, List.setIfInBounds_toArray, List.set_cons_zero, List.set_cons_succ]
      refine rk_take (fuel := 0) 26 rfl (by kernel_rfl) (listed' := #[true, true, true, true, true, true, true, true, true, true, true, true, true, true, true, true, true, true, true, true, true, true, true, true, true, true, true]) (by kernel_rfl) (fun _ _ _ h => h) (by kernel_rfl) (fun w' hR => by go_simp; first | done | with_reducible rfl) rfl ?_
      try simp only [Act.put, List.setIfInBounds_toArray, List.set_cons_zero, List.set_cons_succ]
      refine rk_done (by kernel_rfl) ?_
      go_wp2
      go_roundw
      case rel => exact ⟨0, by omega, by omega, by go_num, ⟨HB2.out.drew⟩⟩
      case measure => simp [intOf]
    by_cases h16 : i = 16
    · subst h16
      have HG := Aside0.mk (show getT t 16 = none from none_of (fun hm => by have := HTK.out.key _ hm; omega))
      go_wp2_with (first
        | (go_at_call 34; refine (bget_none HH.out 16 HG.out).mono ?_; rintro e w5 ⟨A5, c5, rfl, hb5⟩; have HB2 := Aside0.mk (HB.out.trans (hb5.mono HB.out.size)); clear hb5))
      refine rk_start (fun _ => False) (by kernel_rfl) (n := 27) (l := #[false, false, false, false, false, false, false, false, false, false, false, false, false, false, false, false, false, false, false, false, false, false, false, false, false, false, false]) (by kernel_rfl) (by kernel_rfl) ?_
      refine rk_take (fuel := 26) 0 rfl (by kernel_rfl) (listed' := #[true, false, false, false, false, false, false, false, false, false, false, false, false, false, false, false, false, false, false, false, false, false, false, false, false, false, false]) (by kernel_rfl) (fun _ _ _ h => h) (by kernel_rfl) (fun w' hR => by go_simp; first | done | with_reducible rfl) rfl ?_
      try simp only [Act.put, List.setIfInBounds_toArray, List.set_cons_zero, List.set_cons_succ]
      refine rk_take (fuel := 25) 1 rfl (by kernel_rfl) (listed' := #[true, true, false, false, false, false, false, false, false, false, false, false, false, false, false, false, false, false, false, false, false, false, false, false, false, false, false]) (by kernel_rfl) (fun _ _ _ h => h) (by kernel_rfl) (fun w' hR => by go_simp; first | done | with_reducible rfl) rfl ?_
      try simp only [Act.put, List.setIfInBounds_toArray, List.set_cons_zero, List.set_cons_succ]
      refine rk_take (fuel := 24) 2 rfl (by kernel_rfl) (listed' := #[true, true, true, false, false, false, false, false, false, false, false, false, false, false, false, false, false, false, false, false, false, false, false, false, false, false, false]) (by kernel_rfl) (fun _ _ _ h => h) (by kernel_rfl) (fun w' hR => by go_simp; first | done | with_reducible rfl) rfl ?_
      try simp only [Act.put, List.setIfInBounds_toArray, List.set_cons_zero, List.set_cons_succ]
      refine rk_take (fuel := 23) 3 rfl (by kernel_rfl) (listed' := #[true, true, true, true, false, false, false, false, false, false, false, false, false, false, false, false, false, false, false, false, false, false, false, false, false, false, false]) (by kernel_rfl) (fun _ _ _ h => h) (by kernel_rfl) (fun w' hR => by go_simp; first | done | with_reducible rfl) rfl ?_
      try simp only [Act.put, List.setIfInBounds_toArray, List.set_cons_zero, List.set_cons_succ]
      refine rk_take (fuel := 22) 4 rfl (by kernel_rfl) (listed' := #[true, true, true, true, true, false, false, false, false, false, false, false, false, false, false, false, false, false, false, false, false, false, false, false, false, false, false]) (by kernel_rfl) (fun _ _ _ h => h) (by kernel_rfl) (fun w' hR => by go_simp; first | done | with_reducible rfl) rfl ?_
      try simp only [Act.put, List.setIfInBounds_toArray, List.set_cons_zero, List.set_cons_succ]
      refine rk_take (fuel := 21) 5 rfl (by kernel_rfl) (listed' := #[true, true, true, true, true, true, false, false, false, false, false, false, false, false, false, false, false, false, false, false, false, false, false, false, false, false, false]) (by kernel_rfl) (fun _ _ _ h => h) (by kernel_rfl) (fun w' hR => by go_simp; first | done | with_reducible rfl) rfl ?_
      try simp only [Act.put, List.setIfInBounds_toArray, List.set_cons_zero, List.set_cons_succ]
      refine rk_skip (fuel := 20) 6 rfl (by kernel_rfl) (listed' := #[true, true, true, true, true, true, true, false, false, false, false, false, false, false, false, false, false, false, false, false, false, false, false, false, false, false, false]) (by kernel_rfl) (fun _ _ _ h => h) (by kernel_rfl) rfl ?_
      try simp only [Act.put, List.setIfInBounds_toArray, List.set_cons_zero, List.set_cons_succ]
      refine rk_skip (fuel := 19) 7 rfl (by kernel_rfl) (listed' := #[true, true, true, true, true, true, true, true, false, false, false, false, false, false, false, false, false, false, false, false, false, false, false, false, false, false, false]) (by kernel_rfl) (fun _ _ _ h => h) (by kernel_rfl) rfl ?_
      try simp only [Act.put, List.setIfInBounds_toArray, List.set_cons_zero, List.set_cons_succ]
      refine rk_skip (fuel := 18) 8 rfl (by kernel_rfl) (listed' := #[true, true, true, true, true, true, true, true, true, false, false, false, false, false, false, false, false, false, false, false, false, false, false, false, false, false, false]) (by kernel_rfl) (fun _ _ _ h => h) (by kernel_rfl) rfl ?_
      try simp only [Act.put, List.setIfInBounds_toArray, List.set_cons_zero, List.set_cons_succ]
      refine rk_skip (fuel := 17) 9 rfl (by kernel_rfl) (listed' := #[true, true, true, true, true, true, true, true, true, true, false, false, false, false, false, false, false, false, false, false, false, false, false, false, false, false, false]) (by kernel_rfl) (fun _ _ _ h => h) (by kernel_rfl) rfl ?_
      try simp only [Act.put, List.setIfInBounds_toArray, List.set_cons_zero, List.set_cons_succ]
      refine rk_skip (fuel := 16) 10 rfl (by kernel_rfl) (listed' := #[true, true, true, true, true, true, true, true, true, true, true, false, false, false, false, false, false, false, false, false, false, false, false, false, false, false, false]) (by kernel_rfl) (fun _ _ _ h => h) (by kernel_rfl) rfl ?_
      try simp only [Act.put, List.setIfInBounds_toArray, List.set_cons_zero, List.set_cons_succ]
      refine rk_skip (fuel := 15) 11 rfl (by kernel_rfl) (listed' := #[true, true, true, true, true, true, true, true, true, true, true, true, false, false, false, false, false, false, false, false, false, false, false, false, false, false, false]) (by kernel_rfl) (fun _ _ _ h => h) (by kernel_rfl) rfl ?_
      try simp only [Act.put, List.setIfInBounds_toArray, List.set_cons_zero, List.set_cons_succ]
      refine rk_skip (fuel := 14) 12 rfl (by kernel_rfl) (listed' := #[true, true, true, true, true, true, true, true, true, true, true, true, true, false, false, false, false, false, false, false, false, false, false, false, false, false, false]) (by kernel_rfl) (fun _ _ _ h => h) (by kernel_rfl) rfl ?_
      try simp only [Act.put, List.setIfInBounds_toArray, List.set_cons_zero, List.set_cons_succ]
      refine rk_skip (fuel := 13) 13 rfl (by kernel_rfl) (listed' := #[true, true, true, true, true, true, true, true, true, true, true, true, true, true, false, false, false, false, false, false, false, false, false, false, false, false, false]) (by kernel_rfl) (fun _ _ _ h => h) (by kernel_rfl) rfl ?_
      try simp only [Act.put, List.setIfInBounds_toArray, List.set_cons_zero, List.set_cons_succ]
      refine rk_skip (fuel := 12) 14 rfl (by kernel_rfl) (listed' := #[true, true, true, true, true, true, true, true, true, true, true, true, true, true, true, false, false, false, false, false, false, false, false, false, false, false, false]) (by kernel_rfl) (fun _ _ _ h => h) (by kernel_rfl) rfl ?_
      try simp only [Act.put, List.setIfInBounds_toArray, List.set_cons_zero, List.set_cons_succ]
      refine rk_skip (fuel := 11) 15 rfl (by kernel_rfl) (listed' := #[true, true, true, true, true, true, true, true, true, true, true, true, true, true, true, true, false, false, false, false, false, false, false, false, false, false, false]) (by kernel_rfl) (fun _ _ _ h => h) (by kernel_rfl) rfl ?_
      try simp only [Act.put, List.setIfInBounds_toArray, List.set_cons_zero, List.set_cons_succ]
      refine rk_take (fuel := 10) 16 rfl (by kernel_rfl) (listed' := #[true, true, true, true, true, true, true, true, true, true, true, true, true, true, true, true, true, false, false, false, false, false, false, false, false, false, false]) (by kernel_rfl) (fun _ _ _ h => h) (by kernel_rfl) (fun w' hR => by go_simp; first | done | with_reducible rfl) rfl ?_
      try simp only [Act.put, List.setIfInBounds_toArray, List.set_cons_zero, List.set_cons_succ]
      refine rk_take (fuel := 9) 17 rfl (by kernel_rfl) (listed' := #[true, true, true, true, true, true, true, true, true, true, true, true, true, true, true, true, true, true, false, false, false, false, false, false, false, false, false]) (by kernel_rfl) (fun _ _ _ h => h) (by kernel_rfl) (fun w' hR => by go_simp; first | done | with_reducible rfl) rfl ?_
      try simp only [Act.put, List.setIfInBounds_toArray, List.set_cons_zero, List.set_cons_succ]
      refine rk_take (fuel := 8) 18 rfl (by kernel_rfl) (listed' := #[true, true, true, true, true, true, true, true, true, true, true, true, true, true, true, true, true, true, true, false, false, false, false, false, false, false, false]) (by kernel_rfl) (fun _ _ _ h => h) (by kernel_rfl) (fun w' hR => by go_simp; first | done | with_reducible rfl) rfl ?_
      try simp only [Act.put, List.setIfInBounds_toArray, List.set_cons_zero, List.set_cons_succ]
      refine rk_take (fuel := 7) 19 rfl (by kernel_rfl) (listed' := #[true, true, true, true, true, true, true, true, true, true, true, true, true, true, true, true, true, true, true, true, false, false, false, false, false, false, false]) (by kernel_rfl) (fun _ _ _ h => h) (by kernel_rfl) (fun w' hR => by go_simp; first | done | with_reducible rfl) rfl ?_
      try simp only [Act.put, List.setIfInBounds_toArray, List.set_cons_zero, List.set_cons_succ]
      refine rk_take (fuel := 6) 20 rfl (by kernel_rfl) (listed' := #[true, true, true, true, true, true, true, true, true, true, true, true, true, true, true, true, true, true, true, true, true, false, false, false, false, false, false]) (by kernel_rfl) (fun _ _ _ h => h) (by kernel_rfl) (fun w' hR => by go_simp; first | done | with_reducible rfl) rfl ?_
      try simp only [Act.put, List.setIfInBounds_toArray, List.set_cons_zero, List.set_cons_succ]
      refine rk_take (fuel := 5) 21 rfl (by kernel_rfl) (listed' := #[true, true, true, true, true, true, true, true, true, true, true, true, true, true, true, true, true, true, true, true, true, true, false, false, false, false, false]) (by kernel_rfl) (fun _ _ _ h => h) (by kernel_rfl) (fun w' hR => by go_simp; first | done | with_reducible rfl) rfl ?_
      try simp only [Act.put, List.setIfInBounds_toArray, List.set_cons_zero, List.set_cons_succ]
      refine rk_take (fuel := 4) 22 rfl (by kernel_rfl) (listed' := #[true, true, true, true, true, true, true, true, true, true, true, true, true, true, true, true, true, true, true, true, true, true, true, false, false, false, false]) (by kernel_rfl) (fun _ _ _ h => h) (by kernel_rfl) (fun w' hR => by go_simp; first | done | with_reducible rfl) rfl ?_
      try simp only [Act.put, List.setIfInBounds_toArray, List.set_cons_zero, List.set_cons_succ]
      refine rk_take (fuel := 3) 23 rfl (by kernel_rfl) (listed' := #[true, true, true, true, true, true, true, true, true, true, true, true, true, true, true, true, true, true, true, true, true, true, true, true, false, false, false]) (by kernel_rfl) (fun _ _ _ h => h) (by kernel_rfl) (fun w' hR => by go_simp; first | done | with_reducible rfl) rfl ?_
      try simp only [Act.put, List.setIfInBounds_toArray, List.set_cons_zero, List.set_cons_succ]
      refine rk_take (fuel := 2) 24 rfl (by kernel_rfl) (listed' := #[true, true, true, true, true, true, true, true, true, true, true, true, true, true, true, true, true, true, true, true, true, true, true, true, true, false, false]) (by kernel_rfl) (fun _ _ _ h => h) (by kernel_rfl) (fun w' hR => by go_simp; first | done | with_reducible rfl) rfl ?_
      try simp only [Act.put, List.setIfInBounds_toArray, List.set_cons_zero, List.set_cons_succ]
      refine rk_take (fuel := 1) 25 rfl (by kernel_rfl) (listed' := #[true, true, true, true, true, true, true, true, true, true, true, true, true, true, true, true, true, true, true, true, true, true, true, true, true, true, false]) (by kernel_rfl) (fun _ _ _ h => h) (by kernel_rfl) (fun w' hR => by go_simp; first | done | with_reducible rfl) rfl ?_
      try simp only [Act.put, List.setIfInBounds_toArray, List.set_cons_zero, List.set_cons_succ]
      refine rk_take (fuel := 0) 26 rfl (by kernel_rfl) (listed' := #[true, true, true, true, true, true, true, true, true, true, true, true, true, true, true, true, true, true, true, true, true, true, true, true, true, true, true]) (by kernel_rfl) (fun _ _ _ h => h) (by kernel_rfl) (fun w' hR => by go_simp; first | done | with_reducible rfl) rfl ?_
      try simp only [Act.put, List.setIfInBounds_toArray, List.set_cons_zero, List.set_cons_succ]
      refine rk_done (by kernel_rfl) ?_
      go_wp2
      go_roundw
      case rel => exact ⟨17, by omega, by omega, by go_num, ⟨HB2.out.drew⟩⟩
      case measure => simp [intOf]
    obtain ⟨p, rfl⟩ : ∃ p : Nat, i = p := ⟨i.toNat, by omega⟩
    have hp16 : p < 16 := by omega
    have hpI : (p : Int) < 16 := by omega
    have hmin : (if (15 : Int) < (p : Int) then (15 : Int) else (p : Int)) = (p : Int) := by split <;> omega
    have hmax : (if 0 < p then (p : Int) else 0) = (p : Int) := by split <;> omega
    cases hg : getT t p with
    | none =>
      have hisf : isT t p = false := by unfold isT; rw [hg]; rfl
      have HG := Aside0.mk hg
      clear hg
      go_wp2_with (first
        | (go_at_call 34; refine (bget_none HH.out p HG.out).mono ?_; rintro e w5 ⟨A5, c5, rfl, hb5⟩; have x4 := (mb_cells (HH.out.below hfm hb5).unfirst.second).2.2.2.1 p hp16; rw [hisf] at x4; have HB2 := Aside0.mk (HB.out.trans (hb5.mono HB.out.size)); clear hb5))
      refine rk_start (fun _ => False) (by kernel_rfl) (n := 27) (l := #[false, false, false, false, false, false, false, false, false, false, false, false, false, false, false, false, false, false, false, false, false, false, false, false, false, false, false]) (by kernel_rfl) (by kernel_rfl) ?_
      refine rk_take (fuel := 26) 0 rfl (by kernel_rfl) (listed' := #[true, false, false, false, false, false, false, false, false, false, false, false, false, false, false, false, false, false, false, false, false, false, false, false, false, false, false]) (by kernel_rfl) (fun _ _ _ h => h) (by kernel_rfl) (fun w' hR => by go_simp; first | done | with_reducible rfl) rfl ?_
      try simp only [Act.put, List.setIfInBounds_toArray, List.set_cons_zero, List.set_cons_succ]
      refine rk_take (fuel := 25) 1 rfl (by kernel_rfl) (listed' := #[true, true, false, false, false, false, false, false, false, false, false, false, false, false, false, false, false, false, false, false, false, false, false, false, false, false, false]) (by kernel_rfl) (fun _ _ _ h => h) (by kernel_rfl) (fun w' hR => by go_simp; first | done | with_reducible rfl) rfl ?_
      try simp only [Act.put, List.setIfInBounds_toArray, List.set_cons_zero, List.set_cons_succ]
      refine rk_take (fuel := 24) 2 rfl (by kernel_rfl) (listed' := #[true, true, true, false, false, false, false, false, false, false, false, false, false, false, false, false, false, false, false, false, false, false, false, false, false, false, false]) (by kernel_rfl) (fun _ _ _ h => h) (by kernel_rfl) (fun w' hR => by go_simp; first | done | with_reducible rfl) rfl ?_
      try simp only [Act.put, List.setIfInBounds_toArray, List.set_cons_zero, List.set_cons_succ]
      refine rk_take (fuel := 23) 3 rfl (by kernel_rfl) (listed' := #[true, true, true, true, false, false, false, false, false, false, false, false, false, false, false, false, false, false, false, false, false, false, false, false, false, false, false]) (by kernel_rfl) (fun _ _ _ h => h) (by kernel_rfl) (fun w' hR => by go_simp; first | done | with_reducible rfl) rfl ?_
      try simp only [Act.put, List.setIfInBounds_toArray, List.set_cons_zero, List.set_cons_succ]
      refine rk_take (fuel := 22) 4 rfl (by kernel_rfl) (listed' := #[true, true, true, true, true, false, false, false, false, false, false, false, false, false, false, false, false, false, false, false, false, false, false, false, false, false, false]) (by kernel_rfl) (fun _ _ _ h => h) (by kernel_rfl) (fun w' hR => by go_simp; first | done | with_reducible rfl) rfl ?_
      try simp only [Act.put, List.setIfInBounds_toArray, List.set_cons_zero, List.set_cons_succ]
      refine rk_take (fuel := 21) 5 rfl (by kernel_rfl) (listed' := #[true, true, true, true, true, true, false, false, false, false, false, false, false, false, false, false, false, false, false, false, false, false, false, false, false, false, false]) (by kernel_rfl) (fun _ _ _ h => h) (by kernel_rfl) (fun w' hR => by go_simp; first | done | with_reducible rfl) rfl ?_
      try simp only [Act.put, List.setIfInBounds_toArray, List.set_cons_zero, List.set_cons_succ]
      refine rk_skip (fuel := 20) 6 rfl (by kernel_rfl) (listed' := #[true, true, true, true, true, true, true, false, false, false, false, false, false, false, false, false, false, false, false, false, false, false, false, false, false, false, false]) (by kernel_rfl) (fun _ _ _ h => h) (by kernel_rfl) rfl ?_
      try simp only [Act.put, List.setIfInBounds_toArray, List.set_cons_zero, List.set_cons_succ]
      refine rk_skip (fuel := 19) 7 rfl (by kernel_rfl) (listed' := #[true, true, true, true, true, true, true, true, false, false, false, false, false, false, false, false, false, false, false, false, false, false, false, false, false, false, false]) (by kernel_rfl) (fun _ _ _ h => h) (by kernel_rfl) rfl ?_
      try simp only [Act.put, List.setIfInBounds_toArray, List.set_cons_zero, List.set_cons_succ]
      refine rk_skip (fuel := 18) 8 rfl (by kernel_rfl) (listed' := #[true, true, true, true, true, true, true, true, true, false, false, false, false, false, false, false, false, false, false, false, false, false, false, false, false, false, false]) (by kernel_rfl) (fun _ _ _ h => h) (by kernel_rfl) rfl ?_
      try simp only [Act.put, List.setIfInBounds_toArray, List.set_cons_zero, List.set_cons_succ]
      refine rk_skip (fuel := 17) 9 rfl (by kernel_rfl) (listed' := #[true, true, true, true, true, true, true, true, true, true, false, false, false, false, false, false, false, false, false, false, false, false, false, false, false, false, false]) (by kernel_rfl) (fun _ _ _ h => h) (by kernel_rfl) rfl ?_
      try simp only [Act.put, List.setIfInBounds_toArray, List.set_cons_zero, List.set_cons_succ]
      refine rk_skip (fuel := 16) 10 rfl (by kernel_rfl) (listed' := #[true, true, true, true, true, true, true, true, true, true, true, false, false, false, false, false, false, false, false, false, false, false, false, false, false, false, false]) (by kernel_rfl) (fun _ _ _ h => h) (by kernel_rfl) rfl ?_
      try simp only [Act.put, List.setIfInBounds_toArray, List.set_cons_zero, List.set_cons_succ]
      refine rk_skip (fuel := 15) 11 rfl (by kernel_rfl) (listed' := #[true, true, true, true, true, true, true, true, true, true, true, true, false, false, false, false, false, false, false, false, false, false, false, false, false, false, false]) (by kernel_rfl) (fun _ _ _ h => h) (by kernel_rfl) rfl ?_
      try simp only [Act.put, List.setIfInBounds_toArray, List.set_cons_zero, List.set_cons_succ]
      refine rk_skip (fuel := 14) 12 rfl (by kernel_rfl) (listed' := #[true, true, true, true, true, true, true, true, true, true, true, true, true, false, false, false, false, false, false, false, false, false, false, false, false, false, false]) (by kernel_rfl) (fun _ _ _ h => h) (by kernel_rfl) rfl ?_
      try simp only [Act.put, List.setIfInBounds_toArray, List.set_cons_zero, List.set_cons_succ]
      refine rk_skip (fuel := 13) 13 rfl (by kernel_rfl) (listed' := #[true, true, true, true, true, true, true, true, true, true, true, true, true, true, false, false, false, false, false, false, false, false, false, false, false, false, false]) (by kernel_rfl) (fun _ _ _ h => h) (by kernel_rfl) rfl ?_
      try simp only [Act.put, List.setIfInBounds_toArray, List.set_cons_zero, List.set_cons_succ]
      refine rk_skip (fuel := 12) 14 rfl (by kernel_rfl) (listed' := #[true, true, true, true, true, true, true, true, true, true, true, true, true, true, true, false, false, false, false, false, false, false, false, false, false, false, false]) (by kernel_rfl) (fun _ _ _ h => h) (by kernel_rfl) rfl ?_
      try simp only [Act.put, List.setIfInBounds_toArray, List.set_cons_zero, List.set_cons_succ]
      refine rk_skip (fuel := 11) 15 rfl (by kernel_rfl) (listed' := #[true, true, true, true, true, true, true, true, true, true, true, true, true, true, true, true, false, false, false, false, false, false, false, false, false, false, false]) (by kernel_rfl) (fun _ _ _ h => h) (by kernel_rfl) rfl ?_
      try simp only [Act.put, List.setIfInBounds_toArray, List.set_cons_zero, List.set_cons_succ]
      refine rk_take (fuel := 10) 16 rfl (by kernel_rfl) (listed' := #[true, true, true, true, true, true, true, true, true, true, true, true, true, true, true, true, true, false, false, false, false, false, false, false, false, false, false]) (by kernel_rfl) (fun _ _ _ h => h) (by kernel_rfl) (fun w' hR => by go_simp; first | done | with_reducible rfl) rfl ?_
      try simp only [Act.put, List.setIfInBounds_toArray, List.set_cons_zero, List.set_cons_succ]
      refine rk_take (fuel := 9) 17 rfl (by kernel_rfl) (listed' := #[true, true, true, true, true, true, true, true, true, true, true, true, true, true, true, true, true, true, false, false, false, false, false, false, false, false, false]) (by kernel_rfl) (fun _ _ _ h => h) (by kernel_rfl) (fun w' hR => by go_simp; first | done | with_reducible rfl) rfl ?_
      try simp only [Act.put, List.setIfInBounds_toArray, List.set_cons_zero, List.set_cons_succ]
      refine rk_take (fuel := 8) 18 rfl (by kernel_rfl) (listed' := #[true, true, true, true, true, true, true, true, true, true, true, true, true, true, true, true, true, true, true, false, false, false, false, false, false, false, false]) (by kernel_rfl) (fun _ _ _ h => h) (by kernel_rfl) (fun w' hR => by go_simp; first | done | with_reducible rfl) rfl ?_
      try simp only [Act.put, List.setIfInBounds_toArray, List.set_cons_zero, List.set_cons_succ]
      refine rk_take (fuel := 7) 19 rfl (by kernel_rfl) (listed' := #[true, true, true, true, true, true, true, true, true, true, true, true, true, true, true, true, true, true, true, true, false, false, false, false, false, false, false]) (by kernel_rfl) (fun _ _ _ h => h) (by kernel_rfl) (fun w' hR => by go_simp; first | done | with_reducible rfl) rfl ?_
      try simp only [Act.put, List.setIfInBounds_toArray, List.set_cons_zero, List.set_cons_succ]
      refine rk_take (fuel := 6) 20 rfl (by kernel_rfl) (listed' := #[true, true, true, true, true, true, true, true, true, true, true, true, true, true, true, true, true, true, true, true, true, false, false, false, false, false, false]) (by kernel_rfl) (fun _ _ _ h => h) (by kernel_rfl) (fun w' hR => by go_simp; first | done | with_reducible rfl) rfl ?_
      try simp only [Act.put, List.setIfInBounds_toArray, List.set_cons_zero, List.set_cons_succ]
      refine rk_take (fuel := 5) 21 rfl (by kernel_rfl) (listed' := #[true, true, true, true, true, true, true, true, true, true, true, true, true, true, true, true, true, true, true, true, true, true, false, false, false, false, false]) (by kernel_rfl) (fun _ _ _ h => h) (by kernel_rfl) (fun w' hR => by go_simp; first | done | with_reducible rfl) rfl ?_
      try simp only [Act.put, List.setIfInBounds_toArray, List.set_cons_zero, List.set_cons_succ]
      refine rk_take (fuel := 4) 22 rfl (by kernel_rfl) (listed' := #[true, true, true, true, true, true, true, true, true, true, true, true, true, true, true, true, true, true, true, true, true, true, true, false, false, false, false]) (by kernel_rfl) (fun _ _ _ h => h) (by kernel_rfl) (fun w' hR => by go_simp; first | done | with_reducible rfl) rfl ?_
      try simp only [Act.put, List.setIfInBounds_toArray, List.set_cons_zero, List.set_cons_succ]
      refine rk_take (fuel := 3) 23 rfl (by kernel_rfl) (listed' := #[true, true, true, true, true, true, true, true, true, true, true, true, true, true, true, true, true, true, true, true, true, true, true, true, false, false, false]) (by kernel_rfl) (fun _ _ _ h => h) (by kernel_rfl) (fun w' hR => by go_simp; first | done | with_reducible rfl) rfl ?_
      try simp only [Act.put, List.setIfInBounds_toArray, List.set_cons_zero, List.set_cons_succ]
      refine rk_take (fuel := 2) 24 rfl (by kernel_rfl) (listed' := #[true, true, true, true, true, true, true, true, true, true, true, true, true, true, true, true, true, true, true, true, true, true, true, true, true, false, false]) (by kernel_rfl) (fun _ _ _ h => h) (by kernel_rfl) (fun w' hR => by go_simp; first | done | with_reducible rfl) rfl ?_
      try simp only [Act.put, List.setIfInBounds_toArray, List.set_cons_zero, List.set_cons_succ]
      refine rk_take (fuel := 1) 25 rfl (by kernel_rfl) (listed' := #[true, true, true, true, true, true, true, true, true, true, true, true, true, true, true, true, true, true, true, true, true, true, true, true, true, true, false]) (by kernel_rfl) (fun _ _ _ h => h) (by kernel_rfl) (fun w' hR => by go_simp; first | done | with_reducible rfl) rfl ?_
      try simp only [Act.put, List.setIfInBounds_toArray, List.set_cons_zero, List.set_cons_succ]
      refine rk_take (fuel := 0) 26 rfl (by kernel_rfl) (listed' := #[true, true, true, true, true, true, true, true, true, true, true, true, true, true, true, true, true, true, true, true, true, true, true, true, true, true, true]) (by kernel_rfl) (fun _ _ _ h => h) (by kernel_rfl) (fun w' hR => by go_simp; first | done | with_reducible rfl) rfl ?_
      try simp only [Act.put, List.setIfInBounds_toArray, List.set_cons_zero, List.set_cons_succ]
      refine rk_done (by kernel_rfl) ?_
      go_wp2
      go_roundw
      case rel => exact ⟨(p : Int) + 1, by omega, by omega, by go_num, ⟨HB2.out.drew⟩⟩
      case measure => simp [intOf]; omega
    | some v =>
      have hist : isT t p = true := by unfold isT; rw [hg]; rfl
      have hdt : datT t p = v := by unfold datT; rw [hg]; rfl
      have HG := Aside0.mk hg
      have HDT := Aside0.mk hdt
      clear hg hdt
      go_wp2_with (first
        | (go_at_call 34; refine (bget_some HH.out p v v.length HG.out rfl).mono ?_; rintro e w5 ⟨A5, c5, rfl, hC5, -, hb5⟩; have x4 := (mb_cells (HH.out.below hfm hb5).unfirst.second).2.2.2.1 p hp16; rw [hist] at x4; have HB2 := Aside0.mk (HB.out.trans (hb5.mono HB.out.size)); have HH5 := Aside0.mk (HH.out.below hfm hb5); have HC5 := Aside0.mk hC5; clear hb5 hC5))
      obtain ⟨-, -, -, -, h9⟩ := mb_cells HH5.out.unfirst.second
      obtain ⟨A9, c9, x9, -, hC9⟩ := h9 p hp16
      rw [HDT.out] at x9 hC9
      have HF := Aside0.mk (show ∀ W, Keep (fun _ => False) w5.drew W → W.cell? ⟨gM, 18 + p, none⟩ = some (.slice A9 v.length c9) ∧ (convert 24 9 (.slice A5 v.length c5)).run Try.prog W = .ok (.string (strOfNums v)) W ∧ (convert 24 9 (.slice A9 v.length c9)).run Try.prog W = .ok (.string (strOfNums v)) W from fun W hW => by
        have hb : Below w5.heap.size w5 W := (Below.refl w5.heap.size w5).drew.trans (hW.below (Nat.le_refl _) (fun _ _ h => h))
        exact ⟨(hb.cell (World.block_lt_of_cell? w5 _ x9)).trans x9, Gc.C_str (c := c5) (Kd.C_below HC5.out hb), Gc.C_str (c := c9) (Kd.C_below hC9 hb)⟩)
      clear h9 x9 hC9 x4
      refine rk_start (fun _ => False) (by kernel_rfl) (n := 27) (l := #[false, false, false, false, false, false, false, false, false, false, false, false, false, false, false, false, false, false, false, false, false, false, false, false, false, false, false]) (by kernel_rfl) (by kernel_rfl) ?_
      refine rk_take (fuel := 26) 0 rfl (by kernel_rfl) (listed' := #[true, false, false, false, false, false, false, false, false, false, false, false, false, false, false, false, false, false, false, false, false, false, false, false, false, false, false]) (by kernel_rfl) (fun _ _ _ h => h) (by kernel_rfl) (fun w' hR => by go_simp; first | done | with_reducible rfl) rfl ?_
      try simp only [Act.put, List.setIfInBounds_toArray, List.set_cons_zero, List.set_cons_succ]
      refine rk_take (fuel := 25) 1 rfl (by kernel_rfl) (listed' := #[true, true, false, false, false, false, false, false, false, false, false, false, false, false, false, false, false, false, false, false, false, false, false, false, false, false, false]) (by kernel_rfl) (fun _ _ _ h => h) (by kernel_rfl) (fun w' hR => by go_simp; first | done | with_reducible rfl) rfl ?_
      try simp only [Act.put, List.setIfInBounds_toArray, List.set_cons_zero, List.set_cons_succ]
      refine rk_take (fuel := 24) 2 rfl (by kernel_rfl) (listed' := #[true, true, true, false, false, false, false, false, false, false, false, false, false, false, false, false, false, false, false, false, false, false, false, false, false, false, false]) (by kernel_rfl) (fun _ _ _ h => h) (by kernel_rfl) (fun w' hR => by go_simp; first | done | with_reducible rfl) rfl ?_
      try simp only [Act.put, List.setIfInBounds_toArray, List.set_cons_zero, List.set_cons_succ]
      refine rk_take (fuel := 23) 3 rfl (by kernel_rfl) (listed' := #[true, true, true, true, false, false, false, false, false, false, false, false, false, false, false, false, false, false, false, false, false, false, false, false, false, false, false]) (by kernel_rfl) (fun _ _ _ h => h) (by kernel_rfl) (fun w' hR => by go_simp; first | done | with_reducible rfl) rfl ?_
      try simp only [Act.put, List.setIfInBounds_toArray, List.set_cons_zero, List.set_cons_succ]
      refine rk_take (fuel := 22) 4 rfl (by kernel_rfl) (listed' := #[true, true, true, true, true, false, false, false, false, false, false, false, false, false, false, false, false, false, false, false, false, false, false, false, false, false, false]) (by kernel_rfl) (fun _ _ _ h => h) (by kernel_rfl) (fun w' hR => by go_simp; first | done | with_reducible rfl) rfl ?_
      try simp only [Act.put, List.setIfInBounds_toArray, List.set_cons_zero, List.set_cons_succ]
      refine rk_take (fuel := 21) 5 rfl (by kernel_rfl) (listed' := #[true, true, true, true, true, true, false, false, false, false, false, false, false, false, false, false, false, false, false, false, false, false, false, false, false, false, false]) (by kernel_rfl) (fun _ _ _ h => h) (by kernel_rfl) (fun w' hR => by go_simp; first | done | with_reducible rfl) rfl ?_
      try simp only [Act.put, List.setIfInBounds_toArray, List.set_cons_zero, List.set_cons_succ]
      refine rk_take (fuel := 20) 6 rfl (by kernel_rfl) (listed' := #[true, true, true, true, true, true, true, false, false, false, false, false, false, false, false, false, false, false, false, false, false, false, false, false, false, false, false]) (by kernel_rfl) (fun _ _ _ h => h) (by kernel_rfl) (fun w' hR => by go_simp; first | done | with_reducible rfl) rfl ?_
      try simp only [Act.put, List.setIfInBounds_toArray, List.set_cons_zero, List.set_cons_succ]
      refine rk_take (fuel := 19) 7 rfl (by kernel_rfl) (listed' := #[true, true, true, true, true, true, true, true, false, false, false, false, false, false, false, false, false, false, false, false, false, false, false, false, false, false, false]) (by kernel_rfl) (fun _ _ _ h => h) (by kernel_rfl) (fun w' hR => by have x0 := (HF.out w' hR).2.1; go_simp; first | done | with_reducible rfl) rfl ?_
      try simp only [Act.put, List.setIfInBounds_toArray, List.set_cons_zero, List.set_cons_succ]
      refine rk_take (fuel := 18) 8 rfl (by kernel_rfl) (listed' := #[true, true, true, true, true, true, true, true, true, false, false, false, false, false, false, false, false, false, false, false, false, false, false, false, false, false, false]) (by kernel_rfl) (fun _ _ _ h => h) (by kernel_rfl) (fun w' hR => by go_simp; first | done | with_reducible rfl) rfl ?_
      try simp only [Act.put, List.setIfInBounds_toArray, List.set_cons_zero, List.set_cons_succ]
      refine rk_take (fuel := 17) 9 rfl (by kernel_rfl) (listed' := #[true, true, true, true, true, true, true, true, true, true, false, false, false, false, false, false, false, false, false, false, false, false, false, false, false, false, false]) (by kernel_rfl) (fun _ _ _ h => h) (by kernel_rfl) (fun w' hR => by go_simp; first | done | with_reducible rfl) rfl ?_
      try simp only [Act.put, List.setIfInBounds_toArray, List.set_cons_zero, List.set_cons_succ]
      refine rk_take (fuel := 16) 10 rfl (by kernel_rfl) (listed' := #[true, true, true, true, true, true, true, true, true, true, true, false, false, false, false, false, false, false, false, false, false, false, false, false, false, false, false]) (by kernel_rfl) (fun _ _ _ h => h) (by kernel_rfl) (fun w' hR => by go_simp; first | done | with_reducible rfl) rfl ?_
      try simp only [Act.put, List.setIfInBounds_toArray, List.set_cons_zero, List.set_cons_succ]
      refine rk_take (fuel := 15) 11 rfl (by kernel_rfl) (listed' := #[true, true, true, true, true, true, true, true, true, true, true, true, false, false, false, false, false, false, false, false, false, false, false, false, false, false, false]) (by kernel_rfl) (fun _ _ _ h => h) (by kernel_rfl) (fun w' hR => by go_simp; first | done | with_reducible rfl) rfl ?_
      try simp only [Act.put, List.setIfInBounds_toArray, List.set_cons_zero, List.set_cons_succ]
      refine rk_take (fuel := 14) 12 rfl (by kernel_rfl) (listed' := #[true, true, true, true, true, true, true, true, true, true, true, true, true, false, false, false, false, false, false, false, false, false, false, false, false, false, false]) (by kernel_rfl) (fun _ _ _ h => h) (by kernel_rfl) (fun w' hR => by go_simp; first | done | with_reducible rfl) rfl ?_
      try simp only [Act.put, List.setIfInBounds_toArray, List.set_cons_zero, List.set_cons_succ]
      refine rk_take (fuel := 13) 13 rfl (by kernel_rfl) (listed' := #[true, true, true, true, true, true, true, true, true, true, true, true, true, true, false, false, false, false, false, false, false, false, false, false, false, false, false]) (by kernel_rfl) (fun _ _ _ h => h) (by kernel_rfl) (fun w' hR => by have x0 := (HF.out w' hR).1; go_simp; first | done | with_reducible rfl) rfl ?_
      try simp only [Act.put, List.setIfInBounds_toArray, List.set_cons_zero, List.set_cons_succ]
      refine rk_take (fuel := 12) 14 rfl (by kernel_rfl) (listed' := #[true, true, true, true, true, true, true, true, true, true, true, true, true, true, true, false, false, false, false, false, false, false, false, false, false, false, false]) (by kernel_rfl) (fun _ _ _ h => h) (by kernel_rfl) (fun w' hR => by have x0 := (HF.out w' hR).2.2; go_simp; first | done | with_reducible rfl) rfl ?_
      try simp only [Act.put, List.setIfInBounds_toArray, List.set_cons_zero, List.set_cons_succ]
      refine rk_take (fuel := 11) 15 rfl (by kernel_rfl) (listed' := #[true, true, true, true, true, true, true, true, true, true, true, true, true, true, true, true, false, false, false, false, false, false, false, false, false, false, false]) (by kernel_rfl) (fun _ _ _ h => h) (by kernel_rfl) (fun w' hR => by go_simp; first | done | with_reducible rfl) rfl ?_
      try simp only [Act.put, List.setIfInBounds_toArray, List.set_cons_zero, List.set_cons_succ]
      refine rk_take (fuel := 10) 16 rfl (by kernel_rfl) (listed' := #[true, true, true, true, true, true, true, true, true, true, true, true, true, true, true, true, true, false, false, false, false, false, false, false, false, false, false]) (by kernel_rfl) (fun _ _ _ h => h) (by kernel_rfl) (fun w' hR => by go_simp; first | done | with_reducible rfl) rfl ?_
      try simp only [Act.put, List.setIfInBounds_toArray, List.set_cons_zero, List.set_cons_succ]
      refine rk_take (fuel := 9) 17 rfl (by kernel_rfl) (listed' := #[true, true, true, true, true, true, true, true, true, true, true, true, true, true, true, true, true, true, false, false, false, false, false, false, false, false, false]) (by kernel_rfl) (fun _ _ _ h => h) (by kernel_rfl) (fun w' hR => by go_simp; first | done | with_reducible rfl) rfl ?_
      try simp only [Act.put, List.setIfInBounds_toArray, List.set_cons_zero, List.set_cons_succ]
      refine rk_take (fuel := 8) 18 rfl (by kernel_rfl) (listed' := #[true, true, true, true, true, true, true, true, true, true, true, true, true, true, true, true, true, true, true, false, false, false, false, false, false, false, false]) (by kernel_rfl) (fun _ _ _ h => h) (by kernel_rfl) (fun w' hR => by go_simp; first | done | with_reducible rfl) rfl ?_
      try simp only [Act.put, List.setIfInBounds_toArray, List.set_cons_zero, List.set_cons_succ]
      refine rk_take (fuel := 7) 19 rfl (by kernel_rfl) (listed' := #[true, true, true, true, true, true, true, true, true, true, true, true, true, true, true, true, true, true, true, true, false, false, false, false, false, false, false]) (by kernel_rfl) (fun _ _ _ h => h) (by kernel_rfl) (fun w' hR => by go_simp; first | done | with_reducible rfl) rfl ?_
      try simp only [Act.put, List.setIfInBounds_toArray, List.set_cons_zero, List.set_cons_succ]
      refine rk_take (fuel := 6) 20 rfl (by kernel_rfl) (listed' := #[true, true, true, true, true, true, true, true, true, true, true, true, true, true, true, true, true, true, true, true, true, false, false, false, false, false, false]) (by kernel_rfl) (fun _ _ _ h => h) (by kernel_rfl) (fun w' hR => by go_simp; first | done | with_reducible rfl) rfl ?_
      try simp only [Act.put, List.setIfInBounds_toArray, List.set_cons_zero, List.set_cons_succ]
      refine rk_take (fuel := 5) 21 rfl (by kernel_rfl) (listed' := #[true, true, true, true, true, true, true, true, true, true, true, true, true, true, true, true, true, true, true, true, true, true, false, false, false, false, false]) (by kernel_rfl) (fun _ _ _ h => h) (by kernel_rfl) (fun w' hR => by go_simp; first | done | with_reducible rfl) rfl ?_
      try simp only [Act.put, List.setIfInBounds_toArray, List.set_cons_zero, List.set_cons_succ]
      refine rk_skip (fuel := 4) 22 rfl (by kernel_rfl) (listed' := #[true, true, true, true, true, true, true, true, true, true, true, true, true, true, true, true, true, true, true, true, true, true, true, false, false, false, false]) (by kernel_rfl) (fun _ _ _ h => h) (by kernel_rfl) rfl ?_
      try simp only [Act.put, List.setIfInBounds_toArray, List.set_cons_zero, List.set_cons_succ]
      refine rk_skip (fuel := 3) 23 rfl (by kernel_rfl) (listed' := #[true, true, true, true, true, true, true, true, true, true, true, true, true, true, true, true, true, true, true, true, true, true, true, true, false, false, false]) (by kernel_rfl) (fun _ _ _ h => h) (by kernel_rfl) rfl ?_
      try simp only [Act.put, List.setIfInBounds_toArray, List.set_cons_zero, List.set_cons_succ]
      refine rk_skip (fuel := 2) 24 rfl (by kernel_rfl) (listed' := #[true, true, true, true, true, true, true, true, true, true, true, true, true, true, true, true, true, true, true, true, true, true, true, true, true, false, false]) (by kernel_rfl) (fun _ _ _ h => h) (by kernel_rfl) rfl ?_
      try simp only [Act.put, List.setIfInBounds_toArray, List.set_cons_zero, List.set_cons_succ]
      refine rk_take (fuel := 1) 25 rfl (by kernel_rfl) (listed' := #[true, true, true, true, true, true, true, true, true, true, true, true, true, true, true, true, true, true, true, true, true, true, true, true, true, true, false]) (by kernel_rfl) (fun _ _ _ h => h) (by kernel_rfl) (fun w' hR => by go_simp; first | done | with_reducible rfl) rfl ?_
      try simp only [Act.put, List.setIfInBounds_toArray, List.set_cons_zero, List.set_cons_succ]
      refine rk_take (fuel := 0) 26 rfl (by kernel_rfl) (listed' := #[true, true, true, true, true, true, true, true, true, true, true, true, true, true, true, true, true, true, true, true, true, true, true, true, true, true, true]) (by kernel_rfl) (fun _ _ _ h => h) (by kernel_rfl) (fun w' hR => by go_simp; first | done | with_reducible rfl) rfl ?_
      try simp only [Act.put, List.setIfInBounds_toArray, List.set_cons_zero, List.set_cons_succ]
      refine rk_done (by kernel_rfl) ?_
      go_wp2
      go_roundw
      case rel => exact ⟨(p : Int) + 1, by omega, by omega, by go_num, ⟨HB2.out.drew⟩⟩
      case measure => simp [intOf]; omega
end
end Go.Proofs.Ytfcpnjoiloahcaa.Mk
