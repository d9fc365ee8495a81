/- FrameTakes: any bytes; and such as begin like a frame. No condition. -/
import Derived.Test.YtmklopaleiennaaRows
import Derived.ProofKit
import Derived.OpenShut
import Derived.ShutString
import Derived.ChangeOld
import Derived.SizedLaws
import Derived.Test.YtmklopaleiennaaWSized
import Derived.Test.YtmklopaleiennaaGa
import Derived.Test.YtmklopaleiennaaK
import Derived.Test.YtmklopaleiennaaGt
namespace Go.Proofs.Ytmklopaleiennaa.FrameTakes
open Go.ChangeShapes Go.WideShapes Go.ChangeAt Go.RowKit Go.Proofs.YtmklopaleiennaaW.PrintWords Go.Proofs.YtmklopaleiennaaW.PrintLast Go.Proofs.YtmklopaleiennaaW.PrintMore Go.Proofs.Ytmklopaleiennaa.B Go.Proofs.Ytmklopaleiennaa.Ls Go.Proofs.Ytmklopaleiennaa.Gs Go.Proofs.Ytmklopaleiennaa.Gc Go.Proofs.Ytmklopaleiennaa.R Go.Proofs.Ytmklopaleiennaa.S
set_option linter.unusedVariables false
set_option linter.unusedSimpArgs false
set_option maxHeartbeats 4000000 in
set_option maxRecDepth 100000 in
theorem walk (w : World) (A : Option Addr) (c : Nat) (b : List Int) (hC : kU8.C w A b.length b) (hc : b.length ≤ c) (hm : b.length * 1 ≤ 140737488351232) (hwf : ∀ x ∈ b, (Lit.int .u8 x).wf = true) (k : Int) (hk : (Lit.int .u8 k).wf = true) :
    Calls Try.prog 9 #[.slice A b.length c, .int .u8 k] w fun e w' => e = .returned (.bool true) ∧ Below w.heap.size w w' := by
  have HY := Aside0.mk (show By b from fun x hx => wf_u8 (hwf x hx))
  have HC := Aside0.mk hC
  obtain ⟨hk0, hk1⟩ := wf_u8 hk
  clear hwf hC hm hk
  by_cases h1 : 5000 < b.length
  · go_enter Try.func9, Try.ntmps9
    go_wp2_with (first | (go_at_call 27; refine (awake_calls _).mono ?_; rintro e w1 ⟨rfl, hb1⟩))
    go_ret
    exact ⟨rfl, hb1⟩
  have e1 : decide ((5000 : Int) < b.length) = false := by simp; omega
  obtain ⟨x1, hx1⟩ : ∃ x, [111, k] ++ b = x := ⟨_, rfl⟩
  obtain ⟨n1, hn1⟩ : ∃ n, x1.length = n := ⟨_, rfl⟩
  have hn1b : n1 = b.length + 2 := by rw [← hn1, ← hx1]; simp
  have HY1 := Aside0.mk (show By x1 by
    rw [← hx1]
    intro x hx
    simp only [List.cons_append, List.nil_append, List.mem_cons] at hx
    rcases hx with rfl | rfl | hx
    · omega
    · omega
    · exact HY.out x hx)
  obtain ⟨fl, hfl⟩ : ∃ fl, layL k b = fl := ⟨_, rfl⟩
  obtain ⟨n2, hn2⟩ : ∃ n, fl.length = n := ⟨_, rfl⟩
  have hn2b : n2 ≤ 6000 := by
    have := (putl_three (n := b.length) (by omega)).2
    rw [← hn2, ← hfl, lay_len]
    omega
  have HY2 := Aside0.mk (show By fl by rw [← hfl]; exact lay_by ⟨hk0, hk1⟩ HY.out)
  have HX1 := Aside0.mk hx1
  have HN1 := Aside0.mk hn1
  have HFL := Aside0.mk hfl
  have HN2 := Aside0.mk hn2
  have hn1c : n1 ≤ 6000 := by omega
  clear hx1 hn1 hfl hn2 hn1b
  go_enter Try.func9, Try.ntmps9
  go_wp2_with (first
    | (go_at_call 27; refine (awake_calls _).mono ?_; rintro e w1 ⟨rfl, hb1⟩; have HB1 := Aside0.mk hb1; have HR0 := Aside0.mk (show kU8.R 5 (w1.alloc (.cells #[.int .u8 111, .int .u8 k] 5)) w1.heap.size (fun _ => True) (.slice (some ⟨w1.heap.size, 0, none⟩) 2 2) [111, k] from R_litk .u8 5 w1 [111, k] (by simp)); clear hb1)
    | ((with_reducible refine gate_builtin (b := .append) (xs := #[.tmp 22, .tmp 23]) rfl ?_); at_builtin; refine Kd.R_append_rows (Kd.int .u8) (w0 := w1) w1.heap.size rfl (.tmp 22) (.tmp 23) 22 5 (.int .u8 0) 1 rfl Try.underlying22 infoU8 rfl (by decide) (by omega) (.slice (some ⟨w1.heap.size, 0, none⟩) 2 2) [111, k] b _ _ _ (fun _ => True) (fun _ => False) rfl rfl ?aO ?aR (fun _ _ h => h) (fun _ h => h.elim) ?aF ?aB ?aS ?aL ?_; (case aR => exact Kd.C_alloc (Kd.C_below HC.out HB1.out) _); (case aB => exact (Below.refl _ _).alloc (Nat.le_refl _) _); (case aF => exact (fun _ _ => trivial)); (case aO => exact HR0.out); (case aS => simp); (case aL => (simp only [List.length_cons, List.length_nil]; omega)); (intro v2 w2 ho hb2 hg hat; obtain ⟨A2, c2, hv, hc2, hC2⟩ := Kd.R_reads ho; rw [HX1.out, HN1.out] at hv hc2 hC2; subst hv; have HC2 := Aside0.mk hC2; have HB2 := Aside0.mk (HB1.out.trans (hb2.mono HB1.out.size)); clear ho hb2 hg hat hC2))
    | (go_at_call 29; refine (rlay_n k hk0 hk1 A c b b.length rfl fl n2 HFL.out HN2.out _ (Kd.C_below HC.out HB2.out) HY.out (by omega)).mono ?_; rintro e w3 ⟨A3, c3, rfl, -, hC3, hc3, hb⟩; have HC3 := Aside0.mk hC3; have HC2b := Aside0.mk (Kd.C_below HC2.out hb); have HB3 := Aside0.mk (HB2.out.trans (hb.mono HB2.out.size)); clear hC3 hb))
  obtain ⟨W, hW⟩ : ∃ W, W = w3.alloc (.cells #[.slice A b.length c, .slice A2 n1 c2, .slice A3 n2 c3] 22) := ⟨_, rfl⟩
  obtain ⟨g, hg⟩ : ∃ g, g = w3.heap.size := ⟨_, rfl⟩
  have hwk : Below w3.heap.size w3 W := by rw [hW]; exact (Below.refl _ _).alloc (Nat.le_refl _) _
  have hwn : W.heap[g]? = some (.cells #[.slice A b.length c, .slice A2 n1 c2, .slice A3 n2 c3] 22 (0, 0)) := by rw [hW, hg]; exact heap_alloc_new _ _
  have hgl : g < W.heap.size := blk_lt hwn
  have HQ := Aside0.mk (show ∀ V, Below W.heap.size W V → ∀ i : Nat, i < 3 → ∃ (Ai : Option Addr) (ci : Nat) (xi : List Int) (ni : Nat), V.cell? ⟨g, i, none⟩ = some (.slice Ai ni ci) ∧ xi.length = ni ∧ ni ≤ ci ∧ By xi ∧ ni ≤ 6000 ∧ kU8.C V Ai ni xi from fun V hV i hi => by
    have h := (hV.block g hgl).trans hwn
    have hi3 : i = 0 ∨ i = 1 ∨ i = 2 := by omega
    rcases hi3 with rfl | rfl | rfl
    · exact ⟨A, c, b, b.length, by simp [World.cell?, h], rfl, hc, HY.out, by omega, Kd.C_below (Kd.C_below (Kd.C_below HC.out HB3.out) hwk) hV⟩
    · exact ⟨A2, c2, x1, n1, by simp [World.cell?, h], HN1.out, hc2, HY1.out, hn1c, Kd.C_below (Kd.C_below HC2b.out hwk) hV⟩
    · exact ⟨A3, c3, fl, n2, by simp [World.cell?, h], HN2.out, hc3, HY2.out, hn2b, Kd.C_below (Kd.C_below HC3.out hwk) hV⟩)
  have HBW := Aside0.mk (HB3.out.trans (hwk.mono HB3.out.size))
  rw [← hW, ← hg]
  have HB0 := Aside0.mk (Below.refl W.heap.size W)
  clear hW hg hwk hwn hc2 hc3
  go_loopw [30] (fun vi wr => ∃ i : Nat, i ≤ 3 ∧ vi = .int .i64 i ∧ Aside0 (Below W.heap.size W wr)) (fun vi _ => 3 - (intOf vi).toNat)
  case atStart => exact ⟨0, by omega, rfl, HB0⟩
  case round =>
    clear HB0
    obtain ⟨i, hi, rfl, HB⟩ := hrel
    by_cases hgo : i < 3
    · obtain ⟨Ai, ci, xi, ni, q0, hxn, hnc, hxy, hni, hCx⟩ := HQ.out wr HB.out i hgo
      obtain ⟨kk, bb, sz, er, ht⟩ : ∃ kk bb sz er, takeL xi = (kk, bb, sz, er) := ⟨_, _, _, _, rfl⟩
      have HT := Aside0.mk ht
      have HXN := Aside0.mk hxn
      have HXY := Aside0.mk hxy
      have HCX := Aside0.mk hCx
      have hi3 : (i : Int) < 3 := by omega
      have hkk : (kk != kk) = false := by simp
      clear ht hxn hxy hCx
      go_wp2_with (first
        | (go_at_call 30; refine (take_n Ai ci xi ni HXN.out kk bb sz er HT.out _ HCX.out hnc HXY.out (by omega)).mono ?_; rintro e w5 ⟨A5, c5, rfl, -, hC5, -, hb⟩; have HC5 := Aside0.mk hC5; have HCX5 := Aside0.mk (Kd.C_below HCX.out hb); have HB5 := Aside0.mk (HB.out.trans (hb.mono HB.out.size)); clear hb hC5)
        | (go_at_call 31; refine (rtake_n Ai ci xi ni HXN.out kk bb sz er HT.out _ HCX5.out hnc HXY.out (by omega)).mono ?_; rintro e w6 ⟨A6, c6, rfl, -, hto, hb⟩; have z5 := C_str (c := c5) (Kd.C_below HC5.out hb); have z6 := C_str (c := c6) (hto w6 (Kd.C_below HCX5.out hb)); have HB6 := Aside0.mk (HB5.out.trans (hb.mono HB5.out.size)); clear hb hto))
      go_roundw
      case rel => exact ⟨i + 1, by omega, by go_num, HB6⟩
      case measure => simp [intOf]; omega
    · have hie : i = 3 := by omega
      subst hie
      go_wp2_with fail
      go_ret
      exact ⟨rfl, HBW.out.trans (HB.out.mono HBW.out.size)⟩
theorem own : ownKnob Try.prog.godebug = none := by kernel_rfl
theorem laidOut : laidOutB Try.prog = true := by kernel_rfl
def IsRow (k : IntKind) (w : World) (a : Option Addr) (len cap : Nat) (zs : List Int) : Prop :=
  (a = none ∧ len = 0 ∧ cap = 0 ∧ zs = []) ∨
  ∃ x, a = some x ∧ len ≤ cap ∧ cap ≤ maxLen ∧ zs.length = cap ∧ (∀ i, i < zs.length → w.cell? (x.add i) = some (.int k (zs.getD i 0))) ∧ ∀ n ∈ zs, (Lit.int k n).wf = true
set_option maxRecDepth 100000 in
theorem lifted (os : Os) (started : os.Started) (H : Type) (enc : TypeId × Value → H) :
    ReturnsInHanded {} Try.checked os 9 .any (Rows.frameTakesSpec.pre6 enc Try.prog Try.f9 Rows.frameTakesRow.domain false) (Rows.frameTakesSpec.post enc Try.prog Try.f9 false true false false) := by
  refine returnsInHanded_of_change_sized (C := Try.checked) own started (by kernel_rfl) Try.func9
    (ChangeSpec.witness6 (enc := enc) (C := Try.checked) false ⟨#[], #[.slice none 0 0, .int .u8 0], []⟩ 8 (by kernel_rfl) (by kernel_rfl) (by kernel_rfl) (by kernel_rfl)) ?_
  intro W base args ds gs before hval0 hW hcnd hsz0 _
  have hsz : (DataW.weightsEach Try.prog (Try.f9.params.toList ++ Rows.frameTakesSpec.plain.varTypes Try.prog) (ds ++ gs)).all (· ≤ reachBytes) = true := hsz0
  have hval : ∀ (j : Nat) t v, Try.f9.params[j]? = some t → args[j]? = some v → Value.okWide Try.prog W .any base t v := hval0
  have hW' := hW
  obtain ⟨p, q, hA0, hV, rfl, hfz, hnd⟩ := hW
  have hA : DataW.TrodAll enc Try.prog W 0 (fun _ => true) true Try.f9.params.toList args.toList ds p := hA0
  rw [Try.params9] at hA hval hsz
  obtain ⟨v0, vs0, d0, ds0, p0, q0, hargs, rfl, rfl, h0, r0⟩ := trodAll_cons hA
  obtain ⟨v1, vs1, d1, ds1, p1, q1, rfl, rfl, rfl, h1, r1⟩ := trodAll_cons r0
  obtain ⟨rfl, rfl, rfl⟩ := trodAll_nil r1
  obtain rfl : args = #[v0, v1] := by cases args; simp_all
  obtain ⟨rfl, rfl⟩ := trodVars_none hV
  obtain ⟨a0, len0, cap0, rfl⟩ := okWide_slice Try.underlying22 (hval 0 22 v0 rfl rfl)
  have k0 := h0
  have lt0 : ∀ x ∈ p0, x.block < W.heap.size := by obtain ⟨m, hm⟩ := k0; exact DataW.trod_lt m _ _ _ hm
  obtain ⟨z0, w0⟩ : ∃ zs, IsRow .u8 W a0 len0 cap0 zs := by
    obtain ⟨fuel, hf⟩ := h0
    rcases open_ints Try.underlying22 Try.underlying5 (by kernel_rfl) hf with ⟨hcs, _⟩ | ⟨x, l, c, zs, hcs, _, hl, hm, hz, _, hcell, hwz⟩
    · simp [Value.cells] at hcs
      obtain ⟨rfl, rfl, rfl⟩ := hcs
      exact ⟨[], .inl ⟨rfl, rfl, rfl, rfl⟩⟩
    · simp [Value.cells] at hcs
      obtain ⟨rfl, rfl, rfl⟩ := hcs
      exact ⟨zs, .inr ⟨_, rfl, hl, hm, by simpa using hz, hcell, hwz⟩⟩
  have y0 : len0 * 1 ≤ 140737488351232 := sized_ints hsz (j := 0) (t := 22) rfl rfl Try.underlying22 Try.underlying5 (by kernel_rfl) (by kernel_rfl) h0
  obtain ⟨l0, rfl, hr0, hm0, hwf0, hcap0⟩ := ReadsInt.ofRowC w0
  obtain ⟨a1, rfl, rfl, rfl, w1⟩ := open_int Try.underlying5 (hval 1 5 v1 rfl rfl) h1
  clear hA0 hval0 hsz0 hsz
  refine (walk W _ _ l0 (Kd.C_of_reads (d := (0 : Int)) (h1 := fun _ => rfl) hr0) hcap0 y0 hwf0 a1 w1).mono fun e W' ⟨he, bel⟩ => ?_
  subst he
  exact ⟨_, rfl, _, _, _, [], _, [], hW', trodAll_mk1 (shut_bool Try.underlying4 _), (trodAll_cons_mk (Below.trod laidOut (by kernel_rfl) (of_decide_eq_true (by kernel_rfl)) k0 bel lt0) (trodAll_cons_mk (shut_int Try.underlying5 w1) trodAll_mk0)), rfl, bel.frame _, fun h => by cases h⟩
theorem over : Rows.frameTakesRow.holds Try.pinned (OpenSpec.ofChange Rows.frameTakesSpec) :=
  OpenClaim.holds_of_wide 9 Try.f9 rfl rfl rfl rfl rfl rfl rfl ⟨rfl, rfl, rfl, rfl, rfl⟩ rfl rfl rfl rfl rfl (by kernel_rfl) Try.func9 (by kernel_rfl)
    (of_decide_eq_true (by kernel_rfl)) (by unfold Func.isWrapper; first | (rw [if_pos (by decide +kernel)]; kernel_rfl) | (rw [if_neg (by decide +kernel)]; exact ⟨rfl, rfl⟩))
    (fun os started H enc _ => lifted os started H enc)
end Go.Proofs.Ytmklopaleiennaa.FrameTakes
namespace Go.Proofs.Ytmklopaleiennaa
/-- The statement. -/
theorem frameTakes_holds : Rows.FrameTakesSaid := FrameTakes.over
#print axioms frameTakes_holds
end Go.Proofs.Ytmklopaleiennaa
