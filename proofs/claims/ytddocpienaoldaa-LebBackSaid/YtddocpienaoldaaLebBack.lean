/- LebBack: numbers that are put one behind the other are taken as they were. No condition. -/
import Derived.Test.YtddocpienaoldaaRows
import Derived.ProofKit
import Derived.OpenShut
import Derived.ShutString
import Derived.ChangeOld
import Derived.SizedLaws
import Derived.Test.YtddocpienaoldaaWSized
import Derived.Test.YtddocpienaoldaaLa
import Derived.Test.YtddocpienaoldaaLt
namespace Go.Proofs.Ytddocpienaoldaa.LebBack
open Go.ChangeShapes Go.WideShapes Go.ChangeAt Go.RowKit Go.Proofs.YtddocpienaoldaaW.PrintWords Go.Proofs.Ytddocpienaoldaa.B Go.Proofs.Ytddocpienaoldaa.Ls Go.Proofs.Ytddocpienaoldaa.Lc Go.Proofs.Ytddocpienaoldaa.La Go.Proofs.Ytddocpienaoldaa.Lt
set_option linter.unusedVariables false
def enc (l : List Int) : List Int := l.flatMap fun n => putl n.toNat
def encI (l : List Int) : List Int := l.flatMap fun n => putl (zig n).toNat
theorem enc_snoc (l : List Int) (k : Nat) (x : Int) (h : l[k]? = some x) : enc (l.take (k + 1)) = enc (l.take k) ++ putl x.toNat := by
  have hk := (List.getElem?_eq_some_iff.1 h).1
  rw [List.take_succ_eq_append_getElem hk]
  simp only [enc, List.flatMap_append, List.flatMap_cons, List.flatMap_nil, List.append_nil]
  rw [show l[k] = x by simpa [List.getElem?_eq_getElem hk] using h]
theorem encI_snoc (l : List Int) (k : Nat) (x : Int) (h : l[k]? = some x) : encI (l.take (k + 1)) = encI (l.take k) ++ putl (zig x).toNat := by
  have hk := (List.getElem?_eq_some_iff.1 h).1
  rw [List.take_succ_eq_append_getElem hk]
  simp only [encI, List.flatMap_append, List.flatMap_cons, List.flatMap_nil, List.append_nil]
  rw [show l[k] = x by simpa [List.getElem?_eq_getElem hk] using h]
theorem enc_cons (l : List Int) (k : Nat) (x : Int) (h : l[k]? = some x) : enc (l.drop k) = putl x.toNat ++ enc (l.drop (k + 1)) := by
  have hk := (List.getElem?_eq_some_iff.1 h).1
  rw [List.drop_eq_getElem_cons hk, show l[k] = x by simpa [List.getElem?_eq_getElem hk] using h]
  simp [enc]
theorem encI_cons (l : List Int) (k : Nat) (x : Int) (h : l[k]? = some x) : encI (l.drop k) = putl (zig x).toNat ++ encI (l.drop (k + 1)) := by
  have hk := (List.getElem?_eq_some_iff.1 h).1
  rw [List.drop_eq_getElem_cons hk, show l[k] = x by simpa [List.getElem?_eq_getElem hk] using h]
  simp [encI]
def W64 (l : List Int) : Prop := ∀ x ∈ l, 0 ≤ x ∧ x < 18446744073709551616
def I64 (l : List Int) : Prop := ∀ x ∈ l, -9223372036854775808 ≤ x ∧ x ≤ 9223372036854775807
theorem enc_len (l : List Int) (h : W64 l) : (enc l).length ≤ 10 * l.length := by
  induction l with
  | nil => simp [enc]
  | cons x l ih =>
    have := ih (fun y hy => h y (List.mem_cons_of_mem _ hy))
    have h1 := h x List.mem_cons_self
    have h2 := putl_ten x.toNat (by omega)
    simp only [enc, List.flatMap_cons, List.length_append, List.length_cons] at *
    omega
theorem encI_len (l : List Int) (h : I64 l) : (encI l).length ≤ 10 * l.length := by
  induction l with
  | nil => simp [encI]
  | cons x l ih =>
    have := ih (fun y hy => h y (List.mem_cons_of_mem _ hy))
    have h1 := h x List.mem_cons_self
    have h3 := zig_range x h1.1 h1.2
    have h2 := putl_ten (zig x).toNat (by omega)
    simp only [encI, List.flatMap_cons, List.length_append, List.length_cons] at *
    omega
theorem enc_by (l : List Int) : By (enc l) := by
  intro x hx
  obtain ⟨n, _, hn⟩ := List.mem_flatMap.1 hx
  exact putl_by _ x hn
theorem encI_by (l : List Int) : By (encI l) := by
  intro x hx
  obtain ⟨n, _, hn⟩ := List.mem_flatMap.1 hx
  exact putl_by _ x hn
theorem W64.take {l : List Int} (h : W64 l) (k : Nat) : W64 (l.take k) := fun x hx => h x (List.mem_of_mem_take hx)
theorem I64.take {l : List Int} (h : I64 l) (k : Nat) : I64 (l.take k) := fun x hx => h x (List.mem_of_mem_take hx)

/-- Both, as one word. -/
def enc2 (l m : List Int) : List Int := enc l ++ encI m
theorem enc2_nil (l : List Int) : enc2 l [] = enc l := by simp [enc2, encI]
theorem enc2_snoc (l m : List Int) (k : Nat) (x : Int) (h : m[k]? = some x) : enc2 l (m.take (k + 1)) = enc2 l (m.take k) ++ putl (zig x).toNat := by
  unfold enc2
  rw [encI_snoc m k x h, List.append_assoc]
theorem enc2_len (l m : List Int) (hl : W64 l) (hm : I64 m) : (enc2 l m).length ≤ 10 * l.length + 10 * m.length := by
  have := enc_len l hl
  have := encI_len m hm
  unfold enc2
  rw [List.length_append]
  omega
theorem enc2_take (l m : List Int) (hl : W64 l) (k : Nat) (x : Int) (h : l[k]? = some x) : num (enc2 (l.drop k) m) 0 = (x, enc2 (l.drop (k + 1)) m, 0) := by
  unfold enc2
  obtain ⟨h0, h1⟩ := hl x (List.mem_of_getElem? h)
  rw [enc_cons l k x h, List.append_assoc, num_putl _ _ (by omega), Int.toNat_of_nonneg h0]
theorem encI_take (m : List Int) (hm : I64 m) (k : Nat) (x : Int) (h : m[k]? = some x) : num (encI (m.drop k)) 0 = (zig x, encI (m.drop (k + 1)), 0) := by
  obtain ⟨h0, h1⟩ := hm x (List.mem_of_getElem? h)
  have hz := zig_range x h0 h1
  rw [encI_cons m k x h, num_putl _ _ (by omega), Int.toNat_of_nonneg hz.1]
theorem enc2_by (l m : List Int) : By (enc2 l m) := (enc_by l).append (encI_by m)
set_option maxRecDepth 100000 in
set_option maxHeartbeats 4000000 in
theorem walk (w : World) (A : Option Addr) (c : Nat) (l : List Int) (hC : (Kd.int .u64).C w A l.length l) (hcap : l.length ≤ c) (hm : l.length * 8 ≤ 140737488351232) (hwf : ∀ x ∈ l, (Lit.int .u64 x).wf = true)
    (A' : Option Addr) (c' : Nat) (m : List Int) (hC' : (Kd.int .i64).C w A' m.length m) (hcap' : m.length ≤ c') (hm' : m.length * 8 ≤ 140737488351232) (hwf' : ∀ x ∈ m, (Lit.int .i64 x).wf = true) :
    Calls Try.prog 7 #[.slice A l.length c, .slice A' m.length c'] w fun e w' => e = .returned (.bool true) ∧ Below w.heap.size w w' := by
  have HL := Aside0.mk (show W64 l from fun x hx => wf_u64 (hwf x hx))
  have HM := Aside0.mk (show I64 m from fun x hx => wf_i64 (hwf' x hx))
  have HC := Aside0.mk hC
  have HC' := Aside0.mk hC'
  clear hwf hwf' hC hC'
  by_cases h1 : 100 < l.length
  · go_enter Try.func7, Try.ntmps7
    go_wp2_with (first | (go_at_call 9; refine (awake_calls _).mono ?_; rintro e w1 ⟨rfl, hb1⟩))
    go_ret
    exact ⟨rfl, hb1⟩
  by_cases h2 : 100 < m.length
  · go_enter Try.func7, Try.ntmps7
    go_wp2_with (first | (go_at_call 9; refine (awake_calls _).mono ?_; rintro e w1 ⟨rfl, hb1⟩))
    go_ret
    exact ⟨rfl, hb1⟩
  have d1 : decide ((100 : Int) < l.length) = false := by simp; omega
  have d2 : decide ((100 : Int) < m.length) = false := by simp; omega
  have hl100 : l.length ≤ 100 := by omega
  have hm100 : m.length ≤ 100 := by omega
  clear h1 h2
  go_enter Try.func7, Try.ntmps7
  go_wp2_with (first | (go_at_call 9; refine (awake_calls _).mono ?_; rintro e w1 ⟨rfl, hb1⟩))
  go_loopw [5, 27] (fun vb i wr => ∃ (k : Nat) (A1 : Option Addr) (c1 : Nat), k ≤ l.length ∧ i = .int .i64 k ∧ vb = .slice A1 (enc (l.take k)).length c1 ∧ Aside0 (kU8.C wr A1 (enc (l.take k)).length (enc (l.take k))) ∧ Aside0 (Below w.heap.size w wr)) (fun _ i _ => l.length - (intOf i).toNat)
  case atStart => exact ⟨0, none, 0, by omega, rfl, by simp [enc], ⟨by simpa [enc] using C_nil .u8 w1⟩, ⟨hb1⟩⟩
  case round =>
    clear hb1
    obtain ⟨k, A1, c1, hk, rfl, rfl, HX, HB⟩ := hrel
    by_cases hlt : k < l.length
    · obtain ⟨x, hx⟩ : ∃ x, l[k]? = some x := ⟨_, List.getElem?_eq_getElem hlt⟩
      obtain ⟨ad, rfl⟩ := C_some HC.out (by omega)
      have hcx := C_cell (Kd.C_below HC.out HB.out) hx
      obtain ⟨hx0, hx1⟩ := HL.out x (List.mem_of_getElem? hx)
      have hen := enc_len _ (HL.out.take k)
      have hkl : (l.take k).length ≤ k := List.length_take_le _ _
      have HS := Aside0.mk (enc_snoc l k x hx)
      have HEN := Aside0.mk (show (enc (l.take k)).length ≤ 1000 by omega)
      clear hx hen hkl
      go_wp2_with (first | (go_at_call 10; refine (put_calls A1 c1 (enc (l.take k)) x _ HX.out (by have := HEN.out; omega) hx0 hx1).mono ?_; rintro e w2 ⟨v2, rfl, ho2, hb2⟩; obtain ⟨A2, c2, rfl, -, hC2⟩ := Kd.R_reads ho2; rw [← HS.out] at hC2; have HC2 := Aside0.mk hC2; have HB2 := Aside0.mk (HB.out.trans (hb2.mono HB.out.size)); clear ho2 hb2 hC2))
      go_roundw
      case rel => exact ⟨k + 1, A2, c2, by omega, by go_num, by rw [HS.out]; first | done | rw [List.length_append], HC2, HB2⟩
      case measure => simp [intOf]; omega
    · obtain rfl : k = l.length := by omega
      rw [List.take_length] at HX
      rw [List.take_length]
      have HEN := Aside0.mk (show (enc l).length ≤ 1000 by have := enc_len l HL.out; omega)
      clear hk hlt
      go_wp2
      go_loopw [5, 37] (fun vb i wr => ∃ (k : Nat) (A1 : Option Addr) (c1 : Nat), k ≤ m.length ∧ i = .int .i64 k ∧ vb = .slice A1 (enc2 l (m.take k)).length c1 ∧ Aside0 (kU8.C wr A1 (enc2 l (m.take k)).length (enc2 l (m.take k))) ∧ Aside0 (Below w.heap.size w wr)) (fun _ i _ => m.length - (intOf i).toNat)
      case atStart => exact ⟨0, A1, c1, by omega, rfl, by rw [List.take_zero, enc2_nil], ⟨by rw [List.take_zero, enc2_nil]; exact HX.out⟩, HB⟩
      case round =>
        clear HB HX
        obtain ⟨k, A1, c1, hk, rfl, rfl, HX, HB⟩ := hrel
        by_cases hlt : k < m.length
        · obtain ⟨x, hx⟩ : ∃ x, m[k]? = some x := ⟨_, List.getElem?_eq_getElem hlt⟩
          obtain ⟨ad, rfl⟩ := C_some HC'.out (by omega)
          have hcx := C_cell (Kd.C_below HC'.out HB.out) hx
          obtain ⟨hx0, hx1⟩ := HM.out x (List.mem_of_getElem? hx)
          have hen := enc2_len l _ HL.out (HM.out.take k)
          have hkl : (m.take k).length ≤ k := List.length_take_le _ _
          have HS := Aside0.mk (enc2_snoc l m k x hx)
          have HEN2 := Aside0.mk (show (enc2 l (m.take k)).length ≤ 2000 by omega)
          clear hx hen hkl
          go_wp2_with (first | (go_at_call 11; refine (putInt_calls A1 c1 (enc2 l (m.take k)) x _ HX.out (by have := HEN2.out; omega) hx0 hx1).mono ?_; rintro e w2 ⟨v2, rfl, ho2, hb2⟩; obtain ⟨A2, c2, rfl, -, hC2⟩ := Kd.R_reads ho2; rw [← HS.out] at hC2; have HC2 := Aside0.mk hC2; have HB2 := Aside0.mk (HB.out.trans (hb2.mono HB.out.size)); clear ho2 hb2 hC2))
          go_roundw
          case rel => exact ⟨k + 1, A2, c2, by omega, by go_num, by rw [HS.out]; first | done | rw [List.length_append], HC2, HB2⟩
          case measure => simp [intOf]; omega
        · obtain rfl : k = m.length := by omega
          rw [List.take_length] at HX
          rw [List.take_length]
          have hen := enc2_len l m HL.out HM.out
          have HEN2 := Aside0.mk (show (enc2 l m).length ≤ 2000 by omega)
          have HBY := Aside0.mk (enc2_by l m)
          clear hk hlt hen
          go_wp2_with (first | (go_at_call 14; refine (new_calls A1 c1 (enc2 l m) _ HX.out (by have := HEN2.out; omega)).mono ?_; rintro e w3 ⟨g, b, rfl, hr3, hb3, hg3, hbb, hbl⟩; have HR3 := Aside0.mk hr3; have HB3 := Aside0.mk hb3; clear hr3 hb3))
          go_loopw [49] (fun i wr => ∃ k : Nat, k ≤ l.length ∧ i = .int .i64 k ∧ Aside0 (Rdr 56 wr g b (enc2 (l.drop k) m) 0) ∧ Aside0 (Below w.heap.size w wr) ∧ Aside0 (wr.heap.size = w3.heap.size)) (fun i _ => l.length - (intOf i).toNat)
          case atStart => exact ⟨0, by omega, rfl, HR3, ⟨HB.out.trans (HB3.out.mono HB.out.size)⟩, ⟨rfl⟩⟩
          case round =>
            have hgw : w.heap.size ≤ g := Nat.le_trans HB.out.size hg3
            clear HB HB3 HR3 HX
            obtain ⟨k, hk, rfl, HR, HB, HS⟩ := hrel
            by_cases hlt : k < l.length
            · obtain ⟨x, hx⟩ : ∃ x, l[k]? = some x := ⟨_, List.getElem?_eq_getElem hlt⟩
              obtain ⟨ad, rfl⟩ := C_some HC.out (by omega)
              have hcx := C_cell (Kd.C_below HC.out HB.out) hx
              have HN := Aside0.mk (enc2_take l m HL.out k x hx)
              have hxx : (x != x) = false := by simp
              clear hx
              go_wp2_with (first | (go_at_call 15; refine (num_calls g b (enc2 (l.drop k) m) 0 _ HR.out (enc2_by _ _)).mono ?_; rw [HN.out]; rintro e w4 ⟨rfl, hr4, hk4, hs4⟩; have HR4 := Aside0.mk hr4; have HB4 := Aside0.mk (Keep.below_then HB.out hk4 HB.out.size (fun i hi e => by omega)); have HS4 := Aside0.mk (hs4.trans HS.out); clear hr4 hk4 hs4))
              go_roundw
              case rel => exact ⟨k + 1, by omega, by go_num, HR4, HB4, HS4⟩
              case measure => simp [intOf]; omega
            · obtain rfl : k = l.length := by omega
              rw [List.drop_length] at HR
              have HR0 : Aside0 (Rdr 56 wr g b (encI (m.drop 0)) 0) := ⟨by simpa [enc2, enc] using HR.out⟩
              clear HR hk hlt
              go_wp2
              go_loopw [60] (fun i wr => ∃ k : Nat, k ≤ m.length ∧ i = .int .i64 k ∧ Aside0 (Rdr 56 wr g b (encI (m.drop k)) 0) ∧ Aside0 (Below w.heap.size w wr) ∧ Aside0 (wr.heap.size = w3.heap.size)) (fun i _ => m.length - (intOf i).toNat)
              case atStart => exact ⟨0, by omega, rfl, HR0, HB, HS⟩
              case round =>
                clear HB HS HR0
                obtain ⟨k, hk, rfl, HR, HB, HS⟩ := hrel
                by_cases hlt : k < m.length
                · obtain ⟨x, hx⟩ : ∃ x, m[k]? = some x := ⟨_, List.getElem?_eq_getElem hlt⟩
                  obtain ⟨ad, rfl⟩ := C_some HC'.out (by omega)
                  have hcx := C_cell (Kd.C_below HC'.out HB.out) hx
                  obtain ⟨hx0, hx1⟩ := HM.out x (List.mem_of_getElem? hx)
                  have HN := Aside0.mk (encI_take m HM.out k x hx)
                  have HZ := Aside0.mk (zag_zig x hx0 hx1)
                  have hxx : (x != x) = false := by simp
                  clear hx
                  go_wp2_with (first | (go_at_call 17; refine (int_calls g b (encI (m.drop k)) 0 _ HR.out (encI_by _)).mono ?_; rw [HN.out, HZ.out]; rintro e w4 ⟨rfl, hr4, hk4, hs4⟩; have HR4 := Aside0.mk hr4; have HB4 := Aside0.mk (Keep.below_then HB.out hk4 HB.out.size (fun i hi e => by omega)); have HS4 := Aside0.mk (hs4.trans HS.out); clear hr4 hk4 hs4))
                  go_roundw
                  case rel => exact ⟨k + 1, by omega, by go_num, HR4, HB4, HS4⟩
                  case measure => simp [intOf]; omega
                · obtain rfl : k = m.length := by omega
                  have HR0 : Aside0 (Rdr 56 wr g b [] 0) := ⟨by simpa [encI] using HR.out⟩
                  have he : ended [] 0 = 0 := rfl
                  clear HR hk hlt
                  go_wp2_with (first | (go_at_call 16; refine (end_calls g b [] 0 _ HR0.out).mono ?_; rw [he]; rintro e w4 ⟨rfl, hr4, hk4, hs4⟩; have HB4 := Aside0.mk (Keep.below_then HB.out hk4 HB.out.size (fun i hi e => by omega)); clear hr4 hk4 hs4))
                  go_ret
                  exact ⟨rfl, HB4.out⟩
theorem own : ownKnob Try.prog.godebug = none := by kernel_rfl
theorem laidOut : laidOutB Try.prog = true := by kernel_rfl
def IsRow (k : IntKind) (w : World) (a : Option Addr) (len cap : Nat) (zs : List Int) : Prop :=
  (a = none ∧ len = 0 ∧ cap = 0 ∧ zs = []) ∨
  ∃ x, a = some x ∧ len ≤ cap ∧ cap ≤ maxLen ∧ zs.length = cap ∧ (∀ i, i < zs.length → w.cell? (x.add i) = some (.int k (zs.getD i 0))) ∧ ∀ n ∈ zs, (Lit.int k n).wf = true
set_option maxRecDepth 100000 in
theorem lifted (os : Os) (started : os.Started) (H : Type) (enc : TypeId × Value → H) :
    ReturnsInHanded {} Try.checked os 7 .any (Rows.lebBackSpec.pre6 enc Try.prog Try.f7 Rows.lebBackRow.domain false) (Rows.lebBackSpec.post enc Try.prog Try.f7 false true false false) := by
  refine returnsInHanded_of_change_sized (C := Try.checked) own started (by kernel_rfl) Try.func7
    (ChangeSpec.witness6 (enc := enc) (C := Try.checked) false ⟨#[], #[.slice none 0 0, .slice none 0 0], []⟩ 8 (by kernel_rfl) (by kernel_rfl) (by kernel_rfl) (by kernel_rfl)) ?_
  intro W base args ds gs before hval0 hW hcnd hsz0 _
  have hsz : (DataW.weightsEach Try.prog (Try.f7.params.toList ++ Rows.lebBackSpec.plain.varTypes Try.prog) (ds ++ gs)).all (· ≤ reachBytes) = true := hsz0
  have hval : ∀ (j : Nat) t v, Try.f7.params[j]? = some t → args[j]? = some v → Value.okWide Try.prog W .any base t v := hval0
  have hW' := hW
  obtain ⟨p, q, hA0, hV, rfl, hfz, hnd⟩ := hW
  have hA : DataW.TrodAll enc Try.prog W 0 (fun _ => true) true Try.f7.params.toList args.toList ds p := hA0
  rw [Try.params7] at hA hval hsz
  obtain ⟨v0, vs0, d0, ds0, p0, q0, hargs, rfl, rfl, h0, r0⟩ := trodAll_cons hA
  obtain ⟨v1, vs1, d1, ds1, p1, q1, rfl, rfl, rfl, h1, r1⟩ := trodAll_cons r0
  obtain ⟨rfl, rfl, rfl⟩ := trodAll_nil r1
  obtain rfl : args = #[v0, v1] := by cases args; simp_all
  obtain ⟨rfl, rfl⟩ := trodVars_none hV
  obtain ⟨a0, len0, cap0, rfl⟩ := okWide_slice Try.underlying37 (hval 0 37 v0 rfl rfl)
  have k0 := h0
  have lt0 : ∀ x ∈ p0, x.block < W.heap.size := by obtain ⟨m, hm⟩ := k0; exact DataW.trod_lt m _ _ _ hm
  obtain ⟨z0, w0⟩ : ∃ zs, IsRow .u64 W a0 len0 cap0 zs := by
    obtain ⟨fuel, hf⟩ := h0
    rcases open_ints Try.underlying37 Try.underlying23 (by kernel_rfl) hf with ⟨hcs, _⟩ | ⟨x, l, c, zs, hcs, _, hl, hm, hz, _, hcell, hwz⟩
    · simp [Value.cells] at hcs
      obtain ⟨rfl, rfl, rfl⟩ := hcs
      exact ⟨[], .inl ⟨rfl, rfl, rfl, rfl⟩⟩
    · simp [Value.cells] at hcs
      obtain ⟨rfl, rfl, rfl⟩ := hcs
      exact ⟨zs, .inr ⟨_, rfl, hl, hm, by simpa using hz, hcell, hwz⟩⟩
  have y0 : len0 * 8 ≤ 140737488351232 := sized_ints hsz (j := 0) (t := 37) rfl rfl Try.underlying37 Try.underlying23 (by kernel_rfl) (by kernel_rfl) h0
  obtain ⟨l0, rfl, hr0, hm0, hwf0, hcap0⟩ := ReadsInt.ofRowC w0
  obtain ⟨a1, len1, cap1, rfl⟩ := okWide_slice Try.underlying38 (hval 1 38 v1 rfl rfl)
  have k1 := h1
  have lt1 : ∀ x ∈ p1, x.block < W.heap.size := by obtain ⟨m, hm⟩ := k1; exact DataW.trod_lt m _ _ _ hm
  obtain ⟨z1, w1⟩ : ∃ zs, IsRow .i64 W a1 len1 cap1 zs := by
    obtain ⟨fuel, hf⟩ := h1
    rcases open_ints Try.underlying38 Try.underlying2 (by kernel_rfl) hf with ⟨hcs, _⟩ | ⟨x, l, c, zs, hcs, _, hl, hm, hz, _, hcell, hwz⟩
    · simp [Value.cells] at hcs
      obtain ⟨rfl, rfl, rfl⟩ := hcs
      exact ⟨[], .inl ⟨rfl, rfl, rfl, rfl⟩⟩
    · simp [Value.cells] at hcs
      obtain ⟨rfl, rfl, rfl⟩ := hcs
      exact ⟨zs, .inr ⟨_, rfl, hl, hm, by simpa using hz, hcell, hwz⟩⟩
  have y1 : len1 * 8 ≤ 140737488351232 := sized_ints hsz (j := 1) (t := 38) rfl rfl Try.underlying38 Try.underlying2 (by kernel_rfl) (by kernel_rfl) h1
  obtain ⟨l1, rfl, hr1, hm1, hwf1, hcap1⟩ := ReadsInt.ofRowC w1
  clear hA0 hval0 hsz0 hsz
  refine (walk W _ _ l0 (Kd.C_of_reads (d := (0 : Int)) (h1 := fun _ => rfl) hr0) hcap0 y0 hwf0 _ _ l1 (Kd.C_of_reads (d := (0 : Int)) (h1 := fun _ => rfl) hr1) hcap1 y1 hwf1).mono fun e W' ⟨he, bel⟩ => ?_
  subst he
  exact ⟨_, rfl, _, _, _, [], _, [], hW', trodAll_mk1 (shut_bool Try.underlying4 _), (trodAll_cons_mk (Below.trod laidOut (by kernel_rfl) (of_decide_eq_true (by kernel_rfl)) k0 bel lt0) (trodAll_cons_mk (Below.trod laidOut (by kernel_rfl) (of_decide_eq_true (by kernel_rfl)) k1 bel lt1) trodAll_mk0)), rfl, bel.frame _, fun h => by cases h⟩
theorem over : Rows.lebBackRow.holds Try.pinned (OpenSpec.ofChange Rows.lebBackSpec) :=
  OpenClaim.holds_of_wide 7 Try.f7 rfl rfl rfl rfl rfl rfl rfl ⟨rfl, rfl, rfl, rfl, rfl⟩ rfl rfl rfl rfl rfl (by kernel_rfl) Try.func7 (by kernel_rfl)
    (of_decide_eq_true (by kernel_rfl)) (by unfold Func.isWrapper; first | (rw [if_pos (by decide +kernel)]; kernel_rfl) | (rw [if_neg (by decide +kernel)]; exact ⟨rfl, rfl⟩))
    (fun os started H enc _ => lifted os started H enc)
end Go.Proofs.Ytddocpienaoldaa.LebBack
namespace Go.Proofs.Ytddocpienaoldaa
/-- The statement. -/
theorem lebBack_holds : Rows.LebBackSaid := LebBack.over
#print axioms lebBack_holds
end Go.Proofs.Ytddocpienaoldaa
