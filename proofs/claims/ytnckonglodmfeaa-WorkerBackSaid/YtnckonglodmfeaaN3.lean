/- Contracts and plain facts that the statements' proofs use (part 3). -/
import Derived.Test.YtnckonglodmfeaaN2
import Derived.Stop.BytesEq
import Derived.Lib.SlBytesConst
import Derived.Test.YtnckonglodmfeaaProg
import Derived.WalkSpells
import Derived.OwnWalk
set_option linter.unusedVariables false
set_option linter.unusedSimpArgs false
namespace Go.Proofs.Ytnckonglodmfeaa.Lr
open Go.RowKit Go.Proofs.YtnckonglodmfeaaW.PrintWords Go.Proofs.YtnckonglodmfeaaW.PrintLast Go.Proofs.YtnckonglodmfeaaW.PrintMore B Ls Lc
theorem end_calls (g b : Nat) (l : List Int) (code : Int) (w : World) (h : Rdr 107 w g b l code) :
 Calls Try.prog 97 #[.pointer (some ⟨g, 0, none⟩)] w fun e w' => e = .returned (.int .i64 (ended l code)) ∧ Rdr 107 w' g b l (ended l code) ∧ Keep (· = g) w w' ∧ w'.heap.size = w.heap.size := by
 have HR := aM h
 obtain ⟨A, c, hc0, -⟩ := h.left
 obtain ⟨hc1, hf1⟩ := h.code
 clear h
 by_cases h0 : code = 0
 · subst h0
   by_cases hl : 0 < l.length
   · have he : ended l 0 = 5 := if_pos hl
     have HE := aM he
     clear he
     go_enter Try.func97, Try.ntmps97
     go_wp2
     go_ret
     exact ⟨ret_eq HE.out.symm, by rw [HE.out]; exact HR.out.set 5, (Keep.refl _ _).setCell _ _ (fun _ => rfl), by simp [World.setCell]⟩
   · have he : ended l 0 = 0 := if_neg hl
     have HE := aM he
     clear he
     go_enter Try.func97, Try.ntmps97
     go_wp2
     go_ret
     exact ⟨ret_eq HE.out.symm, by rw [HE.out]; exact HR.out, Keep.refl _ _, rfl⟩
 · have h1 : (code == 0) = false := beq_eq_false_iff_ne.mpr h0
   have he : ended l code = code := by unfold ended failed; split <;> simp [h0]
   have HE := aM he
   clear he h0
   go_enter Try.func97, Try.ntmps97
   go_wp2
   go_ret
   exact ⟨ret_eq HE.out.symm, by rw [HE.out]; exact HR.out, Keep.refl _ _, rfl⟩
set_option maxHeartbeats 1000000 in
theorem below_calls (g b : Nat) (l : List Int) (code m : Int) (w : World) (h : Rdr 107 w g b l code) (hby : By l) (hm0 : -9223372036854775808 ≤ m) (hm1 : m ≤ 9223372036854775807) :
 Calls Try.prog 53 #[.pointer (some ⟨g, 0, none⟩), .int .i64 m] w fun e w' => e = .returned (.int .i64 (below m l code).1) ∧ Rdr 107 w' g b (below m l code).2.1 (below m l code).2.2 ∧ Keep (· = g) w w' ∧ w'.heap.size = w.heap.size := by
 have HN := num_calls g b l code w h hby
 have hr := num_range l code hby
 have hd : below m l code = if (num l code).2.2 = 0 then (if m < 1 ∨ m ≤ (num l code).1 then (0, (num l code).2.1, 2) else num l code) else (0, (num l code).2) := rfl
 rw [hd]
 clear hd
 generalize num l code = r at *
 obtain ⟨n, l', c'⟩ := r
 simp only at hr HN ⊢
 obtain ⟨h0, h1⟩ := hr
 have HN := aM HN
 have hlt : n < 2 ^ 64 := by rw [two64]; exact h1
 clear h hby
 by_cases hc : c' = 0
 · subst hc
   rw [if_pos rfl]
   by_cases hm : m < 1
   · rw [if_pos (Or.inl hm)]
     have hml : m ≤ 0 := by omega
     clear hm
     go_enter Try.func53, Try.ntmps53
     go_wp2_with (first | (go_at_call 43; refine HN.out.mono ?_; rintro e w1 ⟨rfl, hr1, hk1, hs1⟩; obtain ⟨hc2, hf2⟩ := hr1.code; have HR1 := aM hr1; clear hr1))
     go_ret
     exact ⟨rfl, HR1.out.set 2, hk1.setCell _ _ (fun _ => rfl), by rw [World.size_setCell]; exact hs1⟩
   · have hml : ¬ m ≤ 0 := by omega
     by_cases hn : m ≤ n
     · rw [if_pos (Or.inr hn)]
       go_enter Try.func53, Try.ntmps53
       go_wp2_with (first | (go_at_call 43; refine HN.out.mono ?_; rintro e w1 ⟨rfl, hr1, hk1, hs1⟩; obtain ⟨hc2, hf2⟩ := hr1.code; have HR1 := aM hr1; clear hr1))
       go_ret
       exact ⟨rfl, HR1.out.set 2, hk1.setCell _ _ (fun _ => rfl), by rw [World.size_setCell]; exact hs1⟩
     · rw [if_neg (by omega)]
       go_enter Try.func53, Try.ntmps53
       go_wp2_with (first | (go_at_call 43; refine HN.out.mono ?_; rintro e w1 ⟨rfl, hr1, hk1, hs1⟩; obtain ⟨hc2, hf2⟩ := hr1.code))
       go_ret
       exact ⟨rfl, hr1, hk1, hs1⟩
 · rw [if_neg hc]
   have hcb : (c' == 0) = false := beq_eq_false_iff_ne.mpr hc
   have hcn : (c' != 0) = true := bne_iff_ne.mpr hc
   clear hc
   go_enter Try.func53, Try.ntmps53
   go_wp2_with (first | (go_at_call 43; refine HN.out.mono ?_; rintro e w1 ⟨rfl, hr1, hk1, hs1⟩; obtain ⟨hc2, hf2⟩ := hr1.code))
   go_ret
   exact ⟨rfl, hr1, hk1, hs1⟩
set_option maxHeartbeats 1000000 in
theorem bytes_calls (g b : Nat) (l : List Int) (code m : Int) (w : World) (h : Rdr 107 w g b l code) :
 Calls Try.prog 63 #[.pointer (some ⟨g, 0, none⟩), .int .i64 m] w fun e w' => (∃ A c, e = .returned (.slice A (takes m l code).1.length c) ∧ (takes m l code).1.length ≤ c ∧ kU8.C w' A (takes m l code).1.length (takes m l code).1 ∧ ∀ a, A = some a → a.block = b) ∧ Rdr 107 w' g b (takes m l code).2.1 (takes m l code).2.2 ∧ Keep (· = g) w w' ∧ w'.heap.size = w.heap.size := by
 have HR := aM h
 obtain ⟨A, c, hc0, hf0, hb, hlc, hA, hC, hne⟩ := h.left
 obtain ⟨hc1, hf1⟩ := h.code
 clear h
 by_cases h0 : code = 0
 · subst h0
   have hd : takes m l 0 = if m < 0 ∨ (l.length : Int) < m then ([], l, 3) else (l.take m.toNat, l.drop m.toNat, 0) := rfl
   by_cases hm : m < 0 ∨ (l.length : Int) < m
   · rw [if_pos hm] at hd
     have HD := aM hd
     clear hd
     have hb2 : (m < 0) ∨ (¬ m < 0 ∧ (l.length : Int) < m) := by omega
     clear hm
     have HB := aM hb
     clear hb hC hA
     rcases hb2 with hb2 | ⟨hb2, hb3⟩
     all_goals
      go_enter Try.func63, Try.ntmps63
      go_wp2
      go_ret
      rw [HD.out]
      exact ⟨⟨none, 0, rfl, Nat.le_refl _, ⟨rfl, by simp, fun h => absurd h (by simp)⟩, fun a e => by simp at e⟩, HR.out.set 3, (Keep.refl _ _).setCell _ _ (fun _ => rfl), by simp [World.setCell]⟩
   · rw [if_neg hm] at hd
     have HD := aM hd
     clear hd
     have hm0 : 0 ≤ m := by omega
     have hm1 : m ≤ l.length := by omega
     clear hm
     have hd0 : decide (m < 0) = false := by simp; omega
     have hd1 : decide ((l.length : Int) < m) = false := by simp; omega
     obtain ⟨i5, hi5, -, hi5s, -⟩ := info_ex infoU8
     obtain ⟨A', hrun, hC', hblk, hlc'⟩ := sl_from kU8 28 5 .i64 Try.underlying28 hi5 A c l hi5s m hm0 hm1 hlc
     obtain ⟨hrun2, hC2, hl2⟩ := sl_to kU8 28 5 .i64 Try.underlying28 hi5 A c l m hm0 hm1 hlc
     have HCt := aM (hC2 _ hC)
     have HCd := aM (hC' _ hC)
     have HBL := aM hblk
     have HB := aM hb
     have HA := aM hA
     have HL2 := aM hl2
     clear hb hC hA hi5 hi5s hC' hC2 hblk hl2
     go_enter Try.func63, Try.ntmps63
     go_wp2
     go_ret
     have hcut := Rdr.cut HB.out HA.out hne hlc' HBL.out HCd.out
     rw [List.length_drop] at hcut
     have hlt : (l.take m.toNat).length = m.toNat := by rw [List.length_take]; omega
     rw [HD.out]
     refine ⟨⟨A, c, by simp only [hlt]; rfl, HL2.out, C_blk HCt.out (fun a e => ?_), HA.out⟩, hcut, (Keep.refl _ _).setCell _ _ (fun _ => rfl), by simp [World.setCell]⟩
     rw [HA.out a e]; exact Below.heap_setCell _ _ _ _ hne
 · have hd : takes m l code = ([], l, code) := if_neg h0
   have hcn : (code != 0) = true := bne_iff_ne.mpr h0
   have hcb : (code == 0) = false := beq_eq_false_iff_ne.mpr h0
   have HD := aM hd
   clear hd h0 hb hA hC
   go_enter Try.func63, Try.ntmps63
   go_wp2
   go_ret
   rw [HD.out]
   exact ⟨⟨none, 0, rfl, Nat.le_refl _, ⟨rfl, by simp, fun h => absurd h (by simp)⟩, fun a e => by simp at e⟩, HR.out, Keep.refl _ _, rfl⟩
set_option maxHeartbeats 1000000 in
theorem put_calls (A : Option Addr) (c : Nat) (l : List Int) (n : Int) (w : World) (hC : kU8.C w A l.length l) (hll : l.length ≤ 140737488355300) (h0 : 0 ≤ n) (h1 : n < 18446744073709551616) :
 Calls Try.prog 41 #[.slice A l.length c, .int .u64 n] w fun e w' => ∃ v, e = .returned v ∧ kU8.R 5 w' w.heap.size (fun _ => True) v (l ++ putl n.toNat) ∧ Below w.heap.size w w' := by
 have HC := aM hC
 clear hC
 go_enter Try.func41, Try.ntmps41
 go_wp2_with (first | ((with_reducible refine gate_builtin (b := .append) (xs := #[.tmp 7, .tmp 8]) rfl ?_); at_builtin; refine Kd.R_append_rows (Kd.int .u8) (w0 := w) w.heap.size rfl (.tmp 7) (.tmp 8) 28 5 (.int .u8 0) 1 rfl Try.underlying28 infoU8 rfl (by decide) (by omega) (.slice (some ⟨w.heap.size, 0, none⟩) 0 0) ([] : List Int) l _ _ _ (fun _ => True) (fun _ => False) rfl rfl ?aO ?aR (fun _ _ h => h) (fun _ h => h.elim) ?aF ?aB ?aS ?aL ?_; (case aR => exact Kd.C_alloc HC.out _); (case aB => exact (Below.refl _ _).alloc (Nat.le_refl _) _); (case aF => exact (fun _ _ => trivial)); (case aO => exact R_lit0 kU8 5 w); (case aS => simp); (case aL => (simp only [List.length_nil]; omega)); (intro v1 w1 ho hb1 hg hat; rw [List.nil_append] at ho; have HO := aM ho; have HW := aM hb1; clear ho hb1 hg hat)))
 go_loopw [1, 5] (fun vn vb wr => ∃ (m : Int) (xs : List Int), vn = .int .u64 m ∧ 0 ≤ m ∧ m < 18446744073709551616 ∧ Aside0 (xs ++ putl m.toNat = l ++ putl n.toNat) ∧ Aside0 (kU8.R 5 wr w.heap.size (fun _ => True) vb xs) ∧ Aside0 (Below w.heap.size w wr)) (fun vn _ _ => (intOf vn).toNat)
 case atStart => exact ⟨n, l, rfl, h0, h1, ⟨rfl⟩, HO, HW⟩
 case round =>
  clear HO HW
  obtain ⟨m, xs, rfl, hm0, hm1, HE, HO, HW⟩ := hrel
  have hlen := congrArg List.length HE.out
  rw [List.length_append, List.length_append] at hlen
  have h10 := putl_ten n.toNat (by omega)
  have h1 := (putl_len m.toNat).1
  have hxl : xs.length ≤ 140737488355310 := by omega
  clear hlen h10 h1
  by_cases hlt : m < 128
  · have hp := putl_lt (n := m.toNat) (by omega)
    rw [show ((m.toNat : Nat) : Int) = m % 128 by omega] at hp
    have HP := aM hp
    have hz : (m / 128 == 0) = true := by rw [beq_iff_eq]; omega
    clear hp
    go_wp2_with (first | ((with_reducible refine gate_builtin (b := .append) (xs := #[.tmp 16, .tmp 19]) rfl ?_); at_builtin; refine Kd.R_append (Kd.int .u8) (w0 := w) w.heap.size rfl (.tmp 16) (.tmp 19) 28 5 (.int .u8 0) 1 rfl Try.underlying28 infoU8 rfl (by decide) (by omega) u5 xs (m % 128) [.int .u8 (m % 128)] (fun _ => True) (fun _ => False) rfl rfl ?aP (fun _ hk => hk.elim) ?aF ?aO ?aB ?aS ?aL ?_; (case aP => exact rfl); (case aB => exact HW.out); (case aF => exact (fun _ _ => trivial)); (case aO => exact HO.out); (case aS => exact HW.out.size); (case aL => omega); (intro v1 w1 ho hb1 hg hat; have HO2 := aM ho; have HW2 := aM hb1; clear ho hb1 hg hat)))
    go_ret
    exact ⟨_, rfl, by rw [← HE.out, HP.out]; exact HO2.out, HW2.out⟩
  · have hp := putl_ge (n := m.toNat) (by omega)
    rw [show ((m.toNat % 128 + 128 : Nat) : Int) = m % 128 + 128 by omega, show m.toNat / 128 = (m / 128).toNat by omega] at hp
    have HP := aM hp
    have hz : (m / 128 == 0) = false := by rw [beq_eq_false_iff_ne]; omega
    clear hp
    go_wp2_with (first | ((with_reducible refine gate_builtin (b := .append) (xs := #[.tmp 21, .tmp 25]) rfl ?_); at_builtin; refine Kd.R_append (Kd.int .u8) (w0 := w) w.heap.size rfl (.tmp 21) (.tmp 25) 28 5 (.int .u8 0) 1 rfl Try.underlying28 infoU8 rfl (by decide) (by omega) u5 xs (m % 128 + 128) [.int .u8 (m % 128 + 128)] (fun _ => True) (fun _ => False) rfl rfl ?aP (fun _ hk => hk.elim) ?aF ?aO ?aB ?aS ?aL ?_; (case aP => exact rfl); (case aB => exact HW.out); (case aF => exact (fun _ _ => trivial)); (case aO => exact HO.out); (case aS => exact HW.out.size); (case aL => omega); (intro v1 w1 ho hb1 hg hat; have HO2 := aM ho; have HW2 := aM hb1; clear ho hb1 hg hat)))
    go_roundw
    case rel => exact ⟨m / 128, _, rfl, by omega, by omega, ⟨by rw [← HE.out, HP.out, List.append_assoc]; rfl⟩, HO2, HW2⟩
    case measure => simp [intOf]; omega
end Go.Proofs.Ytnckonglodmfeaa.Lr
namespace Go.Proofs.Ytnckonglodmfeaa.Gc
open Go.RowKit Go.Proofs.YtnckonglodmfeaaW.PrintWords Go.Proofs.YtnckonglodmfeaaW.PrintLast Go.Proofs.YtnckonglodmfeaaW.PrintMore B Ls Gs S
set_option maxHeartbeats 4000000 in
set_option maxRecDepth 100000 in
theorem rsum_calls (A : Option Addr) (c : Nat) (l : List Int) (n : Nat) (hn : l.length = n) (w : World) (hC : kU8.C w A n l) (hby : By l) :
 Calls Try.prog 91 #[.slice A n c] w fun e w' => e = .returned (.int .u32 (sumL l)) ∧ w = w' := by
 subst hn
 have HC := aM hC
 have HBY := aM hby
 have hll := hC.2.1
 clear hC hby
 go_enter Try.func91, Try.ntmps91
 go_wp2_with fail
 go_loopw [3, 4] (fun vx vi wr => wr = w ∧ ∃ (i : Nat) (y : Int), i ≤ l.length ∧ vi = .int .i64 i ∧ vx = .int .u32 y ∧ 0 ≤ y ∧ y < 4294967296 ∧ Aside0 (y = crcL (l.take i) 4294967295)) (fun _ vi _ => l.length - (intOf vi).toNat)
 case atStart => exact ⟨rfl, 0, _, by omega, rfl, rfl, by decide, by decide, ⟨rfl⟩⟩
 case round =>
  obtain ⟨rfl, i, y, hi, rfl, rfl, hy0, hy1, HY⟩ := hrel
  by_cases hil : i < l.length
  · obtain ⟨b, hb⟩ : ∃ b, l[i]? = some b := ⟨_, List.getElem?_eq_getElem hil⟩
    obtain ⟨ad1, rfl⟩ : ∃ ad, A = some ad := by obtain ⟨ad, e, _⟩ := HC.out.2.2 (by omega); exact ⟨ad, e⟩
    have q2 := C_cell HC.out hb
    obtain ⟨hb0, hb1⟩ := HBY.out.at hb
    have HT := aM (show crcL (l.take (i + 1)) 4294967295 = crcByte y b by rw [crcL_take _ hb, HY.out])
    clear hb HY
    go_wp2_with fail
    have hxr := xor_range y b
    obtain ⟨z0, hz0⟩ : ∃ z, Go.bits .xor .u32 y b = z := ⟨_, rfl⟩
    rw [hz0] at hxr
    rw [hz0]
    have HZ := aM hz0
    clear hz0
    obtain ⟨hz00, hz01⟩ := hxr
    go_loopw [3, 5] (fun vx vi wr' => wr' = wr ∧ ∃ (j : Nat) (z : Int), j ≤ 8 ∧ vi = .int .i64 j ∧ vx = .int .u32 z ∧ 0 ≤ z ∧ z < 4294967296 ∧ Aside0 (crcBits (8 - j) z = crcByte y b)) (fun _ vi _ => 8 - (intOf vi).toNat)
    case atStart => exact ⟨rfl, 0, z0, by omega, rfl, rfl, hz00, hz01, ⟨by rw [← HZ.out]; rfl⟩⟩
    case round =>
     obtain ⟨rfl, j, z, hj, rfl, rfl, hz0, hz1, HZ⟩ := hrel
     by_cases hj8 : j < 8
     · have hr := crcBit_range z hz0 hz1
       have HZ2 := aM (show crcBits (8 - (j + 1)) (crcBit z) = crcByte y b by rw [← HZ.out, show 8 - j = (8 - (j + 1)) + 1 by omega]; rfl)
       by_cases hodd : z % 2 = 1
       · have ho : (z % 2 == 1) = true := by rw [hodd]; rfl
         have hcb : crcBit z = Go.bits .xor .u32 (z / 2) 3988292384 := if_pos hodd
         rw [hcb] at HZ2 hr
         clear hcb hodd
         go_wp2
         go_roundw
         case rel => exact ⟨by first | rfl | trivial, j + 1, _, by omega, by go_num, rfl, hr.1, hr.2, HZ2⟩
         case measure => simp [intOf]; omega
       · have ho : (z % 2 == 1) = false := beq_eq_false_iff_ne.mpr hodd
         have hcb : crcBit z = z / 2 := if_neg hodd
         rw [hcb] at HZ2 hr
         clear hcb hodd
         go_wp2
         go_roundw
         case rel => exact ⟨by first | rfl | trivial, j + 1, _, by omega, by go_num, rfl, by omega, by omega, HZ2⟩
         case measure => simp [intOf]; omega
     · have hje : j = 8 := by omega
       subst hje
       go_wp2
       go_roundw
       case rel => exact ⟨by first | rfl | trivial, i + 1, z, by omega, by go_num, rfl, hz0, hz1, ⟨by rw [HT.out, ← HZ.out]; rfl⟩⟩
       case measure => simp [intOf]; omega
  · have hie : i = l.length := by omega
    subst hie
    go_wp2
    go_ret
    rw [List.take_length] at HY
    refine ⟨?_, rfl⟩
    rw [sumL, ← HY.out]
    rfl
theorem R_litk (k : IntKind) (e : Nat) (W : World) (xs : List Int) (hm : xs.length ≤ 9223372036854775807) : (Kd.int k).R e (W.alloc (.cells (xs.map (Value.int k)).toArray e)) W.heap.size (fun _ => True) (.slice (some ⟨W.heap.size, 0, none⟩) xs.length xs.length) xs :=
 Kd.R_of_own (own_lit W W.heap.size e k xs (Nat.le_refl _) hm) (fun _ _ => trivial)
theorem kL_two {w : World} {A1 A2 : Option Addr} {c1 c2 n1 n2 : Nat} {l1 l2 : List Int} (h1 : kU8.C w A1 n1 l1) (h2 : kU8.C w A2 n2 l2) (hc1 : n1 ≤ c1) (hc2 : n2 ≤ c2) (e : Nat) :
 kL.C (w.alloc (.cells #[.slice A1 n1 c1, .slice A2 n2 c2] e)) (some ⟨w.heap.size, 0, none⟩) 2 [l1, l2] := by
 obtain rfl := h1.1
 obtain rfl := h2.1
 refine ⟨rfl, by decide, fun _ => ⟨_, rfl, fun j p hj => ?_⟩⟩
 have cell : ∀ (j : Nat) (v : Value), (#[.slice A1 l1.length c1, .slice A2 l2.length c2] : Array Value)[j]? = some v → (w.alloc (.cells #[.slice A1 l1.length c1, .slice A2 l2.length c2] e)).cell? ((⟨w.heap.size, 0, none⟩ : Addr).add j) = some v := fun j v h => by
  have hadd : (⟨w.heap.size, 0, none⟩ : Addr).add j = ⟨w.heap.size, j, none⟩ := by unfold Addr.add; split <;> simp_all
  rw [hadd, cell_of_row _ w.heap.size j _ e (0, 0) (heap_alloc_new _ _)]
  exact h
 have hs : kL.sz = 1 := rfl
 match j, hj with
 | 0, hj =>
  have := Option.some.inj hj
  subst this
  refine ⟨[.slice A1 l1.length c1], rfl, ⟨A1, c1, rfl, hc1, Kd.C_alloc h1 _⟩, fun i u hu => ?_⟩
  obtain ⟨rfl, rfl⟩ : i = 0 ∧ u = .slice A1 l1.length c1 := by
   rcases i with _ | i
   · exact ⟨rfl, by simpa using hu.symm⟩
   · simp at hu
  exact cell _ _ rfl
 | 1, hj =>
  have := Option.some.inj hj
  subst this
  refine ⟨[.slice A2 l2.length c2], rfl, ⟨A2, c2, rfl, hc2, Kd.C_alloc h2 _⟩, fun i u hu => ?_⟩
  obtain ⟨rfl, rfl⟩ : i = 0 ∧ u = .slice A2 l2.length c2 := by
   rcases i with _ | i
   · exact ⟨rfl, by simpa using hu.symm⟩
   · simp at hu
  exact cell _ _ rfl
 | n + 2, hj => simp at hj
def fourV (k : Int) (b : List Int) : Value := .agg #[.int .u8 (sumL (k :: b) % 256), .int .u8 (sumL (k :: b) / 256 % 256), .int .u8 (sumL (k :: b) / 65536 % 256), .int .u8 (sumL (k :: b) / 16777216)]
set_option maxHeartbeats 4000000 in
set_option maxRecDepth 100000 in
theorem four_calls (k : Int) (hk0 : 0 ≤ k) (hk1 : k < 256) (A : Option Addr) (c : Nat) (b : List Int) (w : World) (hC : kU8.C w A b.length b) (hc : b.length ≤ c) (hby : By b) :
 Calls Try.prog 88 #[.int .u8 k, .slice A b.length c] w fun e w' => e = .returned (fourV k b) ∧ Below w.heap.size w w' := by
 have HC := aM hC
 have hsr := sumL_range (k :: b)
 have hby2 : ∀ l ∈ [[k], b], By l := fun l hl => by
  simp only [List.mem_cons, List.not_mem_nil, or_false] at hl
  rcases hl with rfl | rfl
  · intro x hx; simp at hx; omega
  · exact hby
 have HBY := aM hby2
 have HE := aM (show fourV k b = .agg #[.int .u8 (sumL (k :: b) % 256), .int .u8 (sumL (k :: b) / 256 % 256), .int .u8 (sumL (k :: b) / 65536 % 256), .int .u8 (sumL (k :: b) / 16777216)] from rfl)
 obtain ⟨n, hn⟩ : ∃ n, sumL (k :: b) = n := ⟨_, rfl⟩
 rw [hn] at HE hsr
 have HN := aM (show sumL ([[k], b] : List (List Int)).flatten = n by rw [← hn]; simp)
 obtain ⟨hn0, hn1⟩ := hsr
 have hcall : Calls Try.prog 121 #[.slice (some ⟨w.heap.size + 1 + 1, 0, none⟩) 2 2] (((w.alloc (.cells #[.int .u8 0, .int .u8 0, .int .u8 0, .int .u8 0] 160)).alloc (.cells #[.int .u8 k] 5)).alloc (.cells #[.slice (some ⟨w.heap.size + 1, 0, none⟩) 1 1, .slice A b.length c] 28)) fun e w' => e = .returned (.int .u32 n) ∧ (((w.alloc (.cells #[.int .u8 0, .int .u8 0, .int .u8 0, .int .u8 0] 160)).alloc (.cells #[.int .u8 k] 5)).alloc (.cells #[.slice (some ⟨w.heap.size + 1, 0, none⟩) 1 1, .slice A b.length c] 28)) = w' := by
  obtain ⟨W1, hW1⟩ : ∃ W1, W1 = w.alloc (.cells #[.int .u8 0, .int .u8 0, .int .u8 0, .int .u8 0] 160) := ⟨_, rfl⟩
  have e1 : W1.heap.size = w.heap.size + 1 := by rw [hW1]; exact World.size_alloc _ _
  have hCb : kU8.C W1 A b.length b := by rw [hW1]; exact Kd.C_alloc hC _
  rw [← hW1, ← e1]
  obtain ⟨W2, hW2⟩ : ∃ W2, W2 = W1.alloc (.cells #[.int .u8 k] 5) := ⟨_, rfl⟩
  have e2 : W2.heap.size = W1.heap.size + 1 := by rw [hW2]; exact World.size_alloc _ _
  have hk : kU8.C W2 (some ⟨W1.heap.size, 0, none⟩) 1 [k] := by rw [hW2]; exact C_lit .u8 5 W1 [k] (by simp)
  have hCb2 : kU8.C W2 A b.length b := by rw [hW2]; exact Kd.C_alloc hCb _
  rw [← hW2, ← e2]
  have h := sum_calls (some ⟨W2.heap.size, 0, none⟩) 2 [[k], b] _ (kL_two (c1 := 1) hk hCb2 (Nat.le_refl 1) hc 28) HBY.out
  rw [HN.out] at h
  exact h
 have HCALL := aM hcall
 have q1 := Int.emod_nonneg n (show (256 : Int) ≠ 0 by decide)
 clear hC hby hby2 hn hcall q1
 go_enter Try.func88, Try.ntmps88
 go_wp2_with (first | (go_at_call 121; refine HCALL.out.mono ?_; rintro e w1 ⟨rfl, rfl⟩))
 refine bodyPost_ret (results_cell_row rfl _ _ w.heap.size 160 _ (0, 0) _ rfl ((Below.heap_alloc _ _ _ (by simp; omega)).trans ((Below.heap_alloc _ _ _ (by simp)).trans (heap_alloc_new w _))) Try.underlying160 rfl (by kernel_rfl)) rfl ?_
 exact ⟨by rw [HE.out], (((Below.refl _ _).alloc (Nat.le_refl _) _).alloc (by simp) _).alloc (by simp; omega) _⟩
theorem check_eq (k : Int) (b : List Int) : check k b = [sumL (k :: b) % 256, sumL (k :: b) / 256 % 256, sumL (k :: b) / 65536 % 256, sumL (k :: b) / 16777216] := rfl
set_option maxHeartbeats 4000000 in
set_option maxRecDepth 100000 in
theorem check_calls (k : Int) (hk0 : 0 ≤ k) (hk1 : k < 256) (A : Option Addr) (c : Nat) (b : List Int) (m : Nat) (hm : b.length = m) (w : World) (hC : kU8.C w A m b) (hll : m ≤ 140737488355300) (hby : By b) :
 Calls Try.prog 44 #[.int .u8 k, .slice A m c] w fun e w' => ∃ g, e = .returned (.slice (some ⟨g, 0, none⟩) 4 4) ∧ kU8.C w' (some ⟨g, 0, none⟩) 4 (check k b) ∧ Below w.heap.size w w' := by
 subst hm
 have HC := aM hC
 have hsr := sumL_range (k :: b)
 have HBY := aM (show By (k :: b) from fun x hx => by
  rcases List.mem_cons.1 hx with rfl | hx
  · omega
  · exact hby x hx)
 have HE := aM (check_eq k b)
 obtain ⟨n, hn⟩ : ∃ n, sumL (k :: b) = n := ⟨_, rfl⟩
 rw [hn] at HE hsr
 have HN := aM hn
 obtain ⟨hn0, hn1⟩ := hsr
 obtain ⟨nb, hnb⟩ : ∃ nb, (k :: b).length = nb := ⟨_, rfl⟩
 have HNB := aM hnb
 have HR0 := aM (show kU8.R 5 (w.alloc (.cells #[.int .u8 k] 5)) w.heap.size (fun _ => True) (.slice (some ⟨w.heap.size, 0, none⟩) 1 1) [k] from R_litk .u8 5 w [k] (by simp))
 clear hC hby hn hnb
 go_enter Try.func44, Try.ntmps44
 go_wp2_with (first
  | ((with_reducible refine gate_builtin (b := .append) (xs := #[.tmp 7, .tmp 8]) rfl ?_); at_builtin; refine Kd.R_append_rows (Kd.int .u8) (w0 := w) w.heap.size rfl (.tmp 7) (.tmp 8) 28 5 (.int .u8 0) 1 rfl Try.underlying28 infoU8 rfl (by decide) (by omega) (.slice (some ⟨w.heap.size, 0, none⟩) 1 1) [k] b _ _ _ (fun _ => True) (fun _ => False) rfl rfl ?aO ?aR (fun _ _ h => h) (fun _ h => h.elim) ?aF ?aB ?aS ?aL ?_; (case aR => exact Kd.C_alloc HC.out _); (case aB => exact (Below.refl _ _).alloc (Nat.le_refl _) _); (case aF => exact (fun _ _ => trivial)); (case aO => exact HR0.out); (case aS => simp); (case aL => (simp only [List.length_cons, List.length_nil]; omega)); (intro v1 w1 ho hb1 hg hat; obtain ⟨A1, c1, hv, -, hC1⟩ := Kd.R_reads ho; rw [show ([k] ++ b).length = nb from HNB.out] at hv hC1; subst hv; have HC1 := aM hC1; have HB1 := aM hb1; clear ho hb1 hg hat hC1))
  | (go_at_call 91; refine (rsum_calls A1 c1 (k :: b) nb HNB.out _ HC1.out HBY.out).mono ?_; rw [HN.out]; rintro e w2 ⟨rfl, rfl⟩))
 go_ret
 refine ⟨w1.heap.size, rfl, ?_, HB1.out.alloc HB1.out.size _⟩
 rw [HE.out]
 exact C_lit .u8 5 w1 [n % 256, n / 256 % 256, n / 65536 % 256, n / 16777216] (by simp)
end Go.Proofs.Ytnckonglodmfeaa.Gc
namespace Go.Proofs.Ytnckonglodmfeaa.Gc
open Go.RowKit Go.Proofs.YtnckonglodmfeaaW.PrintWords Go.Proofs.YtnckonglodmfeaaW.PrintLast Go.Proofs.YtnckonglodmfeaaW.PrintMore B Ls Gs S
theorem lay_eq (k : Int) (b : List Int) : (([111, k] ++ putl b.length) ++ check k b) ++ b = layL k b := by simp [layL]
set_option maxHeartbeats 4000000 in
set_option maxRecDepth 100000 in
theorem lay_calls (k : Int) (hk0 : 0 ≤ k) (hk1 : k < 256) (A : Option Addr) (c : Nat) (b : List Int) (w : World) (hC : kU8.C w A b.length b) (hc : b.length ≤ c) (hby : By b) (hl : b.length ≤ 65536) :
 Calls Try.prog 39 #[.int .u8 k, .slice A b.length c] w fun e w' => ∃ v, e = .returned (.tuple #[v, .int .i64 0]) ∧ kU8.R 5 w' w.heap.size (fun _ => True) v (layL k b) ∧ Below w.heap.size w w' := by
 have HC := aM hC
 have HBY := aM hby
 have HE := aM (show fourV k b = .agg #[.int .u8 (sumL (k :: b) % 256), .int .u8 (sumL (k :: b) / 256 % 256), .int .u8 (sumL (k :: b) / 65536 % 256), .int .u8 (sumL (k :: b) / 16777216)] from rfl)
 have HCE := aM (check_eq k b)
 obtain ⟨n, hn⟩ : ∃ n, sumL (k :: b) = n := ⟨_, rfl⟩
 rw [hn] at HE HCE
 obtain ⟨ph, hph⟩ : ∃ ph, [111, k] ++ putl b.length = ph := ⟨_, rfl⟩
 have hpl := (putl_three hl).2
 have hpl2 : ph.length ≤ 5 := by rw [← hph, List.length_append]; simp; omega
 have HPH := aM hph
 have HLE := aM (lay_eq k b)
 rw [hph] at HLE
 clear hC hby hn hph hpl
 have y1 := wrU64 (b.length : Int) (by omega) (by omega)
 go_enter Try.func39, Try.ntmps39
 go_wp2_with (first
  | (go_at_call 38; refine (Lc.put_calls (some ⟨w.heap.size, 0, none⟩) 2 [111, k] b.length _ (C_lit .u8 5 w [111, k] (by simp)) (by simp) (by omega) (by omega)).mono ?_; rintro e w1 ⟨v1, rfl, ho1, hb1⟩; rw [Int.toNat_natCast, HPH.out] at ho1; have HO1 := aM (Kd.R_lower (base' := w.heap.size) ho1 (by simp)); have HB1 := aM (((Below.refl w.heap.size w).alloc (Nat.le_refl _) (.cells #[.int .u8 111, .int .u8 k] 5)).trans (hb1.mono (by simp))); clear ho1 hb1)
  | (go_at_call 88; refine (four_calls k hk0 hk1 A c b _ (Kd.C_below HC.out HB1.out) hc HBY.out).mono ?_; rw [HE.out]; rintro e w2 ⟨rfl, hb2⟩; have HB2 := aM (HB1.out.trans (hb2.mono HB1.out.size)); have HO2 := aM (Kd.R_below HO1.out hb2); clear hb2)
  | ((with_reducible refine gate_builtin (b := .append) (xs := #[.tmp 20, .tmp 21]) rfl ?_); at_builtin; refine Kd.R_append_rows (Kd.int .u8) (w0 := w) w.heap.size rfl (.tmp 20) (.tmp 21) 28 5 (.int .u8 0) 1 rfl Try.underlying28 infoU8 rfl (by decide) (by omega) v1 ph (check k b) _ _ _ (fun _ => True) (fun _ => False) rfl rfl ?aO ?aR (fun _ _ h => h) (fun _ h => h.elim) ?aF ?aB ?aS ?aL ?_; (case aR => exact (by rw [HCE.out]; exact C_lit .u8 160 w2 [n % 256, n / 256 % 256, n / 65536 % 256, n / 16777216] (by simp))); (case aB => exact (HB2.out.alloc HB2.out.size _)); (case aF => exact (fun _ _ => trivial)); (case aO => exact (Kd.R_below HO2.out ((Below.refl _ _).alloc (Nat.le_refl _) _))); (case aS => (simp only [World.size_alloc]; have := HB2.out.size; omega)); (case aL => omega); (intro v3 w3 ho3 hb3 hg hat; have HO3 := aM ho3; have HB3 := aM hb3; clear ho3 hb3 hg hat))
  | ((with_reducible refine gate_builtin (b := .append) (xs := #[.tmp 22, .tmp 23]) rfl ?_); at_builtin; refine Kd.R_append_rows (Kd.int .u8) (w0 := w) w.heap.size rfl (.tmp 22) (.tmp 23) 28 5 (.int .u8 0) 1 rfl Try.underlying28 infoU8 rfl (by decide) (by omega) v3 (ph ++ check k b) b _ _ _ (fun _ => True) (fun _ => False) rfl rfl ?aO ?aR (fun _ _ h => h) (fun _ h => h.elim) ?aF ?aB ?aS ?aL ?_; (case aR => exact (Kd.C_below HC.out HB3.out)); (case aB => exact HB3.out); (case aF => exact (fun _ _ => trivial)); (case aO => exact HO3.out); (case aS => (exact HB3.out.size)); (case aL => (simp only [List.length_append, check_len]; omega)); (intro v4 w4 ho4 hb4 hg hat; rw [HLE.out] at ho4; have HO4 := aM ho4; have HB4 := aM hb4; clear ho4 hb4 hg hat)))
 go_ret2
 exact ⟨_, rfl, HO4.out, HB4.out⟩
end Go.Proofs.Ytnckonglodmfeaa.Gc
namespace Go.Proofs.Ytnckonglodmfeaa.Lc
open Go.RowKit Go.Proofs.YtnckonglodmfeaaW.PrintWords Go.Proofs.YtnckonglodmfeaaW.PrintLast Go.Proofs.YtnckonglodmfeaaW.PrintMore B Ls
set_option maxRecDepth 100000 in
theorem int_calls (g b : Nat) (l : List Int) (code : Int) (w : World) (h : Rdr 170 w g b l code) (hby : By l) :
 Calls Try.prog 146 #[.pointer (some ⟨g, 0, none⟩)] w fun e w' => e = .returned (.int .i64 (zag (num l code).1)) ∧ Rdr 170 w' g b (num l code).2.1 (num l code).2.2 ∧ Keep (· = g) w w' ∧ w'.heap.size = w.heap.size := by
 have HN := num_calls g b l code w h hby
 have hr := num_range l code hby
 generalize num l code = r at *
 obtain ⟨n, l', c'⟩ := r
 simp only at hr HN ⊢
 obtain ⟨h0, h1⟩ := hr
 have HZ := aM (zag_bits n h0 h1)
 have HN := aM HN
 have ha := and1 n h0 h1
 have hb0 : 0 ≤ Go.bits .and .u64 n 1 := by omega
 have hb1 : Go.bits .and .u64 n 1 < 2 := by omega
 have hlt : n < 2 ^ 64 := by rw [two64]; exact h1
 clear h hby ha
 go_enter Try.func146, Try.ntmps146
 go_wp2_with (first | (go_at_call 47; refine HN.out.mono ?_; rintro e w1 ⟨rfl, hr1, hk1, hs1⟩))
 go_ret
 exact ⟨ret_eq HZ.out, hr1, hk1, hs1⟩
theorem code_calls (g b : Nat) (l : List Int) (code : Int) (w : World) (h : Rdr 170 w g b l code) :
 Calls Try.prog 99 #[.pointer (some ⟨g, 0, none⟩)] w fun e w' => e = .returned (.int .i64 code) ∧ w = w' := by
 obtain ⟨hc, hf⟩ := h.code
 clear h
 go_enter Try.func99, Try.ntmps99
 go_wp2
 go_ret
 exact ⟨rfl, rfl⟩
theorem left_calls (g b : Nat) (l : List Int) (code : Int) (w : World) (h : Rdr 170 w g b l code) :
 Calls Try.prog 49 #[.pointer (some ⟨g, 0, none⟩)] w fun e w' => e = .returned (.int .i64 l.length) ∧ w = w' := by
 obtain ⟨A, c, hc, -⟩ := h.left
 clear h
 go_enter Try.func49, Try.ntmps49
 go_wp2
 go_ret
 exact ⟨rfl, rfl⟩
theorem end_calls (g b : Nat) (l : List Int) (code : Int) (w : World) (h : Rdr 170 w g b l code) :
 Calls Try.prog 50 #[.pointer (some ⟨g, 0, none⟩)] w fun e w' => e = .returned (.int .i64 (ended l code)) ∧ Rdr 170 w' g b l (ended l code) ∧ Keep (· = g) w w' ∧ w'.heap.size = w.heap.size := by
 have HR := aM h
 obtain ⟨A, c, hc0, -⟩ := h.left
 obtain ⟨hc1, -⟩ := h.code
 clear h
 by_cases h0 : 0 < l.length
 · have he : ended l code = failed 5 code := if_pos h0
   have HE := aM he
   clear he
   go_enter Try.func50, Try.ntmps50
   go_wp2_with (first | (go_at_call 94; refine (fail_calls g b l code 5 _ HR.out).mono ?_; rintro e w1 ⟨rfl, hr1, hk1, hs1⟩; have hc2 := hr1.code.1))
   go_ret
   exact ⟨ret_eq HE.out.symm, by rw [HE.out]; exact hr1, hk1, hs1⟩
 · have he : ended l code = code := if_neg h0
   have HE := aM he
   clear he
   go_enter Try.func50, Try.ntmps50
   go_wp2
   go_ret
   exact ⟨ret_eq HE.out.symm, by rw [HE.out]; exact HR.out, Keep.refl _ _, rfl⟩
set_option maxHeartbeats 1000000 in
theorem below_calls (g b : Nat) (l : List Int) (code m : Int) (w : World) (h : Rdr 170 w g b l code) (hby : By l) (hm0 : -9223372036854775808 ≤ m) (hm1 : m ≤ 9223372036854775807) :
 Calls Try.prog 46 #[.pointer (some ⟨g, 0, none⟩), .int .i64 m] w fun e w' => e = .returned (.int .i64 (below m l code).1) ∧ Rdr 170 w' g b (below m l code).2.1 (below m l code).2.2 ∧ Keep (· = g) w w' ∧ w'.heap.size = w.heap.size := by
 have HN := num_calls g b l code w h hby
 have hr := num_range l code hby
 have hd : below m l code = if (num l code).2.2 = 0 then (if m < 1 ∨ m ≤ (num l code).1 then (0, (num l code).2.1, 2) else num l code) else (0, (num l code).2) := rfl
 rw [hd]
 clear hd
 generalize num l code = r at *
 obtain ⟨n, l', c'⟩ := r
 simp only at hr HN ⊢
 obtain ⟨h0, h1⟩ := hr
 have HN := aM HN
 have hlt : n < 2 ^ 64 := by rw [two64]; exact h1
 clear h hby
 by_cases hc : c' = 0
 · subst hc
   have hf2 : failed 2 0 = 2 := rfl
   rw [if_pos rfl]
   by_cases hm : m < 1
   · rw [if_pos (Or.inl hm)]
     go_enter Try.func46, Try.ntmps46
     go_wp2_with (first | (go_at_call 47; refine HN.out.mono ?_; rintro e w1 ⟨rfl, hr1, hk1, hs1⟩; have hc2 := hr1.code.1; have HR1 := aM hr1; clear hr1) | (go_at_call 94; refine (fail_calls g b l' 0 2 _ HR1.out).mono ?_; rintro e w2 ⟨rfl, hr2, hk2, hs2⟩; rw [hf2] at hr2; have hc3 := hr2.code.1))
     go_ret
     exact ⟨rfl, hr2, hk1.trans hk2, hs2.trans hs1⟩
   · by_cases hn : m ≤ n
     · rw [if_pos (Or.inr hn)]
       go_enter Try.func46, Try.ntmps46
       go_wp2_with (first | (go_at_call 47; refine HN.out.mono ?_; rintro e w1 ⟨rfl, hr1, hk1, hs1⟩; have hc2 := hr1.code.1; have HR1 := aM hr1; clear hr1) | (go_at_call 94; refine (fail_calls g b l' 0 2 _ HR1.out).mono ?_; rintro e w2 ⟨rfl, hr2, hk2, hs2⟩; rw [hf2] at hr2; have hc3 := hr2.code.1))
       go_ret
       exact ⟨rfl, hr2, hk1.trans hk2, hs2.trans hs1⟩
     · rw [if_neg (by omega)]
       go_enter Try.func46, Try.ntmps46
       go_wp2_with (first | (go_at_call 47; refine HN.out.mono ?_; rintro e w1 ⟨rfl, hr1, hk1, hs1⟩; have hc2 := hr1.code.1))
       go_ret
       exact ⟨rfl, hr1, hk1, hs1⟩
 · rw [if_neg hc]
   have hcb : (c' == 0) = false := beq_eq_false_iff_ne.mpr hc
   have hcn : (c' != 0) = true := bne_iff_ne.mpr hc
   clear hc
   go_enter Try.func46, Try.ntmps46
   go_wp2_with (first | (go_at_call 47; refine HN.out.mono ?_; rintro e w1 ⟨rfl, hr1, hk1, hs1⟩; have hc2 := hr1.code.1))
   go_ret
   exact ⟨rfl, hr1, hk1, hs1⟩
set_option maxHeartbeats 1000000 in
theorem bytes_calls (g b : Nat) (l : List Int) (code m : Int) (w : World) (h : Rdr 170 w g b l code) (hlb : b < w.heap.size) (hll : l.length ≤ 140737488355328) :
 Calls Try.prog 48 #[.pointer (some ⟨g, 0, none⟩), .int .i64 m] w fun e w' => ∃ v, e = .returned v ∧ kU8.R 5 w' w.heap.size (fun _ => True) v (takes m l code).1 ∧ Rdr 170 w' g b (takes m l code).2.1 (takes m l code).2.2 ∧ Keep (· = g) w w' := by
 have HR := aM h
 obtain ⟨A, c, hc0, hf0, hb, hlc, hA, hC, hne⟩ := h.left
 have hgl := h.lt
 obtain ⟨hc1, -⟩ := h.code
 clear h
 by_cases h0 : code = 0
 · subst h0
   have hd : takes m l 0 = if m < 0 ∨ (l.length : Int) < m then ([], l, 3) else (l.take m.toNat, l.drop m.toNat, 0) := rfl
   by_cases hm : m < 0 ∨ (l.length : Int) < m
   · rw [if_pos hm] at hd
     have HD := aM hd
     clear hd
     have hb2 : (m < 0) ∨ (¬ m < 0 ∧ (l.length : Int) < m) := by omega
     clear hm
     have HB := aM hb
     have HC := aM hC
     have HA := aM hA
     clear hb hC hA
     rcases hb2 with hb2 | ⟨hb2, hb3⟩
     all_goals
      go_enter Try.func48, Try.ntmps48
      go_wp2_with (first | (go_at_call 94; refine (fail_calls g b l 0 3 _ HR.out).mono ?_; rintro e w1 ⟨rfl, hr1, hk1, hs1⟩))
      go_ret
      refine ⟨_, rfl, ?_, ?_, hk1⟩
      · rw [HD.out]; exact Kd.R_nil _ _ _ _ _
      · rw [HD.out]; exact hr1
   · rw [if_neg hm] at hd
     have HD := aM hd
     clear hd
     have hm0 : 0 ≤ m := by omega
     have hm1 : m ≤ l.length := by omega
     clear hm
     have hd0 : decide (m < 0) = false := by simp; omega
     have hd1 : decide ((l.length : Int) < m) = false := by simp; omega
     obtain ⟨i5, hi5, -, hi5s, -⟩ := info_ex infoU8
     obtain ⟨A', hrun, hC', hblk, hlc'⟩ := sl_from kU8 28 5 .i64 Try.underlying28 hi5 A c l hi5s m hm0 hm1 hlc
     obtain ⟨hrun2, hC2, -⟩ := sl_to kU8 28 5 .i64 Try.underlying28 hi5 A c l m hm0 hm1 hlc
     have hct := hC2 _ hC
     rw [show (l.take m.toNat).length = m.toNat by rw [List.length_take]; omega] at hct
     have HCt := aM hct
     clear hct
     have HCd := aM (hC' _ hC)
     have HBL := aM hblk
     have HB := aM hb
     have HC := aM hC
     have HA := aM hA
     clear hb hC hA hi5 hi5s hC' hC2 hblk
     go_enter Try.func48, Try.ntmps48
     go_wp2_with (first | ((with_reducible refine gate_builtin (b := .append) (xs := #[.tmp 26, .tmp 32]) rfl ?_); at_builtin; refine Kd.R_append_rows (Kd.int .u8) (w0 := w) w.heap.size rfl (.tmp 26) (.tmp 32) 28 5 (.int .u8 0) 1 rfl Try.underlying28 infoU8 rfl (by decide) (by omega) (.slice (some ⟨w.heap.size, 0, none⟩) 0 0) ([] : List Int) (l.take m.toNat) _ _ _ (fun _ => True) (fun _ => False) rfl rfl ?aO ?aR (fun _ _ h => h) (fun _ h => h.elim) ?aF ?aB ?aS ?aL ?_; (case aR => exact Kd.C_alloc HCt.out _); (case aB => exact (Below.refl _ _).alloc (Nat.le_refl _) _); (case aF => exact (fun _ _ => trivial)); (case aO => exact R_lit0 kU8 5 w); (case aS => simp); (case aL => (simp only [List.length_nil]; omega)); (intro v1 w1 ho hb1 hg hat; have hb2 := (hb1.block g hgl).trans HB.out; have hc2 : w1.cell? ⟨g, 0, none⟩ = some (.slice A l.length c) := (by simp [World.cell?, hb2]); have hf2 := blk_frozen hb2 0; have HB2 := aM hb2; have HO := aM ho; have HW := aM hb1; clear ho hb1 hg hat hb2)))
     go_ret
     have hblt : ∀ a, A = some a → w1.heap[a.block]? = w.heap[a.block]? := fun a e => by
      rw [HA.out a e]; exact HW.out.block b hlb
     have hcut := Rdr.cut HB2.out HA.out hne hlc' HBL.out (C_blk HCd.out (fun a e => by
      obtain ⟨a0, e0, e1⟩ := HBL.out a e
      rw [e1]; exact hblt a0 e0))
     rw [List.length_drop] at hcut
     refine ⟨_, rfl, ?_, ?_, (Keep.of_below HW.out).setCell _ _ (fun _ => rfl)⟩
     · rw [HD.out]
       exact R_set_old HO.out hgl _ _
     · rw [HD.out]; exact hcut
 · have hd : takes m l code = ([], l, code) := if_neg h0
   have hcn : (code != 0) = true := bne_iff_ne.mpr h0
   have HD := aM hd
   clear hd h0 hb hA hC
   go_enter Try.func48, Try.ntmps48
   go_wp2
   go_ret
   refine ⟨_, rfl, ?_, ?_, Keep.refl _ _⟩
   · rw [HD.out]; exact Kd.R_nil _ _ _ _ _
   · rw [HD.out]; exact HR.out
end Go.Proofs.Ytnckonglodmfeaa.Lc
namespace Go.Proofs.Ytnckonglodmfeaa.R
open Go Go.RowKit B
section
variable {P : Program} {ops : Array Oper} {Q : Exit → Act → World → Prop} {fuel : Nat} {listed listed' : Array Bool} {a : Act} {w : World} {S : Nat → Prop}
def Rk (S : Nat → Prop) (P : Program) (ops : Array Oper) (Q : Exit → Act → World → Prop) (fuel : Nat) (listed : Array Bool) (a : Act) (w : World) : Prop := wpAnyR P .any ops Q (Keep S) fuel listed a w
theorem rk_start (S : Nat → Prop) {id : Nat} (hm : P.follows .mixedOrders = true) {n : Nat} {l : Array Bool} (hn : ops.size = n) (hl : Array.replicate n false = l)
 (h : Rk S P ops Q n l a w.drew) : (Code.region id ops true).wp P Q a w := by
 subst hn
 subst hl
 exact wp_region_any hm (wpAny_of_R _ _ _ _ h)
theorem rk_take (i : Nat) {oi : Oper} {v : Value} {a' : Act} (hi0 : ops.toList[i]? = some oi) (hc : (Region.noSelect ops && Region.free .any ops listed i && (Region.ready .any ops listed).contains i) = true)
 (hl : listed.setIfInBounds i true = listed')
 (hQ : ∀ c a w, Q (.panic c) (a.put oi.dst v) w → Q (.panic c) a w) (hw : Region.wanted oi (yielded ops a.tmps) = true) (hy : ∀ w', Keep S w w' → (execOp a.eval oi).run P w' = .ok (.value v) w')
 (ha : a.put oi.dst v = a') (h : Rk S P ops Q fuel listed' a' w) : Rk S P ops Q (fuel + 1) listed a w := by
 have hi : ops[i]? = some oi := by rw [← hi0]; simp
 subst hl
 subst ha
 simp only [Bool.and_eq_true] at hc
 exact wpAnyR_first (R := Keep S) (Keep.refl S) (fun _ _ _ => Keep.trans) hi (Region.noSelect_spec hc.1.1) hQ fuel listed a w (Region.free_spec hi hc.1.2) (by simpa using hc.2) (.inl ⟨hw, hy⟩) h
theorem kt (i : Nat) (l2 : Array Bool) {oi : Oper} {v : Value} {a' : Act} (hi0 : ops.toList[i]? = some oi) (hy : ∀ w', Keep S w w' → (execOp a.eval oi).run P w' = .ok (.value v) w') (ha : a.put oi.dst v = a') (h : Rk S P ops Q fuel l2 a' w) (hc : (Region.noSelect ops && Region.free .any ops listed i && (Region.ready .any ops listed).contains i) = true := by kernel_rfl) (hl : listed.setIfInBounds i true = l2 := by kernel_rfl) (hQ : ∀ c a w, Q (.panic c) (a.put oi.dst v) w → Q (.panic c) a w := by exact fun _ _ _ h => h) (hw : Region.wanted oi (yielded ops a.tmps) = true := by kernel_rfl) : Rk S P ops Q (fuel + 1) listed a w := rk_take i hi0 hc hl hQ hw hy ha h
theorem rk_skip (i : Nat) {oi : Oper} {a' : Act} (hi0 : ops.toList[i]? = some oi) (hc : (Region.noSelect ops && Region.free .any ops listed i && (Region.ready .any ops listed).contains i) = true)
 (hl : listed.setIfInBounds i true = listed')
 (hQ : ∀ c a w, Q (.panic c) (a.put oi.dst undef) w → Q (.panic c) a w) (hw : Region.wanted oi (yielded ops a.tmps) = false)
 (ha : a.put oi.dst undef = a') (h : Rk S P ops Q fuel listed' a' w) : Rk S P ops Q (fuel + 1) listed a w := by
 have hi : ops[i]? = some oi := by rw [← hi0]; simp
 subst hl
 subst ha
 simp only [Bool.and_eq_true] at hc
 exact wpAnyR_first (R := Keep S) (Keep.refl S) (fun _ _ _ => Keep.trans) hi (Region.noSelect_spec hc.1.1) hQ fuel listed a w (Region.free_spec hi hc.1.2) (by simpa using hc.2) (.inr ⟨hw, rfl⟩) h
theorem kz (i : Nat) (l2 : Array Bool) {oi : Oper} {a' : Act} (hi0 : ops.toList[i]? = some oi) (ha : a.put oi.dst undef = a') (h : Rk S P ops Q fuel l2 a' w) (hc : (Region.noSelect ops && Region.free .any ops listed i && (Region.ready .any ops listed).contains i) = true := by kernel_rfl) (hl : listed.setIfInBounds i true = l2 := by kernel_rfl) (hQ : ∀ c a w, Q (.panic c) (a.put oi.dst undef) w → Q (.panic c) a w := by exact fun _ _ _ h => h) (hw : Region.wanted oi (yielded ops a.tmps) = false := by kernel_rfl) : Rk S P ops Q (fuel + 1) listed a w := rk_skip i hi0 hc hl hQ hw ha h
theorem rk_step (i : Nat) {oi : Oper} (hi0 : ops.toList[i]? = some oi) (hr : (Region.ready .any ops listed == [i]) = true) (hl : listed.setIfInBounds i true = listed') (hw : Region.wanted oi (yielded ops a.tmps) = true)
 (h : ∀ K' : Act → World → Prop, Shut (∀ a' w', Keep S w w' → Rk S P ops Q fuel listed' a' w' → K' a' w') → Oper.wp P oi a w K' Q) : Rk S P ops Q (fuel + 1) listed a w := by
 have hi : ops[i]? = some oi := by rw [← hi0]; simp
 subst hl
 have hr' : Region.ready .any ops listed = [i] := by simpa using hr
 refine ⟨fun h0 => (by rw [h0] at hr'; cases hr'), ?_⟩
 rw [hr']
 intro j hj
 rw [List.mem_singleton] at hj
 subst hj
 refine wpOp_step hi (fun K' hK => ?_)
 rw [if_pos hw]
 exact h K' (fun a' w' h1 h2 => hK a' w' ⟨h1, h2⟩)
theorem rk_done (hr : (Region.ready .any ops listed == []) = true) (h : Q .normal a w) : Rk S P ops Q fuel listed a w := by
 have hr' : Region.ready .any ops listed = [] := by simpa using hr
 cases fuel with
 | zero => exact ⟨hr', h⟩
 | succ n => exact ⟨fun _ => h, (by rw [hr']; intro j hj; cases hj)⟩
end
end Go.Proofs.Ytnckonglodmfeaa.R
namespace Go.Proofs.Ytnckonglodmfeaa.Gc
open Go.RowKit Go.Proofs.YtnckonglodmfeaaW.PrintWords Go.Proofs.YtnckonglodmfeaaW.PrintLast Go.Proofs.YtnckonglodmfeaaW.PrintMore B Ls Gs S R
set_option maxRecDepth 100000
theorem results_tmp4 {fn : Func} {t u v x : Tmp} (h : fn.results = #[.tmp t, .tmp u, .tmp v, .tmp x]) (tmps : Array Value) (P : Program) (w : World) :
 (results fn tmps).run P w = .ok (.tuple #[tmps.getD t undef, tmps.getD u undef, tmps.getD v undef, tmps.getD x undef]) w := by
 simp [results, h]
theorem cell_of (x : Int) (h0 : 0 ≤ x) (h1 : x < 256) : Extern.Stop.cell (UInt8.ofNat x.toNat) = .int .u8 x := by
 simp only [Extern.Stop.cell, UInt8.toNat_ofNat']
 congr 1
 show ((x.toNat % 2 ^ 8 : Nat) : Int) = x
 omega
theorem eq_four (W : World) (xs ys : List Int) (hx : By xs) (hy : By ys) (lx : xs.length = 4) (ly : ys.length = 4) :
 (Op.equalIn 10000 160 (.agg (xs.map (Value.int .u8)).toArray) (.agg (ys.map (Value.int .u8)).toArray)).run Try.prog W = .ok (xs == ys) W := by
 have e : ∀ l : List Int, By l → (l.map fun n => UInt8.ofNat n.toNat).map Extern.Stop.cell = l.map (Value.int .u8) := fun l hl => by
  rw [List.map_map]
  exact List.map_congr_left (fun x hx => cell_of x (hl x hx).1 (hl x hx).2)
 rw [← e xs hx, ← e ys hy]
 have h := run_equalIn_bytes (P := Try.prog) W 9998 160 5 4 Try.underlying160 Try.underlying5 (fun w => by
  obtain ⟨i5, hi5, -, hi5s, -⟩ := info_ex infoU8
  simp [sizeOf, typeInfo, hi5, hi5s]) (xs.map fun n => UInt8.ofNat n.toNat) (ys.map fun n => UInt8.ofNat n.toNat) (by simpa using lx) (by simpa using ly)
 rw [h]
 congr 1
 rw [Bool.eq_iff_iff, beq_iff_eq, beq_iff_eq]
 exact ⟨fun h => str_inj xs ys hx hy (by unfold strOfNums; rw [h]), fun h => by rw [h]⟩
theorem takeL_eq {m k : Int} {r l10 left : List Int} {n cd : Int} (h10 : r.take 10 = l10) (hn : num l10 0 = (n, left, cd)) : takeL (m :: k :: r) =
 if m ≠ 111 then (0, [], 0, 7) else if cd ≠ 0 then (0, [], 0, cd) else if 65536 < n then (0, [], 0, 4) else
 if (r.length : Int) < (l10.length - left.length : Nat) + 4 + n then (0, [], 0, 3) else
 if check k ((r.drop (l10.length - left.length + 4)).take n.toNat) ≠ (r.drop (l10.length - left.length)).take 4 then (0, [], 0, 6) else
 (k, (r.drop (l10.length - left.length + 4)).take n.toNat, 2 + (l10.length - left.length : Nat) + 4 + n, 0) := by
 simp only [takeL, h10, hn]
theorem numGo_left (l0 : List Int) : ∀ (l : List Int) (i : Nat) (n : Int), l.length ≤ l0.length → (numGo l0 l i n).2.1.length ≤ l0.length
 | [], _, _, _ => by simp [numGo]
 | x :: r, i, n, h => by
  rw [List.length_cons] at h
  rw [numGo]
  split
  · exact Nat.le_refl _
  · split
    · show r.length ≤ _; omega
    · exact numGo_left l0 r _ _ (by omega)
theorem num_left (l : List Int) (c : Int) : (num l c).2.1.length ≤ l.length := by
 unfold num
 split
 · exact numGo_left l l 0 0 (Nat.le_refl _)
 · exact Nat.le_refl _
set_option maxHeartbeats 8000000 in
set_option maxRecDepth 100000 in
theorem take_calls (A : Option Addr) (c : Nat) (b : List Int) (w : World) (hC : kU8.C w A b.length b) (hc : b.length ≤ c) (hby : By b) (hl : b.length ≤ 1000000) :
 Calls Try.prog 92 #[.slice A b.length c] w fun e w' => ∃ v, e = .returned (.tuple #[.int .u8 (takeL b).1, v, .int .i64 (takeL b).2.2.1, .int .i64 (takeL b).2.2.2]) ∧ kU8.R 5 w' w.heap.size (fun _ => True) v (takeL b).2.1 ∧ Below w.heap.size w w' := by
 have HC := aM hC
 have HBY := aM hby
 by_cases hb2 : b.length < 2
 · have ht : takeL b = (0, [], 0, 3) := by
    match b, hb2 with
    | [], _ => rfl
    | [_], _ => rfl
    | _ :: _ :: _, h => simp at h; omega
   have HT := aM ht
   clear ht hC hby
   go_enter Try.func92, Try.ntmps92
   go_wp2
   refine bodyPost_ret (results_tmp4 rfl _ _ _) rfl ?_
   rw [HT.out]
   exact ⟨_, rfl, Kd.R_nil _ _ _ _ _, Below.refl _ _⟩
 obtain ⟨m, k, r, hbr⟩ : ∃ m k r, b = m :: k :: r := by
  match b, hb2 with
  | [], h => simp at h
  | [_], h => simp at h
  | m :: k :: r, _ => exact ⟨m, k, r, rfl⟩
 obtain ⟨ad, rfl⟩ := C_some hC (by omega)
 have hrl : b.length = r.length + 2 := by rw [hbr]; rfl
 have q0 : w.cell? (ad.add 0) = some (.int .u8 m) := C_cell hC (by rw [hbr]; rfl)
 have q1 : w.cell? (ad.add 1) = some (.int .u8 k) := C_cell hC (by rw [hbr]; rfl)
 have ea : ad.add 0 = ad := by simp [Addr.add]
 have q0' : w.cell? ad = some (.int .u8 m) := by rw [← ea]; exact q0
 have hmk := hby m (by rw [hbr]; simp)
 have hkk := hby k (by rw [hbr]; simp)
 obtain ⟨l10, h10⟩ : ∃ l, r.take 10 = l := ⟨_, rfl⟩
 obtain ⟨n, left, cd, hn⟩ : ∃ n left cd, num l10 0 = (n, left, cd) := ⟨_, _, _, rfl⟩
 have HT := aM (takeL_eq (m := m) (k := k) h10 hn)
 rw [← hbr] at HT
 by_cases hm : m = 111
 case neg =>
  have hmb : (m != 111) = true := bne_iff_ne.mpr hm
  have ht := HT.out
  rw [if_pos hm] at ht
  have HT := aM ht
  clear ht hm hC hby hbr h10 hn
  go_enter Try.func92, Try.ntmps92
  go_wp2
  refine bodyPost_ret (results_tmp4 rfl _ _ _) rfl ?_
  rw [HT.out]
  exact ⟨_, rfl, Kd.R_nil _ _ _ _ _, Below.refl _ _⟩
 subst hm
 have ht := HT.out
 rw [if_neg (by simp)] at ht
 have HT := aM ht
 clear ht
 have hnl := num_left l10 0
 have hnr := num_range l10 0 (by rw [← h10]; exact (fun x hx => hby x (by rw [hbr]; exact List.mem_cons_of_mem _ (List.mem_cons_of_mem _ (List.mem_of_mem_take hx)))))
 rw [hn] at hnl hnr
 obtain ⟨hn0, hn1⟩ := hnr
 simp only at hnl hn0 hn1
 have hl10 : l10.length = min 10 r.length := by rw [← h10, List.length_take]
 obtain ⟨e, he⟩ : ∃ e, min b.length 12 = e := ⟨_, rfl⟩
 have hel : e = 2 + l10.length := by omega
 have hmin : (if (12 : Int) < (b.length : Int) then 12 else (b.length : Int)) = (e : Int) := by split <;> omega
 obtain ⟨i5, hi5, -, hi5s, -⟩ := info_ex infoU8
 obtain ⟨A1, hrun1, hCm1, -, -⟩ := sl_mid kU8 28 5 .i64 .i64 Try.underlying28 hi5 (some ad) c b hi5s 2 (e : Int) (by decide) (by omega) (by omega) hc
 have hd : (b.take (e : Int).toNat).drop (2 : Int).toNat = l10 := by
  rw [Int.toNat_natCast, show (2 : Int).toNat = 2 from rfl, ← h10, hbr, show e = (e - 2) + 1 + 1 by omega, List.take_succ_cons, List.take_succ_cons]
  show r.take (e - 2) = r.take 10
  rcases Nat.le_total r.length 10 with h | h
  · rw [List.take_of_length_le (by omega), List.take_of_length_le h]
  · rw [show e - 2 = 10 by omega]
 rw [hd] at hrun1 hCm1
 have HC1 := aM (hCm1 _ hC)
 have hl10b : l10.length ≤ 10 := by omega
 have HBY10 := aM (show By l10 by rw [← h10]; exact fun x hx => hby x (by rw [hbr]; exact List.mem_cons_of_mem _ (List.mem_cons_of_mem _ (List.mem_of_mem_take hx))))
 have HN := aM hn
 have hb2' : 2 ≤ b.length := by omega
 have he12 : e ≤ 12 := by omega
 have hle : left.length ≤ e := by omega
 have hmb : ((111 : Int) != 111) = false := by decide
 have HBR := aM (And.intro hbr (And.intro hrl (And.intro hel hl10)))
 have HRB := aM (show By r from fun x hx => hby x (by rw [hbr]; exact List.mem_cons_of_mem _ (List.mem_cons_of_mem _ hx)))
 clear hd hCm1 hn h10 he hbr hC hby hrl hel hl10
 by_cases hcd : cd = 0
 case neg =>
  have hcb : (cd != 0) = true := bne_iff_ne.mpr hcd
  have ht := HT.out
  rw [if_pos hcd] at ht
  have HT := aM ht
  clear ht hcd
  go_enter Try.func92, Try.ntmps92
  go_wp2_with (first
   | (go_at_call 93; refine (Lc.new_calls A1 (c - 2) l10 _ HC1.out (by omega)).mono ?_; rintro e1 w1 ⟨g, b1, rfl, hr1, hb1, hg1, hbb, hbl⟩; have HR1 := aM hr1; have HB1 := aM hb1; clear hr1 hb1)
   | (go_at_call 47; refine (Lc.num_calls g b1 l10 0 _ HR1.out HBY10.out).mono ?_; rw [HN.out]; rintro e2 w2 ⟨rfl, hr2, hk2, hs2⟩; have HR2 := aM hr2; have HK2 := aM hk2; clear hr2 hk2)
   | (go_at_call 99; refine (Lc.code_calls g b1 left cd _ HR2.out).mono ?_; rintro e3 w3 ⟨rfl, rfl⟩))
  refine bodyPost_ret (results_tmp4 rfl _ _ _) rfl ?_
  rw [HT.out]
  exact ⟨_, rfl, Kd.R_nil _ _ _ _ _, Keep.below_then HB1.out HK2.out HB1.out.size (fun i hi e => by omega)⟩
 subst hcd
 have hcb : ((0 : Int) != 0) = false := by decide
 have ht := HT.out
 rw [if_neg (by simp)] at ht
 have HT := aM ht
 clear ht
 by_cases h64 : 65536 < n
 · have ht := HT.out
   rw [if_pos h64] at ht
   have HT := aM ht
   clear ht
   go_enter Try.func92, Try.ntmps92
   go_wp2_with (first
    | (go_at_call 93; refine (Lc.new_calls A1 (c - 2) l10 _ HC1.out (by omega)).mono ?_; rintro e1 w1 ⟨g, b1, rfl, hr1, hb1, hg1, hbb, hbl⟩; have HR1 := aM hr1; have HB1 := aM hb1; clear hr1 hb1)
    | (go_at_call 47; refine (Lc.num_calls g b1 l10 0 _ HR1.out HBY10.out).mono ?_; rw [HN.out]; rintro e2 w2 ⟨rfl, hr2, hk2, hs2⟩; have HR2 := aM hr2; have HK2 := aM hk2; clear hr2 hk2)
    | (go_at_call 99; refine (Lc.code_calls g b1 left 0 _ HR2.out).mono ?_; rintro e3 w3 ⟨rfl, rfl⟩))
   refine bodyPost_ret (results_tmp4 rfl _ _ _) rfl ?_
   rw [HT.out]
   exact ⟨_, rfl, Kd.R_nil _ _ _ _ _, Keep.below_then HB1.out HK2.out HB1.out.size (fun i hi e => by omega)⟩
 have ht := HT.out
 rw [if_neg h64] at ht
 have HT := aM ht
 clear ht
 obtain ⟨nn, rfl⟩ : ∃ nn : Nat, n = nn := ⟨n.toNat, by omega⟩
 obtain ⟨u, hu⟩ : ∃ u, l10.length - left.length = u := ⟨_, rfl⟩
 rw [hu, Int.toNat_natCast] at HT
 obtain ⟨a, ha⟩ : ∃ a : Nat, a = 2 + u := ⟨_, rfl⟩
 have hea : e = a + left.length := by have := HBR.out; omega
 subst hea
 have hab : a ≤ 12 := by have := HBR.out; omega
 have hlf : left.length ≤ 12 := by omega
 have hnn : nn ≤ 65536 := by omega
 push_cast at hrun1 hmin
 have HA := aM (And.intro ha hu)
 clear ha hu
 by_cases hsl : b.length < a + 4 + nn
 · have ht := HT.out
   rw [if_pos (by have h1 := HBR.out; have h2 := HA.out; omega)] at ht
   have HT := aM ht
   have hsd : decide ((b.length : Int) < (a : Int) + 4 + (nn : Int)) = true := by simp; omega
   clear hsl hle hn1 hn0 hnl
   clear ht
   go_enter Try.func92, Try.ntmps92
   go_wp2_with (first
    | (go_at_call 93; refine (Lc.new_calls A1 (c - 2) l10 _ HC1.out (by omega)).mono ?_; rintro e1 w1 ⟨g, b1, rfl, hr1, hb1, hg1, hbb, hbl⟩; have HR1 := aM hr1; have HB1 := aM hb1; clear hr1 hb1)
    | (go_at_call 47; refine (Lc.num_calls g b1 l10 0 _ HR1.out HBY10.out).mono ?_; rw [HN.out]; rintro e2 w2 ⟨rfl, hr2, hk2, hs2⟩; have HR2 := aM hr2; have HK2 := aM hk2; clear hr2 hk2)
    | (go_at_call 99; refine (Lc.code_calls g b1 left 0 _ HR2.out).mono ?_; rintro e3 w3 ⟨rfl, rfl⟩)
    | (go_at_call 49; refine (Lc.left_calls g b1 left 0 _ HR2.out).mono ?_; rintro e4 w4 ⟨rfl, rfl⟩))
   refine bodyPost_ret (results_tmp4 rfl _ _ _) rfl ?_
   rw [HT.out]
   exact ⟨_, rfl, Kd.R_nil _ _ _ _ _, Keep.below_then HB1.out HK2.out HB1.out.size (fun i hi e => by omega)⟩
 have hbr := HBR.out.1
 have hrl := HBR.out.2.1
 obtain ⟨ha, hu⟩ := HA.out
 have hle2 : a + 4 + nn ≤ b.length := by omega
 obtain ⟨body, hbody⟩ : ∃ body, (r.drop (u + 4)).take nn = body := ⟨_, rfl⟩
 have hbl : body.length = nn := by rw [← hbody, List.length_take, List.length_drop]; omega
 have hbb : (b.take ((a : Int) + 4 + (nn : Int)).toNat).drop ((a : Int) + 4).toNat = body := by
  rw [← hbody, hbr, show ((a : Int) + 4 + (nn : Int)).toNat = (u + 4 + nn) + 1 + 1 by omega, show ((a : Int) + 4).toNat = (u + 4) + 1 + 1 by omega, List.take_succ_cons, List.take_succ_cons, List.drop_succ_cons, List.drop_succ_cons, List.drop_take]
  congr 1
  omega
 obtain ⟨A2, hrun2, hCm2, -, -⟩ := sl_mid kU8 28 5 .i64 .i64 Try.underlying28 hi5 (some ad) c b hi5s ((a : Int) + 4) ((a : Int) + 4 + (nn : Int)) (by omega) (by omega) (by omega) hc
 rw [hbb] at hrun2 hCm2
 have HCB := aM (hCm2 _ HC.out)
 obtain ⟨y0, y1, y2, y3, hys⟩ : ∃ y0 y1 y2 y3, (r.drop u).take 4 = [y0, y1, y2, y3] := by
  have h4 : ((r.drop u).take 4).length = 4 := by rw [List.length_take, List.length_drop]; omega
  match (r.drop u).take 4, h4 with
  | [y0, y1, y2, y3], _ => exact ⟨y0, y1, y2, y3, rfl⟩
 have hyb : By [y0, y1, y2, y3] := by rw [← hys]; exact (HRB.out.drop _).take _
 have hb4 : (b.take ((a : Int) + 4).toNat).drop (a : Int).toNat = [y0, y1, y2, y3] := by
  rw [← hys, hbr, show ((a : Int) + 4).toNat = (u + 4) + 1 + 1 by omega, show (a : Int).toNat = u + 1 + 1 by omega, List.take_succ_cons, List.take_succ_cons, List.drop_succ_cons, List.drop_succ_cons, List.drop_take]
  congr 1
  omega
 obtain ⟨A3, hrun3, hCm3, -, -⟩ := sl_mid kU8 28 5 .i64 .i64 Try.underlying28 hi5 (some ad) c b hi5s (a : Int) ((a : Int) + 4) (by omega) (by omega) (by omega) hc
 rw [hb4] at hrun3 hCm3
 simp only [List.length_cons, List.length_nil, Nat.zero_add, Nat.reduceAdd] at hrun3
 have hC3 := hCm3 _ HC.out
 obtain ⟨ad3, rfl⟩ := C_some hC3 (by simp)
 have HC3 := aM hC3
 have harr : ∀ (cp : Nat) (W : World), (Instr.arrayAt 160 (.slice (some ad3) 4 cp)).run Try.prog W = .ok (.pointer (some ad3)) W := fun cp W => by
  simp [Instr.arrayAt, run_underlying Try.underlying160]
 have HBYB := aM (show By body by rw [← hbody]; exact (HRB.out.drop _).take _)
 have hsd : decide ((b.length : Int) < (a : Int) + 4 + (nn : Int)) = false := by simp; omega
 have ht := HT.out
 rw [if_neg (by omega), hbody, hys] at ht
 have HTT := aM ht
 have hbodyb : body.length ≤ 65536 := by omega
 have hq1 : w.cell? ⟨ad.block, ad.off + 1, none⟩ = some (.int .u8 k) := q1
 have HQ := aM hq1
 have hq1l : (⟨ad.block, ad.off + 1, none⟩ : Addr).block < w.heap.size := World.block_lt_of_cell? w _ q1
 have q1k : ∀ W, Below w.heap.size w W → W.cell? ⟨ad.block, ad.off + 1, none⟩ = some (.int .u8 k) := fun W hW => (hW.cell (p := ⟨ad.block, ad.off + 1, none⟩) hq1l).trans HQ.out
 have HQK := aM q1k
 clear q1 hq1 q1k
 have hEQ := fun W => eq_four W (check k body) [y0, y1, y2, y3] (check_by k body) hyb rfl rfl
 have HE := aM (show fourV k body = .agg #[.int .u8 (sumL (k :: body) % 256), .int .u8 (sumL (k :: body) / 256 % 256), .int .u8 (sumL (k :: body) / 65536 % 256), .int .u8 (sumL (k :: body) / 16777216)] from rfl)
 rw [check_eq] at hEQ
 obtain ⟨hkk0, hkk1⟩ := hkk
 have HSZ := aM (show 2 + (u : Int) + 4 + (nn : Int) = (a : Int) + 4 + (nn : Int) by omega)
 have HCHK := aM (check_eq k body)
 generalize sumL (k :: body) = sn at hEQ HE HCHK
 simp only [List.map_cons, List.map_nil] at hEQ
 clear ht hbr hrl ha hu hle2 hbody hbl hbb hCm2 hys hyb hb4 hCm3 hC3 hi5 hi5s hsl hle hn1 hn0 hnl q0 HT
 obtain ⟨res, hres⟩ : ∃ res, ([sn % 256, sn / 256 % 256, sn / 65536 % 256, sn / 16777216] == [y0, y1, y2, y3]) = res := ⟨_, rfl⟩
 rw [hres] at hEQ
 have HRES := aM hres
 clear hres
 have hb1l : (1 : Int) < (b.length : Int) := by omega
 cases res with
 | false =>
  have hne : check k body ≠ [y0, y1, y2, y3] := fun e => by
   rw [HCHK.out] at e
   have := HRES.out
   rw [e] at this
   simp at this
  have ht := HTT.out
  rw [if_pos hne] at ht
  have HT := aM ht
  clear ht hne
  go_enter Try.func92, Try.ntmps92
  go_wp2_with (first
   | (go_at_call 93; refine (Lc.new_calls A1 (c - 2) l10 _ HC1.out (by omega)).mono ?_; rintro e1 w1 ⟨g, b1, rfl, hr1, hb1, hg1, hbb, hbl⟩; have HR1 := aM hr1; have HB1 := aM hb1; clear hr1 hb1)
   | (go_at_call 47; refine (Lc.num_calls g b1 l10 0 _ HR1.out HBY10.out).mono ?_; rw [HN.out]; rintro e2 w2 ⟨rfl, hr2, hk2, hs2⟩; have HR2 := aM hr2; have HB2 := aM (Keep.below_then HB1.out hk2 HB1.out.size (fun i hi e => by omega)); clear hr2 hk2 hs2)
   | (go_at_call 99; refine (Lc.code_calls g b1 left 0 _ HR2.out).mono ?_; rintro e3 w3 ⟨rfl, rfl⟩)
   | (go_at_call 49; refine (Lc.left_calls g b1 left 0 _ HR2.out).mono ?_; rintro e4 w4 ⟨rfl, rfl⟩)
   | ((with_reducible refine gate_builtin (b := .append) (xs := #[.tmp 50, .tmp 55]) rfl ?_); at_builtin; refine Kd.R_append_rows (Kd.int .u8) (w0 := w2) w2.heap.size rfl (.tmp 50) (.tmp 55) 28 5 (.int .u8 0) 1 rfl Try.underlying28 infoU8 rfl (by decide) (by omega) (.slice (some ⟨w2.heap.size, 0, none⟩) 0 0) ([] : List Int) body _ _ _ (fun _ => True) (fun _ => False) rfl rfl ?aO ?aR (fun _ _ h => h) (fun _ h => h.elim) ?aF ?aB ?aS ?aL ?_; (case aR => exact Kd.C_alloc (Kd.C_below HCB.out HB2.out) _); (case aB => exact (Below.refl _ _).alloc (Nat.le_refl _) _); (case aF => exact (fun _ _ => trivial)); (case aO => exact R_lit0 kU8 5 w2); (case aS => simp); (case aL => (simp only [List.length_nil]; omega)); (intro v5 w5 ho5 hb5 hg hat; rw [List.nil_append] at ho5; obtain ⟨A5, c5, rfl, hlc5, hC5⟩ := Kd.R_reads ho5; have HO5 := aM (Kd.R_lower (base' := w.heap.size) ho5 HB2.out.size); have HB5 := aM (HB2.out.trans (hb5.mono HB2.out.size)); have HC5 := aM hC5; clear ho5 hb5 hg hat hC5)))
  have HCUR := aM (Keep.refl (fun _ => False) w5.drew)
  have HW5 := aM (show ∀ W, Keep (fun _ => False) w5.drew W → Below w.heap.size w W from fun W hW => HB5.out.drew.trans (hW.below (Nat.le_trans HB5.out.size (Nat.le_refl _)) (fun _ _ h => h)))
  have HARR := aM (show ∀ W, Below w.heap.size w W → W.cell? (ad3.add 0) = some (.int .u8 y0) ∧ W.cell? ad3 = some (.int .u8 y0) ∧ W.cell? ⟨ad3.block, ad3.off + 1, none⟩ = some (.int .u8 y1) ∧ W.cell? ⟨ad3.block, ad3.off + 2, none⟩ = some (.int .u8 y2) ∧ W.cell? ⟨ad3.block, ad3.off + 3, none⟩ = some (.int .u8 y3) from fun W hW => by
   have h := Kd.C_below HC3.out hW
   have e0 : ad3.add 0 = ad3 := by simp [Addr.add]
   refine ⟨C_cell h (j := 0) rfl, ?_, C_cell h (j := 1) rfl, C_cell h (j := 2) rfl, C_cell h (j := 3) rfl⟩
   rw [← e0]
   exact C_cell h (j := 0) rfl)
  refine rk_start (fun _ => False) (by kernel_rfl) (n := 13) (l := (bl 13 0)) (by kernel_rfl) (by kernel_rfl) ?_
  refine kt 0 (bl 13 1) rfl (fun w' hR => by go_simp; first | done | with_reducible rfl) rfl ?_
  try simp only [Act.put, pB, pC, pD]
  refine kt 1 (bl 13 3) rfl (fun w' hR => by go_simp; first | done | with_reducible rfl) rfl ?_
  try simp only [Act.put, pB, pC, pD]
  refine kt 2 (bl 13 7) rfl (fun w' hR => by have x0 := HQK.out w' (HW5.out w' (HCUR.out.trans hR)); go_simp; first | done | with_reducible rfl) rfl ?_
  try simp only [Act.put, pB, pC, pD]
  refine kt 3 (bl 13 15) rfl (fun w' hR => by go_simp; first | done | with_reducible rfl) rfl ?_
  try simp only [Act.put, pB, pC, pD]
  refine kt 5 (bl 13 47) rfl (fun w' hR => by go_simp; first | done | with_reducible rfl) rfl ?_
  try simp only [Act.put, pB, pC, pD]
  refine kt 6 (bl 13 111) rfl (fun w' hR => by go_simp; first | done | with_reducible rfl) rfl ?_
  try simp only [Act.put, pB, pC, pD]
  refine kt 7 (bl 13 239) rfl (fun w' hR => by go_simp; first | done | with_reducible rfl) rfl ?_
  try simp only [Act.put, pB, pC, pD]
  refine kt 8 (bl 13 495) rfl (fun w' hR => by have y3 := wrI64 ((a : Int) + 4) (by omega) (by omega); go_simp; first | done | with_reducible rfl) rfl ?_
  try simp only [Act.put, pB, pC, pD]
  refine kt 9 (bl 13 1007) rfl (fun w' hR => by go_simp; first | done | with_reducible rfl) rfl ?_
  try simp only [Act.put, pB, pC, pD]
  refine kt 10 (bl 13 2031) rfl (fun w' hR => by go_simp; first | done | with_reducible rfl) rfl ?_
  try simp only [Act.put, pB, pC, pD]
  refine kt 11 (bl 13 4079) rfl (fun w' hR => by obtain ⟨x0, x1, x2, x3, x4⟩ := HARR.out w' (HW5.out w' (HCUR.out.trans hR)); go_simp; first | done | with_reducible rfl) rfl ?_
  try simp only [Act.put, pB, pC, pD]
  refine rk_step (fuel := 1) 4 rfl (by kernel_rfl) (listed' := (bl 13 4095)) (by kernel_rfl) (by kernel_rfl) (fun K' hK => ?_)
  go_wp2_with (first | (go_at_call 88; refine (four_calls k hkk0 hkk1 A5 c5 body _ (Kd.C_drew HC5.out) hlc5 HBYB.out).mono ?_; rw [HE.out]; rintro e6 w6 ⟨rfl, hb6⟩; have HB7 := aM (show Below w5.heap.size w5 w6 from (Below.refl w5.heap.size w5).drew.trans hb6); have HB6 := aM (HB5.out.trans (HB7.out.mono HB5.out.size)); have HK6 := aM (Keep.of_below (S := fun _ => False) hb6); clear hb6))
  refine hK.out _ _ HK6.out ?_
  clear hK K'
  try simp only [Act.put, pB, pC, pD]
  refine kt 12 (bl 13 8191) rfl (fun w' hR => by go_simp; first | done | with_reducible rfl) rfl ?_
  try simp only [Act.put, pB, pC, pD]
  refine rk_done (by kernel_rfl) ?_
  go_wp2
  refine bodyPost_ret (results_tmp4 rfl _ _ _) rfl ?_
  rw [HT.out]
  exact ⟨_, rfl, Kd.R_nil _ _ _ _ _, HB6.out⟩
 | true =>
  have heq : check k body = [y0, y1, y2, y3] := by
   rw [HCHK.out]
   exact beq_iff_eq.mp HRES.out
  have ht := HTT.out
  rw [if_neg (by rw [heq]; simp)] at ht
  have HT := aM ht
  clear ht heq
  go_enter Try.func92, Try.ntmps92
  go_wp2_with (first
   | (go_at_call 93; refine (Lc.new_calls A1 (c - 2) l10 _ HC1.out (by omega)).mono ?_; rintro e1 w1 ⟨g, b1, rfl, hr1, hb1, hg1, hbb, hbl⟩; have HR1 := aM hr1; have HB1 := aM hb1; clear hr1 hb1)
   | (go_at_call 47; refine (Lc.num_calls g b1 l10 0 _ HR1.out HBY10.out).mono ?_; rw [HN.out]; rintro e2 w2 ⟨rfl, hr2, hk2, hs2⟩; have HR2 := aM hr2; have HB2 := aM (Keep.below_then HB1.out hk2 HB1.out.size (fun i hi e => by omega)); clear hr2 hk2 hs2)
   | (go_at_call 99; refine (Lc.code_calls g b1 left 0 _ HR2.out).mono ?_; rintro e3 w3 ⟨rfl, rfl⟩)
   | (go_at_call 49; refine (Lc.left_calls g b1 left 0 _ HR2.out).mono ?_; rintro e4 w4 ⟨rfl, rfl⟩)
   | ((with_reducible refine gate_builtin (b := .append) (xs := #[.tmp 50, .tmp 55]) rfl ?_); at_builtin; refine Kd.R_append_rows (Kd.int .u8) (w0 := w2) w2.heap.size rfl (.tmp 50) (.tmp 55) 28 5 (.int .u8 0) 1 rfl Try.underlying28 infoU8 rfl (by decide) (by omega) (.slice (some ⟨w2.heap.size, 0, none⟩) 0 0) ([] : List Int) body _ _ _ (fun _ => True) (fun _ => False) rfl rfl ?aO ?aR (fun _ _ h => h) (fun _ h => h.elim) ?aF ?aB ?aS ?aL ?_; (case aR => exact Kd.C_alloc (Kd.C_below HCB.out HB2.out) _); (case aB => exact (Below.refl _ _).alloc (Nat.le_refl _) _); (case aF => exact (fun _ _ => trivial)); (case aO => exact R_lit0 kU8 5 w2); (case aS => simp); (case aL => (simp only [List.length_nil]; omega)); (intro v5 w5 ho5 hb5 hg hat; rw [List.nil_append] at ho5; obtain ⟨A5, c5, rfl, hlc5, hC5⟩ := Kd.R_reads ho5; have HO5 := aM (Kd.R_lower (base' := w.heap.size) ho5 HB2.out.size); have HB5 := aM (HB2.out.trans (hb5.mono HB2.out.size)); have HC5 := aM hC5; clear ho5 hb5 hg hat hC5)))
  have HCUR := aM (Keep.refl (fun _ => False) w5.drew)
  have HW5 := aM (show ∀ W, Keep (fun _ => False) w5.drew W → Below w.heap.size w W from fun W hW => HB5.out.drew.trans (hW.below (Nat.le_trans HB5.out.size (Nat.le_refl _)) (fun _ _ h => h)))
  have HARR := aM (show ∀ W, Below w.heap.size w W → W.cell? (ad3.add 0) = some (.int .u8 y0) ∧ W.cell? ad3 = some (.int .u8 y0) ∧ W.cell? ⟨ad3.block, ad3.off + 1, none⟩ = some (.int .u8 y1) ∧ W.cell? ⟨ad3.block, ad3.off + 2, none⟩ = some (.int .u8 y2) ∧ W.cell? ⟨ad3.block, ad3.off + 3, none⟩ = some (.int .u8 y3) from fun W hW => by
   have h := Kd.C_below HC3.out hW
   have e0 : ad3.add 0 = ad3 := by simp [Addr.add]
   refine ⟨C_cell h (j := 0) rfl, ?_, C_cell h (j := 1) rfl, C_cell h (j := 2) rfl, C_cell h (j := 3) rfl⟩
   rw [← e0]
   exact C_cell h (j := 0) rfl)
  refine rk_start (fun _ => False) (by kernel_rfl) (n := 13) (l := (bl 13 0)) (by kernel_rfl) (by kernel_rfl) ?_
  refine kt 0 (bl 13 1) rfl (fun w' hR => by go_simp; first | done | with_reducible rfl) rfl ?_
  try simp only [Act.put, pB, pC, pD]
  refine kt 1 (bl 13 3) rfl (fun w' hR => by go_simp; first | done | with_reducible rfl) rfl ?_
  try simp only [Act.put, pB, pC, pD]
  refine kt 2 (bl 13 7) rfl (fun w' hR => by have x0 := HQK.out w' (HW5.out w' (HCUR.out.trans hR)); go_simp; first | done | with_reducible rfl) rfl ?_
  try simp only [Act.put, pB, pC, pD]
  refine kt 3 (bl 13 15) rfl (fun w' hR => by go_simp; first | done | with_reducible rfl) rfl ?_
  try simp only [Act.put, pB, pC, pD]
  refine kt 5 (bl 13 47) rfl (fun w' hR => by go_simp; first | done | with_reducible rfl) rfl ?_
  try simp only [Act.put, pB, pC, pD]
  refine kt 6 (bl 13 111) rfl (fun w' hR => by go_simp; first | done | with_reducible rfl) rfl ?_
  try simp only [Act.put, pB, pC, pD]
  refine kt 7 (bl 13 239) rfl (fun w' hR => by go_simp; first | done | with_reducible rfl) rfl ?_
  try simp only [Act.put, pB, pC, pD]
  refine kt 8 (bl 13 495) rfl (fun w' hR => by have y3 := wrI64 ((a : Int) + 4) (by omega) (by omega); go_simp; first | done | with_reducible rfl) rfl ?_
  try simp only [Act.put, pB, pC, pD]
  refine kt 9 (bl 13 1007) rfl (fun w' hR => by go_simp; first | done | with_reducible rfl) rfl ?_
  try simp only [Act.put, pB, pC, pD]
  refine kt 10 (bl 13 2031) rfl (fun w' hR => by go_simp; first | done | with_reducible rfl) rfl ?_
  try simp only [Act.put, pB, pC, pD]
  refine kt 11 (bl 13 4079) rfl (fun w' hR => by obtain ⟨x0, x1, x2, x3, x4⟩ := HARR.out w' (HW5.out w' (HCUR.out.trans hR)); go_simp; first | done | with_reducible rfl) rfl ?_
  try simp only [Act.put, pB, pC, pD]
  refine rk_step (fuel := 1) 4 rfl (by kernel_rfl) (listed' := (bl 13 4095)) (by kernel_rfl) (by kernel_rfl) (fun K' hK => ?_)
  go_wp2_with (first | (go_at_call 88; refine (four_calls k hkk0 hkk1 A5 c5 body _ (Kd.C_drew HC5.out) hlc5 HBYB.out).mono ?_; rw [HE.out]; rintro e6 w6 ⟨rfl, hb6⟩; have HB7 := aM (show Below w5.heap.size w5 w6 from (Below.refl w5.heap.size w5).drew.trans hb6); have HB6 := aM (HB5.out.trans (HB7.out.mono HB5.out.size)); have HK6 := aM (Keep.of_below (S := fun _ => False) hb6); clear hb6))
  refine hK.out _ _ HK6.out ?_
  clear hK K'
  try simp only [Act.put, pB, pC, pD]
  refine kt 12 (bl 13 8191) rfl (fun w' hR => by go_simp; first | done | with_reducible rfl) rfl ?_
  try simp only [Act.put, pB, pC, pD]
  refine rk_done (by kernel_rfl) ?_
  have q1z := HQK.out _ HB6.out
  go_wp2
  refine bodyPost_ret (results_tmp4 rfl _ _ _) rfl ?_
  rw [HT.out]
  refine ⟨_, ?_, Kd.R_below HO5.out HB7.out, HB6.out⟩
  rw [HSZ.out]
  rfl
end Go.Proofs.Ytnckonglodmfeaa.Gc
namespace Go.Proofs.Ytnckonglodmfeaa.Gc
open Go.RowKit Go.Proofs.YtnckonglodmfeaaW.PrintWords Go.Proofs.YtnckonglodmfeaaW.PrintLast Go.Proofs.YtnckonglodmfeaaW.PrintMore B Ls Gs S
theorem take_n (A : Option Addr) (c : Nat) (b : List Int) (n : Nat) (hn : b.length = n) (k : Int) (body : List Int) (sz er : Int) (ht : takeL b = (k, body, sz, er)) (w : World) (hC : kU8.C w A n b) (hc : n ≤ c) (hby : By b) (hl : n ≤ 1000000) :
 Calls Try.prog 92 #[.slice A n c] w fun e w' => ∃ A2 c2, e = .returned (.tuple #[.int .u8 k, .slice A2 body.length c2, .int .i64 sz, .int .i64 er]) ∧ kU8.R 5 w' w.heap.size (fun _ => True) (.slice A2 body.length c2) body ∧ kU8.C w' A2 body.length body ∧ body.length ≤ c2 ∧ Below w.heap.size w w' := by
 subst hn
 refine (take_calls A c b w hC hc hby hl).mono ?_
 rw [ht]
 rintro e w' ⟨v, rfl, ho, hb⟩
 obtain ⟨A2, c2, rfl, hl2, hC2⟩ := Kd.R_reads ho
 exact ⟨A2, c2, rfl, ho, hC2, hl2, hb⟩
theorem lay_n (k : Int) (hk0 : 0 ≤ k) (hk1 : k < 256) (A : Option Addr) (c : Nat) (b : List Int) (m : Nat) (hm : b.length = m) (fl : List Int) (n : Nat) (hf : layL k b = fl) (hn : fl.length = n) (w : World) (hC : kU8.C w A m b) (hc : m ≤ c) (hby : By b) (hl : m ≤ 65536) :
 Calls Try.prog 39 #[.int .u8 k, .slice A m c] w fun e w' => ∃ A2 c2, e = .returned (.tuple #[.slice A2 n c2, .int .i64 0]) ∧ kU8.R 5 w' w.heap.size (fun _ => True) (.slice A2 n c2) fl ∧ kU8.C w' A2 n fl ∧ n ≤ c2 ∧ Below w.heap.size w w' := by
 subst hm
 subst hf
 subst hn
 refine (lay_calls k hk0 hk1 A c b w hC hc hby hl).mono ?_
 rintro e w' ⟨v, rfl, ho, hb⟩
 obtain ⟨A2, c2, rfl, hl2, hC2⟩ := Kd.R_reads ho
 exact ⟨A2, c2, rfl, ho, hC2, hl2, hb⟩
end Go.Proofs.Ytnckonglodmfeaa.Gc
namespace Go.Proofs.Ytnckonglodmfeaa.Go1
open Go.RowKit Go.Proofs.YtnckonglodmfeaaW.PrintWords Go.Proofs.YtnckonglodmfeaaW.PrintLast Go.Proofs.YtnckonglodmfeaaW.PrintMore B O
theorem opens_u8s : Opens Try.prog 28 (Kd.slice 5 kU8) (fun l => (∀ v ∈ l, (Lit.int .u8 v).wf = true) ∧ l.length ≤ 9223372036854775807) := opens_slice Try.underlying28 (by kernel_rfl) (opens_int Try.underlying5)
end Go.Proofs.Ytnckonglodmfeaa.Go1
namespace Go.Proofs.Ytnckonglodmfeaa.Is
open B Ls
abbrev Ins := Int × Int × Int × Int × Int × Int × List Int
abbrev IEnd := Int × Int × Int × Int
abbrev Blk := List Ins × IEnd
abbrev Fun := Int × Int × List Blk
abbrev Cod := Int × Int × Int × List Blk
def usesL : Ins → List Int
 | (k, _, _, a, b, _, args) => if k = 2 ∨ k = 4 ∨ k = 7 then [a] else if k = 3 ∨ k = 5 then [a, b] else if k = 6 then args else []
def givesB (k : Int) : Bool := decide (k = 1 ∨ k = 2 ∨ k = 3 ∨ k = 4 ∨ k = 6 ∨ k = 8)
def plainB : Ins → Bool
 | (k, op, d, a, b, n, args) => decide ((op = 0 ∨ k = 3) ∧ (d = 0 ∨ k = 1 ∨ k = 2 ∨ k = 3 ∨ k = 4 ∨ k = 6 ∨ k = 7 ∨ k = 8) ∧ (a = 0 ∨ k = 2 ∨ k = 3 ∨ k = 4 ∨ k = 5 ∨ k = 7 ∨ k = 8) ∧ (b = 0 ∨ k = 3 ∨ k = 5) ∧ (n = 0 ∨ k = 1 ∨ k = 6) ∧ (args.length = 0 ∨ k = 6))
def allL (i : Ins) : List Int := usesL i ++ if givesB i.1 then [i.2.2.1] else []
def outB (m : Int) (v : Int) : Bool := decide (v < 0 ∨ m ≤ v)
def insErr (regs slots : Int) (i : Ins) : Int :=
 if i.1 < 1 ∨ (if slots < 0 then 6 else 8) < i.1 ∨ plainB i = false ∨ (i.1 = 3 ∧ (i.2.1 < 1 ∨ 7 < i.2.1)) then 20
 else if 3 < i.2.2.2.2.2.2.length then 25
 else if (allL i).any (outB regs) then (if slots < 0 then 21 else 23)
 else if (i.1 = 7 ∧ (i.2.2.1 < 0 ∨ slots ≤ i.2.2.1)) ∨ (i.1 = 8 ∧ (i.2.2.2.1 < 0 ∨ slots ≤ i.2.2.2.1)) then 24 else 0
def endErr (regs blocks vreg : Int) : IEnd → Int
 | (k, a, t, e) =>
  if k < 1 ∨ 3 < k ∨ (k = 1 ∧ (a ≠ 0 ∨ e ≠ 0)) ∨ (k = 3 ∧ (t ≠ 0 ∨ e ≠ 0)) then 20
  else if (k = 2 ∨ k = 3) ∧ (a < 0 ∨ regs ≤ a) then vreg
  else if k ≠ 3 ∧ (t < 0 ∨ blocks ≤ t) then 22
  else if k = 2 ∧ (e < 0 ∨ blocks ≤ e) then 22 else 0
def firstN : List Int → Int
 | [] => 0
 | x :: l => if x = 0 then firstN l else x
def blkErr (regs slots : Int) (most nb : Nat) (b : Blk) : Int :=
 if most < b.1.length then 9 else firstN (b.1.map (insErr regs slots) ++ [endErr regs nb (if slots < 0 then 21 else 23) b.2])
def blocksErr (regs slots : Int) (most : Nat) (l : List Blk) : Int := firstN (l.map (blkErr regs slots most l.length))
def funcErr (f : Fun) : Int :=
 if f.1 < 0 ∨ 4 < f.1 ∨ f.2.1 < f.1 ∨ 32 < f.2.1 ∨ f.2.2.length < 1 ∨ 16 < f.2.2.length then 2 else blocksErr f.2.1 (-1) 32 f.2.2
def codeErr (c : Cod) : Int :=
 if c.1 < 0 ∨ 4 < c.1 ∨ c.2.1 < 3 ∨ 8 < c.2.1 ∨ c.2.2.1 < c.1 ∨ 64 < c.2.2.1 ∨ c.2.2.2.length < 1 ∨ 16 < c.2.2.2.length then 2 else blocksErr c.2.1 c.2.2.1 400 c.2.2.2
theorem firstN_append (a b : List Int) : firstN (a ++ b) = if firstN a = 0 then firstN b else firstN a := by
 induction a with
 | nil => simp [firstN]
 | cons x a ih =>
  rw [List.cons_append, firstN, firstN]
  by_cases h : x = 0
  · rw [if_pos h, if_pos h, ih]
  · rw [if_neg h, if_neg h, if_neg h]
theorem firstN_take {l : List Int} {k : Nat} {x : Int} (h : firstN (l.take k) = 0) (hk : l[k]? = some x) : firstN (l.take (k + 1)) = x := by
 obtain ⟨hl, he⟩ := List.getElem?_eq_some_iff.1 hk
 rw [List.take_succ_eq_append_getElem hl, he, firstN_append, if_pos h]
 simp only [firstN]
 split
 · rename_i e; exact e.symm
 · rfl
theorem firstN_pre {l : List Int} {k : Nat} (h : firstN (l.take k) ≠ 0) : firstN l = firstN (l.take k) := by
 have e := congrArg firstN (List.take_append_drop k l)
 rw [firstN_append, if_neg h] at e
 exact e.symm
def fieldL (x : Int) : List Int := putl (Go.IntKind.u64.wrap x).toNat
def fieldsL (l : List Int) : List Int := (l.map fieldL).flatten
def insL : Ins → List Int
 | (k, op, d, a, b, n, args) => fieldL k ++ if k = 1 then fieldL d ++ putl (zig n).toNat else if k = 2 ∨ k = 4 ∨ k = 7 ∨ k = 8 then fieldsL [d, a]
  else if k = 3 then fieldsL [op, d, a, b] else if k = 5 then fieldsL [a, b] else if k = 6 then fieldL d ++ (putl (zig n).toNat ++ (fieldL args.length ++ fieldsL args)) else []
def endL : IEnd → List Int
 | (k, a, t, e) => fieldL k ++ if k = 1 then fieldsL [t] else if k = 2 then fieldsL [a, t, e] else fieldsL [a]
def blkL (b : Blk) : List Int := fieldL b.1.length ++ ((b.1.map insL).flatten ++ endL b.2)
def blksL (l : List Blk) : List Int := fieldL l.length ++ (l.map blkL).flatten
def funcL (f : Fun) : List Int := fieldsL [f.1, f.2.1] ++ blksL f.2.2
def codeL (c : Cod) : List Int := fieldsL [c.1, c.2.1, c.2.2.1] ++ blksL c.2.2.2
abbrev Pr (α : Type) := List Int → Except Int (α × List Int)
end Go.Proofs.Ytnckonglodmfeaa.Is
namespace Go.Proofs.Ytnckonglodmfeaa.Js
open B Ls Is
abbrev St := List Int × Int
def sBelow (m : Int) (s : St) : Int × St := below m s.1 s.2
def sInt (s : St) : Int × St := (zag (num s.1 s.2).1, (num s.1 s.2).2)
def sFail (e : Int) (s : St) : St := (s.1, failed e s.2)
def sReps : Nat → St → List Int × St
 | 0, s => ([], s)
 | n + 1, s => ((sReps n s).1 ++ [(sBelow 4096 (sReps n s).2).1], (sBelow 4096 (sReps n s).2).2)
def sArgs (s : St) : List Int × St := sReps (sBelow 4 s).1.toNat (sBelow 4 s).2
def sField (p : Ins × St) (c : Int) : Ins × St :=
 match p with
 | ((k, op, d, a, b, n, args), s) =>
  if c = 79 then ((k, (sBelow 256 s).1, d, a, b, n, args), (sBelow 256 s).2)
  else if c = 68 then ((k, op, (sBelow 4096 s).1, a, b, n, args), (sBelow 4096 s).2)
  else if c = 65 then ((k, op, d, (sBelow 4096 s).1, b, n, args), (sBelow 4096 s).2)
  else if c = 66 then ((k, op, d, a, (sBelow 4096 s).1, n, args), (sBelow 4096 s).2)
  else if c = 78 then ((k, op, d, a, b, (sInt s).1, args), (sInt s).2)
  else ((k, op, d, a, b, n, args ++ (sArgs s).1), (sArgs s).2)
def letters (k : Int) : List Int := if k = 1 then [68, 78] else if k = 3 then [79, 68, 65, 66] else if k = 5 then [65, 66] else if k = 6 then [68, 78, 82] else [68, 65]
def sBody (k : Int) (s : St) : Ins × St := (letters k).foldl sField ((k, 0, 0, 0, 0, 0, []), s)
def sIns (s : St) : Ins × St :=
 if 1 ≤ (sBelow 256 s).1 ∧ (sBelow 256 s).1 ≤ 8 then sBody (sBelow 256 s).1 (sBelow 256 s).2 else (((sBelow 256 s).1, 0, 0, 0, 0, 0, []), sFail 20 (sBelow 256 s).2)
def sInss : Nat → St → List Ins × St
 | 0, s => ([], s)
 | n + 1, s => if (sInss n s).2.2 = 0 then ((sInss n s).1 ++ [(sIns (sInss n s).2).1], (sIns (sInss n s).2).2) else sInss n s
def sEnd (s : St) : IEnd × St :=
 match sBelow 256 s with
 | (k, s1) =>
  if k = 1 then ((k, 0, (sBelow 4096 s1).1, 0), (sBelow 4096 s1).2)
  else if k = 2 then
   match sBelow 4096 s1 with
   | (a, s2) => match sBelow 4096 s2 with
    | (t, s3) => ((k, a, t, (sBelow 4096 s3).1), (sBelow 4096 s3).2)
  else if k = 3 then ((k, (sBelow 4096 s1).1, 0, 0), (sBelow 4096 s1).2)
  else ((k, 0, 0, 0), sFail 20 s1)
def sBlk (most : Int) (s : St) : Blk × St :=
 match sBelow (most + 1) s with
 | (m, s1) => match sInss m.toNat s1 with
  | (is, s2) => ((is, (sEnd s2).1), (sEnd s2).2)
def sBlkN (most : Int) : Nat → St → List Blk × St
 | 0, s => ([], s)
 | n + 1, s => if (sBlkN most n s).2.2 = 0 then ((sBlkN most n s).1 ++ [(sBlk most (sBlkN most n s).2).1], (sBlk most (sBlkN most n s).2).2) else sBlkN most n s
def sBlks (most : Int) (s : St) : List Blk × St := sBlkN most (sBelow 17 s).1.toNat (sBelow 17 s).2
def sFun (l : List Int) : Fun × Int :=
 match sBelow 4096 (l, 0) with
 | (p, s1) => match sBelow 4096 s1 with
  | (v, s2) => match sBlks 32 s2 with
   | (bs, s3) => ((p, v, bs), if ended s3.1 s3.2 = 0 then (if funcErr (p, v, bs) = 0 then 0 else 30) else ended s3.1 s3.2)
def sCod (l : List Int) : Cod × Int :=
 match sBelow 4096 (l, 0) with
 | (p, s1) => match sBelow 4096 s1 with
  | (v, s2) => match sBelow 4096 s2 with
   | (t, s3) => match sBlks 400 s3 with
    | (bs, s4) => ((p, v, t, bs), if ended s4.1 s4.2 = 0 then (if codeErr (p, v, t, bs) = 0 then 0 else 30) else ended s4.1 s4.2)
theorem below_stuck (m : Int) (s : St) (h : s.2 ≠ 0) : sBelow m s = (0, s) := by
 have e : num s.1 s.2 = (0, s.1, s.2) := if_neg h
 simp [sBelow, below, e, h]
theorem fail_ne (e : Int) (he : e ≠ 0) (s : St) : (sFail e s).2 ≠ 0 := by
 simp only [sFail, failed]
 split <;> assumption
theorem blkN_stuck {most : Int} {n m : Nat} {s : St} (h : (sBlkN most n s).2.2 ≠ 0) (hm : n ≤ m) : sBlkN most m s = sBlkN most n s := by
 induction hm with
 | refl => rfl
 | step hm ih => rw [sBlkN, ih, if_neg h]
theorem inss_succ {n : Nat} {s : St} (h : (sInss n s).2.2 = 0) : sInss (n + 1) s = ((sInss n s).1 ++ [(sIns (sInss n s).2).1], (sIns (sInss n s).2).2) := by rw [sInss, if_pos h]
theorem blkN_succ {most : Int} {n : Nat} {s : St} (h : (sBlkN most n s).2.2 = 0) : sBlkN most (n + 1) s = ((sBlkN most n s).1 ++ [(sBlk most (sBlkN most n s).2).1], (sBlk most (sBlkN most n s).2).2) := by rw [sBlkN, if_pos h]
theorem sbelow_by {m : Int} {s : St} (h : By s.1) : By (sBelow m s).2.1 := below_by m s.1 s.2 h
theorem sint_by {s : St} (h : By s.1) : By (sInt s).2.1 := num_by s.1 s.2 h
theorem below_range {m : Int} {s : St} (hm : 0 < m) (h : By s.1) : 0 ≤ (sBelow m s).1 ∧ (sBelow m s).1 < m := by
 have hr := num_range s.1 s.2 h
 unfold sBelow below
 split
 · split
   · exact ⟨by simp, by simpa using hm⟩
   · omega
 · exact ⟨by simp, by simpa using hm⟩
theorem reps_by (n : Nat) {s : St} (h : By s.1) : By (sReps n s).2.1 := by
 induction n with
 | zero => exact h
 | succ n ih => exact sbelow_by ih
theorem reps_len (n : Nat) (s : St) : (sReps n s).1.length = n := by
 induction n with
 | zero => rfl
 | succ n ih => simp [sReps, ih]
theorem args_by {s : St} (h : By s.1) : By (sArgs s).2.1 := reps_by _ (sbelow_by h)
theorem field_by {p : Ins × St} {c : Int} (h : By p.2.1) : By (sField p c).2.1 := by
 obtain ⟨⟨k, op, d, a, b, n, args⟩, s⟩ := p
 simp only [sField]
 repeat' split
 all_goals first | exact sbelow_by h | exact sint_by h | exact args_by h
theorem fields_by (l : List Int) {p : Ins × St} (h : By p.2.1) : By (l.foldl sField p).2.1 := by
 induction l generalizing p with
 | nil => exact h
 | cons c l ih => exact ih (field_by h)
theorem ins_by {s : St} (h : By s.1) : By (sIns s).2.1 := by
 unfold sIns
 split
 · exact fields_by _ (sbelow_by h)
 · exact sbelow_by h
theorem inss_by (n : Nat) {s : St} (h : By s.1) : By (sInss n s).2.1 := by
 induction n with
 | zero => exact h
 | succ n ih =>
  rw [sInss]
  split
  · exact ins_by ih
  · exact ih
theorem end_by {s : St} (h : By s.1) : By (sEnd s).2.1 := by
 simp only [sEnd]
 repeat' split
 all_goals first | exact sbelow_by (sbelow_by h) | exact sbelow_by (sbelow_by (sbelow_by (sbelow_by h))) | exact sbelow_by h
theorem blk_by (most : Int) {s : St} (h : By s.1) : By (sBlk most s).2.1 := end_by (inss_by _ (sbelow_by h))
theorem inss_len (n : Nat) (s : St) : (sInss n s).1.length ≤ n := by
 induction n with
 | zero => simp [sInss]
 | succ n ih =>
  rw [sInss]
  split
  · simp; omega
  · omega
theorem blkN_len (most : Int) (n : Nat) (s : St) : (sBlkN most n s).1.length ≤ n := by
 induction n with
 | zero => simp [sBlkN]
 | succ n ih =>
  rw [sBlkN]
  split
  · simp; omega
  · omega
theorem below_pos {m : Int} {s : St} (h : (sBelow m s).1 ≠ 0) : (sBelow m s).2.2 = 0 := by
 unfold sBelow below at h ⊢
 split at h
 · rename_i h1
   split at h
   · exact absurd rfl h
   · rename_i h2
     rw [if_pos h1, if_neg h2]
     exact h1
 · exact absurd rfl h
theorem blk_eq (most : Int) (s : St) : sBlk most s = (((sInss (sBelow (most + 1) s).1.toNat (sBelow (most + 1) s).2).1, (sEnd (sInss (sBelow (most + 1) s).1.toNat (sBelow (most + 1) s).2).2).1), (sEnd (sInss (sBelow (most + 1) s).1.toNat (sBelow (most + 1) s).2).2).2) := rfl
end Go.Proofs.Ytnckonglodmfeaa.Js
namespace Go.Proofs.Ytnckonglodmfeaa.B
open Go.RowKit Go.Proofs.YtnckonglodmfeaaW.PrintWords Go.Proofs.YtnckonglodmfeaaW.PrintLast Go.Proofs.YtnckonglodmfeaaW.PrintMore
end Go.Proofs.Ytnckonglodmfeaa.B
namespace Go.Proofs.Ytnckonglodmfeaa.R
open Go Go.RowKit B
section
variable {P : Program} {ops : Array Oper} {Q : Exit → Act → World → Prop} {md : Region.Mode} {R : World → World → Prop} {E : List Nat}
theorem wpAnyE_any (hrefl : ∀ w, R w w) {i : Nat} {oi : Oper} {v : Value} (hi : ops[i]? = some oi) (hsel : ∀ (j : Nat) (o : Oper) cs b, ops[j]? = some o → o.op ≠ .select cs b)
 (hQ : ∀ c a w, Q (.panic c) (a.put oi.dst v) w → Q (.panic c) a w) :
 ∀ (fuel : Nat) (listed : Array Bool) (a : Act) (w : World),
  (∀ j oj, ops[j]? = some oj → j ≠ i → listed.getD j true = false → (∀ e ∈ oj.after, Region.binds md e = true → e.on ≠ i) → oi.apart ops oj = true) →
  i ∈ Region.ready md ops listed → YieldsIf P ops (fun _ => True) oi v a →
  wpAnyE P md ops Q R E fuel (listed.setIfInBounds i true) (a.put oi.dst v) w → wpAnyE P md ops Q R E (fuel + 1) listed a w := by
 intro fuel
 induction fuel with
 | zero =>
  intro listed a w _ hr hy H
  refine ⟨fun h => (by rw [h] at hr; cases hr), fun j hj => ?_⟩
  by_cases hji : j = i
  · subst hji; exact hy.wpOp hi trivial ⟨.inr (hrefl w), H⟩
  · have := ready_mono hj hji
    rw [H.1] at this
    cases this
 | succ fuel ih =>
  intro listed a w hfree hr hy H
  refine ⟨fun h => (by rw [h] at hr; cases hr), fun j hj => ?_⟩
  by_cases hji : j = i
  · subst hji; exact hy.wpOp hi trivial ⟨.inr (hrefl w), H⟩
  · have h1 := H.2 j (ready_mono hj hji)
    obtain ⟨hjun, oj, hoj, hall⟩ := mem_ready.1 hj
    have hiun := (mem_ready.1 hr).1
    have hnot : ∀ e ∈ oj.after, Region.binds md e = true → e.on ≠ i := fun e he hb heq => by
     have h1 := hall e he hb
     have h0 := (mem_ready.1 hr).1
     rw [heq] at h1
     rcases Nat.lt_or_ge i listed.size with h' | h'
     · simp [h'] at h0 h1; rw [h0] at h1; cases h1
     · simp [Array.getElem?_eq_none h'] at h1
    have h2 := wpOp_putIf hoj (hfree j oj hoj hji hjun hnot) (fun cs b => hsel i oi cs b hi) (fun cs b => hsel j oj cs b hoj) hQ hy h1
    have hfree' : ∀ k ok, ops[k]? = some ok → k ≠ i → (listed.setIfInBounds j true).getD k true = false →
     (∀ e ∈ ok.after, Region.binds md e = true → e.on ≠ i) → oi.apart ops ok = true := fun k ok hk hki hun hno => by
     refine hfree k ok hk hki ?_ hno
     by_cases hjk : j = k
     · subst hjk; exact hjun
     · rw [getD_set_ne true hjk] at hun; exact hun
    refine wpOp_mono (fun a' w' h3 => ⟨h3.2.1, ih (listed.setIfInBounds j true) a' w' hfree' (ready_mono hr (Ne.symm hji)) h3.1 ?_⟩) h2
    rw [Array.setIfInBounds_comm _ _ hji]
    exact h3.2.2
end
section
variable {P : Program} {ops : Array Oper} {Q : Exit → Act → World → Prop} {fuel : Nat} {listed listed' listed1 listed2 : Array Bool} {a : Act} {w : World} {S : Nat → Prop} {E : List Nat}
theorem re_any (i : Nat) {oi : Oper} {v : Value} {a' : Act} (hi0 : ops.toList[i]? = some oi) (hc : (Region.noSelect ops && Region.free .any ops listed i && (Region.ready .any ops listed).contains i) = true)
 (hl : listed.setIfInBounds i true = listed')
 (hQ : ∀ c a w, Q (.panic c) (a.put oi.dst v) w → Q (.panic c) a w) (hw : Region.wanted oi (yielded ops a.tmps) = true) (hy : ∀ w', (execOp a.eval oi).run P w' = .ok (.value v) w')
 (ha : a.put oi.dst v = a') (h : Re E S P ops Q fuel listed' a' w) : Re E S P ops Q (fuel + 1) listed a w := by
 have hi : ops[i]? = some oi := by rw [← hi0]; simp
 subst hl
 subst ha
 simp only [Bool.and_eq_true] at hc
 exact wpAnyE_any (R := Keep S) (Keep.refl S) hi (Region.noSelect_spec hc.1.1) hQ fuel listed a w (Region.free_spec hi hc.1.2) (by simpa using hc.2) (.inl ⟨hw, fun w' _ => hy w'⟩) h
theorem re_fork (i j : Nat) {oi oj : Oper} (hi0 : ops.toList[i]? = some oi) (hj0 : ops.toList[j]? = some oj) (hr : (Region.ready .any ops listed == [i, j]) = true) (hwi : Region.wanted oi (yielded ops a.tmps) = true) (hwj : Region.wanted oj (yielded ops a.tmps) = true)
 (hl1 : listed.setIfInBounds i true = listed1) (hl2 : listed.setIfInBounds j true = listed2)
 (h1 : ∀ K' : Act → World → Prop, Shut (∀ a' w', Keep S w w' → Re E S P ops Q fuel listed1 a' w' → K' a' w') → Oper.wp P oi a w K' Q)
 (h2 : ∀ K' : Act → World → Prop, Shut (∀ a' w', Keep S w w' → Re E S P ops Q fuel listed2 a' w' → K' a' w') → Oper.wp P oj a w K' Q) : Re E S P ops Q (fuel + 1) listed a w := by
 have hi : ops[i]? = some oi := by rw [← hi0]; simp
 have hj : ops[j]? = some oj := by rw [← hj0]; simp
 subst hl1
 subst hl2
 have hr' : Region.ready .any ops listed = [i, j] := by simpa using hr
 refine ⟨fun h0 => (by rw [h0] at hr'; cases hr'), ?_⟩
 rw [hr']
 intro m hm
 rcases List.mem_cons.1 hm with rfl | hm
 · refine wpOp_step hi (fun K' hK => ?_)
   rw [if_pos hwi]
   exact h1 K' (fun a' w' h1 h2 => hK a' w' ⟨.inr h1, h2⟩)
 · rw [List.mem_singleton] at hm
   subst hm
   refine wpOp_step hj (fun K' hK => ?_)
   rw [if_pos hwj]
   exact h2 K' (fun a' w' h1 h2 => hK a' w' ⟨.inr h1, h2⟩)
end
end Go.Proofs.Ytnckonglodmfeaa.R
namespace Go.Proofs.Ytnckonglodmfeaa.Ik
open Go.RowKit Go.Proofs.YtnckonglodmfeaaW.PrintWords Go.Proofs.YtnckonglodmfeaaW.PrintLast Go.Proofs.YtnckonglodmfeaaW.PrintMore B R S Is
abbrev kI : Kd Int := Kd.int .i64
abbrev kArgs : Kd (List Int) := Kd.slice 3 kI
abbrev kIns : Kd Ins := Kd.pair kU8 (Kd.pair kU8 (Kd.pair kI (Kd.pair kI (Kd.pair kI (Kd.pair kI kArgs)))))
abbrev kEnd : Kd IEnd := Kd.pair kU8 (Kd.pair kI (Kd.pair kI kI))
abbrev kBlk : Kd Blk := Kd.pair (Kd.slice 92 kIns) kEnd
def I64 (x : Int) : Prop := -9223372036854775808 ≤ x ∧ x ≤ 9223372036854775807
def U8 (x : Int) : Prop := 0 ≤ x ∧ x < 256
def InsR : Ins → Prop
 | (k, op, d, a, b, n, args) => U8 k ∧ U8 op ∧ I64 d ∧ I64 a ∧ I64 b ∧ I64 n ∧ ∀ x ∈ args, I64 x
def EndR : IEnd → Prop
 | (k, a, t, e) => U8 k ∧ I64 a ∧ I64 t ∧ I64 e
def BlkR (b : Blk) : Prop := (∀ i ∈ b.1, InsR i) ∧ EndR b.2
theorem infoI : (Try.prog.info? 3).map (fun i => (i.zero, i.size, i.bytes)) = some (some (.int .i64 0), 1, 8) := by kernel_rfl
theorem infoU8 : (Try.prog.info? 5).map (fun i => (i.zero, i.size, i.bytes)) = some (some (.int .u8 0), 1, 1) := by kernel_rfl
theorem infoIns : (Try.prog.info? 92).map (fun i => (i.zero, i.size, i.bytes)) = some (some (.agg #[.int .u8 0, .int .u8 0, .int .i64 0, .int .i64 0, .int .i64 0, .int .i64 0, .slice none 0 0]), 7, 64) := by kernel_rfl
theorem infoBlk : (Try.prog.info? 84).map (fun i => (i.zero, i.size, i.bytes)) = some (some (.agg #[.slice none 0 0, .int .u8 0, .int .i64 0, .int .i64 0, .int .i64 0]), 5, 56) := by kernel_rfl
theorem ins_K {w : World} {k op d a b n : Int} {args : List Int} {cs : List Value} (h : kIns.K w (k, op, d, a, b, n, args) cs) :
 ∃ (A : Option Addr) (c : Nat), cs = [.int .u8 k, .int .u8 op, .int .i64 d, .int .i64 a, .int .i64 b, .int .i64 n, .slice A args.length c] ∧ args.length ≤ c ∧ kI.C w A args.length args := by
 obtain ⟨c0, c1, rfl, h0, c2, c3, rfl, h1, c4, c5, rfl, h2, c6, c7, rfl, h3, c8, c9, rfl, h4, ca, cb, rfl, h5, A, c, hA, h6, h7⟩ := h
 have e0 : c0 = [.int .u8 k] := h0
 have e1 : c2 = [.int .u8 op] := h1
 have e2 : c4 = [.int .i64 d] := h2
 have e3 : c6 = [.int .i64 a] := h3
 have e4 : c8 = [.int .i64 b] := h4
 have e5 : ca = [.int .i64 n] := h5
 subst e0 e1 e2 e3 e4 e5 hA
 exact ⟨A, c, rfl, h6, h7⟩
theorem end_K {w : World} {k a t e : Int} {cs : List Value} (h : kEnd.K w (k, a, t, e) cs) : cs = [.int .u8 k, .int .i64 a, .int .i64 t, .int .i64 e] := by
 obtain ⟨c0, c1, rfl, h0, c2, c3, rfl, h1, c4, c5, rfl, h2, h3⟩ := h
 have e0 : c0 = [.int .u8 k] := h0
 have e1 : c2 = [.int .i64 a] := h1
 have e2 : c4 = [.int .i64 t] := h2
 have e3 : c5 = [.int .i64 e] := h3
 subst e0 e1 e2 e3
 rfl
theorem blk_K {w : World} {l : List Ins} {k a t e : Int} {cs : List Value} (h : kBlk.K w (l, k, a, t, e) cs) :
 ∃ (A : Option Addr) (c : Nat), cs = [.slice A l.length c, .int .u8 k, .int .i64 a, .int .i64 t, .int .i64 e] ∧ l.length ≤ c ∧ kIns.C w A l.length l := by
 obtain ⟨c0, c1, rfl, ⟨A, c, hA, h0, h1⟩, h2⟩ := h
 have e2 := end_K h2
 subst hA e2
 exact ⟨A, c, rfl, h0, h1⟩
theorem ins_cells {w : World} {A0 : Option Addr} {n0 : Nat} {m : List Ins} (h : kIns.C w A0 n0 m) {j : Nat} {k op d a b n : Int} {args : List Int} (hj : m[j]? = some (k, op, d, a, b, n, args)) :
 ∃ (ad : Addr) (A : Option Addr) (c : Nat), A0 = some ad ∧ w.cell? (ad.add (j * 7)) = some (.int .u8 k) ∧ w.cell? ⟨(ad.add (j * 7)).block, (ad.add (j * 7)).off + 1, none⟩ = some (.int .u8 op) ∧ w.cell? ⟨(ad.add (j * 7)).block, (ad.add (j * 7)).off + 2, none⟩ = some (.int .i64 d) ∧
  w.cell? ⟨(ad.add (j * 7)).block, (ad.add (j * 7)).off + 3, none⟩ = some (.int .i64 a) ∧ w.cell? ⟨(ad.add (j * 7)).block, (ad.add (j * 7)).off + 4, none⟩ = some (.int .i64 b) ∧ w.cell? ⟨(ad.add (j * 7)).block, (ad.add (j * 7)).off + 5, none⟩ = some (.int .i64 n) ∧
  w.cell? ⟨(ad.add (j * 7)).block, (ad.add (j * 7)).off + 6, none⟩ = some (.slice A args.length c) ∧ args.length ≤ c ∧ kI.C w A args.length args := by
 have hl := (List.getElem?_eq_some_iff.1 hj).1
 obtain ⟨ad, e, hc⟩ := h.2.2 (by have := h.1; omega)
 obtain ⟨cs, h1, h2, h3⟩ := hc j _ hj
 obtain ⟨A, c, rfl, h4, h5⟩ := ins_K h2
 have hs : kIns.sz = 7 := rfl
 have g0 := h3 0 _ rfl
 have g1 := h3 1 _ rfl
 have g2 := h3 2 _ rfl
 have g3 := h3 3 _ rfl
 have g4 := h3 4 _ rfl
 have g5 := h3 5 _ rfl
 have g6 := h3 6 _ rfl
 rw [hs] at g0 g1 g2 g3 g4 g5 g6
 rw [← YtnckonglodmfeaaW.PrintWords.add_add] at g1 g2 g3 g4 g5 g6
 exact ⟨ad, A, c, e, g0, g1, g2, g3, g4, g5, g6, h4, h5⟩
theorem blk_cells {w : World} {A0 : Option Addr} {n0 : Nat} {m : List Blk} (h : kBlk.C w A0 n0 m) {j : Nat} {l : List Ins} {k a t e : Int} (hj : m[j]? = some (l, k, a, t, e)) :
 ∃ (ad : Addr) (A : Option Addr) (c : Nat), A0 = some ad ∧ w.cell? (ad.add (j * 5)) = some (.slice A l.length c) ∧ w.cell? ⟨(ad.add (j * 5)).block, (ad.add (j * 5)).off + 1, none⟩ = some (.int .u8 k) ∧ w.cell? ⟨(ad.add (j * 5)).block, (ad.add (j * 5)).off + 2, none⟩ = some (.int .i64 a) ∧
  w.cell? ⟨(ad.add (j * 5)).block, (ad.add (j * 5)).off + 3, none⟩ = some (.int .i64 t) ∧ w.cell? ⟨(ad.add (j * 5)).block, (ad.add (j * 5)).off + 4, none⟩ = some (.int .i64 e) ∧ l.length ≤ c ∧ kIns.C w A l.length l := by
 have hl := (List.getElem?_eq_some_iff.1 hj).1
 obtain ⟨ad, e', hc⟩ := h.2.2 (by have := h.1; omega)
 obtain ⟨cs, h1, h2, h3⟩ := hc j _ hj
 obtain ⟨A, c, rfl, h4, h5⟩ := blk_K h2
 have hs : kBlk.sz = 5 := rfl
 have g0 := h3 0 _ rfl
 have g1 := h3 1 _ rfl
 have g2 := h3 2 _ rfl
 have g3 := h3 3 _ rfl
 have g4 := h3 4 _ rfl
 rw [hs] at g0 g1 g2 g3 g4
 rw [← YtnckonglodmfeaaW.PrintWords.add_add] at g1 g2 g3 g4
 exact ⟨ad, A, c, e', g0, g1, g2, g3, g4, h4, h5⟩
theorem R_litN (k : IntKind) (e : Nat) (W : World) (xs : List Int) (h : xs.length ≤ maxLen) : (Kd.int k).R e (W.alloc (.cells (xs.map (Value.int k)).toArray e)) W.heap.size (fun _ => True) (.slice (some ⟨W.heap.size, 0, none⟩) xs.length xs.length) xs := by
 refine Kd.R_of_own ⟨by simp [encs], .inr ⟨W.heap.size, xs.length, _, rfl, Nat.le_refl _, heap_alloc_new _ _, Nat.le_refl _, h, by simp, ?_⟩⟩ (fun _ _ => trivial)
 simp only [encs, Nat.mul_one]
 rw [List.take_of_length_le (by simp)]
theorem lit_at {k : IntKind} {e : Nat} (W : World) (N g : Nat) (hg : g = W.heap.size) (hN : N ≤ g) (xs : List Int) (n : Nat) (hn : xs.length = n) (h : n ≤ maxLen) : (Kd.int k).R e (W.alloc (.cells (xs.map (Value.int k)).toArray e)) N (fun _ => True) (.slice (some ⟨g, 0, none⟩) n n) xs := by
 subst hg hn
 exact Kd.R_lower (R_litN k e W xs h) hN
theorem kinds (k : Int) : k = 1 ∨ k = 2 ∨ k = 3 ∨ k = 4 ∨ k = 5 ∨ k = 6 ∨ k = 7 ∨ k = 8 ∨ ((k == 1) = false ∧ (k == 2) = false ∧ (k == 3) = false ∧ (k == 4) = false ∧ (k == 5) = false ∧ (k == 6) = false ∧ (k == 7) = false ∧ (k == 8) = false) := by
 by_cases h1 : k = 1; exact .inl h1
 by_cases h2 : k = 2; exact .inr (.inl h2)
 by_cases h3 : k = 3; exact .inr (.inr (.inl h3))
 by_cases h4 : k = 4; exact .inr (.inr (.inr (.inl h4)))
 by_cases h5 : k = 5; exact .inr (.inr (.inr (.inr (.inl h5))))
 by_cases h6 : k = 6; exact .inr (.inr (.inr (.inr (.inr (.inl h6)))))
 by_cases h7 : k = 7; exact .inr (.inr (.inr (.inr (.inr (.inr (.inl h7))))))
 by_cases h8 : k = 8; exact .inr (.inr (.inr (.inr (.inr (.inr (.inr (.inl h8)))))))
 simp_all
theorem keep_last (W : World) (N : Nat) (hN : N = W.heap.size) (o o' : Obj) : Keep (fun g => g = N) (W.alloc o).drew (W.alloc o').drew := by
 subst hN
 refine ⟨rfl, rfl, rfl, by show (W.alloc o).heap.size ≤ (W.alloc o').heap.size; rw [World.size_alloc, World.size_alloc]; exact Nat.le_refl _, fun k hk hs => ?_⟩
 have hk' : k < W.heap.size := by
  have : k < (W.alloc o).heap.size := hk
  rw [World.size_alloc] at this
  have : k ≠ W.heap.size := hs
  omega
 show (W.alloc o').heap[k]? = (W.alloc o).heap[k]?
 rw [heap_alloc_old _ _ hk', heap_alloc_old _ _ hk']
theorem old_cells {w W' : World} {o o2 : Obj} (h : Keep (fun g => g = w.heap.size + 1) ((w.alloc o).alloc o2).drew W') : W'.heap[w.heap.size]? = some o := by
 rw [h.block w.heap.size (by show w.heap.size < ((w.alloc o).alloc o2).heap.size; rw [World.size_alloc, World.size_alloc]; omega) (fun e => by have e : w.heap.size = w.heap.size + 1 := e; omega)]
 show ((w.alloc o).alloc o2).heap[w.heap.size]? = some o
 rw [heap_alloc_old _ _ (by rw [World.size_alloc]; omega), heap_alloc_new]
theorem cell_at {W : World} {g e : Nat} {cs : Array Value} (h : W.heap[g]? = some (.cells cs e)) (i : Nat) (v : Value) (hv : cs[i]? = some v) : W.cell? ⟨g, i, none⟩ = some v := by
 simp [World.cell?, h, hv]
theorem below_cells {w w' : World} {o : Obj} (h : Below (w.alloc o).heap.size (w.alloc o) w') : w'.heap[w.heap.size]? = some o :=
 (h.block w.heap.size (by rw [World.size_alloc]; omega)).trans (heap_alloc_new w o)
end Go.Proofs.Ytnckonglodmfeaa.Ik
namespace Go.Proofs.Ytnckonglodmfeaa.Ik
open Go.RowKit Go.Proofs.YtnckonglodmfeaaW.PrintWords Go.Proofs.YtnckonglodmfeaaW.PrintLast Go.Proofs.YtnckonglodmfeaaW.PrintMore B R S Is
def takesB (k : Int) : Bool := decide (k = 2 ∨ k = 3)
theorem new_cells {w W' : World} {o : Obj} (h : Keep (fun _ => False) (w.alloc o).drew W') : W'.heap[w.heap.size]? = some o :=
 (h.block w.heap.size (by show w.heap.size < (w.alloc o).heap.size; rw [World.size_alloc]; omega) id).trans (heap_alloc_new w o)
set_option maxHeartbeats 1000000 in
set_option maxRecDepth 100000 in
theorem last_calls (k a t e : Int) (w : World) : Calls Try.prog 106 #[.agg #[.int .u8 k, .int .i64 a, .int .i64 t, .int .i64 e]] w fun r w' => r = .returned (.tuple #[.int .i64 a, .bool (takesB k)]) ∧ Below w.heap.size w w' := by
 have mixed : Try.prog.follows .mixedOrders = true := by kernel_rfl
 have HX := aM (show ∀ W', Keep (fun _ => False) (w.alloc (.cells #[.int .u8 k, .int .i64 a, .int .i64 t, .int .i64 e] 82)).drew W' → W'.cell? ⟨w.heap.size, 0, none⟩ = some (.int .u8 k) ∧ W'.cell? ⟨w.heap.size, 1, none⟩ = some (.int .i64 a) from fun W' h => by
  have h := new_cells h
  exact ⟨by simp [World.cell?, h], by simp [World.cell?, h]⟩)
 by_cases h2 : k = 2
 · subst h2
   go_enter Try.func106, Try.ntmps106
   go_wp2
   refine rk_start (fun _ => False) (by kernel_rfl) (n := 12) (l := (bl 12 0)) (by kernel_rfl) (by kernel_rfl) ?_
   refine kt 0 (bl 12 1) rfl (fun w' hR => by go_simp; first | done | with_reducible rfl) rfl ?_
   try simp only [Act.put, pB, pC, pD]
   refine kt 1 (bl 12 3) rfl (fun w' hR => by have x0 := (HX.out w' hR).2; go_simp; first | done | with_reducible rfl) rfl ?_
   try simp only [Act.put, pB, pC, pD]
   refine kt 2 (bl 12 7) rfl (fun w' hR => by go_simp; first | done | with_reducible rfl) rfl ?_
   try simp only [Act.put, pB, pC, pD]
   refine kt 3 (bl 12 15) rfl (fun w' hR => by have x0 := (HX.out w' hR).1; go_simp; first | done | with_reducible rfl) rfl ?_
   try simp only [Act.put, pB, pC, pD]
   refine kt 4 (bl 12 31) rfl (fun w' hR => by go_simp; first | done | with_reducible rfl) rfl ?_
   try simp only [Act.put, pB, pC, pD]
   refine kt 5 (bl 12 63) rfl (fun w' hR => by go_simp; first | done | with_reducible rfl) rfl ?_
   try simp only [Act.put, pB, pC, pD]
   refine kz 6 (bl 12 127) rfl rfl ?_
   try simp only [Act.put, pB, pC, pD]
   refine kz 7 (bl 12 255) rfl rfl ?_
   try simp only [Act.put, pB, pC, pD]
   refine kz 8 (bl 12 511) rfl rfl ?_
   try simp only [Act.put, pB, pC, pD]
   refine kt 9 (bl 12 1023) rfl (fun w' hR => by go_simp; first | done | with_reducible rfl) rfl ?_
   try simp only [Act.put, pB, pC, pD]
   refine kt 10 (bl 12 2047) rfl (fun w' hR => by go_simp; first | done | with_reducible rfl) rfl ?_
   try simp only [Act.put, pB, pC, pD]
   refine kt 11 (bl 12 4095) rfl (fun w' hR => by go_simp; first | done | with_reducible rfl) rfl ?_
   try simp only [Act.put, pB, pC, pD]
   refine rk_done (by kernel_rfl) ?_
   go_wp2
   go_ret2
   exact ⟨rfl, ((Below.refl _ _).alloc (Nat.le_refl _) _).drew⟩
 have b2 : (k == 2) = false := beq_eq_false_iff_ne.mpr h2
 by_cases h3 : k = 3
 · subst h3
   go_enter Try.func106, Try.ntmps106
   go_wp2
   refine rk_start (fun _ => False) (by kernel_rfl) (n := 12) (l := (bl 12 0)) (by kernel_rfl) (by kernel_rfl) ?_
   refine kt 0 (bl 12 1) rfl (fun w' hR => by go_simp; first | done | with_reducible rfl) rfl ?_
   try simp only [Act.put, pB, pC, pD]
   refine kt 1 (bl 12 3) rfl (fun w' hR => by have x0 := (HX.out w' hR).2; go_simp; first | done | with_reducible rfl) rfl ?_
   try simp only [Act.put, pB, pC, pD]
   refine kt 2 (bl 12 7) rfl (fun w' hR => by go_simp; first | done | with_reducible rfl) rfl ?_
   try simp only [Act.put, pB, pC, pD]
   refine kt 3 (bl 12 15) rfl (fun w' hR => by have x0 := (HX.out w' hR).1; go_simp; first | done | with_reducible rfl) rfl ?_
   try simp only [Act.put, pB, pC, pD]
   refine kt 4 (bl 12 31) rfl (fun w' hR => by go_simp; first | done | with_reducible rfl) rfl ?_
   try simp only [Act.put, pB, pC, pD]
   refine kt 5 (bl 12 63) rfl (fun w' hR => by go_simp; first | done | with_reducible rfl) rfl ?_
   try simp only [Act.put, pB, pC, pD]
   refine kt 6 (bl 12 127) rfl (fun w' hR => by go_simp; first | done | with_reducible rfl) rfl ?_
   try simp only [Act.put, pB, pC, pD]
   refine kt 7 (bl 12 255) rfl (fun w' hR => by have x0 := (HX.out w' hR).1; go_simp; first | done | with_reducible rfl) rfl ?_
   try simp only [Act.put, pB, pC, pD]
   refine kt 8 (bl 12 511) rfl (fun w' hR => by go_simp; first | done | with_reducible rfl) rfl ?_
   try simp only [Act.put, pB, pC, pD]
   refine kt 9 (bl 12 1023) rfl (fun w' hR => by go_simp; first | done | with_reducible rfl) rfl ?_
   try simp only [Act.put, pB, pC, pD]
   refine kt 10 (bl 12 2047) rfl (fun w' hR => by go_simp; first | done | with_reducible rfl) rfl ?_
   try simp only [Act.put, pB, pC, pD]
   refine kt 11 (bl 12 4095) rfl (fun w' hR => by go_simp; first | done | with_reducible rfl) rfl ?_
   try simp only [Act.put, pB, pC, pD]
   refine rk_done (by kernel_rfl) ?_
   go_wp2
   go_ret2
   exact ⟨rfl, ((Below.refl _ _).alloc (Nat.le_refl _) _).drew⟩
 have b3 : (k == 3) = false := beq_eq_false_iff_ne.mpr h3
 have ht : takesB k = false := decide_eq_false (by omega)
 rw [ht]
 go_enter Try.func106, Try.ntmps106
 go_wp2
 refine rk_start (fun _ => False) (by kernel_rfl) (n := 12) (l := (bl 12 0)) (by kernel_rfl) (by kernel_rfl) ?_
 refine kt 0 (bl 12 1) rfl (fun w' hR => by go_simp; first | done | with_reducible rfl) rfl ?_
 try simp only [Act.put, pB, pC, pD]
 refine kt 1 (bl 12 3) rfl (fun w' hR => by have x0 := (HX.out w' hR).2; go_simp; first | done | with_reducible rfl) rfl ?_
 try simp only [Act.put, pB, pC, pD]
 refine kt 2 (bl 12 7) rfl (fun w' hR => by go_simp; first | done | with_reducible rfl) rfl ?_
 try simp only [Act.put, pB, pC, pD]
 refine kt 3 (bl 12 15) rfl (fun w' hR => by have x0 := (HX.out w' hR).1; go_simp; first | done | with_reducible rfl) rfl ?_
 try simp only [Act.put, pB, pC, pD]
 refine kt 4 (bl 12 31) rfl (fun w' hR => by go_simp; first | done | with_reducible rfl) rfl ?_
 try simp only [Act.put, pB, pC, pD]
 refine kt 5 (bl 12 63) rfl (fun w' hR => by go_simp; first | done | with_reducible rfl) rfl ?_
 try simp only [Act.put, pB, pC, pD]
 refine kt 6 (bl 12 127) rfl (fun w' hR => by go_simp; first | done | with_reducible rfl) rfl ?_
 try simp only [Act.put, pB, pC, pD]
 refine kt 7 (bl 12 255) rfl (fun w' hR => by have x0 := (HX.out w' hR).1; go_simp; first | done | with_reducible rfl) rfl ?_
 try simp only [Act.put, pB, pC, pD]
 refine kt 8 (bl 12 511) rfl (fun w' hR => by go_simp; first | done | with_reducible rfl) rfl ?_
 try simp only [Act.put, pB, pC, pD]
 refine kt 9 (bl 12 1023) rfl (fun w' hR => by go_simp; first | done | with_reducible rfl) rfl ?_
 try simp only [Act.put, pB, pC, pD]
 refine kt 10 (bl 12 2047) rfl (fun w' hR => by go_simp; first | done | with_reducible rfl) rfl ?_
 try simp only [Act.put, pB, pC, pD]
 refine kt 11 (bl 12 4095) rfl (fun w' hR => by go_simp; first | done | with_reducible rfl) rfl ?_
 try simp only [Act.put, pB, pC, pD]
 refine rk_done (by kernel_rfl) ?_
 go_wp2
 go_ret2
 exact ⟨rfl, ((Below.refl _ _).alloc (Nat.le_refl _) _).drew⟩
set_option maxHeartbeats 1000000 in
set_option maxRecDepth 100000 in
theorem gives_calls (k op d a b n : Int) (args : List Int) (A : Option Addr) (c : Nat) (w : World) : Calls Try.prog 138 #[(.agg #[.int .u8 k, .int .u8 op, .int .i64 d, .int .i64 a, .int .i64 b, .int .i64 n, .slice A args.length c])] w fun r w' => r = .returned (.tuple #[.int .i64 (if givesB k then d else 0), .bool (givesB k)]) ∧ Below w.heap.size w w' := by
 rcases kinds k with rfl | rfl | rfl | rfl | rfl | rfl | rfl | rfl | ⟨h1, h2, h3, h4, h5, h6, h7, h8⟩
 rotate_right
 rw [show givesB k = false from decide_eq_false (by simp at h1 h2 h3 h4 h5 h6 h7 h8; omega)]
 all_goals
  go_enter Try.func138, Try.ntmps138
  go_wp2
  go_ret2
  exact ⟨rfl, (Below.refl _ _).alloc (Nat.le_refl _) _⟩
set_option maxHeartbeats 1000000 in
set_option maxRecDepth 100000 in
theorem uses_calls (k op d a b n : Int) (args : List Int) (A : Option Addr) (c : Nat) (w : World) (hC : kI.C w A args.length args) (hl : args.length ≤ 100000) :
 Calls Try.prog 137 #[(.agg #[.int .u8 k, .int .u8 op, .int .i64 d, .int .i64 a, .int .i64 b, .int .i64 n, .slice A args.length c])] w fun r w' => ∃ v, r = .returned v ∧ kI.R 3 w' w.heap.size (fun _ => True) v (usesL (k, op, d, a, b, n, args)) ∧ Below w.heap.size w w' := by
 rcases kinds k with rfl | rfl | rfl | rfl | rfl | rfl | rfl | rfl | ⟨h1, h2, h3, h4, h5, h6, h7, h8⟩
 rotate_right
 rw [show usesL (k, op, d, a, b, n, args) = [] from by
  simp at h1 h2 h3 h4 h5 h6 h7 h8
  simp only [usesL]
  rw [if_neg (by omega), if_neg (by omega), if_neg (by omega)]]
 all_goals
  go_enter Try.func137, Try.ntmps137
  go_wp2_with (first | ((with_reducible refine gate_builtin (b := .append) (xs := #[.tmp 22, .tmp 24]) rfl ?_); at_builtin; refine Kd.R_append_rows kI (w0 := w) w.heap.size rfl (.tmp 22) (.tmp 24) 31 3 (.int .i64 0) 8 rfl Try.underlying31 infoI rfl (by decide) (by omega) (.slice (some ⟨w.heap.size + 1, 0, none⟩) 0 0) ([] : List Int) args _ _ _ (fun _ => True) (fun _ => False) rfl rfl ?aO ?aR (fun _ _ h => h) (fun _ h => h.elim) ?aF ?aB ?aS ?aL ?_; (case aR => exact (Kd.C_below hC (((Below.refl _ _).alloc (Nat.le_refl _) _).alloc (by simp) _))); (case aB => exact (((Below.refl _ _).alloc (Nat.le_refl _) _).alloc (by simp) _)); (case aF => exact (fun _ _ => trivial)); (case aO => exact (lit_at _ _ _ (by rw [World.size_alloc]) (by omega) [] 0 rfl (by decide))); (case aS => (simp only [World.size_alloc]; omega)); (case aL => (simp only [List.length_nil]; omega)); (intro v1 w1 ho hb1 hg hat; rw [List.nil_append] at ho; have HO := aM ho; have HW1 := aM hb1; clear ho hb1 hg hat)))
  go_ret
  first
   | exact ⟨_, rfl, HO.out, HW1.out⟩
   | exact ⟨_, rfl, Kd.R_nil _ _ _ _ _, (Below.refl _ _).alloc (Nat.le_refl _) _⟩
   | exact ⟨.slice (some ⟨w.heap.size + 1, 0, none⟩) 1 1, rfl, lit_at _ _ _ (by rw [World.size_alloc]) (by omega) [a] 1 rfl (by decide), ((Below.refl _ _).alloc (Nat.le_refl _) _).alloc (by simp) _⟩
   | exact ⟨.slice (some ⟨w.heap.size + 1, 0, none⟩) 2 2, rfl, lit_at _ _ _ (by rw [World.size_alloc]) (by omega) [a, b] 2 rfl (by decide), ((Below.refl _ _).alloc (Nat.le_refl _) _).alloc (by simp) _⟩
end Go.Proofs.Ytnckonglodmfeaa.Ik
