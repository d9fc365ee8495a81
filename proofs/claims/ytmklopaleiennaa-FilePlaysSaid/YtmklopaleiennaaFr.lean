/- What the calls of the reference's file come to: lay, Bytes. -/
import Derived.Test.YtmklopaleiennaaFw
import Derived.Test.YtmklopaleiennaaE
import Derived.Test.YtmklopaleiennaaS
namespace Go.Proofs.Ytmklopaleiennaa.Fr
open Go.RowKit Go.Proofs.YtmklopaleiennaaW.PrintWords Go.Proofs.YtmklopaleiennaaW.PrintLast Go.Proofs.YtmklopaleiennaaW.PrintMore Go.Proofs.Ytmklopaleiennaa.B Go.Proofs.Ytmklopaleiennaa.Fs Go.Proofs.Ytmklopaleiennaa.Fc Go.Proofs.Ytmklopaleiennaa.Fw Go.Proofs.Ytmklopaleiennaa.R Go.Proofs.Ytmklopaleiennaa.S
set_option linter.unusedVariables false
set_option linter.unusedSimpArgs false
abbrev FM := Fl 44 79
set_option maxHeartbeats 4000000 in
set_option maxRecDepth 100000 in
theorem lay_calls (A : Option Addr) (c : Nat) (b : List Int) (i : Int) (B : Option Addr) (d : Nat) (ct : List Int) (m : Nat) (hm : ct.length = m) (w : World) (hC : kU8.C w A b.length b) (hCt : kU8.C w B m ct) (h0 : 0 ≤ i) (h1 : i + m ≤ 16777216) (h2 : b.length ≤ 16777216) (hc0 : i ≤ b.length ∨ 0 < m) :
    Calls Try.prog 37 #[.slice A b.length c, .int .i64 i, .slice B m d] w fun e w' => ∃ v, e = .returned v ∧ Buf .u8 5 w' (fun k => w.heap.size ≤ k) v (laid b i.toNat ct) ∧ Below w.heap.size w w' := by
  obtain ⟨p, rfl⟩ : ∃ p : Nat, i = p := ⟨i.toNat, by omega⟩
  have HC := Aside0.mk hC
  have HCt := Aside0.mk hCt
  clear hC hCt
  go_enter Try.func37, Try.ntmps37
  go_wp2_with (first | ((with_reducible refine gate_builtin (b := .append) (xs := #[.tmp 9, .tmp 10]) rfl ?_); at_builtin; refine Kd.R_append_rows (Kd.int .u8) (w0 := w) w.heap.size rfl (.tmp 9) (.tmp 10) 22 5 (.int .u8 0) 1 rfl Try.underlying22 infoU8 rfl (by decide) (by omega) (.slice (some ⟨w.heap.size, 0, none⟩) 0 0) ([] : List Int) b _ _ _ (fun _ => True) (fun _ => False) rfl rfl ?aO ?aR (fun _ _ h => h) (fun _ h => h.elim) ?aF ?aB ?aS ?aL ?_; (case aR => exact Kd.C_alloc HC.out _); (case aB => exact (Below.refl _ _).alloc (Nat.le_refl _) _); (case aF => exact (fun _ _ => trivial)); (case aO => exact R_lit0 kU8 5 w); (case aS => simp); (case aL => (simp only [List.length_nil]; omega)); (intro v1 w1 ho hb1 hg hat; rw [List.nil_append] at ho; have HO := Aside0.mk ((Buf.of_R ho).mono (S' := fun k => w.heap.size ≤ k) (fun k hk _ => hk.2.1)); have HW := Aside0.mk hb1; clear ho hb1 hg hat)))
  go_loopw [7, 8] (fun vo vi wr => ∃ k : Nat, k ≤ m ∧ vi = .int .i64 k ∧ Aside0 (Buf .u8 5 wr (fun k => w.heap.size ≤ k) vo (layPart b p ct k)) ∧ Aside0 (Below w.heap.size w wr)) (fun _ vi _ => m - (intOf vi).toNat)
  case atStart => exact ⟨0, by omega, rfl, HO, HW⟩
  case round =>
    clear HO HW
    obtain ⟨k, hk, rfl, HO, HW⟩ := hrel
    by_cases hlt : k < m
    · have hpl := layPart_len b p ct k (by omega)
      have hpb : (layPart b p ct k).length ≤ 33554432 := by rw [hpl]; split <;> omega
      have HPL := Aside0.mk hpl
      clear hpl
      go_wp2_with fail
      go_loopw [7] (fun vo wr => ∃ (n : Nat) (xs : List Int), xs.length ≤ 33554433 ∧ (n = 0 ∨ xs.length ≤ p + k + 1) ∧ Aside0 (xs = layPart b p ct k ++ List.replicate n 0) ∧ Aside0 (Buf .u8 5 wr (fun k => w.heap.size ≤ k) vo xs) ∧ Aside0 (Below w.heap.size w wr)) (fun vo _ => p + k + 1 - vlen vo)
      case atStart => exact ⟨0, _, by omega, .inl rfl, ⟨by simp⟩, HO, HW⟩
      case round =>
        clear HO HW
        obtain ⟨n, xs, hxl, hn, HX, HO, HW⟩ := hrel
        obtain ⟨A1, c1, rfl, hlc1, -, -⟩ := HO.out.reads
        have y1 := wrI64 ((p : Int) + k) (by omega) (by omega)
        by_cases hin : xs.length ≤ p + k
        · have d1 : decide ((xs.length : Int) ≤ (p : Int) + k) = true := by simp; omega
          go_wp2_with (first | ((with_reducible refine gate_builtin (b := .append) (xs := #[.tmp 24, .tmp 25]) rfl ?_); at_builtin; refine Buf.append rfl (.tmp 24) (.tmp 25) 22 5 1 rfl Try.underlying22 infoU8 (by decide) (.slice A1 xs.length c1) xs 0 rfl rfl HO.out (by omega) ?_; intro v1 w1 hb1 hg1; have HB1 := Aside0.mk hb1; have HG1 := Aside0.mk hg1; clear hb1 hg1))
          go_roundw
          case rel =>
            have hk := grown_keep (S := fun k => w.heap.size ≤ k) HG1.out (fun k e => (HO.out.own k e).1)
            have hz := HW.out.size
            exact ⟨n + 1, xs ++ [0], by simp; omega, .inr (by simp; omega), ⟨by rw [HX.out, List.append_assoc, List.replicate_succ']⟩, ⟨HB1.out.mono (fun j hj _ => by omega)⟩, ⟨Keep.below_then HW.out hk hz (fun j hj h => by omega)⟩⟩
          case measure =>
            obtain ⟨A2, c2, rfl, -, -, -⟩ := HB1.out.reads
            simp [vlen]
            omega
        · have d1 : decide ((xs.length : Int) ≤ (p : Int) + k) = false := by simp; omega
          obtain ⟨g, rfl, hgS, hgl⟩ := HO.out.head (by omega)
          obtain ⟨x, hx⟩ : ∃ x, ct[k]? = some x := ⟨_, List.getElem?_eq_getElem (by omega)⟩
          obtain ⟨bd, rfl⟩ := C_some HCt.out (by omega)
          have hcx : wr.cell? (bd.add k) = some (.int .u8 x) := by
            have h := Kd.C_below HCt.out HW.out
            rw [← hm] at h
            exact C_cell h hx
          obtain ⟨x0, -, hcy, hfy⟩ := HO.out.at (j := p + k) (by omega)
          have hset := HO.out.set (p + k) (by omega) x
          have hxs : xs.set (p + k) x = layPart b p ct (k + 1) := by
            rw [← layPart_step b p hx, padded, HX.out]
            congr 3
            have hx2 := congrArg List.length HX.out
            simp only [List.length_append, List.length_replicate] at hx2
            rcases hn with h | h
            · subst h; omega
            · omega
          rw [hxs] at hset
          have HSET := Aside0.mk hset
          clear hset hxs hx
          have e1 : ((p : Int) + (k : Int)).toNat = p + k := by omega
          go_wp2
          go_roundw
          case rel => exact ⟨k + 1, by omega, by go_num, HSET, ⟨HW.out.setCell (by show w.heap.size ≤ g; exact hgS) _⟩⟩
          case measure => simp [intOf]; omega
    · have hke : k = m := by omega
      subst hke
      go_wp2
      go_ret
      refine ⟨_, rfl, ?_, HW.out⟩
      have hl : layPart b p ct k = laid b p ct := by
        cases k with
        | zero =>
          have : ct = [] := List.eq_nil_of_length_eq_zero hm
          subst this
          rw [laid_nil _ _ (by omega)]
          rfl
        | succ k => rw [layPart, ← hm, List.take_length]
      rw [Int.toNat_natCast, ← hl]
      exact HO.out
end Go.Proofs.Ytmklopaleiennaa.Fr
