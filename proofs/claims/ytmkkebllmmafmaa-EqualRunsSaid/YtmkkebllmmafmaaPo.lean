/- The reference's sets: Of, Copied, Moved, Given. -/
import Derived.Test.YtmkkebllmmafmaaPy
namespace Go.Proofs.Ytmkkebllmmafmaa.Px
open Go.Sort Go.RowKit Go.Proofs.YtmkkebllmmafmaaW.PrintWords Go.Proofs.YtmkkebllmmafmaaW.PrintLast Go.Proofs.YtmkkebllmmafmaaW.PrintMore Go.Proofs.Ytmkkebllmmafmaa.B Go.Proofs.Ytmkkebllmmafmaa.Ps Go.Proofs.Ytmkkebllmmafmaa.R Go.Proofs.Ytmkkebllmmafmaa.Pk Go.Proofs.Ytmkkebllmmafmaa.Pa Go.Proofs.Ytmkkebllmmafmaa.Pm Go.Proofs.Ytmkkebllmmafmaa.Pw Go.Proofs.Ytmkkebllmmafmaa.Pd Go.Proofs.Ytmkkebllmmafmaa.Pg Go.Proofs.Ytmkkebllmmafmaa.S
set_option linter.unusedVariables false
set_option linter.unusedSimpArgs false
def fCopied (f : Nat → Nat → Bool) (dst fr k : Nat) : Nat → Nat → Bool := fun v l => if l = dst ∧ v < k then f v fr else f v l
def fMoved (f : Nat → Nat → Bool) (dst fr k : Nat) : Nat → Nat → Bool := fun v l => if v = dst ∧ l < k then f fr l else f v l
def fRow (f : Nat → Nat → Bool) (v k : Nat) : Nat → Nat → Bool := fun a b => if a = v ∧ b < k then false else f a b
def fCol (f : Nat → Nat → Bool) (l k : Nat) : Nat → Nat → Bool := fun a b => if b = l ∧ a < k then false else f a b
section
variable {w : World} {base g h V n N : Nat} {f : Nat → Nat → Bool}
set_option maxHeartbeats 4000000 in
set_option maxRecDepth 100000 in
theorem rcopied_calls (s : SetAt w base g h V n N f) (hb : N ≤ 1000) (hV : V ≤ 1000) (hn : n ≤ 1000) (dst fr : Nat) (hd : dst < n) (hf : fr < n) :
    Calls Try.prog 15 #[.pointer (some ⟨g, 0, none⟩), .int .i64 dst, .int .i64 fr] w fun e w' => e = .returned (.tuple #[]) ∧ SetAt w' base g h V n N (fCopied f dst fr V) ∧ Keep (· = h) w w' := by
  have HS0 := Aside0.mk (s.congr (f' := fCopied f dst fr 0) (fun v l _ _ => by simp [fCopied]))
  have HK0 := Aside0.mk (Keep.refl (· = h) w)
  clear s
  go_enter Try.func15, Try.ntmps15
  go_wp2_with fail
  go_loopw [6] (fun vk wr => ∃ k : Nat, k ≤ V ∧ vk = .int .i64 k ∧ Aside0 (SetAt wr base g h V n N (fCopied f dst fr k)) ∧ Aside0 (Keep (· = h) w wr)) (fun vk _ => V - (intOf vk).toNat)
  case atStart => exact ⟨0, by omega, rfl, HS0, HK0⟩
  case round =>
    clear HS0 HK0
    obtain ⟨k, hk, rfl, HS, HK⟩ := hrel
    obtain ⟨y0, y1, y2⟩ := HS.out.cells
    have hgl := HS.out.lt.1
    by_cases hgo : k < V
    · have d0 : decide ((k : Int) < V) = true := decide_eq_true (by omega)
      have hcon := has_calls HS.out (by omega) hgo hf
      obtain ⟨r, hr⟩ : ∃ r, r = fCopied f dst fr k k fr := ⟨_, rfl⟩
      rw [← hr] at hcon
      have HR := Aside0.mk hr
      clear hr
      go_wp2_with (first
        | (go_at_call 28; refine hcon.mono ?_; rintro e w2 ⟨rfl, q, rfl⟩; have HS2 := Aside0.mk (HS.out.move (w' := World.drewN _ q) rfl rfl); have HK2 := Aside0.mk (HK.out.drewN q); generalize World.drewN _ q = w2 at *)
        | (go_at_call 32; refine (put_calls HS2.out (by omega) hgo hd r).mono ?_; rintro e w3 ⟨rfl, hs3, hk3⟩; have HS3 := Aside0.mk hs3; have HK3 := Aside0.mk (HK2.out.trans hk3); clear hs3 hk3))
      go_roundw
      case rel =>
        refine ⟨k + 1, by omega, by go_num, ⟨HS3.out.congr fun v l hv hl => ?_⟩, HK3⟩
        rw [HR.out]
        unfold upd fCopied
        by_cases h1 : v = k ∧ l = dst
        · obtain ⟨rfl, rfl⟩ := h1
          simp
        · rw [if_neg h1]
          by_cases h2 : l = dst
          · have h3 : v ≠ k := fun e => h1 ⟨e, h2⟩
            have h4 : (v < k) = (v < k + 1) := propext ⟨fun h => by omega, fun h => by omega⟩
            simp only [h4]
          · simp [h2]
      case measure => simp [intOf]; omega
    · have d0 : decide ((k : Int) < V) = false := decide_eq_false (by omega)
      obtain rfl : k = V := by omega
      go_wp2_with fail
      go_end0
      exact ⟨rfl, HS.out, HK.out⟩
set_option maxHeartbeats 4000000 in
set_option maxRecDepth 100000 in
theorem rmoved_calls (s : SetAt w base g h V n N f) (hb : N ≤ 1000) (hV : V ≤ 1000) (hn : n ≤ 1000) (dst fr : Nat) (hd : dst < V) (hf : fr < V) :
    Calls Try.prog 19 #[.pointer (some ⟨g, 0, none⟩), .int .i64 dst, .int .i64 fr] w fun e w' => e = .returned (.tuple #[]) ∧ SetAt w' base g h V n N (fMoved f dst fr n) ∧ Keep (· = h) w w' := by
  have HS0 := Aside0.mk (s.congr (f' := fMoved f dst fr 0) (fun v l _ _ => by simp [fMoved]))
  have HK0 := Aside0.mk (Keep.refl (· = h) w)
  clear s
  go_enter Try.func19, Try.ntmps19
  go_wp2_with fail
  go_loopw [6] (fun vk wr => ∃ k : Nat, k ≤ n ∧ vk = .int .i64 k ∧ Aside0 (SetAt wr base g h V n N (fMoved f dst fr k)) ∧ Aside0 (Keep (· = h) w wr)) (fun vk _ => n - (intOf vk).toNat)
  case atStart => exact ⟨0, by omega, rfl, HS0, HK0⟩
  case round =>
    clear HS0 HK0
    obtain ⟨k, hk, rfl, HS, HK⟩ := hrel
    obtain ⟨y0, y1, y2⟩ := HS.out.cells
    have hgl := HS.out.lt.1
    by_cases hgo : k < n
    · have d0 : decide ((k : Int) < n) = true := decide_eq_true (by omega)
      have hcon := has_calls HS.out (by omega) hf hgo
      obtain ⟨r, hr⟩ : ∃ r, r = fMoved f dst fr k fr k := ⟨_, rfl⟩
      rw [← hr] at hcon
      have HR := Aside0.mk hr
      clear hr
      go_wp2_with (first
        | (go_at_call 28; refine hcon.mono ?_; rintro e w2 ⟨rfl, q, rfl⟩; have HS2 := Aside0.mk (HS.out.move (w' := World.drewN _ q) rfl rfl); have HK2 := Aside0.mk (HK.out.drewN q); generalize World.drewN _ q = w2 at *)
        | (go_at_call 32; refine (put_calls HS2.out (by omega) hd hgo r).mono ?_; rintro e w3 ⟨rfl, hs3, hk3⟩; have HS3 := Aside0.mk hs3; have HK3 := Aside0.mk (HK2.out.trans hk3); clear hs3 hk3))
      go_roundw
      case rel =>
        refine ⟨k + 1, by omega, by go_num, ⟨HS3.out.congr fun v l hv hl => ?_⟩, HK3⟩
        rw [HR.out]
        unfold upd fMoved
        by_cases h1 : v = dst ∧ l = k
        · obtain ⟨rfl, rfl⟩ := h1
          simp
        · rw [if_neg h1]
          by_cases h2 : v = dst
          · have h3 : l ≠ k := fun e => h1 ⟨h2, e⟩
            have h4 : (l < k) = (l < k + 1) := propext ⟨fun h => by omega, fun h => by omega⟩
            simp only [h4]
          · simp [h2]
      case measure => simp [intOf]; omega
    · have d0 : decide ((k : Int) < n) = false := decide_eq_false (by omega)
      obtain rfl : k = n := by omega
      go_wp2_with fail
      go_end0
      exact ⟨rfl, HS.out, HK.out⟩
set_option maxHeartbeats 4000000 in
set_option maxRecDepth 100000 in
theorem rgiven_calls (s : SetAt w base g h V n N f) (hb : N ≤ 1000) (hV : V ≤ 1000) (hn : n ≤ 1000) (a b : Nat) (ha : a < V) (hbn : b < n) :
    Calls Try.prog 21 #[.pointer (some ⟨g, 0, none⟩), .int .i64 a, .int .i64 b] w fun e w' => e = .returned (.tuple #[]) ∧ SetAt w' base g h V n N (upd (fCol (fRow f a n) b V) a b true) ∧ Keep (· = h) w w' := by
  have HS0 := Aside0.mk (s.congr (f' := fRow f a 0) (fun v l _ _ => by simp [fRow]))
  have HK0 := Aside0.mk (Keep.refl (· = h) w)
  clear s
  go_enter Try.func21, Try.ntmps21
  go_wp2_with fail
  go_loopw [6] (fun vk wr => ∃ k : Nat, k ≤ n ∧ vk = .int .i64 k ∧ Aside0 (SetAt wr base g h V n N (fRow f a k)) ∧ Aside0 (Keep (· = h) w wr)) (fun vk _ => n - (intOf vk).toNat)
  case atStart => exact ⟨0, by omega, rfl, HS0, HK0⟩
  case round =>
    clear HS0 HK0
    obtain ⟨k, hk, rfl, HS, HK⟩ := hrel
    obtain ⟨y0, y1, y2⟩ := HS.out.cells
    have hgl := HS.out.lt.1
    by_cases hgo : k < n
    · have d0 : decide ((k : Int) < n) = true := decide_eq_true (by omega)
      go_wp2_with (first
        | (go_at_call 32; refine (put_calls HS.out (by omega) ha hgo false).mono ?_; rintro e w3 ⟨rfl, hs3, hk3⟩; have HS3 := Aside0.mk hs3; have HK3 := Aside0.mk (HK.out.trans hk3); clear hs3 hk3))
      go_roundw
      case rel =>
        refine ⟨k + 1, by omega, by go_num, ⟨HS3.out.congr fun v l hv hl => ?_⟩, HK3⟩
        unfold upd fRow
        by_cases h1 : v = a ∧ l = k
        · obtain ⟨rfl, rfl⟩ := h1
          simp
        · rw [if_neg h1]
          by_cases h2 : v = a
          · have h3 : l ≠ k := fun e => h1 ⟨h2, e⟩
            have h4 : (l < k) = (l < k + 1) := propext ⟨fun h => by omega, fun h => by omega⟩
            simp only [h4]
          · simp [h2]
      case measure => simp [intOf]; omega
    · have d0 : decide ((k : Int) < n) = false := decide_eq_false (by omega)
      obtain rfl : k = n := by omega
      have HT0 := Aside0.mk (HS.out.congr (f' := fCol (fRow f a k) b 0) (fun v l _ _ => by simp [fCol]))
      have HK0 := Aside0.mk HK.out
      go_wp2_with fail
      clear HS HK y0 y1 y2 hgl d0 hgo
      go_loopw [7] (fun vj wr => ∃ j : Nat, j ≤ V ∧ vj = .int .i64 j ∧ Aside0 (SetAt wr base g h V k N (fCol (fRow f a k) b j)) ∧ Aside0 (Keep (· = h) w wr)) (fun vj _ => V - (intOf vj).toNat)
      case atStart => exact ⟨0, by omega, rfl, HT0, HK0⟩
      case round =>
        clear HT0 HK0
        obtain ⟨j, hj, rfl, HS, HK⟩ := hrel
        obtain ⟨y0, y1, y2⟩ := HS.out.cells
        have hgl := HS.out.lt.1
        by_cases hgo : j < V
        · have d0 : decide ((j : Int) < V) = true := decide_eq_true (by omega)
          go_wp2_with (first
            | (go_at_call 32; refine (put_calls HS.out (by omega) hgo hbn false).mono ?_; rintro e w3 ⟨rfl, hs3, hk3⟩; have HS3 := Aside0.mk hs3; have HK3 := Aside0.mk (HK.out.trans hk3); clear hs3 hk3))
          go_roundw
          case rel =>
            refine ⟨j + 1, by omega, by go_num, ⟨HS3.out.congr fun v l hv hl => ?_⟩, HK3⟩
            unfold upd fCol
            by_cases h1 : v = j ∧ l = b
            · obtain ⟨rfl, rfl⟩ := h1
              simp
            · rw [if_neg h1]
              by_cases h2 : l = b
              · have h3 : v ≠ j := fun e => h1 ⟨e, h2⟩
                have h4 : (v < j) = (v < j + 1) := propext ⟨fun h => by omega, fun h => by omega⟩
                simp only [h4]
              · simp [h2]
          case measure => simp [intOf]; omega
        · have d0 : decide ((j : Int) < V) = false := decide_eq_false (by omega)
          obtain rfl : j = V := by omega
          go_wp2_with (first
            | (go_at_call 32; refine (put_calls HS.out (by omega) ha hbn true).mono ?_; rintro e w3 ⟨rfl, hs3, hk3⟩; have HS3 := Aside0.mk hs3; have HK3 := Aside0.mk (HK.out.trans hk3); clear hs3 hk3))
          go_end0
          exact ⟨rfl, HS3.out, HK3.out⟩
end
end Go.Proofs.Ytmkkebllmmafmaa.Px
