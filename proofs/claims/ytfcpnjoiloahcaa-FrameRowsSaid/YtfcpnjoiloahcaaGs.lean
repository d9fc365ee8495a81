/- Frames, plainly: sums, bytes as a frame, a frame off bytes, frames one behind the other. -/
import Derived.Test.YtfcpnjoiloahcaaLt
import Derived.Test.YtfcpnjoiloahcaaS
namespace Go.Proofs.Ytfcpnjoiloahcaa.Gs
open Go Go.Proofs.Ytfcpnjoiloahcaa.B Go.Proofs.Ytfcpnjoiloahcaa.Ls Go.Proofs.Ytfcpnjoiloahcaa.Lt
set_option linter.unusedVariables false
set_option linter.unusedSimpArgs false
def crcBit (x : Int) : Int := if x % 2 = 1 then Go.bits .xor .u32 (x / 2) 3988292384 else x / 2
def crcBits : Nat → Int → Int
  | 0, x => x
  | n + 1, x => crcBits n (crcBit x)
def crcByte (x c : Int) : Int := crcBits 8 (Go.bits .xor .u32 x c)
def crcL (l : List Int) (x : Int) : Int := l.foldl crcByte x
def sumL (l : List Int) : Int := Go.bits .xor .u32 (crcL l 4294967295) 4294967295
def four (n : Int) : List Int := [n % 256, n / 256 % 256, n / 65536 % 256, n / 16777216]
def check (k : Int) (b : List Int) : List Int := four (sumL (k :: b))
def layL (k : Int) (b : List Int) : List Int := 111 :: k :: (putl b.length ++ (check k b ++ b))
theorem xor32_comm (x y : Int) : Go.bits .xor .u32 x y = Go.bits .xor .u32 y x := by
  unfold Go.bits
  simp only [BitVec.xor_comm]
theorem xor_range (x y : Int) : 0 ≤ Go.bits .xor .u32 x y ∧ Go.bits .xor .u32 x y < 4294967296 := by
  show 0 ≤ IntKind.u32.wrap _ ∧ IntKind.u32.wrap _ < 4294967296
  rw [IntKind.wrap_u32]
  omega
theorem xor32_0 (x : Int) (h0 : 0 ≤ x) (h1 : x < 4294967296) : Go.bits .xor .u32 x 0 = x := by
  show IntKind.u32.wrap ((BitVec.ofInt 32 x ^^^ BitVec.ofInt 32 0).toNat : Int) = x
  have e : BitVec.ofInt 32 0 = 0#32 := by decide
  rw [e, BitVec.xor_zero, BitVec.toNat_ofInt, IntKind.wrap_u32]
  omega
theorem xor32_m1 (x : Int) (h0 : 0 ≤ x) (h1 : x < 4294967296) : Go.bits .xor .u32 x 4294967295 = 4294967295 - x := by
  show IntKind.u32.wrap ((BitVec.ofInt 32 x ^^^ BitVec.ofInt 32 4294967295).toNat : Int) = _
  have e : BitVec.ofInt 32 4294967295 = BitVec.allOnes 32 := by decide
  rw [e, BitVec.xor_allOnes, BitVec.toNat_not, BitVec.toNat_ofInt, IntKind.wrap_u32]
  omega
theorem and32_1 (n : Int) (h0 : 0 ≤ n) (h1 : n < 4294967296) : Go.bits .and .u32 n 1 = n % 2 := by
  have := bits_mask .u32 32 (by decide) wraps_u32 1 (by decide) n h0 (by simpa using h1)
  simpa using this
theorem poly_and (x : Int) (h0 : 0 ≤ x) (h1 : x < 4294967296) : Go.bits .and .u32 3988292384 ((-(Go.bits .and .u32 x 1)) % 4294967296) = if x % 2 = 1 then 3988292384 else 0 := by
  rw [and32_1 x h0 h1]
  split
  · rename_i h
    rw [h]
    decide
  · rename_i h
    rw [show x % 2 = 0 by omega]
    decide
theorem crcBit_impl (x : Int) (h0 : 0 ≤ x) (h1 : x < 4294967296) : Go.bits .xor .u32 (x / 2) (if x % 2 = 1 then 3988292384 else 0) = crcBit x := by
  unfold crcBit
  split
  · rfl
  · exact xor32_0 _ (by omega) (by omega)
theorem crcBit_range (x : Int) (h0 : 0 ≤ x) (h1 : x < 4294967296) : 0 ≤ crcBit x ∧ crcBit x < 4294967296 := by
  unfold crcBit
  split
  · exact xor_range _ _
  · omega
theorem crcBits_range : ∀ (n : Nat) (x : Int), 0 ≤ x → x < 4294967296 → 0 ≤ crcBits n x ∧ crcBits n x < 4294967296
  | 0, _, h0, h1 => ⟨h0, h1⟩
  | n + 1, x, h0, h1 => crcBits_range n _ (crcBit_range x h0 h1).1 (crcBit_range x h0 h1).2
theorem crcByte_range (x c : Int) : 0 ≤ crcByte x c ∧ crcByte x c < 4294967296 := crcBits_range 8 _ (xor_range x c).1 (xor_range x c).2
theorem crcL_range : ∀ (l : List Int) (x : Int), 0 ≤ x → x < 4294967296 → 0 ≤ crcL l x ∧ crcL l x < 4294967296
  | [], _, h0, h1 => ⟨h0, h1⟩
  | c :: r, x, _, _ => crcL_range r (crcByte x c) (crcByte_range x c).1 (crcByte_range x c).2
theorem crcL_append (a b : List Int) (x : Int) : crcL (a ++ b) x = crcL b (crcL a x) := List.foldl_append
theorem crcL_take {l : List Int} {k : Nat} {c : Int} (x : Int) (h : l[k]? = some c) : crcL (l.take (k + 1)) x = crcByte (crcL (l.take k) x) c := by
  obtain ⟨hl, he⟩ := List.getElem?_eq_some_iff.1 h
  rw [List.take_succ_eq_append_getElem hl, he, crcL_append]
  rfl
theorem sumL_range (l : List Int) : 0 ≤ sumL l ∧ sumL l < 4294967296 := xor_range _ _
theorem four_by (n : Int) (h0 : 0 ≤ n) (h1 : n < 4294967296) : By (four n) := by
  intro x hx
  simp only [four, List.mem_cons, List.not_mem_nil, or_false] at hx
  omega
theorem check_by (k : Int) (b : List Int) : By (check k b) := four_by _ (sumL_range _).1 (sumL_range _).2
theorem check_len (k : Int) (b : List Int) : (check k b).length = 4 := rfl
theorem lay_by {k : Int} {b : List Int} (hk : 0 ≤ k ∧ k < 256) (hb : By b) : By (layL k b) := by
  intro x hx
  simp only [layL, List.mem_cons, List.mem_append] at hx
  rcases hx with rfl | rfl | hx | hx | hx
  · omega
  · exact hk
  · exact putl_by _ x hx
  · exact check_by _ _ x hx
  · exact hb x hx
theorem lay_len (k : Int) (b : List Int) : (layL k b).length = 6 + (putl b.length).length + b.length := by
  simp only [layL, List.length_cons, List.length_append, check_len]; omega
/-- A frame off bytes: its kind, its bytes, its length, the fault. -/
def takeL : List Int → Int × List Int × Int × Int
  | m :: k :: r =>
    if m ≠ 111 then (0, [], 0, 7) else
    if (num (r.take 10) 0).2.2 ≠ 0 then (0, [], 0, (num (r.take 10) 0).2.2) else
    if 65536 < (num (r.take 10) 0).1 then (0, [], 0, 4) else
    if (r.length : Int) < ((r.take 10).length - (num (r.take 10) 0).2.1.length : Nat) + 4 + (num (r.take 10) 0).1 then (0, [], 0, 3) else
    if check k ((r.drop ((r.take 10).length - (num (r.take 10) 0).2.1.length + 4)).take (num (r.take 10) 0).1.toNat) ≠ (r.drop ((r.take 10).length - (num (r.take 10) 0).2.1.length)).take 4 then (0, [], 0, 6) else
    (k, (r.drop ((r.take 10).length - (num (r.take 10) 0).2.1.length + 4)).take (num (r.take 10) 0).1.toNat, 2 + ((r.take 10).length - (num (r.take 10) 0).2.1.length : Nat) + 4 + (num (r.take 10) 0).1, 0)
  | _ => (0, [], 0, 3)
theorem numGo_any (l0 : List Int) : ∀ (l : List Int) (i : Nat) (n v : Int) (r : List Int), By l → numGo l0 l i n = (v, r, 0) → ∃ m : Nat, v = n + (m : Int) * 128 ^ i ∧ l = putl m ++ r ∧ (0 < i → 0 < m)
  | [], _, _, _, _, _, h => by simp [numGo] at h
  | x :: t, i, n, v, r, hl, h => by
    have hx := hl x List.mem_cons_self
    rw [numGo] at h
    split at h
    · simp at h
    · rename_i hb
      split at h
      · rename_i h128
        simp only [Prod.mk.injEq, and_true] at h
        obtain ⟨rfl, rfl⟩ := h
        refine ⟨x.toNat, ?_, ?_, fun hi => by omega⟩
        · rw [Int.toNat_of_nonneg hx.1]
        · rw [putl_lt (by omega), Int.toNat_of_nonneg hx.1]; rfl
      · rename_i h128
        obtain ⟨m, h1, h2, h3⟩ := numGo_any l0 t (i + 1) _ v r (fun y hy => hl y (List.mem_cons_of_mem _ hy)) h
        have hm := h3 (by omega)
        refine ⟨(x - 128).toNat + 128 * m, ?_, ?_, fun _ => by omega⟩
        · rw [h1, Int.pow_succ, show (((x - 128).toNat + 128 * m : Nat) : Int) = (x - 128) + 128 * (m : Int) by omega, Int.add_mul, Int.mul_comm 128 (m : Int), Int.mul_assoc, Int.mul_comm 128, Int.add_assoc]
        · rw [putl_ge (by omega), show ((x - 128).toNat + 128 * m) / 128 = m by omega, List.cons_append, ← h2]
          congr 1
          omega
theorem num_any (l : List Int) (v : Int) (r : List Int) (hl : By l) (h : num l 0 = (v, r, 0)) : l = putl v.toNat ++ r ∧ 0 ≤ v := by
  unfold num at h
  rw [if_pos rfl] at h
  obtain ⟨m, h1, h2, -⟩ := numGo_any l l 0 0 v r hl h
  rw [Int.pow_zero] at h1
  refine ⟨?_, by omega⟩
  rw [h2]
  congr 2
  omega
/-- A number that is cut short. -/
theorem numGo_cut (l0 : List Int) (m : Nat) : ∀ (i j : Nat) (n : Int), i ≤ 9 → (m : Int) * 128 ^ i < 18446744073709551616 → (i = 0 ∨ 0 < m) → j < (putl m).length → numGo l0 ((putl m).take j) i n = (0, l0, 3) := by
  induction m using Nat.strongRecOn with
  | ind m ih =>
    intro i j n hi hm h0 hj
    cases j with
    | zero => simp [numGo]
    | succ j =>
      by_cases hlt : m < 128
      · rw [putl_lt hlt] at hj
        simp at hj
      · rw [putl_ge hlt] at hj ⊢
        rw [List.length_cons] at hj
        rw [List.take_succ_cons, numGo]
        have hi9 : i ≠ 9 := fun h => by
          subst h
          rw [pow9] at hm
          omega
        rw [if_neg (by omega), if_neg (by omega)]
        refine ih (m / 128) (by omega) (i + 1) j _ (by omega) ?_ (.inr (by omega)) (by omega)
        have h1 := pow_pos i
        rw [Int.pow_succ, ← Int.mul_assoc, Int.mul_right_comm]
        refine Int.lt_of_le_of_lt (Int.mul_le_mul_of_nonneg_right ?_ (Int.le_of_lt h1)) hm
        omega
theorem num_cut (m j : Nat) (hm : m < 18446744073709551616) (hj : j < (putl m).length) : num ((putl m).take j) 0 = (0, (putl m).take j, 3) := by
  unfold num
  rw [if_pos rfl]
  exact numGo_cut _ m 0 j 0 (by omega) (by rw [Int.pow_zero]; omega) (.inl rfl) hj
theorem putl_three {n : Nat} (h : n ≤ 65536) : 0 < (putl n).length ∧ (putl n).length ≤ 3 := ⟨(putl_len n).1, (putl_len n).2 3 (by omega) (by omega)⟩
theorem take_lay {k : Int} {b rest : List Int} (hl : b.length ≤ 65536) : takeL (layL k b ++ rest) = (k, b, ((layL k b).length : Int), 0) := by
  obtain ⟨h1, h3⟩ := putl_three hl
  have e : layL k b ++ rest = 111 :: k :: (putl b.length ++ (check k b ++ (b ++ rest))) := by simp [layL]
  have e2 : (putl b.length ++ (check k b ++ (b ++ rest))).take 10 = putl b.length ++ (check k b ++ (b ++ rest)).take (10 - (putl b.length).length) := by
    rw [List.take_append, List.take_of_length_le (by omega)]
  rw [e]
  simp only [takeL, e2]
  rw [num_putl _ _ (by omega)]
  have e3 : (putl b.length ++ (check k b ++ (b ++ rest)).take (10 - (putl b.length).length)).length - ((check k b ++ (b ++ rest)).take (10 - (putl b.length).length)).length = (putl b.length).length := by
    rw [List.length_append]; omega
  simp only [e3]
  have e4 : ((putl b.length ++ (check k b ++ (b ++ rest))).drop ((putl b.length).length + 4)).take ((b.length : Int)).toNat = b := by
    rw [Int.toNat_natCast, List.drop_append, List.drop_of_length_le (by omega), List.nil_append, show (putl b.length).length + 4 - (putl b.length).length = 4 by omega]
    have h4 := check_len k b
    rw [← h4, List.drop_left, List.take_left]
  have e5 : ((putl b.length ++ (check k b ++ (b ++ rest))).drop (putl b.length).length).take 4 = check k b := by
    rw [List.drop_left]
    have h4 := check_len k b
    rw [← h4, List.take_left]
  rw [e4, e5, if_neg (by simp), if_neg (by simp), if_neg (by omega), if_neg (by simp only [List.length_append, check_len]; omega), if_neg (by simp)]
  rw [lay_len]
  congr 3
  omega
/-- What is taken was laid so. -/
theorem take_form {x : List Int} {k n : Int} {body : List Int} (hx : By x) (h : takeL x = (k, body, n, 0)) : x.take n.toNat = layL k body ∧ n = (layL k body).length ∧ body.length ≤ 65536 ∧ (0 ≤ k ∧ k < 256) ∧ By body ∧ n.toNat ≤ x.length := by
  match x, h with
  | [], h => simp [takeL] at h
  | [_], h => simp [takeL] at h
  | m :: k' :: r, h =>
    have hr : By r := fun y hy => hx y (by simp [hy])
    simp only [takeL] at h
    obtain ⟨v, left, c, hn⟩ : ∃ v left c, num (r.take 10) 0 = (v, left, c) := ⟨_, _, _, rfl⟩
    rw [hn] at h
    simp only at h
    split at h
    · simp at h
    rename_i h1
    split at h
    · rename_i hc; simp only [Prod.mk.injEq] at h; exact absurd h.2.2.2 hc
    rename_i h2
    split at h
    · simp at h
    rename_i h3
    split at h
    · simp at h
    rename_i h4
    split at h
    · simp at h
    rename_i h5
    have hc : c = 0 := by simpa using h2
    subst hc
    obtain ⟨hnum, hv0⟩ := num_any _ v left (hr.take 10) hn
    have hm : m = 111 := by simpa using h1
    subst hm
    have h5' := Classical.not_not.1 h5
    simp only [Prod.mk.injEq, and_true] at h
    obtain ⟨rfl, hbody, hsz⟩ := h
    have hul : (r.take 10).length - left.length = (putl v.toNat).length := by rw [hnum, List.length_append]; omega
    rw [hul] at h4 h5' hbody hsz
    obtain ⟨w, hw⟩ : ∃ w : Nat, v = w := ⟨v.toNat, by omega⟩
    subst hw
    rw [Int.toNat_natCast] at hul h4 h5' hbody hsz hnum
    have hrp : r = putl w ++ r.drop (putl w).length := by
      have h6 : r.take (putl w).length = putl w := by
        have h7 := congrArg (List.take (putl w).length) hnum
        rw [List.take_left, List.take_take, Nat.min_eq_left (by have := congrArg List.length hnum; rw [List.length_append, List.length_take] at this; omega)] at h7
        exact h7
      conv => lhs; rw [← List.take_append_drop (putl w).length r]
      rw [h6]
    have hbl : body.length = w := by
      rw [← hbody, List.length_take, List.length_drop]; omega
    rw [hbody] at h5'
    have hlay : 2 + (putl w).length + 4 + w = (layL k' body).length := by rw [lay_len, hbl]; omega
    refine ⟨?_, by omega, by omega, hx k' (by simp), by rw [← hbody]; exact (hr.drop _).take _, by simp only [List.length_cons]; omega⟩
    have hnn : n.toNat = (putl w).length + 4 + w + 2 := by omega
    rw [hnn, List.take_succ_cons, List.take_succ_cons, layL, hbl]
    congr 2
    conv => lhs; rw [hrp]
    rw [Nat.add_assoc, List.take_append, List.take_of_length_le (by omega), Nat.add_sub_cancel_left]
    congr 1
    rw [List.take_add, h5', List.drop_drop]
    congr 1
theorem take_cut {k : Int} {b : List Int} (hl : b.length ≤ 65536) {j : Nat} (hj : j < (layL k b).length) : (takeL ((layL k b).take j)).2.2.2 = 3 := by
  obtain ⟨h1, h3⟩ := putl_three hl
  rw [lay_len] at hj
  match j with
  | 0 => rfl
  | 1 => rfl
  | j + 2 =>
    rw [layL, List.take_succ_cons, List.take_succ_cons]
    simp only [takeL]
    rw [if_neg (by simp)]
    rcases Nat.lt_or_ge j (putl b.length).length with hlt | hge
    · have e : ((putl b.length ++ (check k b ++ b)).take j).take 10 = (putl b.length).take j := by
        rw [List.take_take, List.take_append_of_le_length (by omega)]
        congr 1
        omega
      rw [e, num_cut _ _ (by omega) hlt]
      rfl
    · have e : ((putl b.length ++ (check k b ++ b)).take j).take 10 = putl b.length ++ ((check k b ++ b).take (j - (putl b.length).length)).take (10 - (putl b.length).length) := by
        rw [List.take_append, List.take_of_length_le hge, List.take_append, List.take_of_length_le (by omega)]
      rw [e, num_putl _ _ (by omega), if_neg (by simp), if_neg (by simp only; omega), if_pos]
      simp only [List.length_append, List.length_take, check_len]
      omega
theorem xor_bit_all : (List.range 256).all (fun y => (List.range 8).all fun j => Go.bits .xor .u8 (y : Int) ((2 : Int) ^ j % 256) != (y : Int)) = true := by decide +kernel
theorem xor_bit (y : Int) (h0 : 0 ≤ y) (h1 : y < 256) (j : Nat) (hj : j < 8) : Go.bits .xor .u8 y ((2 : Int) ^ j % 256) ≠ y := by
  obtain ⟨n, rfl⟩ : ∃ n : Nat, y = n := ⟨y.toNat, by omega⟩
  have h := List.all_eq_true.1 xor_bit_all n (List.mem_range.2 (by omega))
  have h2 := List.all_eq_true.1 h j (List.mem_range.2 hj)
  simpa using h2
theorem xor8_range (x y : Int) : 0 ≤ Go.bits .xor .u8 x y ∧ Go.bits .xor .u8 x y < 256 := by
  show 0 ≤ IntKind.u8.wrap _ ∧ IntKind.u8.wrap _ < 256
  rw [IntKind.wrap_u8]
  omega
/-- With a byte turned it isn't taken as it was. -/
theorem take_turned {k : Int} {b : List Int} {i : Nat} {y z : Int} {n : Int} (hz : (layL k b)[i]? = some z) (hne : y ≠ z) (hby : By ((layL k b).set i y)) : takeL ((layL k b).set i y) ≠ (k, b, n, 0) := by
  intro h
  obtain ⟨h1, h2, -, -, -, -⟩ := take_form hby h
  have hl : ((layL k b).set i y).length = (layL k b).length := List.length_set
  rw [h2, Int.toNat_natCast, ← hl, List.take_length] at h1
  have h3 := congrArg (fun l => l[i]?) h1
  simp only [hz] at h3
  have hi := (List.getElem?_eq_some_iff.1 hz).1
  rw [List.getElem?_set_self hi] at h3
  exact hne (Option.some.inj h3)
theorem lay_prefix {k k' : Int} {b b' : List Int} (hl : b.length ≤ 65536) (hl' : b'.length ≤ 65536) (h : (layL k' b').take (layL k b).length = layL k b) : k = k' ∧ b = b' := by
  have e : layL k' b' = layL k b ++ (layL k' b').drop (layL k b).length := by
    conv => lhs; rw [← List.take_append_drop (layL k b).length (layL k' b'), h]
  have h1 := take_lay (k := k') (b := b') (rest := []) hl'
  rw [List.append_nil, e, take_lay hl] at h1
  simp only [Prod.mk.injEq] at h1
  exact ⟨h1.1, h1.2.1⟩
theorem lay_apart {k k' : Int} {b b' : List Int} {n : Nat} (hl : b.length ≤ 65536) (hl' : b'.length ≤ 65536) (hn : n = min (layL k b).length (layL k' b').length) (h : (layL k b).take n = (layL k' b').take n) : k = k' ∧ b = b' := by
  rcases Nat.le_total (layL k b).length (layL k' b').length with h1 | h1
  · rw [Nat.min_eq_left h1] at hn
    subst hn
    rw [List.take_length] at h
    exact lay_prefix hl hl' h.symm
  · rw [Nat.min_eq_right h1] at hn
    subst hn
    rw [List.take_length] at h
    obtain ⟨h2, h3⟩ := lay_prefix hl' hl h
    exact ⟨h2.symm, h3.symm⟩
/-- The frames with which bytes begin; how long they are. -/
inductive AllR : List Int → List (Int × List Int) → Nat → Prop
  | stop {b : List Int} : (takeL b).2.2.2 ≠ 0 → AllR b [] 0
  | step {b : List Int} {k : Int} {body : List Int} {n : Nat} {l : List (Int × List Int)} {m : Nat} : takeL b = (k, body, (n : Int), 0) → AllR (b.drop n) l m → AllR b ((k, body) :: l) (n + m)
theorem AllR.same {b : List Int} {l l' : List (Int × List Int)} {m m' : Nat} (h : AllR b l m) (h' : AllR b l' m') : l = l' ∧ m = m' := by
  induction h generalizing l' m' with
  | stop h =>
    cases h' with
    | stop _ => exact ⟨rfl, rfl⟩
    | step h2 _ => rw [h2] at h; exact absurd rfl h
  | step h _ ih =>
    cases h' with
    | stop h2 => rw [h] at h2; exact absurd rfl h2
    | step h2 h3 =>
      rw [h] at h2
      simp only [Prod.mk.injEq, and_true] at h2
      obtain ⟨rfl, rfl, h2⟩ := h2
      have h2 := Int.ofNat.inj h2
      subst h2
      obtain ⟨rfl, rfl⟩ := ih h3
      exact ⟨rfl, rfl⟩
def laysL (l : List (Int × List Int)) : List Int := (l.map fun p => layL p.1 p.2).flatten
theorem AllR.lays {b : List Int} {l : List (Int × List Int)} {m : Nat} (h : AllR b l m) (hb : By b) : laysL l = b.take m ∧ m ≤ b.length ∧ ∀ p ∈ l, (0 ≤ p.1 ∧ p.1 < 256) ∧ By p.2 ∧ p.2.length ≤ 65536 := by
  induction h with
  | stop _ => exact ⟨rfl, Nat.zero_le _, fun p hp => by cases hp⟩
  | step h h2 ih =>
    obtain ⟨h3, h4, h5, h6, h7, h8⟩ := take_form hb h
    rw [Int.toNat_natCast] at h3 h8
    obtain ⟨i1, i2, i3⟩ := ih (hb.drop _)
    rw [List.length_drop] at i2
    refine ⟨?_, by omega, fun p hp => ?_⟩
    · rw [laysL, List.map_cons, List.flatten_cons, ← h3, List.take_add]
      congr 1
    · rcases List.mem_cons.1 hp with rfl | hp
      · exact ⟨h6, h7, h5⟩
      · exact i3 p hp
theorem AllR.starts {rest : List Int} : ∀ {l : List (Int × List Int)} {got : List (Int × List Int)} {n : Nat}, (∀ p ∈ l, p.2.length ≤ 65536) → AllR (laysL l ++ rest) got n → l.length ≤ got.length
  | [], _, _, _, _ => Nat.zero_le _
  | p :: l, got, n, hl, h => by
    have e : laysL (p :: l) ++ rest = layL p.1 p.2 ++ (laysL l ++ rest) := by simp [laysL]
    rw [e] at h
    have ht := take_lay (k := p.1) (rest := laysL l ++ rest) (hl p (by simp))
    cases h with
    | stop h2 => rw [ht] at h2; exact absurd rfl h2
    | step h2 h3 =>
      rw [ht] at h2
      simp only [Prod.mk.injEq, and_true] at h2
      have h4 := Int.ofNat.inj h2.2.2
      rw [← h4, List.drop_left] at h3
      have := AllR.starts (fun q hq => hl q (by simp [hq])) h3
      simp only [List.length_cons]
      omega
end Go.Proofs.Ytfcpnjoiloahcaa.Gs
