/- Contracts and plain facts that the statements' proofs use (part 12). -/
import Derived.Test.YtnckonglodmfeaaN2
import Derived.Test.YtnckonglodmfeaaN3
import Derived.Test.YtnckonglodmfeaaN5
import Derived.Test.YtnckonglodmfeaaN8
import Derived.Test.YtnckonglodmfeaaN9
set_option linter.unusedVariables false
set_option linter.unusedSimpArgs false
namespace Go.Proofs.Ytnckonglodmfeaa.Ha
open B Ls Is Js Gs Ik
theorem by_tail {a r : List Int} (h : By (a ++ r)) : By r := fun x hx => h x (List.mem_append_right _ hx)
theorem field_nat {x : Int} (h0 : 0 ≤ x) (h1 : x < 18446744073709551616) : fieldL x = putl x.toNat := by
 unfold fieldL
 rw [wraps_u64 x h0 (by omega)]
theorem num_fwd {n : Int} (r : List Int) (h0 : 0 ≤ n) (h1 : n < 18446744073709551616) : num (putl n.toNat ++ r) 0 = (n, r, 0) := by
 rw [Lt.num_putl r n.toNat (by omega), Int.toNat_of_nonneg h0]
theorem num_back {s : St} {n : Int} {r : List Int} (hb : By s.1) (h : num s.1 s.2 = (n, r, 0)) : s = (putl n.toNat ++ r, 0) ∧ 0 ≤ n ∧ By r := by
 obtain ⟨l, c⟩ := s
 simp only at hb h
 by_cases hc : c = 0
 · subst hc
   obtain ⟨h1, h2⟩ := num_any l n r hb h
   exact ⟨by rw [h1], h2, by_tail (h1 ▸ hb)⟩
 · have e : num l c = (0, l, c) := if_neg hc
   rw [e] at h
   injection h with _ h
   injection h with _ h
   exact absurd h hc
theorem below_fwd {m x : Int} (r : List Int) (h0 : 0 ≤ x) (h1 : x < m) (hm : m ≤ 1000000) : sBelow m (fieldL x ++ r, 0) = (x, (r, 0)) := by
 unfold sBelow below
 rw [field_nat h0 (by omega), num_fwd r h0 (by omega)]
 simp only [if_true]
 rw [if_neg (by omega)]
theorem below_back {m : Int} {s : St} {x : Int} {r : List Int} (hm : m ≤ 1000000) (hb : By s.1) (h : sBelow m s = (x, (r, 0))) : s = (fieldL x ++ r, 0) ∧ (0 ≤ x ∧ x < m) ∧ By r := by
 unfold sBelow below at h
 split at h
 · rename_i h1
   split at h
   · injection h with _ h
     injection h with _ h
     exact absurd h (by decide)
   · rename_i h2
     obtain ⟨h3, h4, h5⟩ := num_back hb h
     have h6 : (num s.1 s.2).1 = x := by rw [h]
     rw [h6] at h2
     exact ⟨by rw [field_nat h4 (by omega)]; exact h3, ⟨h4, by omega⟩, h5⟩
 · rename_i h1
   injection h with _ h
   rw [h] at h1
   exact absurd rfl h1
theorem zig_zag {v : Int} (h0 : 0 ≤ v) : zig (zag v) = v := by
 unfold zig zag
 split <;> split <;> omega
theorem int_fwd {n : Int} (r : List Int) (h : I64 n) : sInt (putl (zig n).toNat ++ r, 0) = (n, (r, 0)) := by
 have hz := zig_range n h.1 h.2
 unfold sInt
 simp only
 rw [num_fwd r hz.1 hz.2]
 simp only
 rw [Lt.zag_zig n h.1 h.2]
theorem int_back {s : St} {n : Int} {r : List Int} (hb : By s.1) (h : sInt s = (n, (r, 0))) : s = (putl (zig n).toNat ++ r, 0) ∧ I64 n ∧ By r := by
 unfold sInt at h
 injection h with h1 h2
 obtain ⟨v, hv⟩ : ∃ v, (num s.1 s.2).1 = v := ⟨_, rfl⟩
 have h3 : num s.1 s.2 = (v, r, 0) := by rw [← hv, ← h2]
 obtain ⟨h4, h5, h6⟩ := num_back hb h3
 have h7 := num_range s.1 s.2 hb
 rw [hv] at h1 h7
 have h8 := zag_range v h7.1 h7.2
 subst h1
 exact ⟨by rw [zig_zag h5]; exact h4, h8, h6⟩
def rep {α : Type} (f : St → α × St) : Nat → St → List α × St
 | 0, s => ([], s)
 | n + 1, s => if (rep f n s).2.2 = 0 then ((rep f n s).1 ++ [(f (rep f n s).2).1], (f (rep f n s).2).2) else rep f n s
theorem snoc_ind {α : Type} {P : List α → Prop} (h0 : P []) (h1 : ∀ l x, P l → P (l ++ [x])) (l : List α) : P l := by
 have h : ∀ l : List α, P l.reverse := by
  intro l
  induction l with
  | nil => exact h0
  | cons x l ih => rw [List.reverse_cons]; exact h1 _ _ ih
 rw [← List.reverse_reverse l]
 exact h _
theorem rep_fwd {α : Type} {f : St → α × St} {enc : α → List Int} {ok : α → Prop} (hf : ∀ x r, ok x → f (enc x ++ r, 0) = (x, (r, 0))) (xs : List α) : ∀ r, (∀ x ∈ xs, ok x) → rep f xs.length ((xs.map enc).flatten ++ r, 0) = (xs, (r, 0)) := by
 refine snoc_ind (P := fun xs => ∀ r, (∀ x ∈ xs, ok x) → rep f xs.length ((xs.map enc).flatten ++ r, 0) = (xs, (r, 0))) (fun r _ => by simp [rep]) (fun l x ih r hx => ?_) xs
 have h1 := ih (enc x ++ r) (fun y hy => hx y (by simp [hy]))
 have e : ((l ++ [x]).map enc).flatten ++ r = (l.map enc).flatten ++ (enc x ++ r) := by simp
 rw [e, List.length_append, List.length_singleton, rep, h1]
 simp only [if_true]
 rw [hf x r (hx x (by simp))]
theorem rep_back {α : Type} {f : St → α × St} {enc : α → List Int} {Q : α → Prop} (hf : ∀ s x r, By s.1 → f s = (x, (r, 0)) → s = (enc x ++ r, 0) ∧ Q x ∧ By r) (hby : ∀ s, By s.1 → By (f s).2.1) (n : Nat) : ∀ s xs r, By s.1 → rep f n s = (xs, (r, 0)) → s = ((xs.map enc).flatten ++ r, 0) ∧ xs.length = n ∧ (∀ x ∈ xs, Q x) ∧ By r := by
 have hbr : ∀ n s, By s.1 → By (rep f n s).2.1 := by
  intro n
  induction n with
  | zero => intro s h; exact h
  | succ n ih =>
   intro s h
   rw [rep]
   split
   · exact hby _ (ih s h)
   · exact ih s h
 induction n with
 | zero =>
  intro s xs r hb h
  injection h with h1 h2
  subst h1
  exact ⟨by simpa using h2, rfl, fun x hx => absurd hx (by simp), by rw [h2] at hb; exact hb⟩
 | succ n ih =>
  intro s xs r hb h
  rw [rep] at h
  split at h
  · rename_i h0
    injection h with h1 h2
    obtain ⟨ys, sy, hy⟩ : ∃ ys sy, rep f n s = (ys, sy) := ⟨_, _, rfl⟩
    rw [hy] at h0 h1 h2
    obtain ⟨ry, cy⟩ := sy
    simp only at h0 h1 h2
    subst h0
    obtain ⟨g1, g2, g3, g4⟩ := ih s ys ry hb hy
    obtain ⟨x, hx⟩ : ∃ x, (f (ry, 0)).1 = x := ⟨_, rfl⟩
    have hfx : f (ry, 0) = (x, (r, 0)) := by rw [← hx, ← h2]
    obtain ⟨k1, k2, k3⟩ := hf (ry, 0) x r g4 hfx
    rw [hx] at h1
    subst h1
    injection k1 with k1 _
    refine ⟨by rw [g1, k1]; simp, by simp [g2], fun z hz => ?_, k3⟩
    rcases List.mem_append.1 hz with hz | hz
    · exact g3 z hz
    · rw [List.mem_singleton] at hz; rw [hz]; exact k2
  · rename_i h0
    rw [h] at h0
    exact absurd rfl h0
theorem inss_rep (n : Nat) (s : St) : sInss n s = rep sIns n s := by
 induction n with
 | zero => rfl
 | succ n ih => rw [sInss, rep, ih]
theorem blkN_rep (most : Int) (n : Nat) (s : St) : sBlkN most n s = rep (sBlk most) n s := by
 induction n with
 | zero => rfl
 | succ n ih => rw [sBlkN, rep, ih]
theorem prs_rep (n : Nat) (s : St) : sPrs n s = rep sPr n s := by
 induction n with
 | zero => rfl
 | succ n ih => rw [sPrs, rep, ih]
theorem crtN_rep (n : Nat) (s : St) : sCrtN n s = rep sPL n s := by
 induction n with
 | zero => rfl
 | succ n ih => rw [sCrtN, rep, ih]
theorem reps_rep (n : Nat) (s : St) : (sReps n s).2 = (rep (sBelow 4096) n s).2 ∧ ((rep (sBelow 4096) n s).2.2 = 0 → sReps n s = rep (sBelow 4096) n s) := by
 induction n with
 | zero => exact ⟨rfl, fun _ => rfl⟩
 | succ n ih =>
  rw [sReps, rep]
  split
  · rename_i h0
    have e := ih.2 h0
    rw [e]
    exact ⟨rfl, fun _ => rfl⟩
  · rename_i h0
    rw [ih.1]
    have := below_stuck 4096 (rep (sBelow 4096) n s).2 h0
    rw [this]
    exact ⟨rfl, fun h => absurd h h0⟩
theorem fields_map (l : List Int) : fieldsL l = (l.map fieldL).flatten := rfl
theorem reps_fwd (xs : List Int) (r : List Int) (h : ∀ x ∈ xs, 0 ≤ x ∧ x < 4096) : sReps xs.length (fieldsL xs ++ r, 0) = (xs, (r, 0)) := by
 have h1 := rep_fwd (f := sBelow 4096) (enc := fieldL) (ok := fun x => 0 ≤ x ∧ x < 4096) (fun x r hx => below_fwd r hx.1 hx.2 (by decide)) xs r h
 rw [fields_map]
 rw [(reps_rep xs.length _).2 (by rw [h1]), h1]
theorem reps_back {n : Nat} {s : St} {xs r : List Int} (hb : By s.1) (h : sReps n s = (xs, (r, 0))) : s = (fieldsL xs ++ r, 0) ∧ xs.length = n ∧ (∀ x ∈ xs, 0 ≤ x ∧ x < 4096) ∧ By r := by
 have h0 : (rep (sBelow 4096) n s).2.2 = 0 := by rw [← (reps_rep n s).1, h]
 rw [(reps_rep n s).2 h0] at h
 exact rep_back (f := sBelow 4096) (enc := fieldL) (Q := fun x => 0 ≤ x ∧ x < 4096) (fun s x r hb h => below_back (by decide) hb h) (fun s hs => sbelow_by hs) n s xs r hb h
theorem args_fwd (xs : List Int) (r : List Int) (hl : xs.length ≤ 3) (h : ∀ x ∈ xs, 0 ≤ x ∧ x < 4096) : sArgs (fieldL xs.length ++ (fieldsL xs ++ r), 0) = (xs, (r, 0)) := by
 unfold sArgs
 rw [below_fwd (m := 4) (x := (xs.length : Int)) (fieldsL xs ++ r) (by omega) (by omega) (by decide)]
 simp only [Int.toNat_natCast]
 exact reps_fwd xs r h
theorem args_back {s : St} {xs r : List Int} (hb : By s.1) (h : sArgs s = (xs, (r, 0))) : s = (fieldL xs.length ++ (fieldsL xs ++ r), 0) ∧ xs.length ≤ 3 ∧ (∀ x ∈ xs, 0 ≤ x ∧ x < 4096) ∧ By r := by
 unfold sArgs at h
 obtain ⟨m, sm, hm⟩ : ∃ m sm, sBelow 4 s = (m, sm) := ⟨_, _, rfl⟩
 rw [hm] at h
 simp only at h
 have hbm : By sm.1 := by have := sbelow_by (m := 4) hb; rw [hm] at this; exact this
 obtain ⟨h1, h2, h3, h4⟩ := reps_back hbm h
 rw [h1] at hm
 obtain ⟨g1, g2, g3⟩ := below_back (by decide) hb hm
 have : m = (xs.length : Int) := by omega
 rw [this] at g1 g2
 exact ⟨g1, by omega, h3, h4⟩
def OkI (i : Ins) : Prop := (1 ≤ i.1 ∧ i.1 ≤ 8) ∧ plainB i = true ∧ (0 ≤ i.2.1 ∧ i.2.1 < 256) ∧ (0 ≤ i.2.2.1 ∧ i.2.2.1 < 4096) ∧ (0 ≤ i.2.2.2.1 ∧ i.2.2.2.1 < 4096) ∧ (0 ≤ i.2.2.2.2.1 ∧ i.2.2.2.2.1 < 4096) ∧ I64 i.2.2.2.2.2.1 ∧ i.2.2.2.2.2.2.length ≤ 3 ∧ ∀ x ∈ i.2.2.2.2.2.2, 0 ≤ x ∧ x < 4096
theorem fields_cons (x : Int) (l r : List Int) : fieldsL (x :: l) ++ r = fieldL x ++ (fieldsL l ++ r) := by simp [fieldsL]
theorem fields_nil (r : List Int) : fieldsL [] ++ r = r := rfl
theorem ins_fwd (i : Ins) (r : List Int) (h : OkI i) : sIns (insL i ++ r, 0) = (i, (r, 0)) := by
 obtain ⟨k, op, d, a, b, n, args⟩ := i
 obtain ⟨hk, hp, ho, hd, ha, hb, hn, hl, hg⟩ := h
 have hp' := of_decide_eq_true hp
 simp only at hk ho hd ha hb hn hl hg
 have e0 : insL (k, op, d, a, b, n, args) ++ r = fieldL k ++ ((if k = 1 then fieldL d ++ putl (zig n).toNat else if k = 2 ∨ k = 4 ∨ k = 7 ∨ k = 8 then fieldsL [d, a] else if k = 3 then fieldsL [op, d, a, b] else if k = 5 then fieldsL [a, b] else if k = 6 then fieldL d ++ (putl (zig n).toNat ++ (fieldL args.length ++ fieldsL args)) else []) ++ r) := by
  simp only [insL, List.append_assoc]
 unfold sIns
 rw [e0, below_fwd _ (by omega) (show k < 256 by omega) (by decide)]
 simp only
 rw [if_pos hk]
 have fw : ∀ (x : Int) (r : List Int), 0 ≤ x ∧ x < 4096 → sBelow 4096 (fieldL x ++ r, 0) = (x, (r, 0)) := fun x r hx => below_fwd r hx.1 hx.2 (by decide)
 have fo : ∀ (x : Int) (r : List Int), 0 ≤ x ∧ x < 256 → sBelow 256 (fieldL x ++ r, 0) = (x, (r, 0)) := fun x r hx => below_fwd r hx.1 hx.2 (by decide)
 rcases (by omega : k = 1 ∨ (k = 2 ∨ k = 4 ∨ k = 7 ∨ k = 8) ∨ k = 3 ∨ k = 5 ∨ k = 6) with rfl | hk' | rfl | rfl | rfl
 · have z1 : op = 0 := by omega
   have z2 : a = 0 := by omega
   have z3 : b = 0 := by omega
   have z4 : args = [] := List.eq_nil_of_length_eq_zero (by omega)
   subst z1 z2 z3 z4
   simp [sBody, letters, sField, fw d _ hd, int_fwd _ hn]
 · have z1 : op = 0 := by omega
   have z3 : b = 0 := by omega
   have z5 : n = 0 := by omega
   have z4 : args = [] := List.eq_nil_of_length_eq_zero (by omega)
   subst z1 z3 z5 z4
   rw [if_neg (by omega), if_pos hk', fields_cons, fields_cons, fields_nil]
   have hlt : letters k = [68, 65] := by
    unfold letters
    rw [if_neg (by omega), if_neg (by omega), if_neg (by omega), if_neg (by omega)]
   simp [sBody, hlt, sField, fw d _ hd, fw a _ ha]
 · have z5 : n = 0 := by omega
   have z4 : args = [] := List.eq_nil_of_length_eq_zero (by omega)
   subst z5 z4
   rw [if_neg (by decide), if_neg (by decide), if_pos rfl, fields_cons, fields_cons, fields_cons, fields_cons, fields_nil]
   simp [sBody, letters, sField, fo op _ ho, fw d _ hd, fw a _ ha, fw b _ hb]
 · have z1 : op = 0 := by omega
   have z2 : d = 0 := by omega
   have z5 : n = 0 := by omega
   have z4 : args = [] := List.eq_nil_of_length_eq_zero (by omega)
   subst z1 z2 z5 z4
   rw [if_neg (by decide), if_neg (by decide), if_neg (by decide), if_pos rfl, fields_cons, fields_cons, fields_nil]
   simp [sBody, letters, sField, fw a _ ha, fw b _ hb]
 · have z1 : op = 0 := by omega
   have z2 : a = 0 := by omega
   have z3 : b = 0 := by omega
   subst z1 z2 z3
   rw [if_neg (by decide), if_neg (by decide), if_neg (by decide), if_neg (by decide), if_pos rfl]
   have ea := args_fwd args r hl hg
   simp [sBody, letters, sField, fw d _ hd, int_fwd _ hn, ea]
end Go.Proofs.Ytnckonglodmfeaa.Ha
namespace Go.Proofs.Ytnckonglodmfeaa.Ha
open B Ls Is Js Gs Ik
theorem by_below {m : Int} {s s1 : St} {x : Int} (hb : By s.1) (h : sBelow m s = (x, s1)) : By s1.1 := by have := sbelow_by (m := m) hb; rw [h] at this; exact this
theorem by_int {s s1 : St} {x : Int} (hb : By s.1) (h : sInt s = (x, s1)) : By s1.1 := by have := sint_by hb; rw [h] at this; exact this
theorem ins_back {s : St} {i : Ins} {r : List Int} (hb : By s.1) (h : sIns s = (i, (r, 0))) : s = (insL i ++ r, 0) ∧ OkI i ∧ By r := by
 unfold sIns at h
 obtain ⟨k, s1, e0⟩ : ∃ k s1, sBelow 256 s = (k, s1) := ⟨_, _, rfl⟩
 rw [e0] at h
 simp only at h
 have b1 := by_below hb e0
 split at h
 · rename_i hk
   rcases (by omega : k = 1 ∨ (k = 2 ∨ k = 4 ∨ k = 7 ∨ k = 8) ∨ k = 3 ∨ k = 5 ∨ k = 6) with rfl | hk' | rfl | rfl | rfl
   · obtain ⟨d, s2, e1⟩ : ∃ d s2, sBelow 4096 s1 = (d, s2) := ⟨_, _, rfl⟩
     obtain ⟨n, s3, e2⟩ : ∃ n s3, sInt s2 = (n, s3) := ⟨_, _, rfl⟩
     simp [sBody, letters, sField, e1, e2] at h
     obtain ⟨rfl, rfl⟩ := h
     obtain ⟨g2, g3, g4⟩ := int_back (by_below b1 e1) e2
     subst g2
     obtain ⟨k2, k3, k4⟩ := below_back (by decide) b1 e1
     subst k2
     obtain ⟨j2, j3, j4⟩ := below_back (by decide) hb e0
     refine ⟨by rw [j2]; simp [insL], ⟨(by constructor <;> simp), by simp [plainB], (by constructor <;> simp), k3, (by constructor <;> simp), (by constructor <;> simp), g3, by simp, by simp⟩, g4⟩
   · have hlt : letters k = [68, 65] := by
      unfold letters
      rw [if_neg (by omega), if_neg (by omega), if_neg (by omega), if_neg (by omega)]
     obtain ⟨d, s2, e1⟩ : ∃ d s2, sBelow 4096 s1 = (d, s2) := ⟨_, _, rfl⟩
     obtain ⟨a, s3, e2⟩ : ∃ n s3, sBelow 4096 s2 = (n, s3) := ⟨_, _, rfl⟩
     simp [sBody, hlt, sField, e1, e2] at h
     obtain ⟨rfl, rfl⟩ := h
     obtain ⟨g2, g3, g4⟩ := below_back (by decide) (by_below b1 e1) e2
     subst g2
     obtain ⟨k2, k3, k4⟩ := below_back (by decide) b1 e1
     subst k2
     obtain ⟨j2, j3, j4⟩ := below_back (by decide) hb e0
     refine ⟨?_, ⟨hk, ?_, (by constructor <;> simp), k3, g3, (by constructor <;> simp), (by constructor <;> simp), by simp, by simp⟩, g4⟩
     · rw [j2]
       simp only [insL]
       rw [if_neg (by omega), if_pos hk', List.append_assoc, fields_cons, fields_cons, fields_nil]
     · exact decide_eq_true ⟨.inl rfl, by omega, by omega, .inl rfl, .inl rfl, .inl rfl⟩
   · obtain ⟨op, s2, e1⟩ : ∃ d s2, sBelow 256 s1 = (d, s2) := ⟨_, _, rfl⟩
     obtain ⟨d, s3, e2⟩ : ∃ n s', sBelow 4096 s2 = (n, s') := ⟨_, _, rfl⟩
     obtain ⟨a, s4, e3⟩ : ∃ n s', sBelow 4096 s3 = (n, s') := ⟨_, _, rfl⟩
     obtain ⟨b, s5, e4⟩ : ∃ n s3, sBelow 4096 s4 = (n, s3) := ⟨_, _, rfl⟩
     simp [sBody, letters, sField, e1, e2, e3, e4] at h
     obtain ⟨rfl, rfl⟩ := h
     have b2 := by_below b1 e1
     have b3 := by_below b2 e2
     have b4 := by_below b3 e3
     obtain ⟨p2, p3, p4⟩ := below_back (by decide) b4 e4
     subst p2
     obtain ⟨q2, q3, q4⟩ := below_back (by decide) b3 e3
     subst q2
     obtain ⟨g2, g3, g4⟩ := below_back (by decide) b2 e2
     subst g2
     obtain ⟨k2, k3, k4⟩ := below_back (by decide) b1 e1
     subst k2
     obtain ⟨j2, j3, j4⟩ := below_back (by decide) hb e0
     refine ⟨by rw [j2]; simp [insL, fieldsL], ⟨(by constructor <;> simp), by simp [plainB], k3, g3, q3, p3, (by constructor <;> simp), by simp, by simp⟩, p4⟩
   · obtain ⟨a, s2, e1⟩ : ∃ d s2, sBelow 4096 s1 = (d, s2) := ⟨_, _, rfl⟩
     obtain ⟨b, s3, e2⟩ : ∃ n s3, sBelow 4096 s2 = (n, s3) := ⟨_, _, rfl⟩
     simp [sBody, letters, sField, e1, e2] at h
     obtain ⟨rfl, rfl⟩ := h
     obtain ⟨g2, g3, g4⟩ := below_back (by decide) (by_below b1 e1) e2
     subst g2
     obtain ⟨k2, k3, k4⟩ := below_back (by decide) b1 e1
     subst k2
     obtain ⟨j2, j3, j4⟩ := below_back (by decide) hb e0
     refine ⟨by rw [j2]; simp [insL, fieldsL], ⟨(by constructor <;> simp), by simp [plainB], (by constructor <;> simp), (by constructor <;> simp), k3, g3, (by constructor <;> simp), by simp, by simp⟩, g4⟩
   · obtain ⟨d, s2, e1⟩ : ∃ d s2, sBelow 4096 s1 = (d, s2) := ⟨_, _, rfl⟩
     obtain ⟨n, s3, e2⟩ : ∃ n s3, sInt s2 = (n, s3) := ⟨_, _, rfl⟩
     obtain ⟨args, s4, e3⟩ : ∃ n s3', sArgs s3 = (n, s3') := ⟨_, _, rfl⟩
     simp [sBody, letters, sField, e1, e2, e3] at h
     obtain ⟨rfl, rfl⟩ := h
     have b2 := by_below b1 e1
     obtain ⟨q2, q3, q5, q4⟩ := args_back (by_int b2 e2) e3
     subst q2
     obtain ⟨g2, g3, g4⟩ := int_back b2 e2
     subst g2
     obtain ⟨k2, k3, k4⟩ := below_back (by decide) b1 e1
     subst k2
     obtain ⟨j2, j3, j4⟩ := below_back (by decide) hb e0
     refine ⟨by rw [j2]; simp [insL], ⟨(by constructor <;> simp), by simp [plainB], (by constructor <;> simp), k3, (by constructor <;> simp), (by constructor <;> simp), g3, q3, q5⟩, q4⟩
 · injection h with _ h
   exact absurd (congrArg Prod.snd h) (fail_ne 20 (by decide) s1)
def OkE (e : IEnd) : Prop := (1 ≤ e.1 ∧ e.1 ≤ 3) ∧ (e.1 = 1 → e.2.1 = 0 ∧ e.2.2.2 = 0) ∧ (e.1 = 3 → e.2.2.1 = 0 ∧ e.2.2.2 = 0) ∧ (0 ≤ e.2.1 ∧ e.2.1 < 4096) ∧ (0 ≤ e.2.2.1 ∧ e.2.2.1 < 4096) ∧ (0 ≤ e.2.2.2 ∧ e.2.2.2 < 4096)
theorem end_fwd (e : IEnd) (r : List Int) (h : OkE e) : sEnd (endL e ++ r, 0) = (e, (r, 0)) := by
 obtain ⟨k, a, t, e⟩ := e
 obtain ⟨hk, h1, h3, ha, ht, he⟩ := h
 simp only at hk h1 h3 ha ht he
 have fw : ∀ (x : Int) (r : List Int), 0 ≤ x ∧ x < 4096 → sBelow 4096 (fieldL x ++ r, 0) = (x, (r, 0)) := fun x r hx => below_fwd r hx.1 hx.2 (by decide)
 have e0 : endL (k, a, t, e) ++ r = fieldL k ++ ((if k = 1 then fieldsL [t] else if k = 2 then fieldsL [a, t, e] else fieldsL [a]) ++ r) := by simp only [endL, List.append_assoc]
 unfold sEnd
 rw [e0, below_fwd _ (by omega) (show k < 256 by omega) (by decide)]
 simp only
 rcases (by omega : k = 1 ∨ k = 2 ∨ k = 3) with rfl | rfl | rfl
 · obtain ⟨rfl, rfl⟩ := h1 rfl
   rw [if_pos rfl, if_pos rfl, fields_cons, fields_nil, fw t _ ht]
 · rw [if_neg (by decide), if_pos rfl, if_neg (by decide), if_pos rfl, fields_cons, fields_cons, fields_cons, fields_nil, fw a _ ha]
   simp only
   rw [fw t _ ht]
   simp only
   rw [fw e _ he]
 · obtain ⟨rfl, rfl⟩ := h3 rfl
   rw [if_neg (by decide), if_neg (by decide), if_pos rfl, if_neg (by decide), if_neg (by decide), fields_cons, fields_nil, fw a _ ha]
theorem end_back {s : St} {e : IEnd} {r : List Int} (hb : By s.1) (h : sEnd s = (e, (r, 0))) : s = (endL e ++ r, 0) ∧ OkE e ∧ By r := by
 unfold sEnd at h
 obtain ⟨k, s1, e0⟩ : ∃ k s1, sBelow 256 s = (k, s1) := ⟨_, _, rfl⟩
 rw [e0] at h
 simp only at h
 have b1 := by_below hb e0
 split at h
 · rename_i hk
   subst hk
   obtain ⟨t, s2, e1⟩ : ∃ d s2, sBelow 4096 s1 = (d, s2) := ⟨_, _, rfl⟩
   simp [e1] at h
   obtain ⟨rfl, rfl⟩ := h
   obtain ⟨k2, k3, k4⟩ := below_back (by decide) b1 e1
   subst k2
   obtain ⟨j2, j3, j4⟩ := below_back (by decide) hb e0
   exact ⟨by rw [j2]; simp [endL, fieldsL], ⟨(by constructor <;> simp), fun _ => ⟨rfl, rfl⟩, fun e => by simp at e, (by constructor <;> simp), k3, (by constructor <;> simp)⟩, k4⟩
 · split at h
   · rename_i hk
     subst hk
     obtain ⟨a, s2, e1⟩ : ∃ d s2, sBelow 4096 s1 = (d, s2) := ⟨_, _, rfl⟩
     obtain ⟨t, s3, e2⟩ : ∃ n s3, sBelow 4096 s2 = (n, s3) := ⟨_, _, rfl⟩
     obtain ⟨e, s4, e3⟩ : ∃ n s3', sBelow 4096 s3 = (n, s3') := ⟨_, _, rfl⟩
     simp [e1, e2, e3] at h
     obtain ⟨rfl, rfl⟩ := h
     have b2 := by_below b1 e1
     have b3 := by_below b2 e2
     obtain ⟨q2, q3, q4⟩ := below_back (by decide) b3 e3
     subst q2
     obtain ⟨g2, g3, g4⟩ := below_back (by decide) b2 e2
     subst g2
     obtain ⟨k2, k3, k4⟩ := below_back (by decide) b1 e1
     subst k2
     obtain ⟨j2, j3, j4⟩ := below_back (by decide) hb e0
     exact ⟨by rw [j2]; simp [endL, fieldsL], ⟨(by constructor <;> simp), fun e => by simp at e, fun e => by simp at e, k3, g3, q3⟩, q4⟩
   · split at h
     · rename_i hk
       subst hk
       obtain ⟨a, s2, e1⟩ : ∃ d s2, sBelow 4096 s1 = (d, s2) := ⟨_, _, rfl⟩
       simp [e1] at h
       obtain ⟨rfl, rfl⟩ := h
       obtain ⟨k2, k3, k4⟩ := below_back (by decide) b1 e1
       subst k2
       obtain ⟨j2, j3, j4⟩ := below_back (by decide) hb e0
       exact ⟨by rw [j2]; simp [endL, fieldsL], ⟨(by constructor <;> simp), fun e => by simp at e, fun _ => ⟨rfl, rfl⟩, k3, (by constructor <;> simp), (by constructor <;> simp)⟩, k4⟩
     · injection h with _ h
       exact absurd (congrArg Prod.snd h) (fail_ne 20 (by decide) s1)
def OkBk (most : Int) (b : Blk) : Prop := ((b.1.length : Int) ≤ most) ∧ (∀ i ∈ b.1, OkI i) ∧ OkE b.2
theorem blk_fwd {most : Int} (hm : most ≤ 1000) (b : Blk) (r : List Int) (h : OkBk most b) : sBlk most (blkL b ++ r, 0) = (b, (r, 0)) := by
 obtain ⟨is, e⟩ := b
 obtain ⟨h1, h2, h3⟩ := h
 simp only at h1 h2 h3
 have e0 : blkL (is, e) ++ r = fieldL is.length ++ ((is.map insL).flatten ++ (endL e ++ r)) := by simp only [blkL, List.append_assoc]
 unfold sBlk
 rw [e0, below_fwd (m := most + 1) (x := (is.length : Int)) _ (by omega) (by omega) (by omega)]
 simp only [Int.toNat_natCast]
 rw [inss_rep, rep_fwd (f := sIns) (enc := insL) (ok := OkI) (fun x r hx => ins_fwd x r hx) is (endL e ++ r) h2]
 simp only
 rw [end_fwd e r h3]
theorem blk_back {most : Int} (hm : most ≤ 1000) {s : St} {b : Blk} {r : List Int} (hb : By s.1) (h : sBlk most s = (b, (r, 0))) : s = (blkL b ++ r, 0) ∧ OkBk most b ∧ By r := by
 unfold sBlk at h
 obtain ⟨m, s1, e0⟩ : ∃ k s1, sBelow (most + 1) s = (k, s1) := ⟨_, _, rfl⟩
 rw [e0] at h
 simp only at h
 have b1 := by_below hb e0
 obtain ⟨is, s2, e1⟩ : ∃ is s2, sInss m.toNat s1 = (is, s2) := ⟨_, _, rfl⟩
 rw [e1] at h
 simp only at h
 have b2 : By s2.1 := by have := inss_by m.toNat b1; rw [e1] at this; exact this
 obtain ⟨e, s3, e2⟩ : ∃ e s3, sEnd s2 = (e, s3) := ⟨_, _, rfl⟩
 rw [e2] at h
 simp only [Prod.mk.injEq] at h
 obtain ⟨rfl, rfl⟩ := h
 obtain ⟨g1, g2, g3⟩ := end_back b2 e2
 subst g1
 rw [inss_rep] at e1
 obtain ⟨k1, k2, k3, k4⟩ := rep_back (f := sIns) (enc := insL) (Q := OkI) (fun s x r hb h => ins_back hb h) (fun s hs => ins_by hs) m.toNat s1 is _ b1 e1
 subst k1
 obtain ⟨j1, j2, j3⟩ := below_back (by omega) hb e0
 have hmn : m = (is.length : Int) := by omega
 subst hmn
 exact ⟨by rw [j1]; simp [blkL], ⟨by simp only; omega, k3, g2⟩, g3⟩
theorem blks_fwd {most : Int} (hm : most ≤ 1000) (l : List Blk) (r : List Int) (hl : l.length ≤ 16) (h : ∀ b ∈ l, OkBk most b) : sBlks most (blksL l ++ r, 0) = (l, (r, 0)) := by
 unfold sBlks
 have e0 : blksL l ++ r = fieldL l.length ++ ((l.map blkL).flatten ++ r) := by simp only [blksL, List.append_assoc]
 rw [e0, below_fwd (m := 17) (x := (l.length : Int)) _ (by omega) (by omega) (by decide)]
 simp only [Int.toNat_natCast]
 rw [blkN_rep, rep_fwd (f := sBlk most) (enc := blkL) (ok := OkBk most) (fun x r hx => blk_fwd hm x r hx) l r h]
theorem blks_back {most : Int} (hm : most ≤ 1000) {s : St} {l : List Blk} {r : List Int} (hb : By s.1) (h : sBlks most s = (l, (r, 0))) : s = (blksL l ++ r, 0) ∧ l.length ≤ 16 ∧ (∀ b ∈ l, OkBk most b) ∧ By r := by
 unfold sBlks at h
 obtain ⟨m, s1, e0⟩ : ∃ k s1, sBelow 17 s = (k, s1) := ⟨_, _, rfl⟩
 rw [e0, blkN_rep] at h
 simp only at h
 have b1 := by_below hb e0
 obtain ⟨k1, k2, k3, k4⟩ := rep_back (f := sBlk most) (enc := blkL) (Q := OkBk most) (fun s x r hb h => blk_back hm hb h) (fun s hs => blk_by most hs) m.toNat s1 l r b1 h
 subst k1
 obtain ⟨j1, j2, j3⟩ := below_back (by decide) hb e0
 have hmn : m = (l.length : Int) := by omega
 subst hmn
 exact ⟨by rw [j1]; simp [blksL], by omega, k3, k4⟩
theorem ended_zero {l : List Int} {c : Int} (h : ended l c = 0) : l = [] ∧ c = 0 := by
 unfold ended failed at h
 split at h
 · split at h
   · omega
   · rename_i h1; exact absurd h h1
 · rename_i h1
   exact ⟨List.eq_nil_of_length_eq_zero (by omega), h⟩
theorem cod_back {l : List Int} {c : Cod} (hb : By l) (h : sCod l = (c, 0)) : l = codeL c := by
 unfold sCod at h
 obtain ⟨p, s1, e0⟩ : ∃ k s1, sBelow 4096 (l, 0) = (k, s1) := ⟨_, _, rfl⟩
 rw [e0] at h
 simp only at h
 have b1 := by_below (s := (l, 0)) hb e0
 obtain ⟨v, s2, e1⟩ : ∃ k s2, sBelow 4096 s1 = (k, s2) := ⟨_, _, rfl⟩
 rw [e1] at h
 simp only at h
 have b2 := by_below b1 e1
 obtain ⟨t, s3, e3⟩ : ∃ k s3, sBelow 4096 s2 = (k, s3) := ⟨_, _, rfl⟩
 rw [e3] at h
 simp only at h
 have b3 := by_below b2 e3
 obtain ⟨bs, s4, e2⟩ : ∃ k s4, sBlks 400 s3 = (k, s4) := ⟨_, _, rfl⟩
 rw [e2] at h
 simp only [Prod.mk.injEq] at h
 obtain ⟨rfl, h⟩ := h
 split at h
 · rename_i h0
   obtain ⟨h1, h2⟩ := ended_zero h0
   obtain ⟨r3, c3⟩ := s4
   simp only at h1 h2
   subst h1 h2
   obtain ⟨g1, g2, g3, g4⟩ := blks_back (by decide) b3 e2
   subst g1
   obtain ⟨q1, q2, q3⟩ := below_back (by decide) b2 e3
   subst q1
   obtain ⟨k1, k2, k3⟩ := below_back (by decide) b1 e1
   subst k1
   obtain ⟨j1, j2, j3⟩ := below_back (s := (l, 0)) (by decide) hb e0
   injection j1 with j1 _
   rw [j1]
   simp [codeL, fieldsL]
 · rename_i h0
   exact absurd h h0
theorem ok_ins {R S : Int} {i : Ins} (h : insErr R S i = 0) (hi : InsR i) (hR : R ≤ 4096) (hS : S ≤ 4096) : OkI i := by
 obtain ⟨k, op, d, a, b, n, args⟩ := i
 obtain ⟨g1, g2, g3, g4, g5, g6, g7⟩ := hi
 unfold insErr at h
 simp only at h
 obtain ⟨km, hkm, hk8⟩ : ∃ km, (if S < 0 then (6 : Int) else 8) = km ∧ km ≤ 8 := ⟨_, rfl, by split <;> decide⟩
 obtain ⟨ev, hev, hev0⟩ : ∃ ev, (if S < 0 then (21 : Int) else 23) = ev ∧ ev ≠ 0 := ⟨_, rfl, by split <;> decide⟩
 rw [hkm, hev] at h
 split at h
 · omega
 · rename_i c1
   split at h
   · omega
   · rename_i c2
     split at h
     · omega
     · rename_i c3
       split at h
       · omega
       · rename_i c4
         have hp : plainB (k, op, d, a, b, n, args) = true := by
          cases hq : plainB (k, op, d, a, b, n, args) with
          | true => rfl
          | false => exact absurd (.inr (.inr (.inl hq))) c1
         have hp' := of_decide_eq_true hp
         rw [Bool.not_eq_true, List.any_eq_false] at c3
         have hall : ∀ x ∈ allL (k, op, d, a, b, n, args), 0 ≤ x ∧ x < R := fun x hx => by
          have := c3 x hx
          unfold outB at this
          rw [decide_eq_true_iff] at this
          omega
         have hk : 1 ≤ k ∧ k ≤ 8 := by omega
         have hus : ∀ x, x ∈ usesL (k, op, d, a, b, n, args) → 0 ≤ x ∧ x < 4096 := fun x hx => by
          have := hall x (List.mem_append_left _ hx)
          omega
         have hd : 0 ≤ d ∧ d < 4096 := by
          by_cases hg : k = 5
          · omega
          · by_cases h7 : k = 7
            · omega
            · have := hall d (by unfold allL givesB; simp only; rw [if_pos (by rw [decide_eq_true_iff]; omega)]; simp)
              omega
         have ha : 0 ≤ a ∧ a < 4096 := by
          by_cases hg : k = 1 ∨ k = 6
          · omega
          · by_cases h8 : k = 8
            · omega
            · refine hus a ?_
              unfold usesL
              simp only
              by_cases h24 : k = 2 ∨ k = 4 ∨ k = 7
              · rw [if_pos h24]; simp
              · rw [if_neg h24, if_pos (by omega)]; simp
         have hb : 0 ≤ b ∧ b < 4096 := by
          by_cases hg : k = 3 ∨ k = 5
          · refine hus b ?_
            unfold usesL
            simp only
            rw [if_neg (by omega), if_pos hg]; simp
          · omega
         refine ⟨hk, hp, g2, hd, ha, hb, g6, by simp only; omega, fun x hx => ?_⟩
         by_cases hg : k = 6
         · refine hus x ?_
           unfold usesL
           simp only
           rw [if_neg (by omega), if_neg (by omega), if_pos hg]
           exact hx
         · exfalso
           have h0 : args.length = 0 := by omega
           have hx : x ∈ args := hx
           rw [List.length_eq_zero_iff.1 h0] at hx
           exact absurd hx (by simp)
theorem ok_end {R nb vr : Int} {e : IEnd} (h : endErr R nb vr e = 0) (hvr : vr ≠ 0) (hR : R ≤ 4096) (hnb : nb ≤ 4096) (hr : EndR e) : OkE e := by
 obtain ⟨k, a, t, e⟩ := e
 unfold endErr at h
 simp only at h
 split at h
 · omega
 · split at h
   · omega
   · split at h
     · omega
     · split at h
       · omega
       · by_cases h2 : k = 2
         · exact ⟨⟨by simp only; omega, by simp only; omega⟩, fun e => by simp only at e; omega, fun e => by simp only at e; omega, by simp only; omega, by simp only; omega, by simp only; omega⟩
         · by_cases h1 : k = 1
           · exact ⟨⟨by simp only; omega, by simp only; omega⟩, fun e => ⟨by simp only; omega, by simp only; omega⟩, fun e => by simp only at e; omega, by simp only; omega, by simp only; omega, by simp only; omega⟩
           · exact ⟨⟨by simp only; omega, by simp only; omega⟩, fun e => by simp only at e; omega, fun e => ⟨by simp only; omega, by simp only; omega⟩, by simp only; omega, by simp only; omega, by simp only; omega⟩
end Go.Proofs.Ytnckonglodmfeaa.Ha
namespace Go.Proofs.Ytnckonglodmfeaa.Ha
open B Ls Is Js Gs Ik
theorem first_all {l : List Int} (h : firstN l = 0) : ∀ x ∈ l, x = 0 := by
 induction l with
 | nil => intro x hx; cases hx
 | cons y l ih =>
  intro x hx
  rw [firstN] at h
  split at h
  · rename_i h0
    rcases List.mem_cons.1 hx with rfl | hx
    · exact h0
    · exact ih h x hx
  · rename_i h0; exact absurd h h0
theorem ok_blks {R S : Int} {m : Nat} {l : List Blk} (h : blocksErr R S m l = 0) (hl : l.length ≤ 16) (hm : m ≤ 1000) (hR : R ≤ 4096) (hS : S ≤ 4096) (hr : ∀ b ∈ l, BlkR b) : ∀ b ∈ l, OkBk (m : Int) b := by
 intro b hb
 have h1 := first_all h _ (List.mem_map.2 ⟨b, hb, rfl⟩)
 unfold blkErr at h1
 split at h1
 · omega
 · rename_i h2
   have h3 := first_all h1
   refine ⟨by omega, fun i hi => ok_ins (h3 _ (List.mem_append_left _ (List.mem_map.2 ⟨i, hi, rfl⟩))) ((hr b hb).1 i hi) hR hS, ?_⟩
   have h4 := h3 _ (List.mem_append_right _ (List.mem_singleton.2 rfl))
   exact ok_end h4 (by split <;> decide) hR (by omega) (hr b hb).2
theorem fun_fwd {f : Fun} (h : funcErr f = 0) (hr : ∀ b ∈ f.2.2, BlkR b) : sFun (funcL f) = (f, 0) := by
 obtain ⟨p, v, l⟩ := f
 have h0 := h
 unfold funcErr at h0
 simp only at h0
 split at h0
 · omega
 · rename_i h1
   have hok : ∀ b ∈ l, OkBk 32 b := ok_blks h0 (by omega) (by decide) (by omega) (by decide) hr
   have e0 : funcL (p, v, l) = fieldL p ++ (fieldL v ++ (blksL l ++ [])) := by simp [funcL, fieldsL]
   unfold sFun
   rw [e0, below_fwd (m := 4096) (x := p) _ (by omega) (by omega) (by decide)]
   simp only
   rw [below_fwd (m := 4096) (x := v) _ (by omega) (by omega) (by decide)]
   simp only
   rw [blks_fwd (by decide) l [] (by omega) hok]
   simp [ended, h]
theorem cod_fwd {c : Cod} (h : codeErr c = 0) (hr : ∀ b ∈ c.2.2.2, BlkR b) : sCod (codeL c) = (c, 0) := by
 obtain ⟨p, v, s, l⟩ := c
 have h0 := h
 unfold codeErr at h0
 simp only at h0
 split at h0
 · omega
 · rename_i h1
   have hok : ∀ b ∈ l, OkBk 400 b := ok_blks h0 (by omega) (by decide) (by omega) (by omega) hr
   have e0 : codeL (p, v, s, l) = fieldL p ++ (fieldL v ++ (fieldL s ++ (blksL l ++ []))) := by simp [codeL, fieldsL]
   unfold sCod
   rw [e0, below_fwd (m := 4096) (x := p) _ (by omega) (by omega) (by decide)]
   simp only
   rw [below_fwd (m := 4096) (x := v) _ (by omega) (by omega) (by decide)]
   simp only
   rw [below_fwd (m := 4096) (x := s) _ (by omega) (by omega) (by decide)]
   simp only
   rw [blks_fwd (by decide) l [] (by omega) hok]
   simp [ended, h]
def OkP (p : Pr) : Prop := (0 ≤ p.1 ∧ p.1 < 4096) ∧ (0 ≤ p.2 ∧ p.2 < 4096)
theorem pr_fwd (p : Pr) (r : List Int) (h : OkP p) : sPr (prL p ++ r, 0) = (p, (r, 0)) := by
 obtain ⟨v, l⟩ := p
 obtain ⟨h1, h2⟩ := h
 unfold sPr prL
 rw [fields_cons, fields_cons, fields_nil, below_fwd _ h1.1 h1.2 (by decide)]
 simp only
 rw [below_fwd _ h2.1 h2.2 (by decide)]
theorem pr_back {s : St} {p : Pr} {r : List Int} (hb : By s.1) (h : sPr s = (p, (r, 0))) : s = (prL p ++ r, 0) ∧ OkP p ∧ By r := by
 unfold sPr at h
 obtain ⟨v, s1, e1⟩ : ∃ k s1, sBelow 4096 s = (k, s1) := ⟨_, _, rfl⟩
 rw [e1] at h
 simp only at h
 obtain ⟨l, s2, e2⟩ : ∃ k s2, sBelow 4096 s1 = (k, s2) := ⟨_, _, rfl⟩
 rw [e2] at h
 simp only [Prod.mk.injEq] at h
 obtain ⟨rfl, rfl⟩ := h
 obtain ⟨g1, g2, g3⟩ := below_back (by decide) (by_below hb e1) e2
 subst g1
 obtain ⟨k1, k2, k3⟩ := below_back (by decide) hb e1
 exact ⟨by rw [k1]; simp [prL, fieldsL], ⟨k2, g2⟩, g3⟩
def OkPs (ps : List Pr) : Prop := ps.length < 65536 ∧ ∀ p ∈ ps, OkP p
theorem pl_fwd (ps : List Pr) (r : List Int) (h : OkPs ps) : sPL (prsL ps ++ r, 0) = (ps, (r, 0)) := by
 unfold sPL
 have e0 : prsL ps ++ r = fieldL ps.length ++ ((ps.map prL).flatten ++ r) := by simp only [prsL, List.append_assoc]
 have h1 := h.1
 rw [e0, below_fwd (m := 65536) (x := (ps.length : Int)) _ (by omega) (by omega) (by decide)]
 simp only [Int.toNat_natCast]
 rw [prs_rep, rep_fwd (f := sPr) (enc := prL) (ok := OkP) (fun x r hx => pr_fwd x r hx) ps r h.2]
theorem pl_by {s : St} (h : By s.1) : By (sPL s).2.1 := by
 unfold sPL
 have hb := sbelow_by (m := 65536) h
 generalize (sBelow 65536 s).1.toNat = n
 induction n with
 | zero => exact hb
 | succ n ih =>
  rw [sPrs]
  split
  · exact pr_by ih
  · exact ih
theorem pl_back {s : St} {ps : List Pr} {r : List Int} (hb : By s.1) (h : sPL s = (ps, (r, 0))) : s = (prsL ps ++ r, 0) ∧ OkPs ps ∧ By r := by
 unfold sPL at h
 obtain ⟨m, s1, e0⟩ : ∃ k s1, sBelow 65536 s = (k, s1) := ⟨_, _, rfl⟩
 rw [e0, prs_rep] at h
 simp only at h
 have b1 := by_below hb e0
 obtain ⟨k1, k2, k3, k4⟩ := rep_back (f := sPr) (enc := prL) (Q := OkP) (fun s x r hb h => pr_back hb h) (fun s hs => pr_by hs) m.toNat s1 ps r b1 h
 subst k1
 obtain ⟨j1, j2, j3⟩ := below_back (by decide) hb e0
 have hmn : m = (ps.length : Int) := by omega
 subst hmn
 exact ⟨by rw [j1]; simp [prsL], ⟨by omega, k3⟩, k4⟩
theorem cert_fwd {l : Crt} (h : certErr l = 0) (hl : ∀ ps ∈ l, ps.length < 65536) : sCert (certL l) = (l, 0) := by
 unfold certErr at h
 split at h
 · omega
 · rename_i h16
   split at h
   · rename_i hall
     have hok : ∀ ps ∈ l, OkPs ps := fun ps hp => ⟨hl ps hp, fun p hpp => by
      have h1 := List.all_eq_true.1 (List.all_eq_true.1 hall ps hp) p hpp
      unfold prOk at h1
      rw [decide_eq_true_iff] at h1
      exact ⟨⟨h1.1, h1.2.1⟩, h1.2.2⟩⟩
     unfold sCert
     have e0 : certL l = fieldL l.length ++ ((l.map prsL).flatten ++ []) := by simp only [certL, List.append_nil]
     rw [e0, below_fwd (m := 17) (x := (l.length : Int)) _ (by omega) (by omega) (by decide)]
     simp only [Int.toNat_natCast]
     rw [crtN_rep, rep_fwd (f := sPL) (enc := prsL) (ok := OkPs) (fun x r hx => pl_fwd x r hx) l [] hok]
     rfl
   · omega
theorem cert_back {l : List Int} {c : Crt} (hb : By l) (h : sCert l = (c, 0)) : l = certL c := by
 unfold sCert at h
 obtain ⟨m, s1, e0⟩ : ∃ k s1, sBelow 17 (l, 0) = (k, s1) := ⟨_, _, rfl⟩
 rw [e0] at h
 simp only [Prod.mk.injEq] at h
 have b1 := by_below (s := (l, 0)) hb e0
 obtain ⟨cs, s2, e1⟩ : ∃ cs s2, sCrtN m.toNat s1 = (cs, s2) := ⟨_, _, rfl⟩
 rw [e1] at h
 obtain ⟨h1, h2⟩ := h
 simp only at h1 h2
 subst h1
 obtain ⟨r2, c2⟩ := s2
 obtain ⟨z1, z2⟩ := ended_zero h2
 simp only at z1 z2
 subst z1 z2
 rw [crtN_rep] at e1
 obtain ⟨k1, k2, k3, k4⟩ := rep_back (f := sPL) (enc := prsL) (Q := OkPs) (fun s x r hb h => pl_back hb h) (fun s hs => pl_by hs) m.toNat s1 cs [] b1 e1
 subst k1
 obtain ⟨j1, j2, j3⟩ := below_back (s := (l, 0)) (by decide) hb e0
 have hmn : m = (cs.length : Int) := by omega
 subst hmn
 injection j1 with j1 _
 rw [j1]
 simp [certL]
theorem open_lay {k : Int} {b : List Int} (hl : b.length ≤ 65536) : openL k (layL k b) = (b, 0) := by
 have h := take_lay (k := k) (b := b) (rest := []) hl
 rw [List.append_nil] at h
 unfold openL
 rw [h]
 simp
theorem open_more {k : Int} {b r : List Int} (hl : b.length ≤ 65536) (hr : 0 < r.length) : openL k (layL k b ++ r) = ([], 5) := by
 have h := take_lay (k := k) (b := b) (rest := r) hl
 unfold openL
 rw [h]
 simp only
 rw [if_neg (by simp), if_pos (by rw [List.length_append]; omega)]
theorem open_other {k k' : Int} {b : List Int} (hl : b.length ≤ 65536) (hk : k ≠ k') : openL k' (layL k b) = ([], 20) := by
 have h := take_lay (k := k) (b := b) (rest := []) hl
 rw [List.append_nil] at h
 unfold openL
 rw [h]
 simp [hk]
theorem open_cut {k : Int} {b : List Int} (hl : b.length ≤ 65536) {j : Nat} (hj : j < (layL k b).length) : (openL k ((layL k b).take j)).2 = 3 := by
 unfold openL
 rw [take_cut hl hj]
 simp
theorem open_back {k : Int} {b body : List Int} (hb : By b) (h : openL k b = (body, 0)) : b = layL k body ∧ By body := by
 unfold openL at h
 split at h
 · rename_i h1
   injection h with _ h
   exact absurd h h1
 · rename_i h1
   split at h
   · injection h with _ h; exact absurd h (by decide)
   · rename_i h2
     split at h
     · injection h with _ h; exact absurd h (by decide)
     · rename_i h3
       injection h with h _
       obtain ⟨k', b', n, e, ht⟩ : ∃ k' b' n e, takeL b = (k', b', n, e) := ⟨_, _, _, _, rfl⟩
       rw [ht] at h h1 h2 h3
       simp only [ne_eq, Decidable.not_not] at h h1 h2 h3
       subst h h1 h3
       obtain ⟨g1, g2, g3, g4, g5, g6⟩ := take_form hb ht
       rw [h2, Int.toNat_natCast, List.take_length] at g1
       exact ⟨g1, g5⟩
theorem ask_fwd {a : Int × Int × Int × Fun} (h : askErr a = 0) (hn : 0 ≤ a.2.1 ∧ a.2.1 < 18446744073709551616) (hr : ∀ b ∈ a.2.2.2.2.2, BlkR b) (hl : (askB a).length ≤ 65536) : readAsk (askL a) = (a, 0) := by
 obtain ⟨j, n, r, f⟩ := a
 unfold askErr at h
 simp only at h hn hr
 split at h
 · omega
 · rename_i h1
   split at h
   · omega
   · rename_i h2
     have hf : funcErr f = 0 := by
      by_cases h0 : funcErr f = 0
      · exact h0
      · exact absurd h0 h1
     have e0 : sHead (askB (j, n, r, f), 0) = ((j, n, r), (funcL f, 0)) := by
      unfold sHead askB
      rw [below_fwd (m := 16) (x := j) _ (by omega) (by omega) (by decide)]
      simp only
      rw [num_fwd _ hn.1 hn.2]
      simp only
      rw [below_fwd (m := 9) (x := r) _ (by omega) (by omega) (by decide)]
     unfold readAsk askL
     rw [open_lay hl, e0]
     simp only [ne_eq, not_true_eq_false, if_false]
     rw [fun_fwd hf hr]
     simp
theorem ask_cut {a : Int × Int × Int × Fun} (hl : (askB a).length ≤ 65536) {j : Nat} (hj : j < (askL a).length) : (readAsk ((askL a).take j)).2 = 3 := by
 have h := open_cut (k := 2) hl hj
 unfold readAsk
 have h' : (openL 2 ((askL a).take j)).2 = 3 := h
 rw [h']
 simp
theorem takes_fwd (a r : List Int) : Ls.takes (a.length : Int) (a ++ r) 0 = (a, r, 0) := by
 unfold Ls.takes
 rw [if_pos rfl, if_neg (by rw [List.length_append]; omega), Int.toNat_natCast, List.take_left, List.drop_left]
theorem takes_back {q : Int} {s : St} {a r : List Int} (h : Ls.takes q s.1 s.2 = (a, (r, 0))) : s = (a ++ r, 0) ∧ q = a.length := by
 obtain ⟨l, c⟩ := s
 unfold Ls.takes at h
 simp only at h
 split at h
 · rename_i hc
   split at h
   · injection h with _ h; injection h with _ h; exact absurd h (by decide)
   · rename_i h1
     simp only [Prod.mk.injEq, and_true] at h
     obtain ⟨rfl, rfl⟩ := h
     refine ⟨by rw [List.take_append_drop, hc], by rw [List.length_take]; omega⟩
 · rename_i hc
   injection h with _ h; injection h with _ h; exact absurd h hc
theorem tell_fwd {j n : Int} {c : Cod} {ct : Crt} (h : tellErr (j, n, c, ct) = 0) (hn : 0 ≤ n ∧ n < 18446744073709551616) (hr : ∀ b ∈ c.2.2.2, BlkR b) (hc : ∀ ps ∈ ct, ps.length < 65536) : readTell (tellL (j, n, c, ct)) = ((j, n, c, ct), 0) := by
 have h0 : codeErr c = 0 := by
  by_cases h1 : codeErr c = 0
  · exact h1
  · rw [tell_e1 h1] at h; exact absurd h (by decide)
 have h2 : certErr ct = 0 := by
  by_cases h1 : certErr ct = 0
  · exact h1
  · rw [tell_e2 h0 h1] at h; exact absurd h h1
 have h3 : ¬ (j < 0 ∨ 16 ≤ j) := fun h1 => by rw [tell_e3 h0 h2 h1] at h; exact absurd h (by decide)
 have h4 : ¬ 65536 < (tellB (j, n, c, ct)).length := fun h1 => by rw [tell_e4 h0 h2 h3 h1] at h; exact absurd h (by decide)
 have hcl : (codeL c).length ≤ 65536 := by
  have : (codeL c).length ≤ (tellB (j, n, c, ct)).length := by simp only [tellB, List.length_append]; omega
  omega
 have g1 : sBelow 16 (tellB (j, n, c, ct), 0) = (j, (putl n.toNat ++ (fieldL (codeL c).length ++ (codeL c ++ certL ct)), 0)) := below_fwd _ (by omega) (by omega) (by decide)
 have g2 : num (putl n.toNat ++ (fieldL (codeL c).length ++ (codeL c ++ certL ct))) 0 = (n, (fieldL (codeL c).length ++ (codeL c ++ certL ct), 0)) := num_fwd _ hn.1 hn.2
 have g3 : sBelow 65537 (fieldL (codeL c).length ++ (codeL c ++ certL ct), 0) = (((codeL c).length : Int), (codeL c ++ certL ct, 0)) := below_fwd _ (by omega) (by omega) (by decide)
 have ho : openL 3 (tellL (j, n, c, ct)) = (tellB (j, n, c, ct), 0) := open_lay (by omega)
 rw [readTell_eq ho g1 g2 g3 (takes_fwd (codeL c) (certL ct)) (cod_fwd h0 hr) (cert_fwd h2 hc)]
 simp
theorem tell_back {b : List Int} {t : Tel} (hb : By b) (h : readTell b = (t, 0)) : b = tellL t := by
 obtain ⟨body, oe, ho⟩ : ∃ body oe, openL 3 b = (body, oe) := ⟨_, _, rfl⟩
 obtain ⟨j, s1, e1⟩ : ∃ j s1, sBelow 16 (body, 0) = (j, s1) := ⟨_, _, rfl⟩
 obtain ⟨n, s2, e2⟩ : ∃ n s2, num s1.1 s1.2 = (n, s2) := ⟨_, _, rfl⟩
 obtain ⟨q, s3, e3⟩ : ∃ q s3, sBelow 65537 s2 = (q, s3) := ⟨_, _, rfl⟩
 obtain ⟨cb, s4, e4⟩ : ∃ cb s4, Ls.takes q s3.1 s3.2 = (cb, s4) := ⟨_, _, rfl⟩
 obtain ⟨cx, ce, e5⟩ : ∃ cx ce, sCod cb = (cx, ce) := ⟨_, _, rfl⟩
 obtain ⟨lx, le, e6⟩ : ∃ lx le, sCert s4.1 = (lx, le) := ⟨_, _, rfl⟩
 rw [readTell_eq ho e1 e2 e3 e4 e5 e6] at h
 split at h
 · rename_i hx; injection h with _ h; exact absurd h hx
 · rename_i hoe
   split at h
   · rename_i hx; injection h with _ h; exact absurd h hx
   · rename_i h4
     split at h
     · rename_i hx; injection h with _ h; exact absurd h hx
     · rename_i h5
       split at h
       · rename_i hx; injection h with _ h; exact absurd h hx
       · rename_i h6
         simp only [ne_eq, Decidable.not_not] at hoe h4 h5 h6
         injection h with h _
         subst h hoe h5 h6
         obtain ⟨r4, c4⟩ := s4
         simp only at h4 e6
         subst h4
         obtain ⟨o1, o2⟩ := open_back hb ho
         have b1 := by_below (s := (body, 0)) o2 e1
         have b2 : By s2.1 := by have := num_by s1.1 s1.2 b1; rw [e2] at this; exact this
         have b3 := by_below b2 e3
         obtain ⟨t1, t2⟩ := takes_back e4
         subst t1
         have bcb : By cb := fun x hx => b3 x (List.mem_append_left _ hx)
         have br4 : By r4 := fun x hx => b3 x (List.mem_append_right _ hx)
         obtain ⟨k1, k2, k3⟩ := below_back (by decide) b2 e3
         subst k1
         obtain ⟨n1, n2, n3⟩ := num_back b1 e2
         subst n1
         obtain ⟨j1, j2, j3⟩ := below_back (s := (body, 0)) (by decide) o2 e1
         injection j1 with j1 _
         have c1 := cod_back bcb e5
         have c2 := cert_back br4 e6
         rw [o1, j1, t2, c2, c1]
         rfl
theorem tell_turned {t : Tel} {i : Nat} {y z : Int} (hz : (tellL t)[i]? = some z) (hne : y ≠ z) (hby : By ((tellL t).set i y)) : readTell ((tellL t).set i y) ≠ (t, 0) := fun h => by
 have h1 := tell_back hby h
 have h2 : ((tellL t).set i y)[i]? = (tellL t)[i]? := by rw [h1]
 rw [List.getElem?_set, if_pos rfl, if_pos (List.getElem?_eq_some_iff.1 hz).1, hz] at h2
 injection h2 with h2
 exact hne h2
theorem tell_more {t : Tel} {r : List Int} (hl : (tellB t).length ≤ 65536) (hr : 0 < r.length) : readTell (tellL t ++ r) = (zeroTell, 5) := by
 unfold readTell tellL
 rw [open_more hl hr]
 simp
theorem tell_asked {t : Tel} (hl : (tellB t).length ≤ 65536) : readAsk (tellL t) = (zeroAsk, 20) := by
 unfold readAsk tellL
 rw [open_other hl (by decide)]
 simp
end Go.Proofs.Ytnckonglodmfeaa.Ha
namespace Go.Proofs.Ytnckonglodmfeaa.Ik
open Ls Go.RowKit Go.Proofs.YtnckonglodmfeaaW.PrintWords Go.Proofs.YtnckonglodmfeaaW.PrintLast Go.Proofs.YtnckonglodmfeaaW.PrintMore B R S Is Js Gs Gc
def SameRet (P : Prop) (w : World) (r : Ending) (w' : World) : Prop := (∃ bo, r = .returned (.bool bo) ∧ (bo = true → P)) ∧ Below w.heap.size w w'
theorem SameRet.no {P : Prop} {w w' : World} (h : Below w.heap.size w w') : SameRet P w (.returned (.bool false)) w' := ⟨⟨false, rfl, fun e => by simp at e⟩, h⟩
theorem SameRet.yes {P : Prop} {w w' : World} (hP : P) (h : Below w.heap.size w w') : SameRet P w (.returned (.bool true)) w' := ⟨⟨true, rfl, fun _ => hP⟩, h⟩
theorem take_more {α : Type} {l m : List α} {i : Nat} {x : α} (h : l.take i = m.take i) (hx : l[i]? = some x) (hy : m[i]? = some x) : l.take (i + 1) = m.take (i + 1) := by
 rw [List.take_add_one, List.take_add_one, hx, hy, h]
theorem int_ne {x y : Int} (h : x ≠ y) : (x == y) = false ∧ (x != y) = true := by
 have hb : (x == y) = false := beq_eq_false_iff_ne.mpr h
 exact ⟨hb, by simp only [bne, hb]; rfl⟩
theorem ins_parts (k op d a b n k' op' d' a' b' n' : Int) : ((k == k') = false ∧ (k != k') = true) ∨ (k = k' ∧ (op == op') = false ∧ (op != op') = true) ∨ (k = k' ∧ op = op' ∧ (d == d') = false ∧ (d != d') = true) ∨ (k = k' ∧ op = op' ∧ d = d' ∧ (a == a') = false ∧ (a != a') = true) ∨ (k = k' ∧ op = op' ∧ d = d' ∧ a = a' ∧ (b == b') = false ∧ (b != b') = true) ∨ (k = k' ∧ op = op' ∧ d = d' ∧ a = a' ∧ b = b' ∧ (n == n') = false ∧ (n != n') = true) ∨ (k = k' ∧ op = op' ∧ d = d' ∧ a = a' ∧ b = b' ∧ n = n') := by
 by_cases h1 : k = k'
 · by_cases h2 : op = op'
   · by_cases h3 : d = d'
     · by_cases h4 : a = a'
       · by_cases h5 : b = b'
         · by_cases h6 : n = n'
           · exact .inr (.inr (.inr (.inr (.inr (.inr ⟨h1, h2, h3, h4, h5, h6⟩)))))
           · exact .inr (.inr (.inr (.inr (.inr (.inl ⟨h1, h2, h3, h4, h5, int_ne h6⟩)))))
         · exact .inr (.inr (.inr (.inr (.inl ⟨h1, h2, h3, h4, int_ne h5⟩))))
       · exact .inr (.inr (.inr (.inl ⟨h1, h2, h3, int_ne h4⟩)))
     · exact .inr (.inr (.inl ⟨h1, h2, int_ne h3⟩))
   · exact .inr (.inl ⟨h1, int_ne h2⟩)
 · exact .inl (int_ne h1)
set_option maxHeartbeats 8000000 in
set_option maxRecDepth 100000 in
theorem same_blocksG (l m : List Blk) (n n' : Nat) (hn : l.length = n) (hm : m.length = n') (A B : Option Addr) (c e : Nat) (w : World) (hA : kBlk.C w A n l) (hB : kBlk.C w B n' m) :
 Calls Try.prog 84 #[.slice A n c, .slice B n' e] w (SameRet (l = m) w) := by
 have mixed : Try.prog.follows .mixedOrders = true := by kernel_rfl
 subst hn
 have HA := aM hA
 have hll := hA.2.1
 by_cases hnm : n' = l.length
 case neg =>
  have hl2 := hB.2.1
  have hb := int_ne (x := (l.length : Int)) (y := (n' : Int)) (by omega)
  obtain ⟨h1, h2⟩ := hb
  clear hA hB hm
  go_enter Try.func84, Try.ntmps84
  go_wp2
  go_ret
  exact SameRet.no (Below.refl _ _)
 case pos =>
  subst hnm
  have HB := aM hB
  have HM := aM hm
  clear hA hB hm
  go_enter Try.func84, Try.ntmps84
  go_wp2_with fail
  go_loopw [5] (fun vi wr => ∃ j : Nat, j ≤ l.length ∧ vi = .int .i64 j ∧ Aside0 (l.take j = m.take j) ∧ Aside0 (Below w.heap.size w wr)) (fun vi _ => l.length - (intOf vi).toNat)
  case atStart => exact ⟨0, by omega, rfl, ⟨by simp⟩, ⟨Below.refl _ _⟩⟩
  case round =>
   obtain ⟨wo, hwo⟩ : ∃ wo, wo = wr := ⟨_, rfl⟩
   subst hwo
   obtain ⟨j, hj, rfl, HT, HZ⟩ := hrel
   by_cases hjl : j < l.length
   · obtain ⟨⟨is, k, a, tt, ee⟩, hx⟩ : ∃ x, l[j]? = some x := ⟨_, List.getElem?_eq_getElem hjl⟩
     obtain ⟨⟨is', k', a', tt', ee'⟩, hy⟩ : ∃ x, m[j]? = some x := ⟨_, List.getElem?_eq_getElem (by rw [HM.out]; exact hjl)⟩
     obtain ⟨ad, A1, n1, rfl, b0, b1, b2, b3, b4, hn1, hC1⟩ := blk_cells HA.out hx
     obtain ⟨ad', A1', n1', rfl, c0, c1, c2, c3, c4, hn1', hC1'⟩ := blk_cells HB.out hy
     have hil0 := hC1.2.1
     have hil1 := hC1'.2.1
     have HBK := aM (show ∀ W', Keep (fun _ => False) wo.drew W' → Below w.heap.size w W' from fun W' h => Keep.below_then HZ.out.drew h HZ.out.size (fun _ _ => id))
     by_cases hE : k = k' ∧ a = a' ∧ tt = tt' ∧ ee = ee'
     case neg =>
      have HBX := aM (show ∀ W', Below w.heap.size w W' → (W'.cell? (ad.add (j * 5)) = some (.slice A1 is.length n1) ∧ W'.cell? ⟨(ad.add (j * 5)).block, (ad.add (j * 5)).off + 1, none⟩ = some (.int .u8 k) ∧ W'.cell? ⟨(ad.add (j * 5)).block, (ad.add (j * 5)).off + 2, none⟩ = some (.int .i64 a) ∧ W'.cell? ⟨(ad.add (j * 5)).block, (ad.add (j * 5)).off + 3, none⟩ = some (.int .i64 tt) ∧ W'.cell? ⟨(ad.add (j * 5)).block, (ad.add (j * 5)).off + 4, none⟩ = some (.int .i64 ee)) ∧ W'.cell? (ad'.add (j * 5)) = some (.slice A1' is'.length n1') ∧ W'.cell? ⟨(ad'.add (j * 5)).block, (ad'.add (j * 5)).off + 1, none⟩ = some (.int .u8 k') ∧ W'.cell? ⟨(ad'.add (j * 5)).block, (ad'.add (j * 5)).off + 2, none⟩ = some (.int .i64 a') ∧ W'.cell? ⟨(ad'.add (j * 5)).block, (ad'.add (j * 5)).off + 3, none⟩ = some (.int .i64 tt') ∧ W'.cell? ⟨(ad'.add (j * 5)).block, (ad'.add (j * 5)).off + 4, none⟩ = some (.int .i64 ee') from fun W' h => ⟨⟨pw_cell_below h b0, pw_cell_below h b1, pw_cell_below h b2, pw_cell_below h b3, pw_cell_below h b4⟩, pw_cell_below h c0, pw_cell_below h c1, pw_cell_below h c2, pw_cell_below h c3, pw_cell_below h c4⟩)
      have hne := fun W => run_neqE W k a tt ee k' a' tt' ee'
      have hbb : (!(k == k' && (a == a' && (tt == tt' && (ee == ee'))))) = true := by
       rw [Bool.not_eq_true', Bool.and_eq_false_iff]
       by_cases h1 : k = k'
       · refine .inr ?_
         rw [Bool.and_eq_false_iff]
         by_cases h2 : a = a'
         · refine .inr ?_
           rw [Bool.and_eq_false_iff]
           by_cases h3 : tt = tt'
           · exact .inr (int_ne (fun h4 => hE ⟨h1, h2, h3, h4⟩)).1
           · exact .inl (int_ne h3).1
         · exact .inl (int_ne h2).1
       · exact .inl (int_ne h1).1
      simp only [hbb] at hne
      clear hx hy hC1 hC1' b0 b1 b2 b3 b4 c0 c1 c2 c3 c4 hbb hE
      go_wp2_with fail
      refine rk_start (fun _ => False) (by kernel_rfl) (n := 26) (l := (bl 26 0)) (by kernel_rfl) (by kernel_rfl) ?_
      refine kt 0 (bl 26 1) rfl (fun w' hR => by go_simp; first | done | with_reducible rfl) rfl ?_
      try simp only [Act.put, pB, pC, pD]
      refine kt 1 (bl 26 3) rfl (fun w' hR => by go_simp; first | done | with_reducible rfl) rfl ?_
      try simp only [Act.put, pB, pC, pD]
      refine kt 2 (bl 26 7) rfl (fun w' hR => by go_simp; first | done | with_reducible rfl) rfl ?_
      try simp only [Act.put, pB, pC, pD]
      refine kt 3 (bl 26 15) rfl (fun w' hR => by go_simp; first | done | with_reducible rfl) rfl ?_
      try simp only [Act.put, pB, pC, pD]
      refine kt 4 (bl 26 31) rfl (fun w' hR => by obtain ⟨⟨x0, x1, x2, x3, x4⟩, y0, y1, y2, y3, y4⟩ := HBX.out w' (HBK.out w' hR); go_simp; first | done | with_reducible rfl) rfl ?_
      try simp only [Act.put, pB, pC, pD]
      refine kt 5 (bl 26 63) rfl (fun w' hR => by go_simp; first | done | with_reducible rfl) rfl ?_
      try simp only [Act.put, pB, pC, pD]
      refine kt 6 (bl 26 127) rfl (fun w' hR => by go_simp; first | done | with_reducible rfl) rfl ?_
      try simp only [Act.put, pB, pC, pD]
      refine kt 7 (bl 26 255) rfl (fun w' hR => by go_simp; first | done | with_reducible rfl) rfl ?_
      try simp only [Act.put, pB, pC, pD]
      refine kt 8 (bl 26 511) rfl (fun w' hR => by go_simp; first | done | with_reducible rfl) rfl ?_
      try simp only [Act.put, pB, pC, pD]
      refine kt 9 (bl 26 1023) rfl (fun w' hR => by obtain ⟨⟨x0, x1, x2, x3, x4⟩, y0, y1, y2, y3, y4⟩ := HBX.out w' (HBK.out w' hR); go_simp; first | done | with_reducible rfl) rfl ?_
      try simp only [Act.put, pB, pC, pD]
      refine kt 10 (bl 26 2047) rfl (fun w' hR => by have x0 := hne w'; go_simp; first | done | with_reducible rfl) rfl ?_
      try simp only [Act.put, pB, pC, pD]
      refine kt 11 (bl 26 4095) rfl (fun w' hR => by go_simp; first | done | with_reducible rfl) rfl ?_
      try simp only [Act.put, pB, pC, pD]
      refine kz 12 (bl 26 8191) rfl rfl ?_
      try simp only [Act.put, pB, pC, pD]
      refine kz 13 (bl 26 16383) rfl rfl ?_
      try simp only [Act.put, pB, pC, pD]
      refine kz 14 (bl 26 32767) rfl rfl ?_
      try simp only [Act.put, pB, pC, pD]
      refine kz 15 (bl 26 65535) rfl rfl ?_
      try simp only [Act.put, pB, pC, pD]
      refine kz 16 (bl 26 131071) rfl rfl ?_
      try simp only [Act.put, pB, pC, pD]
      refine kz 17 (bl 26 262143) rfl rfl ?_
      try simp only [Act.put, pB, pC, pD]
      refine kz 18 (bl 26 524287) rfl rfl ?_
      try simp only [Act.put, pB, pC, pD]
      refine kz 19 (bl 26 1048575) rfl rfl ?_
      try simp only [Act.put, pB, pC, pD]
      refine kz 20 (bl 26 2097151) rfl rfl ?_
      try simp only [Act.put, pB, pC, pD]
      refine kz 21 (bl 26 4194303) rfl rfl ?_
      try simp only [Act.put, pB, pC, pD]
      refine kz 22 (bl 26 8388607) rfl rfl ?_
      try simp only [Act.put, pB, pC, pD]
      refine kz 23 (bl 26 16777215) rfl rfl ?_
      try simp only [Act.put, pB, pC, pD]
      refine kz 24 (bl 26 33554431) rfl rfl ?_
      try simp only [Act.put, pB, pC, pD]
      refine kt 25 (bl 26 67108863) rfl (fun w' hR => by go_simp; first | done | with_reducible rfl) rfl ?_
      try simp only [Act.put, pB, pC, pD]
      refine rk_done (by kernel_rfl) ?_
      clear HBK hne
      go_wp2
      go_ret
      exact SameRet.no HZ.out.drew
     case pos =>
      obtain ⟨rfl, rfl, rfl, rfl⟩ := hE
      have hne := fun W => run_neqE W k a tt ee k a tt ee
      have hbb : (!(k == k && (a == a && (tt == tt && (ee == ee))))) = false := by simp
      simp only [hbb] at hne
      clear hbb
      by_cases hL : is'.length = is.length
      case neg =>
       have HBX := aM (show ∀ W', Below w.heap.size w W' → (W'.cell? (ad.add (j * 5)) = some (.slice A1 is.length n1) ∧ W'.cell? ⟨(ad.add (j * 5)).block, (ad.add (j * 5)).off + 1, none⟩ = some (.int .u8 k) ∧ W'.cell? ⟨(ad.add (j * 5)).block, (ad.add (j * 5)).off + 2, none⟩ = some (.int .i64 a) ∧ W'.cell? ⟨(ad.add (j * 5)).block, (ad.add (j * 5)).off + 3, none⟩ = some (.int .i64 tt) ∧ W'.cell? ⟨(ad.add (j * 5)).block, (ad.add (j * 5)).off + 4, none⟩ = some (.int .i64 ee)) ∧ W'.cell? (ad'.add (j * 5)) = some (.slice A1' is'.length n1') ∧ W'.cell? ⟨(ad'.add (j * 5)).block, (ad'.add (j * 5)).off + 1, none⟩ = some (.int .u8 k) ∧ W'.cell? ⟨(ad'.add (j * 5)).block, (ad'.add (j * 5)).off + 2, none⟩ = some (.int .i64 a) ∧ W'.cell? ⟨(ad'.add (j * 5)).block, (ad'.add (j * 5)).off + 3, none⟩ = some (.int .i64 tt) ∧ W'.cell? ⟨(ad'.add (j * 5)).block, (ad'.add (j * 5)).off + 4, none⟩ = some (.int .i64 ee) from fun W' h => ⟨⟨pw_cell_below h b0, pw_cell_below h b1, pw_cell_below h b2, pw_cell_below h b3, pw_cell_below h b4⟩, pw_cell_below h c0, pw_cell_below h c1, pw_cell_below h c2, pw_cell_below h c3, pw_cell_below h c4⟩)
       obtain ⟨h1, h2⟩ := int_ne (x := (is.length : Int)) (y := (is'.length : Int)) (by omega)
       clear hx hy hC1 hC1' b0 b1 b2 b3 b4 c0 c1 c2 c3 c4 hL
       go_wp2_with fail
       refine rk_start (fun _ => False) (by kernel_rfl) (n := 26) (l := (bl 26 0)) (by kernel_rfl) (by kernel_rfl) ?_
       refine kt 0 (bl 26 1) rfl (fun w' hR => by go_simp; first | done | with_reducible rfl) rfl ?_
       try simp only [Act.put, pB, pC, pD]
       refine kt 1 (bl 26 3) rfl (fun w' hR => by go_simp; first | done | with_reducible rfl) rfl ?_
       try simp only [Act.put, pB, pC, pD]
       refine kt 2 (bl 26 7) rfl (fun w' hR => by go_simp; first | done | with_reducible rfl) rfl ?_
       try simp only [Act.put, pB, pC, pD]
       refine kt 3 (bl 26 15) rfl (fun w' hR => by go_simp; first | done | with_reducible rfl) rfl ?_
       try simp only [Act.put, pB, pC, pD]
       refine kt 4 (bl 26 31) rfl (fun w' hR => by obtain ⟨⟨x0, x1, x2, x3, x4⟩, y0, y1, y2, y3, y4⟩ := HBX.out w' (HBK.out w' hR); go_simp; first | done | with_reducible rfl) rfl ?_
       try simp only [Act.put, pB, pC, pD]
       refine kt 5 (bl 26 63) rfl (fun w' hR => by go_simp; first | done | with_reducible rfl) rfl ?_
       try simp only [Act.put, pB, pC, pD]
       refine kt 6 (bl 26 127) rfl (fun w' hR => by go_simp; first | done | with_reducible rfl) rfl ?_
       try simp only [Act.put, pB, pC, pD]
       refine kt 7 (bl 26 255) rfl (fun w' hR => by go_simp; first | done | with_reducible rfl) rfl ?_
       try simp only [Act.put, pB, pC, pD]
       refine kt 8 (bl 26 511) rfl (fun w' hR => by go_simp; first | done | with_reducible rfl) rfl ?_
       try simp only [Act.put, pB, pC, pD]
       refine kt 9 (bl 26 1023) rfl (fun w' hR => by obtain ⟨⟨x0, x1, x2, x3, x4⟩, y0, y1, y2, y3, y4⟩ := HBX.out w' (HBK.out w' hR); go_simp; first | done | with_reducible rfl) rfl ?_
       try simp only [Act.put, pB, pC, pD]
       refine kt 10 (bl 26 2047) rfl (fun w' hR => by have x0 := hne w'; go_simp; first | done | with_reducible rfl) rfl ?_
       try simp only [Act.put, pB, pC, pD]
       refine kt 11 (bl 26 4095) rfl (fun w' hR => by go_simp; first | done | with_reducible rfl) rfl ?_
       try simp only [Act.put, pB, pC, pD]
       refine kt 12 (bl 26 8191) rfl (fun w' hR => by go_simp; first | done | with_reducible rfl) rfl ?_
       try simp only [Act.put, pB, pC, pD]
       refine kt 13 (bl 26 16383) rfl (fun w' hR => by go_simp; first | done | with_reducible rfl) rfl ?_
       try simp only [Act.put, pB, pC, pD]
       refine kt 14 (bl 26 32767) rfl (fun w' hR => by go_simp; first | done | with_reducible rfl) rfl ?_
       try simp only [Act.put, pB, pC, pD]
       refine kt 15 (bl 26 65535) rfl (fun w' hR => by go_simp; first | done | with_reducible rfl) rfl ?_
       try simp only [Act.put, pB, pC, pD]
       refine kt 16 (bl 26 131071) rfl (fun w' hR => by obtain ⟨⟨x0, x1, x2, x3, x4⟩, y0, y1, y2, y3, y4⟩ := HBX.out w' (HBK.out w' hR); go_simp; first | done | with_reducible rfl) rfl ?_
       try simp only [Act.put, pB, pC, pD]
       refine kt 17 (bl 26 262143) rfl (fun w' hR => by go_simp; first | done | with_reducible rfl) rfl ?_
       try simp only [Act.put, pB, pC, pD]
       refine kt 18 (bl 26 524287) rfl (fun w' hR => by go_simp; first | done | with_reducible rfl) rfl ?_
       try simp only [Act.put, pB, pC, pD]
       refine kt 19 (bl 26 1048575) rfl (fun w' hR => by go_simp; first | done | with_reducible rfl) rfl ?_
       try simp only [Act.put, pB, pC, pD]
       refine kt 20 (bl 26 2097151) rfl (fun w' hR => by go_simp; first | done | with_reducible rfl) rfl ?_
       try simp only [Act.put, pB, pC, pD]
       refine kt 21 (bl 26 4194303) rfl (fun w' hR => by go_simp; first | done | with_reducible rfl) rfl ?_
       try simp only [Act.put, pB, pC, pD]
       refine kt 22 (bl 26 8388607) rfl (fun w' hR => by obtain ⟨⟨x0, x1, x2, x3, x4⟩, y0, y1, y2, y3, y4⟩ := HBX.out w' (HBK.out w' hR); go_simp; first | done | with_reducible rfl) rfl ?_
       try simp only [Act.put, pB, pC, pD]
       refine kt 23 (bl 26 16777215) rfl (fun w' hR => by go_simp; first | done | with_reducible rfl) rfl ?_
       try simp only [Act.put, pB, pC, pD]
       refine kt 24 (bl 26 33554431) rfl (fun w' hR => by go_simp; first | done | with_reducible rfl) rfl ?_
       try simp only [Act.put, pB, pC, pD]
       refine kt 25 (bl 26 67108863) rfl (fun w' hR => by go_simp; first | done | with_reducible rfl) rfl ?_
       try simp only [Act.put, pB, pC, pD]
       refine rk_done (by kernel_rfl) ?_
       clear HBK hne
       go_wp2
       go_ret
       exact SameRet.no HZ.out.drew
      case pos =>
       rw [hL] at c0 hn1' hC1'
       have HBX := aM (show ∀ W', Below w.heap.size w W' → (W'.cell? (ad.add (j * 5)) = some (.slice A1 is.length n1) ∧ W'.cell? ⟨(ad.add (j * 5)).block, (ad.add (j * 5)).off + 1, none⟩ = some (.int .u8 k) ∧ W'.cell? ⟨(ad.add (j * 5)).block, (ad.add (j * 5)).off + 2, none⟩ = some (.int .i64 a) ∧ W'.cell? ⟨(ad.add (j * 5)).block, (ad.add (j * 5)).off + 3, none⟩ = some (.int .i64 tt) ∧ W'.cell? ⟨(ad.add (j * 5)).block, (ad.add (j * 5)).off + 4, none⟩ = some (.int .i64 ee)) ∧ W'.cell? (ad'.add (j * 5)) = some (.slice A1' is.length n1') ∧ W'.cell? ⟨(ad'.add (j * 5)).block, (ad'.add (j * 5)).off + 1, none⟩ = some (.int .u8 k) ∧ W'.cell? ⟨(ad'.add (j * 5)).block, (ad'.add (j * 5)).off + 2, none⟩ = some (.int .i64 a) ∧ W'.cell? ⟨(ad'.add (j * 5)).block, (ad'.add (j * 5)).off + 3, none⟩ = some (.int .i64 tt) ∧ W'.cell? ⟨(ad'.add (j * 5)).block, (ad'.add (j * 5)).off + 4, none⟩ = some (.int .i64 ee) from fun W' h => ⟨⟨pw_cell_below h b0, pw_cell_below h b1, pw_cell_below h b2, pw_cell_below h b3, pw_cell_below h b4⟩, pw_cell_below h c0, pw_cell_below h c1, pw_cell_below h c2, pw_cell_below h c3, pw_cell_below h c4⟩)
       have HC1 := aM hC1
       have HC1' := aM hC1'
       have HX := aM hx
       have HY := aM hy
       have HL := aM hL
       clear hx hy hC1 hC1' b0 b1 b2 b3 b4 c0 c1 c2 c3 c4 hL hil1
       go_wp2_with fail
       refine rk_start (fun _ => False) (by kernel_rfl) (n := 26) (l := (bl 26 0)) (by kernel_rfl) (by kernel_rfl) ?_
       refine kt 0 (bl 26 1) rfl (fun w' hR => by go_simp; first | done | with_reducible rfl) rfl ?_
       try simp only [Act.put, pB, pC, pD]
       refine kt 1 (bl 26 3) rfl (fun w' hR => by go_simp; first | done | with_reducible rfl) rfl ?_
       try simp only [Act.put, pB, pC, pD]
       refine kt 2 (bl 26 7) rfl (fun w' hR => by go_simp; first | done | with_reducible rfl) rfl ?_
       try simp only [Act.put, pB, pC, pD]
       refine kt 3 (bl 26 15) rfl (fun w' hR => by go_simp; first | done | with_reducible rfl) rfl ?_
       try simp only [Act.put, pB, pC, pD]
       refine kt 4 (bl 26 31) rfl (fun w' hR => by obtain ⟨⟨x0, x1, x2, x3, x4⟩, y0, y1, y2, y3, y4⟩ := HBX.out w' (HBK.out w' hR); go_simp; first | done | with_reducible rfl) rfl ?_
       try simp only [Act.put, pB, pC, pD]
       refine kt 5 (bl 26 63) rfl (fun w' hR => by go_simp; first | done | with_reducible rfl) rfl ?_
       try simp only [Act.put, pB, pC, pD]
       refine kt 6 (bl 26 127) rfl (fun w' hR => by go_simp; first | done | with_reducible rfl) rfl ?_
       try simp only [Act.put, pB, pC, pD]
       refine kt 7 (bl 26 255) rfl (fun w' hR => by go_simp; first | done | with_reducible rfl) rfl ?_
       try simp only [Act.put, pB, pC, pD]
       refine kt 8 (bl 26 511) rfl (fun w' hR => by go_simp; first | done | with_reducible rfl) rfl ?_
       try simp only [Act.put, pB, pC, pD]
       refine kt 9 (bl 26 1023) rfl (fun w' hR => by obtain ⟨⟨x0, x1, x2, x3, x4⟩, y0, y1, y2, y3, y4⟩ := HBX.out w' (HBK.out w' hR); go_simp; first | done | with_reducible rfl) rfl ?_
       try simp only [Act.put, pB, pC, pD]
       refine kt 10 (bl 26 2047) rfl (fun w' hR => by have x0 := hne w'; go_simp; first | done | with_reducible rfl) rfl ?_
       try simp only [Act.put, pB, pC, pD]
       refine kt 11 (bl 26 4095) rfl (fun w' hR => by go_simp; first | done | with_reducible rfl) rfl ?_
       try simp only [Act.put, pB, pC, pD]
       refine kt 12 (bl 26 8191) rfl (fun w' hR => by go_simp; first | done | with_reducible rfl) rfl ?_
       try simp only [Act.put, pB, pC, pD]
       refine kt 13 (bl 26 16383) rfl (fun w' hR => by go_simp; first | done | with_reducible rfl) rfl ?_
       try simp only [Act.put, pB, pC, pD]
       refine kt 14 (bl 26 32767) rfl (fun w' hR => by go_simp; first | done | with_reducible rfl) rfl ?_
       try simp only [Act.put, pB, pC, pD]
       refine kt 15 (bl 26 65535) rfl (fun w' hR => by go_simp; first | done | with_reducible rfl) rfl ?_
       try simp only [Act.put, pB, pC, pD]
       refine kt 16 (bl 26 131071) rfl (fun w' hR => by obtain ⟨⟨x0, x1, x2, x3, x4⟩, y0, y1, y2, y3, y4⟩ := HBX.out w' (HBK.out w' hR); go_simp; first | done | with_reducible rfl) rfl ?_
       try simp only [Act.put, pB, pC, pD]
       refine kt 17 (bl 26 262143) rfl (fun w' hR => by go_simp; first | done | with_reducible rfl) rfl ?_
       try simp only [Act.put, pB, pC, pD]
       refine kt 18 (bl 26 524287) rfl (fun w' hR => by go_simp; first | done | with_reducible rfl) rfl ?_
       try simp only [Act.put, pB, pC, pD]
       refine kt 19 (bl 26 1048575) rfl (fun w' hR => by go_simp; first | done | with_reducible rfl) rfl ?_
       try simp only [Act.put, pB, pC, pD]
       refine kt 20 (bl 26 2097151) rfl (fun w' hR => by go_simp; first | done | with_reducible rfl) rfl ?_
       try simp only [Act.put, pB, pC, pD]
       refine kt 21 (bl 26 4194303) rfl (fun w' hR => by go_simp; first | done | with_reducible rfl) rfl ?_
       try simp only [Act.put, pB, pC, pD]
       refine kt 22 (bl 26 8388607) rfl (fun w' hR => by obtain ⟨⟨x0, x1, x2, x3, x4⟩, y0, y1, y2, y3, y4⟩ := HBX.out w' (HBK.out w' hR); go_simp; first | done | with_reducible rfl) rfl ?_
       try simp only [Act.put, pB, pC, pD]
       refine kt 23 (bl 26 16777215) rfl (fun w' hR => by go_simp; first | done | with_reducible rfl) rfl ?_
       try simp only [Act.put, pB, pC, pD]
       refine kt 24 (bl 26 33554431) rfl (fun w' hR => by go_simp; first | done | with_reducible rfl) rfl ?_
       try simp only [Act.put, pB, pC, pD]
       refine kt 25 (bl 26 67108863) rfl (fun w' hR => by go_simp; first | done | with_reducible rfl) rfl ?_
       try simp only [Act.put, pB, pC, pD]
       refine rk_done (by kernel_rfl) ?_
       clear HBK hne
       go_wp2_with fail
       go_loopw [6] (fun vi wi => ∃ i : Nat, i ≤ is.length ∧ vi = .int .i64 i ∧ Aside0 (is.take i = is'.take i) ∧ Aside0 (Below w.heap.size w wi)) (fun vi _ => is.length - (intOf vi).toNat)
       case atStart => exact ⟨0, by omega, rfl, ⟨by simp⟩, ⟨HZ.out.drew⟩⟩
       case round =>
        obtain ⟨wi, hwi⟩ : ∃ wi, wi = wr := ⟨_, rfl⟩
        subst hwi
        obtain ⟨i, hi, rfl, HTI, HWB⟩ := hrel
        obtain ⟨⟨x0, x1, x2, x3, x4⟩, y0, y1, y2, y3, y4⟩ := HBX.out wi HWB.out
        by_cases hil : i < is.length
        · obtain ⟨⟨k1, op, d, a1, bb, nn, args⟩, hq⟩ : ∃ q, is[i]? = some q := ⟨_, List.getElem?_eq_getElem hil⟩
          obtain ⟨⟨k2, op', d', a2, bb', nn', args'⟩, hq'⟩ : ∃ q, is'[i]? = some q := ⟨_, List.getElem?_eq_getElem (by rw [HL.out]; exact hil)⟩
          obtain ⟨ad2, A2, n2, rfl, i0, i1, i2, i3, i4, i5, i6, hn2, hC2⟩ := ins_cells HC1.out hq
          obtain ⟨ad3, A3, n3, rfl, j0, j1, j2, j3, j4, j5, j6, hn3, hC3⟩ := ins_cells HC1'.out hq'
          have HQA := aM hC2
          have HQB := aM hC3
          have HQX := aM hq
          have HQY := aM hq'
          have HIX := aM (show ∀ W', Keep (fun i => wi.heap.size ≤ i) wi.drew W' → (W'.cell? (ad.add (j * 5)) = some (.slice (some ad2) is.length n1) ∧ W'.cell? (ad'.add (j * 5)) = some (.slice (some ad3) is.length n1')) ∧
           (W'.cell? (ad2.add (i * 7)) = some (.int .u8 k1) ∧ W'.cell? ⟨(ad2.add (i * 7)).block, (ad2.add (i * 7)).off + 1, none⟩ = some (.int .u8 op) ∧ W'.cell? ⟨(ad2.add (i * 7)).block, (ad2.add (i * 7)).off + 2, none⟩ = some (.int .i64 d) ∧ W'.cell? ⟨(ad2.add (i * 7)).block, (ad2.add (i * 7)).off + 3, none⟩ = some (.int .i64 a1) ∧ W'.cell? ⟨(ad2.add (i * 7)).block, (ad2.add (i * 7)).off + 4, none⟩ = some (.int .i64 bb) ∧ W'.cell? ⟨(ad2.add (i * 7)).block, (ad2.add (i * 7)).off + 5, none⟩ = some (.int .i64 nn) ∧ W'.cell? ⟨(ad2.add (i * 7)).block, (ad2.add (i * 7)).off + 6, none⟩ = some (.slice A2 args.length n2)) ∧
           W'.cell? (ad3.add (i * 7)) = some (.int .u8 k2) ∧ W'.cell? ⟨(ad3.add (i * 7)).block, (ad3.add (i * 7)).off + 1, none⟩ = some (.int .u8 op') ∧ W'.cell? ⟨(ad3.add (i * 7)).block, (ad3.add (i * 7)).off + 2, none⟩ = some (.int .i64 d') ∧ W'.cell? ⟨(ad3.add (i * 7)).block, (ad3.add (i * 7)).off + 3, none⟩ = some (.int .i64 a2) ∧ W'.cell? ⟨(ad3.add (i * 7)).block, (ad3.add (i * 7)).off + 4, none⟩ = some (.int .i64 bb') ∧ W'.cell? ⟨(ad3.add (i * 7)).block, (ad3.add (i * 7)).off + 5, none⟩ = some (.int .i64 nn') ∧ W'.cell? ⟨(ad3.add (i * 7)).block, (ad3.add (i * 7)).off + 6, none⟩ = some (.slice A3 args'.length n3) from fun W' h => by
           have hb : Below w.heap.size w W' := Keep.below_then HWB.out.drew h HWB.out.size (fun i h1 h2 => by have := HWB.out.size; omega)
           obtain ⟨⟨x0, x1, x2, x3, x4⟩, y0, y1, y2, y3, y4⟩ := HBX.out W' hb
           exact ⟨⟨x0, y0⟩, ⟨pw_cell_below hb i0, pw_cell_below hb i1, pw_cell_below hb i2, pw_cell_below hb i3, pw_cell_below hb i4, pw_cell_below hb i5, pw_cell_below hb i6⟩, pw_cell_below hb j0, pw_cell_below hb j1, pw_cell_below hb j2, pw_cell_below hb j3, pw_cell_below hb j4, pw_cell_below hb j5, pw_cell_below hb j6⟩)
          have HPP := aM (ins_parts k1 op d a1 bb nn k2 op' d' a2 bb' nn')
          obtain ⟨bo, hbo⟩ : ∃ bo, decide (args = args') = bo := ⟨_, rfl⟩
          have HARG := aM hbo
          clear hq hq' hbo hC2 hC3 i0 i1 i2 i3 i4 i5 i6 j0 j1 j2 j3 j4 j5 j6
          go_wp2_with fail
          clear x0 x1 x2 x3 x4 y0 y1 y2 y3 y4
          refine re_start [] (fun i => wi.heap.size ≤ i) (by kernel_rfl) (n := 20) (l := (bl 20 0)) (by kernel_rfl) (by kernel_rfl) ?_
          refine et 0 (bl 20 1) rfl (fun w' hR => by go_simp; first | done | with_reducible rfl) rfl ?_
          try simp only [Act.put, pB, pC, pD]
          refine et 1 (bl 20 3) rfl (fun w' hR => by go_simp; first | done | with_reducible rfl) rfl ?_
          try simp only [Act.put, pB, pC, pD]
          refine et 2 (bl 20 7) rfl (fun w' hR => by go_simp; first | done | with_reducible rfl) rfl ?_
          try simp only [Act.put, pB, pC, pD]
          refine et 3 (bl 20 15) rfl (fun w' hR => by go_simp; first | done | with_reducible rfl) rfl ?_
          try simp only [Act.put, pB, pC, pD]
          refine et 4 (bl 20 31) rfl (fun w' hR => by obtain ⟨⟨x0, y0⟩, -, -⟩ := HIX.out w' hR; go_simp; first | done | with_reducible rfl) rfl ?_
          try simp only [Act.put, pB, pC, pD]
          refine et 5 (bl 20 63) rfl (fun w' hR => by go_simp; first | done | with_reducible rfl) rfl ?_
          try simp only [Act.put, pB, pC, pD]
          refine et 6 (bl 20 127) rfl (fun w' hR => by go_simp; first | done | with_reducible rfl) rfl ?_
          try simp only [Act.put, pB, pC, pD]
          refine et 7 (bl 20 255) rfl (fun w' hR => by obtain ⟨-, ⟨x0, x1, x2, x3, x4, x5, x6⟩, -⟩ := HIX.out w' hR; go_simp; first | done | with_reducible rfl) rfl ?_
          try simp only [Act.put, pB, pC, pD]
          refine et 8 (bl 20 511) rfl (fun w' hR => by go_simp; first | done | with_reducible rfl) rfl ?_
          try simp only [Act.put, pB, pC, pD]
          refine et 9 (bl 20 1023) rfl (fun w' hR => by go_simp; first | done | with_reducible rfl) rfl ?_
          try simp only [Act.put, pB, pC, pD]
          refine et 10 (bl 20 2047) rfl (fun w' hR => by go_simp; first | done | with_reducible rfl) rfl ?_
          try simp only [Act.put, pB, pC, pD]
          refine et 11 (bl 20 4095) rfl (fun w' hR => by go_simp; first | done | with_reducible rfl) rfl ?_
          try simp only [Act.put, pB, pC, pD]
          refine et 12 (bl 20 8191) rfl (fun w' hR => by obtain ⟨⟨x0, y0⟩, -, -⟩ := HIX.out w' hR; go_simp; first | done | with_reducible rfl) rfl ?_
          try simp only [Act.put, pB, pC, pD]
          refine et 13 (bl 20 16383) rfl (fun w' hR => by go_simp; first | done | with_reducible rfl) rfl ?_
          try simp only [Act.put, pB, pC, pD]
          refine et 14 (bl 20 32767) rfl (fun w' hR => by go_simp; first | done | with_reducible rfl) rfl ?_
          try simp only [Act.put, pB, pC, pD]
          refine et 15 (bl 20 65535) rfl (fun w' hR => by obtain ⟨-, -, x0, x1, x2, x3, x4, x5, x6⟩ := HIX.out w' hR; go_simp; first | done | with_reducible rfl) rfl ?_
          try simp only [Act.put, pB, pC, pD]
          refine re_fork (fuel := 3) 16 17 rfl rfl (by kernel_rfl) (by kernel_rfl) (by kernel_rfl) (listed1 := (bl 20 131071)) (listed2 := (bl 20 196607)) (by kernel_rfl) (by kernel_rfl) (fun K' hK => ?_) (fun K' hK => ?_)
          · (go_wp2_with fail)
            refine hK.out _ _ (by (first | exact keep_alloc _ _ | exact keep_drew2 (keep_alloc _ _))) ?_
            clear hK K'
            try simp only [Act.put, pB, pC, pD]
            refine re_step (fuel := 2) 17 rfl (by kernel_rfl) (listed' := (bl 20 262143)) (by kernel_rfl) (by kernel_rfl) (fun K' hK => ?_)
            (go_wp2_with fail)
            refine hK.out _ _ (by (first | exact keep_alloc _ _ | exact keep_drew2 (keep_alloc _ _))) ?_
            clear hK K'
            try simp only [Act.put, pB, pC, pD]
            refine re_step (fuel := 1) 18 rfl (by kernel_rfl) (listed' := (bl 20 524287)) (by kernel_rfl) (by kernel_rfl) (fun K' hK => ?_)
            (go_wp2_with fail)
            refine hK.out _ _ (by (first | exact keep2 (Nat.le_refl _) _ _ _ _ | exact keep_drew2 (keep2 (Nat.le_refl _) _ _ _ _) | (refine keep_drew2 (keep2 ?_ _ _ _ _); exact Nat.le_refl _))) ?_
            clear hK K'
            try simp only [Act.put, pB, pC, pD]
            refine re_step (fuel := 0) 19 rfl (by kernel_rfl) (listed' := (bl 20 1048575)) (by kernel_rfl) (by kernel_rfl) (fun K' hK => ?_)
            (go_wp2_with fail)
            refine hK.out _ _ (by (first | exact keep2 (Nat.le_refl _) _ _ _ _ | exact keep_drew2 (keep2 (Nat.le_refl _) _ _ _ _) | (refine keep_drew2 (keep2 ?_ _ _ _ _); exact Nat.le_refl _))) ?_
            clear hK K'
            try simp only [Act.put, pB, pC, pD]
            refine re_done (by kernel_rfl) ?_
            rcases HPP.out with ⟨p1, p2⟩ | ⟨rfl, p1, p2⟩ | ⟨rfl, rfl, p1, p2⟩ | ⟨rfl, rfl, rfl, p1, p2⟩ | ⟨rfl, rfl, rfl, rfl, p1, p2⟩ | ⟨rfl, rfl, rfl, rfl, rfl, p1, p2⟩ | ⟨rfl, rfl, rfl, rfl, rfl, rfl⟩
            iterate 6 (· (go_wp2; go_ret; exact SameRet.no (by (exact ((HWB.out.alloc HWB.out.size _).alloc (by rw [World.size_alloc]; have := HWB.out.size; omega) _).drew))))
            cases bo
            · (go_wp2_with (go_at_call 117; refine (same_ints args args' A2 A3 n2 n3 _ (Kd.C_below HQA.out (by (exact ((HWB.out.alloc HWB.out.size _).alloc (by rw [World.size_alloc]; have := HWB.out.size; omega) _).drew))) (Kd.C_below HQB.out (by (exact ((HWB.out.alloc HWB.out.size _).alloc (by rw [World.size_alloc]; have := HWB.out.size; omega) _).drew)))).mono ?_; rintro _ w7 ⟨rfl, hb⟩; rw [HARG.out]; have HW7 : Aside0 (Below w.heap.size w w7) := ⟨Below.trans (by (exact ((HWB.out.alloc HWB.out.size _).alloc (by rw [World.size_alloc]; have := HWB.out.size; omega) _).drew)) (Below.mono hb (Below.size (by (exact ((HWB.out.alloc HWB.out.size _).alloc (by rw [World.size_alloc]; have := HWB.out.size; omega) _).drew))))⟩; clear hb); go_ret; exact SameRet.no HW7.out)
            · (have HTN := aM (take_more HTI.out HQX.out (show is'[i]? = some (k1, op, d, a1, bb, nn, args) from by rw [of_decide_eq_true HARG.out]; exact HQY.out)); go_wp2_with (go_at_call 117; refine (same_ints args args' A2 A3 n2 n3 _ (Kd.C_below HQA.out (by (exact ((HWB.out.alloc HWB.out.size _).alloc (by rw [World.size_alloc]; have := HWB.out.size; omega) _).drew))) (Kd.C_below HQB.out (by (exact ((HWB.out.alloc HWB.out.size _).alloc (by rw [World.size_alloc]; have := HWB.out.size; omega) _).drew)))).mono ?_; rintro _ w7 ⟨rfl, hb⟩; rw [HARG.out]; have HW7 : Aside0 (Below w.heap.size w w7) := ⟨Below.trans (by (exact ((HWB.out.alloc HWB.out.size _).alloc (by rw [World.size_alloc]; have := HWB.out.size; omega) _).drew)) (Below.mono hb (Below.size (by (exact ((HWB.out.alloc HWB.out.size _).alloc (by rw [World.size_alloc]; have := HWB.out.size; omega) _).drew))))⟩; clear hb); go_roundw; (case rel => exact ⟨i + 1, by omega, by go_num, HTN, HW7⟩); (case measure => simp [intOf]; omega))
          · (go_wp2_with fail)
            refine hK.out _ _ (by (first | exact keep_alloc _ _ | exact keep_drew2 (keep_alloc _ _))) ?_
            clear hK K'
            try simp only [Act.put, pB, pC, pD]
            refine re_step (fuel := 2) 16 rfl (by kernel_rfl) (listed' := (bl 20 262143)) (by kernel_rfl) (by kernel_rfl) (fun K' hK => ?_)
            (go_wp2_with fail)
            refine hK.out _ _ (by (first | exact keep_alloc _ _ | exact keep_drew2 (keep_alloc _ _))) ?_
            clear hK K'
            try simp only [Act.put, pB, pC, pD]
            refine re_step (fuel := 1) 18 rfl (by kernel_rfl) (listed' := (bl 20 524287)) (by kernel_rfl) (by kernel_rfl) (fun K' hK => ?_)
            (go_wp2_with fail)
            refine hK.out _ _ (by (first | exact keep2 (Nat.le_refl _) _ _ _ _ | exact keep_drew2 (keep2 (Nat.le_refl _) _ _ _ _) | (refine keep_drew2 (keep2 ?_ _ _ _ _); exact Nat.le_refl _))) ?_
            clear hK K'
            try simp only [Act.put, pB, pC, pD]
            refine re_step (fuel := 0) 19 rfl (by kernel_rfl) (listed' := (bl 20 1048575)) (by kernel_rfl) (by kernel_rfl) (fun K' hK => ?_)
            (go_wp2_with fail)
            refine hK.out _ _ (by (first | exact keep2 (Nat.le_refl _) _ _ _ _ | exact keep_drew2 (keep2 (Nat.le_refl _) _ _ _ _) | (refine keep_drew2 (keep2 ?_ _ _ _ _); exact Nat.le_refl _))) ?_
            clear hK K'
            try simp only [Act.put, pB, pC, pD]
            refine re_done (by kernel_rfl) ?_
            rcases HPP.out with ⟨p1, p2⟩ | ⟨rfl, p1, p2⟩ | ⟨rfl, rfl, p1, p2⟩ | ⟨rfl, rfl, rfl, p1, p2⟩ | ⟨rfl, rfl, rfl, rfl, p1, p2⟩ | ⟨rfl, rfl, rfl, rfl, rfl, p1, p2⟩ | ⟨rfl, rfl, rfl, rfl, rfl, rfl⟩
            iterate 6 (· (go_wp2; go_ret; exact SameRet.no (by (exact ((HWB.out.alloc HWB.out.size _).alloc (by rw [World.size_alloc]; have := HWB.out.size; omega) _).drew))))
            cases bo
            · (go_wp2_with (go_at_call 117; refine (same_ints args args' A2 A3 n2 n3 _ (Kd.C_below HQA.out (by (exact ((HWB.out.alloc HWB.out.size _).alloc (by rw [World.size_alloc]; have := HWB.out.size; omega) _).drew))) (Kd.C_below HQB.out (by (exact ((HWB.out.alloc HWB.out.size _).alloc (by rw [World.size_alloc]; have := HWB.out.size; omega) _).drew)))).mono ?_; rintro _ w7 ⟨rfl, hb⟩; rw [HARG.out]; have HW7 : Aside0 (Below w.heap.size w w7) := ⟨Below.trans (by (exact ((HWB.out.alloc HWB.out.size _).alloc (by rw [World.size_alloc]; have := HWB.out.size; omega) _).drew)) (Below.mono hb (Below.size (by (exact ((HWB.out.alloc HWB.out.size _).alloc (by rw [World.size_alloc]; have := HWB.out.size; omega) _).drew))))⟩; clear hb); go_ret; exact SameRet.no HW7.out)
            · (have HTN := aM (take_more HTI.out HQX.out (show is'[i]? = some (k1, op, d, a1, bb, nn, args) from by rw [of_decide_eq_true HARG.out]; exact HQY.out)); go_wp2_with (go_at_call 117; refine (same_ints args args' A2 A3 n2 n3 _ (Kd.C_below HQA.out (by (exact ((HWB.out.alloc HWB.out.size _).alloc (by rw [World.size_alloc]; have := HWB.out.size; omega) _).drew))) (Kd.C_below HQB.out (by (exact ((HWB.out.alloc HWB.out.size _).alloc (by rw [World.size_alloc]; have := HWB.out.size; omega) _).drew)))).mono ?_; rintro _ w7 ⟨rfl, hb⟩; rw [HARG.out]; have HW7 : Aside0 (Below w.heap.size w w7) := ⟨Below.trans (by (exact ((HWB.out.alloc HWB.out.size _).alloc (by rw [World.size_alloc]; have := HWB.out.size; omega) _).drew)) (Below.mono hb (Below.size (by (exact ((HWB.out.alloc HWB.out.size _).alloc (by rw [World.size_alloc]; have := HWB.out.size; omega) _).drew))))⟩; clear hb); go_roundw; (case rel => exact ⟨i + 1, by omega, by go_num, HTN, HW7⟩); (case measure => simp [intOf]; omega))
        · obtain rfl : i = is.length := by omega
          have HTN := aM (show l.take (j + 1) = m.take (j + 1) from by
           have h1 := HTI.out
           rw [List.take_length, ← HL.out, List.take_length] at h1
           have hy := HY.out
           rw [← h1] at hy
           exact take_more HT.out HX.out hy)
          clear HTI HX HY HL
          go_wp2
          go_roundw
          case rel => exact ⟨j + 1, by omega, by go_num, HTN, HWB⟩
          case measure => simp [intOf]; omega
   · obtain rfl : j = l.length := by omega
     have hlm : l = m := by
      have h1 := HT.out
      rw [List.take_length, ← HM.out, List.take_length] at h1
      exact h1
     have HLM := aM hlm
     clear hlm HT
     go_wp2
     go_ret
     exact SameRet.yes HLM.out HZ.out
end Go.Proofs.Ytnckonglodmfeaa.Ik
