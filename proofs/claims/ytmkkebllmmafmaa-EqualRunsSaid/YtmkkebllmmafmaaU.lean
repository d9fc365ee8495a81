/- Rows of whole numbers of one's own that may be cut short (x[:n:n]): appended to, copied onto. -/
import Derived.Test.YtmkkebllmmafmaaB
namespace Go.Proofs.Ytmkkebllmmafmaa.B
open Go.RowKit Go.Proofs.YtmkkebllmmafmaaW.PrintWords Go.Proofs.YtmkkebllmmafmaaW.PrintLast Go.Proofs.YtmkkebllmmafmaaW.PrintMore
set_option linter.unusedVariables false
set_option linter.unusedSimpArgs false
/-- A row of one's own at a block's head, with whatever behind it; its block is one of S. -/
def Buf (k : IntKind) (e : Nat) (w : World) (S : Nat → Prop) (v : Value) (xs : List Int) : Prop :=
  (v = .slice none 0 0 ∧ xs = []) ∨
  ∃ (g cap : Nat) (cur : Array Value), v = .slice (some ⟨g, 0, none⟩) xs.length cap ∧ S g ∧ w.heap[g]? = some (.cells cur e (0, 0)) ∧ xs.length ≤ cap ∧ cap ≤ maxLen ∧ cap ≤ cur.size ∧ cur.toList.take xs.length = nums k xs
section
variable {k : IntKind} {e : Nat} {w w' : World} {S S' : Nat → Prop} {v : Value} {xs : List Int}
theorem Buf.nil (k : IntKind) (e : Nat) (w : World) (S : Nat → Prop) : Buf k e w S (.slice none 0 0) [] := .inl ⟨rfl, rfl⟩
theorem nums_len (k : IntKind) (xs : List Int) : (nums k xs).length = xs.length := by simp [nums]
theorem Buf.of_R {base : Nat} {ok : Nat → Prop} (h : (Kd.int k).R e w base ok v xs) : Buf k e w (fun i => ok i ∧ base ≤ i ∧ i < w.heap.size) v xs := by
  have hok := h.1
  rcases (Kd.own_of_R h).2 with ⟨h1, h2⟩ | ⟨g, cap, cur, h1, h2, h3, h4, h5, h6, h7⟩
  · exact .inl ⟨h1, List.eq_nil_of_length_eq_zero h2⟩
  · refine .inr ⟨g, cap, cur, h1, ⟨hok g (by rw [h1]; rfl), h2, blk_lt h3⟩, h3, h4, h5, by omega, ?_⟩
    rw [Nat.mul_one] at h7
    exact h7
theorem Buf.mono (h : Buf k e w S v xs) (hS : ∀ i, S i → i < w.heap.size → S' i) : Buf k e w S' v xs := by
  rcases h with h | ⟨g, cap, cur, h1, h2, h3, h4⟩
  · exact .inl h
  · exact .inr ⟨g, cap, cur, h1, hS g h2 (blk_lt h3), h3, h4⟩
theorem Buf.step (h : Buf k e w S v xs) (hm : ∀ i, S i → i < w.heap.size → w'.heap[i]? = w.heap[i]?) : Buf k e w' S v xs := by
  rcases h with h | ⟨g, cap, cur, h1, h2, h3, h4⟩
  · exact .inl h
  · exact .inr ⟨g, cap, cur, h1, h2, (hm g h2 (blk_lt h3)).trans h3, h4⟩
theorem Buf.keep {T : Nat → Prop} (h : Buf k e w S v xs) (hk : Keep T w w') (hd : ∀ i, S i → ¬ T i) : Buf k e w' S v xs := h.step (fun i hi hl => hk.block i hl (hd i hi))
theorem Buf.below (h : Buf k e w S v xs) (hb : Below w.heap.size w w') : Buf k e w' S v xs := h.step (fun i _ hl => hb.block i hl)
theorem Buf.own (h : Buf k e w S v xs) : ∀ i, v.ownBlock = some i → S i ∧ i < w.heap.size := by
  intro i hi
  rcases h with ⟨rfl, _⟩ | ⟨g, cap, cur, rfl, h2, h3, _⟩
  · simp [Value.ownBlock] at hi
  · simp only [Value.ownBlock, Option.some.injEq] at hi
    subst hi
    exact ⟨h2, blk_lt h3⟩
theorem Buf.exact (h : Buf k e w S v xs) : Buf k e w (fun i => v.ownBlock = some i) v xs := by
  rcases h with h | ⟨g, cap, cur, h1, h2, h3, h4⟩
  · exact .inl h
  · exact .inr ⟨g, cap, cur, h1, by rw [h1]; rfl, h3, h4⟩
theorem Buf.cell {g cap : Nat} {cur : Array Value} {xs : List Int} (h3 : w.heap[g]? = some (.cells cur e (0, 0))) (h7 : cur.toList.take xs.length = nums k xs) {j : Nat} {x : Int} (hx : xs[j]? = some x) : w.cell? ((⟨g, 0, none⟩ : Addr).add j) = some (.int k x) := by
  have hj := (List.getElem?_eq_some_iff.1 hx).1
  have hadd : (⟨g, 0, none⟩ : Addr).add j = ⟨g, j, none⟩ := by unfold Addr.add; split <;> simp_all
  rw [hadd, cell_of_row w g j cur e (0, 0) h3]
  have h := congrArg (fun l => l[j]?) h7
  simp only [List.getElem?_take, hj, if_true, nums, List.getElem?_map, hx, Option.map_some] at h
  rw [← h, Array.getElem?_toList]
theorem Buf.reads (h : Buf k e w S v xs) : ∃ A c, v = .slice A xs.length c ∧ xs.length ≤ c ∧ (Kd.int k).C w A xs.length xs ∧ ∀ a, A = some a → S a.block ∧ a.block < w.heap.size := by
  rcases h with ⟨rfl, rfl⟩ | ⟨g, cap, cur, h1, h2, h3, h4, h5, h6, h7⟩
  · exact ⟨none, 0, rfl, Nat.le_refl _, C_nil _ _, fun a ha => by cases ha⟩
  · refine ⟨_, cap, h1, h4, ⟨rfl, by simp only [maxLen] at h5; omega, fun _ => ⟨_, rfl, fun j x hx => ⟨[.int k x], rfl, rfl, fun i u hu => ?_⟩⟩⟩, fun a ha => by injection ha with ha; subst ha; exact ⟨h2, blk_lt h3⟩⟩
    obtain ⟨hi, rfl⟩ : i = 0 ∧ u = .int k x := by
      rcases i with _ | i
      · exact ⟨rfl, by simpa using hu.symm⟩
      · simp at hu
    subst hi
    show w.cell? (Addr.add _ (j * 1 + 0)) = _
    rw [Nat.mul_one, Nat.add_zero]
    exact Buf.cell (cap := cap) h3 h7 hx
/-- Cut short: x[:n:c]. -/
theorem Buf.short (h : Buf k e w S v xs) {A : Option Addr} {n c : Nat} (hv : v = .slice A n c) {m c' : Nat} (hm : m ≤ xs.length) (hc1 : m ≤ c') (hc2 : c' ≤ c) (hne : A = none → m = 0 ∧ c' = 0) : Buf k e w S (.slice A m c') (xs.take m) := by
  rcases h with ⟨rfl, rfl⟩ | ⟨g, cap, cur, h1, h2, h3, h4, h5, h6, h7⟩
  · injection hv with h1 h2 h3
    subst h1
    obtain ⟨rfl, rfl⟩ := hne rfl
    exact .inl ⟨rfl, rfl⟩
  · rw [h1] at hv
    injection hv with h1 h1' h1''
    subst h1 h1''
    have hl : (xs.take m).length = m := by rw [List.length_take]; omega
    refine .inr ⟨g, c', cur, by rw [hl], h2, h3, by omega, by omega, by omega, ?_⟩
    rw [hl]
    have := congrArg (List.take m) h7
    rw [List.take_take, Nat.min_eq_left hm] at this
    rw [this]
    simp [nums, List.map_take]
end
section
variable {P : Program} {k : IntKind}
/-- append(v, y): what it leaves. -/
theorem Buf.run_append {W : World} {S : Nat → Prop} {v : Value} {xs : List Int} (t ty e : TypeId) (ht : P.underlying t = some (.slice e)) {bytes : Nat} (hinfo : (P.info? e).map (fun i => (i.zero, i.size, i.bytes)) = some (some (.int k 0), 1, bytes)) (hb0 : 0 < bytes)
    (h : Buf k e W S v xs) (ad : Addr) (m c : Nat) (ys : List Int) (hm : ys.length = m) (h0 : 0 < m) (hy : ∀ j y, ys[j]? = some y → W.cell? (ad.add j) = some (.int k y)) (hl : (xs.length + m) * bytes ≤ 140737488355328) :
    ∃ v1 w1, (Builtin.append_ #[t, t] ty #[v, .slice (some ad) m c]).run P W = .ok v1 w1 ∧ Buf k e w1 (fun i => S i ∨ W.heap.size ≤ i) v1 (xs ++ ys) ∧ W.grownBy w1 v.ownBlock := by
  obtain ⟨i0, hi, hzz⟩ := Option.map_eq_some_iff.1 hinfo
  simp only [Prod.mk.injEq] at hzz
  obtain ⟨hz0, hz1, hz2⟩ := hzz
  subst hm
  have hlen : xs.length + ys.length ≤ 140737488355328 := Nat.le_trans (Nat.le_mul_of_pos_right _ hb0) hl
  have hnl : (nums k ys).length = ys.length * i0.size := by rw [nums_len, hz1, Nat.mul_one]
  have hnews : ∀ j u, (nums k ys)[j]? = some u → W.cell? (ad.add j) = some u := fun j u hu => by
    simp only [nums, List.getElem?_map, Option.map_eq_some_iff] at hu
    obtain ⟨y, hy1, rfl⟩ := hu
    exact hy j y hy1
  have h1 : ∀ u ∈ nums k ys, u.oneCell' = true := by
    intro u hu
    simp only [nums, List.mem_map] at hu
    obtain ⟨q, _, rfl⟩ := hu
    rfl
  have grown : ∀ (old : Nat) (row : Option Nat), 
      Buf k e (W.drew.alloc (.cells ((nums k xs).toArray ++ (nums k ys).toArray ++ Builtin.zeroCells (Value.cells (.int k 0)) (grownCap W (xs.length + ys.length) old e - (xs.length + ys.length))) e)) (fun i => S i ∨ W.heap.size ≤ i)
        (.slice (some ⟨W.heap.size, 0, none⟩) (xs.length + ys.length) (grownCap W (xs.length + ys.length) old e)) (xs ++ ys) ∧
      W.grownBy (W.drew.alloc (.cells ((nums k xs).toArray ++ (nums k ys).toArray ++ Builtin.zeroCells (Value.cells (.int k 0)) (grownCap W (xs.length + ys.length) old e - (xs.length + ys.length))) e)) row := by
    intro old row
    have hge := grownCap_ge W (xs.length + ys.length) old e
    have hcm : grownCap W (xs.length + ys.length) old e ≤ maxLen := grownCap_le_maxLen W _ old e (by simp only [maxLen]; omega)
    refine ⟨.inr ⟨W.heap.size, _, _, by rw [List.length_append], .inr (Nat.le_refl _), heap_alloc_new W.drew _, by rw [List.length_append]; exact hge, hcm, ?_, ?_⟩, ⟨rfl, rfl, rfl, by simp, fun i hi _ => Below.heap_alloc W.drew _ i hi⟩⟩
    · simp only [Array.size_append, List.size_toArray, size_zeroCells, nums_len]
      have : (Value.cells (.int k 0)).size = 1 := rfl
      rw [this]
      omega
    · simp only [Array.toList_append]
      rw [show (xs ++ ys).length = (nums k xs ++ nums k ys).length by simp [nums]]
      rw [List.take_left]
      simp [nums]
  rcases h with ⟨rfl, rfl⟩ | ⟨g, cap, cur, rfl, h2, h3, h4, h5, h6, h7⟩
  · have hr := run_append_nil (P := P) W t ty e i0 (.int k 0) ht hi hz0 ad ys.length c (nums k ys) hnl hnews h0 (by omega) (by rw [hz2]; simp only [List.length_nil, Nat.zero_add] at hl; omega)
    have hg := grown 0 (Value.ownBlock (.slice none 0 0))
    simp only [List.length_nil, Nat.zero_add, List.nil_append] at hg hr ⊢
    refine ⟨_, _, hr, ?_, ?_⟩
    · simpa [nums] using hg.1
    · simpa [nums] using hg.2
  · by_cases hroom : xs.length + ys.length ≤ cap
    · have hr := run_append_room (P := P) W t ty e i0 ht hi g xs.length cap cur h3 ad ys.length c (nums k ys) hnl hnews h1 hroom (by rw [hz1, nums_len]; omega)
      refine ⟨_, _, hr, .inr ⟨g, cap, _, by rw [List.length_append], .inl h2, setRow_heap W g cur _ e _ h3, by rw [List.length_append]; exact hroom, h5, ?_, ?_⟩, ⟨rfl, rfl, rfl, by simp, fun k _ hk => setRow_other W g k _ (fun e => hk (by simp [Value.ownBlock, e]))⟩⟩
      · simp only [List.size_toArray, List.length_append, List.length_take, List.length_drop, Array.length_toList, nums_len, hz1, Nat.mul_one]
        omega
      · simp only [hz1, Nat.mul_one, h7]
        rw [show (xs ++ ys).length = (nums k xs ++ nums k ys).length by simp [nums]]
        rw [List.take_left]
        simp [nums]
    · have holds : ∀ j u, (nums k xs)[j]? = some u → W.cell? ((⟨g, 0, none⟩ : Addr).add j) = some u := fun j u hu => by
        simp only [nums, List.getElem?_map, Option.map_eq_some_iff] at hu
        obtain ⟨y, hy1, rfl⟩ := hu
        exact Buf.cell (cap := cap) h3 h7 hy1
      have hr := run_append_grow (P := P) W t ty e i0 (.int k 0) ht hi hz0 ⟨g, 0, none⟩ xs.length cap (nums k xs) (by rw [nums_len, hz1, Nat.mul_one]) holds ad ys.length c (nums k ys) hnl hnews (by omega) (by omega) (by rw [hz2]; exact growslice_fits (by omega) hl)
      have hg := grown cap (Value.ownBlock (.slice (some ⟨g, 0, none⟩) xs.length cap))
      exact ⟨_, _, hr, hg.1, hg.2⟩
end
section
variable {P : Program} {ops : Array Oper} {rest : List Oper} {o : Oper} {a : Act} {Q : Exit → Act → World → Prop} {k : IntKind}
/-- append(v, y), behind 'at_builtin'; the goal's world is W with the variadic's box. -/
theorem Buf.append {W : World} {S : Nat → Prop} (hgd : o.guard = none) (s x : Operand) (t e : TypeId) (bytes : Nat)
    (ho : o.op = .call { callee := .builtin .append, args := #[s, x], argTypes := #[t, t] })
    (ht : P.underlying t = some (.slice e)) (hinfo : (P.info? e).map (fun i => (i.zero, i.size, i.bytes)) = some (some (.int k 0), 1, bytes)) (hb0 : 0 < bytes)
    (v : Value) (xs : List Int) (y : Int) (hs : a.eval s = v) (hx : a.eval x = .slice (some ⟨W.heap.size, 0, none⟩) 1 1)
    (HO : Buf k e W S v xs) (hl : (xs.length + 1) * bytes ≤ 140737488355328)
    (h : ∀ v1 w1, Buf k e w1 (fun i => S i ∨ W.heap.size ≤ i) v1 (xs ++ [y]) → W.grownBy w1 v.ownBlock → wpList P ops Q rest (a.put o.dst v1) w1) :
    wpList P ops Q (o :: rest) a (W.alloc (.cells #[.int k y] e)) := by
  obtain ⟨v1, w1, hr, hb, hg⟩ := Buf.run_append (P := P) (W := W.alloc (.cells #[.int k y] e)) t o.type e ht hinfo hb0 (HO.below ((Below.refl _ _).alloc (Nat.le_refl _) _)) ⟨W.heap.size, 0, none⟩ 1 1 [y] rfl (by decide) (fun j u hu => by
    have hj : j = 0 := by
      have := (List.getElem?_eq_some_iff.1 hu).1
      simp at this
      omega
    subst hj
    have hu' : y = u := by simpa using hu
    subst hu'
    have hadd : (⟨W.heap.size, 0, none⟩ : Addr).add 0 = ⟨W.heap.size, 0, none⟩ := by unfold Addr.add; simp
    rw [hadd, cell_of_row _ W.heap.size 0 _ e (0, 0) (heap_alloc_new _ _)]
    rfl) hl
  refine wpList_plain hgd fun K hK => ?_
  unfold Oper.wp execOp
  simp only [ho, resolve, invoke, builtin, Sem.run_bind, Sem.run_pure, Result.andThen_ok, List.map_toArray, List.map_cons, List.map_nil, hs, hx, hr]
  exact hK _ _ (h v1 w1 (hb.mono (fun i hi _ => hi.imp id (fun hh => by simp at hh; omega))) (World.grownBy.trans (World.grownBy_alloc W _ _) hg))
end
theorem grown_keep {w w' : World} {v : Value} {S : Nat → Prop} (hg : w.grownBy w' v.ownBlock) (hS : ∀ i, v.ownBlock = some i → S i) : Keep S w w' :=
  ⟨hg.os, hg.tape, hg.output, hg.size, fun k hk hs => hg.block k hk (fun e => hs (hS k e.symm))⟩
/-- copy(v[o:], ys): v's cells from o on are ys' then. -/
theorem Buf.run_copy {P : Program} {k : IntKind} {W : World} {S : Nat → Prop} {g cap : Nat} {xs : List Int} (t t' ty e : TypeId) (ht : P.underlying t = some (.slice e)) (hinfo : (P.info? e).map (·.size) = some 1)
    (h : Buf k e W S (.slice (some ⟨g, 0, none⟩) xs.length cap) xs) (o dLen dCap : Nat) (hd : o + dLen = xs.length) {A : Option Addr} {m c : Nat} {ys : List Int} (hC : (Kd.int k).C W A m ys) (hm : o + m ≤ xs.length) (h0 : 0 < m) :
    ∃ w1, (Builtin.copy_ #[t, t'] ty #[.slice (some ⟨g, o, none⟩) dLen dCap, .slice A m c]).run P W = .ok (.int .i64 m) w1 ∧ Buf k e w1 S (.slice (some ⟨g, 0, none⟩) xs.length cap) (xs.take o ++ ys ++ xs.drop (o + m)) ∧ Keep (· = g) W w1 ∧ w1.heap.size = W.heap.size := by
  have hym := hC.1
  obtain ⟨ad, rfl⟩ := C_some hC h0
  rcases h with ⟨h1, _⟩ | ⟨g', cap', cur, h1, h2, h3, h4, h5, h6, h7⟩
  · injection h1 with h1; cases h1
  · injection h1 with h1 _ h1''
    injection h1 with h1
    injection h1 with h1
    subst h1 h1''
    have hsrc : ∀ j u, (nums k ys)[j]? = some u → W.cell? (ad.add j) = some u := fun j u hu => by
      simp only [nums, List.getElem?_map, Option.map_eq_some_iff] at hu
      obtain ⟨y, hy1, rfl⟩ := hu
      rw [← hym] at hC
      exact C_cell hC hy1
    have hkl : (nums k ys).length = m := by rw [nums_len, hym]
    have hr := run_copy_cells (P := P) W t t' ty e g o dLen dCap ad m c (nums k ys) ht hinfo (by rw [hkl]; show m = min m dLen; omega) hsrc
      (fun j hj => by rw [cell_of_row W g _ cur e (0, 0) h3]; simp; omega) (fun j _ => blk_frozen h3 _) (by intro u hu; simp only [nums, List.mem_map] at hu; obtain ⟨q, _, rfl⟩ := hu; rfl)
    obtain ⟨cur', q3, q4, q5⟩ := setCells_row (nums k ys) o W cur h3 (by rw [hkl]; omega)
    obtain ⟨s1, s2, s3, s4⟩ := setCells_same g (nums k ys) o W
    refine ⟨_, by rw [hr, hkl]; rfl, .inr ⟨g, cap, cur', ?_, h2, q3, ?_, h5, by omega, ?_⟩, ⟨s1, s2, s3, by omega, fun i _ hi => setCells_far _ _ i hi⟩, s4⟩
    · simp only [List.length_append, List.length_take, List.length_drop]
      congr 1
      omega
    · simp only [List.length_append, List.length_take, List.length_drop]
      omega
    · have hln : (xs.take o ++ ys ++ xs.drop (o + m)).length = xs.length := by
        simp only [List.length_append, List.length_take, List.length_drop]
        omega
      rw [hln, q5, hkl]
      have hcl : cur.toList.length = cur.size := Array.length_toList
      have e1 : nums k (xs.take o ++ ys ++ xs.drop (o + m)) = (nums k xs).take o ++ nums k ys ++ (nums k xs).drop (o + m) := by simp [nums, List.map_take, List.map_drop]
      rw [e1, ← h7, List.take_take, Nat.min_eq_left (by omega), List.drop_take]
      rw [List.take_append, List.length_append, List.length_take, nums_len, hcl, Nat.min_eq_left (by omega), List.take_of_length_le (by rw [List.length_append, List.length_take, nums_len, hcl]; omega)]
      congr 2
      omega
theorem Buf.head {k : IntKind} {e : Nat} {w : World} {S : Nat → Prop} {A : Option Addr} {n c : Nat} {xs : List Int} (h : Buf k e w S (.slice A n c) xs) (h0 : 0 < xs.length) : ∃ g, A = some ⟨g, 0, none⟩ ∧ S g ∧ g < w.heap.size := by
  rcases h with ⟨_, rfl⟩ | ⟨g, cap, cur, h1, h2, h3, _⟩
  · simp at h0
  · injection h1 with h1
    exact ⟨g, h1, h2, blk_lt h3⟩
/-- A store into it. -/
theorem Buf.set {k : IntKind} {e : Nat} {w : World} {S : Nat → Prop} {g n c : Nat} {xs : List Int} (h : Buf k e w S (.slice (some ⟨g, 0, none⟩) n c) xs) (j : Nat) (hj : j < xs.length) (x : Int) : Buf k e (w.setCell ⟨g, j, none⟩ (.int k x)) S (.slice (some ⟨g, 0, none⟩) n c) (xs.set j x) := by
  rcases h with ⟨_, rfl⟩ | ⟨g', cap, cur, h1, h2, h3, h4, h5, h6, h7⟩
  · simp at hj
  · injection h1 with h1 h1' h1''
    injection h1 with h1
    injection h1 with h1
    subst h1 h1' h1''
    refine .inr ⟨g, c, _, by rw [List.length_set], h2, heap_setCell_same w g j cur e _ h3, by rw [List.length_set]; exact h4, h5, by simpa using h6, ?_⟩
    rw [List.length_set]
    have e1 : nums k (xs.set j x) = (nums k xs).set j (.int k x) := by simp [nums, List.map_set]
    rw [e1, ← h7]
    simp [List.take_set]
/-- One of its cells. -/
theorem Buf.at {k : IntKind} {e : Nat} {w : World} {S : Nat → Prop} {g n c : Nat} {xs : List Int} (h : Buf k e w S (.slice (some ⟨g, 0, none⟩) n c) xs) {j : Nat} (hj : j < xs.length) : ∃ x, xs[j]? = some x ∧ w.cell? ⟨g, j, none⟩ = some (.int k x) ∧ w.frozen? ⟨g, j, none⟩ = false := by
  rcases h with ⟨_, rfl⟩ | ⟨g', cap, cur, h1, h2, h3, h4, h5, h6, h7⟩
  · simp at hj
  · injection h1 with h1 h1' h1''
    injection h1 with h1
    injection h1 with h1
    subst h1 h1' h1''
    have hx := List.getElem?_eq_getElem hj
    have h8 := Buf.cell (cap := c) h3 h7 hx
    have hadd : (⟨g, 0, none⟩ : Addr).add j = ⟨g, j, none⟩ := by unfold Addr.add; split <;> simp_all
    rw [hadd] at h8
    exact ⟨_, hx, h8, blk_frozen h3 j⟩
/-- x[i:], where something is left. -/
theorem slice_tail {P : Program} (t e : TypeId) (kl : IntKind) {i : TypeInfo} (ht : P.underlying t = some (.slice e)) (hi : P.info? e = some i) (hsz : i.size = 1) (g n c : Nat) (j : Int) (h0 : 0 ≤ j) (h1 : j < n) (h2 : n ≤ c) (W : World) :
    (Instr.slice t (.slice (some ⟨g, 0, none⟩) n c) (some (.int kl j)) none none).run P W = .ok (.slice (some ⟨g, j.toNat, none⟩) (n - j.toNat) (c - j.toNat)) W := by
  rw [cut_from t e kl ht hi 1 hsz (some ⟨g, 0, none⟩) n c j h0 (by omega) W, if_neg (by omega)]
  simp only [Option.map_some, Nat.mul_one]
  congr 3
  unfold Addr.add
  split <;> simp_all
section
variable {P : Program} {o : Oper} {a : Act} {K : Act → World → Prop} {Q : Exit → Act → World → Prop}
/-- A builtin of two arguments, as a step. -/
theorem wp_copy {w w1 : World} (s x : Operand) (t t' : TypeId) (ho : o.op = .call { callee := .builtin .copy, args := #[s, x], argTypes := #[t, t'] }) (v u r : Value) (hs : a.eval s = v) (hx : a.eval x = u)
    (hr : (Builtin.copy_ #[t, t'] o.type #[v, u]).run P w = .ok r w1) (h : K (a.put o.dst r) w1) : Oper.wp P o a w K Q := by
  unfold Oper.wp execOp
  simp only [ho, resolve, invoke, builtin, Sem.run_bind, Sem.run_pure, Result.andThen_ok, List.map_toArray, List.map_cons, List.map_nil, hs, hx, hr]
  exact h
end
/-- A literal's row, marked or not. -/
theorem C_litM (k : IntKind) (e : Nat) (w : World) (xs : List Int) (fr : Nat × Nat) (h : xs.length ≤ 9223372036854775807) : (Kd.int k).C (w.alloc (.cells (xs.map (Value.int k)).toArray e fr)) (some ⟨w.heap.size, 0, none⟩) xs.length xs := by
  refine ⟨rfl, h, fun _ => ⟨_, rfl, fun j p hj => ⟨[.int k p], rfl, rfl, fun i u hu => ?_⟩⟩⟩
  obtain ⟨hi, rfl⟩ : i = 0 ∧ u = .int k p := by
    rcases i with _ | i
    · exact ⟨rfl, by simpa using hu.symm⟩
    · simp at hu
  subst hi
  show (w.alloc _).cell? (Addr.add _ (j * 1 + 0)) = _
  rw [Nat.mul_one, Nat.add_zero]
  have hadd : (⟨w.heap.size, 0, none⟩ : Addr).add j = ⟨w.heap.size, j, none⟩ := by unfold Addr.add; split <;> simp_all
  rw [hadd, cell_of_row _ w.heap.size j _ e fr (heap_alloc_new _ _)]
  simp [hj]
/-- x[:j:j]. -/
theorem slice_cap {P : Program} (t e : TypeId) (kh km : IntKind) {i : TypeInfo} (ht : P.underlying t = some (.slice e)) (hi : P.info? e = some i) (A : Option Addr) (n c : Nat) (j : Int) (h0 : 0 ≤ j) (h1 : j ≤ c) (W : World) :
    (Instr.slice t (.slice A n c) none (some (.int kh j)) (some (.int km j))).run P W = .ok (.slice A j.toNat j.toNat) W := by
  have hel : P.elem t = e := by simp [Program.elem, ht]
  have hu : P.underlying t = some (.slice (P.elem t)) := by rw [hel]; exact ht
  have ha : (A.map fun x => x.add 0) = A := by cases A <;> simp [Addr.add]
  rw [run_slice_hm W t A n c hu kh km j j h0 (Int.le_refl _) h1, hel]
  simp [sizeOf, typeInfo, hi, sliced, Result.andThen, ha]
end Go.Proofs.Ytmkkebllmmafmaa.B
