/- Contracts and plain facts that the statements' proofs use (part 10). -/
import Derived.Test.YtnckonglodmfeaaN4
import Derived.Test.YtnckonglodmfeaaN8
import Derived.Test.YtnckonglodmfeaaN9
set_option linter.unusedVariables false
set_option linter.unusedSimpArgs false
namespace Go.Proofs.Ytnckonglodmfeaa.Ik
open Go.RowKit Go.Proofs.YtnckonglodmfeaaW.PrintWords Go.Proofs.YtnckonglodmfeaaW.PrintLast Go.Proofs.YtnckonglodmfeaaW.PrintMore B R S Is
theorem row_at {α : Type} {d : Kd α} {e : Nat} {w : World} {base : Nat} {ok : Nat → Prop} {ad : Addr} {n c : Nat} {xs : List α} (h : d.R e w base ok (.slice (some ad) n c) xs) {j : Nat} {x : α} (hj : xs[j]? = some x) :
 ∃ cs, d.M w base (fun k => ok k ∧ k ≠ ad.block) x cs ∧ (∀ i, i < d.sz → w.cell? (ad.add (j * d.sz + i)) = cs[i]?) ∧ base ≤ ad.block ∧ ad.block < w.heap.size ∧ (∀ m, ad.add m = ⟨ad.block, m, none⟩) ∧ ∀ i, w.frozen? ⟨ad.block, i, none⟩ = false := by
 obtain ⟨h0, inner, ⟨hl, ho⟩, hr1, hr2⟩ := h
 have hlt := (List.getElem?_eq_some_iff.1 hj).1
 rcases ho with ⟨ho, -⟩ | ⟨g, cap, cur, ho, hg, hh, h1, h2, h3, h4⟩
 · exact absurd ho (by simp)
 · injection ho with e1 e2 e3
   injection e1 with e1
   subst e1 e3
   refine ⟨_, d.M_mono (fun k hk => ⟨hk.1, fun e => hk.2 (by rw [e]; rfl)⟩) (hr2 j x hj), fun i hi => ?_, hg, blk_lt hh, add_plain g, fun i => blk_frozen hh i⟩
   have hb : j * d.sz + i < xs.length * d.sz := by
    have : (j + 1) * d.sz ≤ xs.length * d.sz := Nat.mul_le_mul_right _ hlt
    rw [Nat.add_mul] at this
    omega
   rw [add_plain, blk_cell hh, List.getElem?_take, if_pos hi, List.getElem?_drop, ← h4, List.getElem?_take, if_pos hb, Array.getElem?_toList]
theorem blk_own {w : World} {base : Nat} {ok : Nat → Prop} {ad : Addr} {n c : Nat} {l : List Blk} (h : kBlk.R 84 w base ok (.slice (some ad) n c) l) {j : Nat} {is : List Ins} {k a t s : Int} (hj : l[j]? = some (is, k, a, t, s)) :
 ∃ A c1, (w.cell? (ad.add (j * 5)) = some (.slice A is.length c1) ∧ w.cell? ⟨(ad.add (j * 5)).block, (ad.add (j * 5)).off + 1, none⟩ = some (.int .u8 k) ∧ w.cell? ⟨(ad.add (j * 5)).block, (ad.add (j * 5)).off + 2, none⟩ = some (.int .i64 a)) ∧ is.length ≤ c1 ∧ kIns.R 92 w base (fun k => ok k ∧ k ≠ ad.block) (.slice A is.length c1) is ∧ base ≤ (ad.add (j * 5)).block ∧ (ad.add (j * 5)).block < w.heap.size ∧ w.frozen? (ad.add (j * 5)) = false ∧ ∀ i, w.frozen? ⟨(ad.add (j * 5)).block, i, none⟩ = false := by
 obtain ⟨cs, hM, hc, hb, hlt, hadd, hf⟩ := row_at h hj
 obtain ⟨c0, c1, rfl, ⟨u, rfl, hR⟩, hE⟩ := hM
 obtain ⟨A, c1', rfl, hlc, -⟩ := Kd.R_reads hR
 have he := end_K (kEnd.K_of_M hE)
 subst he
 have x0 := hc 0 (by decide)
 have x1 := hc 1 (by decide)
 have x2 := hc 2 (by decide)
 have h5 : kBlk.sz = 5 := rfl
 rw [h5] at x0 x1 x2
 refine ⟨A, c1', ⟨x0, ?_, ?_⟩, hlc, hR, by rw [hadd]; exact hb, by rw [hadd]; exact hlt, by rw [hadd]; exact hf _, fun i => by rw [hadd]; exact hf i⟩
 · rw [← add_field _ _ _ (by decide)]; exact x1
 · rw [← add_field _ _ _ (by decide)]; exact x2
theorem ins_own {w : World} {base : Nat} {ok : Nat → Prop} {ad : Addr} {n c : Nat} {l : List Ins} (h : kIns.R 92 w base ok (.slice (some ad) n c) l) {j : Nat} {k op d a b m : Int} {args : List Int} (hj : l[j]? = some (k, op, d, a, b, m, args)) :
 ∃ A c1, (w.cell? ⟨(ad.add (j * 7)).block, (ad.add (j * 7)).off + 2, none⟩ = some (.int .i64 d) ∧ w.cell? ⟨(ad.add (j * 7)).block, (ad.add (j * 7)).off + 3, none⟩ = some (.int .i64 a) ∧ w.cell? ⟨(ad.add (j * 7)).block, (ad.add (j * 7)).off + 4, none⟩ = some (.int .i64 b) ∧ w.cell? ⟨(ad.add (j * 7)).block, (ad.add (j * 7)).off + 6, none⟩ = some (.slice A args.length c1)) ∧ args.length ≤ c1 ∧ kI.R 3 w base (fun k => ok k ∧ k ≠ ad.block) (.slice A args.length c1) args ∧ base ≤ (ad.add (j * 7)).block ∧ (ad.add (j * 7)).block < w.heap.size ∧ ∀ i, w.frozen? ⟨(ad.add (j * 7)).block, i, none⟩ = false := by
 obtain ⟨cs, hM, hc, hb, hlt, hadd, hf⟩ := row_at h hj
 obtain ⟨c0, r0, rfl, h0, c1, r1, rfl, h1, c2, r2, rfl, h2, c3, r3, rfl, h3, c4, r4, rfl, h4, c5, r5, rfl, h5, u, rfl, hR⟩ := hM
 obtain ⟨A, c1', rfl, hlc, -⟩ := Kd.R_reads hR
 have e0 : c0 = [.int .u8 k] := h0
 have e1 : c1 = [.int .u8 op] := h1
 have e2 : c2 = [.int .i64 d] := h2
 have e3 : c3 = [.int .i64 a] := h3
 have e4 : c4 = [.int .i64 b] := h4
 have e5 : c5 = [.int .i64 m] := h5
 subst e0 e1 e2 e3 e4 e5
 have x2 := hc 2 (by decide)
 have x3 := hc 3 (by decide)
 have x4 := hc 4 (by decide)
 have x6 := hc 6 (by decide)
 have h7 : kIns.sz = 7 := rfl
 rw [h7] at x2 x3 x4 x6
 refine ⟨A, c1', ⟨?_, ?_, ?_, ?_⟩, hlc, hR, by rw [hadd]; exact hb, by rw [hadd]; exact hlt, fun i => by rw [hadd]; exact hf i⟩
 · rw [← add_field _ _ _ (by decide)]; exact x2
 · rw [← add_field _ _ _ (by decide)]; exact x3
 · rw [← add_field _ _ _ (by decide)]; exact x4
 · rw [← add_field _ _ _ (by decide)]; exact x6
theorem int_own {w : World} {base : Nat} {ok : Nat → Prop} {ad : Addr} {n c : Nat} {l : List Int} (h : kI.R 3 w base ok (.slice (some ad) n c) l) {j : Nat} {x : Int} (hj : l[j]? = some x) :
 w.cell? (ad.add j) = some (.int .i64 x) ∧ base ≤ (ad.add j).block ∧ w.frozen? (ad.add j) = false ∧ ad.add j = ⟨(ad.add j).block, (ad.add j).off, none⟩ := by
 obtain ⟨cs, hM, hc, hb, hlt, hadd, hf⟩ := row_at h hj
 have e0 : cs = [.int .i64 x] := hM
 subst e0
 have x0 := hc 0 (by decide)
 have h1 : kI.sz = 1 := rfl
 rw [h1, Nat.mul_one] at x0
 refine ⟨x0, by rw [hadd]; exact hb, by rw [hadd]; exact hf _, by rw [hadd]⟩
theorem keep_drews5 {S : Nat → Prop} {a b : World} (h : Keep S a b) : Keep S a.drew b.drew := ⟨h.os, h.tape, h.output, h.size, h.block⟩
theorem keep_cell {W W' : World} {a : Addr} {v : Value} (h : Keep (fun _ => False) W W') (hc : W.cell? a = some v) : W'.cell? a = some v :=
 pw_cell_below (h.below (Nat.le_refl _) (fun _ _ => id)) hc
structure M5 (w W : World) (p R S : Int) (ad : Addr) (cap n : Nat) (l : List Blk) : Prop where
 res : W.heap[w.heap.size + 1]? = some (.cells #[.int .i64 0, .int .i64 0, .int .i64 0, .slice none 0 0] 54 (0, 0))
 box : W.heap[w.heap.size + 1 + 1]? = some (.cells #[.int .i64 p, .int .i64 R, .int .i64 S, .slice (some ad) n cap] 54 (0, 0))
 rows : kBlk.R 84 W (w.heap.size + 3) (fun _ => True) (.slice (some ad) n cap) l
 len : l.length = n
 below : Below w.heap.size w W
theorem M5.keep {w W W' : World} {p R S : Int} {ad : Addr} {cap n : Nat} {l : List Blk} (h : M5 w W p R S ad cap n l) (hk : Keep (fun _ => False) W W') : M5 w W' p R S ad cap n l := by
 have hb : Below W.heap.size W W' := hk.below (Nat.le_refl _) (fun _ _ => id)
 exact ⟨(hb.block _ (blk_lt h.res)).trans h.res, (hb.block _ (blk_lt h.box)).trans h.box, Kd.R_below h.rows hb, h.len, h.below.trans (hb.mono h.below.size)⟩
theorem M5.drew {w W : World} {p R S : Int} {ad : Addr} {cap n : Nat} {l : List Blk} (h : M5 w W p R S ad cap n l) : M5 w W.drew p R S ad cap n l := h.keep (Keep.refl _ W).drew
theorem M5.store {w W : World} {p R S : Int} {ad : Addr} {cap n : Nat} {l : List Blk} (h : M5 w W p R S ad cap n l) {g o : Nat} {u v : Int} (hc : W.cell? ⟨g, o, none⟩ = some (.int .i64 u)) (hg : w.heap.size + 3 ≤ g) :
 ∃ l', M5 w (W.setCell ⟨g, o, none⟩ (.int .i64 v)) p R S ad cap n l' ∧ RowTo (BlkTo u v) l l' := by
 obtain ⟨l', h1, h2⟩ := soft_blks (v := v) h.rows hc
 exact ⟨l', ⟨(Below.heap_setCell _ _ _ _ (show w.heap.size + 1 ≠ g by omega)).trans h.res, (Below.heap_setCell _ _ _ _ (show w.heap.size + 1 + 1 ≠ g by omega)).trans h.box, h1, h2.1.trans h.len, h.below.setCell (p := ⟨g, o, none⟩) (by show w.heap.size ≤ g; omega) _⟩, h2⟩
def InsAt (W : World) (ad : Addr) (b : Nat) (adI : Addr) (m cI : Nat) : Prop := W.cell? (ad.add (b * 5)) = some (.slice (some adI) m cI)
theorem cell_set {W : World} {g o : Nat} {u v : Int} {a : Addr} {A : Option Addr} {m c : Nat} (hc : W.cell? ⟨g, o, none⟩ = some (.int .i64 u)) (h : W.cell? a = some (.slice A m c)) : (W.setCell ⟨g, o, none⟩ (.int .i64 v)).cell? a = some (.slice A m c) := by
 have hne : a ≠ ⟨g, o, none⟩ := by
  intro e
  rw [e, hc] at h
  exact absurd h (by simp)
 rw [← h]
 exact World.cell?_setCell_other _ _ _ _ (fun e => hne e.symm)
def P5 (w W : World) (p R S : Int) (ad : Addr) (cap n b k f : Nat) (adI : Addr) (m cI na : Nat) : Prop :=
 ∃ l is e i, M5 w W p R S ad cap n l ∧ l[b]? = some (is, e) ∧ is.length = m ∧ is[k]? = some i ∧ i.2.2.2.2.2.2.length = na ∧ InsAt W ad b adI m cI ∧ UpTo R l b k f ∧ ∀ x ∈ l, PreB n x
def Q5 (w W : World) (p R S : Int) (ad : Addr) (cap n b k m : Nat) : Prop :=
 ∃ l is e, M5 w W p R S ad cap n l ∧ l[b]? = some (is, e) ∧ is.length = m ∧ UpTo R l b k 0 ∧ ∀ x ∈ l, PreB n x
def E5 (w W : World) (p R S : Int) (ad : Addr) (cap n b : Nat) : Prop :=
 ∃ l, M5 w W p R S ad cap n l ∧ UpTo R l b 0 0 ∧ ∀ x ∈ l, PreB n x
theorem P5.keep {w W W' : World} {p R S : Int} {ad : Addr} {cap n b k f : Nat} {adI : Addr} {m cI na : Nat} (h : P5 w W p R S ad cap n b k f adI m cI na) (hk : Keep (fun _ => False) W W') : P5 w W' p R S ad cap n b k f adI m cI na := by
 obtain ⟨l, is, e, i, h1, h2, h3, h4, h5, h6, h7, h8⟩ := h
 exact ⟨l, is, e, i, h1.keep hk, h2, h3, h4, h5, keep_cell hk h6, h7, h8⟩
theorem Q5.keep {w W W' : World} {p R S : Int} {ad : Addr} {cap n b k m : Nat} (h : Q5 w W p R S ad cap n b k m) (hk : Keep (fun _ => False) W W') : Q5 w W' p R S ad cap n b k m := by
 obtain ⟨l, is, e, h1, h2, h3, h4, h5⟩ := h
 exact ⟨l, is, e, h1.keep hk, h2, h3, h4, h5⟩
theorem E5.keep {w W W' : World} {p R S : Int} {ad : Addr} {cap n b : Nat} (h : E5 w W p R S ad cap n b) (hk : Keep (fun _ => False) W W') : E5 w W' p R S ad cap n b := by
 obtain ⟨l, h1, h2, h3⟩ := h
 exact ⟨l, h1.keep hk, h2, h3⟩
theorem M5.reg {w W : World} {p R S : Int} {ad : Addr} {cap n : Nat} {l : List Blk} (h : M5 w W p R S ad cap n l) : W.cell? ⟨w.heap.size + 1 + 1, 0, none⟩ = some (.int .i64 p) ∧ W.cell? ⟨w.heap.size + 1 + 1, 1, none⟩ = some (.int .i64 R) ∧ W.cell? ⟨w.heap.size + 1 + 1, 2, none⟩ = some (.int .i64 S) ∧ W.cell? ⟨w.heap.size + 1 + 1, 3, none⟩ = some (.slice (some ad) n cap) :=
 ⟨cell_at h.box 0 _ rfl, cell_at h.box 1 _ rfl, cell_at h.box 2 _ rfl, cell_at h.box 3 _ rfl⟩
theorem P5.reg {w W : World} {p R S : Int} {ad : Addr} {cap n b k f : Nat} {adI : Addr} {m cI na : Nat} (h : P5 w W p R S ad cap n b k f adI m cI na) : W.cell? ⟨w.heap.size + 1 + 1, 1, none⟩ = some (.int .i64 R) := by
 obtain ⟨l, is, e, i, h1, -⟩ := h
 exact h1.reg.2.1
theorem P5.drew {w W : World} {p R S : Int} {ad : Addr} {cap n b k f : Nat} {adI : Addr} {m cI na : Nat} (h : P5 w W p R S ad cap n b k f adI m cI na) : P5 w W.drew p R S ad cap n b k f adI m cI na := h.keep (Keep.refl _ W).drew
theorem Q5.reg {w W : World} {p R S : Int} {ad : Addr} {cap n b k m : Nat} (h : Q5 w W p R S ad cap n b k m) : W.cell? ⟨w.heap.size + 1 + 1, 1, none⟩ = some (.int .i64 R) := by
 obtain ⟨l, is, e, h1, -⟩ := h
 exact h1.reg.2.1
theorem E5.reg {w W : World} {p R S : Int} {ad : Addr} {cap n b : Nat} (h : E5 w W p R S ad cap n b) : W.cell? ⟨w.heap.size + 1 + 1, 3, none⟩ = some (.slice (some ad) n cap) := by
 obtain ⟨l, h1, -⟩ := h
 exact h1.reg.2.2.2
theorem E5.open {w W : World} {p R S : Int} {ad : Addr} {cap n b : Nat} (h : E5 w W p R S ad cap n b) (hb : b < n) : ∃ m A c, m ≤ 8 ∧ W.cell? (ad.add (b * 5)) = some (.slice A m c) ∧ Q5 w W p R S ad cap n b 0 m := by
 obtain ⟨l, h1, h2, h3⟩ := h
 have hbl : b < l.length := by rw [h1.len]; exact hb
 obtain ⟨⟨is, k, a, t, s⟩, hx⟩ : ∃ x, l[b]? = some x := ⟨_, List.getElem?_eq_getElem hbl⟩
 obtain ⟨A, c1, ⟨x0, -⟩, -⟩ := blk_own h1.rows hx
 exact ⟨is.length, A, c1, (h3 _ (List.mem_of_getElem? hx)).1, x0, l, is, _, h1, hx, rfl, h2, h3⟩
theorem Q5.open {w W : World} {p R S : Int} {ad : Addr} {cap n b k m : Nat} (h : Q5 w W p R S ad cap n b k m) (hk : k < m) : ∃ adI cI na, na ≤ 3 ∧ m ≤ cI ∧ W.cell? (ad.add (b * 5)) = some (.slice (some adI) m cI) ∧ P5 w W p R S ad cap n b k 0 adI m cI na := by
 obtain ⟨l, is, ⟨ek, ea, et, es⟩, h1, h2, rfl, h4, h5⟩ := h
 obtain ⟨A, c1, ⟨x0, -⟩, hlc, hR, -⟩ := blk_own h1.rows h2
 obtain ⟨i, hi⟩ : ∃ i, is[k]? = some i := ⟨_, List.getElem?_eq_getElem hk⟩
 obtain ⟨g, rfl⟩ := R_head hR (by omega)
 have hp := (h5 _ (List.mem_of_getElem? h2)).2.1 _ (List.mem_of_getElem? hi)
 exact ⟨_, c1, i.2.2.2.2.2.2.length, hp.2.2.2.1, hlc, x0, l, is, _, i, h1, h2, rfl, hi, rfl, x0, h4, h5⟩
theorem P5.open {w W : World} {p R S : Int} {ad : Addr} {cap n b k f : Nat} {adI : Addr} {m cI na : Nat} (h : P5 w W p R S ad cap n b k f adI m cI na) :
 ∃ d a bb A c, (W.cell? ⟨(adI.add (k * 7)).block, (adI.add (k * 7)).off + 2, none⟩ = some (.int .i64 d) ∧ W.cell? ⟨(adI.add (k * 7)).block, (adI.add (k * 7)).off + 3, none⟩ = some (.int .i64 a) ∧ W.cell? ⟨(adI.add (k * 7)).block, (adI.add (k * 7)).off + 4, none⟩ = some (.int .i64 bb) ∧ W.cell? ⟨(adI.add (k * 7)).block, (adI.add (k * 7)).off + 6, none⟩ = some (.slice A na c)) ∧ (0 ≤ d ∧ I64 d) ∧ (0 ≤ a ∧ I64 a) ∧ (0 ≤ bb ∧ I64 bb) ∧ na ≤ c ∧ (∀ i, W.frozen? ⟨(adI.add (k * 7)).block, i, none⟩ = false) ∧ w.heap.size + 3 ≤ (adI.add (k * 7)).block := by
 obtain ⟨l, is, ⟨ek, ea, et, es⟩, ⟨kk, op, d, a, bb, nn, args⟩, h1, h2, h3, h4, h5, h6, h7, h8⟩ := h
 obtain ⟨A, c1, ⟨x0, -⟩, hlc, hR, -⟩ := blk_own h1.rows h2
 have e := h6.symm.trans x0
 injection e with e
 injection e with e1 e2 e3
 subst e1
 obtain ⟨A2, c2, hcs, hl2, hR2, hb2, hlt2, hf2⟩ := ins_own hR h4
 have hp := (h8 _ (List.mem_of_getElem? h2)).2.1 _ (List.mem_of_getElem? h4)
 obtain ⟨-, -, -, -, ⟨q1, q2, q3⟩, -, -, -, q4, q5, q6, -⟩ := hp
 simp only at h5 q1 q2 q3
 subst h5
 exact ⟨d, a, bb, A2, c2, hcs, ⟨q1, q4⟩, ⟨q2, q5⟩, ⟨q3, q6⟩, hl2, hf2, hb2⟩
theorem P5.frz {w W : World} {p R S : Int} {ad : Addr} {cap n b k f : Nat} {adI : Addr} {m cI na : Nat} (h : P5 w W p R S ad cap n b k f adI m cI na) (i : Nat) : W.frozen? ⟨(adI.add (k * 7)).block, i, none⟩ = false := by
 obtain ⟨_, _, _, _, _, -, -, -, -, -, hf, -⟩ := h.open
 exact hf i
theorem cell_far {W : World} {g o o' : Nat} {v u : Value} (hne : o ≠ o') (h : W.cell? ⟨g, o', none⟩ = some u) : (W.setCell ⟨g, o, none⟩ v).cell? ⟨g, o', none⟩ = some u := by
 rw [World.cell?_setCell_other _ _ _ _ (fun e => hne (by injection e))]
 exact h
theorem P5.store {w W : World} {p R S : Int} {ad : Addr} {cap n b k f : Nat} {adI : Addr} {m cI na : Nat} (h : P5 w W p R S ad cap n b k f adI m cI na) (hf : f < 3) {u v : Int} (hl : Less R u v)
 (hc : W.cell? ⟨(adI.add (k * 7)).block, (adI.add (k * 7)).off + (f + 2), none⟩ = some (.int .i64 u)) : P5 w (W.setCell ⟨(adI.add (k * 7)).block, (adI.add (k * 7)).off + (f + 2), none⟩ (.int .i64 v)) p R S ad cap n b k (f + 1) adI m cI na := by
 have hb0 : w.heap.size + 3 ≤ (adI.add (k * 7)).block := by
  obtain ⟨_, _, _, _, _, _, _, _, _, _, _, h9⟩ := h.open
  exact h9
 obtain ⟨l, is, e, i, h1, h2, h3, h4, h5, h6, h7, h8⟩ := h
 obtain ⟨l', g1, g2⟩ := h1.store (v := v) hc hb0
 obtain ⟨⟨is', ⟨ek, ea, et, es⟩⟩, g3, g4, g5⟩ := g2.get h2
 obtain ⟨⟨kk, op, d, a, bb, nn, args⟩, g6, g7⟩ := g4.get h4
 have g4l : is'.length = is.length := g4.1
 have hat := cell_set (v := v) hc h6
 obtain ⟨A, c1, ⟨x0, -⟩, hlc, hR, -⟩ := blk_own g1.rows g3
 have e := hat.symm.trans x0
 injection e with e
 injection e with e1 e2 e3
 subst e1
 obtain ⟨A2, c2, ⟨y2, y3, y4, -⟩, -⟩ := ins_own hR g6
 have hself : (W.setCell ⟨(adI.add (k * 7)).block, (adI.add (k * 7)).off + (f + 2), none⟩ (.int .i64 v)).cell? ⟨(adI.add (k * 7)).block, (adI.add (k * 7)).off + (f + 2), none⟩ = some (.int .i64 v) := World.cell?_setCell_same _ _ _ hc
 have hkl : k < is'.length := (List.getElem?_eq_some_iff.1 g6).1
 have hv : val l' b k f = some v := by
  unfold val valB
  rw [g3]
  simp only [Option.bind_some]
  rw [if_neg (show ¬ k = is'.length by omega), g6]
  rcases (by omega : f = 0 ∨ f = 1 ∨ f = 2) with rfl | rfl | rfl
  · have := y2.symm.trans hself
    injection this with this
    injection this with _ this
    rw [← this]; rfl
  · have := y3.symm.trans hself
    injection this with this
    injection this with _ this
    rw [← this]; rfl
  · have := y4.symm.trans hself
    injection this with this
    injection this with _ this
    rw [← this]; rfl
 exact ⟨l', is', _, _, g1, g3, by rw [g4l, h3], g6, by rw [g7.2.2.2.2.2.2.1, h5], hat, h7.step hl g2 hv, g2.all (fun x x' hh hx => PreB.to hl hh hx) h8⟩
theorem P5.arg {w W : World} {p R S : Int} {ad : Addr} {cap n b k j : Nat} {adI : Addr} {m cI na : Nat} (h : P5 w W p R S ad cap n b k (3 + j) adI m cI na) (hj : j < na) :
 ∃ adA c x, W.cell? ⟨(adI.add (k * 7)).block, (adI.add (k * 7)).off + 6, none⟩ = some (.slice (some adA) na c) ∧ W.cell? (adA.add j) = some (.int .i64 x) ∧ (0 ≤ x ∧ I64 x) ∧ na ≤ c ∧ W.frozen? (adA.add j) = false ∧ ∀ v, Less R x v → P5 w (W.setCell (adA.add j) (.int .i64 v)) p R S ad cap n b k (3 + (j + 1)) adI m cI na := by
 obtain ⟨l, is, ⟨ek, ea, et, es⟩, ⟨kk, op, d, a, bb, nn, args⟩, h1, h2, h3, h4, h5, h6, h7, h8⟩ := h
 obtain ⟨A, c1, ⟨x0, -⟩, hlc, hR, -⟩ := blk_own h1.rows h2
 have e := h6.symm.trans x0
 injection e with e
 injection e with e1 e2 e3
 subst e1
 obtain ⟨A2, c2, ⟨-, -, -, y6⟩, hl2, hR2, -⟩ := ins_own hR h4
 have hp := (h8 _ (List.mem_of_getElem? h2)).2.1 _ (List.mem_of_getElem? h4)
 obtain ⟨-, -, -, -, -, q1, -, -, -, -, -, -, q2⟩ := hp
 simp only at h5 q1 q2
 subst h5
 obtain ⟨x, hx⟩ : ∃ x, args[j]? = some x := ⟨_, List.getElem?_eq_getElem hj⟩
 obtain ⟨g, rfl⟩ := R_head hR2 (by omega)
 obtain ⟨z1, z2, z3, z4⟩ := int_own hR2 hx
 refine ⟨_, c2, x, y6, z1, ⟨q1 x (List.mem_of_getElem? hx), q2 x (List.mem_of_getElem? hx)⟩, hl2, z3, fun v hl => ?_⟩
 rw [z4] at z1 ⊢
 obtain ⟨l', g1, g2⟩ := h1.store (v := v) z1 z2
 obtain ⟨⟨is', ⟨ek', ea', et', es'⟩⟩, g3, g4, g5⟩ := g2.get h2
 obtain ⟨⟨kk', op', d', a', bb', nn', args'⟩, g6, g7⟩ := g4.get h4
 have g4l : is'.length = is.length := g4.1
 have g7l : args'.length = args.length := g7.2.2.2.2.2.2.1
 have hat := cell_set (v := v) z1 h6
 have hat6 := cell_set (v := v) z1 y6
 obtain ⟨A, c1, ⟨x0', -⟩, hlc', hR', -⟩ := blk_own g1.rows g3
 have e := hat.symm.trans x0'
 injection e with e
 injection e with e1 e2 e3
 subst e1
 obtain ⟨A3, c3, ⟨-, -, -, y6'⟩, hl3, hR3, -⟩ := ins_own hR' g6
 have e := hat6.symm.trans y6'
 injection e with e
 injection e with e1 e2 e3
 subst e1
 obtain ⟨x', hx'⟩ : ∃ x, args'[j]? = some x := ⟨_, List.getElem?_eq_getElem (by omega)⟩
 obtain ⟨z1', -⟩ := int_own hR3 hx'
 rw [z4] at z1'
 have hself := World.cell?_setCell_same _ _ (.int .i64 v) z1
 have e := hself.symm.trans z1'
 injection e with e
 injection e with _ e
 have hkl : k < is'.length := (List.getElem?_eq_some_iff.1 g6).1
 have hv : val l' b k (3 + j) = some v := by
  unfold val valB
  rw [g3]
  simp only [Option.bind_some]
  rw [if_neg (show ¬ k = is'.length by omega), g6]
  show fld (kk', op', d', a', bb', nn', args') (3 + j) = some v
  rw [Nat.add_comm 3 j]
  show args'[j]? = some v
  rw [hx', e]
 exact ⟨l', is', _, _, g1, g3, by rw [g4l, h3], g6, g7l, hat, h7.step hl g2 hv, g2.all (fun x x' hh hx => PreB.to hl hh hx) h8⟩
theorem P5.next {w W : World} {p R S : Int} {ad : Addr} {cap n b k : Nat} {adI : Addr} {m cI na : Nat} (h : P5 w W p R S ad cap n b k (3 + na) adI m cI na) : Q5 w W p R S ad cap n b (k + 1) m := by
 obtain ⟨l, is, e, i, h1, h2, h3, h4, h5, h6, h7, h8⟩ := h
 exact ⟨l, is, e, h1, h2, h3, UpTo.ins h2 h4 (by rw [h5]; exact h7), h8⟩
theorem Q5.end_ {w W : World} {p R S : Int} {ad : Addr} {cap n b m : Nat} (h : Q5 w W p R S ad cap n b m m) :
 ∃ a, W.cell? ⟨(ad.add (b * 5)).block, (ad.add (b * 5)).off + 2, none⟩ = some (.int .i64 a) ∧ (0 ≤ a ∧ I64 a) ∧ (∀ i, W.frozen? ⟨(ad.add (b * 5)).block, i, none⟩ = false) ∧ ∀ v, Less R a v → E5 w (W.setCell ⟨(ad.add (b * 5)).block, (ad.add (b * 5)).off + 2, none⟩ (.int .i64 v)) p R S ad cap n (b + 1) := by
 obtain ⟨l, is, ⟨ek, ea, et, es⟩, h1, h2, rfl, h4, h5⟩ := h
 obtain ⟨A, c1, ⟨x0, -, x2⟩, hlc, hR, hb, -, -, hfz⟩ := blk_own h1.rows h2
 obtain ⟨-, -, -, q1, -, -, -, q2, -⟩ := (h5 _ (List.mem_of_getElem? h2)).2.2
 refine ⟨ea, x2, ⟨q1, q2⟩, hfz, fun v hl => ?_⟩
 obtain ⟨l', g1, g2⟩ := h1.store (v := v) x2 hb
 obtain ⟨⟨is', ⟨ek', ea', et', es'⟩⟩, g3, g4, g5⟩ := g2.get h2
 have g4l : is'.length = is.length := g4.1
 obtain ⟨A', c1', ⟨-, -, x2'⟩, -⟩ := blk_own g1.rows g3
 have hself := World.cell?_setCell_same _ _ (.int .i64 v) x2
 have e := hself.symm.trans x2'
 injection e with e
 injection e with _ e
 have hv : val l' b is.length 0 = some v := by
  unfold val valB
  rw [g3]
  simp only [Option.bind_some]
  rw [if_pos g4l.symm]
  simp [e]
 have hs := h4.step hl g2 hv
 rw [← g4l] at hs
 exact ⟨l', g1, hs.blk g3, g2.all (fun x x' hh hx => PreB.to hl hh hx) h5⟩
def C5 (w W : World) (p R S : Int) (ad : Addr) (cap n c : Nat) : Prop := ∃ l, M5 w W p R S ad cap n l ∧ ∀ x ∈ l, CodB R S n (8 + c) x
theorem E5.all {w W : World} {p R S : Int} {ad : Addr} {cap n : Nat} (hS : 0 ≤ S) (h : E5 w W p R S ad cap n n) : C5 w W p R S ad cap n 0 := by
 obtain ⟨l, h1, h2, h3⟩ := h
 have hf := UpTo.all (l := l) (R := R) (by rw [h1.len]; exact h2)
 refine ⟨l, h1, fun x hx => ?_⟩
 obtain ⟨f1, f2⟩ := hf x hx
 obtain ⟨p1, p2, p3⟩ := h3 x hx
 exact ⟨p1, fun i hi => cod_ins hS (p2 i hi) (f1 i hi), (cod_end p3 f2).1, (cod_end p3 f2).2⟩
theorem C5.keep {w W W' : World} {p R S : Int} {ad : Addr} {cap n c : Nat} (h : C5 w W p R S ad cap n c) (hk : Keep (fun _ => False) W W') : C5 w W' p R S ad cap n c := by
 obtain ⟨l, h1, h2⟩ := h
 exact ⟨l, h1.keep hk, h2⟩
theorem C5.reg {w W : World} {p R S : Int} {ad : Addr} {cap n c : Nat} (h : C5 w W p R S ad cap n c) : W.cell? ⟨w.heap.size + 1 + 1, 0, none⟩ = some (.int .i64 p) ∧ W.cell? ⟨w.heap.size + 1 + 1, 1, none⟩ = some (.int .i64 R) ∧ W.cell? ⟨w.heap.size + 1 + 1, 2, none⟩ = some (.int .i64 S) ∧ W.cell? ⟨w.heap.size + 1 + 1, 3, none⟩ = some (.slice (some ad) n cap) := by
 obtain ⟨l, h1, -⟩ := h
 exact h1.reg
theorem cod_spill {R S d a : Int} (hd : 0 ≤ d ∧ d < S) (ha : 0 ≤ a ∧ a < R) (hS : S ≤ 100) (hR : R ≤ 8) : CodI R S (7, 0, d, a, 0, 0, []) := by
 refine ⟨?_, ⟨by decide, by decide⟩, ⟨by decide, by decide⟩, ⟨by omega, by omega⟩, ⟨by omega, by omega⟩, ⟨by decide, by decide⟩, ⟨by decide, by decide⟩, fun x hx => absurd hx (by simp)⟩
 rw [ins_7 R S 0 d a 0 0 (by omega) [], if_neg (by simp), if_neg (by omega), if_neg (by omega)]
theorem cod_fill {R S d a : Int} (hd : 0 ≤ d ∧ d < R) (ha : 0 ≤ a ∧ a < S) (hS : S ≤ 100) (hR : R ≤ 8) : CodI R S (8, 0, d, a, 0, 0, []) := by
 refine ⟨?_, ⟨by decide, by decide⟩, ⟨by decide, by decide⟩, ⟨by omega, by omega⟩, ⟨by omega, by omega⟩, ⟨by decide, by decide⟩, ⟨by decide, by decide⟩, fun x hx => absurd hx (by simp)⟩
 rw [ins_8 R S 0 d a 0 0 (by omega) [], if_neg (by simp), if_neg (by omega), if_neg (by omega)]
theorem cod_put {R S : Int} {nb m k : Nat} {is : List Ins} {e : IEnd} {i : Ins} (h : CodB R S nb m (is, e)) (hi : CodI R S i) : CodB R S nb (m + 1) (is.take k ++ [i] ++ is.drop k, e) := by
 obtain ⟨h1, h2, h3⟩ := h
 have h1 : is.length ≤ m := h1
 refine ⟨?_, fun x hx => ?_, h3⟩
 · show (is.take k ++ [i] ++ is.drop k).length ≤ m + 1
   simp only [List.length_append, List.length_take, List.length_drop, List.length_cons, List.length_nil]
   omega
 · have hx : x ∈ is.take k ++ [i] ++ is.drop k := hx
   simp only [List.mem_append, List.mem_singleton] at hx
   rcases hx with (hx | rfl) | hx
   · exact h2 x (List.mem_of_mem_take hx)
   · exact hi
   · exact h2 x (List.mem_of_mem_drop hx)
theorem cod_more {R S : Int} {nb m : Nat} {b : Blk} (h : CodB R S nb m b) : CodB R S nb (m + 1) b := ⟨Nat.le_succ_of_le h.1, h.2⟩
theorem C5.put {w W : World} {p R S : Int} {ad : Addr} {cap n c : Nat} (h : C5 w W p R S ad cap n c) {b : Nat} (hb : b < n) :
 ∃ (A : Option Addr) (m cI : Nat) (is : List Ins), m ≤ 8 + c ∧ is.length = m ∧ W.cell? (ad.add (b * 5)) = some (.slice A m cI) ∧ m ≤ cI ∧ W.frozen? (ad.add (b * 5)) = false ∧ kIns.R 92 W (w.heap.size + 3) (fun _ => True) (.slice A m cI) is ∧
  ∀ (W' : World) (k : Nat) (i : Ins) (vi : Value), Keep (fun _ => False) W W' → CodI R S i → kIns.R 92 W' (w.heap.size + 3) (fun _ => True) vi (is.take k ++ [i] ++ is.drop k) → C5 w (W'.setCell (ad.add (b * 5)) vi) p R S ad cap n (c + 1) := by
 obtain ⟨l, h1, h2⟩ := h
 have hbl : b < l.length := by rw [h1.len]; exact hb
 obtain ⟨⟨is, ek, ea, et, es⟩, hx⟩ : ∃ x, l[b]? = some x := ⟨_, List.getElem?_eq_getElem hbl⟩
 obtain ⟨A, c1, ⟨x0, -⟩, hlc, hR, hb0, hlt, hfz, -⟩ := blk_own h1.rows hx
 have hcod := h2 _ (List.mem_of_getElem? hx)
 refine ⟨A, is.length, c1, is, hcod.1, rfl, x0, hlc, hfz, Kd.R_mono hR (fun _ _ => trivial), fun W' k i vi hk hi hvi => ?_⟩
 have h1' := h1.keep hk
 obtain ⟨g, rfl⟩ : ∃ g, ad = ⟨g, 0, none⟩ := by
  obtain ⟨g, hg⟩ := R_head h1.rows (by omega)
  injection hg with hg
  exact ⟨g, hg⟩
 rw [add_plain] at hlt hb0 ⊢
 have hlt : g < W.heap.size := hlt
 have hb0 : w.heap.size + 3 ≤ g := hb0
 obtain ⟨inner, how⟩ := Kd.R_own h1'.rows
 obtain ⟨cells, hcells⟩ := own_typed how g rfl
 have hset := blk_ins_set (is := is.take k ++ [i] ++ is.drop k) (vi := vi) h1'.rows hx (Kd.R_types hvi hcells (by decide))
 refine ⟨l.set b (is.take k ++ [i] ++ is.drop k, ek, ea, et, es), ⟨(Below.heap_setCell _ _ _ _ (show w.heap.size + 1 ≠ g by omega)).trans h1'.res, (Below.heap_setCell _ _ _ _ (show w.heap.size + 1 + 1 ≠ g by omega)).trans h1'.box, hset, by rw [List.length_set]; exact h1.len, h1'.below.setCell (p := ⟨g, b * 5, none⟩) (by show w.heap.size ≤ g; omega) _⟩, fun x hx' => ?_⟩
 rcases List.mem_or_eq_of_mem_set hx' with h3 | rfl
 · exact cod_more (h2 x h3)
 · exact cod_put hcod hi
theorem pre_ins {v : Int} {i : Ins} (h : GoodI v i) : PreI i := by
 obtain ⟨k, op, d, a, b, n, args⟩ := i
 obtain ⟨h1, h2, h3⟩ := h
 unfold insErr at h1
 simp only at h1 h3
 rw [if_pos (show (-1 : Int) < 0 by decide), if_pos (show (-1 : Int) < 0 by decide)] at h1
 split at h1
 · omega
 · rename_i c1
   split at h1
   · omega
   · rename_i c2
     split at h1
     · omega
     · rename_i c3
       have hp : plainB (k, op, d, a, b, n, args) = true := by
        cases hq : plainB (k, op, d, a, b, n, args) with
        | true => rfl
        | false => exact absurd (.inr (.inr (.inl hq))) c1
       have hp' := of_decide_eq_true hp
       rw [Bool.not_eq_true, List.any_eq_false] at c3
       have hall : ∀ x ∈ allL (k, op, d, a, b, n, args), 0 ≤ x := fun x hx => by
        have := c3 x hx
        unfold outB at this
        rw [decide_eq_true_iff] at this
        omega
       have hk : 1 ≤ k ∧ k ≤ 6 := by omega
       have hd : 0 ≤ d := by
        by_cases hg : k = 5
        · omega
        · exact hall d (by unfold allL givesB; simp only; rw [if_pos (by rw [decide_eq_true_iff]; omega)]; simp)
       have ha : 0 ≤ a := by
        by_cases hg : k = 1 ∨ k = 6
        · omega
        · refine hall a ?_
          unfold allL usesL
          simp only
          by_cases h24 : k = 2 ∨ k = 4 ∨ k = 7
          · rw [if_pos h24]; simp
          · rw [if_neg h24, if_pos (by omega)]; simp
       have hb : 0 ≤ b := by
        by_cases hg : k = 3 ∨ k = 5
        · refine hall b ?_
          unfold allL usesL
          simp only
          rw [if_neg (by omega), if_pos hg]; simp
        · omega
       refine ⟨hk, hp, fun e => (show 1 ≤ op ∧ op ≤ 7 from by have e : k = 3 := e; omega), h3, ⟨hd, ha, hb⟩, fun x hx => ?_, h2⟩
       by_cases hg : k = 6
       · refine hall x ?_
         unfold allL usesL
         simp only
         rw [if_neg (by omega), if_neg (by omega), if_pos hg]
         exact List.mem_append_left _ hx
       · exfalso
         have h0 : args.length = 0 := by omega
         rw [List.length_eq_zero_iff.1 h0] at hx
         exact absurd hx (by simp)
theorem pre_blk {v : Int} {n : Nat} {b : Blk} (h : GoodB v n b) : PreB n b := by
 obtain ⟨is, k, a, t, s⟩ := b
 obtain ⟨h1, h2, h3, h4⟩ := h
 refine ⟨h1, fun i hi => pre_ins (h2 i hi), ?_⟩
 unfold endErr at h4
 simp only at h4
 split at h4
 · omega
 · split at h4
   · omega
   · split at h4
     · omega
     · split at h4
       · omega
       · exact ⟨⟨by simp only; omega, by simp only; omega⟩, fun e => ⟨by simp only at *; omega, by simp only at *; omega⟩, fun e => ⟨by simp only at *; omega, by simp only at *; omega⟩, by simp only; omega, fun e => ⟨by simp only at *; omega, by simp only at *; omega⟩, fun e => ⟨by simp only at *; omega, by simp only at *; omega⟩, h3⟩
end Go.Proofs.Ytnckonglodmfeaa.Ik
namespace Go.Proofs.Ytnckonglodmfeaa.Ik
open Go.RowKit Go.Proofs.YtnckonglodmfeaaW.PrintWords Go.Proofs.YtnckonglodmfeaaW.PrintLast Go.Proofs.YtnckonglodmfeaaW.PrintMore B R S Is
theorem rows_append_wp {P : Program} {o : Oper} {a : Act} {Q : Exit → Act → World → Prop} {K : Act → World → Prop} {α : Type} (d : Kd α) {W : World} (base : Nat) (hw : Region.wanted o (yielded #[] a.tmps) = true) (s x : Operand) (t e : TypeId) (z : Value) (bytes : Nat)
 (ho : o.op = .call { callee := .builtin .append, args := #[s, x], argTypes := #[t, t] })
 (ht : P.underlying t = some (.slice e)) (hinfo : (P.info? e).map (fun i => (i.zero, i.size, i.bytes)) = some (some z, d.sz, bytes)) (hz : z.cells.size = d.sz) (hs0 : 0 < d.sz) (hb0 : 0 < bytes)
 (v : Value) (xs ys : List α) (A : Option Addr) (m c : Nat) (okp : Nat → Prop) (hs : a.eval s = v) (hx : a.eval x = .slice A m c)
 (HO : d.R e W base (fun _ => True) v xs) (HR : ReadsRow (d.M W base okp) d.sz W A m ys) (hokp : ∀ k, okp k → some k ≠ v.ownBlock)
 (hbase : base ≤ W.heap.size) (hl : (xs.length + m) * bytes ≤ 140737488355328)
 (h : ∀ v1 w1, d.R e w1 base (fun _ => True) v1 (xs ++ ys) → W.grownBy w1 v.ownBlock → (v1.ownBlock = v.ownBlock ∨ ∃ b, v1.ownBlock = some b ∧ W.heap.size ≤ b) → K (a.put o.dst v1) w1) :
 Oper.wp P o a W K Q := by
 have h1 := Kd.R_append_rows_step (P := P) (ops := #[]) (o := o) (a := a) (Q := Q) (Kc := K) d (w0 := W) (W := W) (Rr := d.M W base okp) base hw s x t e z bytes ho ht hinfo hz hs0 hb0 v xs ys A m c (fun _ => True) okp hs hx HO HR (fun _ _ h => h) (fun k hk => ⟨trivial, hokp k hk⟩) (fun _ _ => trivial) (Below.refl _ _) hbase hl (fun v1 w1 g1 _ g3 g4 => h v1 w1 g1 g3 g4)
 rw [if_pos hw] at h1
 exact h1
theorem rows_read {α : Type} {d : Kd α} {e : Nat} {w : World} {base : Nat} {A : Option Addr} {n c : Nat} {xs : List α} (h : d.R e w base (fun _ => True) (.slice A n c) xs) : ReadsRow (d.M w base (fun k => k < w.heap.size)) d.sz w A n xs := by
 obtain ⟨A', c', he, -, hr⟩ := OwnRow.reads (Kd.R_bound h).2
 injection he with e1 e2 e3
 subst e1 e2
 exact hr.imp_ (Below.refl _ _) (fun x cs hp => d.M_mono (fun k hk => hk.1.2.2.1) hp)
theorem reads_take {α : Type} {R : α → List Value → Prop} {size : Nat} {w : World} {A : Option Addr} {n : Nat} {xs : List α} (h : ReadsRow R size w A n xs) {k : Nat} (hk : k ≤ n) : ReadsRow R size w A k (xs.take k) := by
 obtain ⟨h1, h2, h3⟩ := h
 refine ⟨by rw [List.length_take]; omega, by omega, fun hp => ?_⟩
 obtain ⟨ad, e, hc⟩ := h3 (by omega)
 refine ⟨ad, e, fun j p hj => hc j p ?_⟩
 rw [List.getElem?_take] at hj
 split at hj
 · exact hj
 · exact absurd hj (by simp)
theorem reads_drop {α : Type} {R : α → List Value → Prop} {size : Nat} {w : World} {A : Option Addr} {n c : Nat} {xs : List α} (h : ReadsRow R size w A n xs) {k : Nat} (hk : k ≤ n) (hnc : n ≤ c) : ReadsRow R size w (if c = k then A else A.map (·.add (k * size))) (n - k) (xs.drop k) := by
 obtain ⟨h1, h2, h3⟩ := h
 refine ⟨by rw [List.length_drop]; omega, by omega, fun hp => ?_⟩
 obtain ⟨ad, e, hc⟩ := h3 (by omega)
 subst e
 rw [if_neg (by omega)]
 refine ⟨ad.add (k * size), rfl, fun j p hj => ?_⟩
 rw [List.getElem?_drop] at hj
 obtain ⟨c', g1, g2, g3⟩ := hc (k + j) p hj
 refine ⟨c', g1, g2, fun i u hu => ?_⟩
 rw [← g3 i u hu]
 have : (ad.add (k * size)).add (j * size + i) = ad.add ((k + j) * size + i) := by
  rw [Addr.add_add]
  congr 1
  rw [Nat.add_mul]
  omega
 rw [this]
theorem reads_keep {α : Type} {d : Kd α} {w w' : World} {base N : Nat} {A : Option Addr} {n : Nat} {xs : List α} (h : ReadsRow (d.M w base (fun k => k < N)) d.sz w A n xs) (hk : Keep (fun _ => False) w w') : ReadsRow (d.M w' base (fun k => k < N)) d.sz w' A n xs :=
 h.imp_ (hk.below (Nat.le_refl _) (fun _ _ => id)) (fun x cs hp => Kd.M_below hp (hk.below (Nat.le_refl _) (fun _ _ => id)))
theorem lit_one (W : World) (base : Nat) (k op d a b n : Int) : ReadsRow (kIns.M (W.alloc (.cells #[.int .u8 k, .int .u8 op, .int .i64 d, .int .i64 a, .int .i64 b, .int .i64 n, .slice none 0 0] 92)) base (fun _ => False)) kIns.sz (W.alloc (.cells #[.int .u8 k, .int .u8 op, .int .i64 d, .int .i64 a, .int .i64 b, .int .i64 n, .slice none 0 0] 92)) (some ⟨W.heap.size, 0, none⟩) 1 [(k, op, d, a, b, n, [])] := by
 refine ⟨rfl, by decide, fun _ => ⟨_, rfl, fun j p hj => ?_⟩⟩
 obtain ⟨rfl, rfl⟩ : j = 0 ∧ p = (k, op, d, a, b, n, []) := by
  rcases j with _ | j
  · exact ⟨rfl, by simpa using hj.symm⟩
  · simp at hj
 refine ⟨_, rfl, ins_M (Kd.R_nil _ _ _ _ _), fun i u hu => ?_⟩
 rw [Nat.zero_mul, Nat.zero_add, add_plain, blk_cell (heap_alloc_new _ _)]
 rw [← hu]
 simp
theorem M_false {α : Type} {d : Kd α} {w : World} {base : Nat} {A : Option Addr} {n N : Nat} {xs : List α} (h : ReadsRow (d.M w base (fun _ => False)) d.sz w A n xs) : ReadsRow (d.M w base (fun k => k < N)) d.sz w A n xs :=
 h.imp_ (Below.refl _ _) (fun x cs hp => d.M_mono (fun _ hk => hk.elim) hp)
theorem lit_empty (W : World) (base : Nat) (hb : base ≤ W.heap.size) : kIns.R 92 (W.alloc (.cells #[] 92)) base (fun _ => True) (.slice (some ⟨W.heap.size, 0, none⟩) 0 0) [] :=
 Kd.R_lower (R_lit0 kIns 92 W) hb
def From (N : Nat) (v : Value) : Prop := ∀ b, v.ownBlock = some b → N ≤ b
theorem From.next {N : Nat} {W : World} {v v1 : Value} (h : From N v) (hN : N ≤ W.heap.size) (hat : v1.ownBlock = v.ownBlock ∨ ∃ b, v1.ownBlock = some b ∧ W.heap.size ≤ b) : From N v1 := by
 intro b hb
 rcases hat with e | ⟨b', e, h'⟩
 · exact h b (e ▸ hb)
 · rw [e] at hb
   injection hb with hb
   omega
theorem From.ne {N : Nat} {v : Value} (h : From N v) (k : Nat) (hk : k < N) : some k ≠ v.ownBlock := fun e => by
 have := h k e.symm
 omega
theorem From.keep {N : Nat} {w W W1 : World} {v : Value} (h : From N v) (hN : N = w.heap.size) (hk : Keep (fun _ => False) w W) (hg : W.grownBy W1 v.ownBlock) : Keep (fun _ => False) w W1 := by
 subst hN
 exact hk.then (grown_keep (S := fun i => w.heap.size ≤ i) hg h) (fun i hi hs => absurd hs (by omega))
theorem ins_fits2 {a b : Nat} (h : a + b ≤ 1000) : (a + b) * 64 ≤ 140737488355328 := by omega
theorem ins_box {W : World} {g : Nat} {k op d a b n : Int} {s : Value} {e : Nat} (h : W.heap[g]? = some (.cells #[.int .u8 k, .int .u8 op, .int .i64 d, .int .i64 a, .int .i64 b, .int .i64 n, s] e (0, 0))) :
 W.cell? ⟨g, 0, none⟩ = some (.int .u8 k) ∧ W.cell? ⟨g, 1, none⟩ = some (.int .u8 op) ∧ W.cell? ⟨g, 2, none⟩ = some (.int .i64 d) ∧ W.cell? ⟨g, 3, none⟩ = some (.int .i64 a) ∧ W.cell? ⟨g, 4, none⟩ = some (.int .i64 b) ∧ W.cell? ⟨g, 5, none⟩ = some (.int .i64 n) ∧ W.cell? ⟨g, 6, none⟩ = some s :=
 ⟨cell_at h 0 _ rfl, cell_at h 1 _ rfl, cell_at h 2 _ rfl, cell_at h 3 _ rfl, cell_at h 4 _ rfl, cell_at h 5 _ rfl, cell_at h 6 _ rfl⟩
theorem keep_heap {W W' : World} {g : Nat} {o : Obj} (h : Keep (fun _ => False) W W') (hg : W.heap[g]? = some o) : W'.heap[g]? = some o := (h.block g (blk_lt hg) id).trans hg
theorem C5.below {w W : World} {p R S : Int} {ad : Addr} {cap n c : Nat} (h : C5 w W p R S ad cap n c) : Below w.heap.size w W ∧ w.heap.size + 3 ≤ W.heap.size := by
 obtain ⟨l, h1, -⟩ := h
 exact ⟨h1.below, by have := blk_lt h1.box; omega⟩
theorem C5.frz {w W : World} {p R S : Int} {ad : Addr} {cap n c : Nat} (h : C5 w W p R S ad cap n c) {b : Nat} (hb : b < n) : W.frozen? (ad.add (b * 5)) = false := by
 obtain ⟨_, _, _, _, -, -, -, -, hf, -⟩ := h.put hb
 exact hf
theorem C5.res {w W : World} {p R S : Int} {ad : Addr} {cap n c : Nat} (h : C5 w W p R S ad cap n c) : W.heap[w.heap.size + 1]? = some (.cells #[.int .i64 0, .int .i64 0, .int .i64 0, .slice none 0 0] 54 (0, 0)) := by
 obtain ⟨l, h1, -⟩ := h
 exact h1.res
theorem C5.fin {w W W' : World} {p R S : Int} {ad : Addr} {cap n c : Nat} (h : C5 w W p R S ad cap n c) (hp : 0 ≤ p ∧ p ≤ 4) (hR : 3 ≤ R ∧ R ≤ 8) (hS : p ≤ S ∧ S ≤ 64) (hn : 1 ≤ n ∧ n ≤ 16) (hc : c ≤ 20) (hk : Keep (fun i => i = w.heap.size + 1) W W') :
 ∃ bs : List Blk, bs.length = n ∧ kBlk.R 84 W' w.heap.size (fun _ => True) (.slice (some ad) n cap) bs ∧ codeErr (p, R, S, bs) = 0 ∧ (∀ b ∈ bs, BlkR b ∧ b.1.length ≤ 28) ∧ Below w.heap.size w W' := by
 obtain ⟨l, h1, h2⟩ := h
 have hcc := cod_code hp hR hS h1.len hn (fun b hb => ⟨by have := (h2 b hb).1; omega, (h2 b hb).2⟩)
 refine ⟨l, h1.len, ?_, hcc.1, fun b hb => ⟨hcc.2 b hb, by have := (h2 b hb).1; omega⟩, h1.below.trans (hk.below h1.below.size (fun i hi e => by have e : i = w.heap.size + 1 := e; omega))⟩
 exact Kd.R_mono (Kd.R_lower (Kd.R_step (Kd.R_mono (Kd.R_bound h1.rows) (ok' := fun k => w.heap.size + 3 ≤ k) (fun k hk => hk.2.1)) (fun k hk' hl => hk.block k hl (fun e => by have e : k = w.heap.size + 1 := e; omega))) (by omega)) (fun _ _ => trivial)
theorem keep_old {N : Nat} {W W' : World} (h : Keep (fun i => N ≤ i) W W') (hN : W.heap.size ≤ N) : Keep (fun _ => False) W W' := ⟨h.os, h.tape, h.output, h.size, fun k hk _ => h.block k hk (by omega)⟩
theorem keep_new {N : Nat} {W W' : World} (h : Keep (fun _ => False) W W') : Keep (fun i => N ≤ i) W W' := h.mono (fun _ _ h => h.elim)
theorem reads_grown {α : Type} {d : Kd α} {w w' : World} {base N : Nat} {A : Option Addr} {n : Nat} {xs : List α} {v : Value} (h : ReadsRow (d.M w base (fun k => k < N)) d.sz w A n xs) (hv : From N v) (hA : ∀ a, A = some a → some a.block ≠ v.ownBlock) (hg : w.grownBy w' v.ownBlock) : ReadsRow (d.M w' base (fun k => k < N)) d.sz w' A n xs := by
 obtain ⟨h1, h2, h3⟩ := h
 refine ⟨h1, h2, fun hp => ?_⟩
 obtain ⟨ad, e, hc⟩ := h3 hp
 refine ⟨ad, e, fun j p hj => ?_⟩
 obtain ⟨c, g1, g2, g3⟩ := hc j p hj
 refine ⟨c, g1, Kd.M_step g2 (fun k hk hl => hg.block k hl (hv.ne k hk)), fun i u hu => ?_⟩
 have h0 := g3 i u hu
 rw [← h0]
 refine World.cell?_of_block ?_
 rw [B.add_block]
 refine hg.block _ ?_ (hA ad e)
 have := World.block_lt_of_cell? w _ h0
 rwa [B.add_block] at this
theorem rest_of {y : Int} {n : Nat} (hy : 0 ≤ y ∧ y < 256) (hn : 1 ≤ n) : ∃ k : Nat, k < n ∧ y.tmod (n : Int) = (k : Int) ∧ y % (n : Int) = (k : Int) ∧ ((n : Int) = 0) = False ∧ (n = 0) = False := by
 refine ⟨(y % (n : Int)).toNat, ?_, ?_, ?_, ?_, ?_⟩
 · have := Int.emod_lt_of_pos y (show (0 : Int) < n by omega)
   have := Int.emod_nonneg y (show (n : Int) ≠ 0 by omega)
   omega
 · rw [Int.tmod_eq_emod_of_nonneg hy.1]
   have := Int.emod_nonneg y (show (n : Int) ≠ 0 by omega)
   omega
 · have := Int.emod_nonneg y (show (n : Int) ≠ 0 by omega)
   omega
 · simp; omega
 · simp; omega
theorem rest_ofI {y R : Int} (hy : 0 ≤ y ∧ y < 256) (hR : 1 ≤ R) : ∃ k : Int, (0 ≤ k ∧ k < R) ∧ y.tmod R = k ∧ y % R = k ∧ (R = 0) = False := by
 refine ⟨y % R, ⟨Int.emod_nonneg y (by omega), Int.emod_lt_of_pos y (by omega)⟩, Int.tmod_eq_emod_of_nonneg hy.1, rfl, ?_⟩
 simp; omega
end Go.Proofs.Ytnckonglodmfeaa.Ik
namespace Go.Proofs.Ytnckonglodmfeaa.Ik
open Go.RowKit Go.Proofs.YtnckonglodmfeaaW.PrintWords Go.Proofs.YtnckonglodmfeaaW.PrintLast Go.Proofs.YtnckonglodmfeaaW.PrintMore B R S Is
theorem emod_less {R u : Int} (h0 : 0 ≤ u) (hR : 3 ≤ R) (hR8 : R ≤ 8) : Less R u (u % R) := by
 rw [← Int.tmod_eq_emod_of_nonneg h0]
 exact tmod_less h0 hR hR8
set_option maxHeartbeats 1000000 in
set_option maxRecDepth 100000 in
theorem at_calls (n R : Int) (gc : Nat) (w : World) (h0 : 0 ≤ n) (hn : I64 n) (h1 : 3 ≤ R) (h2 : R ≤ 8) (hc : w.cell? ⟨gc, 1, none⟩ = some (.int .i64 R)) :
 Calls Try.prog 55 #[.int .i64 n, .pointer (some ⟨gc, 0, none⟩)] w fun e w' => (∃ x, e = .returned (.int .i64 x) ∧ Less R n x) ∧ w' = w := by
 obtain ⟨hn0, hn1⟩ := hn
 have h3 : ¬ R = 0 := by omega
 have h4 : ¬ R = -1 := by omega
 have h5 : (R == 0) = false := beq_eq_false_iff_ne.mpr h3
 have HL1 := aM (tmod_less h0 h1 h2)
 have HL2 := aM (emod_less h0 h1 h2)
 go_enter Try.func55, Try.ntmps55
 go_wp2
 go_ret
 first
  | exact ⟨⟨_, rfl, HL1.out⟩, rfl⟩
  | exact ⟨⟨_, rfl, HL2.out⟩, rfl⟩
end Go.Proofs.Ytnckonglodmfeaa.Ik
