/- Contracts and plain facts that the statements' proofs use (part 12). -/
import Derived.Test.YtnckonglodmfeaaM2
import Derived.Test.YtnckonglodmfeaaM3
import Derived.Test.YtnckonglodmfeaaM4
import Derived.Test.YtnckonglodmfeaaM7
import Derived.Test.YtnckonglodmfeaaM11
import Derived.Handy
namespace Go.Proofs.Ytnckonglodmfeaa.Ik
open Go.Proofs.Ytnckonglodmfeaa.Ls Go.RowKit Go.Proofs.YtnckonglodmfeaaW.PrintWords Go.Proofs.YtnckonglodmfeaaW.PrintLast Go.Proofs.YtnckonglodmfeaaW.PrintMore Go.Proofs.Ytnckonglodmfeaa.B Go.Proofs.Ytnckonglodmfeaa.R Go.Proofs.Ytnckonglodmfeaa.S Go.Proofs.Ytnckonglodmfeaa.Is
set_option linter.unusedVariables false
set_option linter.unusedSimpArgs false
/-- A right block, of so many vregs, so many blocks. -/
def GoodB (v : Int) (n : Nat) (b : Blk) : Prop := b.1.length ≤ 8 ∧ (∀ i ∈ b.1, GoodI v i) ∧ EndR b.2 ∧ endErr v n 21 b.2 = 0
/-- What Made has in memory: the maker at g, the result behind the world that was, the function behind that. -/
structure MA (w W : World) (p v : Int) (vb : Value) : Prop where
  mkr : Mkr w W (w.heap.size + 1 + 1 + 1)
  res : W.heap[w.heap.size + 1]? = some (.cells #[.int .i64 0, .int .i64 0, .slice none 0 0] 25 (0, 0))
  fx : W.heap[w.heap.size + 1 + 1]? = some (.cells #[.int .i64 p, .int .i64 v, vb] 25 (0, 0))
  below : Below w.heap.size w W
/-- A block in the making lies at gb, in what is new since wo. -/
structure MQ (w wo W : World) (gb : Nat) (F : Array Value) : Prop where
  mkr : Mkr w W (w.heap.size + 1 + 1 + 1)
  bx : W.heap[gb]? = some (.cells F 84 (0, 0))
  keep : Keep (· = w.heap.size + 1 + 1 + 1) wo W
  base : wo.heap.size ≤ gb
  hg : w.heap.size + 1 + 1 + 1 < wo.heap.size
  b0 : Below w.heap.size w W
theorem MA.move {w wo W : World} {p v : Int} {vb : Value} (h : MA w wo p v vb) (hk : Keep (· = w.heap.size + 1 + 1 + 1) wo W) (hm : Mkr w W (w.heap.size + 1 + 1 + 1)) : MA w W p v vb :=
  ⟨hm, (hk.block _ (blk_lt h.res) (fun e => by have e : w.heap.size + 1 = w.heap.size + 1 + 1 + 1 := e; omega)).trans h.res, (hk.block _ (blk_lt h.fx) (fun e => by have e : w.heap.size + 1 + 1 = w.heap.size + 1 + 1 + 1 := e; omega)).trans h.fx, h.below.trans (hk.below h.below.size (fun i hi e => by have e : i = w.heap.size + 1 + 1 + 1 := e; omega))⟩
theorem MQ.move {w wo W W' : World} {gb : Nat} {F : Array Value} (h : MQ w wo W gb F) (hk : Keep (fun i => i = w.heap.size + 1 + 1 + 1 ∨ gb < i) W W') (hm : Mkr w W' (w.heap.size + 1 + 1 + 1)) : MQ w wo W' gb F := by
  have h1 := h.hg
  have h2 := h.base
  exact ⟨hm, (hk.block gb (blk_lt h.bx) (fun e => by omega)).trans h.bx, h.keep.then hk (fun i hi e => by omega), h2, h1, h.b0.trans (hk.below h.b0.size (fun i hi e => by omega))⟩
theorem MQ.set {w wo W : World} {gb : Nat} {F : Array Value} (h : MQ w wo W gb F) (j : Nat) (x : Value) : MQ w wo (W.setCell ⟨gb, j, none⟩ x) gb (F.setIfInBounds j x) := by
  have h1 := h.hg
  have h2 := h.base
  have hk : Keep (· = gb) W (W.setCell ⟨gb, j, none⟩ x) := (Keep.refl _ _).setCell ⟨gb, j, none⟩ x (fun _ => rfl)
  exact ⟨h.mkr.keep hk (by omega), heap_setCell_same W gb j F _ _ h.bx, h.keep.setCell _ _ (fun hh => by have hh : gb < wo.heap.size := hh; omega), h2, h1, h.b0.setCell (by show w.heap.size ≤ gb; omega) _⟩
theorem MA.grow {w W W' : World} {p v : Int} {vb : Value} (h : MA w W p v vb) (hk : Keep (fun i => w.heap.size + 1 + 1 + 1 < i) W W') : MA w W' p v vb :=
  ⟨h.mkr.keep hk (by omega), (hk.block _ (blk_lt h.res) (by omega)).trans h.res, (hk.block _ (blk_lt h.fx) (by omega)).trans h.fx, h.below.trans (hk.below h.below.size (fun i hi e => by omega))⟩
theorem MA.setf {w W : World} {p v : Int} {vb : Value} (h : MA w W p v vb) (x : Value) : MA w (W.setCell ⟨w.heap.size + 1 + 1, 2, none⟩ x) p v x := by
  have hk : Keep (· = w.heap.size + 1 + 1) W (W.setCell ⟨w.heap.size + 1 + 1, 2, none⟩ x) := (Keep.refl _ _).setCell ⟨w.heap.size + 1 + 1, 2, none⟩ x (fun _ => rfl)
  exact ⟨h.mkr.keep hk (by omega), (hk.block _ (blk_lt h.res) (by omega)).trans h.res, blk_put h.fx 2 x rfl, h.below.setCell (by show w.heap.size ≤ w.heap.size + 1 + 1; omega) _⟩
theorem mq_next {w wo W : World} {gb : Nat} {F : Array Value} (h : MQ w wo W gb F) (n : Int) (hn : 1 ≤ n) (hn2 : n ≤ 1000000) :
    Calls Try.prog 35 #[.pointer (some ⟨w.heap.size + 1 + 1 + 1, 0, none⟩), .int .i64 n] W fun e w' => ∃ x, e = .returned (.int .i64 x) ∧ 0 ≤ x ∧ x < n ∧ MQ w wo w' gb F ∧ Keep (· = w.heap.size + 1 + 1 + 1) W w' := by
  refine (next_calls w W (w.heap.size + 1 + 1 + 1) n h.mkr h.b0 (by omega) hn hn2).mono ?_
  rintro e w' ⟨x, h1, h2, h3, h4, h5, -⟩
  exact ⟨x, h1, h2, h3, h.move (h5.mono (fun i _ e => .inl e)) h4, h5⟩
theorem good_blks {v : Int} {n : Nat} {l : List Blk} (hn : l.length = n) (h : ∀ b ∈ l, GoodB v n b) : blocksErr v (-1) 32 l = 0 := by
  subst hn
  have key : ∀ l' : List Int, (∀ x ∈ l', x = 0) → firstN l' = 0 := by
    intro l' h'
    induction l' with
    | nil => rfl
    | cons x l' ih => rw [firstN, if_pos (h' x (by simp))]; exact ih (fun y hy => h' y (by simp [hy]))
  refine key _ (fun x hx => ?_)
  obtain ⟨b, hb, rfl⟩ := List.mem_map.1 hx
  obtain ⟨h1, h2, h3, h4⟩ := h b hb
  unfold blkErr
  rw [if_neg (by omega)]
  refine key _ (fun y hy => ?_)
  rcases List.mem_append.1 hy with h5 | h5
  · obtain ⟨i, hi, rfl⟩ := List.mem_map.1 h5
    exact (h2 i hi).1
  · rw [List.mem_singleton] at h5
    rw [h5]
    exact h4
/-- What Made answers. -/
def GoodF (p v : Int) (n : Nat) (l : List Blk) : Prop := l.length = n ∧ ∀ b ∈ l, GoodB v n b
theorem good_fun {p v : Int} {n : Nat} {l : List Blk} (h : GoodF p v n l) (hp0 : 0 ≤ p) (hp4 : p ≤ 4) (hpv : p ≤ v) (hv : v ≤ 32) (hn1 : 1 ≤ n) (hn2 : n ≤ 16) : funcErr (p, v, l) = 0 ∧ ∀ b ∈ l, BlkR b := by
  obtain ⟨h1, h2⟩ := h
  refine ⟨?_, fun b hb => ⟨fun i hi => ((h2 b hb).2.1 i hi).2.1, (h2 b hb).2.2.1⟩⟩
  unfold funcErr
  simp only
  rw [if_neg (by omega)]
  exact good_blks h1 h2
set_option maxHeartbeats 40000000 in
set_option maxRecDepth 100000 in
theorem made_calls (P V N : Int) (A : Option Addr) (c : Nat) (l : List Int) (w : World) (hP : 0 ≤ P ∧ P < 256) (hV : 0 ≤ V ∧ V < 256) (hN : 0 ≤ N ∧ N < 256) (hC : kU8.C w A l.length l) (hlc : l.length ≤ c) (hby : By l) :
    Calls Try.prog 12 #[.agg #[.int .u8 P, .int .u8 V, .int .u8 N, .slice A l.length c]] w fun e w' => ∃ v vb bs, e = .returned (.agg #[.int .i64 (P % 5), .int .i64 v, vb]) ∧ kBlk.R 84 w' w.heap.size (fun _ => True) vb bs ∧ GoodF (P % 5) v (1 + N % 7).toNat bs ∧ (1 ≤ v ∧ P % 5 ≤ v ∧ v ≤ 32 ∧ v = (if P % 5 < 1 then 1 else P % 5) + V % 28) ∧ Below w.heap.size w w' := by
  have mixed : Try.prog.follows .mixedOrders = true := by kernel_rfl
  have HC := Aside0.mk hC
  have HY := Aside0.mk hby
  obtain ⟨p, hp⟩ : ∃ p, P % 5 = p := ⟨_, rfl⟩
  have hp0 : 0 ≤ p ∧ p < 5 := by omega
  obtain ⟨n, hn⟩ : ∃ n : Nat, 1 + N % 7 = (n : Int) := ⟨(1 + N % 7).toNat, by omega⟩
  have hn7 : 1 ≤ n ∧ n ≤ 7 := by omega
  rw [hp, show (1 + N % 7).toNat = n by rw [hn]; rfl]
  clear hC hby
  obtain ⟨v, hv⟩ : ∃ v, (if p < 1 then 1 else p) + V % 28 = v := ⟨_, rfl⟩
  have hv1 : 1 ≤ v ∧ p ≤ v ∧ v ≤ 32 := by
    by_cases h : p < 1
    · rw [if_pos h] at hv; omega
    · rw [if_neg h] at hv; omega
  have HVV := Aside0.mk hv.symm
  have hcase : (p < 1 ∧ 1 + V % 28 = v) ∨ (¬ p < 1 ∧ p + V % 28 = v) := by
    by_cases h : p < 1
    · rw [if_pos h] at hv; exact .inl ⟨h, hv⟩
    · rw [if_neg h] at hv; exact .inr ⟨h, hv⟩
  clear hv
  have HA := Aside0.mk (show MA w ((((w.alloc (.cells #[.int .u8 P, .int .u8 V, .int .u8 N, .slice A l.length c] 30)).alloc (.cells #[.int .i64 0, .int .i64 0, .slice none 0 0] 25)).alloc (.cells #[.int .i64 p, .int .i64 v, .slice none 0 0] 25)).alloc (.cells #[.slice A l.length c] 98)) p v (.slice none 0 0) from by
    have z1 : ∀ o1, (w.alloc o1).heap.size = w.heap.size + 1 := fun o1 => World.size_alloc _ _
    have z2 : ∀ o1 o2, ((w.alloc o1).alloc o2).heap.size = w.heap.size + 1 + 1 := fun o1 o2 => by rw [World.size_alloc, z1]
    have z3 : ∀ o1 o2 o3, (((w.alloc o1).alloc o2).alloc o3).heap.size = w.heap.size + 1 + 1 + 1 := fun o1 o2 o3 => by rw [World.size_alloc, z2]
    refine ⟨⟨A, c, l, ?_, HC.out, hlc, HY.out⟩, ?_, ?_, ((((Below.refl w.heap.size w).alloc (Nat.le_refl _) _).alloc (by rw [z1]; omega) _).alloc (by rw [z2]; omega) _).alloc (by rw [z3]; omega) _⟩
    · rw [← z3, heap_alloc_new]
    · rw [heap_alloc_old _ _ (by rw [z3]; omega), heap_alloc_old _ _ (by rw [z2]; omega), ← z1, heap_alloc_new]
    · rw [heap_alloc_old _ _ (by rw [z3]; omega), ← z2, heap_alloc_new])
  rcases hcase with ⟨hpp, hv⟩ | ⟨hpp, hv⟩
  all_goals
    go_enter Try.func12, Try.ntmps12
    go_wp2_with fail
    (try rw [hv])
    (try rw [hp])
    clear hp
    obtain ⟨WA, hWA⟩ : ∃ WA, WA = (((w.alloc (.cells #[.int .u8 P, .int .u8 V, .int .u8 N, .slice A l.length c] 30)).alloc (.cells #[.int .i64 0, .int .i64 0, .slice none 0 0] 25)).alloc (.cells #[.int .i64 p, .int .i64 v, .slice none 0 0] 25)).alloc (.cells #[.slice A l.length c] 98) := ⟨_, rfl⟩
    rw [← hWA] at HA ⊢
    clear hWA hv
    go_loopw [31] (fun vi wr => ∃ x : Nat, x ≤ n ∧ vi = .int .i64 x ∧ ∃ vb bs, Aside0 (MA w wr p v vb) ∧ Aside0 (kBlk.R 84 wr (w.heap.size + 1 + 1 + 1 + 1) (fun k => w.heap.size + 1 + 1 + 1 < k) vb bs) ∧ bs.length = x ∧ Aside0 (∀ b ∈ bs, GoodB v n b)) (fun vi _ => n - (intOf vi).toNat)
    case atStart => exact ⟨0, by omega, rfl, .slice none 0 0, [], HA, ⟨Kd.R_nil _ _ _ _ _⟩, rfl, ⟨fun b hb => by cases hb⟩⟩
    case round =>
      clear HA
      obtain ⟨wo, hwo⟩ : ∃ wo, wo = wr := ⟨_, rfl⟩
      subst hwo
      obtain ⟨x, hx, rfl, vb, bs, HM, HO, hbl, HG⟩ := hrel
      by_cases hxn : x < n
      · have HQ0 := Aside0.mk (show MQ w wo (wo.alloc (.cells #[.slice none 0 0, .int .u8 0, .int .i64 0, .int .i64 0, .int .i64 0] 84)) wo.heap.size #[.slice none 0 0, .int .u8 0, .int .i64 0, .int .i64 0, .int .i64 0] from ⟨HM.out.mkr.keep (S := fun _ => False) (Keep.of_below ((Below.refl _ _).alloc (Nat.le_refl _) _)) id, heap_alloc_new _ _, (Keep.refl _ _).alloc _, Nat.le_refl _, HM.out.mkr.lt, HM.out.below.alloc HM.out.below.size _⟩)
        go_wp2_with (go_at_call 35; refine (mq_next HQ0.out 9 (by omega) (by omega)).mono ?_; rintro _ w1 ⟨mz, rfl, hm0, hm1, hq, -⟩; clear HQ0; have HQ := Aside0.mk hq; clear hq; obtain ⟨m, hm⟩ : ∃ m : Nat, mz = (m : Int) := ⟨mz.toNat, by omega⟩; subst hm)
        go_loopw [35] (fun vi wi => ∃ i : Nat, i ≤ m ∧ vi = .int .i64 i ∧ ∃ vv is, Aside0 (MQ w wo wi wo.heap.size #[vv, .int .u8 0, .int .i64 0, .int .i64 0, .int .i64 0]) ∧ Aside0 (kIns.R 92 wi (wo.heap.size + 1) (fun k => wo.heap.size < k) vv is) ∧ is.length = i ∧ Aside0 (∀ z ∈ is, GoodI v z)) (fun vi _ => m - (intOf vi).toNat)
        case atStart => exact ⟨0, by omega, rfl, .slice none 0 0, [], HQ, ⟨Kd.R_nil _ _ _ _ _⟩, rfl, ⟨fun b hb => by cases hb⟩⟩
        case round =>
          clear HQ
          obtain ⟨wi, hwi⟩ : ∃ wi, wi = wr := ⟨_, rfl⟩
          subst hwi
          obtain ⟨i, hi, rfl, vv, is, HQ, HV, hil, HGI⟩ := hrel
          by_cases him : i < m
          · have HL := Aside0.mk (blk_lt HQ.out.bx)
            have HX := Aside0.mk (show ∀ W', Keep (fun i => i = w.heap.size + 1 + 1 + 1 ∨ wo.heap.size < i) wi.drew W' → W'.heap[wo.heap.size]? = some (.cells #[vv, .int .u8 0, .int .i64 0, .int .i64 0, .int .i64 0] 84 (0, 0)) ∧ W'.heap[w.heap.size + 1 + 1]? = some (.cells #[.int .i64 p, .int .i64 v, vb] 25 (0, 0)) from fun W' h => by
              have h1 := HQ.out.hg
              have h2 := HQ.out.base
              have h3 := HL.out
              refine ⟨(h.block _ (show wo.heap.size < wi.heap.size by omega) (fun e => by omega)).trans HQ.out.bx, (h.block _ (show w.heap.size + 1 + 1 < wi.heap.size by omega) (fun e => by omega)).trans (HM.out.move HQ.out.keep HQ.out.mkr).fx⟩)
            have HHG := Aside0.mk HQ.out.hg
            go_wp2_with fail
            refine re_start [9] (fun i => i = w.heap.size + 1 + 1 + 1 ∨ wo.heap.size < i) (by kernel_rfl) (n := 10) (l := #[false, false, false, false, false, false, false, false, false, false]) (by kernel_rfl) (by kernel_rfl) ?_
            refine re_take (fuel := 9) 0 rfl (by kernel_rfl) (listed' := #[true, false, false, false, false, false, false, false, false, false]) (by kernel_rfl) (fun _ _ _ h => h) (by kernel_rfl) (fun w' hR => by go_simp; first | done | with_reducible rfl) rfl ?_
            try simp only [Act.put, List.setIfInBounds_toArray, List.set_cons_zero, List.set_cons_succ]
            refine re_take (fuel := 8) 1 rfl (by kernel_rfl) (listed' := #[true, true, false, false, false, false, false, false, false, false]) (by kernel_rfl) (fun _ _ _ h => h) (by kernel_rfl) (fun w' hR => by have x0 := cell_at (HX.out w' hR).1 0 vv rfl; go_simp; first | done | with_reducible rfl) rfl ?_
            try simp only [Act.put, List.setIfInBounds_toArray, List.set_cons_zero, List.set_cons_succ]
            refine re_take (fuel := 7) 2 rfl (by kernel_rfl) (listed' := #[true, true, true, false, false, false, false, false, false, false]) (by kernel_rfl) (fun _ _ _ h => h) (by kernel_rfl) (fun w' hR => by go_simp; first | done | with_reducible rfl) rfl ?_
            try simp only [Act.put, List.setIfInBounds_toArray, List.set_cons_zero, List.set_cons_succ]
            refine re_take (fuel := 6) 3 rfl (by kernel_rfl) (listed' := #[true, true, true, true, false, false, false, false, false, false]) (by kernel_rfl) (fun _ _ _ h => h) (by kernel_rfl) (fun w' hR => by go_simp; first | done | with_reducible rfl) rfl ?_
            try simp only [Act.put, List.setIfInBounds_toArray, List.set_cons_zero, List.set_cons_succ]
            refine re_take (fuel := 5) 4 rfl (by kernel_rfl) (listed' := #[true, true, true, true, true, false, false, false, false, false]) (by kernel_rfl) (fun _ _ _ h => h) (by kernel_rfl) (fun w' hR => by have x0 := cell_at (HX.out w' hR).2 1 _ rfl; go_simp; first | done | with_reducible rfl) rfl ?_
            try simp only [Act.put, List.setIfInBounds_toArray, List.set_cons_zero, List.set_cons_succ]
            refine re_step (fuel := 4) 5 rfl (by kernel_rfl) (listed' := #[true, true, true, true, true, true, false, false, false, false]) (by kernel_rfl) (by kernel_rfl) (fun K' hK => ?_)
            go_wp2_with (go_at_call 36; refine (mins_calls w wi.drew (w.heap.size + 1 + 1 + 1) v (HQ.out.mkr.keep (S := fun _ => False) (Keep.refl _ wi).drew id) HQ.out.b0.drew (by omega) (by omega) (by omega)).mono ?_; rintro _ w3 ⟨⟨k, op, d, a, bb, nn, args⟩, va, rfl, hra, hgi, hmk, hk⟩; simp only [insVal]; obtain ⟨Aa, ca, hva, -, -⟩ := Kd.R_reads hra; subst hva; have HRA := Aside0.mk hra; have HGD := Aside0.mk hgi; have HM3 := Aside0.mk hmk; have HK3 := Aside0.mk hk; clear hra hgi hmk hk)
            refine hK.out _ _ (HK3.out.mono (fun i _ h => .inl h)) ?_
            clear hK K'
            try simp only [Act.put, List.setIfInBounds_toArray, List.set_cons_zero, List.set_cons_succ]
            refine re_step (fuel := 3) 6 rfl (by kernel_rfl) (listed' := #[true, true, true, true, true, true, true, false, false, false]) (by kernel_rfl) (by kernel_rfl) (fun K' hK => ?_)
            (go_wp2_with fail)
            refine hK.out _ _ (Keep.of_below ((Below.refl w3.heap.size w3).alloc (Nat.le_refl _) (.cells #[.int .u8 k, .int .u8 op, .int .i64 d, .int .i64 a, .int .i64 bb, .int .i64 nn, .slice Aa args.length ca] 92))) ?_
            clear hK K'
            try simp only [Act.put, List.setIfInBounds_toArray, List.set_cons_zero, List.set_cons_succ]
            refine re_step (fuel := 2) 7 rfl (by kernel_rfl) (listed' := #[true, true, true, true, true, true, true, true, false, false]) (by kernel_rfl) (by kernel_rfl) (fun K' hK => ?_)
            refine R_append_wp kIns (W := w3) (wo.heap.size + 1) (.tmp 38) (.tmp 43) 79 92 (.agg #[.int .u8 0, .int .u8 0, .int .i64 0, .int .i64 0, .int .i64 0, .int .i64 0, .slice none 0 0]) 64 rfl Try.underlying79 infoIns rfl (show 0 < 7 by decide) (by decide) vv is (k, op, d, a, bb, nn, args) [.int .u8 k, .int .u8 op, .int .i64 d, .int .i64 a, .int .i64 bb, .int .i64 nn, .slice Aa args.length ca] (fun k => wo.heap.size < k) (fun k => wi.heap.size ≤ k) rfl rfl (ins_M (Kd.R_lower (Kd.R_mono (Kd.R_bound HRA.out) (fun k hk => hk.2.1)) (Nat.succ_le_of_lt HL.out))) (fun k hk => ⟨Nat.lt_of_lt_of_le HL.out hk, fun e => absurd ((Kd.R_bound HV.out).1 k e.symm).2.2.1 (Nat.not_lt.2 hk)⟩) (fun k hk => Nat.lt_of_lt_of_le HL.out (Nat.le_trans HK3.out.size hk)) (Kd.R_step HV.out (fun k hk hl => HK3.out.block k hl (fun e => by have e : k = w.heap.size + 1 + 1 + 1 := e; have := HHG.out; omega))) (Nat.le_trans (Nat.succ_le_of_lt HL.out) HK3.out.size) (ins_fits (by omega)) ?_; intro v4 w4 ho4 hg4 hg4' hat4; obtain ⟨A4, c4, hv4, -, -⟩ := Kd.R_reads ho4; obtain ⟨m4, hm4⟩ : ∃ m4, (is ++ [(k, op, d, a, bb, nn, args)]).length = m4 := ⟨_, rfl⟩; rw [hm4] at hv4; subst hv4; clear hm4; have HO4 := Aside0.mk ho4; have HK4 := Aside0.mk (show Keep (fun i => wo.heap.size < i) (w3.alloc (.cells #[.int .u8 k, .int .u8 op, .int .i64 d, .int .i64 a, .int .i64 bb, .int .i64 nn, .slice Aa args.length ca] 92)) w4 from grown_keep hg4' (fun i hi => HV.out.1 i hi)); clear ho4 hg4 hg4' hat4
            refine hK.out _ _ (HK4.out.mono (fun i _ h => .inr h)) ?_
            clear hK K'
            try simp only [Act.put, List.setIfInBounds_toArray, List.set_cons_zero, List.set_cons_succ]
            refine re_take (fuel := 1) 8 rfl (by kernel_rfl) (listed' := #[true, true, true, true, true, true, true, true, true, false]) (by kernel_rfl) (fun _ _ _ h => h) (by kernel_rfl) (fun w' hR => by go_simp; first | done | with_reducible rfl) rfl ?_
            try simp only [Act.put, List.setIfInBounds_toArray, List.set_cons_zero, List.set_cons_succ]
            refine re_free (fuel := 0) 9 rfl (by kernel_rfl) (listed' := #[true, true, true, true, true, true, true, true, true, true]) (by kernel_rfl) (by kernel_rfl) (fun K' hK => ?_)
            have hal : Below w3.heap.size w3 (w3.alloc (.cells #[.int .u8 k, .int .u8 op, .int .i64 d, .int .i64 a, .int .i64 bb, .int .i64 nn, .slice Aa args.length ca] 92)) := (Below.refl _ _).alloc (Nat.le_refl _) _; have hk4 : Keep (fun i => i = w.heap.size + 1 + 1 + 1 ∨ wo.heap.size < i) wi.drew w4 := ((HK3.out.mono (fun i _ h => .inl h)).trans (Keep.of_below hal)).trans (HK4.out.mono (fun i _ h => .inr h)); have hh := (HX.out w4 hk4).1; have x7 := cell_at hh 0 vv rfl; have x8 := blk_frozen hh 0; have HKW := Aside0.mk hk4; have HMK4 := Aside0.mk ((HM3.out.keep (S := fun _ => False) (Keep.of_below hal) id).keep HK4.out (fun e => by have := HHG.out; omega)); clear hk4 hh hal; go_wp2_with fail
            refine hK.out _ _ trivial ?_
            clear hK K'
            try simp only [Act.put, List.setIfInBounds_toArray, List.set_cons_zero, List.set_cons_succ]
            refine re_done (by kernel_rfl) ?_
            have HIN := Aside0.mk (show MQ w wo (w4.setCell ⟨wo.heap.size, 0, none⟩ (.slice A4 m4 c4)) wo.heap.size #[.slice A4 m4 c4, .int .u8 0, .int .i64 0, .int .i64 0, .int .i64 0] from (HQ.out.move ((Keep.refl _ wi).drew.trans HKW.out) HMK4.out).set 0 (.slice A4 m4 c4))
            have HRN := Aside0.mk (show kIns.R 92 (w4.setCell ⟨wo.heap.size, 0, none⟩ (.slice A4 m4 c4)) (wo.heap.size + 1) (fun k => wo.heap.size < k) (.slice A4 m4 c4) (is ++ [(k, op, d, a, bb, nn, args)]) from Kd.R_step HO4.out (fun k hk hl => Below.heap_setCell _ _ _ _ (show k ≠ wo.heap.size by omega)))
            have HGN := Aside0.mk (show ∀ z ∈ is ++ [(k, op, d, a, bb, nn, args)], GoodI v z from fun z hz => by
              rcases List.mem_append.1 hz with h | h
              · exact HGI.out z h
              · rw [List.mem_singleton] at h; rw [h]; exact HGD.out)
            have hil2 : (is ++ [(k, op, d, a, bb, nn, args)]).length = i + 1 := by rw [List.length_append, hil]; rfl
            have HIL2 := Aside0.mk hil2
            clear hil2
            go_wp2
            go_roundw
            case rel => exact ⟨i + 1, by omega, by go_num, .slice A4 m4 c4, _, HIN, HRN, HIL2.out, HGN⟩
            case measure => simp [intOf]; omega
          · obtain rfl : i = m := by omega
            have HHG := Aside0.mk HQ.out.hg
            obtain ⟨Av, cv, hv9, -, -⟩ := Kd.R_reads HV.out
            obtain ⟨mv, hmv⟩ : ∃ m, is.length = m := ⟨_, rfl⟩
            rw [hmv] at hv9
            subst hv9
            clear hmv
            have f1 := cell_at (HM.out.move HQ.out.keep HQ.out.mkr).fx 1 _ rfl; have y1 := cell_at HQ.out.bx 1 _ rfl; have y2 := cell_at HQ.out.bx 2 _ rfl; have y3 := cell_at HQ.out.bx 3 _ rfl; have y4 := cell_at HQ.out.bx 4 _ rfl; have z1 := blk_frozen HQ.out.bx 1; have z2 := blk_frozen HQ.out.bx 2; have z3 := blk_frozen HQ.out.bx 3; have z4 := blk_frozen HQ.out.bx 4
            go_upto_region 14 with (go_at_call 35; refine (mq_next HQ.out _ (by omega) (by omega)).mono ?_; rintro _ w9 ⟨y, rfl, hy0, hy1, hq, hk⟩; have HV9 := Aside0.mk (Kd.R_step HV.out (fun k hk' hl => hk.block k hl (fun e => by have e : k = w.heap.size + 1 + 1 + 1 := e; have := HHG.out; omega))); clear HQ HV; have HV := HV9; have HQ := Aside0.mk hq; clear hq hk HV9; (try clear f1 y1 y2 y3 y4 z1 z2 z3 z4); have f1 := cell_at (HM.out.move HQ.out.keep HQ.out.mkr).fx 1 _ rfl; have y1 := cell_at HQ.out.bx 1 _ rfl; have y2 := cell_at HQ.out.bx 2 _ rfl; have y3 := cell_at HQ.out.bx 3 _ rfl; have y4 := cell_at HQ.out.bx 4 _ rfl; have z1 := blk_frozen HQ.out.bx 1; have z2 := blk_frozen HQ.out.bx 2; have z3 := blk_frozen HQ.out.bx 3; have z4 := blk_frozen HQ.out.bx 4)
            rcases (by omega : y = 0 ∨ y = 1 ∨ y = 2 ∨ y = 3) with rfl | rfl | rfl | rfl
            · have HF1 := Aside0.mk trivial
              have HF2 := Aside0.mk trivial
              have HF3 := Aside0.mk trivial
              clear hy0 hy1
              go_upto_region 19 with (first | (go_at_call 35; clear HF1; refine (mq_next HQ.out _ (by omega) (by omega)).mono ?_; rintro _ w9 ⟨e1, rfl, he10, he11, hq, hk⟩; have HV9 := Aside0.mk (Kd.R_step HV.out (fun k hk' hl => hk.block k hl (fun e => by have e : k = w.heap.size + 1 + 1 + 1 := e; have := HHG.out; omega))); clear HQ HV; have HV := HV9; have HQ := Aside0.mk hq; clear hq hk HV9; (try clear f1 y1 y2 y3 y4 z1 z2 z3 z4); have f1 := cell_at (HM.out.move HQ.out.keep HQ.out.mkr).fx 1 _ rfl; have y1 := cell_at HQ.out.bx 1 _ rfl; have y2 := cell_at HQ.out.bx 2 _ rfl; have y3 := cell_at HQ.out.bx 3 _ rfl; have y4 := cell_at HQ.out.bx 4 _ rfl; have z1 := blk_frozen HQ.out.bx 1; have z2 := blk_frozen HQ.out.bx 2; have z3 := blk_frozen HQ.out.bx 3; have z4 := blk_frozen HQ.out.bx 4) | (go_at_call 35; clear HF2; refine (mq_next HQ.out _ (by omega) (by omega)).mono ?_; rintro _ w9 ⟨e2, rfl, he20, he21, hq, hk⟩; have HV9 := Aside0.mk (Kd.R_step HV.out (fun k hk' hl => hk.block k hl (fun e => by have e : k = w.heap.size + 1 + 1 + 1 := e; have := HHG.out; omega))); clear HQ HV; have HV := HV9; have HQ := Aside0.mk hq; clear hq hk HV9; (try clear f1 y1 y2 y3 y4 z1 z2 z3 z4); have f1 := cell_at (HM.out.move HQ.out.keep HQ.out.mkr).fx 1 _ rfl; have y1 := cell_at HQ.out.bx 1 _ rfl; have y2 := cell_at HQ.out.bx 2 _ rfl; have y3 := cell_at HQ.out.bx 3 _ rfl; have y4 := cell_at HQ.out.bx 4 _ rfl; have z1 := blk_frozen HQ.out.bx 1; have z2 := blk_frozen HQ.out.bx 2; have z3 := blk_frozen HQ.out.bx 3; have z4 := blk_frozen HQ.out.bx 4) | (go_at_call 35; clear HF3; refine (mq_next HQ.out _ (by omega) (by omega)).mono ?_; rintro _ w9 ⟨e3, rfl, he30, he31, hq, hk⟩; have HV9 := Aside0.mk (Kd.R_step HV.out (fun k hk' hl => hk.block k hl (fun e => by have e : k = w.heap.size + 1 + 1 + 1 := e; have := HHG.out; omega))); clear HQ HV; have HV := HV9; have HQ := Aside0.mk hq; clear hq hk HV9; (try clear f1 y1 y2 y3 y4 z1 z2 z3 z4); have f1 := cell_at (HM.out.move HQ.out.keep HQ.out.mkr).fx 1 _ rfl; have y1 := cell_at HQ.out.bx 1 _ rfl; have y2 := cell_at HQ.out.bx 2 _ rfl; have y3 := cell_at HQ.out.bx 3 _ rfl; have y4 := cell_at HQ.out.bx 4 _ rfl; have z1 := blk_frozen HQ.out.bx 1; have z2 := blk_frozen HQ.out.bx 2; have z3 := blk_frozen HQ.out.bx 3; have z4 := blk_frozen HQ.out.bx 4))
              have hset := (((HQ.out.set 1 (.int .u8 3)).set 2 (.int .i64 e1)).set 3 (.int .i64 0)).set 4 (.int .i64 0)
              have hkp : Keep (fun i => i = wo.heap.size) w9 ((((w9.setCell ⟨wo.heap.size, 1, none⟩ (.int .u8 3)).setCell ⟨wo.heap.size, 2, none⟩ (.int .i64 e1)).setCell ⟨wo.heap.size, 3, none⟩ (.int .i64 0)).setCell ⟨wo.heap.size, 4, none⟩ (.int .i64 0)) := ((((Keep.refl (fun i => i = wo.heap.size) w9).setCell ⟨wo.heap.size, 1, none⟩ _ (fun _ => rfl)).setCell ⟨wo.heap.size, 2, none⟩ _ (fun _ => rfl)).setCell ⟨wo.heap.size, 3, none⟩ _ (fun _ => rfl)).setCell ⟨wo.heap.size, 4, none⟩ _ (fun _ => rfl)
              generalize (((w9.setCell ⟨wo.heap.size, 1, none⟩ (.int .u8 3)).setCell ⟨wo.heap.size, 2, none⟩ (.int .i64 e1)).setCell ⟨wo.heap.size, 3, none⟩ (.int .i64 0)).setCell ⟨wo.heap.size, 4, none⟩ (.int .i64 0) = WL at hset hkp ⊢
              have HVL := Aside0.mk (Kd.R_step HV.out (fun k hk hl => hkp.block k hl (fun e => by have e : k = wo.heap.size := e; omega)))
              have HQL := Aside0.mk (show MQ w wo WL wo.heap.size #[.slice Av mv cv, .int .u8 3, .int .i64 e1, .int .i64 0, .int .i64 0] from hset)
              clear HQ HV hset hkp f1 y1 y2 y3 y4 z1 z2 z3 z4
              have x0 := cell_at HQL.out.bx 0 _ rfl
              have x1 := cell_at HQL.out.bx 1 _ rfl
              have x2 := cell_at HQL.out.bx 2 _ rfl
              have x3 := cell_at HQL.out.bx 3 _ rfl
              have x4 := cell_at HQL.out.bx 4 _ rfl
              have HML := Aside0.mk (HM.out.move HQL.out.keep HQL.out.mkr)
              have f2 := cell_at HML.out.fx 2 _ rfl
              have HOL := Aside0.mk (Kd.R_step HO.out (fun k hk hl => HQL.out.keep.block k hl (fun e => by have e : k = w.heap.size + 1 + 1 + 1 := e; omega)))
              have HGB := Aside0.mk (show ∀ b ∈ bs ++ [(is, 3, e1, 0, 0)], GoodB v n b from fun b hb => by
                rcases List.mem_append.1 hb with h | h
                · exact HG.out b h
                · rw [List.mem_singleton] at h
                  rw [h]
                  exact ⟨by show is.length ≤ 8; omega, HGI.out, ⟨⟨by decide, by decide⟩, ⟨by omega, by omega⟩, ⟨by omega, by omega⟩, ⟨by omega, by omega⟩⟩, by unfold endErr; simp only; repeat (rw [if_neg (by omega)])⟩)
              have hbl2 : (bs ++ [(is, 3, e1, 0, 0)]).length = x + 1 := by rw [List.length_append, hbl]; rfl
              have HBL2 := Aside0.mk hbl2
              clear hbl2
              go_wp2_with (first | ((with_reducible refine gate_builtin (b := .append) (xs := #[.tmp 78, .tmp 80]) rfl ?_); at_builtin; refine Kd.R_append kBlk (w0 := WL) (w.heap.size + 1 + 1 + 1 + 1) rfl (.tmp 78) (.tmp 80) 23 84 (.agg #[.slice none 0 0, .int .u8 0, .int .i64 0, .int .i64 0, .int .i64 0]) 56 rfl Try.underlying23 infoBlk rfl (show 0 < 5 by decide) (by decide) vb bs (is, 3, e1, 0, 0) [.slice Av mv cv, .int .u8 3, .int .i64 e1, .int .i64 0, .int .i64 0] (fun k => w.heap.size + 1 + 1 + 1 < k) (fun k => wo.heap.size < k) rfl rfl (blk_M (Kd.R_lower HVL.out (by have := HHG.out; omega))) (fun k hk => ⟨by have := HHG.out; omega, fun e => absurd ((Kd.R_bound HO.out).1 k e.symm).2.2.1 (by omega)⟩) (fun k hk => by have := HHG.out; have := HQL.out.keep.size; omega) HOL.out (Below.refl _ _) (by have := HHG.out; have := HQL.out.keep.size; omega) (blk_fits (by omega)) ?_; intro v7 w7 ho7 hb7 hg7 hat7; obtain ⟨A7, c7, hv7, -, -⟩ := Kd.R_reads ho7; obtain ⟨m7, hm7⟩ : ∃ m7, (bs ++ [(is, 3, e1, 0, 0)]).length = m7 := ⟨_, rfl⟩; rw [hm7] at hv7; subst hv7; clear hm7; have HO7 := Aside0.mk ho7; have HM7 := Aside0.mk (HML.out.grow (grown_keep hg7 (fun i hi => HOL.out.1 i hi))); clear ho7 hb7 hg7 hat7 x0 x1 x2 x3 x4 f2; have f2 := cell_at HM7.out.fx 2 _ rfl; have z2 := blk_frozen HM7.out.fx 2))
              have HMN := Aside0.mk (HM7.out.setf (.slice A7 m7 c7))
              have HON := Aside0.mk (show kBlk.R 84 (w7.setCell ⟨w.heap.size + 1 + 1, 2, none⟩ (.slice A7 m7 c7)) (w.heap.size + 1 + 1 + 1 + 1) (fun k => w.heap.size + 1 + 1 + 1 < k) (.slice A7 m7 c7) (bs ++ [(is, 3, e1, 0, 0)]) from Kd.R_step HO7.out (fun k hk hl => Below.heap_setCell _ _ _ _ (show k ≠ w.heap.size + 1 + 1 by omega)))
              go_roundw
              case rel => first | exact ⟨x + 1, by omega, by go_num, .slice A7 m7 c7, _, HMN, HON, HBL2.out, HGB⟩ | ((repeat apply Exists.intro); exact ⟨⟨x + 1, by omega, by go_num, .slice A7 m7 c7, _, HMN, HON, HBL2.out, HGB⟩, rfl⟩)
              case measure => simp [intOf]; omega
            · have HF1 := Aside0.mk trivial
              have HF2 := Aside0.mk trivial
              have HF3 := Aside0.mk trivial
              clear hy0 hy1
              go_upto_region 19 with (first | (go_at_call 35; clear HF1; refine (mq_next HQ.out _ (by omega) (by omega)).mono ?_; rintro _ w9 ⟨e1, rfl, he10, he11, hq, hk⟩; have HV9 := Aside0.mk (Kd.R_step HV.out (fun k hk' hl => hk.block k hl (fun e => by have e : k = w.heap.size + 1 + 1 + 1 := e; have := HHG.out; omega))); clear HQ HV; have HV := HV9; have HQ := Aside0.mk hq; clear hq hk HV9; (try clear f1 y1 y2 y3 y4 z1 z2 z3 z4); have f1 := cell_at (HM.out.move HQ.out.keep HQ.out.mkr).fx 1 _ rfl; have y1 := cell_at HQ.out.bx 1 _ rfl; have y2 := cell_at HQ.out.bx 2 _ rfl; have y3 := cell_at HQ.out.bx 3 _ rfl; have y4 := cell_at HQ.out.bx 4 _ rfl; have z1 := blk_frozen HQ.out.bx 1; have z2 := blk_frozen HQ.out.bx 2; have z3 := blk_frozen HQ.out.bx 3; have z4 := blk_frozen HQ.out.bx 4) | (go_at_call 35; clear HF2; refine (mq_next HQ.out _ (by omega) (by omega)).mono ?_; rintro _ w9 ⟨e2, rfl, he20, he21, hq, hk⟩; have HV9 := Aside0.mk (Kd.R_step HV.out (fun k hk' hl => hk.block k hl (fun e => by have e : k = w.heap.size + 1 + 1 + 1 := e; have := HHG.out; omega))); clear HQ HV; have HV := HV9; have HQ := Aside0.mk hq; clear hq hk HV9; (try clear f1 y1 y2 y3 y4 z1 z2 z3 z4); have f1 := cell_at (HM.out.move HQ.out.keep HQ.out.mkr).fx 1 _ rfl; have y1 := cell_at HQ.out.bx 1 _ rfl; have y2 := cell_at HQ.out.bx 2 _ rfl; have y3 := cell_at HQ.out.bx 3 _ rfl; have y4 := cell_at HQ.out.bx 4 _ rfl; have z1 := blk_frozen HQ.out.bx 1; have z2 := blk_frozen HQ.out.bx 2; have z3 := blk_frozen HQ.out.bx 3; have z4 := blk_frozen HQ.out.bx 4) | (go_at_call 35; clear HF3; refine (mq_next HQ.out _ (by omega) (by omega)).mono ?_; rintro _ w9 ⟨e3, rfl, he30, he31, hq, hk⟩; have HV9 := Aside0.mk (Kd.R_step HV.out (fun k hk' hl => hk.block k hl (fun e => by have e : k = w.heap.size + 1 + 1 + 1 := e; have := HHG.out; omega))); clear HQ HV; have HV := HV9; have HQ := Aside0.mk hq; clear hq hk HV9; (try clear f1 y1 y2 y3 y4 z1 z2 z3 z4); have f1 := cell_at (HM.out.move HQ.out.keep HQ.out.mkr).fx 1 _ rfl; have y1 := cell_at HQ.out.bx 1 _ rfl; have y2 := cell_at HQ.out.bx 2 _ rfl; have y3 := cell_at HQ.out.bx 3 _ rfl; have y4 := cell_at HQ.out.bx 4 _ rfl; have z1 := blk_frozen HQ.out.bx 1; have z2 := blk_frozen HQ.out.bx 2; have z3 := blk_frozen HQ.out.bx 3; have z4 := blk_frozen HQ.out.bx 4))
              have hset := (((HQ.out.set 1 (.int .u8 1)).set 2 (.int .i64 0)).set 3 (.int .i64 e1)).set 4 (.int .i64 0)
              have hkp : Keep (fun i => i = wo.heap.size) w9 ((((w9.setCell ⟨wo.heap.size, 1, none⟩ (.int .u8 1)).setCell ⟨wo.heap.size, 2, none⟩ (.int .i64 0)).setCell ⟨wo.heap.size, 3, none⟩ (.int .i64 e1)).setCell ⟨wo.heap.size, 4, none⟩ (.int .i64 0)) := ((((Keep.refl (fun i => i = wo.heap.size) w9).setCell ⟨wo.heap.size, 1, none⟩ _ (fun _ => rfl)).setCell ⟨wo.heap.size, 2, none⟩ _ (fun _ => rfl)).setCell ⟨wo.heap.size, 3, none⟩ _ (fun _ => rfl)).setCell ⟨wo.heap.size, 4, none⟩ _ (fun _ => rfl)
              generalize (((w9.setCell ⟨wo.heap.size, 1, none⟩ (.int .u8 1)).setCell ⟨wo.heap.size, 2, none⟩ (.int .i64 0)).setCell ⟨wo.heap.size, 3, none⟩ (.int .i64 e1)).setCell ⟨wo.heap.size, 4, none⟩ (.int .i64 0) = WL at hset hkp ⊢
              have HVL := Aside0.mk (Kd.R_step HV.out (fun k hk hl => hkp.block k hl (fun e => by have e : k = wo.heap.size := e; omega)))
              have HQL := Aside0.mk (show MQ w wo WL wo.heap.size #[.slice Av mv cv, .int .u8 1, .int .i64 0, .int .i64 e1, .int .i64 0] from hset)
              clear HQ HV hset hkp f1 y1 y2 y3 y4 z1 z2 z3 z4
              have x0 := cell_at HQL.out.bx 0 _ rfl
              have x1 := cell_at HQL.out.bx 1 _ rfl
              have x2 := cell_at HQL.out.bx 2 _ rfl
              have x3 := cell_at HQL.out.bx 3 _ rfl
              have x4 := cell_at HQL.out.bx 4 _ rfl
              have HML := Aside0.mk (HM.out.move HQL.out.keep HQL.out.mkr)
              have f2 := cell_at HML.out.fx 2 _ rfl
              have HOL := Aside0.mk (Kd.R_step HO.out (fun k hk hl => HQL.out.keep.block k hl (fun e => by have e : k = w.heap.size + 1 + 1 + 1 := e; omega)))
              have HGB := Aside0.mk (show ∀ b ∈ bs ++ [(is, 1, 0, e1, 0)], GoodB v n b from fun b hb => by
                rcases List.mem_append.1 hb with h | h
                · exact HG.out b h
                · rw [List.mem_singleton] at h
                  rw [h]
                  exact ⟨by show is.length ≤ 8; omega, HGI.out, ⟨⟨by decide, by decide⟩, ⟨by omega, by omega⟩, ⟨by omega, by omega⟩, ⟨by omega, by omega⟩⟩, by unfold endErr; simp only; repeat (rw [if_neg (by omega)])⟩)
              have hbl2 : (bs ++ [(is, 1, 0, e1, 0)]).length = x + 1 := by rw [List.length_append, hbl]; rfl
              have HBL2 := Aside0.mk hbl2
              clear hbl2
              go_wp2_with (first | ((with_reducible refine gate_builtin (b := .append) (xs := #[.tmp 78, .tmp 80]) rfl ?_); at_builtin; refine Kd.R_append kBlk (w0 := WL) (w.heap.size + 1 + 1 + 1 + 1) rfl (.tmp 78) (.tmp 80) 23 84 (.agg #[.slice none 0 0, .int .u8 0, .int .i64 0, .int .i64 0, .int .i64 0]) 56 rfl Try.underlying23 infoBlk rfl (show 0 < 5 by decide) (by decide) vb bs (is, 1, 0, e1, 0) [.slice Av mv cv, .int .u8 1, .int .i64 0, .int .i64 e1, .int .i64 0] (fun k => w.heap.size + 1 + 1 + 1 < k) (fun k => wo.heap.size < k) rfl rfl (blk_M (Kd.R_lower HVL.out (by have := HHG.out; omega))) (fun k hk => ⟨by have := HHG.out; omega, fun e => absurd ((Kd.R_bound HO.out).1 k e.symm).2.2.1 (by omega)⟩) (fun k hk => by have := HHG.out; have := HQL.out.keep.size; omega) HOL.out (Below.refl _ _) (by have := HHG.out; have := HQL.out.keep.size; omega) (blk_fits (by omega)) ?_; intro v7 w7 ho7 hb7 hg7 hat7; obtain ⟨A7, c7, hv7, -, -⟩ := Kd.R_reads ho7; obtain ⟨m7, hm7⟩ : ∃ m7, (bs ++ [(is, 1, 0, e1, 0)]).length = m7 := ⟨_, rfl⟩; rw [hm7] at hv7; subst hv7; clear hm7; have HO7 := Aside0.mk ho7; have HM7 := Aside0.mk (HML.out.grow (grown_keep hg7 (fun i hi => HOL.out.1 i hi))); clear ho7 hb7 hg7 hat7 x0 x1 x2 x3 x4 f2; have f2 := cell_at HM7.out.fx 2 _ rfl; have z2 := blk_frozen HM7.out.fx 2))
              have HMN := Aside0.mk (HM7.out.setf (.slice A7 m7 c7))
              have HON := Aside0.mk (show kBlk.R 84 (w7.setCell ⟨w.heap.size + 1 + 1, 2, none⟩ (.slice A7 m7 c7)) (w.heap.size + 1 + 1 + 1 + 1) (fun k => w.heap.size + 1 + 1 + 1 < k) (.slice A7 m7 c7) (bs ++ [(is, 1, 0, e1, 0)]) from Kd.R_step HO7.out (fun k hk hl => Below.heap_setCell _ _ _ _ (show k ≠ w.heap.size + 1 + 1 by omega)))
              go_roundw
              case rel => first | exact ⟨x + 1, by omega, by go_num, .slice A7 m7 c7, _, HMN, HON, HBL2.out, HGB⟩ | ((repeat apply Exists.intro); exact ⟨⟨x + 1, by omega, by go_num, .slice A7 m7 c7, _, HMN, HON, HBL2.out, HGB⟩, rfl⟩)
              case measure => simp [intOf]; omega
            · have HF1 := Aside0.mk trivial
              have HF2 := Aside0.mk trivial
              have HF3 := Aside0.mk trivial
              clear hy0 hy1
              go_upto_region 19 with (first | (go_at_call 35; clear HF1; refine (mq_next HQ.out _ (by omega) (by omega)).mono ?_; rintro _ w9 ⟨e1, rfl, he10, he11, hq, hk⟩; have HV9 := Aside0.mk (Kd.R_step HV.out (fun k hk' hl => hk.block k hl (fun e => by have e : k = w.heap.size + 1 + 1 + 1 := e; have := HHG.out; omega))); clear HQ HV; have HV := HV9; have HQ := Aside0.mk hq; clear hq hk HV9; (try clear f1 y1 y2 y3 y4 z1 z2 z3 z4); have f1 := cell_at (HM.out.move HQ.out.keep HQ.out.mkr).fx 1 _ rfl; have y1 := cell_at HQ.out.bx 1 _ rfl; have y2 := cell_at HQ.out.bx 2 _ rfl; have y3 := cell_at HQ.out.bx 3 _ rfl; have y4 := cell_at HQ.out.bx 4 _ rfl; have z1 := blk_frozen HQ.out.bx 1; have z2 := blk_frozen HQ.out.bx 2; have z3 := blk_frozen HQ.out.bx 3; have z4 := blk_frozen HQ.out.bx 4) | (go_at_call 35; clear HF2; refine (mq_next HQ.out _ (by omega) (by omega)).mono ?_; rintro _ w9 ⟨e2, rfl, he20, he21, hq, hk⟩; have HV9 := Aside0.mk (Kd.R_step HV.out (fun k hk' hl => hk.block k hl (fun e => by have e : k = w.heap.size + 1 + 1 + 1 := e; have := HHG.out; omega))); clear HQ HV; have HV := HV9; have HQ := Aside0.mk hq; clear hq hk HV9; (try clear f1 y1 y2 y3 y4 z1 z2 z3 z4); have f1 := cell_at (HM.out.move HQ.out.keep HQ.out.mkr).fx 1 _ rfl; have y1 := cell_at HQ.out.bx 1 _ rfl; have y2 := cell_at HQ.out.bx 2 _ rfl; have y3 := cell_at HQ.out.bx 3 _ rfl; have y4 := cell_at HQ.out.bx 4 _ rfl; have z1 := blk_frozen HQ.out.bx 1; have z2 := blk_frozen HQ.out.bx 2; have z3 := blk_frozen HQ.out.bx 3; have z4 := blk_frozen HQ.out.bx 4) | (go_at_call 35; clear HF3; refine (mq_next HQ.out _ (by omega) (by omega)).mono ?_; rintro _ w9 ⟨e3, rfl, he30, he31, hq, hk⟩; have HV9 := Aside0.mk (Kd.R_step HV.out (fun k hk' hl => hk.block k hl (fun e => by have e : k = w.heap.size + 1 + 1 + 1 := e; have := HHG.out; omega))); clear HQ HV; have HV := HV9; have HQ := Aside0.mk hq; clear hq hk HV9; (try clear f1 y1 y2 y3 y4 z1 z2 z3 z4); have f1 := cell_at (HM.out.move HQ.out.keep HQ.out.mkr).fx 1 _ rfl; have y1 := cell_at HQ.out.bx 1 _ rfl; have y2 := cell_at HQ.out.bx 2 _ rfl; have y3 := cell_at HQ.out.bx 3 _ rfl; have y4 := cell_at HQ.out.bx 4 _ rfl; have z1 := blk_frozen HQ.out.bx 1; have z2 := blk_frozen HQ.out.bx 2; have z3 := blk_frozen HQ.out.bx 3; have z4 := blk_frozen HQ.out.bx 4))
              have hset := (((HQ.out.set 1 (.int .u8 2)).set 2 (.int .i64 e1)).set 3 (.int .i64 e2)).set 4 (.int .i64 e3)
              have hkp : Keep (fun i => i = wo.heap.size) w9 ((((w9.setCell ⟨wo.heap.size, 1, none⟩ (.int .u8 2)).setCell ⟨wo.heap.size, 2, none⟩ (.int .i64 e1)).setCell ⟨wo.heap.size, 3, none⟩ (.int .i64 e2)).setCell ⟨wo.heap.size, 4, none⟩ (.int .i64 e3)) := ((((Keep.refl (fun i => i = wo.heap.size) w9).setCell ⟨wo.heap.size, 1, none⟩ _ (fun _ => rfl)).setCell ⟨wo.heap.size, 2, none⟩ _ (fun _ => rfl)).setCell ⟨wo.heap.size, 3, none⟩ _ (fun _ => rfl)).setCell ⟨wo.heap.size, 4, none⟩ _ (fun _ => rfl)
              generalize (((w9.setCell ⟨wo.heap.size, 1, none⟩ (.int .u8 2)).setCell ⟨wo.heap.size, 2, none⟩ (.int .i64 e1)).setCell ⟨wo.heap.size, 3, none⟩ (.int .i64 e2)).setCell ⟨wo.heap.size, 4, none⟩ (.int .i64 e3) = WL at hset hkp ⊢
              have HVL := Aside0.mk (Kd.R_step HV.out (fun k hk hl => hkp.block k hl (fun e => by have e : k = wo.heap.size := e; omega)))
              have HQL := Aside0.mk (show MQ w wo WL wo.heap.size #[.slice Av mv cv, .int .u8 2, .int .i64 e1, .int .i64 e2, .int .i64 e3] from hset)
              clear HQ HV hset hkp f1 y1 y2 y3 y4 z1 z2 z3 z4
              have x0 := cell_at HQL.out.bx 0 _ rfl
              have x1 := cell_at HQL.out.bx 1 _ rfl
              have x2 := cell_at HQL.out.bx 2 _ rfl
              have x3 := cell_at HQL.out.bx 3 _ rfl
              have x4 := cell_at HQL.out.bx 4 _ rfl
              have HML := Aside0.mk (HM.out.move HQL.out.keep HQL.out.mkr)
              have f2 := cell_at HML.out.fx 2 _ rfl
              have HOL := Aside0.mk (Kd.R_step HO.out (fun k hk hl => HQL.out.keep.block k hl (fun e => by have e : k = w.heap.size + 1 + 1 + 1 := e; omega)))
              have HGB := Aside0.mk (show ∀ b ∈ bs ++ [(is, 2, e1, e2, e3)], GoodB v n b from fun b hb => by
                rcases List.mem_append.1 hb with h | h
                · exact HG.out b h
                · rw [List.mem_singleton] at h
                  rw [h]
                  exact ⟨by show is.length ≤ 8; omega, HGI.out, ⟨⟨by decide, by decide⟩, ⟨by omega, by omega⟩, ⟨by omega, by omega⟩, ⟨by omega, by omega⟩⟩, by unfold endErr; simp only; repeat (rw [if_neg (by omega)])⟩)
              have hbl2 : (bs ++ [(is, 2, e1, e2, e3)]).length = x + 1 := by rw [List.length_append, hbl]; rfl
              have HBL2 := Aside0.mk hbl2
              clear hbl2
              go_wp2_with (first | ((with_reducible refine gate_builtin (b := .append) (xs := #[.tmp 78, .tmp 80]) rfl ?_); at_builtin; refine Kd.R_append kBlk (w0 := WL) (w.heap.size + 1 + 1 + 1 + 1) rfl (.tmp 78) (.tmp 80) 23 84 (.agg #[.slice none 0 0, .int .u8 0, .int .i64 0, .int .i64 0, .int .i64 0]) 56 rfl Try.underlying23 infoBlk rfl (show 0 < 5 by decide) (by decide) vb bs (is, 2, e1, e2, e3) [.slice Av mv cv, .int .u8 2, .int .i64 e1, .int .i64 e2, .int .i64 e3] (fun k => w.heap.size + 1 + 1 + 1 < k) (fun k => wo.heap.size < k) rfl rfl (blk_M (Kd.R_lower HVL.out (by have := HHG.out; omega))) (fun k hk => ⟨by have := HHG.out; omega, fun e => absurd ((Kd.R_bound HO.out).1 k e.symm).2.2.1 (by omega)⟩) (fun k hk => by have := HHG.out; have := HQL.out.keep.size; omega) HOL.out (Below.refl _ _) (by have := HHG.out; have := HQL.out.keep.size; omega) (blk_fits (by omega)) ?_; intro v7 w7 ho7 hb7 hg7 hat7; obtain ⟨A7, c7, hv7, -, -⟩ := Kd.R_reads ho7; obtain ⟨m7, hm7⟩ : ∃ m7, (bs ++ [(is, 2, e1, e2, e3)]).length = m7 := ⟨_, rfl⟩; rw [hm7] at hv7; subst hv7; clear hm7; have HO7 := Aside0.mk ho7; have HM7 := Aside0.mk (HML.out.grow (grown_keep hg7 (fun i hi => HOL.out.1 i hi))); clear ho7 hb7 hg7 hat7 x0 x1 x2 x3 x4 f2; have f2 := cell_at HM7.out.fx 2 _ rfl; have z2 := blk_frozen HM7.out.fx 2))
              have HMN := Aside0.mk (HM7.out.setf (.slice A7 m7 c7))
              have HON := Aside0.mk (show kBlk.R 84 (w7.setCell ⟨w.heap.size + 1 + 1, 2, none⟩ (.slice A7 m7 c7)) (w.heap.size + 1 + 1 + 1 + 1) (fun k => w.heap.size + 1 + 1 + 1 < k) (.slice A7 m7 c7) (bs ++ [(is, 2, e1, e2, e3)]) from Kd.R_step HO7.out (fun k hk hl => Below.heap_setCell _ _ _ _ (show k ≠ w.heap.size + 1 + 1 by omega)))
              go_roundw
              case rel => first | exact ⟨x + 1, by omega, by go_num, .slice A7 m7 c7, _, HMN, HON, HBL2.out, HGB⟩ | ((repeat apply Exists.intro); exact ⟨⟨x + 1, by omega, by go_num, .slice A7 m7 c7, _, HMN, HON, HBL2.out, HGB⟩, rfl⟩)
              case measure => simp [intOf]; omega
            · have HF1 := Aside0.mk trivial
              have HF2 := Aside0.mk trivial
              have HF3 := Aside0.mk trivial
              clear hy0 hy1
              go_upto_region 19 with (first | (go_at_call 35; clear HF1; refine (mq_next HQ.out _ (by omega) (by omega)).mono ?_; rintro _ w9 ⟨e1, rfl, he10, he11, hq, hk⟩; have HV9 := Aside0.mk (Kd.R_step HV.out (fun k hk' hl => hk.block k hl (fun e => by have e : k = w.heap.size + 1 + 1 + 1 := e; have := HHG.out; omega))); clear HQ HV; have HV := HV9; have HQ := Aside0.mk hq; clear hq hk HV9; (try clear f1 y1 y2 y3 y4 z1 z2 z3 z4); have f1 := cell_at (HM.out.move HQ.out.keep HQ.out.mkr).fx 1 _ rfl; have y1 := cell_at HQ.out.bx 1 _ rfl; have y2 := cell_at HQ.out.bx 2 _ rfl; have y3 := cell_at HQ.out.bx 3 _ rfl; have y4 := cell_at HQ.out.bx 4 _ rfl; have z1 := blk_frozen HQ.out.bx 1; have z2 := blk_frozen HQ.out.bx 2; have z3 := blk_frozen HQ.out.bx 3; have z4 := blk_frozen HQ.out.bx 4) | (go_at_call 35; clear HF2; refine (mq_next HQ.out _ (by omega) (by omega)).mono ?_; rintro _ w9 ⟨e2, rfl, he20, he21, hq, hk⟩; have HV9 := Aside0.mk (Kd.R_step HV.out (fun k hk' hl => hk.block k hl (fun e => by have e : k = w.heap.size + 1 + 1 + 1 := e; have := HHG.out; omega))); clear HQ HV; have HV := HV9; have HQ := Aside0.mk hq; clear hq hk HV9; (try clear f1 y1 y2 y3 y4 z1 z2 z3 z4); have f1 := cell_at (HM.out.move HQ.out.keep HQ.out.mkr).fx 1 _ rfl; have y1 := cell_at HQ.out.bx 1 _ rfl; have y2 := cell_at HQ.out.bx 2 _ rfl; have y3 := cell_at HQ.out.bx 3 _ rfl; have y4 := cell_at HQ.out.bx 4 _ rfl; have z1 := blk_frozen HQ.out.bx 1; have z2 := blk_frozen HQ.out.bx 2; have z3 := blk_frozen HQ.out.bx 3; have z4 := blk_frozen HQ.out.bx 4) | (go_at_call 35; clear HF3; refine (mq_next HQ.out _ (by omega) (by omega)).mono ?_; rintro _ w9 ⟨e3, rfl, he30, he31, hq, hk⟩; have HV9 := Aside0.mk (Kd.R_step HV.out (fun k hk' hl => hk.block k hl (fun e => by have e : k = w.heap.size + 1 + 1 + 1 := e; have := HHG.out; omega))); clear HQ HV; have HV := HV9; have HQ := Aside0.mk hq; clear hq hk HV9; (try clear f1 y1 y2 y3 y4 z1 z2 z3 z4); have f1 := cell_at (HM.out.move HQ.out.keep HQ.out.mkr).fx 1 _ rfl; have y1 := cell_at HQ.out.bx 1 _ rfl; have y2 := cell_at HQ.out.bx 2 _ rfl; have y3 := cell_at HQ.out.bx 3 _ rfl; have y4 := cell_at HQ.out.bx 4 _ rfl; have z1 := blk_frozen HQ.out.bx 1; have z2 := blk_frozen HQ.out.bx 2; have z3 := blk_frozen HQ.out.bx 3; have z4 := blk_frozen HQ.out.bx 4))
              have hset := (((HQ.out.set 1 (.int .u8 2)).set 2 (.int .i64 e1)).set 3 (.int .i64 e2)).set 4 (.int .i64 e3)
              have hkp : Keep (fun i => i = wo.heap.size) w9 ((((w9.setCell ⟨wo.heap.size, 1, none⟩ (.int .u8 2)).setCell ⟨wo.heap.size, 2, none⟩ (.int .i64 e1)).setCell ⟨wo.heap.size, 3, none⟩ (.int .i64 e2)).setCell ⟨wo.heap.size, 4, none⟩ (.int .i64 e3)) := ((((Keep.refl (fun i => i = wo.heap.size) w9).setCell ⟨wo.heap.size, 1, none⟩ _ (fun _ => rfl)).setCell ⟨wo.heap.size, 2, none⟩ _ (fun _ => rfl)).setCell ⟨wo.heap.size, 3, none⟩ _ (fun _ => rfl)).setCell ⟨wo.heap.size, 4, none⟩ _ (fun _ => rfl)
              generalize (((w9.setCell ⟨wo.heap.size, 1, none⟩ (.int .u8 2)).setCell ⟨wo.heap.size, 2, none⟩ (.int .i64 e1)).setCell ⟨wo.heap.size, 3, none⟩ (.int .i64 e2)).setCell ⟨wo.heap.size, 4, none⟩ (.int .i64 e3) = WL at hset hkp ⊢
              have HVL := Aside0.mk (Kd.R_step HV.out (fun k hk hl => hkp.block k hl (fun e => by have e : k = wo.heap.size := e; omega)))
              have HQL := Aside0.mk (show MQ w wo WL wo.heap.size #[.slice Av mv cv, .int .u8 2, .int .i64 e1, .int .i64 e2, .int .i64 e3] from hset)
              clear HQ HV hset hkp f1 y1 y2 y3 y4 z1 z2 z3 z4
              have x0 := cell_at HQL.out.bx 0 _ rfl
              have x1 := cell_at HQL.out.bx 1 _ rfl
              have x2 := cell_at HQL.out.bx 2 _ rfl
              have x3 := cell_at HQL.out.bx 3 _ rfl
              have x4 := cell_at HQL.out.bx 4 _ rfl
              have HML := Aside0.mk (HM.out.move HQL.out.keep HQL.out.mkr)
              have f2 := cell_at HML.out.fx 2 _ rfl
              have HOL := Aside0.mk (Kd.R_step HO.out (fun k hk hl => HQL.out.keep.block k hl (fun e => by have e : k = w.heap.size + 1 + 1 + 1 := e; omega)))
              have HGB := Aside0.mk (show ∀ b ∈ bs ++ [(is, 2, e1, e2, e3)], GoodB v n b from fun b hb => by
                rcases List.mem_append.1 hb with h | h
                · exact HG.out b h
                · rw [List.mem_singleton] at h
                  rw [h]
                  exact ⟨by show is.length ≤ 8; omega, HGI.out, ⟨⟨by decide, by decide⟩, ⟨by omega, by omega⟩, ⟨by omega, by omega⟩, ⟨by omega, by omega⟩⟩, by unfold endErr; simp only; repeat (rw [if_neg (by omega)])⟩)
              have hbl2 : (bs ++ [(is, 2, e1, e2, e3)]).length = x + 1 := by rw [List.length_append, hbl]; rfl
              have HBL2 := Aside0.mk hbl2
              clear hbl2
              go_wp2_with (first | ((with_reducible refine gate_builtin (b := .append) (xs := #[.tmp 78, .tmp 80]) rfl ?_); at_builtin; refine Kd.R_append kBlk (w0 := WL) (w.heap.size + 1 + 1 + 1 + 1) rfl (.tmp 78) (.tmp 80) 23 84 (.agg #[.slice none 0 0, .int .u8 0, .int .i64 0, .int .i64 0, .int .i64 0]) 56 rfl Try.underlying23 infoBlk rfl (show 0 < 5 by decide) (by decide) vb bs (is, 2, e1, e2, e3) [.slice Av mv cv, .int .u8 2, .int .i64 e1, .int .i64 e2, .int .i64 e3] (fun k => w.heap.size + 1 + 1 + 1 < k) (fun k => wo.heap.size < k) rfl rfl (blk_M (Kd.R_lower HVL.out (by have := HHG.out; omega))) (fun k hk => ⟨by have := HHG.out; omega, fun e => absurd ((Kd.R_bound HO.out).1 k e.symm).2.2.1 (by omega)⟩) (fun k hk => by have := HHG.out; have := HQL.out.keep.size; omega) HOL.out (Below.refl _ _) (by have := HHG.out; have := HQL.out.keep.size; omega) (blk_fits (by omega)) ?_; intro v7 w7 ho7 hb7 hg7 hat7; obtain ⟨A7, c7, hv7, -, -⟩ := Kd.R_reads ho7; obtain ⟨m7, hm7⟩ : ∃ m7, (bs ++ [(is, 2, e1, e2, e3)]).length = m7 := ⟨_, rfl⟩; rw [hm7] at hv7; subst hv7; clear hm7; have HO7 := Aside0.mk ho7; have HM7 := Aside0.mk (HML.out.grow (grown_keep hg7 (fun i hi => HOL.out.1 i hi))); clear ho7 hb7 hg7 hat7 x0 x1 x2 x3 x4 f2; have f2 := cell_at HM7.out.fx 2 _ rfl; have z2 := blk_frozen HM7.out.fx 2))
              have HMN := Aside0.mk (HM7.out.setf (.slice A7 m7 c7))
              have HON := Aside0.mk (show kBlk.R 84 (w7.setCell ⟨w.heap.size + 1 + 1, 2, none⟩ (.slice A7 m7 c7)) (w.heap.size + 1 + 1 + 1 + 1) (fun k => w.heap.size + 1 + 1 + 1 < k) (.slice A7 m7 c7) (bs ++ [(is, 2, e1, e2, e3)]) from Kd.R_step HO7.out (fun k hk hl => Below.heap_setCell _ _ _ _ (show k ≠ w.heap.size + 1 + 1 by omega)))
              go_roundw
              case rel => first | exact ⟨x + 1, by omega, by go_num, .slice A7 m7 c7, _, HMN, HON, HBL2.out, HGB⟩ | ((repeat apply Exists.intro); exact ⟨⟨x + 1, by omega, by go_num, .slice A7 m7 c7, _, HMN, HON, HBL2.out, HGB⟩, rfl⟩)
              case measure => simp [intOf]; omega
      · obtain rfl : x = n := by omega
        obtain ⟨Av, cv, hvb, -, -⟩ := Kd.R_reads HO.out
        have HBL := Aside0.mk hbl
        rw [hbl] at hvb
        subst hvb
        clear hbl hx
        have q0 := cell_at HM.out.fx 0 _ rfl
        have q1 := cell_at HM.out.fx 1 _ rfl
        have q2 := cell_at HM.out.fx 2 _ rfl
        have y0 := cell_at HM.out.res 0 _ rfl
        have y1 := cell_at HM.out.res 1 _ rfl
        have y2 := cell_at HM.out.res 2 _ rfl
        have v0 := blk_frozen HM.out.res 0
        have v1 := blk_frozen HM.out.res 1
        have v2 := blk_frozen HM.out.res 2
        go_wp2
        have rr := HM.out.res; have p0 := fun x0 x1 x2 => cell_at (put3 rr x0 x1 x2) 0 _ rfl; have p1 := fun x0 x1 x2 => cell_at (put3 rr x0 x1 x2) 1 _ rfl; have p2 := fun x0 x1 x2 => cell_at (put3 rr x0 x1 x2) 2 _ rfl; (try simp only [Exit.inBlock, Exit.then]); refine bodyPost_ret (by simp [results, Try.results12, go_sem, p0, p1, p2]; try rfl) rfl ?_
        first | exact ⟨v, _, bs, rfl, Kd.R_mono (Kd.R_lower (Kd.R_step HO.out (fun k hk hl => (put3_far _ _ _).block k hl (fun e => by have e : k = w.heap.size + 1 := e; omega))) (by omega)) (fun _ _ => trivial), ⟨HBL.out, HG.out⟩, ⟨hv1.1, hv1.2.1, hv1.2.2, by first | exact HVV.out.trans (by rw [if_pos (by omega)]) | exact HVV.out.trans (by rw [if_neg (by omega)]) | exact HVV.out⟩, HM.out.below.trans (keep_below (put3_far _ _ _) HM.out.below.size (fun i e => by have e : i = w.heap.size + 1 := e; omega))⟩ | exact ⟨v, _, rfl, bs, Kd.R_mono (Kd.R_lower (Kd.R_step HO.out (fun k hk hl => (put3_far _ _ _).block k hl (fun e => by have e : k = w.heap.size + 1 := e; omega))) (by omega)) (fun _ _ => trivial), ⟨HBL.out, HG.out⟩, ⟨hv1.1, hv1.2.1, hv1.2.2, by first | exact HVV.out.trans (by rw [if_pos (by omega)]) | exact HVV.out.trans (by rw [if_neg (by omega)]) | exact HVV.out⟩, HM.out.below.trans (keep_below (put3_far _ _ _) HM.out.below.size (fun i e => by have e : i = w.heap.size + 1 := e; omega))⟩
end Go.Proofs.Ytnckonglodmfeaa.Ik

namespace Go.Proofs.Ytnckonglodmfeaa.Ik
open Go.RowKit Go.Proofs.YtnckonglodmfeaaW.PrintWords Go.Proofs.YtnckonglodmfeaaW.PrintLast Go.Proofs.YtnckonglodmfeaaW.PrintMore Go.Proofs.Ytnckonglodmfeaa.B Go.Proofs.Ytnckonglodmfeaa.R Go.Proofs.Ytnckonglodmfeaa.S Go.Proofs.Ytnckonglodmfeaa.Is Go.Proofs.Ytnckonglodmfeaa.Gs
set_option linter.unusedVariables false
set_option linter.unusedSimpArgs false
/-- append(v, ..) of nothing. -/
theorem buf_append0 {P : Program} {k : IntKind} {W : World} {S : Nat → Prop} {v : Value} {xs : List Int} (t ty e : TypeId) (ht : P.underlying t = some (.slice e)) {bytes : Nat} (hinfo : (P.info? e).map (fun i => (i.zero, i.size, i.bytes)) = some (some (.int k 0), 1, bytes)) (h : Buf k e W S v xs) (A : Option Addr) (c : Nat) :
    (Builtin.append_ #[t, t] ty #[v, .slice A 0 c]).run P W = .ok v W := by
  obtain ⟨i0, hi, hzz⟩ := Option.map_eq_some_iff.1 hinfo
  rcases h with ⟨rfl, -⟩ | ⟨g, cap, cur, rfl, h2, h3, h4, -⟩
  · cases A <;> simp [Builtin.append_, run_underlying ht, sizeOf, typeInfo, hi, Builtin.lenOf, Builtin.firstCells, loadCells, loadCellsFrom]
  · cases A <;> simp [Builtin.append_, run_underlying ht, sizeOf, typeInfo, hi, Builtin.lenOf, Builtin.firstCells, h4, storeCells, loadCells, loadCellsFrom]
set_option maxHeartbeats 4000000 in
set_option maxRecDepth 100000 in
theorem turned_calls (b ks bs : List Int) (n : Nat) (hn : b.length = n) (A A2 A3 : Option Addr) (c c2 c3 : Nat) (w : World) (hC : kU8.C w A n b) (hlc : n ≤ c) (hby : By b) (hl : n ≤ 1000000) (hCa : kI.C w A2 ks.length ks) (hCb : kU8.C w A3 bs.length bs) (hbb : By bs) :
    Calls Try.prog 16 #[.slice A n c, .slice A2 ks.length c2, .slice A3 bs.length c3] w fun e w' => ∃ m Am nm cm, e = .returned (.slice Am nm cm) ∧ m.length = nm ∧ By m ∧ nm ≤ n ∧ nm ≤ cm ∧ kU8.C w' Am nm m ∧ Below w.heap.size w w' := by
  have mixed : Try.prog.follows .mixedOrders = true := by kernel_rfl
  subst hn
  have HC := Aside0.mk hC
  have HCA := Aside0.mk hCa
  have HCB := Aside0.mk hCb
  have HY := Aside0.mk hby
  have HYB := Aside0.mk hbb
  have hal := hCa.2.1
  have hbl := hCb.2.1
  clear hC hCa hCb hby hbb
  obtain ⟨i5, hi5, -, hi5s, -⟩ := info_ex infoU8
  go_enter Try.func16, Try.ntmps16
  go_wp2_with (first | ((with_reducible refine gate_builtin (b := .append) (xs := #[.tmp 10, .tmp 11]) rfl ?_); at_builtin; refine Kd.R_append_rows (Kd.int .u8) (w0 := w) w.heap.size rfl (.tmp 10) (.tmp 11) 28 5 (.int .u8 0) 1 rfl Try.underlying28 infoU8 rfl (by decide) (by omega) (.slice (some ⟨w.heap.size, 0, none⟩) 0 0) ([] : List Int) b _ _ _ (fun _ => True) (fun _ => False) rfl rfl ?aO ?aR (fun _ _ h => h) (fun _ h => h.elim) ?aF ?aB ?aS ?aL ?_; (case aR => exact Kd.C_alloc HC.out _); (case aB => exact (Below.refl _ _).alloc (Nat.le_refl _) _); (case aF => exact (fun _ _ => trivial)); (case aO => exact R_lit0 kU8 5 w); (case aS => simp); (case aL => (simp only [List.length_nil]; omega)); (intro v1 w1 ho hb1 hg hat; rw [List.nil_append] at ho; have HO := Aside0.mk (Buf.of_R ho); have HW := Aside0.mk hb1; clear ho hb1 hg hat)))
  go_loopw [7, 8] (fun vo vi wr => ∃ (j : Nat) (m : List Int), j ≤ 4 ∧ vi = .int .i64 j ∧ m.length ≤ b.length ∧ Aside0 (By m) ∧ Aside0 (Buf .u8 5 wr (fun k => w.heap.size ≤ k) vo m) ∧ Aside0 (Below w.heap.size w wr)) (fun _ vi _ => 4 - (intOf vi).toNat)
  case atStart => exact ⟨0, b, by omega, rfl, Nat.le_refl _, HY, ⟨HO.out.mono (fun i hi _ => hi.2.1)⟩, HW⟩
  case round =>
    clear HO HW
    obtain ⟨wo, hwo⟩ : ∃ wo, wo = wr := ⟨_, rfl⟩
    subst hwo
    obtain ⟨j, m, hj4, rfl, hmb, HM, HB, HZ⟩ := hrel
    obtain ⟨A1, c1, rfl, hlc1, hC1, hA1⟩ := HB.out.reads
    have HC1 := Aside0.mk hC1
    have HA1 := Aside0.mk hA1
    clear hC1 hA1
    by_cases hgo : j < ks.length ∧ j < bs.length ∧ j < 4 ∧ 0 < m.length
    case neg =>
      have hd : ¬ j < ks.length ∨ (j < ks.length ∧ ¬ j < bs.length) ∨ (j < ks.length ∧ j < bs.length ∧ ¬ j < 4) ∨ (j < ks.length ∧ j < bs.length ∧ j < 4 ∧ m.length = 0) := by omega
      clear hgo
      rcases hd with d1 | ⟨d1, d2⟩ | ⟨d1, d2, d3⟩ | ⟨d1, d2, d3, d4⟩
      · have e1 : decide ((j : Int) < (ks.length : Int)) = false := by simp; omega
        have f1 : decide (j < ks.length) = false := by simp; omega
        go_wp2
        go_ret
        exact ⟨m, A1, _, c1, rfl, rfl, HM.out, hmb, hlc1, HC1.out, HZ.out⟩
      · have e1 : decide ((j : Int) < (ks.length : Int)) = true := by simp; omega
        have f1 : decide (j < ks.length) = true := by simp; omega
        have e2 : decide ((j : Int) < (bs.length : Int)) = false := by simp; omega
        have f2 : decide (j < bs.length) = false := by simp; omega
        go_wp2
        go_ret
        exact ⟨m, A1, _, c1, rfl, rfl, HM.out, hmb, hlc1, HC1.out, HZ.out⟩
      · have e1 : decide ((j : Int) < (ks.length : Int)) = true := by simp; omega
        have f1 : decide (j < ks.length) = true := by simp; omega
        have e2 : decide ((j : Int) < (bs.length : Int)) = true := by simp; omega
        have f2 : decide (j < bs.length) = true := by simp; omega
        have e3 : decide ((j : Int) < 4) = false := by simp; omega
        have f3 : decide (j < 4) = false := by simp; omega
        go_wp2
        go_ret
        exact ⟨m, A1, _, c1, rfl, rfl, HM.out, hmb, hlc1, HC1.out, HZ.out⟩
      · have e1 : decide ((j : Int) < (ks.length : Int)) = true := by simp; omega
        have f1 : decide (j < ks.length) = true := by simp; omega
        have e2 : decide ((j : Int) < (bs.length : Int)) = true := by simp; omega
        have f2 : decide (j < bs.length) = true := by simp; omega
        have e3 : decide ((j : Int) < 4) = true := by simp; omega
        have f3 : decide (j < 4) = true := by simp; omega
        have e4 : decide ((0 : Int) < (m.length : Int)) = false := decide_eq_false (by omega)
        have f4 : decide (0 < m.length) = false := decide_eq_false (by omega)
        obtain ⟨L, hL⟩ : ∃ L, m.length = L := ⟨_, rfl⟩
        have HL := Aside0.mk hL
        rw [hL] at hmb hlc1 HC1 e4 f4 d4 ⊢
        clear d4 hL
        go_wp2
        go_ret
        exact ⟨m, A1, _, c1, rfl, HL.out, HM.out, hmb, hlc1, HC1.out, HZ.out⟩
    obtain ⟨h1, h2, h3, h4⟩ := hgo
    obtain ⟨x, hx⟩ : ∃ x, ks[j]? = some x := ⟨_, List.getElem?_eq_getElem h1⟩
    obtain ⟨y, hy⟩ : ∃ y, bs[j]? = some y := ⟨_, List.getElem?_eq_getElem h2⟩
    obtain ⟨a2, rfl⟩ := C_some HCA.out (by omega)
    obtain ⟨a3, rfl⟩ := C_some HCB.out (by omega)
    have HXY := Aside0.mk (show ∀ W', Below w.heap.size w W' → W'.cell? (a2.add j) = some (.int .i64 x) ∧ W'.cell? (a3.add j) = some (.int .u8 y) from fun W' h => ⟨pw_cell_below h (C_cell HCA.out hx), pw_cell_below h (C_cell HCB.out hy)⟩)
    obtain ⟨x0, x1⟩ := HXY.out wo HZ.out
    have hyr := HYB.out.at hy
    obtain ⟨g, hg, hgS, hgl⟩ := HB.out.head h4
    subst hg
    obtain ⟨iu, hiu⟩ : ∃ i, IntKind.u64.wrap x = i := ⟨_, rfl⟩
    have hiu0 := (wrU64_range x).1
    rw [hiu] at hiu0
    obtain ⟨L, hL⟩ : ∃ L, m.length = L := ⟨_, rfl⟩
    rw [hL] at hmb HB HC1 h4 hlc1 ⊢
    have hpr := tmod_range hiu0 (show (0 : Int) < (L : Int) by omega)
    obtain ⟨p, hp⟩ : ∃ p : Nat, iu.tmod (L : Int) = (p : Int) := ⟨(iu.tmod (L : Int)).toNat, by omega⟩
    rw [hp] at hpr
    have hpn : p < L := by omega
    have y2 := wrU64 (L : Int) (by omega) (by omega)
    have y3 := wrI64 (p : Int) (by omega) (by omega)
    have y4 : ((L : Int) = 0) = False := by simp; omega
    have y5 : ((9 : Int) = 0) = False := by decide
    have hqr := tmod_range hyr.1 (show (0 : Int) < 9 by decide)
    obtain ⟨q, hq⟩ : ∃ q : Nat, y.tmod 9 = (q : Int) := ⟨(y.tmod 9).toNat, by omega⟩
    rw [hq] at hqr
    have hqe : y % 9 = (q : Int) := by rw [← Int.tmod_eq_emod_of_nonneg hyr.1]; exact hq
    have d1 : decide ((j : Int) < (ks.length : Int)) = true := decide_eq_true (by omega)
    have d2 : decide ((j : Int) < (bs.length : Int)) = true := decide_eq_true (by omega)
    have d3 : decide ((j : Int) < 4) = true := decide_eq_true (by omega)
    have d4 : decide ((0 : Int) < (L : Int)) = true := decide_eq_true (by omega)
    have f1 : decide (j < ks.length) = true := decide_eq_true (by omega)
    have f2 : decide (j < bs.length) = true := decide_eq_true (by omega)
    have f3 : decide (j < 4) = true := decide_eq_true (by omega)
    have f4 : decide (0 < L) = true := decide_eq_true (by omega)
    have HL := Aside0.mk hL
    clear hx hy hL
    by_cases h8 : q = 8
    · have hb8 : ((q : Int) == 8) = true := by simp [h8]
      obtain ⟨A0, hA0⟩ : ∃ A0, A0 = some (⟨g, 0, none⟩ : Addr) := ⟨_, rfl⟩
      rw [← hA0] at HB HC1 ⊢
      have HA0 := Aside0.mk hA0
      clear hA0
      have hr3 := fun W => slice_cap (P := Try.prog) 28 5 .i64 .i64 Try.underlying28 hi5 A0 L c1 (p : Int) (by omega) (by omega) W
      rw [Int.toNat_natCast] at hr3
      obtain ⟨A7, hr7, hC7, -, hl7⟩ := sl_from kU8 28 5 .i64 Try.underlying28 hi5 A0 c1 m hi5s ((p : Int) + 1) (by omega) (by have := HL.out; omega) (by rw [HL.out]; exact hlc1)
      have e7 : ((p : Int) + 1).toNat = p + 1 := by omega
      rw [e7] at hr7 hC7 hl7
      rw [HL.out] at hr7
      obtain ⟨n7, hn7⟩ : ∃ n7, (m.drop (p + 1)).length = n7 := ⟨_, rfl⟩
      have hn7' : n7 = L - (p + 1) := by rw [← hn7, List.length_drop, HL.out]
      rw [hn7] at hr7 hC7 hl7
      have HN7 := Aside0.mk hn7
      have HS := Aside0.mk (Buf.short (HB.out.step (w' := wo.drew) (fun _ _ _ => rfl)) rfl (m := p) (c' := p) (by rw [HL.out]; omega) (Nat.le_refl _) (by omega) (fun e => by rw [HA0.out] at e; cases e))
      have hpl : (m.take p).length = p := by rw [List.length_take, HL.out]; omega
      have HPL := Aside0.mk hpl
      have HC7 := Aside0.mk (hC7 wo.drew (Kd.C_drew (by rw [HL.out]; exact HC1.out)))
      have HBYN := Aside0.mk (show By (m.take p ++ m.drop (p + 1)) from By.append (HM.out.take _) (HM.out.drop _))
      have HNL := Aside0.mk (show (m.take p ++ m.drop (p + 1)).length + 1 = L from by rw [List.length_append, hpl, hn7, hn7']; omega)
      obtain ⟨v1, w1, hrA, hbA, hkA⟩ : ∃ v1 w1, (Builtin.append_ #[28, 28] 28 #[.slice A0 p p, .slice A7 n7 (c1 - (p + 1))]).run Try.prog wo.drew = .ok v1 w1 ∧ Buf .u8 5 w1 (fun k => w.heap.size ≤ k) v1 (m.take p ++ m.drop (p + 1)) ∧ Keep (fun k => w.heap.size ≤ k) wo.drew w1 := by
        have hz := HZ.out.size
        by_cases h0 : n7 = 0
        · have hd0 : m.drop (p + 1) = [] := List.eq_nil_of_length_eq_zero (by rw [hn7, h0])
          refine ⟨.slice A0 p p, wo.drew, ?_, ?_, Keep.refl _ _⟩
          · rw [h0]; exact buf_append0 28 28 5 Try.underlying28 infoU8 HS.out A7 _
          · rw [hd0, List.append_nil]; exact HS.out
        · obtain ⟨a7, rfl⟩ := C_some HC7.out (by omega)
          obtain ⟨v1, w1, h1, h2, h3⟩ := Buf.run_append (P := Try.prog) 28 28 5 Try.underlying28 infoU8 (by decide) HS.out a7 n7 (c1 - (p + 1)) (m.drop (p + 1)) hn7 (by omega) (fun j y hy => C_cell HC7.out hy) (by rw [hpl]; omega)
          refine ⟨v1, w1, h1, h2.mono (fun i hi _ => hi.elim id (fun h => Nat.le_trans hz h)), grown_keep h3 (fun i hi => ?_)⟩
          rw [HA0.out] at hi
          simp only [Value.ownBlock, Option.some.injEq] at hi
          subst hi
          exact hgS
      have HR3 := Aside0.mk hr3
      have HR7 := Aside0.mk hr7
      have HRA := Aside0.mk hrA
      have HBA := Aside0.mk hbA
      have HKA := Aside0.mk hkA
      clear hr3 hr7 hC7 hl7 hrA hbA hkA hpl hn7 e7 hn7'
      go_wp2_with fail
      refine rk_start (fun k => w.heap.size ≤ k) (by kernel_rfl) (n := 10) (l := #[false, false, false, false, false, false, false, false, false, false]) (by kernel_rfl) (by kernel_rfl) ?_
      refine rk_take (fuel := 9) 0 rfl (by kernel_rfl) (listed' := #[true, false, false, false, false, false, false, false, false, false]) (by kernel_rfl) (fun _ _ _ h => h) (by kernel_rfl) (fun w' hR => by go_simp; first | done | with_reducible rfl) rfl ?_
      try simp only [Act.put, List.setIfInBounds_toArray, List.set_cons_zero, List.set_cons_succ]
      refine rk_take (fuel := 8) 1 rfl (by kernel_rfl) (listed' := #[true, true, false, false, false, false, false, false, false, false]) (by kernel_rfl) (fun _ _ _ h => h) (by kernel_rfl) (fun w' hR => by go_simp; first | done | with_reducible rfl) rfl ?_
      try simp only [Act.put, List.setIfInBounds_toArray, List.set_cons_zero, List.set_cons_succ]
      refine rk_take (fuel := 7) 2 rfl (by kernel_rfl) (listed' := #[true, true, true, false, false, false, false, false, false, false]) (by kernel_rfl) (fun _ _ _ h => h) (by kernel_rfl) (fun w' hR => by go_simp; first | done | with_reducible rfl) rfl ?_
      try simp only [Act.put, List.setIfInBounds_toArray, List.set_cons_zero, List.set_cons_succ]
      refine rk_take (fuel := 6) 3 rfl (by kernel_rfl) (listed' := #[true, true, true, true, false, false, false, false, false, false]) (by kernel_rfl) (fun _ _ _ h => h) (by kernel_rfl) (fun w' hR => by have x0 := HR3.out w'; go_simp; first | done | with_reducible rfl) rfl ?_
      try simp only [Act.put, List.setIfInBounds_toArray, List.set_cons_zero, List.set_cons_succ]
      refine rk_take (fuel := 5) 4 rfl (by kernel_rfl) (listed' := #[true, true, true, true, true, false, false, false, false, false]) (by kernel_rfl) (fun _ _ _ h => h) (by kernel_rfl) (fun w' hR => by go_simp; first | done | with_reducible rfl) rfl ?_
      try simp only [Act.put, List.setIfInBounds_toArray, List.set_cons_zero, List.set_cons_succ]
      refine rk_take (fuel := 4) 5 rfl (by kernel_rfl) (listed' := #[true, true, true, true, true, true, false, false, false, false]) (by kernel_rfl) (fun _ _ _ h => h) (by kernel_rfl) (fun w' hR => by go_simp; first | done | with_reducible rfl) rfl ?_
      try simp only [Act.put, List.setIfInBounds_toArray, List.set_cons_zero, List.set_cons_succ]
      refine rk_take (fuel := 3) 6 rfl (by kernel_rfl) (listed' := #[true, true, true, true, true, true, true, false, false, false]) (by kernel_rfl) (fun _ _ _ h => h) (by kernel_rfl) (fun w' hR => by have x0 := wrI64 ((p : Int) + 1) (by omega) (by omega); go_simp; first | done | with_reducible rfl) rfl ?_
      try simp only [Act.put, List.setIfInBounds_toArray, List.set_cons_zero, List.set_cons_succ]
      refine rk_take (fuel := 2) 7 rfl (by kernel_rfl) (listed' := #[true, true, true, true, true, true, true, true, false, false]) (by kernel_rfl) (fun _ _ _ h => h) (by kernel_rfl) (fun w' hR => by have x0 := HR7.out w'; go_simp; first | done | with_reducible rfl) rfl ?_
      try simp only [Act.put, List.setIfInBounds_toArray, List.set_cons_zero, List.set_cons_succ]
      refine rk_step (fuel := 1) 8 rfl (by kernel_rfl) (listed' := #[true, true, true, true, true, true, true, true, true, false]) (by kernel_rfl) (by kernel_rfl) (fun K' hK => ?_)
      refine wp_append (.tmp 53) (.tmp 57) 28 28 rfl _ _ _ rfl rfl HRA.out ?_
      refine hK.out _ _ HKA.out ?_
      clear hK K'
      try simp only [Act.put, List.setIfInBounds_toArray, List.set_cons_zero, List.set_cons_succ]
      refine rk_take (fuel := 0) 9 rfl (by kernel_rfl) (listed' := #[true, true, true, true, true, true, true, true, true, true]) (by kernel_rfl) (fun _ _ _ h => h) (by kernel_rfl) (fun w' hR => by go_simp; first | done | with_reducible rfl) rfl ?_
      try simp only [Act.put, List.setIfInBounds_toArray, List.set_cons_zero, List.set_cons_succ]
      refine rk_done (by kernel_rfl) ?_
      go_wp2
      go_roundw
      case rel => exact ⟨j + 1, _, by omega, by go_num, by have := HNL.out; omega, HBYN, HBA, ⟨HZ.out.drew.trans (HKA.out.below HZ.out.size (fun i h1 h2 => by omega))⟩⟩
      case measure => simp [intOf]; omega
    · have hb8 : ((q : Int) == 8) = false := beq_eq_false_iff_ne.mpr (by omega)
      have hq8 : q < 8 := by omega
      obtain ⟨z, hz, hcz, hfz⟩ := HB.out.at (j := p) (by rw [HL.out]; exact hpn)
      have HSET := Aside0.mk (fun W (h : Keep (fun _ => False) wo.drew W) (x : Int) => ((HB.out.step (w' := wo.drew) (fun _ _ _ => rfl)).keep h (fun _ _ => id)).set p (by rw [HL.out]; exact hpn) x)
      have HF := Aside0.mk (show ∀ W, Keep (fun _ => False) wo.drew W → (W.cell? (a2.add j) = some (.int .i64 x) ∧ W.cell? (a3.add j) = some (.int .u8 y)) ∧ W.cell? ⟨g, p, none⟩ = some (.int .u8 z) ∧ W.frozen? ⟨g, p, none⟩ = false from fun W hW => ⟨HXY.out W (Keep.below_then HZ.out.drew hW HZ.out.size (fun _ _ => id)), (World.cell?_of_block (a := ⟨g, p, none⟩) (hW.block g hgl (fun h => h))).trans hcz, (World.frozen?_of_block (a := ⟨g, p, none⟩) (hW.block g hgl (fun h => h))).trans hfz⟩)
      have hgp : (⟨g, 0, none⟩ : Addr).add p = ⟨g, p, none⟩ := by unfold Addr.add; split <;> simp_all
      clear hz hcz hfz
      go_wp2_with fail
      clear x0 x1
      refine re_start [12] (fun _ => False) (by kernel_rfl) (n := 13) (l := #[false, false, false, false, false, false, false, false, false, false, false, false, false]) (by kernel_rfl) (by kernel_rfl) ?_
      refine re_take (fuel := 12) 0 rfl (by kernel_rfl) (listed' := #[true, false, false, false, false, false, false, false, false, false, false, false, false]) (by kernel_rfl) (fun _ _ _ h => h) (by kernel_rfl) (fun w' hR => by go_simp; first | done | with_reducible rfl) rfl ?_
      try simp only [Act.put, List.setIfInBounds_toArray, List.set_cons_zero, List.set_cons_succ]
      refine re_take (fuel := 11) 1 rfl (by kernel_rfl) (listed' := #[true, true, false, false, false, false, false, false, false, false, false, false, false]) (by kernel_rfl) (fun _ _ _ h => h) (by kernel_rfl) (fun w' hR => by go_simp; first | done | with_reducible rfl) rfl ?_
      try simp only [Act.put, List.setIfInBounds_toArray, List.set_cons_zero, List.set_cons_succ]
      refine re_take (fuel := 10) 2 rfl (by kernel_rfl) (listed' := #[true, true, true, false, false, false, false, false, false, false, false, false, false]) (by kernel_rfl) (fun _ _ _ h => h) (by kernel_rfl) (fun w' hR => by go_simp; first | done | with_reducible rfl) rfl ?_
      try simp only [Act.put, List.setIfInBounds_toArray, List.set_cons_zero, List.set_cons_succ]
      refine re_take (fuel := 9) 3 rfl (by kernel_rfl) (listed' := #[true, true, true, true, false, false, false, false, false, false, false, false, false]) (by kernel_rfl) (fun _ _ _ h => h) (by kernel_rfl) (fun w' hR => by obtain ⟨-, x0, x1⟩ := HF.out w' hR; go_simp; first | done | with_reducible rfl) rfl ?_
      try simp only [Act.put, List.setIfInBounds_toArray, List.set_cons_zero, List.set_cons_succ]
      refine re_take (fuel := 8) 4 rfl (by kernel_rfl) (listed' := #[true, true, true, true, true, false, false, false, false, false, false, false, false]) (by kernel_rfl) (fun _ _ _ h => h) (by kernel_rfl) (fun w' hR => by go_simp; first | done | with_reducible rfl) rfl ?_
      try simp only [Act.put, List.setIfInBounds_toArray, List.set_cons_zero, List.set_cons_succ]
      refine re_take (fuel := 7) 5 rfl (by kernel_rfl) (listed' := #[true, true, true, true, true, true, false, false, false, false, false, false, false]) (by kernel_rfl) (fun _ _ _ h => h) (by kernel_rfl) (fun w' hR => by go_simp; first | done | with_reducible rfl) rfl ?_
      try simp only [Act.put, List.setIfInBounds_toArray, List.set_cons_zero, List.set_cons_succ]
      refine re_take (fuel := 6) 6 rfl (by kernel_rfl) (listed' := #[true, true, true, true, true, true, true, false, false, false, false, false, false]) (by kernel_rfl) (fun _ _ _ h => h) (by kernel_rfl) (fun w' hR => by go_simp; first | done | with_reducible rfl) rfl ?_
      try simp only [Act.put, List.setIfInBounds_toArray, List.set_cons_zero, List.set_cons_succ]
      refine re_take (fuel := 5) 7 rfl (by kernel_rfl) (listed' := #[true, true, true, true, true, true, true, true, false, false, false, false, false]) (by kernel_rfl) (fun _ _ _ h => h) (by kernel_rfl) (fun w' hR => by obtain ⟨⟨-, x0⟩, -⟩ := HF.out w' hR; go_simp; first | done | with_reducible rfl) rfl ?_
      try simp only [Act.put, List.setIfInBounds_toArray, List.set_cons_zero, List.set_cons_succ]
      refine re_take (fuel := 4) 8 rfl (by kernel_rfl) (listed' := #[true, true, true, true, true, true, true, true, true, false, false, false, false]) (by kernel_rfl) (fun _ _ _ h => h) (by kernel_rfl) (fun w' hR => by go_simp; first | done | with_reducible rfl) rfl ?_
      try simp only [Act.put, List.setIfInBounds_toArray, List.set_cons_zero, List.set_cons_succ]
      refine re_take (fuel := 3) 9 rfl (by kernel_rfl) (listed' := #[true, true, true, true, true, true, true, true, true, true, false, false, false]) (by kernel_rfl) (fun _ _ _ h => h) (by kernel_rfl) (fun w' hR => by go_simp; first | done | with_reducible rfl) rfl ?_
      try simp only [Act.put, List.setIfInBounds_toArray, List.set_cons_zero, List.set_cons_succ]
      refine re_take (fuel := 2) 10 rfl (by kernel_rfl) (listed' := #[true, true, true, true, true, true, true, true, true, true, true, false, false]) (by kernel_rfl) (fun _ _ _ h => h) (by kernel_rfl) (fun w' hR => by go_simp; first | done | with_reducible rfl) rfl ?_
      try simp only [Act.put, List.setIfInBounds_toArray, List.set_cons_zero, List.set_cons_succ]
      refine re_take (fuel := 1) 11 rfl (by kernel_rfl) (listed' := #[true, true, true, true, true, true, true, true, true, true, true, true, false]) (by kernel_rfl) (fun _ _ _ h => h) (by kernel_rfl) (fun w' hR => by go_simp; first | done | with_reducible rfl) rfl ?_
      try simp only [Act.put, List.setIfInBounds_toArray, List.set_cons_zero, List.set_cons_succ]
      refine re_free (fuel := 0) 12 rfl (by kernel_rfl) (listed' := #[true, true, true, true, true, true, true, true, true, true, true, true, true]) (by kernel_rfl) (by kernel_rfl) (fun K' hK => ?_)
      obtain ⟨-, x0, x1⟩ := HF.out wo.drew (Keep.refl _ _); go_wp2_with fail
      refine hK.out _ _ trivial ?_
      clear hK K'
      try simp only [Act.put, List.setIfInBounds_toArray, List.set_cons_zero, List.set_cons_succ]
      refine re_done (by kernel_rfl) ?_
      have hxr := xor8_range z ((2 : Int) ^ q % 256)
      generalize Go.bits .xor .u8 z ((2 : Int) ^ q % 256) = yy at hxr ⊢
      have HBY2 := Aside0.mk (show By (m.set p yy) from by
        intro t ht
        rcases List.mem_or_eq_of_mem_set ht with h | h
        · exact HM.out t h
        · rw [h]; exact hxr)
      have HB2 := Aside0.mk (show Buf .u8 5 (wo.setCell ⟨g, p, none⟩ (.int .u8 yy)).drew (fun k => w.heap.size ≤ k) (.slice (some ⟨g, 0, none⟩) L c1) (m.set p yy) from (HSET.out wo.drew (Keep.refl _ _) yy).step (fun _ _ _ => rfl))
      have HLS := Aside0.mk (show (m.set p yy).length = L from by rw [List.length_set, HL.out])
      have HZ2 := Aside0.mk (show Below w.heap.size w (wo.setCell ⟨g, p, none⟩ (.int .u8 yy)).drew from (HZ.out.setCell (p := ⟨g, p, none⟩) hgS _).drew)
      clear hxr
      go_wp2
      go_roundw
      case rel => exact ⟨j + 1, _, by omega, by go_num, by rw [HLS.out]; exact hmb, HBY2, HB2, HZ2⟩
      case measure => simp [intOf]; omega
end Go.Proofs.Ytnckonglodmfeaa.Ik

namespace Go.Proofs.Ytnckonglodmfeaa.Ik
open Go.RowKit Go.Proofs.YtnckonglodmfeaaW.PrintWords Go.Proofs.YtnckonglodmfeaaW.PrintLast Go.Proofs.YtnckonglodmfeaaW.PrintMore Go.Proofs.Ytnckonglodmfeaa.B Go.Proofs.Ytnckonglodmfeaa.R Go.Proofs.Ytnckonglodmfeaa.S Go.Proofs.Ytnckonglodmfeaa.Is
set_option linter.unusedVariables false
set_option linter.unusedSimpArgs false
set_option maxHeartbeats 4000000 in
set_option maxRecDepth 100000 in
theorem long_calls (l : List Blk) (A : Option Addr) (c : Nat) (w : World) (hC : kBlk.C w A l.length l) :
    Calls Try.prog 11 #[.slice A l.length c] w fun e w' => ∃ bo, e = .returned (.bool bo) ∧ (bo = false → l.length ≤ 101 ∧ ∀ b ∈ l, b.1.length ≤ 2000) ∧ Below w.heap.size w w' := by
  have mixed : Try.prog.follows .mixedOrders = true := by kernel_rfl
  have hll := hC.2.1
  have HC := Aside0.mk hC
  clear hC
  go_enter Try.func11, Try.ntmps11
  go_wp2_with fail
  go_loopw [3, 10] (fun vn vi wr => ∃ j n : Nat, j ≤ l.length ∧ j ≤ 101 ∧ n ≤ 5000 ∧ vi = .int .i64 j ∧ vn = .int .i64 n ∧ Aside0 (∀ b ∈ l.take j, b.1.length ≤ 2000) ∧ Aside0 (Below w.heap.size w wr)) (fun _ vi _ => l.length - (intOf vi).toNat)
  case atStart => exact ⟨0, 0, by omega, by omega, by omega, rfl, rfl, ⟨by simp⟩, ⟨Below.refl _ _⟩⟩
  case round =>
    obtain ⟨wo, hwo⟩ : ∃ wo, wo = wr := ⟨_, rfl⟩
    subst hwo
    obtain ⟨j, n, hj, hj1, hn, rfl, rfl, HS, HZ⟩ := hrel
    by_cases hjl : j < l.length
    · obtain ⟨⟨is, k, a, tt, e⟩, hx⟩ : ∃ x, l[j]? = some x := ⟨_, List.getElem?_eq_getElem hjl⟩
      obtain ⟨ad, A1, n1, rfl, b0, b1, b2, b3, b4, hn1, hC1⟩ := blk_cells HC.out hx
      have HX := Aside0.mk hx
      have HC1 := Aside0.mk hC1
      have HIL := hC1.2.1
      clear hx hC1
      have b0 := pw_cell_below HZ.out b0
      have b1 := pw_cell_below HZ.out b1
      have b2 := pw_cell_below HZ.out b2
      have b3 := pw_cell_below HZ.out b3
      have b4 := pw_cell_below HZ.out b4
      have HA := Aside0.mk (show Below w.heap.size w (wo.alloc (.cells #[.slice A1 is.length n1, .int .u8 k, .int .i64 a, .int .i64 tt, .int .i64 e] 84)) from HZ.out.alloc HZ.out.size _)
      have HBX := Aside0.mk (show ∀ W', Below (wo.heap.size + 1) (wo.alloc (.cells #[.slice A1 is.length n1, .int .u8 k, .int .i64 a, .int .i64 tt, .int .i64 e] 84)) W' → W'.cell? ⟨wo.heap.size, 0, none⟩ = some (.slice A1 is.length n1) from fun W' h => cell_at (below_cells (h.mono (by rw [World.size_alloc]; exact Nat.le_refl _))) 0 _ rfl)
      have HSZ := Aside0.mk (World.size_alloc wo (.cells #[.slice A1 is.length n1, .int .u8 k, .int .i64 a, .int .i64 tt, .int .i64 e] 84))
      go_wp2_with fail
      clear b0 b1 b2 b3 b4
      go_loopw [3, 18] (fun vn vi wi => ∃ i n : Nat, i ≤ is.length ∧ n ≤ 5000 ∧ vi = .int .i64 i ∧ vn = .int .i64 n ∧ Aside0 (Below (wo.heap.size + 1) (wo.alloc (.cells #[.slice A1 is.length n1, .int .u8 k, .int .i64 a, .int .i64 tt, .int .i64 e] 84)) wi)) (fun _ vi _ => is.length - (intOf vi).toNat)
      case atStart => exact ⟨0, n, by omega, by omega, rfl, rfl, ⟨Below.refl _ _⟩⟩
      case round =>
        obtain ⟨wi, hwi⟩ : ∃ wi, wi = wr := ⟨_, rfl⟩
        subst hwi
        obtain ⟨i, n, hi, hn, rfl, rfl, HB⟩ := hrel
        by_cases hil : i < is.length
        · obtain ⟨⟨k1, op, d, a1, bb, nn, args⟩, hq⟩ : ∃ q, is[i]? = some q := ⟨_, List.getElem?_eq_getElem hil⟩
          have HWB := Aside0.mk (HA.out.trans (HB.out.mono (by have := HZ.out.size; omega)))
          obtain ⟨ad2, A2, n2, rfl, i0, i1, i2, i3, i4, i5, i6, hn2, hC2⟩ := ins_cells (Kd.C_below HC1.out HWB.out) hq
          have hal := hC2.2.1
          obtain ⟨m, hm⟩ : ∃ m : Nat, (if (10000 : Int) < (args.length : Int) then (10000 : Int) else (args.length : Int)) = (m : Int) := ⟨(if (10000 : Int) < (args.length : Int) then (10000 : Int) else (args.length : Int)).toNat, by split <;> omega⟩
          have hm1 : m ≤ 10000 := by split at hm <;> omega
          clear hq hC2
          by_cases hgt : 5000 < n + (1 + m)
          · have d1 : decide ((5000 : Int) < (n : Int) + (1 + (m : Int))) = true := decide_eq_true (by omega)
            go_wp2
            go_ret
            exact ⟨true, rfl, (fun h => by cases h), HWB.out.alloc HWB.out.size _⟩
          · have d1 : decide ((5000 : Int) < (n : Int) + (1 + (m : Int))) = false := decide_eq_false (by omega)
            go_wp2
            go_roundw
            case rel => exact ⟨i + 1, n + (1 + m), by omega, by omega, by go_num, by go_num, ⟨HB.out.alloc (by have h1 := HB.out.size; have h2 := HSZ.out; omega) _⟩⟩
            case measure => simp [intOf]; omega
        · obtain rfl : i = is.length := by omega
          have x0 := HBX.out wi HB.out
          have HWB := Aside0.mk (HA.out.trans (HB.out.mono (by have := HZ.out.size; omega)))
          by_cases h100 : 100 < j
          · have d1 : decide ((100 : Int) < (j : Int)) = true := decide_eq_true (by omega)
            go_wp2
            go_ret
            exact ⟨true, rfl, (fun h => by cases h), HWB.out⟩
          · have d1 : decide ((100 : Int) < (j : Int)) = false := decide_eq_false (by omega)
            by_cases h2000 : 2000 < is.length
            · have d2 : decide ((2000 : Int) < (is.length : Int)) = true := decide_eq_true (by omega)
              go_wp2
              go_ret
              exact ⟨true, rfl, (fun h => by cases h), HWB.out⟩
            · have d2 : decide ((2000 : Int) < (is.length : Int)) = false := decide_eq_false (by omega)
              go_wp2
              go_roundw
              case rel => exact ⟨j + 1, n, by omega, by omega, by omega, by go_num, rfl, ⟨fun b hb => by
                rw [List.take_add_one, HX.out] at hb
                rcases List.mem_append.1 hb with hb | hb
                · exact HS.out b hb
                · simp at hb; subst hb; exact Nat.le_of_not_lt h2000⟩, HWB⟩
              case measure => simp [intOf]; omega
    · obtain rfl : j = l.length := by omega
      go_wp2
      go_ret
      exact ⟨false, rfl, fun _ => ⟨hj1, fun b hb => HS.out b (by rw [List.take_length]; exact hb)⟩, HZ.out⟩
end Go.Proofs.Ytnckonglodmfeaa.Ik

namespace Go.Proofs.Ytnckonglodmfeaa.Ik
open Go.Proofs.Ytnckonglodmfeaa.Ls Go.Proofs.Ytnckonglodmfeaa.Lc Go.RowKit Go.Proofs.YtnckonglodmfeaaW.PrintWords Go.Proofs.YtnckonglodmfeaaW.PrintLast Go.Proofs.YtnckonglodmfeaaW.PrintMore Go.Proofs.Ytnckonglodmfeaa.B Go.Proofs.Ytnckonglodmfeaa.O Go.Proofs.Ytnckonglodmfeaa.R Go.Proofs.Ytnckonglodmfeaa.S Go.Proofs.Ytnckonglodmfeaa.Is Go.Proofs.Ytnckonglodmfeaa.Js Go.Proofs.Ytnckonglodmfeaa.Gs Go.Proofs.Ytnckonglodmfeaa.Gc
set_option linter.unusedVariables false
set_option linter.unusedSimpArgs false
abbrev kAsk : Kd Ask := Kd.pair kI (Kd.pair (Kd.int .u64) (Kd.pair kI kFun))
/-- A function in small numbers. -/
abbrev Spc := Int × Int × Int × List Int
abbrev kSpec : Kd Spc := Kd.pair kU8 (Kd.pair kU8 (Kd.pair kU8 (Kd.slice 5 kU8)))
def AskOk (a : Ask) : Prop := I64 a.1 ∧ (0 ≤ a.2.1 ∧ a.2.1 < 18446744073709551616) ∧ I64 a.2.2.1 ∧ FunR a.2.2.2
def SpecOk (s : Spc) : Prop := (0 ≤ s.1 ∧ s.1 < 256) ∧ (0 ≤ s.2.1 ∧ s.2.1 < 256) ∧ (0 ≤ s.2.2.1 ∧ s.2.2.1 < 256) ∧ By s.2.2.2
theorem opens_int' : Opens Try.prog 3 kI I64 := opens_mono (opens_int Try.underlying3) (fun _ h => wf_i64 h)
theorem opens_ints : Opens Try.prog 31 kArgs (fun l => (∀ v ∈ l, I64 v) ∧ l.length ≤ 9223372036854775807) := opens_slice Try.underlying31 (by kernel_rfl) opens_int'
theorem opens_u8s : Opens Try.prog 28 (Kd.slice 5 kU8) (fun l => (∀ v ∈ l, 0 ≤ v ∧ v < 256) ∧ l.length ≤ 9223372036854775807) := opens_slice Try.underlying28 (by kernel_rfl) (opens_mono (opens_int Try.underlying5) (fun _ h => wf_u8 h))
theorem opens_ins : Opens Try.prog 92 kIns InsR :=
  opens_mono (opens_struct Try.underlying92 (by kernel_rfl) (opens_cons rfl (by kernel_rfl) (opens_int Try.underlying89) (opens_cons rfl (by kernel_rfl) (opens_int Try.underlying90) (opens_cons rfl (by kernel_rfl) opens_int' (opens_cons rfl (by kernel_rfl) opens_int' (opens_cons rfl (by kernel_rfl) opens_int' (opens_cons rfl (by kernel_rfl) (opens_int Try.underlying2) (opens_last rfl (by kernel_rfl) opens_ints))))))))
    (fun i h => ⟨wf_u8 h.1, wf_u8 h.2.1, h.2.2.1, h.2.2.2.1, h.2.2.2.2.1, wf_i64 h.2.2.2.2.2.1, h.2.2.2.2.2.2.1⟩)
theorem opens_end : Opens Try.prog 82 kEnd EndR :=
  opens_mono (opens_struct Try.underlying82 (by kernel_rfl) (opens_cons rfl (by kernel_rfl) (opens_int Try.underlying80) (opens_cons rfl (by kernel_rfl) opens_int' (opens_cons rfl (by kernel_rfl) opens_int' (opens_last rfl (by kernel_rfl) opens_int')))))
    (fun e h => ⟨wf_u8 h.1, h.2.1, h.2.2.1, h.2.2.2⟩)
theorem opens_inss : Opens Try.prog 79 (Kd.slice 92 kIns) (fun l => (∀ v ∈ l, InsR v) ∧ l.length ≤ 9223372036854775807) := opens_slice Try.underlying79 (by kernel_rfl) opens_ins
theorem opens_block : Opens Try.prog 84 kBlk BlkR :=
  opens_mono (opens_struct Try.underlying84 (by kernel_rfl) (opens_cons rfl (by kernel_rfl) opens_inss (opens_last rfl (by kernel_rfl) opens_end))) (fun b h => ⟨h.1.1, h.2⟩)
theorem opens_blocks : Opens Try.prog 23 kBlks (fun l => (∀ v ∈ l, BlkR v) ∧ l.length ≤ 9223372036854775807) := opens_slice Try.underlying23 (by kernel_rfl) opens_block
theorem opens_func : Opens Try.prog 25 kFun FunR :=
  opens_mono (opens_struct Try.underlying25 (by kernel_rfl) (opens_cons rfl (by kernel_rfl) opens_int' (opens_cons rfl (by kernel_rfl) opens_int' (opens_last rfl (by kernel_rfl) opens_blocks)))) (fun f h => ⟨h.1, h.2.1, h.2.2.1⟩)
theorem opens_ask : Opens Try.prog 27 kAsk AskOk :=
  opens_mono (opens_struct Try.underlying27 (by kernel_rfl) (opens_cons rfl (by kernel_rfl) opens_int' (opens_cons rfl (by kernel_rfl) (opens_int Try.underlying22) (opens_cons rfl (by kernel_rfl) opens_int' (opens_last rfl (by kernel_rfl) opens_func))))) (fun a h => ⟨h.1, wf_u64 h.2.1, h.2.2.1, h.2.2.2⟩)
theorem opens_spec : Opens Try.prog 30 kSpec SpecOk :=
  opens_mono (opens_struct Try.underlying30 (by kernel_rfl) (opens_cons rfl (by kernel_rfl) (opens_int Try.underlying5) (opens_cons rfl (by kernel_rfl) (opens_int Try.underlying5) (opens_cons rfl (by kernel_rfl) (opens_int Try.underlying5) (opens_last rfl (by kernel_rfl) opens_u8s))))) (fun s h => ⟨wf_u8 h.1, wf_u8 h.2.1, wf_u8 h.2.2.1, h.2.2.2.1⟩)
theorem fun_K {w : World} {p v : Int} {l : List Blk} {cs : List Value} (h : kFun.K w (p, v, l) cs) : ∃ (A : Option Addr) (c : Nat), cs = [.int .i64 p, .int .i64 v, .slice A l.length c] ∧ l.length ≤ c ∧ kBlk.C w A l.length l := by
  obtain ⟨c0, c1, rfl, h0, c2, c3, rfl, h1, A, c, hA, h2, h3⟩ := h
  have e0 : c0 = [.int .i64 p] := h0
  have e1 : c2 = [.int .i64 v] := h1
  subst e0 e1 hA
  exact ⟨A, c, rfl, h2, h3⟩
theorem ask_K {w : World} {j n r p v : Int} {l : List Blk} {cs : List Value} (h : kAsk.K w (j, n, r, p, v, l) cs) : ∃ (A : Option Addr) (c : Nat), cs = [.int .i64 j, .int .u64 n, .int .i64 r, .int .i64 p, .int .i64 v, .slice A l.length c] ∧ l.length ≤ c ∧ kBlk.C w A l.length l := by
  obtain ⟨c0, c1, rfl, h0, c2, c3, rfl, h1, c4, c5, rfl, h2, h3⟩ := h
  have e0 : c0 = [.int .i64 j] := h0
  have e1 : c2 = [.int .u64 n] := h1
  have e2 : c4 = [.int .i64 r] := h2
  obtain ⟨A, c, e3, h4, h5⟩ := fun_K h3
  subst e0 e1 e2 e3
  exact ⟨A, c, rfl, h4, h5⟩
theorem spec_K {w : World} {p v n : Int} {l : List Int} {cs : List Value} (h : kSpec.K w (p, v, n, l) cs) : ∃ (A : Option Addr) (c : Nat), cs = [.int .u8 p, .int .u8 v, .int .u8 n, .slice A l.length c] ∧ l.length ≤ c ∧ kU8.C w A l.length l := by
  obtain ⟨c0, c1, rfl, h0, c2, c3, rfl, h1, c4, c5, rfl, h2, A, c, hA, h3, h4⟩ := h
  have e0 : c0 = [.int .u8 p] := h0
  have e1 : c2 = [.int .u8 v] := h1
  have e2 : c4 = [.int .u8 n] := h2
  subst e0 e1 e2 hA
  exact ⟨A, c, rfl, h3, h4⟩
end Go.Proofs.Ytnckonglodmfeaa.Ik
