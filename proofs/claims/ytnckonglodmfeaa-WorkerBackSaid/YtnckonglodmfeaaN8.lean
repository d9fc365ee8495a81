/- Contracts and plain facts that the statements' proofs use (part 8). -/
import Derived.Test.YtnckonglodmfeaaN2
import Derived.Test.YtnckonglodmfeaaN3
import Derived.Test.YtnckonglodmfeaaN4
import Derived.Test.YtnckonglodmfeaaN5
import Derived.Test.YtnckonglodmfeaaN6
import Derived.Test.YtnckonglodmfeaaN7
import Derived.Handy
set_option linter.unusedVariables false
set_option linter.unusedSimpArgs false
namespace Go.Proofs.Ytnckonglodmfeaa.Ik
open Ls Go.RowKit Go.Proofs.YtnckonglodmfeaaW.PrintWords Go.Proofs.YtnckonglodmfeaaW.PrintLast Go.Proofs.YtnckonglodmfeaaW.PrintMore B R S Is
def GoodB (v : Int) (n : Nat) (b : Blk) : Prop := b.1.length ≤ 8 ∧ (∀ i ∈ b.1, GoodI v i) ∧ EndR b.2 ∧ endErr v n 21 b.2 = 0
structure MA (w W : World) (p v : Int) (vb : Value) : Prop where
 mkr : Mkr w W (w.heap.size + 1 + 1 + 1)
 res : W.heap[w.heap.size + 1]? = some (.cells #[.int .i64 0, .int .i64 0, .slice none 0 0] 25 (0, 0))
 fx : W.heap[w.heap.size + 1 + 1]? = some (.cells #[.int .i64 p, .int .i64 v, vb] 25 (0, 0))
 below : Below w.heap.size w W
structure MQ (w wo W : World) (gb : Nat) (F : Array Value) : Prop where
 mkr : Mkr w W (w.heap.size + 1 + 1 + 1)
 bx : W.heap[gb]? = some (.cells F 84 (0, 0))
 keep : Keep (· = w.heap.size + 1 + 1 + 1) wo W
 base : wo.heap.size ≤ gb
 hg : w.heap.size + 1 + 1 + 1 < wo.heap.size
 b0 : Below w.heap.size w W
theorem MA.move {w wo W : World} {p v : Int} {vb : Value} (h : MA w wo p v vb) (hk : Keep (· = w.heap.size + 1 + 1 + 1) wo W) (hm : Mkr w W (w.heap.size + 1 + 1 + 1)) : MA w W p v vb :=
 ⟨hm, (hk.block _ (blk_lt h.res) (fun e => by have e : w.heap.size + 1 = w.heap.size + 1 + 1 + 1 := e; omega)).trans h.res, (hk.block _ (blk_lt h.fx) (fun e => by have e : w.heap.size + 1 + 1 = w.heap.size + 1 + 1 + 1 := e; omega)).trans h.fx, h.below.trans (hk.below h.below.size (fun i hi e => by have e : i = w.heap.size + 1 + 1 + 1 := e; omega))⟩
theorem MQ.move {w wo W W' : World} {gb : Nat} {F : Array Value} (h : MQ w wo W gb F) (hk : Keep (fun i => i = w.heap.size + 1 + 1 + 1 ∨ gb < i) W W') (hm : Mkr w W' (w.heap.size + 1 + 1 + 1)) : MQ w wo W' gb F := by
 have h1 := h.hg
 have h2 := h.base
 exact ⟨hm, (hk.block gb (blk_lt h.bx) (fun e => by omega)).trans h.bx, h.keep.then hk (fun i hi e => by omega), h2, h1, h.b0.trans (hk.below h.b0.size (fun i hi e => by omega))⟩
theorem MQ.set {w wo W : World} {gb : Nat} {F : Array Value} (h : MQ w wo W gb F) (j : Nat) (x : Value) : MQ w wo (W.setCell ⟨gb, j, none⟩ x) gb (F.setIfInBounds j x) := by
 have h1 := h.hg
 have h2 := h.base
 have hk : Keep (· = gb) W (W.setCell ⟨gb, j, none⟩ x) := (Keep.refl _ _).setCell ⟨gb, j, none⟩ x (fun _ => rfl)
 exact ⟨h.mkr.keep hk (by omega), heap_setCell_same W gb j F _ _ h.bx, h.keep.setCell _ _ (fun hh => by have hh : gb < wo.heap.size := hh; omega), h2, h1, h.b0.setCell (by show w.heap.size ≤ gb; omega) _⟩
theorem MA.grow {w W W' : World} {p v : Int} {vb : Value} (h : MA w W p v vb) (hk : Keep (fun i => w.heap.size + 1 + 1 + 1 < i) W W') : MA w W' p v vb :=
 ⟨h.mkr.keep hk (by omega), (hk.block _ (blk_lt h.res) (by omega)).trans h.res, (hk.block _ (blk_lt h.fx) (by omega)).trans h.fx, h.below.trans (hk.below h.below.size (fun i hi e => by omega))⟩
theorem MA.setf {w W : World} {p v : Int} {vb : Value} (h : MA w W p v vb) (x : Value) : MA w (W.setCell ⟨w.heap.size + 1 + 1, 2, none⟩ x) p v x := by
 have hk : Keep (· = w.heap.size + 1 + 1) W (W.setCell ⟨w.heap.size + 1 + 1, 2, none⟩ x) := (Keep.refl _ _).setCell ⟨w.heap.size + 1 + 1, 2, none⟩ x (fun _ => rfl)
 exact ⟨h.mkr.keep hk (by omega), (hk.block _ (blk_lt h.res) (by omega)).trans h.res, blk_put h.fx 2 x rfl, h.below.setCell (by show w.heap.size ≤ w.heap.size + 1 + 1; omega) _⟩
theorem mq_next {w wo W : World} {gb : Nat} {F : Array Value} (h : MQ w wo W gb F) (n : Int) (hn : 1 ≤ n) (hn2 : n ≤ 1000000) :
 Calls Try.prog 35 #[.pointer (some ⟨w.heap.size + 1 + 1 + 1, 0, none⟩), .int .i64 n] W fun e w' => ∃ x, e = .returned (.int .i64 x) ∧ 0 ≤ x ∧ x < n ∧ MQ w wo w' gb F ∧ Keep (· = w.heap.size + 1 + 1 + 1) W w' := by
 refine (next_calls w W (w.heap.size + 1 + 1 + 1) n h.mkr h.b0 (by omega) hn hn2).mono ?_
 rintro e w' ⟨x, h1, h2, h3, h4, h5, -⟩
 exact ⟨x, h1, h2, h3, h.move (h5.mono (fun i _ e => .inl e)) h4, h5⟩
theorem good_blks {v : Int} {n : Nat} {l : List Blk} (hn : l.length = n) (h : ∀ b ∈ l, GoodB v n b) : blocksErr v (-1) 32 l = 0 := by
 subst hn
 have key : ∀ l' : List Int, (∀ x ∈ l', x = 0) → firstN l' = 0 := by
  intro l' h'
  induction l' with
  | nil => rfl
  | cons x l' ih => rw [firstN, if_pos (h' x (by simp))]; exact ih (fun y hy => h' y (by simp [hy]))
 refine key _ (fun x hx => ?_)
 obtain ⟨b, hb, rfl⟩ := List.mem_map.1 hx
 obtain ⟨h1, h2, h3, h4⟩ := h b hb
 unfold blkErr
 rw [if_neg (by omega)]
 refine key _ (fun y hy => ?_)
 rcases List.mem_append.1 hy with h5 | h5
 · obtain ⟨i, hi, rfl⟩ := List.mem_map.1 h5
   exact (h2 i hi).1
 · rw [List.mem_singleton] at h5
   rw [h5]
   exact h4
def GoodF (p v : Int) (n : Nat) (l : List Blk) : Prop := l.length = n ∧ ∀ b ∈ l, GoodB v n b
theorem good_fun {p v : Int} {n : Nat} {l : List Blk} (h : GoodF p v n l) (hp0 : 0 ≤ p) (hp4 : p ≤ 4) (hpv : p ≤ v) (hv : v ≤ 32) (hn1 : 1 ≤ n) (hn2 : n ≤ 16) : funcErr (p, v, l) = 0 ∧ ∀ b ∈ l, BlkR b := by
 obtain ⟨h1, h2⟩ := h
 refine ⟨?_, fun b hb => ⟨fun i hi => ((h2 b hb).2.1 i hi).2.1, (h2 b hb).2.2.1⟩⟩
 unfold funcErr
 simp only
 rw [if_neg (by omega)]
 exact good_blks h1 h2
set_option maxHeartbeats 40000000 in
set_option maxRecDepth 100000 in
theorem made_calls (P V N : Int) (A : Option Addr) (c : Nat) (l : List Int) (w : World) (hP : 0 ≤ P ∧ P < 256) (hV : 0 ≤ V ∧ V < 256) (hN : 0 ≤ N ∧ N < 256) (hC : kU8.C w A l.length l) (hlc : l.length ≤ c) (hby : By l) :
 Calls Try.prog 12 #[.agg #[.int .u8 P, .int .u8 V, .int .u8 N, .slice A l.length c]] w fun e w' => ∃ v vb bs, e = .returned (.agg #[.int .i64 (P % 5), .int .i64 v, vb]) ∧ kBlk.R 84 w' w.heap.size (fun _ => True) vb bs ∧ GoodF (P % 5) v (1 + N % 7).toNat bs ∧ (1 ≤ v ∧ P % 5 ≤ v ∧ v ≤ 32 ∧ v = (if P % 5 < 1 then 1 else P % 5) + V % 28) ∧ Below w.heap.size w w' := by
 have mixed : Try.prog.follows .mixedOrders = true := by kernel_rfl
 have HC := aM hC
 have HY := aM hby
 obtain ⟨p, hp⟩ : ∃ p, P % 5 = p := ⟨_, rfl⟩
 have hp0 : 0 ≤ p ∧ p < 5 := by omega
 obtain ⟨n, hn⟩ : ∃ n : Nat, 1 + N % 7 = (n : Int) := ⟨(1 + N % 7).toNat, by omega⟩
 have hn7 : 1 ≤ n ∧ n ≤ 7 := by omega
 rw [hp, show (1 + N % 7).toNat = n by rw [hn]; rfl]
 clear hC hby
 obtain ⟨v, hv⟩ : ∃ v, (if p < 1 then 1 else p) + V % 28 = v := ⟨_, rfl⟩
 have hv1 : 1 ≤ v ∧ p ≤ v ∧ v ≤ 32 := by
  by_cases h : p < 1
  · rw [if_pos h] at hv; omega
  · rw [if_neg h] at hv; omega
 have HVV := aM hv.symm
 have hcase : (p < 1 ∧ 1 + V % 28 = v) ∨ (¬ p < 1 ∧ p + V % 28 = v) := by
  by_cases h : p < 1
  · rw [if_pos h] at hv; exact .inl ⟨h, hv⟩
  · rw [if_neg h] at hv; exact .inr ⟨h, hv⟩
 clear hv
 have HA := aM (show MA w ((((w.alloc (.cells #[.int .u8 P, .int .u8 V, .int .u8 N, .slice A l.length c] 30)).alloc (.cells #[.int .i64 0, .int .i64 0, .slice none 0 0] 25)).alloc (.cells #[.int .i64 p, .int .i64 v, .slice none 0 0] 25)).alloc (.cells #[.slice A l.length c] 98)) p v (.slice none 0 0) from by
  have z1 : ∀ o1, (w.alloc o1).heap.size = w.heap.size + 1 := fun o1 => World.size_alloc _ _
  have z2 : ∀ o1 o2, ((w.alloc o1).alloc o2).heap.size = w.heap.size + 1 + 1 := fun o1 o2 => by rw [World.size_alloc, z1]
  have z3 : ∀ o1 o2 o3, (((w.alloc o1).alloc o2).alloc o3).heap.size = w.heap.size + 1 + 1 + 1 := fun o1 o2 o3 => by rw [World.size_alloc, z2]
  refine ⟨⟨A, c, l, ?_, HC.out, hlc, HY.out⟩, ?_, ?_, ((((Below.refl w.heap.size w).alloc (Nat.le_refl _) _).alloc (by rw [z1]; omega) _).alloc (by rw [z2]; omega) _).alloc (by rw [z3]; omega) _⟩
  · rw [← z3, heap_alloc_new]
  · rw [heap_alloc_old _ _ (by rw [z3]; omega), heap_alloc_old _ _ (by rw [z2]; omega), ← z1, heap_alloc_new]
  · rw [heap_alloc_old _ _ (by rw [z3]; omega), ← z2, heap_alloc_new])
 rcases hcase with ⟨hpp, hv⟩ | ⟨hpp, hv⟩
 all_goals
  go_enter Try.func12, Try.ntmps12
  go_wp2_with fail
  (try rw [hv])
  (try rw [hp])
  clear hp
  obtain ⟨WA, hWA⟩ : ∃ WA, WA = (((w.alloc (.cells #[.int .u8 P, .int .u8 V, .int .u8 N, .slice A l.length c] 30)).alloc (.cells #[.int .i64 0, .int .i64 0, .slice none 0 0] 25)).alloc (.cells #[.int .i64 p, .int .i64 v, .slice none 0 0] 25)).alloc (.cells #[.slice A l.length c] 98) := ⟨_, rfl⟩
  rw [← hWA] at HA ⊢
  clear hWA hv
  go_loopw [31] (fun vi wr => ∃ x : Nat, x ≤ n ∧ vi = .int .i64 x ∧ ∃ vb bs, Aside0 (MA w wr p v vb) ∧ Aside0 (kBlk.R 84 wr (w.heap.size + 1 + 1 + 1 + 1) (fun k => w.heap.size + 1 + 1 + 1 < k) vb bs) ∧ bs.length = x ∧ Aside0 (∀ b ∈ bs, GoodB v n b)) (fun vi _ => n - (intOf vi).toNat)
  case atStart => exact ⟨0, by omega, rfl, .slice none 0 0, [], HA, ⟨Kd.R_nil _ _ _ _ _⟩, rfl, ⟨fun b hb => by cases hb⟩⟩
  case round =>
   clear HA
   obtain ⟨wo, hwo⟩ : ∃ wo, wo = wr := ⟨_, rfl⟩
   subst hwo
   obtain ⟨x, hx, rfl, vb, bs, HM, HO, hbl, HG⟩ := hrel
   by_cases hxn : x < n
   · have HQ0 := aM (show MQ w wo (wo.alloc (.cells #[.slice none 0 0, .int .u8 0, .int .i64 0, .int .i64 0, .int .i64 0] 84)) wo.heap.size #[.slice none 0 0, .int .u8 0, .int .i64 0, .int .i64 0, .int .i64 0] from ⟨HM.out.mkr.keep (S := fun _ => False) (Keep.of_below ((Below.refl _ _).alloc (Nat.le_refl _) _)) id, heap_alloc_new _ _, (Keep.refl _ _).alloc _, Nat.le_refl _, HM.out.mkr.lt, HM.out.below.alloc HM.out.below.size _⟩)
     go_wp2_with (go_at_call 35; refine (mq_next HQ0.out 9 (by omega) (by omega)).mono ?_; rintro _ w1 ⟨mz, rfl, hm0, hm1, hq, -⟩; clear HQ0; have HQ := aM hq; clear hq; obtain ⟨m, hm⟩ : ∃ m : Nat, mz = (m : Int) := ⟨mz.toNat, by omega⟩; subst hm)
     go_loopw [35] (fun vi wi => ∃ i : Nat, i ≤ m ∧ vi = .int .i64 i ∧ ∃ vv is, Aside0 (MQ w wo wi wo.heap.size #[vv, .int .u8 0, .int .i64 0, .int .i64 0, .int .i64 0]) ∧ Aside0 (kIns.R 92 wi (wo.heap.size + 1) (fun k => wo.heap.size < k) vv is) ∧ is.length = i ∧ Aside0 (∀ z ∈ is, GoodI v z)) (fun vi _ => m - (intOf vi).toNat)
     case atStart => exact ⟨0, by omega, rfl, .slice none 0 0, [], HQ, ⟨Kd.R_nil _ _ _ _ _⟩, rfl, ⟨fun b hb => by cases hb⟩⟩
     case round =>
      clear HQ
      obtain ⟨wi, hwi⟩ : ∃ wi, wi = wr := ⟨_, rfl⟩
      subst hwi
      obtain ⟨i, hi, rfl, vv, is, HQ, HV, hil, HGI⟩ := hrel
      by_cases him : i < m
      · have HL := aM (blk_lt HQ.out.bx)
        have HX := aM (show ∀ W', Keep (fun i => i = w.heap.size + 1 + 1 + 1 ∨ wo.heap.size < i) wi.drew W' → W'.heap[wo.heap.size]? = some (.cells #[vv, .int .u8 0, .int .i64 0, .int .i64 0, .int .i64 0] 84 (0, 0)) ∧ W'.heap[w.heap.size + 1 + 1]? = some (.cells #[.int .i64 p, .int .i64 v, vb] 25 (0, 0)) from fun W' h => by
         have h1 := HQ.out.hg
         have h2 := HQ.out.base
         have h3 := HL.out
         refine ⟨(h.block _ (show wo.heap.size < wi.heap.size by omega) (fun e => by omega)).trans HQ.out.bx, (h.block _ (show w.heap.size + 1 + 1 < wi.heap.size by omega) (fun e => by omega)).trans (HM.out.move HQ.out.keep HQ.out.mkr).fx⟩)
        have HHG := aM HQ.out.hg
        go_wp2_with fail
        refine re_start [9] (fun i => i = w.heap.size + 1 + 1 + 1 ∨ wo.heap.size < i) (by kernel_rfl) (n := 10) (l := (bl 10 0)) (by kernel_rfl) (by kernel_rfl) ?_
        refine et 0 (bl 10 1) rfl (fun w' hR => by go_simp; first | done | with_reducible rfl) rfl ?_
        try simp only [Act.put, pB, pC, pD]
        refine et 1 (bl 10 3) rfl (fun w' hR => by have x0 := cell_at (HX.out w' hR).1 0 vv rfl; go_simp; first | done | with_reducible rfl) rfl ?_
        try simp only [Act.put, pB, pC, pD]
        refine et 2 (bl 10 7) rfl (fun w' hR => by go_simp; first | done | with_reducible rfl) rfl ?_
        try simp only [Act.put, pB, pC, pD]
        refine et 3 (bl 10 15) rfl (fun w' hR => by go_simp; first | done | with_reducible rfl) rfl ?_
        try simp only [Act.put, pB, pC, pD]
        refine et 4 (bl 10 31) rfl (fun w' hR => by have x0 := cell_at (HX.out w' hR).2 1 _ rfl; go_simp; first | done | with_reducible rfl) rfl ?_
        try simp only [Act.put, pB, pC, pD]
        refine re_step (fuel := 4) 5 rfl (by kernel_rfl) (listed' := (bl 10 63)) (by kernel_rfl) (by kernel_rfl) (fun K' hK => ?_)
        go_wp2_with (go_at_call 36; refine (mins_calls w wi.drew (w.heap.size + 1 + 1 + 1) v (HQ.out.mkr.keep (S := fun _ => False) (Keep.refl _ wi).drew id) HQ.out.b0.drew (by omega) (by omega) (by omega)).mono ?_; rintro _ w3 ⟨⟨k, op, d, a, bb, nn, args⟩, va, rfl, hra, hgi, hmk, hk⟩; simp only [insVal]; obtain ⟨Aa, ca, hva, -, -⟩ := Kd.R_reads hra; subst hva; have HRA := aM hra; have HGD := aM hgi; have HM3 := aM hmk; have HK3 := aM hk; clear hra hgi hmk hk)
        refine hK.out _ _ (HK3.out.mono (fun i _ h => .inl h)) ?_
        clear hK K'
        try simp only [Act.put, pB, pC, pD]
        refine re_step (fuel := 3) 6 rfl (by kernel_rfl) (listed' := (bl 10 127)) (by kernel_rfl) (by kernel_rfl) (fun K' hK => ?_)
        (go_wp2_with fail)
        refine hK.out _ _ (Keep.of_below ((Below.refl w3.heap.size w3).alloc (Nat.le_refl _) (.cells #[.int .u8 k, .int .u8 op, .int .i64 d, .int .i64 a, .int .i64 bb, .int .i64 nn, .slice Aa args.length ca] 92))) ?_
        clear hK K'
        try simp only [Act.put, pB, pC, pD]
        refine re_step (fuel := 2) 7 rfl (by kernel_rfl) (listed' := (bl 10 255)) (by kernel_rfl) (by kernel_rfl) (fun K' hK => ?_)
        refine R_append_wp kIns (W := w3) (wo.heap.size + 1) (.tmp 38) (.tmp 43) 79 92 (.agg #[.int .u8 0, .int .u8 0, .int .i64 0, .int .i64 0, .int .i64 0, .int .i64 0, .slice none 0 0]) 64 rfl Try.underlying79 infoIns rfl (show 0 < 7 by decide) (by decide) vv is (k, op, d, a, bb, nn, args) [.int .u8 k, .int .u8 op, .int .i64 d, .int .i64 a, .int .i64 bb, .int .i64 nn, .slice Aa args.length ca] (fun k => wo.heap.size < k) (fun k => wi.heap.size ≤ k) rfl rfl (ins_M (Kd.R_lower (Kd.R_mono (Kd.R_bound HRA.out) (fun k hk => hk.2.1)) (Nat.succ_le_of_lt HL.out))) (fun k hk => ⟨Nat.lt_of_lt_of_le HL.out hk, fun e => absurd ((Kd.R_bound HV.out).1 k e.symm).2.2.1 (Nat.not_lt.2 hk)⟩) (fun k hk => Nat.lt_of_lt_of_le HL.out (Nat.le_trans HK3.out.size hk)) (Kd.R_step HV.out (fun k hk hl => HK3.out.block k hl (fun e => by have e : k = w.heap.size + 1 + 1 + 1 := e; have := HHG.out; omega))) (Nat.le_trans (Nat.succ_le_of_lt HL.out) HK3.out.size) (ins_fits (by omega)) ?_; intro v4 w4 ho4 hg4 hg4' hat4; obtain ⟨A4, c4, hv4, -, -⟩ := Kd.R_reads ho4; obtain ⟨m4, hm4⟩ : ∃ m4, (is ++ [(k, op, d, a, bb, nn, args)]).length = m4 := ⟨_, rfl⟩; rw [hm4] at hv4; subst hv4; clear hm4; have HO4 := aM ho4; have HK4 := aM (show Keep (fun i => wo.heap.size < i) (w3.alloc (.cells #[.int .u8 k, .int .u8 op, .int .i64 d, .int .i64 a, .int .i64 bb, .int .i64 nn, .slice Aa args.length ca] 92)) w4 from grown_keep hg4' (fun i hi => HV.out.1 i hi)); clear ho4 hg4 hg4' hat4
        refine hK.out _ _ (HK4.out.mono (fun i _ h => .inr h)) ?_
        clear hK K'
        try simp only [Act.put, pB, pC, pD]
        refine et 8 (bl 10 511) rfl (fun w' hR => by go_simp; first | done | with_reducible rfl) rfl ?_
        try simp only [Act.put, pB, pC, pD]
        refine re_free (fuel := 0) 9 rfl (by kernel_rfl) (listed' := (bl 10 1023)) (by kernel_rfl) (by kernel_rfl) (fun K' hK => ?_)
        have hal : Below w3.heap.size w3 (w3.alloc (.cells #[.int .u8 k, .int .u8 op, .int .i64 d, .int .i64 a, .int .i64 bb, .int .i64 nn, .slice Aa args.length ca] 92)) := (Below.refl _ _).alloc (Nat.le_refl _) _; have hk4 : Keep (fun i => i = w.heap.size + 1 + 1 + 1 ∨ wo.heap.size < i) wi.drew w4 := ((HK3.out.mono (fun i _ h => .inl h)).trans (Keep.of_below hal)).trans (HK4.out.mono (fun i _ h => .inr h)); have hh := (HX.out w4 hk4).1; have x7 := cell_at hh 0 vv rfl; have x8 := blk_frozen hh 0; have HKW := aM hk4; have HMK4 := aM ((HM3.out.keep (S := fun _ => False) (Keep.of_below hal) id).keep HK4.out (fun e => by have := HHG.out; omega)); clear hk4 hh hal; go_wp2_with fail
        refine hK.out _ _ trivial ?_
        clear hK K'
        try simp only [Act.put, pB, pC, pD]
        refine re_done (by kernel_rfl) ?_
        have HIN := aM (show MQ w wo (w4.setCell ⟨wo.heap.size, 0, none⟩ (.slice A4 m4 c4)) wo.heap.size #[.slice A4 m4 c4, .int .u8 0, .int .i64 0, .int .i64 0, .int .i64 0] from (HQ.out.move ((Keep.refl _ wi).drew.trans HKW.out) HMK4.out).set 0 (.slice A4 m4 c4))
        have HRN := aM (show kIns.R 92 (w4.setCell ⟨wo.heap.size, 0, none⟩ (.slice A4 m4 c4)) (wo.heap.size + 1) (fun k => wo.heap.size < k) (.slice A4 m4 c4) (is ++ [(k, op, d, a, bb, nn, args)]) from Kd.R_step HO4.out (fun k hk hl => Below.heap_setCell _ _ _ _ (show k ≠ wo.heap.size by omega)))
        have HGN := aM (show ∀ z ∈ is ++ [(k, op, d, a, bb, nn, args)], GoodI v z from fun z hz => by
         rcases List.mem_append.1 hz with h | h
         · exact HGI.out z h
         · rw [List.mem_singleton] at h; rw [h]; exact HGD.out)
        have hil2 : (is ++ [(k, op, d, a, bb, nn, args)]).length = i + 1 := by rw [List.length_append, hil]; rfl
        have HIL2 := aM hil2
        clear hil2
        go_wp2
        go_roundw
        case rel => exact ⟨i + 1, by omega, by go_num, .slice A4 m4 c4, _, HIN, HRN, HIL2.out, HGN⟩
        case measure => simp [intOf]; omega
      · obtain rfl : i = m := by omega
        have HHG := aM HQ.out.hg
        obtain ⟨Av, cv, hv9, -, -⟩ := Kd.R_reads HV.out
        obtain ⟨mv, hmv⟩ : ∃ m, is.length = m := ⟨_, rfl⟩
        rw [hmv] at hv9
        subst hv9
        clear hmv
        have f1 := cell_at (HM.out.move HQ.out.keep HQ.out.mkr).fx 1 _ rfl; have y1 := cell_at HQ.out.bx 1 _ rfl; have y2 := cell_at HQ.out.bx 2 _ rfl; have y3 := cell_at HQ.out.bx 3 _ rfl; have y4 := cell_at HQ.out.bx 4 _ rfl; have z1 := blk_frozen HQ.out.bx 1; have z2 := blk_frozen HQ.out.bx 2; have z3 := blk_frozen HQ.out.bx 3; have z4 := blk_frozen HQ.out.bx 4
        go_upto_region 14 with (go_at_call 35; refine (mq_next HQ.out _ (by omega) (by omega)).mono ?_; rintro _ w9 ⟨y, rfl, hy0, hy1, hq, hk⟩; have HV9 := aM (Kd.R_step HV.out (fun k hk' hl => hk.block k hl (fun e => by have e : k = w.heap.size + 1 + 1 + 1 := e; have := HHG.out; omega))); clear HQ HV; have HV := HV9; have HQ := aM hq; clear hq hk HV9; (try clear f1 y1 y2 y3 y4 z1 z2 z3 z4); have f1 := cell_at (HM.out.move HQ.out.keep HQ.out.mkr).fx 1 _ rfl; have y1 := cell_at HQ.out.bx 1 _ rfl; have y2 := cell_at HQ.out.bx 2 _ rfl; have y3 := cell_at HQ.out.bx 3 _ rfl; have y4 := cell_at HQ.out.bx 4 _ rfl; have z1 := blk_frozen HQ.out.bx 1; have z2 := blk_frozen HQ.out.bx 2; have z3 := blk_frozen HQ.out.bx 3; have z4 := blk_frozen HQ.out.bx 4)
        rcases (by omega : y = 0 ∨ y = 1 ∨ y = 2 ∨ y = 3) with rfl | rfl | rfl | rfl
        · have HF1 := aM trivial
          have HF2 := aM trivial
          have HF3 := aM trivial
          clear hy0 hy1
          go_upto_region 19 with (first | (go_at_call 35; clear HF1; refine (mq_next HQ.out _ (by omega) (by omega)).mono ?_; rintro _ w9 ⟨e1, rfl, he10, he11, hq, hk⟩; have HV9 := aM (Kd.R_step HV.out (fun k hk' hl => hk.block k hl (fun e => by have e : k = w.heap.size + 1 + 1 + 1 := e; have := HHG.out; omega))); clear HQ HV; have HV := HV9; have HQ := aM hq; clear hq hk HV9; (try clear f1 y1 y2 y3 y4 z1 z2 z3 z4); have f1 := cell_at (HM.out.move HQ.out.keep HQ.out.mkr).fx 1 _ rfl; have y1 := cell_at HQ.out.bx 1 _ rfl; have y2 := cell_at HQ.out.bx 2 _ rfl; have y3 := cell_at HQ.out.bx 3 _ rfl; have y4 := cell_at HQ.out.bx 4 _ rfl; have z1 := blk_frozen HQ.out.bx 1; have z2 := blk_frozen HQ.out.bx 2; have z3 := blk_frozen HQ.out.bx 3; have z4 := blk_frozen HQ.out.bx 4) | (go_at_call 35; clear HF2; refine (mq_next HQ.out _ (by omega) (by omega)).mono ?_; rintro _ w9 ⟨e2, rfl, he20, he21, hq, hk⟩; have HV9 := aM (Kd.R_step HV.out (fun k hk' hl => hk.block k hl (fun e => by have e : k = w.heap.size + 1 + 1 + 1 := e; have := HHG.out; omega))); clear HQ HV; have HV := HV9; have HQ := aM hq; clear hq hk HV9; (try clear f1 y1 y2 y3 y4 z1 z2 z3 z4); have f1 := cell_at (HM.out.move HQ.out.keep HQ.out.mkr).fx 1 _ rfl; have y1 := cell_at HQ.out.bx 1 _ rfl; have y2 := cell_at HQ.out.bx 2 _ rfl; have y3 := cell_at HQ.out.bx 3 _ rfl; have y4 := cell_at HQ.out.bx 4 _ rfl; have z1 := blk_frozen HQ.out.bx 1; have z2 := blk_frozen HQ.out.bx 2; have z3 := blk_frozen HQ.out.bx 3; have z4 := blk_frozen HQ.out.bx 4) | (go_at_call 35; clear HF3; refine (mq_next HQ.out _ (by omega) (by omega)).mono ?_; rintro _ w9 ⟨e3, rfl, he30, he31, hq, hk⟩; have HV9 := aM (Kd.R_step HV.out (fun k hk' hl => hk.block k hl (fun e => by have e : k = w.heap.size + 1 + 1 + 1 := e; have := HHG.out; omega))); clear HQ HV; have HV := HV9; have HQ := aM hq; clear hq hk HV9; (try clear f1 y1 y2 y3 y4 z1 z2 z3 z4); have f1 := cell_at (HM.out.move HQ.out.keep HQ.out.mkr).fx 1 _ rfl; have y1 := cell_at HQ.out.bx 1 _ rfl; have y2 := cell_at HQ.out.bx 2 _ rfl; have y3 := cell_at HQ.out.bx 3 _ rfl; have y4 := cell_at HQ.out.bx 4 _ rfl; have z1 := blk_frozen HQ.out.bx 1; have z2 := blk_frozen HQ.out.bx 2; have z3 := blk_frozen HQ.out.bx 3; have z4 := blk_frozen HQ.out.bx 4))
          have hset := (((HQ.out.set 1 (.int .u8 3)).set 2 (.int .i64 e1)).set 3 (.int .i64 0)).set 4 (.int .i64 0)
          have hkp : Keep (fun i => i = wo.heap.size) w9 ((((w9.setCell ⟨wo.heap.size, 1, none⟩ (.int .u8 3)).setCell ⟨wo.heap.size, 2, none⟩ (.int .i64 e1)).setCell ⟨wo.heap.size, 3, none⟩ (.int .i64 0)).setCell ⟨wo.heap.size, 4, none⟩ (.int .i64 0)) := ((((Keep.refl (fun i => i = wo.heap.size) w9).setCell ⟨wo.heap.size, 1, none⟩ _ (fun _ => rfl)).setCell ⟨wo.heap.size, 2, none⟩ _ (fun _ => rfl)).setCell ⟨wo.heap.size, 3, none⟩ _ (fun _ => rfl)).setCell ⟨wo.heap.size, 4, none⟩ _ (fun _ => rfl)
          generalize (((w9.setCell ⟨wo.heap.size, 1, none⟩ (.int .u8 3)).setCell ⟨wo.heap.size, 2, none⟩ (.int .i64 e1)).setCell ⟨wo.heap.size, 3, none⟩ (.int .i64 0)).setCell ⟨wo.heap.size, 4, none⟩ (.int .i64 0) = WL at hset hkp ⊢
          have HVL := aM (Kd.R_step HV.out (fun k hk hl => hkp.block k hl (fun e => by have e : k = wo.heap.size := e; omega)))
          have HQL := aM (show MQ w wo WL wo.heap.size #[.slice Av mv cv, .int .u8 3, .int .i64 e1, .int .i64 0, .int .i64 0] from hset)
          clear HQ HV hset hkp f1 y1 y2 y3 y4 z1 z2 z3 z4
          have x0 := cell_at HQL.out.bx 0 _ rfl
          have x1 := cell_at HQL.out.bx 1 _ rfl
          have x2 := cell_at HQL.out.bx 2 _ rfl
          have x3 := cell_at HQL.out.bx 3 _ rfl
          have x4 := cell_at HQL.out.bx 4 _ rfl
          have HML := aM (HM.out.move HQL.out.keep HQL.out.mkr)
          have f2 := cell_at HML.out.fx 2 _ rfl
          have HOL := aM (Kd.R_step HO.out (fun k hk hl => HQL.out.keep.block k hl (fun e => by have e : k = w.heap.size + 1 + 1 + 1 := e; omega)))
          have HGB := aM (show ∀ b ∈ bs ++ [(is, 3, e1, 0, 0)], GoodB v n b from fun b hb => by
           rcases List.mem_append.1 hb with h | h
           · exact HG.out b h
           · rw [List.mem_singleton] at h
             rw [h]
             exact ⟨by show is.length ≤ 8; omega, HGI.out, ⟨⟨by decide, by decide⟩, ⟨by omega, by omega⟩, ⟨by omega, by omega⟩, ⟨by omega, by omega⟩⟩, by unfold endErr; simp only; repeat (rw [if_neg (by omega)])⟩)
          have hbl2 : (bs ++ [(is, 3, e1, 0, 0)]).length = x + 1 := by rw [List.length_append, hbl]; rfl
          have HBL2 := aM hbl2
          clear hbl2
          go_wp2_with (first | ((with_reducible refine gate_builtin (b := .append) (xs := #[.tmp 78, .tmp 80]) rfl ?_); at_builtin; refine Kd.R_append kBlk (w0 := WL) (w.heap.size + 1 + 1 + 1 + 1) rfl (.tmp 78) (.tmp 80) 23 84 (.agg #[.slice none 0 0, .int .u8 0, .int .i64 0, .int .i64 0, .int .i64 0]) 56 rfl Try.underlying23 infoBlk rfl (show 0 < 5 by decide) (by decide) vb bs (is, 3, e1, 0, 0) [.slice Av mv cv, .int .u8 3, .int .i64 e1, .int .i64 0, .int .i64 0] (fun k => w.heap.size + 1 + 1 + 1 < k) (fun k => wo.heap.size < k) rfl rfl (blk_M (Kd.R_lower HVL.out (by have := HHG.out; omega))) (fun k hk => ⟨by have := HHG.out; omega, fun e => absurd ((Kd.R_bound HO.out).1 k e.symm).2.2.1 (by omega)⟩) (fun k hk => by have := HHG.out; have := HQL.out.keep.size; omega) HOL.out (Below.refl _ _) (by have := HHG.out; have := HQL.out.keep.size; omega) (blk_fits (by omega)) ?_; intro v7 w7 ho7 hb7 hg7 hat7; obtain ⟨A7, c7, hv7, -, -⟩ := Kd.R_reads ho7; obtain ⟨m7, hm7⟩ : ∃ m7, (bs ++ [(is, 3, e1, 0, 0)]).length = m7 := ⟨_, rfl⟩; rw [hm7] at hv7; subst hv7; clear hm7; have HO7 := aM ho7; have HM7 := aM (HML.out.grow (grown_keep hg7 (fun i hi => HOL.out.1 i hi))); clear ho7 hb7 hg7 hat7 x0 x1 x2 x3 x4 f2; have f2 := cell_at HM7.out.fx 2 _ rfl; have z2 := blk_frozen HM7.out.fx 2))
          have HMN := aM (HM7.out.setf (.slice A7 m7 c7))
          have HON := aM (show kBlk.R 84 (w7.setCell ⟨w.heap.size + 1 + 1, 2, none⟩ (.slice A7 m7 c7)) (w.heap.size + 1 + 1 + 1 + 1) (fun k => w.heap.size + 1 + 1 + 1 < k) (.slice A7 m7 c7) (bs ++ [(is, 3, e1, 0, 0)]) from Kd.R_step HO7.out (fun k hk hl => Below.heap_setCell _ _ _ _ (show k ≠ w.heap.size + 1 + 1 by omega)))
          go_roundw
          case rel => first | exact ⟨x + 1, by omega, by go_num, .slice A7 m7 c7, _, HMN, HON, HBL2.out, HGB⟩ | ((repeat apply Exists.intro); exact ⟨⟨x + 1, by omega, by go_num, .slice A7 m7 c7, _, HMN, HON, HBL2.out, HGB⟩, rfl⟩)
          case measure => simp [intOf]; omega
        · have HF1 := aM trivial
          have HF2 := aM trivial
          have HF3 := aM trivial
          clear hy0 hy1
          go_upto_region 19 with (first | (go_at_call 35; clear HF1; refine (mq_next HQ.out _ (by omega) (by omega)).mono ?_; rintro _ w9 ⟨e1, rfl, he10, he11, hq, hk⟩; have HV9 := aM (Kd.R_step HV.out (fun k hk' hl => hk.block k hl (fun e => by have e : k = w.heap.size + 1 + 1 + 1 := e; have := HHG.out; omega))); clear HQ HV; have HV := HV9; have HQ := aM hq; clear hq hk HV9; (try clear f1 y1 y2 y3 y4 z1 z2 z3 z4); have f1 := cell_at (HM.out.move HQ.out.keep HQ.out.mkr).fx 1 _ rfl; have y1 := cell_at HQ.out.bx 1 _ rfl; have y2 := cell_at HQ.out.bx 2 _ rfl; have y3 := cell_at HQ.out.bx 3 _ rfl; have y4 := cell_at HQ.out.bx 4 _ rfl; have z1 := blk_frozen HQ.out.bx 1; have z2 := blk_frozen HQ.out.bx 2; have z3 := blk_frozen HQ.out.bx 3; have z4 := blk_frozen HQ.out.bx 4) | (go_at_call 35; clear HF2; refine (mq_next HQ.out _ (by omega) (by omega)).mono ?_; rintro _ w9 ⟨e2, rfl, he20, he21, hq, hk⟩; have HV9 := aM (Kd.R_step HV.out (fun k hk' hl => hk.block k hl (fun e => by have e : k = w.heap.size + 1 + 1 + 1 := e; have := HHG.out; omega))); clear HQ HV; have HV := HV9; have HQ := aM hq; clear hq hk HV9; (try clear f1 y1 y2 y3 y4 z1 z2 z3 z4); have f1 := cell_at (HM.out.move HQ.out.keep HQ.out.mkr).fx 1 _ rfl; have y1 := cell_at HQ.out.bx 1 _ rfl; have y2 := cell_at HQ.out.bx 2 _ rfl; have y3 := cell_at HQ.out.bx 3 _ rfl; have y4 := cell_at HQ.out.bx 4 _ rfl; have z1 := blk_frozen HQ.out.bx 1; have z2 := blk_frozen HQ.out.bx 2; have z3 := blk_frozen HQ.out.bx 3; have z4 := blk_frozen HQ.out.bx 4) | (go_at_call 35; clear HF3; refine (mq_next HQ.out _ (by omega) (by omega)).mono ?_; rintro _ w9 ⟨e3, rfl, he30, he31, hq, hk⟩; have HV9 := aM (Kd.R_step HV.out (fun k hk' hl => hk.block k hl (fun e => by have e : k = w.heap.size + 1 + 1 + 1 := e; have := HHG.out; omega))); clear HQ HV; have HV := HV9; have HQ := aM hq; clear hq hk HV9; (try clear f1 y1 y2 y3 y4 z1 z2 z3 z4); have f1 := cell_at (HM.out.move HQ.out.keep HQ.out.mkr).fx 1 _ rfl; have y1 := cell_at HQ.out.bx 1 _ rfl; have y2 := cell_at HQ.out.bx 2 _ rfl; have y3 := cell_at HQ.out.bx 3 _ rfl; have y4 := cell_at HQ.out.bx 4 _ rfl; have z1 := blk_frozen HQ.out.bx 1; have z2 := blk_frozen HQ.out.bx 2; have z3 := blk_frozen HQ.out.bx 3; have z4 := blk_frozen HQ.out.bx 4))
          have hset := (((HQ.out.set 1 (.int .u8 1)).set 2 (.int .i64 0)).set 3 (.int .i64 e1)).set 4 (.int .i64 0)
          have hkp : Keep (fun i => i = wo.heap.size) w9 ((((w9.setCell ⟨wo.heap.size, 1, none⟩ (.int .u8 1)).setCell ⟨wo.heap.size, 2, none⟩ (.int .i64 0)).setCell ⟨wo.heap.size, 3, none⟩ (.int .i64 e1)).setCell ⟨wo.heap.size, 4, none⟩ (.int .i64 0)) := ((((Keep.refl (fun i => i = wo.heap.size) w9).setCell ⟨wo.heap.size, 1, none⟩ _ (fun _ => rfl)).setCell ⟨wo.heap.size, 2, none⟩ _ (fun _ => rfl)).setCell ⟨wo.heap.size, 3, none⟩ _ (fun _ => rfl)).setCell ⟨wo.heap.size, 4, none⟩ _ (fun _ => rfl)
          generalize (((w9.setCell ⟨wo.heap.size, 1, none⟩ (.int .u8 1)).setCell ⟨wo.heap.size, 2, none⟩ (.int .i64 0)).setCell ⟨wo.heap.size, 3, none⟩ (.int .i64 e1)).setCell ⟨wo.heap.size, 4, none⟩ (.int .i64 0) = WL at hset hkp ⊢
          have HVL := aM (Kd.R_step HV.out (fun k hk hl => hkp.block k hl (fun e => by have e : k = wo.heap.size := e; omega)))
          have HQL := aM (show MQ w wo WL wo.heap.size #[.slice Av mv cv, .int .u8 1, .int .i64 0, .int .i64 e1, .int .i64 0] from hset)
          clear HQ HV hset hkp f1 y1 y2 y3 y4 z1 z2 z3 z4
          have x0 := cell_at HQL.out.bx 0 _ rfl
          have x1 := cell_at HQL.out.bx 1 _ rfl
          have x2 := cell_at HQL.out.bx 2 _ rfl
          have x3 := cell_at HQL.out.bx 3 _ rfl
          have x4 := cell_at HQL.out.bx 4 _ rfl
          have HML := aM (HM.out.move HQL.out.keep HQL.out.mkr)
          have f2 := cell_at HML.out.fx 2 _ rfl
          have HOL := aM (Kd.R_step HO.out (fun k hk hl => HQL.out.keep.block k hl (fun e => by have e : k = w.heap.size + 1 + 1 + 1 := e; omega)))
          have HGB := aM (show ∀ b ∈ bs ++ [(is, 1, 0, e1, 0)], GoodB v n b from fun b hb => by
           rcases List.mem_append.1 hb with h | h
           · exact HG.out b h
           · rw [List.mem_singleton] at h
             rw [h]
             exact ⟨by show is.length ≤ 8; omega, HGI.out, ⟨⟨by decide, by decide⟩, ⟨by omega, by omega⟩, ⟨by omega, by omega⟩, ⟨by omega, by omega⟩⟩, by unfold endErr; simp only; repeat (rw [if_neg (by omega)])⟩)
          have hbl2 : (bs ++ [(is, 1, 0, e1, 0)]).length = x + 1 := by rw [List.length_append, hbl]; rfl
          have HBL2 := aM hbl2
          clear hbl2
          go_wp2_with (first | ((with_reducible refine gate_builtin (b := .append) (xs := #[.tmp 78, .tmp 80]) rfl ?_); at_builtin; refine Kd.R_append kBlk (w0 := WL) (w.heap.size + 1 + 1 + 1 + 1) rfl (.tmp 78) (.tmp 80) 23 84 (.agg #[.slice none 0 0, .int .u8 0, .int .i64 0, .int .i64 0, .int .i64 0]) 56 rfl Try.underlying23 infoBlk rfl (show 0 < 5 by decide) (by decide) vb bs (is, 1, 0, e1, 0) [.slice Av mv cv, .int .u8 1, .int .i64 0, .int .i64 e1, .int .i64 0] (fun k => w.heap.size + 1 + 1 + 1 < k) (fun k => wo.heap.size < k) rfl rfl (blk_M (Kd.R_lower HVL.out (by have := HHG.out; omega))) (fun k hk => ⟨by have := HHG.out; omega, fun e => absurd ((Kd.R_bound HO.out).1 k e.symm).2.2.1 (by omega)⟩) (fun k hk => by have := HHG.out; have := HQL.out.keep.size; omega) HOL.out (Below.refl _ _) (by have := HHG.out; have := HQL.out.keep.size; omega) (blk_fits (by omega)) ?_; intro v7 w7 ho7 hb7 hg7 hat7; obtain ⟨A7, c7, hv7, -, -⟩ := Kd.R_reads ho7; obtain ⟨m7, hm7⟩ : ∃ m7, (bs ++ [(is, 1, 0, e1, 0)]).length = m7 := ⟨_, rfl⟩; rw [hm7] at hv7; subst hv7; clear hm7; have HO7 := aM ho7; have HM7 := aM (HML.out.grow (grown_keep hg7 (fun i hi => HOL.out.1 i hi))); clear ho7 hb7 hg7 hat7 x0 x1 x2 x3 x4 f2; have f2 := cell_at HM7.out.fx 2 _ rfl; have z2 := blk_frozen HM7.out.fx 2))
          have HMN := aM (HM7.out.setf (.slice A7 m7 c7))
          have HON := aM (show kBlk.R 84 (w7.setCell ⟨w.heap.size + 1 + 1, 2, none⟩ (.slice A7 m7 c7)) (w.heap.size + 1 + 1 + 1 + 1) (fun k => w.heap.size + 1 + 1 + 1 < k) (.slice A7 m7 c7) (bs ++ [(is, 1, 0, e1, 0)]) from Kd.R_step HO7.out (fun k hk hl => Below.heap_setCell _ _ _ _ (show k ≠ w.heap.size + 1 + 1 by omega)))
          go_roundw
          case rel => first | exact ⟨x + 1, by omega, by go_num, .slice A7 m7 c7, _, HMN, HON, HBL2.out, HGB⟩ | ((repeat apply Exists.intro); exact ⟨⟨x + 1, by omega, by go_num, .slice A7 m7 c7, _, HMN, HON, HBL2.out, HGB⟩, rfl⟩)
          case measure => simp [intOf]; omega
        · have HF1 := aM trivial
          have HF2 := aM trivial
          have HF3 := aM trivial
          clear hy0 hy1
          go_upto_region 19 with (first | (go_at_call 35; clear HF1; refine (mq_next HQ.out _ (by omega) (by omega)).mono ?_; rintro _ w9 ⟨e1, rfl, he10, he11, hq, hk⟩; have HV9 := aM (Kd.R_step HV.out (fun k hk' hl => hk.block k hl (fun e => by have e : k = w.heap.size + 1 + 1 + 1 := e; have := HHG.out; omega))); clear HQ HV; have HV := HV9; have HQ := aM hq; clear hq hk HV9; (try clear f1 y1 y2 y3 y4 z1 z2 z3 z4); have f1 := cell_at (HM.out.move HQ.out.keep HQ.out.mkr).fx 1 _ rfl; have y1 := cell_at HQ.out.bx 1 _ rfl; have y2 := cell_at HQ.out.bx 2 _ rfl; have y3 := cell_at HQ.out.bx 3 _ rfl; have y4 := cell_at HQ.out.bx 4 _ rfl; have z1 := blk_frozen HQ.out.bx 1; have z2 := blk_frozen HQ.out.bx 2; have z3 := blk_frozen HQ.out.bx 3; have z4 := blk_frozen HQ.out.bx 4) | (go_at_call 35; clear HF2; refine (mq_next HQ.out _ (by omega) (by omega)).mono ?_; rintro _ w9 ⟨e2, rfl, he20, he21, hq, hk⟩; have HV9 := aM (Kd.R_step HV.out (fun k hk' hl => hk.block k hl (fun e => by have e : k = w.heap.size + 1 + 1 + 1 := e; have := HHG.out; omega))); clear HQ HV; have HV := HV9; have HQ := aM hq; clear hq hk HV9; (try clear f1 y1 y2 y3 y4 z1 z2 z3 z4); have f1 := cell_at (HM.out.move HQ.out.keep HQ.out.mkr).fx 1 _ rfl; have y1 := cell_at HQ.out.bx 1 _ rfl; have y2 := cell_at HQ.out.bx 2 _ rfl; have y3 := cell_at HQ.out.bx 3 _ rfl; have y4 := cell_at HQ.out.bx 4 _ rfl; have z1 := blk_frozen HQ.out.bx 1; have z2 := blk_frozen HQ.out.bx 2; have z3 := blk_frozen HQ.out.bx 3; have z4 := blk_frozen HQ.out.bx 4) | (go_at_call 35; clear HF3; refine (mq_next HQ.out _ (by omega) (by omega)).mono ?_; rintro _ w9 ⟨e3, rfl, he30, he31, hq, hk⟩; have HV9 := aM (Kd.R_step HV.out (fun k hk' hl => hk.block k hl (fun e => by have e : k = w.heap.size + 1 + 1 + 1 := e; have := HHG.out; omega))); clear HQ HV; have HV := HV9; have HQ := aM hq; clear hq hk HV9; (try clear f1 y1 y2 y3 y4 z1 z2 z3 z4); have f1 := cell_at (HM.out.move HQ.out.keep HQ.out.mkr).fx 1 _ rfl; have y1 := cell_at HQ.out.bx 1 _ rfl; have y2 := cell_at HQ.out.bx 2 _ rfl; have y3 := cell_at HQ.out.bx 3 _ rfl; have y4 := cell_at HQ.out.bx 4 _ rfl; have z1 := blk_frozen HQ.out.bx 1; have z2 := blk_frozen HQ.out.bx 2; have z3 := blk_frozen HQ.out.bx 3; have z4 := blk_frozen HQ.out.bx 4))
          have hset := (((HQ.out.set 1 (.int .u8 2)).set 2 (.int .i64 e1)).set 3 (.int .i64 e2)).set 4 (.int .i64 e3)
          have hkp : Keep (fun i => i = wo.heap.size) w9 ((((w9.setCell ⟨wo.heap.size, 1, none⟩ (.int .u8 2)).setCell ⟨wo.heap.size, 2, none⟩ (.int .i64 e1)).setCell ⟨wo.heap.size, 3, none⟩ (.int .i64 e2)).setCell ⟨wo.heap.size, 4, none⟩ (.int .i64 e3)) := ((((Keep.refl (fun i => i = wo.heap.size) w9).setCell ⟨wo.heap.size, 1, none⟩ _ (fun _ => rfl)).setCell ⟨wo.heap.size, 2, none⟩ _ (fun _ => rfl)).setCell ⟨wo.heap.size, 3, none⟩ _ (fun _ => rfl)).setCell ⟨wo.heap.size, 4, none⟩ _ (fun _ => rfl)
          generalize (((w9.setCell ⟨wo.heap.size, 1, none⟩ (.int .u8 2)).setCell ⟨wo.heap.size, 2, none⟩ (.int .i64 e1)).setCell ⟨wo.heap.size, 3, none⟩ (.int .i64 e2)).setCell ⟨wo.heap.size, 4, none⟩ (.int .i64 e3) = WL at hset hkp ⊢
          have HVL := aM (Kd.R_step HV.out (fun k hk hl => hkp.block k hl (fun e => by have e : k = wo.heap.size := e; omega)))
          have HQL := aM (show MQ w wo WL wo.heap.size #[.slice Av mv cv, .int .u8 2, .int .i64 e1, .int .i64 e2, .int .i64 e3] from hset)
          clear HQ HV hset hkp f1 y1 y2 y3 y4 z1 z2 z3 z4
          have x0 := cell_at HQL.out.bx 0 _ rfl
          have x1 := cell_at HQL.out.bx 1 _ rfl
          have x2 := cell_at HQL.out.bx 2 _ rfl
          have x3 := cell_at HQL.out.bx 3 _ rfl
          have x4 := cell_at HQL.out.bx 4 _ rfl
          have HML := aM (HM.out.move HQL.out.keep HQL.out.mkr)
          have f2 := cell_at HML.out.fx 2 _ rfl
          have HOL := aM (Kd.R_step HO.out (fun k hk hl => HQL.out.keep.block k hl (fun e => by have e : k = w.heap.size + 1 + 1 + 1 := e; omega)))
          have HGB := aM (show ∀ b ∈ bs ++ [(is, 2, e1, e2, e3)], GoodB v n b from fun b hb => by
           rcases List.mem_append.1 hb with h | h
           · exact HG.out b h
           · rw [List.mem_singleton] at h
             rw [h]
             exact ⟨by show is.length ≤ 8; omega, HGI.out, ⟨⟨by decide, by decide⟩, ⟨by omega, by omega⟩, ⟨by omega, by omega⟩, ⟨by omega, by omega⟩⟩, by unfold endErr; simp only; repeat (rw [if_neg (by omega)])⟩)
          have hbl2 : (bs ++ [(is, 2, e1, e2, e3)]).length = x + 1 := by rw [List.length_append, hbl]; rfl
          have HBL2 := aM hbl2
          clear hbl2
          go_wp2_with (first | ((with_reducible refine gate_builtin (b := .append) (xs := #[.tmp 78, .tmp 80]) rfl ?_); at_builtin; refine Kd.R_append kBlk (w0 := WL) (w.heap.size + 1 + 1 + 1 + 1) rfl (.tmp 78) (.tmp 80) 23 84 (.agg #[.slice none 0 0, .int .u8 0, .int .i64 0, .int .i64 0, .int .i64 0]) 56 rfl Try.underlying23 infoBlk rfl (show 0 < 5 by decide) (by decide) vb bs (is, 2, e1, e2, e3) [.slice Av mv cv, .int .u8 2, .int .i64 e1, .int .i64 e2, .int .i64 e3] (fun k => w.heap.size + 1 + 1 + 1 < k) (fun k => wo.heap.size < k) rfl rfl (blk_M (Kd.R_lower HVL.out (by have := HHG.out; omega))) (fun k hk => ⟨by have := HHG.out; omega, fun e => absurd ((Kd.R_bound HO.out).1 k e.symm).2.2.1 (by omega)⟩) (fun k hk => by have := HHG.out; have := HQL.out.keep.size; omega) HOL.out (Below.refl _ _) (by have := HHG.out; have := HQL.out.keep.size; omega) (blk_fits (by omega)) ?_; intro v7 w7 ho7 hb7 hg7 hat7; obtain ⟨A7, c7, hv7, -, -⟩ := Kd.R_reads ho7; obtain ⟨m7, hm7⟩ : ∃ m7, (bs ++ [(is, 2, e1, e2, e3)]).length = m7 := ⟨_, rfl⟩; rw [hm7] at hv7; subst hv7; clear hm7; have HO7 := aM ho7; have HM7 := aM (HML.out.grow (grown_keep hg7 (fun i hi => HOL.out.1 i hi))); clear ho7 hb7 hg7 hat7 x0 x1 x2 x3 x4 f2; have f2 := cell_at HM7.out.fx 2 _ rfl; have z2 := blk_frozen HM7.out.fx 2))
          have HMN := aM (HM7.out.setf (.slice A7 m7 c7))
          have HON := aM (show kBlk.R 84 (w7.setCell ⟨w.heap.size + 1 + 1, 2, none⟩ (.slice A7 m7 c7)) (w.heap.size + 1 + 1 + 1 + 1) (fun k => w.heap.size + 1 + 1 + 1 < k) (.slice A7 m7 c7) (bs ++ [(is, 2, e1, e2, e3)]) from Kd.R_step HO7.out (fun k hk hl => Below.heap_setCell _ _ _ _ (show k ≠ w.heap.size + 1 + 1 by omega)))
          go_roundw
          case rel => first | exact ⟨x + 1, by omega, by go_num, .slice A7 m7 c7, _, HMN, HON, HBL2.out, HGB⟩ | ((repeat apply Exists.intro); exact ⟨⟨x + 1, by omega, by go_num, .slice A7 m7 c7, _, HMN, HON, HBL2.out, HGB⟩, rfl⟩)
          case measure => simp [intOf]; omega
        · have HF1 := aM trivial
          have HF2 := aM trivial
          have HF3 := aM trivial
          clear hy0 hy1
          go_upto_region 19 with (first | (go_at_call 35; clear HF1; refine (mq_next HQ.out _ (by omega) (by omega)).mono ?_; rintro _ w9 ⟨e1, rfl, he10, he11, hq, hk⟩; have HV9 := aM (Kd.R_step HV.out (fun k hk' hl => hk.block k hl (fun e => by have e : k = w.heap.size + 1 + 1 + 1 := e; have := HHG.out; omega))); clear HQ HV; have HV := HV9; have HQ := aM hq; clear hq hk HV9; (try clear f1 y1 y2 y3 y4 z1 z2 z3 z4); have f1 := cell_at (HM.out.move HQ.out.keep HQ.out.mkr).fx 1 _ rfl; have y1 := cell_at HQ.out.bx 1 _ rfl; have y2 := cell_at HQ.out.bx 2 _ rfl; have y3 := cell_at HQ.out.bx 3 _ rfl; have y4 := cell_at HQ.out.bx 4 _ rfl; have z1 := blk_frozen HQ.out.bx 1; have z2 := blk_frozen HQ.out.bx 2; have z3 := blk_frozen HQ.out.bx 3; have z4 := blk_frozen HQ.out.bx 4) | (go_at_call 35; clear HF2; refine (mq_next HQ.out _ (by omega) (by omega)).mono ?_; rintro _ w9 ⟨e2, rfl, he20, he21, hq, hk⟩; have HV9 := aM (Kd.R_step HV.out (fun k hk' hl => hk.block k hl (fun e => by have e : k = w.heap.size + 1 + 1 + 1 := e; have := HHG.out; omega))); clear HQ HV; have HV := HV9; have HQ := aM hq; clear hq hk HV9; (try clear f1 y1 y2 y3 y4 z1 z2 z3 z4); have f1 := cell_at (HM.out.move HQ.out.keep HQ.out.mkr).fx 1 _ rfl; have y1 := cell_at HQ.out.bx 1 _ rfl; have y2 := cell_at HQ.out.bx 2 _ rfl; have y3 := cell_at HQ.out.bx 3 _ rfl; have y4 := cell_at HQ.out.bx 4 _ rfl; have z1 := blk_frozen HQ.out.bx 1; have z2 := blk_frozen HQ.out.bx 2; have z3 := blk_frozen HQ.out.bx 3; have z4 := blk_frozen HQ.out.bx 4) | (go_at_call 35; clear HF3; refine (mq_next HQ.out _ (by omega) (by omega)).mono ?_; rintro _ w9 ⟨e3, rfl, he30, he31, hq, hk⟩; have HV9 := aM (Kd.R_step HV.out (fun k hk' hl => hk.block k hl (fun e => by have e : k = w.heap.size + 1 + 1 + 1 := e; have := HHG.out; omega))); clear HQ HV; have HV := HV9; have HQ := aM hq; clear hq hk HV9; (try clear f1 y1 y2 y3 y4 z1 z2 z3 z4); have f1 := cell_at (HM.out.move HQ.out.keep HQ.out.mkr).fx 1 _ rfl; have y1 := cell_at HQ.out.bx 1 _ rfl; have y2 := cell_at HQ.out.bx 2 _ rfl; have y3 := cell_at HQ.out.bx 3 _ rfl; have y4 := cell_at HQ.out.bx 4 _ rfl; have z1 := blk_frozen HQ.out.bx 1; have z2 := blk_frozen HQ.out.bx 2; have z3 := blk_frozen HQ.out.bx 3; have z4 := blk_frozen HQ.out.bx 4))
          have hset := (((HQ.out.set 1 (.int .u8 2)).set 2 (.int .i64 e1)).set 3 (.int .i64 e2)).set 4 (.int .i64 e3)
          have hkp : Keep (fun i => i = wo.heap.size) w9 ((((w9.setCell ⟨wo.heap.size, 1, none⟩ (.int .u8 2)).setCell ⟨wo.heap.size, 2, none⟩ (.int .i64 e1)).setCell ⟨wo.heap.size, 3, none⟩ (.int .i64 e2)).setCell ⟨wo.heap.size, 4, none⟩ (.int .i64 e3)) := ((((Keep.refl (fun i => i = wo.heap.size) w9).setCell ⟨wo.heap.size, 1, none⟩ _ (fun _ => rfl)).setCell ⟨wo.heap.size, 2, none⟩ _ (fun _ => rfl)).setCell ⟨wo.heap.size, 3, none⟩ _ (fun _ => rfl)).setCell ⟨wo.heap.size, 4, none⟩ _ (fun _ => rfl)
          generalize (((w9.setCell ⟨wo.heap.size, 1, none⟩ (.int .u8 2)).setCell ⟨wo.heap.size, 2, none⟩ (.int .i64 e1)).setCell ⟨wo.heap.size, 3, none⟩ (.int .i64 e2)).setCell ⟨wo.heap.size, 4, none⟩ (.int .i64 e3) = WL at hset hkp ⊢
          have HVL := aM (Kd.R_step HV.out (fun k hk hl => hkp.block k hl (fun e => by have e : k = wo.heap.size := e; omega)))
          have HQL := aM (show MQ w wo WL wo.heap.size #[.slice Av mv cv, .int .u8 2, .int .i64 e1, .int .i64 e2, .int .i64 e3] from hset)
          clear HQ HV hset hkp f1 y1 y2 y3 y4 z1 z2 z3 z4
          have x0 := cell_at HQL.out.bx 0 _ rfl
          have x1 := cell_at HQL.out.bx 1 _ rfl
          have x2 := cell_at HQL.out.bx 2 _ rfl
          have x3 := cell_at HQL.out.bx 3 _ rfl
          have x4 := cell_at HQL.out.bx 4 _ rfl
          have HML := aM (HM.out.move HQL.out.keep HQL.out.mkr)
          have f2 := cell_at HML.out.fx 2 _ rfl
          have HOL := aM (Kd.R_step HO.out (fun k hk hl => HQL.out.keep.block k hl (fun e => by have e : k = w.heap.size + 1 + 1 + 1 := e; omega)))
          have HGB := aM (show ∀ b ∈ bs ++ [(is, 2, e1, e2, e3)], GoodB v n b from fun b hb => by
           rcases List.mem_append.1 hb with h | h
           · exact HG.out b h
           · rw [List.mem_singleton] at h
             rw [h]
             exact ⟨by show is.length ≤ 8; omega, HGI.out, ⟨⟨by decide, by decide⟩, ⟨by omega, by omega⟩, ⟨by omega, by omega⟩, ⟨by omega, by omega⟩⟩, by unfold endErr; simp only; repeat (rw [if_neg (by omega)])⟩)
          have hbl2 : (bs ++ [(is, 2, e1, e2, e3)]).length = x + 1 := by rw [List.length_append, hbl]; rfl
          have HBL2 := aM hbl2
          clear hbl2
          go_wp2_with (first | ((with_reducible refine gate_builtin (b := .append) (xs := #[.tmp 78, .tmp 80]) rfl ?_); at_builtin; refine Kd.R_append kBlk (w0 := WL) (w.heap.size + 1 + 1 + 1 + 1) rfl (.tmp 78) (.tmp 80) 23 84 (.agg #[.slice none 0 0, .int .u8 0, .int .i64 0, .int .i64 0, .int .i64 0]) 56 rfl Try.underlying23 infoBlk rfl (show 0 < 5 by decide) (by decide) vb bs (is, 2, e1, e2, e3) [.slice Av mv cv, .int .u8 2, .int .i64 e1, .int .i64 e2, .int .i64 e3] (fun k => w.heap.size + 1 + 1 + 1 < k) (fun k => wo.heap.size < k) rfl rfl (blk_M (Kd.R_lower HVL.out (by have := HHG.out; omega))) (fun k hk => ⟨by have := HHG.out; omega, fun e => absurd ((Kd.R_bound HO.out).1 k e.symm).2.2.1 (by omega)⟩) (fun k hk => by have := HHG.out; have := HQL.out.keep.size; omega) HOL.out (Below.refl _ _) (by have := HHG.out; have := HQL.out.keep.size; omega) (blk_fits (by omega)) ?_; intro v7 w7 ho7 hb7 hg7 hat7; obtain ⟨A7, c7, hv7, -, -⟩ := Kd.R_reads ho7; obtain ⟨m7, hm7⟩ : ∃ m7, (bs ++ [(is, 2, e1, e2, e3)]).length = m7 := ⟨_, rfl⟩; rw [hm7] at hv7; subst hv7; clear hm7; have HO7 := aM ho7; have HM7 := aM (HML.out.grow (grown_keep hg7 (fun i hi => HOL.out.1 i hi))); clear ho7 hb7 hg7 hat7 x0 x1 x2 x3 x4 f2; have f2 := cell_at HM7.out.fx 2 _ rfl; have z2 := blk_frozen HM7.out.fx 2))
          have HMN := aM (HM7.out.setf (.slice A7 m7 c7))
          have HON := aM (show kBlk.R 84 (w7.setCell ⟨w.heap.size + 1 + 1, 2, none⟩ (.slice A7 m7 c7)) (w.heap.size + 1 + 1 + 1 + 1) (fun k => w.heap.size + 1 + 1 + 1 < k) (.slice A7 m7 c7) (bs ++ [(is, 2, e1, e2, e3)]) from Kd.R_step HO7.out (fun k hk hl => Below.heap_setCell _ _ _ _ (show k ≠ w.heap.size + 1 + 1 by omega)))
          go_roundw
          case rel => first | exact ⟨x + 1, by omega, by go_num, .slice A7 m7 c7, _, HMN, HON, HBL2.out, HGB⟩ | ((repeat apply Exists.intro); exact ⟨⟨x + 1, by omega, by go_num, .slice A7 m7 c7, _, HMN, HON, HBL2.out, HGB⟩, rfl⟩)
          case measure => simp [intOf]; omega
   · obtain rfl : x = n := by omega
     obtain ⟨Av, cv, hvb, -, -⟩ := Kd.R_reads HO.out
     have HBL := aM hbl
     rw [hbl] at hvb
     subst hvb
     clear hbl hx
     have q0 := cell_at HM.out.fx 0 _ rfl
     have q1 := cell_at HM.out.fx 1 _ rfl
     have q2 := cell_at HM.out.fx 2 _ rfl
     have y0 := cell_at HM.out.res 0 _ rfl
     have y1 := cell_at HM.out.res 1 _ rfl
     have y2 := cell_at HM.out.res 2 _ rfl
     have v0 := blk_frozen HM.out.res 0
     have v1 := blk_frozen HM.out.res 1
     have v2 := blk_frozen HM.out.res 2
     go_wp2
     have rr := HM.out.res; have p0 := fun x0 x1 x2 => cell_at (put3 rr x0 x1 x2) 0 _ rfl; have p1 := fun x0 x1 x2 => cell_at (put3 rr x0 x1 x2) 1 _ rfl; have p2 := fun x0 x1 x2 => cell_at (put3 rr x0 x1 x2) 2 _ rfl; (try simp only [Exit.inBlock, Exit.then]); refine bodyPost_ret (by simp [results, Try.results12, go_sem, p0, p1, p2]; try rfl) rfl ?_
     first | exact ⟨v, _, bs, rfl, Kd.R_mono (Kd.R_lower (Kd.R_step HO.out (fun k hk hl => (put3_far _ _ _).block k hl (fun e => by have e : k = w.heap.size + 1 := e; omega))) (by omega)) (fun _ _ => trivial), ⟨HBL.out, HG.out⟩, ⟨hv1.1, hv1.2.1, hv1.2.2, by first | exact HVV.out.trans (by rw [if_pos (by omega)]) | exact HVV.out.trans (by rw [if_neg (by omega)]) | exact HVV.out⟩, HM.out.below.trans (keep_below (put3_far _ _ _) HM.out.below.size (fun i e => by have e : i = w.heap.size + 1 := e; omega))⟩ | exact ⟨v, _, rfl, bs, Kd.R_mono (Kd.R_lower (Kd.R_step HO.out (fun k hk hl => (put3_far _ _ _).block k hl (fun e => by have e : k = w.heap.size + 1 := e; omega))) (by omega)) (fun _ _ => trivial), ⟨HBL.out, HG.out⟩, ⟨hv1.1, hv1.2.1, hv1.2.2, by first | exact HVV.out.trans (by rw [if_pos (by omega)]) | exact HVV.out.trans (by rw [if_neg (by omega)]) | exact HVV.out⟩, HM.out.below.trans (keep_below (put3_far _ _ _) HM.out.below.size (fun i e => by have e : i = w.heap.size + 1 := e; omega))⟩
end Go.Proofs.Ytnckonglodmfeaa.Ik
namespace Go.Proofs.Ytnckonglodmfeaa.Ik
open Go.RowKit Go.Proofs.YtnckonglodmfeaaW.PrintWords Go.Proofs.YtnckonglodmfeaaW.PrintLast Go.Proofs.YtnckonglodmfeaaW.PrintMore B R S Is Gs
end Go.Proofs.Ytnckonglodmfeaa.Ik
namespace Go.Proofs.Ytnckonglodmfeaa.Ik
open Go.RowKit Go.Proofs.YtnckonglodmfeaaW.PrintWords Go.Proofs.YtnckonglodmfeaaW.PrintLast Go.Proofs.YtnckonglodmfeaaW.PrintMore B R S Is
end Go.Proofs.Ytnckonglodmfeaa.Ik
namespace Go.Proofs.Ytnckonglodmfeaa.Ik
open Ls Lc Go.RowKit Go.Proofs.YtnckonglodmfeaaW.PrintWords Go.Proofs.YtnckonglodmfeaaW.PrintLast Go.Proofs.YtnckonglodmfeaaW.PrintMore B O R S Is Js Gs Gc
abbrev Spc := Int × Int × Int × List Int
abbrev kSpec : Kd Spc := Kd.pair kU8 (Kd.pair kU8 (Kd.pair kU8 (Kd.slice 5 kU8)))
def SpecOk (s : Spc) : Prop := (0 ≤ s.1 ∧ s.1 < 256) ∧ (0 ≤ s.2.1 ∧ s.2.1 < 256) ∧ (0 ≤ s.2.2.1 ∧ s.2.2.1 < 256) ∧ By s.2.2.2
theorem opens_u8s : Opens Try.prog 28 (Kd.slice 5 kU8) (fun l => (∀ v ∈ l, 0 ≤ v ∧ v < 256) ∧ l.length ≤ 9223372036854775807) := opens_slice Try.underlying28 (by kernel_rfl) (opens_mono (opens_int Try.underlying5) (fun _ h => wf_u8 h))
theorem opens_spec : Opens Try.prog 30 kSpec SpecOk :=
 opens_mono (opens_struct Try.underlying30 (by kernel_rfl) (opens_cons rfl (by kernel_rfl) (opens_int Try.underlying5) (opens_cons rfl (by kernel_rfl) (opens_int Try.underlying5) (opens_cons rfl (by kernel_rfl) (opens_int Try.underlying5) (opens_last rfl (by kernel_rfl) opens_u8s))))) (fun s h => ⟨wf_u8 h.1, wf_u8 h.2.1, wf_u8 h.2.2.1, h.2.2.2.1⟩)
theorem spec_K {w : World} {p v n : Int} {l : List Int} {cs : List Value} (h : kSpec.K w (p, v, n, l) cs) : ∃ (A : Option Addr) (c : Nat), cs = [.int .u8 p, .int .u8 v, .int .u8 n, .slice A l.length c] ∧ l.length ≤ c ∧ kU8.C w A l.length l := by
 obtain ⟨c0, c1, rfl, h0, c2, c3, rfl, h1, c4, c5, rfl, h2, A, c, hA, h3, h4⟩ := h
 have e0 : c0 = [.int .u8 p] := h0
 have e1 : c2 = [.int .u8 v] := h1
 have e2 : c4 = [.int .u8 n] := h2
 subst e0 e1 e2 hA
 exact ⟨A, c, rfl, h3, h4⟩
end Go.Proofs.Ytnckonglodmfeaa.Ik
namespace Go.Proofs.Ytnckonglodmfeaa.Ik
open B Ls Is
def vregE (e : Int) : Int := if e = 21 then 23 else e
theorem vreg_end (k a t e r m : Int) : vregE (endErr r m 21 (k, a, t, e)) = endErr r m 23 (k, a, t, e) := by
 unfold vregE endErr
 simp only
 repeat' split
 all_goals first | rfl | omega
theorem func_one {r : Int} (hr : 0 ≤ r ∧ r ≤ 32) (i : Ins) : funcErr (0, r, [([i], 1, 0, 0, 0)]) = insErr r (-1) i := by
 have he : endErr r ((1 : Nat) : Int) 21 (1, 0, 0, 0) = 0 := by simp [endErr]
 have h0 : funcErr (0, r, [([i], 1, 0, 0, 0)]) = blocksErr r (-1) 32 [([i], 1, 0, 0, 0)] := if_neg (by simp; omega)
 have h1 : blkErr r (-1) 32 1 ([i], 1, 0, 0, 0) = firstN [insErr r (-1) i, endErr r ((1 : Nat) : Int) 21 (1, 0, 0, 0)] := if_neg (by simp)
 rw [h0]
 show firstN [blkErr r (-1) 32 1 ([i], 1, 0, 0, 0)] = _
 rw [h1, he]
 simp only [firstN]
 by_cases h : insErr r (-1) i = 0
 · simp [h]
 · simp [h]
theorem vreg_ins {r t : Int} (ht : 0 ≤ t) (k op d a b n : Int) (args : List Int) (h7 : k ≠ 7) (h8 : k ≠ 8) : vregE (insErr r (-1) (k, op, d, a, b, n, args)) = insErr r t (k, op, d, a, b, n, args) := by
 unfold insErr vregE
 simp only [show (-1 : Int) < 0 from by decide, if_true, show ¬ t < 0 from by omega, if_false]
 have e1 : (k < 1 ∨ (6 : Int) < k ∨ plainB (k, op, d, a, b, n, args) = false ∨ (k = 3 ∧ (op < 1 ∨ 7 < op))) ↔ (k < 1 ∨ (8 : Int) < k ∨ plainB (k, op, d, a, b, n, args) = false ∨ (k = 3 ∧ (op < 1 ∨ 7 < op))) := by
  constructor
  · rintro (h | h | h | h)
    · exact .inl h
    · exact .inr (.inl (by omega))
    · exact .inr (.inr (.inl h))
    · exact .inr (.inr (.inr h))
  · rintro (h | h | h | h)
    · exact .inl h
    · exact .inr (.inl (by omega))
    · exact .inr (.inr (.inl h))
    · exact .inr (.inr (.inr h))
 have e2 : ¬ ((k = 7 ∧ (d < 0 ∨ t ≤ d)) ∨ (k = 8 ∧ (a < 0 ∨ t ≤ a))) := by omega
 have e3 : ¬ ((k = 7 ∧ (d < 0 ∨ (-1 : Int) ≤ d)) ∨ (k = 8 ∧ (a < 0 ∨ (-1 : Int) ≤ a))) := by omega
 simp only [e2, e3, if_false]
 by_cases h1 : k < 1 ∨ (6 : Int) < k ∨ plainB (k, op, d, a, b, n, args) = false ∨ (k = 3 ∧ (op < 1 ∨ 7 < op))
 · rw [if_pos h1, if_pos (e1.1 h1)]; rfl
 · rw [if_neg h1, if_neg (fun h => h1 (e1.2 h))]
   by_cases h2 : 3 < args.length
   · rw [if_pos h2, if_pos h2]; rfl
   · rw [if_neg h2, if_neg h2]
     by_cases h3 : (allL (k, op, d, a, b, n, args)).any (outB r) = true
     · rw [if_pos h3, if_pos h3]; rfl
     · rw [if_neg h3, if_neg h3]; rfl
theorem ins_7 (r t op d a b n : Int) (ht : 0 ≤ t) (args : List Int) : insErr r t (7, op, d, a, b, n, args) = if op ≠ 0 ∨ b ≠ 0 ∨ n ≠ 0 ∨ 0 < args.length then 20 else if a < 0 ∨ r ≤ a then 23 else if d < 0 ∨ t ≤ d then 24 else 0 := by
 unfold insErr
 simp only [show ¬ t < 0 from by omega, if_false]
 by_cases h : op ≠ 0 ∨ b ≠ 0 ∨ n ≠ 0 ∨ 0 < args.length
 · rw [if_pos h, if_pos]
   refine .inr (.inr (.inl ?_))
   unfold plainB
   rw [decide_eq_false_iff_not]
   rintro ⟨g1, -, -, g4, g5, g6⟩
   have g1 : op = 0 := by omega
   have g4 : b = 0 := by omega
   have g5 : n = 0 := by omega
   have g6 : args.length = 0 := by omega
   omega
 · have hp : plainB (7, op, d, a, b, n, args) = true := by
    have g1 : op = 0 := by omega
    have g4 : b = 0 := by omega
    have g5 : n = 0 := by omega
    have g6 : args.length = 0 := by omega
    simp [plainB, g1, g4, g5, g6]
   rw [if_neg h, if_neg (by rw [hp]; simp), if_neg (by omega)]
   have ha : (allL (7, op, d, a, b, n, args)).any (outB r) = decide (a < 0 ∨ r ≤ a) := by simp [allL, usesL, givesB, outB]
   rw [ha]
   by_cases h2 : a < 0 ∨ r ≤ a
   · simp [h2]
   · simp [h2]
theorem ins_8 (r t op d a b n : Int) (ht : 0 ≤ t) (args : List Int) : insErr r t (8, op, d, a, b, n, args) = if op ≠ 0 ∨ b ≠ 0 ∨ n ≠ 0 ∨ 0 < args.length then 20 else if d < 0 ∨ r ≤ d then 23 else if a < 0 ∨ t ≤ a then 24 else 0 := by
 unfold insErr
 simp only [show ¬ t < 0 from by omega, if_false]
 by_cases h : op ≠ 0 ∨ b ≠ 0 ∨ n ≠ 0 ∨ 0 < args.length
 · rw [if_pos h, if_pos]
   refine .inr (.inr (.inl ?_))
   unfold plainB
   rw [decide_eq_false_iff_not]
   rintro ⟨g1, -, -, g4, g5, g6⟩
   have g1 : op = 0 := by omega
   have g4 : b = 0 := by omega
   have g5 : n = 0 := by omega
   have g6 : args.length = 0 := by omega
   omega
 · have hp : plainB (8, op, d, a, b, n, args) = true := by
    have g1 : op = 0 := by omega
    have g4 : b = 0 := by omega
    have g5 : n = 0 := by omega
    have g6 : args.length = 0 := by omega
    simp [plainB, g1, g4, g5, g6]
   rw [if_neg h, if_neg (by rw [hp]; simp), if_neg (by omega)]
   have ha : (allL (8, op, d, a, b, n, args)).any (outB r) = decide (d < 0 ∨ r ≤ d) := by simp [allL, usesL, givesB, outB]
   rw [ha]
   by_cases h2 : d < 0 ∨ r ≤ d
   · simp [h2]
   · simp [h2]
end Go.Proofs.Ytnckonglodmfeaa.Ik
namespace Go.Proofs.Ytnckonglodmfeaa.Ik
open Go.RowKit Go.Proofs.YtnckonglodmfeaaW.PrintWords Go.Proofs.YtnckonglodmfeaaW.PrintLast Go.Proofs.YtnckonglodmfeaaW.PrintMore B R S Is
theorem vregs_calls (e : Int) (w : World) : Calls Try.prog 131 #[.int .i64 e] w fun r w' => r = .returned (.int .i64 (vregE e)) ∧ w = w' := by
 by_cases h : e = 21
 · subst h
   go_enter Try.func131, Try.ntmps131
   go_wp2
   go_ret
   exact ⟨rfl, rfl⟩
 · have hb : (e == 21) = false := beq_eq_false_iff_ne.mpr h
   have HE := aM (show vregE e = e from if_neg h)
   rw [HE.out]
   clear h
   go_enter Try.func131, Try.ntmps131
   go_wp2
   go_ret
   exact ⟨rfl, rfl⟩
theorem lit_ins (w : World) (e : Nat) (k op d a b n : Int) (args : List Int) (A : Option Addr) (c : Nat) (hC : kI.C w A args.length args) (hc : args.length ≤ c) :
 kIns.C (w.alloc (.cells #[.int .u8 k, .int .u8 op, .int .i64 d, .int .i64 a, .int .i64 b, .int .i64 n, .slice A args.length c] e)) (some ⟨w.heap.size, 0, none⟩) 1 [(k, op, d, a, b, n, args)] := by
 refine ⟨rfl, by decide, fun _ => ⟨_, rfl, fun j p hj => ?_⟩⟩
 obtain ⟨rfl, rfl⟩ : j = 0 ∧ p = (k, op, d, a, b, n, args) := by
  rcases j with _ | j
  · exact ⟨rfl, by simpa using hj.symm⟩
  · simp at hj
 refine ⟨[.int .u8 k, .int .u8 op, .int .i64 d, .int .i64 a, .int .i64 b, .int .i64 n, .slice A args.length c], rfl, ⟨[.int .u8 k], _, rfl, rfl, [.int .u8 op], _, rfl, rfl, [.int .i64 d], _, rfl, rfl, [.int .i64 a], _, rfl, rfl, [.int .i64 b], _, rfl, rfl, [.int .i64 n], _, rfl, rfl, A, c, rfl, hc, Kd.C_alloc hC _⟩, fun i u hu => ?_⟩
 have hadd : (⟨w.heap.size, 0, none⟩ : Addr).add (0 * kIns.sz + i) = ⟨w.heap.size, i, none⟩ := by unfold Addr.add; split <;> simp_all
 rw [hadd]
 exact cell_at (heap_alloc_new _ _) i u (by simpa using hu)
theorem lit_blk (w : World) (e : Nat) (l : List Ins) (k a t ee : Int) (A : Option Addr) (c : Nat) (hC : kIns.C w A l.length l) (hc : l.length ≤ c) :
 kBlk.C (w.alloc (.cells #[.slice A l.length c, .int .u8 k, .int .i64 a, .int .i64 t, .int .i64 ee] e)) (some ⟨w.heap.size, 0, none⟩) 1 [(l, k, a, t, ee)] := by
 refine ⟨rfl, by decide, fun _ => ⟨_, rfl, fun j p hj => ?_⟩⟩
 obtain ⟨rfl, rfl⟩ : j = 0 ∧ p = (l, k, a, t, ee) := by
  rcases j with _ | j
  · exact ⟨rfl, by simpa using hj.symm⟩
  · simp at hj
 refine ⟨[.slice A l.length c, .int .u8 k, .int .i64 a, .int .i64 t, .int .i64 ee], rfl, ⟨[.slice A l.length c], _, rfl, ⟨A, c, rfl, hc, Kd.C_alloc hC _⟩, [.int .u8 k], _, rfl, rfl, [.int .i64 a], _, rfl, rfl, [.int .i64 t], _, rfl, rfl, rfl⟩, fun i u hu => ?_⟩
 have hadd : (⟨w.heap.size, 0, none⟩ : Addr).add (0 * kBlk.sz + i) = ⟨w.heap.size, i, none⟩ := by unfold Addr.add; split <;> simp_all
 rw [hadd]
 exact cell_at (heap_alloc_new _ _) i u (by simpa using hu)
theorem below_drewN {B : Nat} {a w : World} (h : Below B a w) (n : Nat) : Below B a (w.drewN n) := ⟨h.os, h.tape, h.output, h.size, h.block⟩
set_option maxHeartbeats 4000000 in
set_option maxRecDepth 100000 in
theorem mof_calls (k op d a b n p r t : Int) (args : List Int) (A B : Option Addr) (c nb cb : Nat) (w : World) (hC : kI.C w A args.length args) (hc : args.length ≤ c) (hr : 0 ≤ r ∧ r ≤ 32) (ht : 0 ≤ t) :
 Calls Try.prog 130 #[.agg #[.int .u8 k, .int .u8 op, .int .i64 d, .int .i64 a, .int .i64 b, .int .i64 n, .slice A args.length c], .agg #[.int .i64 p, .int .i64 r, .int .i64 t, .slice B nb cb]] w fun x w' => x = .returned (.int .i64 (insErr r t (k, op, d, a, b, n, args))) ∧ Below w.heap.size w w' := by
 have mixed : Try.prog.follows .mixedOrders = true := by kernel_rfl
 have hl := hC.2.1
 have HC := aM hC
 have hs1 : (w.alloc (.cells #[.int .u8 k, .int .u8 op, .int .i64 d, .int .i64 a, .int .i64 b, .int .i64 n, .slice A args.length c] 92)).heap.size = w.heap.size + 1 := World.size_alloc _ _
 have HW := aM (show Below w.heap.size w ((w.alloc (.cells #[.int .u8 k, .int .u8 op, .int .i64 d, .int .i64 a, .int .i64 b, .int .i64 n, .slice A args.length c] 92)).alloc (.cells #[.int .i64 p, .int .i64 r, .int .i64 t, .slice B nb cb] 54)) from ((Below.refl _ _).alloc (Nat.le_refl _) _).alloc (by rw [hs1]; omega) _)
 have HE : ∀ x y : Int, x = y → Ending.returned (Value.int .i64 x) = .returned (.int .i64 y) := fun x y h => by rw [h]
 clear hC hs1
 by_cases h78 : k = 7 ∨ k = 8
 · by_cases hbad : op ≠ 0 ∨ b ≠ 0 ∨ n ≠ 0 ∨ 0 < args.length
   · have h20 : insErr r t (k, op, d, a, b, n, args) = 20 := by
      rcases h78 with rfl | rfl
      · rw [ins_7 r t op d a b n ht args, if_pos hbad]
      · rw [ins_8 r t op d a b n ht args, if_pos hbad]
     rw [h20]
     clear h20
     have hb : ((op == 0) = false ∧ (op != 0) = true) ∨ (op = 0 ∧ (b == 0) = false ∧ (b != 0) = true) ∨ (op = 0 ∧ b = 0 ∧ (n == 0) = false ∧ (n != 0) = true) ∨ (op = 0 ∧ b = 0 ∧ n = 0 ∧ 0 < args.length) := by
      simp only [beq_eq_false_iff_ne, bne_iff_ne, ne_eq]
      omega
     clear hbad
     rcases h78 with rfl | rfl <;> rcases hb with ⟨b1, b2⟩ | ⟨rfl, b1, b2⟩ | ⟨rfl, rfl, b1, b2⟩ | ⟨rfl, rfl, rfl, b1⟩
     all_goals
      go_enter Try.func130, Try.ntmps130
      go_upto_region 2 with fail
      go_quiet (fail)
      try (go_upto_region 4 with fail; go_quiet (fail))
      go_wp2
      go_ret
      (first | exact ⟨rfl, HW.out⟩ | exact ⟨rfl, below_drewN HW.out _⟩ | exact ⟨rfl, below_drewN (below_drewN HW.out _) _⟩)
   · have h1 : op = 0 := by omega
     have h2 : b = 0 := by omega
     have h3 : n = 0 := by omega
     have h4 : args.length = 0 := by omega
     obtain rfl : args = [] := List.eq_nil_of_length_eq_zero h4
     subst h1 h2 h3
     clear h4 hbad
     have go : ∀ R S : Int, (R < 0) ∨ (¬ R < 0 ∧ r ≤ R) ∨ (¬ R < 0 ∧ ¬ r ≤ R ∧ S < 0) ∨ (¬ R < 0 ∧ ¬ r ≤ R ∧ ¬ S < 0 ∧ t ≤ S) ∨ (¬ R < 0 ∧ ¬ r ≤ R ∧ ¬ S < 0 ∧ ¬ t ≤ S) := fun R S => by omega
     rcases h78 with rfl | rfl
     · rw [ins_7 r t 0 d a 0 0 ht []]
       rcases go a d with g1 | ⟨g1, g2⟩ | ⟨g1, g2, g3⟩ | ⟨g1, g2, g3, g4⟩ | ⟨g1, g2, g3, g4⟩
       all_goals
        go_enter Try.func130, Try.ntmps130
        go_upto_region 2 with fail
        go_quiet (fail)
        go_wp2
        go_ret
        refine ⟨HE _ _ ?_, by first | exact HW.out | exact below_drewN HW.out _ | exact below_drewN (below_drewN HW.out _) _⟩
        simp [*]
     · rw [ins_8 r t 0 d a 0 0 ht []]
       rcases go d a with g1 | ⟨g1, g2⟩ | ⟨g1, g2, g3⟩ | ⟨g1, g2, g3, g4⟩ | ⟨g1, g2, g3, g4⟩
       all_goals
        go_enter Try.func130, Try.ntmps130
        go_upto_region 2 with fail
        go_quiet (fail)
        go_upto_region 4 with fail
        go_quiet (fail)
        go_wp2
        go_ret
        refine ⟨HE _ _ ?_, by first | exact HW.out | exact below_drewN HW.out _ | exact below_drewN (below_drewN HW.out _) _⟩
        simp [*]
 · have h7 : (k == 7) = false := beq_eq_false_iff_ne.mpr (by omega)
   have h8 : (k == 8) = false := beq_eq_false_iff_ne.mpr (by omega)
   have HV := aM (vreg_ins ht k op d a b n args (by omega) (by omega) (r := r))
   have HF := aM (func_one hr (k, op, d, a, b, n, args))
   have z1 : (w.alloc (.cells #[.int .u8 k, .int .u8 op, .int .i64 d, .int .i64 a, .int .i64 b, .int .i64 n, .slice A args.length c] 92)).heap.size = w.heap.size + 1 := World.size_alloc _ _
   have z2 : ((w.alloc (.cells #[.int .u8 k, .int .u8 op, .int .i64 d, .int .i64 a, .int .i64 b, .int .i64 n, .slice A args.length c] 92)).alloc (.cells #[.int .i64 p, .int .i64 r, .int .i64 t, .slice B nb cb] 54)).heap.size = w.heap.size + 1 + 1 := by rw [World.size_alloc, z1]
   have z3 : (((w.alloc (.cells #[.int .u8 k, .int .u8 op, .int .i64 d, .int .i64 a, .int .i64 b, .int .i64 n, .slice A args.length c] 92)).alloc (.cells #[.int .i64 p, .int .i64 r, .int .i64 t, .slice B nb cb] 54)).alloc (.cells #[.int .u8 k, .int .u8 op, .int .i64 d, .int .i64 a, .int .i64 b, .int .i64 n, .slice A args.length c] 92)).heap.size = w.heap.size + 1 + 1 + 1 := by rw [World.size_alloc, z2]
   have hk1 : kIns.C (((w.alloc (.cells #[.int .u8 k, .int .u8 op, .int .i64 d, .int .i64 a, .int .i64 b, .int .i64 n, .slice A args.length c] 92)).alloc (.cells #[.int .i64 p, .int .i64 r, .int .i64 t, .slice B nb cb] 54)).alloc (.cells #[.int .u8 k, .int .u8 op, .int .i64 d, .int .i64 a, .int .i64 b, .int .i64 n, .slice A args.length c] 92)) (some ⟨w.heap.size + 1 + 1, 0, none⟩) 1 [(k, op, d, a, b, n, args)] := by
    rw [← z2]
    exact lit_ins _ _ k op d a b n args A c (Kd.C_alloc (Kd.C_alloc HC.out _) _) hc
   have HK := aM (show kBlk.C ((((w.alloc (.cells #[.int .u8 k, .int .u8 op, .int .i64 d, .int .i64 a, .int .i64 b, .int .i64 n, .slice A args.length c] 92)).alloc (.cells #[.int .i64 p, .int .i64 r, .int .i64 t, .slice B nb cb] 54)).alloc (.cells #[.int .u8 k, .int .u8 op, .int .i64 d, .int .i64 a, .int .i64 b, .int .i64 n, .slice A args.length c] 92)).alloc (.cells #[.slice (some ⟨w.heap.size + 1 + 1, 0, none⟩) 1 1, .int .u8 1, .int .i64 0, .int .i64 0, .int .i64 0] 84)) (some ⟨w.heap.size + 1 + 1 + 1, 0, none⟩) 1 [([(k, op, d, a, b, n, args)], 1, 0, 0, 0)] from by
    have h := lit_blk (((w.alloc (.cells #[.int .u8 k, .int .u8 op, .int .i64 d, .int .i64 a, .int .i64 b, .int .i64 n, .slice A args.length c] 92)).alloc (.cells #[.int .i64 p, .int .i64 r, .int .i64 t, .slice B nb cb] 54)).alloc (.cells #[.int .u8 k, .int .u8 op, .int .i64 d, .int .i64 a, .int .i64 b, .int .i64 n, .slice A args.length c] 92)) 84 [(k, op, d, a, b, n, args)] 1 0 0 0 (some ⟨w.heap.size + 1 + 1, 0, none⟩) 1 hk1 (by simp)
    rw [z3] at h
    exact h)
   have HW5 := aM (show Below w.heap.size w ((((w.alloc (.cells #[.int .u8 k, .int .u8 op, .int .i64 d, .int .i64 a, .int .i64 b, .int .i64 n, .slice A args.length c] 92)).alloc (.cells #[.int .i64 p, .int .i64 r, .int .i64 t, .slice B nb cb] 54)).alloc (.cells #[.int .u8 k, .int .u8 op, .int .i64 d, .int .i64 a, .int .i64 b, .int .i64 n, .slice A args.length c] 92)).alloc (.cells #[.slice (some ⟨w.heap.size + 1 + 1, 0, none⟩) 1 1, .int .u8 1, .int .i64 0, .int .i64 0, .int .i64 0] 84)) from (HW.out.alloc HW.out.size _).alloc (HW.out.alloc HW.out.size _).size _)
   clear h78 z1 z2 z3 hk1
   go_enter Try.func130, Try.ntmps130
   go_wp2_with (first
    | (go_at_call 85; refine (check_calls 0 r [([(k, op, d, a, b, n, args)], 1, 0, 0, 0)] (some ⟨w.heap.size + 1 + 1 + 1, 0, none⟩) 1 _ HK.out (by simp)).mono ?_; rintro _ w1 ⟨⟨x9, y9, rfl⟩, hb⟩; rw [HF.out]; have HB := aM (HW5.out.trans (hb.mono HW5.out.size)); clear hb)
    | (go_at_call 131; refine (vregs_calls _ _).mono ?_; rintro _ _ ⟨rfl, rfl⟩; rw [HV.out]))
   go_ret
   exact ⟨rfl, HB.out.alloc HB.out.size _⟩
end Go.Proofs.Ytnckonglodmfeaa.Ik
namespace Go.Proofs.Ytnckonglodmfeaa.Ik
open Go.RowKit Go.Proofs.YtnckonglodmfeaaW.PrintWords Go.Proofs.YtnckonglodmfeaaW.PrintLast Go.Proofs.YtnckonglodmfeaaW.PrintMore B R S Is
set_option maxHeartbeats 4000000 in
set_option maxRecDepth 100000 in
theorem mcheck_calls (p v sl : Int) (l : List Blk) (A : Option Addr) (c : Nat) (w : World) (hC : kBlk.C w A l.length l) (hll : l.length ≤ 100000) :
 Calls Try.prog 98 #[.agg #[.int .i64 p, .int .i64 v, .int .i64 sl, .slice A l.length c]] w fun r w' => FaultIs (codeErr (p, v, sl, l)) r ∧ Below w.heap.size w w' := by
 have mixed : Try.prog.follows .mixedOrders = true := by kernel_rfl
 by_cases hb : p < 0 ∨ 4 < p ∨ v < 3 ∨ 8 < v ∨ sl < p ∨ 64 < sl ∨ l.length < 1 ∨ 16 < l.length
 · rw [show codeErr (p, v, sl, l) = 2 from if_pos hb]
   have hb : p < 0 ∨ (¬ p < 0 ∧ 4 < p) ∨ (¬ p < 0 ∧ ¬ 4 < p ∧ v < 3) ∨ (¬ p < 0 ∧ ¬ 4 < p ∧ ¬ v < 3 ∧ 8 < v) ∨ (¬ p < 0 ∧ ¬ 4 < p ∧ ¬ v < 3 ∧ ¬ 8 < v ∧ sl < p) ∨ (¬ p < 0 ∧ ¬ 4 < p ∧ ¬ v < 3 ∧ ¬ 8 < v ∧ ¬ sl < p ∧ 64 < sl) ∨ (¬ p < 0 ∧ ¬ 4 < p ∧ ¬ v < 3 ∧ ¬ 8 < v ∧ ¬ sl < p ∧ ¬ 64 < sl ∧ (l.length : Int) < 1) ∨ (¬ p < 0 ∧ ¬ 4 < p ∧ ¬ v < 3 ∧ ¬ 8 < v ∧ ¬ sl < p ∧ ¬ 64 < sl ∧ ¬ (l.length : Int) < 1 ∧ 16 < (l.length : Int)) := by omega
   clear hC
   rcases hb with h1 | ⟨h1, h2⟩ | ⟨h1, h2, h3⟩ | ⟨h1, h2, h3, h4⟩ | ⟨h1, h2, h3, h4, h5⟩ | ⟨h1, h2, h3, h4, h5, h6⟩ | ⟨h1, h2, h3, h4, h5, h6, h7⟩ | ⟨h1, h2, h3, h4, h5, h6, h7, h8⟩
   all_goals
    go_enter Try.func98, Try.ntmps98
    go_wp2
    go_returns
    exact ⟨⟨_, _, rfl⟩, ((Below.refl _ _).alloc (Nat.le_refl _) _).alloc (by rw [World.size_alloc]; omega) _⟩
 · obtain ⟨FE, hFE⟩ : ∃ FE, codeErr (p, v, sl, l) = FE := ⟨_, rfl⟩
   rw [hFE]
   have HFE := aM (show firstN (l.map (blkErr v sl 400 l.length)) = FE from (if_neg hb).symm.trans hFE)
   have HC := aM hC
   have h1 : ¬ p < 0 := by omega
   have h2 : ¬ 4 < p := by omega
   have h3 : ¬ v < 3 := by omega
   have h4 : ¬ 8 < v := by omega
   have h5 : ¬ sl < p := by omega
   have h6 : ¬ 64 < sl := by omega
   have h7 : ¬ (l.length : Int) < 1 := by omega
   have h8 : ¬ 16 < (l.length : Int) := by omega
   clear hFE hb hC
   obtain ⟨W0, hW0⟩ : ∃ W0, W0 = (w.alloc (.cells #[.int .i64 p, .int .i64 v, .int .i64 sl, .slice A l.length c] 54)).alloc (.cells #[.int .i64 0, .int .i64 0, .int .i64 0] 75) := ⟨_, rfl⟩
   have HX := aM (show ∀ W', Below (w.heap.size + 2) W0 W' → W'.cell? ⟨w.heap.size, 0, none⟩ = some (.int .i64 p) ∧ W'.cell? ⟨w.heap.size, 1, none⟩ = some (.int .i64 v) ∧ W'.cell? ⟨w.heap.size, 2, none⟩ = some (.int .i64 sl) ∧ W'.cell? ⟨w.heap.size, 3, none⟩ = some (.slice A l.length c) ∧ W'.cell? ⟨w.heap.size + 1, 0, none⟩ = some (.int .i64 0) ∧ W'.cell? ⟨w.heap.size + 1, 1, none⟩ = some (.int .i64 0) ∧ W'.cell? ⟨w.heap.size + 1, 2, none⟩ = some (.int .i64 0) ∧ W'.frozen? ⟨w.heap.size + 1, 0, none⟩ = false ∧ W'.frozen? ⟨w.heap.size + 1, 1, none⟩ = false ∧ W'.frozen? ⟨w.heap.size + 1, 2, none⟩ = false from fun W' h => by
    subst hW0
    obtain ⟨g, g'⟩ := two_cells h
    exact ⟨cell_at g 0 _ rfl, cell_at g 1 _ rfl, cell_at g 2 _ rfl, cell_at g 3 _ rfl, cell_at g' 0 _ rfl, cell_at g' 1 _ rfl, cell_at g' 2 _ rfl, blk_frozen g' 0, blk_frozen g' 1, blk_frozen g' 2⟩)
   have HA := aM (show Below w.heap.size w W0 by rw [hW0]; exact ((Below.refl _ _).alloc (Nat.le_refl _) _).alloc (by rw [World.size_alloc]; omega) _)
   have HSZ := aM (show W0.heap.size = w.heap.size + 2 by rw [hW0, World.size_alloc, World.size_alloc])
   go_enter Try.func98, Try.ntmps98
   go_wp2_with fail
   rw [← hW0]
   clear hW0
   go_loopw [55] (fun vi wr => ∃ j : Nat, j ≤ l.length ∧ vi = .int .i64 j ∧ Aside0 (firstN ((l.map (blkErr v sl 400 l.length)).take j) = 0) ∧ Aside0 (Below (w.heap.size + 2) W0 wr)) (fun vi _ => l.length - (intOf vi).toNat)
   case atStart => exact ⟨0, by omega, rfl, ⟨rfl⟩, ⟨Below.refl _ _⟩⟩
   case round =>
    obtain ⟨wo, hwo⟩ : ∃ wo, wo = wr := ⟨_, rfl⟩
    subst hwo
    obtain ⟨j, hj, rfl, HN, HZ⟩ := hrel
    obtain ⟨f0, f1, f2, f3, -⟩ := HX.out wo HZ.out
    by_cases hjl : j < l.length
    · obtain ⟨⟨is, k, a, t, e⟩, hx⟩ : ∃ x, l[j]? = some x := ⟨_, List.getElem?_eq_getElem hjl⟩
      obtain ⟨ad, A1, n1, rfl, b0, b1, b2, b3, b4, hn1, hC1⟩ := blk_cells (Kd.C_below HC.out (HA.out.trans (HZ.out.mono (by omega)))) hx
      have HC1 := aM hC1
      have HIL := aM hC1.2.1
      have HMX := aM (show (l.map (blkErr v sl 400 l.length))[j]? = some (blkErr v sl 400 l.length (is, k, a, t, e)) by rw [List.getElem?_map, hx]; rfl)
      clear hx hC1
      obtain ⟨WA, hWA⟩ : ∃ WA, WA = wo.alloc (.cells #[.slice A1 is.length n1, .int .u8 k, .int .i64 a, .int .i64 t, .int .i64 e] 84) := ⟨_, rfl⟩
      have HBA := aM (show Below wo.heap.size wo WA by rw [hWA]; exact (Below.refl _ _).alloc (Nat.le_refl _) _)
      have HZA := aM (HZ.out.trans (HBA.out.mono (by have := HZ.out.size; have := HSZ.out; omega)))
      have HBX := aM (show ∀ W', Below (wo.heap.size + 1) WA W' → W'.cell? ⟨wo.heap.size, 0, none⟩ = some (.slice A1 is.length n1) ∧ W'.cell? ⟨wo.heap.size, 1, none⟩ = some (.int .u8 k) ∧ W'.cell? ⟨wo.heap.size, 2, none⟩ = some (.int .i64 a) ∧ W'.cell? ⟨wo.heap.size, 3, none⟩ = some (.int .i64 t) ∧ W'.cell? ⟨wo.heap.size, 4, none⟩ = some (.int .i64 e) from fun W' h => by
       subst hWA
       have g := below_cells (h.mono (by rw [World.size_alloc]; omega))
       exact ⟨cell_at g 0 _ rfl, cell_at g 1 _ rfl, cell_at g 2 _ rfl, cell_at g 3 _ rfl, cell_at g 4 _ rfl⟩)
      have HSA := aM (show WA.heap.size = wo.heap.size + 1 by rw [hWA, World.size_alloc])
      go_upto_region 6 with fail
      rw [← hWA]
      clear hWA b0 b1 b2 b3 b4 f0 f1 f2 f3
      obtain ⟨b0, b1, b2, b3, b4⟩ := HBX.out WA (Below.refl _ _)
      obtain ⟨f0, f1, f2, f3, r0, r1, r2, r3, r4, r5⟩ := HX.out WA HZA.out
      by_cases hmany : 400 < is.length
      · have HE := aM (show FE = 9 by rw [← HFE.out]; exact (firstN_hit HN.out HMX.out (by simp [blkErr, hmany])).trans (by simp [blkErr, hmany]))
        go_wp2
        (have q := fault_set r0 r1 r2; have q0 := fun x y z => (q x y z).1; have q1 := fun x y z => (q x y z).2.1; have q2 := fun x y z => (q x y z).2.2; clear q; (try simp only [Exit.inBlock, Exit.then]); refine bodyPost_ret (by simp [results, Try.results98, go_sem, q0, q1, q2]; try rfl) rfl ?_)
        exact ⟨⟨_, _, by rw [HE.out]⟩, below_set (HA.out.trans (HZA.out.mono (by omega))) (by omega) _ _ _⟩
      · obtain ⟨En, hEn⟩ : ∃ En, endErr v l.length 23 (k, a, t, e) = En := ⟨_, rfl⟩
        obtain ⟨M, hM⟩ : ∃ M, is.map (insErr v sl) ++ [En] = M := ⟨_, rfl⟩
        have HEN := aM hEn
        have HME := aM (show blkErr v sl 400 l.length (is, k, a, t, e) = firstN M by rw [← hM, ← hEn]; exact (if_neg hmany).trans (by rw [if_neg (show ¬ sl < 0 by omega)]))
        have HML := aM (show M[is.length]? = some En by rw [← hM]; simp)
        have HMS := aM (show M.length = is.length + 1 by rw [← hM]; simp)
        have HMI := aM (show ∀ (i : Nat) (q : Ins), is[i]? = some q → M[i]? = some (insErr v sl q) from fun i q h => by
         have hi := (List.getElem?_eq_some_iff.1 h).1
         rw [← hM, List.getElem?_append_left (by simpa using hi), List.getElem?_map, h]; rfl)
        have HHIT := aM (show ∀ (i : Nat) (y : Int), firstN (M.take i) = 0 → M[i]? = some y → y ≠ 0 → FE = y from fun i y h1 h2 h3 => by
         have h4 := firstN_hit h1 h2 h3
         rw [← HFE.out, firstN_hit HN.out HMX.out (by rw [HME.out, h4]; exact h3), HME.out, h4])
        clear hEn hM r0 r1 r2 r3 r4 r5
        go_wp2_with fail
        go_loopw [69] (fun vi wi => ∃ i : Nat, i ≤ is.length ∧ vi = .int .i64 i ∧ Aside0 (firstN (M.take i) = 0) ∧ Aside0 (Below (wo.heap.size + 1) WA wi)) (fun vi _ => is.length - (intOf vi).toNat)
        case atStart => exact ⟨0, by omega, rfl, ⟨rfl⟩, ⟨Below.refl _ _⟩⟩
        case round =>
         clear b0 b1 b2 b3 b4 f0 f1 f2 f3
         obtain ⟨wi, hwi⟩ : ∃ wi, wi = wr := ⟨_, rfl⟩
         subst hwi
         obtain ⟨i, hi, rfl, HNi, HBi⟩ := hrel
         have HZi := aM (HZA.out.trans (HBi.out.mono (by have := HZ.out.size; have := HSZ.out; omega)))
         obtain ⟨b0, b1, b2, b3, b4⟩ := HBX.out wi HBi.out
         obtain ⟨f0, f1, f2, f3, -⟩ := HX.out wi HZi.out
         by_cases hil : i < is.length
         · obtain ⟨⟨k1, op, d, a1, bb, nn, args⟩, hq⟩ : ∃ q, is[i]? = some q := ⟨_, List.getElem?_eq_getElem hil⟩
           obtain ⟨ad2, A2, n2, rfl, i0, i1, i2, i3, i4, i5, i6, hn2, hC2⟩ := ins_cells (Kd.C_below HC1.out (HBA.out.trans (HBi.out.mono (by omega)))) hq
           have HMQ := aM (HMI.out i _ hq)
           obtain ⟨WB, hWB⟩ : ∃ WB, WB = wi.alloc (.cells #[.int .u8 k1, .int .u8 op, .int .i64 d, .int .i64 a1, .int .i64 bb, .int .i64 nn, .slice A2 args.length n2] 92) := ⟨_, rfl⟩
           have HBW := aM (show Below wi.heap.size wi WB by rw [hWB]; exact (Below.refl _ _).alloc (Nat.le_refl _) _)
           have HI := aM (Kd.C_below hC2 HBW.out)
           have HB1 := aM (HBi.out.trans (HBW.out.mono (by have := HBi.out.size; have := HSA.out; omega)))
           have HZ1 := aM (HZi.out.trans (HBW.out.mono (by have := HZi.out.size; have := HSZ.out; omega)))
           have hbox := box_cells (w := wi) (W' := WB) (k := k1) (op := op) (d := d) (a := a1) (b := bb) (n := nn) (s := .slice A2 args.length n2) (e := 92) (by rw [hWB]; exact Below.refl _ _)
           have HBOX := aM hbox
           clear hbox hq hC2
           go_upto_region 11 with fail
           rw [← hWB]
           clear hWB i0 i1 i2 i3 i4 i5 i6 b0 b1 b2 b3 b4 f0 f1 f2 f3
           obtain ⟨c0, c1, c2, c3, c4, c5, c6⟩ := HBOX.out
           obtain ⟨f0, f1, f2, f3, -⟩ := HX.out WB HZ1.out
           obtain ⟨y, hy⟩ : ∃ y, insErr v sl (k1, op, d, a1, bb, nn, args) = y := ⟨_, rfl⟩
           have HQ := aM hy
           rw [hy] at HMQ
           clear hy
           by_cases hy0 : y = 0
           · subst hy0
             have HN2 := aM (firstN_take HNi.out HMQ.out)
             go_wp2_with (go_at_call 130; refine (mof_calls _ _ _ _ _ _ p v sl _ _ _ _ _ _ _ HI.out hn2 (by omega) (by omega)).mono ?_; rintro _ w2 ⟨rfl, hb⟩; rw [HQ.out]; have HB2 := aM (HB1.out.trans (hb.mono (by have := HB1.out.size; have := HSA.out; omega))); have HZ2 := aM (HZ1.out.trans (hb.mono (by have := HZ1.out.size; have := HSZ.out; omega))); clear c0 c1 c2 c3 c4 c5 c6 f0 f1 f2 f3; obtain ⟨-, -, -, -, r0, r1, r2, r3, r4, r5⟩ := HX.out w2 HZ2.out; clear hb)
             go_roundw
             case rel => exact ⟨i + 1, by omega, by go_num, HN2, HB2⟩
             case measure => simp [intOf]; omega
           · have HE := aM (HHIT.out i y HNi.out HMQ.out hy0)
             have hyb : (y == 0) = false := beq_eq_false_iff_ne.mpr hy0
             go_wp2_with (go_at_call 130; refine (mof_calls _ _ _ _ _ _ p v sl _ _ _ _ _ _ _ HI.out hn2 (by omega) (by omega)).mono ?_; rintro _ w2 ⟨rfl, hb⟩; rw [HQ.out]; have HB2 := aM (HB1.out.trans (hb.mono (by have := HB1.out.size; have := HSA.out; omega))); have HZ2 := aM (HZ1.out.trans (hb.mono (by have := HZ1.out.size; have := HSZ.out; omega))); clear c0 c1 c2 c3 c4 c5 c6 f0 f1 f2 f3; obtain ⟨-, -, -, -, r0, r1, r2, r3, r4, r5⟩ := HX.out w2 HZ2.out; clear hb)
             (have q := fault_set r0 r1 r2; have q0 := fun x y z => (q x y z).1; have q1 := fun x y z => (q x y z).2.1; have q2 := fun x y z => (q x y z).2.2; clear q; (try simp only [Exit.inBlock, Exit.then]); refine bodyPost_ret (by simp [results, Try.results98, go_sem, q0, q1, q2]; try rfl) rfl ?_)
             exact ⟨⟨_, _, by rw [HE.out]⟩, below_set (HA.out.trans (HZ2.out.mono (by omega))) (by omega) _ _ _⟩
         · obtain rfl : i = is.length := by omega
           have HQ := HEN
           by_cases hy0 : En = 0
           · subst hy0
             have HN2 := aM (show firstN M = 0 by rw [← List.take_of_length_le (l := M) (i := is.length + 1) (by rw [HMS.out]; exact Nat.le_refl _)]; exact firstN_take HNi.out HML.out)
             have HN3 := aM ((firstN_take HN.out HMX.out).trans (HME.out.trans HN2.out))
             go_wp2_with (first | (go_at_call 119; refine (ends_calls _ _ _ _ _ _ _).mono ?_; rintro _ w2 ⟨rfl, hb⟩; have HB2 := aM (HBi.out.trans (hb.mono (by have := HBi.out.size; have := HSA.out; omega))); have HZ2 := aM (HZi.out.trans (hb.mono (by have := HZi.out.size; have := HSZ.out; omega))); clear b0 b1 b2 b3 b4 f0 f1 f2 f3; obtain ⟨-, -, -, -, r0, r1, r2, r3, r4, r5⟩ := HX.out w2 HZ2.out; obtain ⟨b0, -⟩ := HBX.out w2 HB2.out; clear hb) | (go_at_call 131; refine (vregs_calls _ _).mono ?_; rintro _ _ ⟨rfl, rfl⟩; rw [vreg_end, HQ.out]))
             go_roundw
             case rel => exact ⟨j + 1, by omega, by go_num, HN3, HZ2⟩
             case measure => simp [intOf]; omega
           · have HE := aM (HHIT.out is.length En HNi.out HML.out hy0)
             have hyb : (En == 0) = false := beq_eq_false_iff_ne.mpr hy0
             go_wp2_with (first | (go_at_call 119; refine (ends_calls _ _ _ _ _ _ _).mono ?_; rintro _ w2 ⟨rfl, hb⟩; have HB2 := aM (HBi.out.trans (hb.mono (by have := HBi.out.size; have := HSA.out; omega))); have HZ2 := aM (HZi.out.trans (hb.mono (by have := HZi.out.size; have := HSZ.out; omega))); clear b0 b1 b2 b3 b4 f0 f1 f2 f3; obtain ⟨-, -, -, -, r0, r1, r2, r3, r4, r5⟩ := HX.out w2 HZ2.out; obtain ⟨b0, -⟩ := HBX.out w2 HB2.out; clear hb) | (go_at_call 131; refine (vregs_calls _ _).mono ?_; rintro _ _ ⟨rfl, rfl⟩; rw [vreg_end, HQ.out]))
             (have q := fault_set r0 r1 r2; have q0 := fun x y z => (q x y z).1; have q1 := fun x y z => (q x y z).2.1; have q2 := fun x y z => (q x y z).2.2; clear q; (try simp only [Exit.inBlock, Exit.then]); refine bodyPost_ret (by simp [results, Try.results98, go_sem, q0, q1, q2]; try rfl) rfl ?_)
             exact ⟨⟨_, _, by rw [HE.out]⟩, below_set (HA.out.trans (HZ2.out.mono (by omega))) (by omega) _ _ _⟩
    · obtain rfl : j = l.length := by omega
      have HE := aM (show FE = 0 by rw [← HFE.out, ← HN.out, List.take_of_length_le (by simp)])
      obtain ⟨-, -, -, -, r0, r1, r2, r3, r4, r5⟩ := HX.out wo HZ.out
      go_wp2
      (have q := fault_set r0 r1 r2; have q0 := fun x y z => (q x y z).1; have q1 := fun x y z => (q x y z).2.1; have q2 := fun x y z => (q x y z).2.2; clear q; (try simp only [Exit.inBlock, Exit.then]); refine bodyPost_ret (by simp [results, Try.results98, go_sem, q0, q1, q2]; try rfl) rfl ?_)
      exact ⟨⟨_, _, by rw [HE.out]⟩, below_set (HA.out.trans (HZ.out.mono (by omega))) (by omega) _ _ _⟩
end Go.Proofs.Ytnckonglodmfeaa.Ik
namespace Go.Proofs.Ytnckonglodmfeaa.Ik
open Ls Lc Go.RowKit Go.Proofs.YtnckonglodmfeaaW.PrintWords Go.Proofs.YtnckonglodmfeaaW.PrintLast Go.Proofs.YtnckonglodmfeaaW.PrintMore B R S Is
theorem code_ok {p v sl : Int} {l : List Blk} (h : codeErr (p, v, sl, l) = 0) (hR : ∀ b ∈ l, BlkR b) : l.length ≤ 16 ∧ ∀ b ∈ l, OkB b := by
 unfold codeErr at h
 split at h
 · cases h
 · rename_i h1
   simp only [not_or, Nat.not_lt] at h1
   exact ⟨h1.2.2.2.2.2.2.2, blks_ok (by decide) h hR⟩
set_option maxHeartbeats 4000000 in
set_option maxRecDepth 100000 in
theorem wcode_calls (p v sl : Int) (l : List Blk) (A : Option Addr) (c : Nat) (w : World) (hC : kBlk.C w A l.length l) (hR : ∀ b ∈ l, BlkR b) (hll : l.length ≤ 100000) :
 Calls Try.prog 56 #[.agg #[.int .i64 p, .int .i64 v, .int .i64 sl, .slice A l.length c]] w fun r w' => BytesOr (codeErr (p, v, sl, l)) 30 (codeL (p, v, sl, l)) w' r ∧ Below w.heap.size w w' := by
 have mixed : Try.prog.follows .mixedOrders = true := by kernel_rfl
 have HC := aM hC
 have hff := fault_field
 have HOK := aM (fun h => code_ok (p := p) (v := v) (sl := sl) h hR)
 obtain ⟨E, hE⟩ : ∃ E, codeErr (p, v, sl, l) = E := ⟨_, rfl⟩
 rw [hE] at HOK ⊢
 have HE := aM hE
 have HA := aM (show Below w.heap.size w (w.alloc (.cells #[.int .i64 p, .int .i64 v, .int .i64 sl, .slice A l.length c] 54)) from (Below.refl _ _).alloc (Nat.le_refl _) _)
 have HSZ := aM (World.size_alloc w (.cells #[.int .i64 p, .int .i64 v, .int .i64 sl, .slice A l.length c] 54))
 have HX := aM (show ∀ W', Below (w.heap.size + 1) (w.alloc (.cells #[.int .i64 p, .int .i64 v, .int .i64 sl, .slice A l.length c] 54)) W' → W'.cell? ⟨w.heap.size, 0, none⟩ = some (.int .i64 p) ∧ W'.cell? ⟨w.heap.size, 1, none⟩ = some (.int .i64 v) ∧ W'.cell? ⟨w.heap.size, 2, none⟩ = some (.int .i64 sl) ∧ W'.cell? ⟨w.heap.size, 3, none⟩ = some (.slice A l.length c) from fun W' h => by
  have g := below_cells (h.mono (by rw [World.size_alloc]; omega))
  exact ⟨cell_at g 0 _ rfl, cell_at g 1 _ rfl, cell_at g 2 _ rfl, cell_at g 3 _ rfl⟩)
 clear hC hR hE
 by_cases hE0 : E = 0
 · subst hE0
   have hl16 := (HOK.out rfl).1
   have HOKB := aM (HOK.out rfl).2
   go_enter Try.func56, Try.ntmps56
   go_upto_region 4 with (first | (go_at_call 98; refine (mcheck_calls p v sl l A c _ (Kd.C_below HC.out HA.out) hll).mono ?_; rintro _ w1 ⟨⟨x1, y1, rfl⟩, hb⟩; rw [HE.out]; have HZ1 := aM (hb.mono (by rw [HSZ.out]; exact Nat.le_refl _)); obtain ⟨f0, f1, f2, f3⟩ := HX.out w1 HZ1.out; clear hb))
   obtain ⟨WV, hWV⟩ : ∃ WV, WV = w1.alloc (.cells #[.slice none 0 0] 157) := ⟨_, rfl⟩
   rw [← hWV]
   have HG := aM (show w.heap.size + 1 ≤ w1.heap.size by have := HZ1.out.size; rw [HSZ.out] at this; exact this)
   have HWV := aM (show Wtr WV w1.heap.size [] by rw [hWV]; exact ⟨none, 0, heap_alloc_new _ _, Nat.le_refl _, fun a e => (by cases e), C_nil .u8 _⟩)
   have HZV := aM (HZ1.out.trans (show Below (w.heap.size + 1) w1 WV by rw [hWV]; exact (Below.refl _ _).alloc HG.out _))
   have HSV := aM (show WV.heap.size = w1.heap.size + 1 by rw [hWV, World.size_alloc])
   clear hWV f0 f1 f2 f3
   obtain ⟨f0, f1, f2, f3⟩ := HX.out WV HZV.out
   go_wp2_with (first | (have HWc := HWV; clear HWV; go_at_call 86; refine (nums_lit w1.heap.size [] [p, v, sl] 3 rfl WV _ HWc.out rfl (by simp)).mono ?_; rintro _ w2 ⟨rfl, m1, hm, hml1, hw, hk⟩; have HE_1 := aM hm; have HZ2 := aM (Keep.below_then HZV.out hk (by rw [HSV.out]; have := HG.out; omega) (fun i hi e => by have e : i = w1.heap.size := e; have := HG.out; omega)); clear f0 f1 f2 f3; obtain ⟨f0, f1, f2, f3⟩ := HX.out w2 HZ2.out; have HW2 := aM hw; clear hm hw hk HWc) | (go_at_call 87; refine (wblocks_calls w1.heap.size m1 l A c w w2 HC.out (HA.out.trans (HZ2.out.mono (by omega))) (by have := HG.out; omega) HW2.out (by simp at hml1; omega) hl16 HOKB.out).mono ?_; rintro _ w3 ⟨rfl, hw, hk⟩; have HZ3 := aM (Keep.below_then HZ2.out hk (by have := HZ2.out.size; rw [HSZ.out] at this; exact this) (fun i hi e => by have e : i = w1.heap.size := e; have := HG.out; omega)); obtain ⟨m2, hm2⟩ : ∃ m2, m2 = m1 ++ blksL l := ⟨_, rfl⟩; rw [← hm2] at hw; have HM2 := aM hm2; obtain ⟨A9, c9, hh9, hlc9, -, hC9⟩ := hw; have hc9 := cell_at hh9 0 _ rfl; have HC9 := aM hC9; clear hk hm2 hh9 hC9 f0 f1 f2 f3))
   go_returns
   refine ⟨⟨fun h => absurd rfl h, fun _ => ?_⟩, HA.out.trans (HZ3.out.mono (by omega))⟩
   have hm : m2 = codeL (p, v, sl, l) := by rw [HM2.out, HE_1.out]; simp [codeL, fieldsL]
   subst hm
   exact ⟨_, _, rfl, hlc9, HC9.out⟩
 · have hEb : (E == 0) = false := beq_eq_false_iff_ne.mpr hE0
   have HEN := aM hE0
   clear hE0
   go_enter Try.func56, Try.ntmps56
   go_wp2_with (first | (go_at_call 98; refine (mcheck_calls p v sl l A c _ (Kd.C_below HC.out HA.out) hll).mono ?_; rintro _ w1 ⟨⟨x1, y1, rfl⟩, hb⟩; rw [HE.out]; have HZ1 := aM (hb.mono (by rw [HSZ.out]; exact Nat.le_refl _)); obtain ⟨f0, f1, f2, f3⟩ := HX.out w1 HZ1.out; clear hb))
   go_returns
   exact ⟨⟨fun _ => rfl, fun h => absurd h HEN.out⟩, HA.out.trans (HZ1.out.mono (by omega))⟩
end Go.Proofs.Ytnckonglodmfeaa.Ik
namespace Go.Proofs.Ytnckonglodmfeaa.Ik
open Ls Lc Go.RowKit Go.Proofs.YtnckonglodmfeaaW.PrintWords Go.Proofs.YtnckonglodmfeaaW.PrintLast Go.Proofs.YtnckonglodmfeaaW.PrintMore B R S Is Js
def CodRet (w' : World) (base : Nat) (x : Cod × Int) (e : Ending) : Prop :=
 ∃ p v sl vb bs, e = .returned (.tuple #[.agg #[.int .i64 p, .int .i64 v, .int .i64 sl, vb], .int .i64 x.2]) ∧ kBlk.R 84 w' base (fun _ => True) vb bs ∧ ((x.2 = 0 ∧ x.1 = (p, v, sl, bs)) ∨ (x.2 ≠ 0 ∧ p = 0 ∧ v = 0 ∧ sl = 0 ∧ bs = []))
structure Tg (T : Nat) (Z : Array Value) (w0 W : World) (gb : Nat) (F : Array Value) : Prop where
 res : W.heap[w0.heap.size]? = some (.cells Z T (0, 0))
 bx : W.heap[gb]? = some (.cells F T (0, 0))
 below : Below w0.heap.size w0 W
 hgb : w0.heap.size < gb
section
variable {T : Nat} {Z : Array Value} {w0 W W' : World} {gb : Nat} {F : Array Value}
theorem Tg.keep {S : Nat → Prop} (h : Tg T Z w0 W gb F) (hk : Keep S W W') (h1 : ¬ S w0.heap.size) (h2 : ¬ S gb) (h3 : ∀ i, S i → w0.heap.size ≤ i) : Tg T Z w0 W' gb F :=
 ⟨(hk.block _ (blk_lt h.res) h1).trans h.res, (hk.block _ (blk_lt h.bx) h2).trans h.bx, h.below.trans (keep_below hk h.below.size h3), h.hgb⟩
theorem Tg.grow (h : Tg T Z w0 W gb F) (hb : Below W.heap.size W W') : Tg T Z w0 W' gb F := h.keep (S := fun _ => False) (Keep.of_below hb) id id (fun _ => False.elim)
theorem Tg.set (h : Tg T Z w0 W gb F) (j : Nat) (x : Value) : Tg T Z w0 (W.setCell ⟨gb, j, none⟩ x) gb (F.setIfInBounds j x) := by
 have h1 := h.hgb
 exact ⟨(Below.heap_setCell _ _ _ _ (show w0.heap.size ≠ gb by omega)).trans h.res, heap_setCell_same W gb j F _ _ h.bx, h.below.setCell (by show w0.heap.size ≤ gb; omega) _, h1⟩
end
theorem cells4 {W : World} {g e : Nat} {x0 x1 x2 x3 : Value} (h : W.heap[g]? = some (.cells #[x0, x1, x2, x3] e (0, 0))) : (W.cell? ⟨g, 0, none⟩ = some x0 ∧ W.cell? ⟨g, 1, none⟩ = some x1 ∧ W.cell? ⟨g, 2, none⟩ = some x2 ∧ W.cell? ⟨g, 3, none⟩ = some x3) ∧ ∀ j, W.frozen? ⟨g, j, none⟩ = false :=
 ⟨⟨cell_at h 0 _ rfl, cell_at h 1 _ rfl, cell_at h 2 _ rfl, cell_at h 3 _ rfl⟩, fun j => blk_frozen h j⟩
abbrev TC (w0 W : World) (gb : Nat) (F : Array Value) : Prop := Tg 54 #[.int .i64 0, .int .i64 0, .int .i64 0, .slice none 0 0] w0 W gb F
theorem TC.cells {w0 W : World} {gb : Nat} {F : Array Value} {x0 x1 x2 x3 : Value} (h : TC w0 W gb F) (hF : F = #[x0, x1, x2, x3]) :
 ((W.cell? ⟨gb, 0, none⟩ = some x0 ∧ W.cell? ⟨gb, 1, none⟩ = some x1 ∧ W.cell? ⟨gb, 2, none⟩ = some x2 ∧ W.cell? ⟨gb, 3, none⟩ = some x3) ∧ ∀ j, W.frozen? ⟨gb, j, none⟩ = false) ∧
 (W.cell? ⟨w0.heap.size, 0, none⟩ = some (.int .i64 0) ∧ W.cell? ⟨w0.heap.size, 1, none⟩ = some (.int .i64 0) ∧ W.cell? ⟨w0.heap.size, 2, none⟩ = some (.int .i64 0) ∧ W.cell? ⟨w0.heap.size, 3, none⟩ = some (.slice none 0 0)) ∧ ∀ j, W.frozen? ⟨w0.heap.size, j, none⟩ = false := by
 subst hF
 exact ⟨cells4 h.bx, cells4 h.res⟩
theorem put4_keep {W : World} {g : Nat} (x0 x1 x2 x3 : Value) : Keep (fun i => i = g) W ((((W.setCell ⟨g, 0, none⟩ x0).setCell ⟨g, 1, none⟩ x1).setCell ⟨g, 2, none⟩ x2).setCell ⟨g, 3, none⟩ x3) := put4_far x0 x1 x2 x3
theorem sCod_eq {l : List Int} {p v sl : Int} {s1 s2 s3 s4 : St} {B : List Blk} {E : Int} (h1 : sBelow 4096 (l, 0) = (p, s1)) (h2 : sBelow 4096 s1 = (v, s2)) (h3 : sBelow 4096 s2 = (sl, s3)) (h4 : sBlks 400 s3 = (B, s4)) (hE : ended s4.1 s4.2 = E) :
 sCod l = ((p, v, sl, B), if E = 0 then (if codeErr (p, v, sl, B) = 0 then 0 else 30) else E) := by
 unfold sCod
 simp only [h1, h2, h3, h4, hE]
theorem ended_ok {s : St} (h : ended s.1 s.2 = 0) : s.2 = 0 := by
 unfold ended failed at h
 by_cases h1 : 0 < s.1.length
 · rw [if_pos h1] at h
   by_cases h2 : s.2 = 0
   · exact h2
   · rw [if_neg h2] at h; exact h
 · rwa [if_neg h1] at h
theorem blks_len16 (most : Int) {s : St} (h : By s.1) : (sBlks most s).1.length ≤ 16 := by
 have h2 := blkN_len most (sBelow 17 s).1.toNat (sBelow 17 s).2
 have h3 := below_range (m := 17) (by decide) h
 show (sBlkN most (sBelow 17 s).1.toNat (sBelow 17 s).2).1.length ≤ 16
 omega
set_option maxHeartbeats 4000000 in
set_option maxRecDepth 100000 in
theorem wread_code (A : Option Addr) (c : Nat) (l : List Int) (w : World) (hC : kU8.C w A l.length l) (hll : l.length ≤ 1000000) (hby : By l) :
 Calls Try.prog 61 #[.slice A l.length c] w fun e w' => CodRet w' w.heap.size (sCod l) e ∧ Below w.heap.size w w' := by
 have mixed : Try.prog.follows .mixedOrders = true := by kernel_rfl
 have hff := fault_field
 have HC := aM hC
 have HBY := aM hby
 obtain ⟨p, s1, hp⟩ : ∃ p s1, sBelow 4096 (l, 0) = (p, s1) := ⟨_, _, rfl⟩
 obtain ⟨v, s2, hv⟩ : ∃ v s2, sBelow 4096 s1 = (v, s2) := ⟨_, _, rfl⟩
 obtain ⟨sl, s3, hsl⟩ : ∃ sl s3, sBelow 4096 s2 = (sl, s3) := ⟨_, _, rfl⟩
 obtain ⟨B, s4, hB⟩ : ∃ B s4, sBlks 400 s3 = (B, s4) := ⟨_, _, rfl⟩
 obtain ⟨E, hE⟩ : ∃ E, ended s4.1 s4.2 = E := ⟨_, rfl⟩
 have hF := sCod_eq hp hv hsl hB hE
 have HCD := aM (show E = 0 → s4.2 = 0 from fun h => ended_ok (by rw [hE]; exact h))
 have HBL := aM (show B.length ≤ 16 from by
  have a := sbelow_by (m := 4096) (s := (l, 0)) hby
  rw [hp] at a
  have a := sbelow_by (m := 4096) (s := s1) a
  rw [hv] at a
  have a := sbelow_by (m := 4096) (s := s2) a
  rw [hsl] at a
  have h := blks_len16 400 a
  rw [hB] at h
  exact h)
 obtain ⟨X, hX⟩ : ∃ X : Int, (if E = 0 then (if codeErr (p, v, sl, B) = 0 then 0 else 30) else E) = X := ⟨_, rfl⟩
 rw [hX] at hF
 rw [hF]
 have HXX := aM hX
 have HP := aM hp
 have HV := aM hv
 have HSL := aM hsl
 have HB := aM hB
 have HE := aM hE
 have HSZ := aM (World.size_alloc w (.cells #[.int .i64 0, .int .i64 0, .int .i64 0, .slice none 0 0] 54))
 have HA := aM (show Below w.heap.size w (w.alloc (.cells #[.int .i64 0, .int .i64 0, .int .i64 0, .slice none 0 0] 54)) from (Below.refl _ _).alloc (Nat.le_refl _) _)
 clear hC hby hp hv hsl hB hE hF hX
 go_enter Try.func61, Try.ntmps61
 go_upto_region 3 with (first
  | (go_at_call 93; refine (new_calls A c l _ (Kd.C_alloc HC.out _) (by omega)).mono ?_; rintro _ w1 ⟨g, b, rfl, hr, hb, hg1, hb1, hb2⟩; have HDa := aM (show Rd w1 g b (l, 0) from ⟨hr, HBY.out, hb2⟩); have HK := aM (Keep.refl (· = g) w1); have HW1 := aM (show Below (w.heap.size + 1) (w.alloc (.cells #[.int .i64 0, .int .i64 0, .int .i64 0, .slice none 0 0] 54)) w1 from by rw [HSZ.out] at hb; exact hb); have HG := aM (show w.heap.size + 1 ≤ g from by rw [HSZ.out] at hg1; exact hg1); clear hr hb hg1 hb1 hb2)
  | (go_at_call 46; refine (rd_below g b _ 4096 _ HDa.out (by decide) (by decide)).mono ?_; rintro _ w2 ⟨rfl, hd, hk, -⟩; rw [HP.out] at hd ⊢; have HDb := aM hd; have HKn := aM (HK.out.trans hk); clear HK HDa hd hk; have HK := HKn; clear HKn)
  | (go_at_call 46; refine (rd_below g b _ 4096 _ HDb.out (by decide) (by decide)).mono ?_; rintro _ w3 ⟨rfl, hd, hk, -⟩; rw [HV.out] at hd ⊢; have HDc := aM hd; have HKn := aM (HK.out.trans hk); clear HK HDb hd hk; have HK := HKn; clear HKn)
  | (go_at_call 46; refine (rd_below g b _ 4096 _ HDc.out (by decide) (by decide)).mono ?_; rintro _ w4 ⟨rfl, hd, hk, -⟩; rw [HSL.out] at hd ⊢; have HDd := aM hd; have HKn := aM (HK.out.trans hk); clear HK HDc hd hk; have HK := HKn; clear HKn))
 have hzg := HG.out
 have hz1 : w.heap.size + 1 ≤ w1.heap.size := by have := HW1.out.size; rw [HSZ.out] at this; exact this
 have hb4 : Below (w.heap.size + 1) (w.alloc (.cells #[.int .i64 0, .int .i64 0, .int .i64 0, .slice none 0 0] 54)) w4 := HW1.out.trans (keep_below HK.out hz1 (fun i e => by have e : i = g := e; omega))
 have hz4 : w.heap.size + 1 ≤ w4.heap.size := by have := hb4.size; rw [HSZ.out] at this; exact this
 have HT := aM (show TC w (w4.alloc (.cells #[.int .i64 p, .int .i64 v, .int .i64 sl, .slice none 0 0] 54)) w4.heap.size #[.int .i64 p, .int .i64 v, .int .i64 sl, .slice none 0 0] from
  ⟨below_cells ((hb4.alloc hz4 _).mono (by rw [HSZ.out]; exact Nat.le_refl _)), heap_alloc_new _ _, (HA.out.trans (hb4.mono (by omega))).alloc (by omega) _, by omega⟩)
 have HD := aM (show Rd (w4.alloc (.cells #[.int .i64 p, .int .i64 v, .int .i64 sl, .slice none 0 0] 54)) g b s3 from HDd.out.below ((Below.refl _ _).alloc (Nat.le_refl _) _))
 have hgl := HDd.out.1.lt
 have hbl := HDd.out.2.2
 obtain ⟨gb, hgb⟩ : ∃ gb, w4.heap.size = gb := ⟨_, rfl⟩
 rw [hgb] at HT hgl hbl ⊢
 obtain ⟨W, hW⟩ : ∃ W, W = w4.alloc (.cells #[.int .i64 p, .int .i64 v, .int .i64 sl, .slice none 0 0] 54) := ⟨_, rfl⟩
 rw [← hW] at HT HD ⊢
 clear hW hgb hz4 hb4 HDd HK HW1
 obtain ⟨⟨⟨q0, q1, q2, q3⟩, qz⟩, ⟨x0, x1, x2, x3⟩, xz⟩ := TC.cells HT.out rfl
 have hgW := HD.out.1.lt
 have hgbW := blk_lt HT.out.bx
 go_upto_region 5 with (first
  | (go_at_call 95; refine (wread_blocks g b s3 400 _ HD.out HD.out.1.lt (by decide) (by decide)).mono ?_; rintro _ w5 ⟨vb, bs, rfl, hr, hbs, hd, hk⟩; obtain ⟨Ab, cb, rfl, -, -⟩ := Kd.R_reads hr; obtain ⟨nb, hnb⟩ : ∃ n, bs.length = n := ⟨_, rfl⟩; rw [hnb] at hr ⊢; rw [HB.out] at hbs hd; have HT5 := aM (HT.out.keep hk (fun e => by have e : w.heap.size = g := e; omega) (fun e => by have e : gb = g := e; omega) (fun i e => by have e : i = g := e; omega)); have HD5 := aM hd; have HR := aM (Kd.R_mono (Kd.R_bound hr) (ok' := fun k => W.heap.size ≤ k) (fun k hk => hk.2.1)); have HBS := aM hbs; have HNB := aM hnb; clear hr hbs hd hk hnb q0 q1 q2 q3 qz x0 x1 x2 x3 xz; obtain ⟨⟨⟨q0, q1, q2, q3⟩, qz⟩, ⟨x0, x1, x2, x3⟩, xz⟩ := TC.cells HT5.out rfl)
  | (go_at_call 50; have HT6 := aM (HT5.out.set 3 (.slice Ab nb cb)); have HD6 := aM (show Rd (w5.setCell ⟨gb, 3, none⟩ (.slice Ab nb cb)) g b s4 from HD5.out.keep (S := (· = gb)) ((Keep.refl _ _).setCell ⟨gb, 3, none⟩ (.slice Ab nb cb) (fun _ => rfl)) (by omega) (by omega)); refine (rd_end g b s4 _ HD6.out).mono ?_; rintro _ w6 ⟨rfl, hk, -⟩; rw [HE.out]; have HT7 := aM (HT6.out.keep hk (fun e => by have e : w.heap.size = g := e; omega) (fun e => by have e : gb = g := e; omega) (fun i e => by have e : i = g := e; omega)); have HR6 := aM (Kd.R_step HR.out (fun k hk' hl => (hk.block k (by rw [size_set]; exact hl) (fun e => by have e : k = g := e; omega)).trans (Below.heap_setCell _ _ _ _ (by show k ≠ gb; omega)))); clear hk q0 q1 q2 q3 qz x0 x1 x2 x3 xz; obtain ⟨⟨⟨q0, q1, q2, q3⟩, qz⟩, ⟨x0, x1, x2, x3⟩, xz⟩ := TC.cells HT7.out rfl))
 obtain rfl := HNB.out
 have HC6 := aM (show kBlk.C w6 Ab bs.length bs from by
  obtain ⟨A', c', e, -, hC⟩ := Kd.R_reads HR6.out
  injection e with e1 e2 e3
  subst e1
  exact hC)
 clear HR HT HT5 HT6 HD HD5 HD6 HNB
 have hgw := HT7.out.hgb
 by_cases hE0 : E = 0
 · subst hE0
   have hbs : bs = B := HBS.out (HCD.out rfl)
   subst hbs
   have hl16 := HBL.out
   obtain ⟨FE, hFE⟩ : ∃ FE, codeErr (p, v, sl, bs) = FE := ⟨_, rfl⟩
   have HFE := aM hFE
   clear hFE
   by_cases hF0 : FE = 0
   · subst hF0
     go_wp2_with (go_at_call 98; refine (mcheck_calls p v sl bs Ab cb _ HC6.out (by omega)).mono ?_; rintro _ w7 ⟨⟨x9, y9, rfl⟩, hb⟩; rw [HFE.out]; have HT8 := aM (HT7.out.grow hb); have HB7 := aM hb; clear hb q0 q1 q2 q3 qz x0 x1 x2 x3 xz; obtain ⟨⟨⟨q0, q1, q2, q3⟩, qz⟩, ⟨x0, x1, x2, x3⟩, xz⟩ := TC.cells HT8.out rfl)
     (have rr := HT8.out.res; have p0 := fun x0 x1 x2 x3 => cell_at (put4 rr x0 x1 x2 x3) 0 _ rfl; have p1 := fun x0 x1 x2 x3 => cell_at (put4 rr x0 x1 x2 x3) 1 _ rfl; have p2 := fun x0 x1 x2 x3 => cell_at (put4 rr x0 x1 x2 x3) 2 _ rfl; have p3 := fun x0 x1 x2 x3 => cell_at (put4 rr x0 x1 x2 x3) 3 _ rfl; (try simp only [Exit.inBlock, Exit.then]); refine bodyPost_ret (by simp [results, Try.results61, go_sem, p0, p1, p2, p3]; try rfl) rfl ?_)
     refine ⟨?_, HT8.out.below.trans (keep_below (put4_keep _ _ _ _) HT8.out.below.size (fun i e => by omega))⟩
     rw [show X = 0 from by rw [← HXX.out]; simp [HFE.out]]
     refine ⟨p, v, sl, _, bs, rfl, Kd.R_mono (Kd.R_step (Kd.R_lower (Kd.R_below HR6.out HB7.out) (by omega)) (fun k hk hl => (put4_keep _ _ _ _).block k hl (fun e => by omega))) (fun _ _ => trivial), .inl ⟨rfl, rfl⟩⟩
   · have hcn : (FE != 0) = true := bne_iff_ne.mpr hF0
     have hcb : (FE == 0) = false := beq_eq_false_iff_ne.mpr hF0
     have HF0 := aM hF0
     clear hF0
     go_wp2_with (go_at_call 98; refine (mcheck_calls p v sl bs Ab cb _ HC6.out (by omega)).mono ?_; rintro _ w7 ⟨⟨x9, y9, rfl⟩, hb⟩; rw [HFE.out]; have HT8 := aM (HT7.out.grow hb); have HB7 := aM hb; clear hb q0 q1 q2 q3 qz x0 x1 x2 x3 xz; obtain ⟨⟨⟨q0, q1, q2, q3⟩, qz⟩, ⟨x0, x1, x2, x3⟩, xz⟩ := TC.cells HT8.out rfl)
     (have rr := HT8.out.res; have p0 := fun x0 x1 x2 x3 => cell_at (put4 rr x0 x1 x2 x3) 0 _ rfl; have p1 := fun x0 x1 x2 x3 => cell_at (put4 rr x0 x1 x2 x3) 1 _ rfl; have p2 := fun x0 x1 x2 x3 => cell_at (put4 rr x0 x1 x2 x3) 2 _ rfl; have p3 := fun x0 x1 x2 x3 => cell_at (put4 rr x0 x1 x2 x3) 3 _ rfl; (try simp only [Exit.inBlock, Exit.then]); refine bodyPost_ret (by simp [results, Try.results61, go_sem, p0, p1, p2, p3]; try rfl) rfl ?_)
     refine ⟨?_, HT8.out.below.trans (keep_below (put4_keep _ _ _ _) HT8.out.below.size (fun i e => by omega))⟩
     rw [show X = 30 from by rw [← HXX.out]; simp [HFE.out, HF0.out]]
     exact ⟨0, 0, 0, _, [], rfl, Kd.R_nil _ _ _ _ _, .inr ⟨(by decide : (30 : Int) ≠ 0), rfl, rfl, rfl, rfl⟩⟩
 · have hcn : (E != 0) = true := bne_iff_ne.mpr hE0
   have hcb : (E == 0) = false := beq_eq_false_iff_ne.mpr hE0
   have HE0 := aM hE0
   clear hE0
   go_wp2
   (have rr := HT7.out.res; have p0 := fun x0 x1 x2 x3 => cell_at (put4 rr x0 x1 x2 x3) 0 _ rfl; have p1 := fun x0 x1 x2 x3 => cell_at (put4 rr x0 x1 x2 x3) 1 _ rfl; have p2 := fun x0 x1 x2 x3 => cell_at (put4 rr x0 x1 x2 x3) 2 _ rfl; have p3 := fun x0 x1 x2 x3 => cell_at (put4 rr x0 x1 x2 x3) 3 _ rfl; (try simp only [Exit.inBlock, Exit.then]); refine bodyPost_ret (by simp [results, Try.results61, go_sem, p0, p1, p2, p3]; try rfl) rfl ?_)
   refine ⟨?_, HT7.out.below.trans (keep_below (put4_keep _ _ _ _) HT7.out.below.size (fun i e => by omega))⟩
   rw [show X = E from by rw [← HXX.out]; exact if_neg HE0.out]
   exact ⟨0, 0, 0, _, [], rfl, Kd.R_nil _ _ _ _ _, .inr ⟨HE0.out, rfl, rfl, rfl, rfl⟩⟩
end Go.Proofs.Ytnckonglodmfeaa.Ik
namespace Go.Proofs.Ytnckonglodmfeaa.Ik
open Go.RowKit Go.Proofs.YtnckonglodmfeaaW.PrintWords Go.Proofs.YtnckonglodmfeaaW.PrintLast Go.Proofs.YtnckonglodmfeaaW.PrintMore B R S Is
end Go.Proofs.Ytnckonglodmfeaa.Ik
namespace Go.Proofs.Ytnckonglodmfeaa.Ik
open Ls Go.RowKit Go.Proofs.YtnckonglodmfeaaW.PrintWords Go.Proofs.YtnckonglodmfeaaW.PrintLast Go.Proofs.YtnckonglodmfeaaW.PrintMore B R S Is Js
structure QgS (T : Nat) (Z : Array Value) (w0 W : World) (g b gb : Nat) (s : St) (F : Array Value) : Prop where
 rd : Rq W g b s
 t : Tg T Z w0 W gb F
 hg : w0.heap.size < g
 hgb : g < gb
 hbb : b < gb
section
variable {T : Nat} {Z : Array Value} {w0 W W' : World} {g b gb : Nat} {s s' : St} {F : Array Value}
theorem QgS.stepT (h : QgS T Z w0 W g b gb s F) (hk : Keep (· = g) W W') : Tg T Z w0 W' gb F := by
 have h1 := h.hg
 have h2 := h.hgb
 exact h.t.keep hk (fun e => by have e : w0.heap.size = g := e; omega) (fun e => by have e : gb = g := e; omega) (fun i e => by have e : i = g := e; omega)
theorem QgS.step (h : QgS T Z w0 W g b gb s F) (hk : Keep (· = g) W W') (hr : Rq W' g b s') : QgS T Z w0 W' g b gb s' F := ⟨hr, h.stepT hk, h.hg, h.hgb, h.hbb⟩
theorem QgS.set (h : QgS T Z w0 W g b gb s F) (j : Nat) (x : Value) : QgS T Z w0 (W.setCell ⟨gb, j, none⟩ x) g b gb s (F.setIfInBounds j x) := by
 have h1 := h.hg
 have h2 := h.hgb
 have h3 := h.hbb
 exact ⟨h.rd.keep (S := (· = gb)) ((Keep.refl _ _).setCell ⟨gb, j, none⟩ x (fun _ => rfl)) (fun e => by have e : g = gb := e; omega) (fun e => by have e : b = gb := e; omega), h.t.set j x, h1, h2, h3⟩
end
end Go.Proofs.Ytnckonglodmfeaa.Ik
namespace Go.Proofs.Ytnckonglodmfeaa.Ik
open Ls Lc Go.RowKit Go.Proofs.YtnckonglodmfeaaW.PrintWords Go.Proofs.YtnckonglodmfeaaW.PrintLast Go.Proofs.YtnckonglodmfeaaW.PrintMore B R S Is
abbrev Pr := Int × Int
abbrev Crt := List (List Pr)
abbrev kP : Kd Pr := Kd.pair kI kI
abbrev kPs : Kd (List Pr) := Kd.slice 61 kP
theorem infoP : (Try.prog.info? 61).map (fun i => (i.zero, i.size, i.bytes)) = some (some (.agg #[.int .i64 0, .int .i64 0]), 2, 16) := by kernel_rfl
theorem infoPs : (Try.prog.info? 58).map (fun i => (i.zero, i.size, i.bytes)) = some (some (.slice none 0 0), 1, 24) := by kernel_rfl
def prOk (p : Pr) : Bool := decide (0 ≤ p.1 ∧ p.1 < 4096 ∧ 0 ≤ p.2 ∧ p.2 < 4096)
def certErr (l : Crt) : Int := if 16 < l.length then 9 else if l.all (fun ps => ps.all prOk) then 0 else 2
def prL (p : Pr) : List Int := fieldsL [p.1, p.2]
def prsL (ps : List Pr) : List Int := fieldL ps.length ++ (ps.map prL).flatten
def certL (l : Crt) : List Int := fieldL l.length ++ (l.map prsL).flatten
theorem pr_len (p : Pr) : (prL p).length ≤ 20 := fields_len [p.1, p.2]
theorem pair_K {w : World} {v l : Int} {cs : List Value} (h : kP.K w (v, l) cs) : cs = [.int .i64 v, .int .i64 l] := by
 obtain ⟨c0, c1, rfl, h0, h1⟩ := h
 have e0 : c0 = [.int .i64 v] := h0
 have e1 : c1 = [.int .i64 l] := h1
 subst e0 e1
 rfl
theorem pair_cells {w : World} {A0 : Option Addr} {n0 : Nat} {m : List Pr} (h : kP.C w A0 n0 m) {j : Nat} {v l : Int} (hj : m[j]? = some (v, l)) :
 ∃ ad : Addr, A0 = some ad ∧ w.cell? (ad.add (j * 2)) = some (.int .i64 v) ∧ w.cell? ⟨(ad.add (j * 2)).block, (ad.add (j * 2)).off + 1, none⟩ = some (.int .i64 l) := by
 have hl := (List.getElem?_eq_some_iff.1 hj).1
 obtain ⟨ad, e, hc⟩ := h.2.2 (by have := h.1; omega)
 obtain ⟨cs, h1, h2, h3⟩ := hc j _ hj
 have := pair_K h2
 subst this
 have hs : kP.sz = 2 := rfl
 have g0 := h3 0 _ rfl
 have g1 := h3 1 _ rfl
 rw [hs] at g0 g1
 rw [← YtnckonglodmfeaaW.PrintWords.add_add] at g1
 exact ⟨ad, e, g0, g1⟩
theorem crt_cells {w : World} {A0 : Option Addr} {n0 : Nat} {m : Crt} (h : kPs.C w A0 n0 m) {j : Nat} {ps : List Pr} (hj : m[j]? = some ps) :
 ∃ (ad : Addr) (A : Option Addr) (c : Nat), A0 = some ad ∧ w.cell? (ad.add j) = some (.slice A ps.length c) ∧ ps.length ≤ c ∧ kP.C w A ps.length ps := by
 have hl := (List.getElem?_eq_some_iff.1 hj).1
 obtain ⟨ad, e, hc⟩ := h.2.2 (by have := h.1; omega)
 obtain ⟨cs, h1, ⟨A, c, rfl, h4, h5⟩, h3⟩ := hc j _ hj
 have g0 := h3 0 _ rfl
 rw [show kPs.sz = 1 from rfl, Nat.mul_one, Nat.add_zero] at g0
 exact ⟨ad, A, c, e, g0, h4, h5⟩
theorem all_take {α : Type} {f : α → Bool} {l : List α} {j : Nat} {x : α} (h : l[j]? = some x) : (l.take (j + 1)).all f = ((l.take j).all f && f x) := by
 rw [List.take_add_one, h, List.all_append]
 simp
theorem all_false {α : Type} {f : α → Bool} {l : List α} {j : Nat} {x : α} (h : l[j]? = some x) (hf : f x = false) : l.all f = false := by
 rw [List.all_eq_false]
 exact ⟨x, List.mem_of_getElem? h, by rw [hf]; decide⟩
set_option maxHeartbeats 4000000 in
set_option maxRecDepth 100000 in
theorem wcert_calls (l : Crt) (A : Option Addr) (c : Nat) (w : World) (hC : kPs.C w A l.length l) (hll : ∀ ps ∈ l, ps.length ≤ 1000) :
 Calls Try.prog 57 #[.slice A l.length c] w fun r w' => BytesOr (certErr l) (certErr l) (certL l) w' r ∧ Below w.heap.size w w' := by
 have mixed : Try.prog.follows .mixedOrders = true := by kernel_rfl
 have hl0 := hC.2.1
 have HC := aM hC
 have HLL := aM hll
 have HW0 := aM (show Wtr (w.alloc (.cells #[.slice none 0 0] 157)) w.heap.size [] from ⟨none, 0, heap_alloc_new _ _, Nat.le_refl _, fun a e => (by cases e), C_nil .u8 _⟩)
 have HSZ := aM (World.size_alloc w (.cells #[.slice none 0 0] 157))
 have HA := aM (show Below w.heap.size w (w.alloc (.cells #[.slice none 0 0] 157)) from (Below.refl _ _).alloc (Nat.le_refl _) _)
 clear hC hll
 by_cases h16 : 16 < l.length
 · have HE := aM (show certErr l = 9 from if_pos h16)
   rw [HE.out]
   go_enter Try.func57, Try.ntmps57
   go_wp2
   go_returns
   exact ⟨⟨fun _ => rfl, fun h => by cases h⟩, HA.out⟩
 have HE := aM (show certErr l = if l.all (fun ps => ps.all prOk) then 0 else 2 from if_neg h16)
 obtain ⟨W, hW⟩ : ∃ W, W = w.alloc (.cells #[.slice none 0 0] 157) := ⟨_, rfl⟩
 rw [← hW] at HW0 HSZ HA
 have HBL := aM (show ∀ W', Keep (· = w.heap.size) W W' → Below w.heap.size w W' from fun W' h => Keep.below_then HA.out h HA.out.size (fun i hi e => by have e : i = w.heap.size := e; omega))
 go_enter Try.func57, Try.ntmps57
 go_upto_region 4 with fail
 rw [← hW]
 clear hW
 go_wp2_with (have HWc := HW0; clear HW0; go_at_call 86; refine (nums_lit w.heap.size [] [(l.length : Int)] 1 rfl W _ HWc.out (by first | rfl | exact (World.size_alloc _ _).symm) (by simp)).mono ?_; rintro _ w1 ⟨rfl, m0, hm, hml0, hw, hk⟩; have HE_m0 := aM hm; have HK := aM hk; have HW1 := aM hw; clear hm hw hk HWc)
 have hm0 : m0.length ≤ 10 := by simpa using hml0
 clear hml0
 go_loopw [21] (fun vi wr => ∃ j : Nat, j ≤ l.length ∧ vi = .int .i64 j ∧ ∃ m : List Int, m.length ≤ 10 + 30000 * j ∧ Aside0 (m = m0 ++ ((l.take j).map prsL).flatten) ∧ Aside0 ((l.take j).all (fun ps => ps.all prOk) = true) ∧ Aside0 (Wtr wr w.heap.size m) ∧ Aside0 (Keep (· = w.heap.size) W wr)) (fun vi _ => l.length - (intOf vi).toNat)
 case atStart => exact ⟨0, by omega, rfl, m0, by omega, ⟨by simp⟩, ⟨by simp⟩, HW1, HK⟩
 case round =>
  clear HW1 HK
  obtain ⟨wo, hwo⟩ : ∃ wo, wo = wr := ⟨_, rfl⟩
  subst hwo
  obtain ⟨j, hj, rfl, m, hml, HM, HOK, HW, HK⟩ := hrel
  by_cases hjl : j < l.length
  · obtain ⟨ps, hx⟩ : ∃ x, l[j]? = some x := ⟨_, List.getElem?_eq_getElem hjl⟩
    obtain ⟨ad, A1, n1, rfl, b0, hn1, hC1⟩ := crt_cells HC.out hx
    have hp1000 := HLL.out ps (List.mem_of_getElem? hx)
    have b0 := pw_cell_below (HBL.out _ HK.out) b0
    have HC1 := aM hC1
    have HMT := aM (map_take prsL hx)
    have HAT := aM (all_take (f := fun ps => ps.all prOk) hx)
    have HX := aM hx
    clear hx hC1
    go_wp2_with (have HWc := HW; clear HW; go_at_call 86; refine (nums_lit w.heap.size m [(ps.length : Int)] 1 rfl wo _ HWc.out (by first | rfl | exact (World.size_alloc _ _).symm) (by omega)).mono ?_; rintro _ w1 ⟨rfl, m1, hm, hml1, hw, hk⟩; have HE_m1 := aM hm; have HKA := aM (HK.out.trans hk); have HW2 := aM hw; clear hm hw hk HWc b0)
    go_loopw [32] (fun vi wi => ∃ i : Nat, i ≤ ps.length ∧ vi = .int .i64 i ∧ ∃ mi : List Int, mi.length ≤ m1.length + 20 * i ∧ Aside0 (mi = m1 ++ ((ps.take i).map prL).flatten) ∧ Aside0 ((ps.take i).all prOk = true) ∧ Aside0 (Wtr wi w.heap.size mi) ∧ Aside0 (Keep (· = w.heap.size) W wi)) (fun vi _ => ps.length - (intOf vi).toNat)
    case atStart => exact ⟨0, by omega, rfl, m1, by omega, ⟨by simp⟩, ⟨by simp⟩, HW2, HKA⟩
    case round =>
     clear HW2 HKA
     obtain ⟨wi, hwi⟩ : ∃ wi, wi = wr := ⟨_, rfl⟩
     subst hwi
     obtain ⟨i, hi, rfl, mi, hmi, HMI, HOI, HWI, HKI⟩ := hrel
     by_cases hil : i < ps.length
     · obtain ⟨⟨pv, pl⟩, hq⟩ : ∃ q, ps[i]? = some q := ⟨_, List.getElem?_eq_getElem hil⟩
       obtain ⟨ad2, rfl, i0, i1⟩ := pair_cells HC1.out hq
       have i0 := pw_cell_below (HBL.out _ HKI.out) i0
       have i1 := pw_cell_below (HBL.out _ HKI.out) i1
       have HMT1 := aM (map_take prL hq)
       have HAT1 := aM (all_take (f := prOk) hq)
       have hgi := HWI.out.lt
       by_cases hok : 0 ≤ pv ∧ pv < 4096 ∧ 0 ≤ pl ∧ pl < 4096
       · have HPO := aM (show prOk (pv, pl) = true from decide_eq_true hok)
         have HPLN := aM (pr_len (pv, pl))
         obtain ⟨WB, hWB⟩ : ∃ WB, WB = wi.alloc (.cells #[.int .i64 pv, .int .i64 pl] 61) := ⟨_, rfl⟩
         have HBW := aM (show Below wi.heap.size wi WB by rw [hWB]; exact (Below.refl _ _).alloc (Nat.le_refl _) _)
         have HWB := aM (HWI.out.keep HBW.out)
         have HC2 := aM (show WB.cell? ⟨wi.heap.size, 0, none⟩ = some (.int .i64 pv) ∧ WB.cell? ⟨wi.heap.size, 1, none⟩ = some (.int .i64 pl) from by rw [hWB]; exact ⟨cell_at (heap_alloc_new _ _) 0 _ rfl, cell_at (heap_alloc_new _ _) 1 _ rfl⟩)
         have h1 : ¬ pv < 0 := by omega
         have h2 : ¬ 4096 ≤ pv := by omega
         have h3 : ¬ pl < 0 := by omega
         have h4 : ¬ 4096 ≤ pl := by omega
         clear hq hok
         go_upto_region 12 with fail
         rw [← hWB]
         clear hWB i0 i1
         obtain ⟨c0, c1⟩ := HC2.out
         go_wp2_with (have HWc := HWB; clear HWB; go_at_call 86; refine (nums_lit w.heap.size mi [pv, pl] 2 rfl WB _ HWc.out (by first | rfl | exact (World.size_alloc _ _).symm) (by omega)).mono ?_; rintro _ w2 ⟨rfl, m2, hm, hml2, hw, hk⟩; have HE_m2 := aM hm; have HW3 := aM hw; have HK3 := aM ((HKI.out.trans (Keep.of_below HBW.out)).trans hk); clear hm hw hk HWc c0 c1)
         go_roundw
         case rel => exact ⟨i + 1, by omega, by go_num, m2, by omega, ⟨by rw [HE_m2.out, HMI.out, HMT1.out, List.append_assoc]; rfl⟩, ⟨by rw [HAT1.out, HOI.out, HPO.out]; rfl⟩, HW3, HK3⟩
         case measure => simp [intOf]; omega
       · have HPO := aM (show ps.all prOk = false from all_false hq (decide_eq_false hok))
         have HE2 := aM (show certErr l = 2 from by rw [HE.out, all_false HX.out HPO.out]; rfl)
         have hbd : (pv < 0) ∨ (¬ pv < 0 ∧ 4096 ≤ pv) ∨ (¬ pv < 0 ∧ ¬ 4096 ≤ pv ∧ pl < 0) ∨ (¬ pv < 0 ∧ ¬ 4096 ≤ pv ∧ ¬ pl < 0 ∧ 4096 ≤ pl) := by omega
         clear hq hok
         rcases hbd with h1 | ⟨h1, h2⟩ | ⟨h1, h2, h3⟩ | ⟨h1, h2, h3, h4⟩
         all_goals
          go_wp2
          go_returns
          rw [HE2.out]
          exact ⟨⟨fun _ => rfl, fun h => by cases h⟩, (HBL.out _ HKI.out).alloc (HBL.out _ HKI.out).size _⟩
     · obtain rfl : i = ps.length := by omega
       have HMF := aM (show mi = m ++ prsL ps by rw [HMI.out, List.take_length, HE_m1.out]; simp [prsL, fieldsL])
       have HOF := aM (show ps.all prOk = true by have h := HOI.out; rwa [List.take_length] at h)
       go_wp2
       go_roundw
       case rel => exact ⟨j + 1, by omega, by go_num, mi, by omega, ⟨by rw [HMF.out, HM.out, HMT.out, List.append_assoc]⟩, ⟨by rw [HAT.out, HOK.out, HOF.out]; rfl⟩, HWI, HKI⟩
       case measure => simp [intOf]; omega
  · obtain rfl : j = l.length := by omega
    have HE0 := aM (show certErr l = 0 from by rw [HE.out]; have h := HOK.out; rw [List.take_length] at h; rw [h]; rfl)
    have HMF := aM (show m = certL l by rw [HM.out, List.take_length, HE_m0.out]; simp [certL, fieldsL])
    obtain ⟨A9, c9, hh9, hlc9, -, hC9⟩ := HW.out
    have hc9 := cell_at hh9 0 _ rfl
    have HC9 := aM hC9
    have HLC9 := aM hlc9
    clear hh9 hC9 hlc9
    go_wp2
    go_returns
    rw [HE0.out, ← HMF.out]
    exact ⟨⟨fun h => absurd rfl h, fun _ => ⟨A9, c9, rfl, HLC9.out, HC9.out⟩⟩, HBL.out _ HK.out⟩
end Go.Proofs.Ytnckonglodmfeaa.Ik
