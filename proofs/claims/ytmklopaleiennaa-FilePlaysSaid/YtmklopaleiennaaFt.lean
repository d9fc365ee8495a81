/- Two files side by side: the program's and the reference's. -/
import Derived.Test.YtmklopaleiennaaFq
import Derived.Test.YtmklopaleiennaaFg
namespace Go.Proofs.Ytmklopaleiennaa.Ft
open Go.RowKit Go.Proofs.YtmklopaleiennaaW.PrintWords Go.Proofs.YtmklopaleiennaaW.PrintLast Go.Proofs.YtmklopaleiennaaW.PrintMore Go.Proofs.Ytmklopaleiennaa.B Go.Proofs.Ytmklopaleiennaa.Fs Go.Proofs.Ytmklopaleiennaa.Fc Go.Proofs.Ytmklopaleiennaa.Fw Go.Proofs.Ytmklopaleiennaa.R Go.Proofs.Ytmklopaleiennaa.S
set_option linter.unusedVariables false
set_option linter.unusedSimpArgs false
abbrev FF := Fd.FF
abbrev FM := Fr.FM
/-- Both lie in N's blocks and new ones, apart; since W0 nothing but these was turned. -/
def Two (W0 : World) (N : Nat → Prop) (w : World) (g1 g2 : Nat) (room : Int) (s1 : List Int) (q1 : List (Int × List Int)) (s2 : List Int) (q2 : List (Int × List Int)) : Prop :=
  ∃ own1 own2, FF w g1 own1 room s1 q1 ∧ FM w g2 own2 room s2 q2 ∧ (∀ k, own1 k → ¬ own2 k) ∧ (∀ k, own1 k ∨ own2 k → N k ∨ W0.heap.size ≤ k) ∧ Keep N W0 w ∧ FOk room s1 q1 ∧ FOk room s2 q2
section
variable {W0 w w' : World} {N : Nat → Prop} {g1 g2 : Nat} {room : Int} {s1 s2 s' : List Int} {q1 q2 q' : List (Int × List Int)}
theorem Two.below (h : Two W0 N w g1 g2 room s1 q1 s2 q2) (hb : Below w.heap.size w w') : Two W0 N w' g1 g2 room s1 q1 s2 q2 := by
  obtain ⟨o1, o2, h1, h2, h3, h4, h5, h6⟩ := h
  exact ⟨o1, o2, h1.below hb, h2.below hb, h3, h4, h5.trans (Keep.of_below hb), h6⟩
theorem Two.alloc (h : Two W0 N w g1 g2 room s1 q1 s2 q2) (o : Obj) : Two W0 N (w.alloc o) g1 g2 room s1 q1 s2 q2 := h.below ((Below.refl _ _).alloc (Nat.le_refl _) o)
theorem Two.drew (h : Two W0 N w g1 g2 room s1 q1 s2 q2) : Two W0 N w.drew g1 g2 room s1 q1 s2 q2 := h.below (Below.refl _ _).drew
theorem Two.keep (h : Two W0 N w g1 g2 room s1 q1 s2 q2) : Keep N W0 w := by
  obtain ⟨o1, o2, h1, h2, h3, h4, h5, h6⟩ := h
  exact h5
theorem Two.ok (h : Two W0 N w g1 g2 room s1 q1 s2 q2) : FOk room s1 q1 ∧ FOk room s2 q2 := by
  obtain ⟨o1, o2, h1, h2, h3, h4, h5, h6⟩ := h
  exact h6
/-- A store into a block that is neither's. -/
theorem Two.set {k : Nat} (h : Two W0 N w g1 g2 room s1 q1 s2 q2) (hk : W0.heap.size ≤ k → False) (hN : ¬ N k) (j : Nat) (u : Value) (M : Nat → Prop) (hM : ∀ i, N i → M i) (hMk : M k) : Two W0 M (w.setCell ⟨k, j, none⟩ u) g1 g2 room s1 q1 s2 q2 := by
  obtain ⟨o1, o2, h1, h2, h3, h4, h5, h6⟩ := h
  have hkp : Keep (fun i => i = k) w (w.setCell ⟨k, j, none⟩ u) := (Keep.refl _ _).setCell _ _ (fun _ => rfl)
  have hn : ∀ i, o1 i ∨ o2 i → ¬ i = k := fun i hi e => by
    subst e
    rcases h4 i hi with h | h
    · exact hN h
    · exact hk h
  exact ⟨o1, o2, h1.move hkp (fun i hi => hn i (.inl hi)), h2.move hkp (fun i hi => hn i (.inr hi)), h3, fun i hi => (h4 i hi).imp (hM i) id, (h5.mono (fun i _ hi => hM i hi)).then hkp (fun i _ e => by rw [e]; exact hMk), h6⟩
/-- From here on: what was made in the meantime stays. -/
theorem Two.rebase {wb : World} (h : Two W0 N w g1 g2 room s1 q1 s2 q2) (hb : Below w.heap.size w wb) : Two wb (fun k => (N k ∨ W0.heap.size ≤ k) ∧ k < w.heap.size) wb g1 g2 room s1 q1 s2 q2 := by
  obtain ⟨o1, o2, h1, h2, h3, h4, h5, h6⟩ := h
  exact ⟨o1, o2, h1.below hb, h2.below hb, h3, fun k hk => .inl ⟨h4 k hk, hk.elim (h1.lt.2.2 k) (h2.lt.2.2 k)⟩, Keep.refl _ _, h6⟩
theorem Two.mono {M : Nat → Prop} (h : Two W0 N w g1 g2 room s1 q1 s2 q2) (hM : ∀ k, N k → M k) : Two W0 M w g1 g2 room s1 q1 s2 q2 := by
  obtain ⟨o1, o2, h1, h2, h3, h4, h5, h6⟩ := h
  exact ⟨o1, o2, h1, h2, h3, fun k hk => (h4 k hk).imp (hM k) id, h5.mono (fun k _ hk => hM k hk), h6⟩
/-- The same behind a store into a block that is neither's. -/
theorem Two.setNew {k : Nat} (h : Two W0 N w g1 g2 room s1 q1 s2 q2) (hk : k < W0.heap.size) (hN : ¬ N k) (j : Nat) (u : Value) : Two (w.setCell ⟨k, j, none⟩ u) (fun i => (N i ∨ W0.heap.size ≤ i) ∧ i < w.heap.size) (w.setCell ⟨k, j, none⟩ u) g1 g2 room s1 q1 s2 q2 := by
  obtain ⟨o1, o2, h1, h2, h3, h4, h5, h6⟩ := h
  have hkp : Keep (fun i => i = k) w (w.setCell ⟨k, j, none⟩ u) := (Keep.refl _ _).setCell _ _ (fun _ => rfl)
  have hn : ∀ i, o1 i ∨ o2 i → ¬ i = k := fun i hi e => by
    subst e
    rcases h4 i hi with h | h
    · exact hN h
    · omega
  exact ⟨o1, o2, h1.move hkp (fun i hi => hn i (.inl hi)), h2.move hkp (fun i hi => hn i (.inr hi)), h3, fun i hi => .inl ⟨h4 i hi, hi.elim (h1.lt.2.2 i) (h2.lt.2.2 i)⟩, Keep.refl _ _, h6⟩
/-- Other blocks are turned. -/
theorem Two.touch {S M : Nat → Prop} (h : Two W0 N w g1 g2 room s1 q1 s2 q2) (hk : Keep S w w') (hS : ∀ k, S k → ¬ N k ∧ k < W0.heap.size) (hM : ∀ k, N k ∨ S k → M k) : Two W0 M w' g1 g2 room s1 q1 s2 q2 := by
  obtain ⟨o1, o2, h1, h2, h3, h4, h5, h6⟩ := h
  have hn : ∀ i, o1 i ∨ o2 i → ¬ S i := fun i hi hs => by
    obtain ⟨h7, h8⟩ := hS i hs
    rcases h4 i hi with h | h
    · exact h7 h
    · omega
  exact ⟨o1, o2, h1.move hk (fun i hi => hn i (.inl hi)), h2.move hk (fun i hi => hn i (.inr hi)), h3, fun i hi => (h4 i hi).imp (fun h => hM i (.inl h)) id, (h5.mono (fun i _ hi => hM i (.inl hi))).then hk (fun i _ hi => hM i (.inr hi)), h6⟩
theorem Two.back {wb : World} {N' : Nat → Prop} (h : Two wb N' w g1 g2 room s1 q1 s2 q2) (hN : ∀ k, N' k → N k ∨ W0.heap.size ≤ k) (hb : Keep N W0 wb) : Two W0 N w g1 g2 room s1 q1 s2 q2 := by
  obtain ⟨o1, o2, h1, h2, h3, h4, h5, h6⟩ := h
  exact ⟨o1, o2, h1, h2, h3, fun k hk => (h4 k hk).elim (hN k) (fun h => .inr (Nat.le_trans hb.size h)), hb.then h5 (fun k hl h => (hN k h).elim id (fun h => by omega)), h6⟩
theorem Two.f {F : Nat} {args : Array Value} {r : Value} (h : Two W0 N w g1 g2 room s1 q1 s2 q2)
    (hc : ∀ own, FF w g1 own room s1 q1 → (∀ k, own k → N k ∨ W0.heap.size ≤ k) → Calls Try.prog F args w fun e w' => e = .returned r ∧ (∃ own', FF w' g1 own' room s' q' ∧ ∀ k, own' k → own k ∨ w.heap.size ≤ k) ∧ Keep own w w') (hok : FOk room s' q') :
    Calls Try.prog F args w fun e w' => e = .returned r ∧ Two W0 N w' g1 g2 room s' q' s2 q2 := by
  obtain ⟨o1, o2, h1, h2, h3, h4, h5, h6⟩ := h
  refine (hc o1 h1 (fun k hk => h4 k (.inl hk))).mono ?_
  rintro e w' ⟨rfl, ⟨o', h7, h8⟩, h9⟩
  refine ⟨rfl, o', o2, h7, h2.move h9 (fun k h2 h1 => h3 k h1 h2), fun k hk hk2 => ?_, fun k hk => ?_, h5.then h9 (fun k hl h => (h4 k (.inl h)).elim id (fun h => by omega)), hok, h6.2⟩
  · have := h2.lt.2.2 k hk2
    rcases h8 k hk with h | h
    · exact h3 k h hk2
    · omega
  · rcases hk with hk | hk
    · exact (h8 k hk).elim (fun h => h4 k (.inl h)) (fun h => .inr (Nat.le_trans h5.size h))
    · exact h4 k (.inr hk)
theorem Two.m {F : Nat} {args : Array Value} {r : Value} (h : Two W0 N w g1 g2 room s1 q1 s2 q2)
    (hc : ∀ own, FM w g2 own room s2 q2 → (∀ k, own k → N k ∨ W0.heap.size ≤ k) → Calls Try.prog F args w fun e w' => e = .returned r ∧ (∃ own', FM w' g2 own' room s' q' ∧ ∀ k, own' k → own k ∨ w.heap.size ≤ k) ∧ Keep own w w') (hok : FOk room s' q') :
    Calls Try.prog F args w fun e w' => e = .returned r ∧ Two W0 N w' g1 g2 room s1 q1 s' q' := by
  obtain ⟨o1, o2, h1, h2, h3, h4, h5, h6⟩ := h
  refine (hc o2 h2 (fun k hk => h4 k (.inr hk))).mono ?_
  rintro e w' ⟨rfl, ⟨o', h7, h8⟩, h9⟩
  refine ⟨rfl, o1, o', h1.move h9 (fun k h1 h2 => h3 k h1 h2), h7, fun k hk hk2 => ?_, fun k hk => ?_, h5.then h9 (fun k hl h => (h4 k (.inr h)).elim id (fun h => by omega)), h6.1, hok⟩
  · have := h1.lt.2.2 k hk
    rcases h8 k hk2 with h | h
    · exact h3 k hk h
    · omega
  · rcases hk with hk | hk
    · exact h4 k (.inl hk)
    · exact (h8 k hk).elim (fun h => h4 k (.inr h)) (fun h => .inr (Nat.le_trans h5.size h))
theorem f_bytes (h : Two W0 N w g1 g2 room s1 q1 s2 q2) (b : List Int) (n : Nat) (hb : over q1 s1 = b) (hn : b.length = n) :
    Calls Try.prog 19 #[.pointer (some ⟨g1, 0, none⟩)] w fun e w' => ∃ A c, e = .returned (.slice A n c) ∧ Buf .u8 5 w' (fun k => w.heap.size ≤ k) (.slice A n c) b ∧ Below w.heap.size w w' ∧ Two W0 N w' g1 g2 room s1 q1 s2 q2 := by
  subst hb
  subst hn
  have ht := h
  obtain ⟨o1, o2, h1, h2, h3, h4, h5, h6⟩ := h
  refine (Fd.bytes_calls h1 h6.1).mono ?_
  rintro e w' ⟨v, rfl, hu, hb⟩
  obtain ⟨A, c, rfl, -⟩ := hu.reads
  exact ⟨A, c, rfl, hu, hb, ht.below hb⟩
theorem m_bytes (h : Two W0 N w g1 g2 room s1 q1 s2 q2) (b : List Int) (n : Nat) (hb : over q2 s2 = b) (hn : b.length = n) :
    Calls Try.prog 21 #[.pointer (some ⟨g2, 0, none⟩)] w fun e w' => ∃ A c, e = .returned (.slice A n c) ∧ Buf .u8 5 w' (fun k => w.heap.size ≤ k) (.slice A n c) b ∧ Below w.heap.size w w' ∧ Two W0 N w' g1 g2 room s1 q1 s2 q2 := by
  subst hb
  subst hn
  have ht := h
  obtain ⟨o1, o2, h1, h2, h3, h4, h5, h6⟩ := h
  refine (Fr.bytes_calls h2 h6.2).mono ?_
  rintro e w' ⟨v, rfl, hu, hb⟩
  obtain ⟨A, c, rfl, -⟩ := hu.reads
  exact ⟨A, c, rfl, hu, hb, ht.below hb⟩
theorem f_sure (h : Two W0 N w g1 g2 room s1 q1 s2 q2) : Calls Try.prog 20 #[.pointer (some ⟨g1, 0, none⟩)] w fun e w' => e = .returned (.int .i64 s1.length) ∧ w = w' := by
  obtain ⟨o1, o2, h1, h2, h3, h4, h5, h6⟩ := h
  exact Fd.sure_calls h1
theorem f_sync (h : Two W0 N w g1 g2 room s1 q1 s2 q2) : Calls Try.prog 17 #[.pointer (some ⟨g1, 0, none⟩)] w fun e w' => e = .returned (.tuple #[]) ∧ Two W0 N w' g1 g2 room (over q1 s1) [] s2 q2 :=
  h.f (fun own h1 _ => Fd.sync_calls h1 h.ok.1) h.ok.1.sync
theorem m_sync (h : Two W0 N w g1 g2 room s1 q1 s2 q2) : Calls Try.prog 22 #[.pointer (some ⟨g2, 0, none⟩)] w fun e w' => e = .returned (.tuple #[]) ∧ Two W0 N w' g1 g2 room s1 q1 (over q2 s2) [] :=
  h.m (fun own h1 _ => Fr.sync_calls h1 h.ok.2) h.ok.2.sync
theorem f_cut (h : Two W0 N w g1 g2 room s1 q1 s2 q2) (n : Int) : Calls Try.prog 23 #[.pointer (some ⟨g1, 0, none⟩), .int .i64 n] w fun e w' => e = .returned (.int .i64 (cErr (over q1 s1).length n)) ∧ Two W0 N w' g1 g2 room (cutS s1 q1 n) (cutQ s1 q1 n) s2 q2 :=
  h.f (fun own h1 _ => Fd.cut_calls h1 h.ok.1 n) (h.ok.1.cutAny n)
theorem m_cut (h : Two W0 N w g1 g2 room s1 q1 s2 q2) (n : Int) : Calls Try.prog 24 #[.pointer (some ⟨g2, 0, none⟩), .int .i64 n] w fun e w' => e = .returned (.int .i64 (cErr (over q2 s2).length n)) ∧ Two W0 N w' g1 g2 room s1 q1 (cutS s2 q2 n) (cutQ s2 q2 n) :=
  h.m (fun own h1 _ => Fr.cut_calls h1 h.ok.2 n) (h.ok.2.cutAny n)
theorem f_crash (h : Two W0 N w g1 g2 room s1 q1 s2 q2) (B : Option Addr) (kc : Nat) (keep : List Int) (hK : (Kd.int .i64).C w B keep.length keep) (hB : ∀ a, B = some a → 0 < keep.length → ¬ N a.block ∧ a.block < W0.heap.size) (hkr : ∀ x ∈ keep, -9223372036854775808 ≤ x ∧ x ≤ 9223372036854775807) :
    Calls Try.prog 18 #[.pointer (some ⟨g1, 0, none⟩), .slice B keep.length kc] w fun e w' => e = .returned (.tuple #[]) ∧ Two W0 N w' g1 g2 room (fallen keep 0 q1 s1) [] s2 q2 :=
  h.f (fun own h1 h2 => Fd.crash_calls h1 h.ok.1 B kc keep hK (fun a ha h0 => ⟨fun ho => by
    obtain ⟨h3, h4⟩ := hB a ha h0
    rcases h2 _ ho with h | h
    · exact h3 h
    · omega, Nat.lt_of_lt_of_le (hB a ha h0).2 h.keep.size⟩) hkr) (h.ok.1.crash keep)
theorem m_crash (h : Two W0 N w g1 g2 room s1 q1 s2 q2) (B : Option Addr) (kc : Nat) (keep : List Int) (hK : (Kd.int .i64).C w B keep.length keep) (hkr : ∀ x ∈ keep, -9223372036854775808 ≤ x ∧ x ≤ 9223372036854775807) :
    Calls Try.prog 25 #[.pointer (some ⟨g2, 0, none⟩), .slice B keep.length kc] w fun e w' => e = .returned (.tuple #[]) ∧ Two W0 N w' g1 g2 room s1 q1 (fallen keep 0 q2 s2) [] :=
  h.m (fun own h1 _ => Fr.crash_calls h1 h.ok.2 B kc keep hK hkr) (h.ok.2.crash keep)
theorem f_write (h : Two W0 N w g1 g2 room s1 q1 s2 q2) (hql : q1.length ≤ 1000000) (i : Int) (hi0 : -9223372036854775808 ≤ i) (hi1 : i ≤ 9223372036854775807) (A : Option Addr) (cap : Nat) (c : List Int) (hC : kU8.C w A c.length c) (hby : By c) :
    Calls Try.prog 16 #[.pointer (some ⟨g1, 0, none⟩), .int .i64 i, .slice A c.length cap] w fun e w' => e = .returned (.int .i64 (wErr room (over q1 s1).length i c.length)) ∧ Two W0 N w' g1 g2 room s1 (wrQ room s1 q1 i c) s2 q2 :=
  h.f (fun own h1 _ => Fd.write_calls h1 h.ok.1 hql i hi0 hi1 A cap c hC) (h.ok.1.writeAny i hby)
theorem m_write (h : Two W0 N w g1 g2 room s1 q1 s2 q2) (hql : q2.length ≤ 1000000) (i : Int) (hi0 : -9223372036854775808 ≤ i) (hi1 : i ≤ 9223372036854775807) (A : Option Addr) (cap : Nat) (c : List Int) (hcl : c.length ≤ 1000000) (hC : kU8.C w A c.length c) (hby : By c) :
    Calls Try.prog 26 #[.pointer (some ⟨g2, 0, none⟩), .int .i64 i, .slice A c.length cap] w fun e w' => e = .returned (.int .i64 (wErr room (over q2 s2).length i c.length)) ∧ Two W0 N w' g1 g2 room s1 q1 s2 (wrQ room s2 q2 i c) :=
  h.m (fun own h1 _ => Fr.write_calls h1 h.ok.2 hql i hi0 hi1 A cap c hcl hC) (h.ok.2.writeAny i hby)
/-- What the reference's file keeps sure. -/
theorem Two.safe (h : Two W0 N w g1 g2 room s1 q1 s2 q2) : ∃ A c cs, w.heap[g2]? = some (.cells cs 44 (0, 0)) ∧ cs[1]? = some (.slice A s2.length c) ∧ g2 < w.heap.size := by
  obtain ⟨o1, o2, h1, h2, h3, h4, h5, h6⟩ := h
  obtain ⟨v1, v2, S1, S2, hh, hb, -⟩ := h2
  obtain ⟨A, c, rfl, -⟩ := hb.reads
  exact ⟨A, c, _, hh, rfl, blk_lt hh⟩
end
end Go.Proofs.Ytmklopaleiennaa.Ft
