/- Files under a run of calls; nil files; the fixed fact of the statements on files. -/
import Derived.Test.YtmklopaleiennaaFf
namespace Go.Proofs.Ytmklopaleiennaa.Fd
open Go.RowKit Go.Proofs.YtmklopaleiennaaW.PrintWords Go.Proofs.YtmklopaleiennaaW.PrintLast Go.Proofs.YtmklopaleiennaaW.PrintMore Go.Proofs.Ytmklopaleiennaa.B Go.Proofs.Ytmklopaleiennaa.Fs Go.Proofs.Ytmklopaleiennaa.Fc Go.Proofs.Ytmklopaleiennaa.Fw Go.Proofs.Ytmklopaleiennaa.R
set_option linter.unusedVariables false
set_option linter.unusedSimpArgs false
/-- A file that lies in N's blocks and new ones; since W0 nothing but these was turned. -/
def At (W0 : World) (N : Nat → Prop) (w : World) (g : Nat) (room : Int) (s : List Int) (q : List (Int × List Int)) : Prop :=
  ∃ own, FF w g own room s q ∧ (∀ k, own k → N k ∨ W0.heap.size ≤ k) ∧ Keep N W0 w ∧ FOk room s q
section
variable {W0 w w' : World} {N : Nat → Prop} {g : Nat} {room : Int} {s : List Int} {q : List (Int × List Int)}
theorem At.below (h : At W0 N w g room s q) (hb : Below w.heap.size w w') : At W0 N w' g room s q := by
  obtain ⟨own, h1, h2, h3, h4⟩ := h
  exact ⟨own, h1.below hb, h2, h3.trans (Keep.of_below hb), h4⟩
theorem At.alloc (h : At W0 N w g room s q) (o : Obj) : At W0 N (w.alloc o) g room s q := h.below ((Below.refl _ _).alloc (Nat.le_refl _) o)
theorem At.drew (h : At W0 N w g room s q) : At W0 N w.drew g room s q := h.below (Below.refl _ _).drew
theorem At.keep (h : At W0 N w g room s q) : Keep N W0 w := by
  obtain ⟨own, h1, h2, h3, h4⟩ := h
  exact h3
theorem At.ok (h : At W0 N w g room s q) : FOk room s q := by
  obtain ⟨own, h1, h2, h3, h4⟩ := h
  exact h4
theorem At.next {own own' : Nat → Prop} {s' : List Int} {q' : List (Int × List Int)} (h2 : ∀ k, own k → N k ∨ W0.heap.size ≤ k) (h3 : Keep N W0 w) (hk : Keep own w w') (h5 : FF w' g own' room s' q') (h6 : ∀ k, own' k → own k ∨ w.heap.size ≤ k) (hok : FOk room s' q') : At W0 N w' g room s' q' :=
  ⟨own', h5, fun k hk' => (h6 k hk').elim (h2 k) (fun h => .inr (Nat.le_trans h3.size h)), h3.then hk (fun k hl h => (h2 k h).elim id (fun h => by omega)), hok⟩
/-- From here on: what was made in the meantime stays. -/
theorem At.rebase {wb : World} (h : At W0 N w g room s q) (hb : Below w.heap.size w wb) : At wb (fun k => (N k ∨ W0.heap.size ≤ k) ∧ k < w.heap.size) wb g room s q := by
  obtain ⟨own, h1, h2, h3, h4⟩ := h
  exact ⟨own, h1.below hb, fun k hk => .inl ⟨h2 k hk, h1.lt.2.2 k hk⟩, Keep.refl _ _, h4⟩
/-- Back to what was before. -/
theorem At.back {wb : World} {N' : Nat → Prop} (h : At wb N' w g room s q) (hN : ∀ k, N' k → N k ∨ W0.heap.size ≤ k) (hb : Keep N W0 wb) : At W0 N w g room s q := by
  obtain ⟨own, h1, h2, h3, h4⟩ := h
  exact ⟨own, h1, fun k hk => (h2 k hk).elim (hN k) (fun h => .inr (Nat.le_trans hb.size h)), hb.then h3 (fun k hl h => (hN k h).elim id (fun h => by omega)), h4⟩
theorem at_bytes (h : At W0 N w g room s q) :
    Calls Try.prog 19 #[.pointer (some ⟨g, 0, none⟩)] w fun e w' => ∃ A c, e = .returned (.slice A (over q s).length c) ∧ kU8.C w' A (over q s).length (over q s) ∧ (∀ a, A = some a → w.heap.size ≤ a.block ∧ a.block < w'.heap.size) ∧ Below w.heap.size w w' ∧ At W0 N w' g room s q := by
  obtain ⟨own, h1, h2, h3, h4⟩ := h
  refine (bytes_calls h1 h4).mono ?_
  rintro e w' ⟨v, rfl, hu, hb⟩
  obtain ⟨A, c, rfl, -, hC, hA⟩ := hu.reads
  exact ⟨A, c, rfl, hC, hA, hb, own, h1.below hb, h2, h3.trans (Keep.of_below hb), h4⟩
theorem at_sure (h : At W0 N w g room s q) : Calls Try.prog 20 #[.pointer (some ⟨g, 0, none⟩)] w fun e w' => e = .returned (.int .i64 s.length) ∧ w = w' := by
  obtain ⟨own, h1, h2, h3, h4⟩ := h
  exact sure_calls h1
theorem at_sync (h : At W0 N w g room s q) :
    Calls Try.prog 17 #[.pointer (some ⟨g, 0, none⟩)] w fun e w' => e = .returned (.tuple #[]) ∧ At W0 N w' g room (over q s) [] := by
  obtain ⟨own, h1, h2, h3, h4⟩ := h
  refine (sync_calls h1 h4).mono ?_
  rintro e w' ⟨rfl, ⟨own', h5, h6⟩, h7⟩
  exact ⟨rfl, At.next h2 h3 h7 h5 h6 h4.sync⟩
theorem at_cut (h : At W0 N w g room s q) (n : Int) :
    Calls Try.prog 23 #[.pointer (some ⟨g, 0, none⟩), .int .i64 n] w fun e w' => e = .returned (.int .i64 (cErr (over q s).length n)) ∧ At W0 N w' g room (cutS s q n) (cutQ s q n) := by
  obtain ⟨own, h1, h2, h3, h4⟩ := h
  refine (cut_calls h1 h4 n).mono ?_
  rintro e w' ⟨rfl, ⟨own', h5, h6⟩, h7⟩
  exact ⟨rfl, At.next h2 h3 h7 h5 h6 (h4.cutAny n)⟩
theorem at_write (h : At W0 N w g room s q) (hql : q.length ≤ 1000000) (i : Int) (hi0 : -9223372036854775808 ≤ i) (hi1 : i ≤ 9223372036854775807) (A : Option Addr) (n cap : Nat) (c : List Int) (hn : c.length = n) (hC : kU8.C w A n c) (hby : By c) :
    Calls Try.prog 16 #[.pointer (some ⟨g, 0, none⟩), .int .i64 i, .slice A n cap] w fun e w' => e = .returned (.int .i64 (wErr room (over q s).length i n)) ∧ At W0 N w' g room s (wrQ room s q i c) := by
  subst hn
  obtain ⟨own, h1, h2, h3, h4⟩ := h
  refine (write_calls h1 h4 hql i hi0 hi1 A cap c hC).mono ?_
  rintro e w' ⟨rfl, ⟨own', h5, h6⟩, h7⟩
  exact ⟨rfl, At.next h2 h3 h7 h5 h6 (h4.writeAny i hby)⟩
theorem at_crash {w1 : World} (h : At W0 N w1 g room s q) (hb : Below w1.heap.size w1 w) (B : Option Addr) (n kc : Nat) (keep : List Int) (hn : keep.length = n) (hK : (Kd.int .i64).C w B n keep) (hB : ∀ a, B = some a → 0 < n → (w1.heap.size ≤ a.block ∨ ¬ N a.block ∧ a.block < W0.heap.size) ∧ a.block < w.heap.size) (hkr : ∀ x ∈ keep, -9223372036854775808 ≤ x ∧ x ≤ 9223372036854775807) :
    Calls Try.prog 18 #[.pointer (some ⟨g, 0, none⟩), .slice B n kc] w fun e w' => e = .returned (.tuple #[]) ∧ At W0 N w' g room (fallen keep 0 q s) [] := by
  subst hn
  obtain ⟨own, h1, h2, h3, h4⟩ := h
  refine (crash_calls (h1.below hb) h4 B kc keep hK (fun a ha h0 => ⟨fun ho => ?_, (hB a ha h0).2⟩) hkr).mono ?_
  · have := h1.lt.2.2 _ ho
    have h5 := h2 _ ho
    rcases (hB a ha h0).1 with h | ⟨h, h'⟩
    · omega
    · rcases h5 with h5 | h5
      · exact h h5
      · omega
  · rintro e w' ⟨rfl, ⟨own', h5, h6⟩, h7⟩
    exact ⟨rfl, At.next h2 (h3.trans (Keep.of_below hb)) h7 h5 h6 (h4.crash keep)⟩
theorem at_new (W0 : World) (room : Int) (w : World) (hb : Below W0.heap.size W0 w) (h0 : 0 ≤ room) (h1 : room ≤ 4194304) :
    Calls Try.prog 15 #[.int .i64 room] w fun e w' => ∃ g, e = .returned (.tuple #[.pointer (some ⟨g, 0, none⟩), .int .i64 0]) ∧ At W0 (fun _ => False) w' g room [] [] := by
  refine (new_calls room w h0 h1).mono ?_
  rintro e w' ⟨rfl, h2, h3⟩
  exact ⟨_, rfl, _, h2, fun k hk => .inr (by have := hb.size; omega), Keep.of_below (hb.trans (h3.mono hb.size)), h0, h1, by simpa using h0, fun x hx => (by cases hx), trivial⟩
/-! The same, with the answers spelled. -/
theorem at_bytesE (h : At W0 N w g room s q) (b : List Int) (n : Nat) (hb : over q s = b) (hn : b.length = n) :
    Calls Try.prog 19 #[.pointer (some ⟨g, 0, none⟩)] w fun e w' => ∃ A c, e = .returned (.slice A n c) ∧ kU8.C w' A n b ∧ (∀ a, A = some a → w.heap.size ≤ a.block ∧ a.block < w'.heap.size) ∧ Below w.heap.size w w' ∧ At W0 N w' g room s q := by
  subst hb
  subst hn
  exact at_bytes h
theorem at_syncE (h : At W0 N w g room s q) (b : List Int) (hb : over q s = b) :
    Calls Try.prog 17 #[.pointer (some ⟨g, 0, none⟩)] w fun e w' => e = .returned (.tuple #[]) ∧ At W0 N w' g room b [] := by
  subst hb
  exact at_sync h
theorem at_writeE (h : At W0 N w g room s q) (hql : q.length ≤ 1000000) (i : Int) (hi0 : -9223372036854775808 ≤ i) (hi1 : i ≤ 9223372036854775807) (A : Option Addr) (n cap : Nat) (c : List Int) (hn : c.length = n) (hC : kU8.C w A n c) (hby : By c) (r : Int) (q' : List (Int × List Int)) (hr : wErr room (over q s).length i n = r) (hq : r = 0 → q ++ [(i, c)] = q') (hq2 : r ≠ 0 → q = q') :
    Calls Try.prog 16 #[.pointer (some ⟨g, 0, none⟩), .int .i64 i, .slice A n cap] w fun e w' => e = .returned (.int .i64 r) ∧ At W0 N w' g room s q' := by
  subst hr
  have e : wrQ room s q i c = q' := by
    unfold wrQ
    rw [hn]
    split
    · rename_i h; exact hq h
    · rename_i h; exact hq2 h
  rw [← e]
  exact at_write h hql i hi0 hi1 A n cap c hn hC hby
theorem at_crashE {w1 : World} (h : At W0 N w1 g room s q) (hb : Below w1.heap.size w1 w) (B : Option Addr) (n kc : Nat) (keep : List Int) (hn : keep.length = n) (hK : (Kd.int .i64).C w B n keep) (hB : ∀ a, B = some a → 0 < n → (w1.heap.size ≤ a.block ∨ ¬ N a.block ∧ a.block < W0.heap.size) ∧ a.block < w.heap.size) (hkr : ∀ x ∈ keep, -9223372036854775808 ≤ x ∧ x ≤ 9223372036854775807) (b : List Int) (hf : fallen keep 0 q s = b) :
    Calls Try.prog 18 #[.pointer (some ⟨g, 0, none⟩), .slice B n kc] w fun e w' => e = .returned (.tuple #[]) ∧ At W0 N w' g room b [] := by
  subst hf
  exact at_crash h hb B n kc keep hn hK hB hkr
end
/-! ### nil files -/
theorem nil_bytes (w : World) : Calls Try.prog 19 #[.pointer none] w fun e w' => e = .returned (.slice none 0 0) ∧ w = w' := by
  go_enter Try.func19, Try.ntmps19
  go_wp2
  go_ret
  exact ⟨rfl, rfl⟩
theorem nil_sure (w : World) : Calls Try.prog 20 #[.pointer none] w fun e w' => e = .returned (.int .i64 0) ∧ w = w' := by
  go_enter Try.func20, Try.ntmps20
  go_wp2
  go_ret
  exact ⟨rfl, rfl⟩
theorem nil_sync (w : World) : Calls Try.prog 17 #[.pointer none] w fun e w' => e = .returned (.tuple #[]) ∧ w = w' := by
  go_enter Try.func17, Try.ntmps17
  go_wp2
  first | go_end0 | ((try simp only [Exit.inBlock, Exit.then]); refine bodyPost_ret (results_none rfl _ _ _) rfl ?_)
  exact ⟨rfl, rfl⟩
theorem nil_crash (w : World) (B : Option Addr) (n c : Nat) : Calls Try.prog 18 #[.pointer none, .slice B n c] w fun e w' => e = .returned (.tuple #[]) ∧ w = w' := by
  go_enter Try.func18, Try.ntmps18
  go_wp2
  first | go_end0 | ((try simp only [Exit.inBlock, Exit.then]); refine bodyPost_ret (results_none rfl _ _ _) rfl ?_)
  exact ⟨rfl, rfl⟩
theorem nil_cut (w : World) (n : Int) : Calls Try.prog 23 #[.pointer none, .int .i64 n] w fun e w' => e = .returned (.int .i64 1) ∧ w = w' := by
  go_enter Try.func23, Try.ntmps23
  go_wp2
  go_ret
  exact ⟨rfl, rfl⟩
theorem nil_write (w : World) (n : Int) (B : Option Addr) (m c : Nat) : Calls Try.prog 16 #[.pointer none, .int .i64 n, .slice B m c] w fun e w' => e = .returned (.int .i64 1) ∧ w = w' := by
  go_enter Try.func16, Try.ntmps16
  go_wp2
  go_ret
  exact ⟨rfl, rfl⟩
/-- What a slice's bytes are as a string. -/
theorem C_str {w : World} {A : Option Addr} {n c : Nat} {xs : List Int} (h : kU8.C w A n xs) : (convert 22 9 (.slice A n c)).run Try.prog w = .ok (.string (strOfNums xs)) w :=
  Kd.C_string (P := Try.prog) Try.underlying22 Try.underlying5 Try.underlying9 (c := c) h
end Go.Proofs.Ytmklopaleiennaa.Fd
