/- A call and its return come back behind the call: the walk. -/
import Derived.Test.YtbchiolgbhckhaaCallsRun
set_option linter.unusedVariables false
set_option linter.unusedSimpArgs false
namespace Go.Proofs.Ytbchiolgbhckhaa.Mach
open Go.RowKit Go.Proofs.YtbchiolgbhckhaaW.PrintWords Go.Proofs.YtbchiolgbhckhaaW.PrintMore Go.Proofs.Ytbchiolgbhckhaa.PMachRuns
set_option maxHeartbeats 4000000 in
set_option maxRecDepth 100000 in
theorem ca_code (n : Int) (n0 : 0 ≤ n) (n1 : n ≤ 255) :
    mortiselaw3_Code.f 60 [⟨3, 1, 0, 0, n⟩, ⟨3, 2, 0, 0, 1⟩, ⟨10, 0, 0, 0, 4⟩, ⟨0, 0, 0, 0, 0⟩, ⟨8, 1, 0, 0, 3⟩, ⟨18, 1, 1, 2, 0⟩, ⟨10, 0, 0, 0, 4⟩, ⟨12, 0, 0, 0, 0⟩, ⟨12, 0, 0, 0, 0⟩] = some (caC n) := by
  have e0 : mortiseref2_Encode.f 58 3 1 0 0 n = some (word5 3 1 0 0 n, 0) := enc_k 49 3 1 0 0 n (by omega) (by omega) (by omega) (by omega) (by omega)
  have e1 : mortiseref2_Encode.f 56 3 2 0 0 1 = some (word5 3 2 0 0 1, 0) := enc_k 47 3 2 0 0 1 (by omega) (by omega) (by omega) (by omega) (by omega)
  have e2 : mortiseref2_Encode.f 54 10 0 0 0 4 = some (word5 10 0 0 0 4, 0) := enc_k 45 10 0 0 0 4 (by omega) (by omega) (by omega) (by omega) (by omega)
  have e3 : mortiseref2_Encode.f 52 0 0 0 0 0 = some (0, 0) := enc_k 43 0 0 0 0 0 (by omega) (by omega) (by omega) (by omega) (by omega)
  have e4 : mortiseref2_Encode.f 50 8 1 0 0 3 = some (word5 8 1 0 0 3, 0) := enc_k 41 8 1 0 0 3 (by omega) (by omega) (by omega) (by omega) (by omega)
  have e5 : mortiseref2_Encode.f 48 18 1 1 2 0 = some (word5 18 1 1 2 0, 0) := enc_k 39 18 1 1 2 0 (by omega) (by omega) (by omega) (by omega) (by omega)
  have e6 : mortiseref2_Encode.f 46 10 0 0 0 4 = some (word5 10 0 0 0 4, 0) := enc_k 37 10 0 0 0 4 (by omega) (by omega) (by omega) (by omega) (by omega)
  have e7 : mortiseref2_Encode.f 44 12 0 0 0 0 = some (word5 12 0 0 0 0, 0) := enc_k 35 12 0 0 0 0 (by omega) (by omega) (by omega) (by omega) (by omega)
  have e8 : mortiseref2_Encode.f 42 12 0 0 0 0 = some (word5 12 0 0 0 0, 0) := enc_k 33 12 0 0 0 0 (by omega) (by omega) (by omega) (by omega) (by omega)
  simp [mortiselaw3_Code.f, mortiselaw3_Code.l0, mortiselaw3_Code.j1, rd_T50, e0, e1, e2, e3, e4, e5, e6, e7, e8, wrap64, caC]
theorem caC_in (n : Int) (n0 : 0 ≤ n) (n1 : n ≤ 255) (k : Nat) : -9223372036854775808 ≤ (caC n).getD k 0 ∧ (caC n).getD k 0 ≤ 9223372036854775807 := by
  rcases k with _ | _ | _ | _ | _ | _ | _ | _ | _ | k
  · show _ ≤ word5 3 1 0 0 n ∧ word5 3 1 0 0 n ≤ _
    unfold word5; omega
  all_goals simp [caC, word5]
theorem ca_new (n : Int) (n0 : 0 ≤ n) (n1 : n ≤ 255) (M : Nat) (hM : M ≤ 255) {w : World} {a : Addr} {cap : Nat} (h : Reads w (.slice (some a) (caC n).length cap) (caC n).length (nums .i64 (caC n))) :
    Calls Try.prog 14 #[.agg #[.slice (some a) 9 cap, .slice none 0 0, .int .i64 0], .int .i64 (M : Int), .slice none 0 0] w fun e w' => ∃ L, e = .returned (.tuple #[.pointer (some ⟨L.m, 0, none⟩), .int .i64 0]) ∧ Holds w' L (fresh (caC n) [] [] 0 M) ∧ Below w.heap.size w w' ∧ ∀ b, L.foot [] b → w.heap.size ≤ b := by
  exact new_ok a none none 9 cap 0 0 0 0 M 0 _ [] [] w (by decide) (by decide) (by decide) (by decide) (by decide) (by omega) (by omega) (by decide) h (reads_nil w .i64) (reads_nil w .u8) (caC_in n n0 n1) (by intro v hv; cases hv)
theorem ca_mrun_bad (n M : Nat) (hn : n ≤ 255) (hM : M ≤ 255) (hb : (M : Int) ≤ n) {w : World} {L : Lay} (h : Holds w L (fresh (caC n) [] [] 0 M)) :
    Calls Try.prog 25 #[.pointer (some ⟨L.m, 0, none⟩), .int .i64 3000] w fun e w' => ∃ A m c p st, e = .returned (.agg #[.int .i64 5, .int .i64 p, .slice A m c, .int .i64 st]) ∧ Far (L.foot []) w w' := by
  refine (run_any h (Nat.zero_le _) 3000 (by decide)).mono ?_
  rintro e w' ⟨L', B, hN, ⟨v, rfl, hv⟩, hB1, hB2⟩
  obtain ⟨A, c, rfl⟩ := own_slice hv
  have k := (ca_run n M hn hM).1 hb
  exact ⟨A, _, c, _, _, by rw [k], hN.far⟩
theorem ca_mrun_ok (n M : Nat) (hn : n ≤ 255) (hM : M ≤ 255) (hb : ¬ (M : Int) ≤ n) {w : World} {L : Lay} (h : Holds w L (fresh (caC n) [] [] 0 M)) :
    Calls Try.prog 25 #[.pointer (some ⟨L.m, 0, none⟩), .int .i64 3000] w fun e w' => ∃ A m c p L' S, e = .returned (.agg #[.int .i64 1, .int .i64 p, .slice A m c, .int .i64 (4 * (n : Int) + 6)]) ∧ Holds w' L' S ∧ L'.m = L.m ∧ S.reg 15 = M ∧ S.reg 1 = 0 ∧ Far (L.foot []) w w' := by
  refine (run_any h (Nat.zero_le _) 3000 (by decide)).mono ?_
  rintro e w' ⟨L', B, hN, ⟨v, rfl, hv⟩, hB1, hB2⟩
  obtain ⟨A, c, rfl⟩ := own_slice hv
  obtain ⟨k1, k2, k3, k4⟩ := (ca_run n M hn hM).2 hb
  exact ⟨A, _, c, _, L', _, by rw [k1, k4], hN.holds, hN.same, k2, k3, hN.far⟩
set_option maxRecDepth 100000 in
set_option maxHeartbeats 1000000 in
theorem machCalls_walk (a b : Int) (w : World) (ha : (Lit.int .u8 a).wf = true) (hb : (Lit.int .u8 b).wf = true) : Calls Try.prog 6 #[.int .u8 a, .int .u8 b] w fun e w' => e = .returned (.bool true) ∧ Below w.heap.size w w' := by
  obtain ⟨a0, a1⟩ := Num.wf_u8 ha
  obtain ⟨b0, b1⟩ := Num.wf_u8 hb
  obtain ⟨n, rfl⟩ : ∃ n : Nat, a = (n : Int) := ⟨a.toNat, by omega⟩
  obtain ⟨M, rfl⟩ : ∃ M : Nat, b = (M : Int) := ⟨b.toNat, by omega⟩
  clear ha hb
  have hcd := code_any 60 w.heap.size 9 _ _ (w.alloc (.cells #[.int .i64 3, .int .i64 1, .int .i64 0, .int .i64 0, .int .i64 (n : Int), .int .i64 3, .int .i64 2, .int .i64 0, .int .i64 0, .int .i64 1, .int .i64 10, .int .i64 0, .int .i64 0, .int .i64 0, .int .i64 4, .int .i64 0, .int .i64 0, .int .i64 0, .int .i64 0, .int .i64 0, .int .i64 8, .int .i64 1, .int .i64 0, .int .i64 0, .int .i64 3, .int .i64 18, .int .i64 1, .int .i64 1, .int .i64 2, .int .i64 0, .int .i64 10, .int .i64 0, .int .i64 0, .int .i64 0, .int .i64 4, .int .i64 12, .int .i64 0, .int .i64 0, .int .i64 0, .int .i64 0, .int .i64 12, .int .i64 0, .int .i64 0, .int .i64 0, .int .i64 0] 50)) _ _ (heap_alloc_new w _) rfl (by simp) (by simp) (ca_code (n : Int) (by omega) (by omega))
  have hnew : ∀ w a cap, _ → _ := fun w a cap h => ca_new (n : Int) (by omega) (by omega) M (by omega) (w := w) (a := a) (cap := cap) h
  by_cases hle : (M : Int) ≤ n
  · have hrun : ∀ w L, _ → _ := fun w L h => ca_mrun_bad n M (by omega) (by omega) hle (w := w) (L := L) h
    go_enter Try.func6, Try.ntmps6
    go_wp2_with (go_at_call 26; refine hcd.mono ?_; rintro e w2 ⟨A, cap, rfl, ho, hb⟩; obtain ⟨g, cap', hA⟩ := own_form ho (by simp [caC]); cases hA; have hw2 : Below w.heap.size w w2 := bnext ((Below.refl _ _).alloc (Nat.le_refl _) _) hb)
    refine (hnew _ _ _ ((own_reads ho).below ((Below.refl _ _).alloc (Nat.le_refl _) _))).mono ?_
    rintro e w3 ⟨L, rfl, hH, hb3, hft⟩
    go_wp2_with (go_at_call 16; refine (num_any _ _).mono ?_; rintro e w4 ⟨rfl, rfl⟩)
    refine (hrun _ _ hH).mono ?_
    rintro e w5 ⟨A5, n5, c5, p5, st5, rfl, hfar⟩
    go_wp2
    have hw3 : Below w.heap.size w w3 := bnext hw2 (bnext ((Below.refl _ _).alloc (Nat.le_refl _) _) hb3)
    have hw5 : Below w.heap.size w w5 := hw3.trans (hfar.below hw3.size (fun k hk => by have := hft k hk; have := hw2.size; simp at *; omega))
    go_ret
    exact ⟨rfl, hw5.alloc hw5.size _⟩
  · have hrun : ∀ w L, _ → _ := fun w L h => ca_mrun_ok n M (by omega) (by omega) hle (w := w) (L := L) h
    go_enter Try.func6, Try.ntmps6
    go_wp2_with (go_at_call 26; refine hcd.mono ?_; rintro e w2 ⟨A, cap, rfl, ho, hb⟩; obtain ⟨g, cap', hA⟩ := own_form ho (by simp [caC]); cases hA; have hw2 : Below w.heap.size w w2 := bnext ((Below.refl _ _).alloc (Nat.le_refl _) _) hb)
    refine (hnew _ _ _ ((own_reads ho).below ((Below.refl _ _).alloc (Nat.le_refl _) _))).mono ?_
    rintro e w3 ⟨L, rfl, hH, hb3, hft⟩
    go_wp2_with (go_at_call 16; refine (num_any _ _).mono ?_; rintro e w4 ⟨rfl, rfl⟩)
    refine (hrun _ _ hH).mono ?_
    rintro e w5 ⟨A5, n5, c5, p5, L', S, rfl, hS, hm, h15, h1, hfar⟩
    go_wp2_with (fail)
    refine (reg_lit 15 hS ((Below.refl _ _).alloc (Nat.le_refl _) _) (by decide) rfl hm h15).mono ?_
    rintro e w6 ⟨rfl, rfl⟩
    go_wp2_with (fail)
    refine (reg_lit 1 hS ((Below.refl _ _).alloc (Nat.le_refl _) _) (by decide) rfl hm h1).mono ?_
    rintro e w6 ⟨rfl, rfl⟩
    go_wp2
    have hw3 : Below w.heap.size w w3 := bnext hw2 (bnext ((Below.refl _ _).alloc (Nat.le_refl _) _) hb3)
    have hw5 : Below w.heap.size w w5 := hw3.trans (hfar.below hw3.size (fun k hk => by have := hft k hk; have := hw2.size; simp at *; omega))
    go_ret
    exact ⟨rfl, hw5.alloc hw5.size _⟩
end Go.Proofs.Ytbchiolgbhckhaa.Mach
