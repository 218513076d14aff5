/- Any number is made by a const and a high: the walk. -/
import Derived.Test.YtbchiolgbhckhaaA7
set_option linter.unusedVariables false
set_option linter.unusedSimpArgs false
namespace Go.Proofs.Ytbchiolgbhckhaa.Mach
open Go.RowKit Go.Proofs.YtbchiolgbhckhaaW.PrintWords Go.Proofs.YtbchiolgbhckhaaW.PrintMore Go.Proofs.Ytbchiolgbhckhaa.PMachRuns
theorem mask32 (b : Int) : bits .and .i64 b 4294967295 = b % 4294967296 := by
  show IntKind.i64.wrap ((BitVec.ofInt 64 b &&& BitVec.ofInt 64 4294967295).toNat : Int) = b % 4294967296
  rw [Num.i64_wrap_eq, BitVec.toNat_and]
  have e : (BitVec.ofInt 64 4294967295).toNat = 2 ^ 32 - 1 := by decide
  rw [e, Nat.and_two_pow_sub_one_eq_mod]
  simp only [BitVec.toNat_ofInt]
  unfold wrap64
  omega
theorem enc_k (n k a b c : Nat) (i : Int) (ha : a < 16) (hb : b < 16) (hc : c < 16) (h0 : -2147483648 ≤ i) (h1 : i ≤ 2147483647) :
    mortiseref2_Encode.f (9 + n) k a b c i = some (match usesOf k with | none => (0, 4) | some (r, m) => if fits r m a b c i = true then (word5 k a b c i, 0) else (0, 4)) := by
  induction n with
  | zero => exact r2enc k a b c i ha hb hc h0 h1
  | succ n ih => exact mortiseref2_Encode.mono _ _ _ _ _ _ _ ih
theorem nu_code (x low : Int) (x0 : -2147483648 ≤ x) (x1 : x ≤ 2147483647) (l0 : -2147483648 ≤ low) (l1 : low ≤ 2147483647) :
    mortiselaw3_Code.f 40 [⟨3, 5, 0, 0, x⟩, ⟨4, 5, 0, 0, low⟩, ⟨0, 0, 0, 0, 0⟩] = some [word5 3 5 0 0 x, word5 4 5 0 0 low, 0] := by
  have e1 : mortiseref2_Encode.f 38 3 5 0 0 x = some (word5 3 5 0 0 x, 0) := enc_k 29 3 5 0 0 x (by omega) (by omega) (by omega) x0 x1
  have e2 : mortiseref2_Encode.f 36 4 5 0 0 low = some (word5 4 5 0 0 low, 0) := enc_k 27 4 5 0 0 low (by omega) (by omega) (by omega) l0 l1
  have e3 : mortiseref2_Encode.f 34 0 0 0 0 0 = some (0, 0) := enc_k 25 0 0 0 0 0 (by omega) (by omega) (by omega) (by omega) (by omega)
  simp [mortiselaw3_Code.f, mortiselaw3_Code.l0, mortiselaw3_Code.j1, rd_T50, e1, e2, e3, wrap64]
theorem nu_dec3 (x : Int) (x0 : -2147483648 ≤ x) (x1 : x ≤ 2147483647) : decI (word5 3 5 0 0 x) = some ⟨3, 5, 0, 0, x⟩ := by
  have h1 : wOp (word5 3 5 0 0 x) = 3 := by unfold wOp word5; omega
  have h2 : wA (word5 3 5 0 0 x) = 5 := by unfold wA word5; omega
  have h3 : wB (word5 3 5 0 0 x) = 0 := by unfold wB word5; omega
  have h4 : wC (word5 3 5 0 0 x) = 0 := by unfold wC word5; omega
  have h5 : wrap32 (word5 3 5 0 0 x) = x := by unfold wrap32 word5; omega
  unfold decI
  rw [if_neg (by unfold word5; omega), h1, h2, h3, h4, h5]
  rfl
theorem nu_dec4 (x : Int) (x0 : -2147483648 ≤ x) (x1 : x ≤ 2147483647) : decI (word5 4 5 0 0 x) = some ⟨4, 5, 0, 0, x⟩ := by
  have h1 : wOp (word5 4 5 0 0 x) = 4 := by unfold wOp word5; omega
  have h2 : wA (word5 4 5 0 0 x) = 5 := by unfold wA word5; omega
  have h3 : wB (word5 4 5 0 0 x) = 0 := by unfold wB word5; omega
  have h4 : wC (word5 4 5 0 0 x) = 0 := by unfold wC word5; omega
  have h5 : wrap32 (word5 4 5 0 0 x) = x := by unfold wrap32 word5; omega
  unfold decI
  rw [if_neg (by unfold word5; omega), h1, h2, h3, h4, h5]
  rfl
theorem runN_succ {n : Nat} {s : MS} (h : s.kind = 0) : runN (n + 1) s = runN n (step1 s) := by simp [runN, h]
theorem nu_run (x low : Int) (x0 : -2147483648 ≤ x) (x1 : x ≤ 2147483647) (l0 : -2147483648 ≤ low) (l1 : low ≤ 2147483647) :
    let s := runN (Int.toNat 3) (fresh [word5 3 5 0 0 x, word5 4 5 0 0 low, 0] [] [] 0 0)
    s.kind = 1 ∧ s.steps = 3 ∧ s.reg 5 = high x low ∧ s.reg 6 = 0 := by
  have s1 : step1 (fresh [word5 3 5 0 0 x, word5 4 5 0 0 low, 0] [] [] 0 0) = { fresh [word5 3 5 0 0 x, word5 4 5 0 0 low, 0] [] [] 0 0 with reg := fun j => if j = 5 then x else if j = 15 then 0 else 0, pc := 1, steps := 1 } := by
    unfold step1
    rw [if_pos (by simp [fresh])]
    rw [show rd (fresh [word5 3 5 0 0 x, word5 4 5 0 0 low, 0] [] [] 0 0).code (fresh [word5 3 5 0 0 x, word5 4 5 0 0 low, 0] [] [] 0 0).pc = word5 3 5 0 0 x from rfl, nu_dec3 x x0 x1]
    kernel_rfl
  have s2 : step1 { fresh [word5 3 5 0 0 x, word5 4 5 0 0 low, 0] [] [] 0 0 with reg := fun j => if j = 5 then x else if j = 15 then 0 else 0, pc := 1, steps := 1 } = { fresh [word5 3 5 0 0 x, word5 4 5 0 0 low, 0] [] [] 0 0 with reg := fun j => if j = 5 then high x low else if j = 5 then x else if j = 15 then 0 else 0, pc := 2, steps := 2 } := by
    unfold step1
    dsimp only
    rw [if_pos (by simp [fresh])]
    rw [show rd (fresh [word5 3 5 0 0 x, word5 4 5 0 0 low, 0] [] [] 0 0).code 1 = word5 4 5 0 0 low from rfl, nu_dec4 low l0 l1]
    kernel_rfl
  have s3 : step1 { fresh [word5 3 5 0 0 x, word5 4 5 0 0 low, 0] [] [] 0 0 with reg := fun j => if j = 5 then high x low else if j = 5 then x else if j = 15 then 0 else 0, pc := 2, steps := 2 } = { fresh [word5 3 5 0 0 x, word5 4 5 0 0 low, 0] [] [] 0 0 with reg := fun j => if j = 5 then high x low else if j = 5 then x else if j = 15 then 0 else 0, pc := 3, steps := 3, kind := 1 } := by
    unfold step1
    dsimp only
    rw [if_pos (by simp [fresh])]
    rw [show rd (fresh [word5 3 5 0 0 x, word5 4 5 0 0 low, 0] [] [] 0 0).code 2 = 0 from rfl, show decI 0 = some ⟨0, 0, 0, 0, 0⟩ by kernel_rfl]
    kernel_rfl
  have e : runN 3 (fresh [word5 3 5 0 0 x, word5 4 5 0 0 low, 0] [] [] 0 0) = { fresh [word5 3 5 0 0 x, word5 4 5 0 0 low, 0] [] [] 0 0 with reg := fun j => if j = 5 then high x low else if j = 5 then x else if j = 15 then 0 else 0, pc := 3, steps := 3, kind := 1 } := by
    rw [runN_succ (by rfl), s1, runN_succ (by rfl), s2, runN_succ (by rfl), s3]
    rfl
  show (runN 3 _).kind = 1 ∧ (runN 3 _).steps = 3 ∧ (runN 3 _).reg 5 = _ ∧ (runN 3 _).reg 6 = 0
  rw [e]
  exact ⟨rfl, rfl, rfl, rfl⟩
theorem nu_mrun (x low : Int) (x0 : -2147483648 ≤ x) (x1 : x ≤ 2147483647) (l0 : -2147483648 ≤ low) (l1 : low ≤ 2147483647) {w : World} {L : Lay} (h : Holds w L (fresh [word5 3 5 0 0 x, word5 4 5 0 0 low, 0] [] [] 0 0)) :
    Calls Try.prog 25 #[.pointer (some ⟨L.m, 0, none⟩), .int .i64 3] w fun e w' => ∃ A n c p L' S, e = .returned (.agg #[.int .i64 1, .int .i64 p, .slice A n c, .int .i64 3]) ∧ Holds w' L' S ∧ L'.m = L.m ∧ S.reg 5 = high x low ∧ S.reg 6 = 0 ∧ Far (L.foot []) w w' := by
  refine (run_any h (Nat.zero_le _) 3 (by decide)).mono ?_
  rintro e w' ⟨L', B, hN, ⟨v, rfl, hv⟩, hB1, hB2⟩
  obtain ⟨A, c, rfl⟩ := own_slice hv
  obtain ⟨k1, k2, k3, k4⟩ := nu_run x low x0 x1 l0 l1
  exact ⟨A, _, c, _, L', _, by rw [k1, k2], hN.holds, hN.same, k3, k4, hN.far⟩
theorem nu_new (x low : Int) (x0 : -2147483648 ≤ x) (x1 : x ≤ 2147483647) (l0 : -2147483648 ≤ low) (l1 : low ≤ 2147483647) {w : World} {a : Addr} {cap : Nat} (h : Reads w (.slice (some a) 3 cap) 3 (nums .i64 [word5 3 5 0 0 x, word5 4 5 0 0 low, 0])) :
    Calls Try.prog 14 #[.agg #[.slice (some a) 3 cap, .slice none 0 0, .int .i64 0], .int .i64 0, .slice none 0 0] w fun e w' => ∃ L, e = .returned (.tuple #[.pointer (some ⟨L.m, 0, none⟩), .int .i64 0]) ∧ Holds w' L (fresh [word5 3 5 0 0 x, word5 4 5 0 0 low, 0] [] [] 0 0) ∧ Below w.heap.size w w' ∧ ∀ b, L.foot [] b → w.heap.size ≤ b := by
  refine new_ok a none none 3 cap 0 0 0 0 0 0 _ [] [] w (by decide) (by decide) (by decide) (by decide) (by decide) (by decide) (by decide) (by decide) h (reads_nil w .i64) (reads_nil w .u8) (fun k => ?_) (by intro v hv; cases hv)
  rcases k with _ | _ | _ | k
  · show _ ≤ word5 3 5 0 0 x ∧ word5 3 5 0 0 x ≤ _
    unfold word5; omega
  · show _ ≤ word5 4 5 0 0 low ∧ word5 4 5 0 0 low ≤ _
    unfold word5; omega
  · simp
  · simp
theorem reg_lit {w w1 : World} {L : Lay} {s : MS} {m : Nat} {v i : Int} (a : Nat) (h : Holds w L s) (hb : Below w.heap.size w w1) (ha : a < 16) (hi : i = (a : Int)) (hm : L.m = m) (hv : s.reg a = v) :
    Calls Try.prog 20 #[.pointer (some ⟨m, 0, none⟩), .int .i64 i] w1 fun e w' => e = .returned (.int .i64 v) ∧ w1 = w' := by
  subst hi hm hv
  exact reg_some (h.below hb) a ha
set_option maxHeartbeats 1000000 in
theorem machNumbers_walk (v : Int) (w : World) (hv : (Lit.int .i64 v).wf = true) : Calls Try.prog 5 #[.int .i64 v] w fun e w' => e = .returned (.bool true) ∧ Below w.heap.size w w' := by
  have hv' := Num.wf_i64 hv
  have hand := mask32 v
  obtain ⟨lo, hlo⟩ : ∃ lo, lo = v % 4294967296 := ⟨_, rfl⟩
  rw [← hlo] at hand
  have hlo0 : 0 ≤ lo := by omega
  have hlo1 : lo < 4294967296 := by omega
  have H := Lib.hid hlo
  clear hlo
  have hx0 : -2147483648 ≤ v / 4294967296 := by omega
  have hx1 : v / 4294967296 ≤ 2147483647 := by omega
  by_cases hl : lo > 2147483647
  · have hw : wrap64 (lo - 4294967296) = lo - 4294967296 := in64 (by omega) (by omega)
    have hcd := code_any 40 w.heap.size 3 _ _ (w.alloc (.cells #[.int .i64 3, .int .i64 5, .int .i64 0, .int .i64 0, .int .i64 (v / 4294967296), .int .i64 4, .int .i64 5, .int .i64 0, .int .i64 0, .int .i64 (lo - 4294967296), .int .i64 0, .int .i64 0, .int .i64 0, .int .i64 0, .int .i64 0] 50)) _ _ (heap_alloc_new w _) rfl (by simp) (by simp) (nu_code (v / 4294967296) (lo - 4294967296) hx0 hx1 (by omega) (by omega))
    have hfin : high (v / 4294967296) (lo - 4294967296) = v := by
      have := H.out
      unfold high wrap64
      omega
    have hnew : ∀ w a cap, _ → _ := fun w a cap h => nu_new (v / 4294967296) (lo - 4294967296) hx0 hx1 (by omega) (by omega) (w := w) (a := a) (cap := cap) h
    have hrun : ∀ w L, _ → _ := fun w L h => nu_mrun (v / 4294967296) (lo - 4294967296) hx0 hx1 (by omega) (by omega) (w := w) (L := L) h
    clear hx0 hx1 hlo0 hlo1 hv' hv
    go_enter Try.func5, Try.ntmps5
    go_wp2_with (go_at_call 26; refine hcd.mono ?_; rintro e w2 ⟨A, cap, rfl, ho, hb⟩; obtain ⟨g, cap', hA⟩ := own_form ho (by simp); cases hA; have hw2 : Below w.heap.size w w2 := bnext ((Below.refl _ _).alloc (Nat.le_refl _) _) hb)
    refine (hnew _ _ _ ((own_reads ho).below ((Below.refl _ _).alloc (Nat.le_refl _) _))).mono ?_
    rintro e w3 ⟨L, rfl, hH, hb3, hft⟩
    go_wp2_with (go_at_call 16; refine (num_any _ _).mono ?_; rintro e w4 ⟨rfl, rfl⟩)
    refine (hrun _ _ hH).mono ?_
    rintro e w5 ⟨A5, n5, c5, p5, L', S, rfl, hS, hm, h5, h6, hfar⟩
    go_wp2_with (fail)
    refine (reg_lit 5 hS ((Below.refl _ _).alloc (Nat.le_refl _) _) (by decide) rfl hm (h5.trans hfin)).mono ?_
    rintro e w6 ⟨rfl, rfl⟩
    go_wp2_with (fail)
    refine (reg_lit 6 hS ((Below.refl _ _).alloc (Nat.le_refl _) _) (by decide) rfl hm h6).mono ?_
    rintro e w6 ⟨rfl, rfl⟩
    go_wp2
    have hw3 : Below w.heap.size w w3 := bnext hw2 (bnext ((Below.refl _ _).alloc (Nat.le_refl _) _) hb3)
    have hw5 : Below w.heap.size w w5 := hw3.trans (hfar.below hw3.size (fun k hk => by have := hft k hk; have := hw2.size; simp at *; omega))
    go_ret
    exact ⟨rfl, hw5.alloc hw5.size _⟩
  · have hl' : lo ≤ 2147483647 := by omega
    have hcd := code_any 40 w.heap.size 3 _ _ (w.alloc (.cells #[.int .i64 3, .int .i64 5, .int .i64 0, .int .i64 0, .int .i64 (v / 4294967296), .int .i64 4, .int .i64 5, .int .i64 0, .int .i64 0, .int .i64 lo, .int .i64 0, .int .i64 0, .int .i64 0, .int .i64 0, .int .i64 0] 50)) _ _ (heap_alloc_new w _) rfl (by simp) (by simp) (nu_code (v / 4294967296) lo hx0 hx1 (by omega) (by omega))
    have hfin : high (v / 4294967296) lo = v := by
      have := H.out
      unfold high wrap64
      omega
    have hnew : ∀ w a cap, _ → _ := fun w a cap h => nu_new (v / 4294967296) lo hx0 hx1 (by omega) (by omega) (w := w) (a := a) (cap := cap) h
    have hrun : ∀ w L, _ → _ := fun w L h => nu_mrun (v / 4294967296) lo hx0 hx1 (by omega) (by omega) (w := w) (L := L) h
    clear hx0 hx1 hlo0 hlo1 hv' hv
    go_enter Try.func5, Try.ntmps5
    go_wp2_with (go_at_call 26; refine hcd.mono ?_; rintro e w2 ⟨A, cap, rfl, ho, hb⟩; obtain ⟨g, cap', hA⟩ := own_form ho (by simp); cases hA; have hw2 : Below w.heap.size w w2 := bnext ((Below.refl _ _).alloc (Nat.le_refl _) _) hb)
    refine (hnew _ _ _ ((own_reads ho).below ((Below.refl _ _).alloc (Nat.le_refl _) _))).mono ?_
    rintro e w3 ⟨L, rfl, hH, hb3, hft⟩
    go_wp2_with (go_at_call 16; refine (num_any _ _).mono ?_; rintro e w4 ⟨rfl, rfl⟩)
    refine (hrun _ _ hH).mono ?_
    rintro e w5 ⟨A5, n5, c5, p5, L', S, rfl, hS, hm, h5, h6, hfar⟩
    go_wp2_with (fail)
    refine (reg_lit 5 hS ((Below.refl _ _).alloc (Nat.le_refl _) _) (by decide) rfl hm (h5.trans hfin)).mono ?_
    rintro e w6 ⟨rfl, rfl⟩
    go_wp2_with (fail)
    refine (reg_lit 6 hS ((Below.refl _ _).alloc (Nat.le_refl _) _) (by decide) rfl hm h6).mono ?_
    rintro e w6 ⟨rfl, rfl⟩
    go_wp2
    have hw3 : Below w.heap.size w w3 := bnext hw2 (bnext ((Below.refl _ _).alloc (Nat.le_refl _) _) hb3)
    have hw5 : Below w.heap.size w w5 := hw3.trans (hfar.below hw3.size (fun k hk => by have := hft k hk; have := hw2.size; simp at *; omega))
    go_ret
    exact ⟨rfl, hw5.alloc hw5.size _⟩
end Go.Proofs.Ytbchiolgbhckhaa.Mach
