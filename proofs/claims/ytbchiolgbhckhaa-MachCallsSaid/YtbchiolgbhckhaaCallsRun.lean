/- A call and its return come back behind the call: the run, in numbers and lists alone. -/
import Derived.Test.YtbchiolgbhckhaaNumbers
set_option linter.unusedVariables false
set_option linter.unusedSimpArgs false
namespace Go.Proofs.Ytbchiolgbhckhaa.Mach
open Go.RowKit Go.Proofs.YtbchiolgbhckhaaW.PrintWords Go.Proofs.YtbchiolgbhckhaaW.PrintMore Go.Proofs.Ytbchiolgbhckhaa.PMachRuns

/-- So many steps lead from one state to the other. -/
def Leads (s : MS) (k : Nat) (t : MS) : Prop := ∀ m, runN (k + m) s = runN m t
theorem Leads.one {s : MS} (h : s.kind = 0) : Leads s 1 (step1 s) := fun m => by rw [Nat.add_comm]; exact runN_succ h
theorem Leads.trans {s t u : MS} {a b : Nat} (h : Leads s a t) (k : Leads t b u) : Leads s (a + b) u := fun m => by rw [Nat.add_assoc, h, k]
theorem Leads.ends {s t : MS} {k n : Nat} (h : Leads s k t) (hk : ¬ t.kind = 0) (hn : k ≤ n) : runN n s = t := by
  rw [show n = k + (n - k) by omega, h, runN_stop hk]
theorem step_dec {s : MS} {x : I5} (hp : 0 ≤ s.pc) (hl : s.pc < s.code.length) (hd : decI (rd s.code s.pc) = some x) :
    step1 s = exec x { s with steps := wrap64 (s.steps + 1), pc := wrap64 (s.pc + 1) } := by
  unfold step1
  dsimp only
  rw [if_pos ⟨hp, hl⟩, hd]

def caC (n : Int) : List Int := [word5 3 1 0 0 n, word5 3 2 0 0 1, word5 10 0 0 0 4, 0, word5 8 1 0 0 3, word5 18 1 1 2 0, word5 10 0 0 0 4, word5 12 0 0 0 0, word5 12 0 0 0 0]
structure CaAt (n : Int) (M : Nat) (s : MS) (pc r1 d st : Int) : Prop where
  code : s.code = caC n
  kind : s.kind = 0
  pcv : s.pc = pc
  r1v : s.reg 1 = r1
  r2v : s.reg 2 = 1
  r15 : s.reg 15 = d
  steps : s.steps = st
  len : s.mem.length = M
  stk : ∀ a, d ≤ a → a < M → rd s.mem a = if a = M - 1 then 3 else 7
theorem rd_set (xs : List Int) (k a v : Int) (hk : 0 ≤ k) (ha : 0 ≤ a) (hl : k < xs.length) : rd (xs.set k.toNat v) a = if a = k then v else rd xs a := by
  show (xs.set k.toNat v).getD a.toNat 0 = if a = k then v else xs.getD a.toNat 0
  rw [getD_set_int _ _ _ _ (by omega)]
  by_cases e : a = k
  · subst e; rw [if_pos rfl, if_pos rfl]
  · rw [if_neg e, if_neg (by omega)]
theorem ca_dec (n : Int) (h0 : 0 ≤ n) (h1 : n ≤ 255) : decI (word5 3 1 0 0 n) = some ⟨3, 1, 0, 0, n⟩ := by
  have h1 : wOp (word5 3 1 0 0 n) = 3 := by unfold wOp word5; omega
  have h2 : wA (word5 3 1 0 0 n) = 1 := by unfold wA word5; omega
  have h3 : wB (word5 3 1 0 0 n) = 0 := by unfold wB word5; omega
  have h4 : wC (word5 3 1 0 0 n) = 0 := by unfold wC word5; omega
  have h5 : wrap32 (word5 3 1 0 0 n) = n := by unfold wrap32 word5; omega
  unfold decI
  rw [if_neg (by unfold word5; omega), h1, h2, h3, h4, h5]
  rfl
theorem ca1 (n : Int) : decI (rd (caC n) 1) = some ⟨3, 2, 0, 0, 1⟩ := by kernel_rfl
theorem ca2 (n : Int) : decI (rd (caC n) 2) = some ⟨10, 0, 0, 0, 4⟩ := by kernel_rfl
theorem ca3 (n : Int) : decI (rd (caC n) 3) = some ⟨0, 0, 0, 0, 0⟩ := by kernel_rfl
theorem ca4 (n : Int) : decI (rd (caC n) 4) = some ⟨8, 1, 0, 0, 3⟩ := by kernel_rfl
theorem ca5 (n : Int) : decI (rd (caC n) 5) = some ⟨18, 1, 1, 2, 0⟩ := by kernel_rfl
theorem ca6 (n : Int) : decI (rd (caC n) 6) = some ⟨10, 0, 0, 0, 4⟩ := by kernel_rfl
theorem ca7 (n : Int) : decI (rd (caC n) 7) = some ⟨12, 0, 0, 0, 0⟩ := by kernel_rfl
theorem ca8 (n : Int) : decI (rd (caC n) 8) = some ⟨12, 0, 0, 0, 0⟩ := by kernel_rfl
theorem small64 {x : Int} (h0 : -100000 ≤ x) (h1 : x ≤ 100000) : wrap64 x = x := by unfold wrap64; omega
theorem CaAt.step {n : Int} {M : Nat} {s : MS} {pc r1 d st : Int} (h : CaAt n M s pc r1 d st) (p0 : 0 ≤ pc) (p1 : pc < 9) (s0 : 0 ≤ st) (s1 : st ≤ 10000) {x : I5} (hd : decI (rd (caC n) pc) = some x) :
    step1 s = exec x { s with steps := st + 1, pc := pc + 1 } := by
  have e := step_dec (s := s) (x := x) (by rw [h.pcv]; exact p0) (by rw [h.pcv, h.code]; exact p1) (by rw [h.pcv, h.code]; exact hd)
  rw [e, h.steps, h.pcv, small64 (by omega) (by omega), small64 (by omega) (by omega)]
theorem ca_zero {n : Int} {M : Nat} {s : MS} {d st : Int} (h : CaAt n M s 4 0 d st) (s0 : 0 ≤ st) (s1 : st ≤ 10000) : CaAt n M (step1 s) 8 0 d (st + 1) := by
  rw [h.step (by omega) (by omega) s0 s1 (ca4 n)]
  unfold exec
  simp only [if_neg (show ¬ (8 : Nat) = 0 by decide), if_neg (show ¬ (8 : Nat) = 1 by decide), if_neg (show ¬ (8 : Nat) = 2 by decide), if_neg (show ¬ (8 : Nat) = 3 by decide), if_neg (show ¬ (8 : Nat) = 4 by decide), if_neg (show ¬ (8 : Nat) = 5 by decide), if_neg (show ¬ (8 : Nat) = 6 by decide), if_neg (show ¬ (8 : Nat) = 7 by decide), if_true]
  rw [if_pos h.r1v]
  exact ⟨h.code, h.kind, by show wrap64 (4 + 1 + 3) = 8; exact small64 (by omega) (by omega), h.r1v, h.r2v, h.r15, rfl, h.len, h.stk⟩
theorem ca_some {n : Int} {M : Nat} {s : MS} {r1 d st : Int} (h : CaAt n M s 4 r1 d st) (hr : ¬ r1 = 0) (s0 : 0 ≤ st) (s1 : st ≤ 10000) : CaAt n M (step1 s) 5 r1 d (st + 1) := by
  rw [h.step (by omega) (by omega) s0 s1 (ca4 n)]
  unfold exec
  simp only [if_neg (show ¬ (8 : Nat) = 0 by decide), if_neg (show ¬ (8 : Nat) = 1 by decide), if_neg (show ¬ (8 : Nat) = 2 by decide), if_neg (show ¬ (8 : Nat) = 3 by decide), if_neg (show ¬ (8 : Nat) = 4 by decide), if_neg (show ¬ (8 : Nat) = 5 by decide), if_neg (show ¬ (8 : Nat) = 6 by decide), if_neg (show ¬ (8 : Nat) = 7 by decide), if_true]
  rw [if_neg (by rw [h.r1v]; exact hr)]
  exact ⟨h.code, h.kind, rfl, h.r1v, h.r2v, h.r15, rfl, h.len, h.stk⟩
theorem sub2 (a b : Int) : bin2 2 a b = (wrap64 (a - b), 0) := by kernel_rfl
theorem ca_sub {n : Int} {M : Nat} {s : MS} {r1 d st : Int} (h : CaAt n M s 5 r1 d st) (r0 : 0 ≤ r1) (r2 : r1 ≤ 1000) (s0 : 0 ≤ st) (s1 : st ≤ 10000) : CaAt n M (step1 s) 6 (r1 - 1) d (st + 1) := by
  rw [h.step (by omega) (by omega) s0 s1 (ca5 n)]
  have e : exec ⟨18, 1, 1, 2, 0⟩ { s with steps := st + 1, pc := 5 + 1 } = { s with steps := st + 1, pc := 5 + 1 }.set 1 (wrap64 (r1 - 1)) := by
    have e2 : exec ⟨18, 1, 1, 2, 0⟩ { s with steps := st + 1, pc := 5 + 1 } = (if (bin2 2 (s.reg 1) (s.reg 2)).2 = 0 then { s with steps := st + 1, pc := 5 + 1 }.set 1 (bin2 2 (s.reg 1) (s.reg 2)).1 else { s with steps := st + 1, pc := 5 + 1 }.ends 2 (bin2 2 (s.reg 1) (s.reg 2)).2) := rfl
    rw [e2, sub2, h.r1v, h.r2v]
    rfl
  rw [e, small64 (by omega) (by omega)]
  exact ⟨h.code, h.kind, rfl, rfl, h.r2v, h.r15, rfl, h.len, h.stk⟩
theorem ca_call {n : Int} {M : Nat} {s : MS} {pc r1 d st : Int} (hpc : pc = 2 ∨ pc = 6) (h : CaAt n M s pc r1 d st) (d0 : 1 ≤ d) (d1 : d ≤ M) (hM : M ≤ 255) (hb : pc = 2 → d = M) (hb' : pc = 6 → d < M) (s0 : 0 ≤ st) (s1 : st ≤ 10000) : CaAt n M (step1 s) 4 r1 (d - 1) (st + 1) := by
  have hd : decI (rd (caC n) pc) = some ⟨10, 0, 0, 0, 4⟩ := by rcases hpc with rfl | rfl; exact ca2 n; exact ca6 n
  rw [h.step (by omega) (by omega) s0 s1 hd]
  have e : exec ⟨10, 0, 0, 0, 4⟩ { s with steps := st + 1, pc := pc + 1 } = MS.call { s with steps := st + 1, pc := pc + 1 } (fun _ => 4) := rfl
  rw [e]
  unfold MS.call
  dsimp only
  rw [h.r15, small64 (by omega) (by omega)]
  have hat : ({ s with steps := st + 1, pc := pc + 1 } : MS).at_ (d - 1) = true := by
    simp only [MS.at_, h.len, Bool.and_eq_true, decide_eq_true_eq]
    omega
  rw [if_pos hat]
  refine ⟨h.code, h.kind, rfl, h.r1v, h.r2v, rfl, rfl, by simpa [MS.put, MS.set] using h.len, fun a h0 h1 => ?_⟩
  show rd (s.mem.set (d - 1).toNat (pc + 1)) a = _
  rw [rd_set _ _ _ _ (by omega) (by omega) (by rw [h.len]; omega)]
  by_cases ea : a = d - 1
  · rw [if_pos ea]
    rcases hpc with rfl | rfl
    · rw [if_pos (by rw [ea, hb rfl])]; rfl
    · rw [if_neg (by have := hb' rfl; omega)]; rfl
  · rw [if_neg ea]
    exact h.stk a (by omega) h1
theorem ca_over {n : Int} {M : Nat} {s : MS} {pc r1 st : Int} (hpc : pc = 2 ∨ pc = 6) (h : CaAt n M s pc r1 0 st) (s0 : 0 ≤ st) (s1 : st ≤ 10000) : (step1 s).kind = 5 := by
  have hd : decI (rd (caC n) pc) = some ⟨10, 0, 0, 0, 4⟩ := by rcases hpc with rfl | rfl; exact ca2 n; exact ca6 n
  rw [h.step (by omega) (by omega) s0 s1 hd]
  have e : exec ⟨10, 0, 0, 0, 4⟩ { s with steps := st + 1, pc := pc + 1 } = MS.call { s with steps := st + 1, pc := pc + 1 } (fun _ => 4) := rfl
  rw [e]
  unfold MS.call
  dsimp only
  rw [h.r15, show wrap64 (0 - 1) = -1 from small64 (by omega) (by omega)]
  rfl
theorem ca_ret {n : Int} {M : Nat} {s : MS} {pc r1 d st : Int} (hpc : pc = 7 ∨ pc = 8) (h : CaAt n M s pc r1 d st) (d0 : 0 ≤ d) (d1 : d < M) (hM : M ≤ 255) (s0 : 0 ≤ st) (s1 : st ≤ 10000) : CaAt n M (step1 s) (if d = M - 1 then 3 else 7) r1 (d + 1) (st + 1) := by
  have hd : decI (rd (caC n) pc) = some ⟨12, 0, 0, 0, 0⟩ := by rcases hpc with rfl | rfl; exact ca7 n; exact ca8 n
  rw [h.step (by omega) (by omega) s0 s1 hd]
  have e : exec ⟨12, 0, 0, 0, 0⟩ { s with steps := st + 1, pc := pc + 1 } = (if ({ s with steps := st + 1, pc := pc + 1 } : MS).at_ (s.reg 15) = true then { ({ s with steps := st + 1, pc := pc + 1 } : MS).set 15 (wrap64 (s.reg 15 + 1)) with pc := rd s.mem (s.reg 15) } else ({ s with steps := st + 1, pc := pc + 1 } : MS).fault) := rfl
  have hat : ({ s with steps := st + 1, pc := pc + 1 } : MS).at_ (s.reg 15) = true := by
    simp only [MS.at_, h.len, h.r15, Bool.and_eq_true, decide_eq_true_eq]
    omega
  rw [e, if_pos hat, h.r15, small64 (by omega) (by omega)]
  exact ⟨h.code, h.kind, h.stk d (Int.le_refl _) d1, h.r1v, h.r2v, rfl, rfl, h.len, fun a h0 h1 => h.stk a (by omega) h1⟩
/-- Down: so many calls as there are left, if there is memory; then to the last return. -/
theorem ca_down {n : Int} {M : Nat} (hM : M ≤ 255) : ∀ (j : Nat) {s : MS} {d st : Int}, CaAt n M s 4 j d st → j ≤ 255 → (j : Int) ≤ d → d < M → 0 ≤ st → st ≤ 5000 - 3 * j → ∃ t, Leads s (3 * j + 1) t ∧ CaAt n M t 8 0 (d - j) (st + 3 * j + 1) := by
  intro j
  induction j with
  | zero =>
    intro s d st h hj h1 h2 h3 h4
    exact ⟨_, Leads.one h.kind, by simpa using ca_zero (by simpa using h) h3 (by omega)⟩
  | succ j ih =>
    intro s d st h hj h1 h2 h3 h4
    have a1 := ca_some h (by omega) h3 (by omega)
    have a2 := ca_sub a1 (by omega) (by omega) (by omega) (by omega)
    have a3 := ca_call (.inr rfl) a2 (by omega) (by omega) hM (by omega) (fun _ => h2) (by omega) (by omega)
    rw [show ((j + 1 : Nat) : Int) - 1 = (j : Int) by omega] at a3
    obtain ⟨t, l, r⟩ := ih a3 (by omega) (by omega) (by omega) (by omega) (by omega)
    refine ⟨t, ?_, ?_⟩
    · have := (((Leads.one h.kind).trans (Leads.one a1.kind)).trans (Leads.one a2.kind)).trans l
      rwa [show 1 + 1 + 1 + (3 * j + 1) = 3 * (j + 1) + 1 by omega] at this
    · rwa [show d - 1 - (j : Int) = d - ((j + 1 : Nat) : Int) by omega, show st + 1 + 1 + 1 + 3 * (j : Int) + 1 = st + 3 * ((j + 1 : Nat) : Int) + 1 by omega] at r
theorem ca_down_bad {n : Int} {M : Nat} (hM : M ≤ 255) : ∀ (j : Nat) {s : MS} {d st : Int}, CaAt n M s 4 j d st → j ≤ 255 → d < (j : Int) → 0 ≤ d → d < M → 0 ≤ st → st ≤ 5000 - 3 * j → ∃ k t, k ≤ 3 * j ∧ Leads s k t ∧ t.kind = 5 := by
  intro j
  induction j with
  | zero =>
    intro s d st h hj h1 h2 h2' h3 h4
    omega
  | succ j ih =>
    intro s d st h hj h1 h2 h2' h3 h4
    have a1 := ca_some h (by omega) h3 (by omega)
    have a2 := ca_sub a1 (by omega) (by omega) (by omega) (by omega)
    by_cases hd : d = 0
    · subst hd
      exact ⟨3, _, by omega, ((Leads.one h.kind).trans (Leads.one a1.kind)).trans (Leads.one a2.kind), ca_over (.inr rfl) a2 (by omega) (by omega)⟩
    · have a3 := ca_call (.inr rfl) a2 (by omega) (by omega) hM (by omega) (fun _ => h2') (by omega) (by omega)
      rw [show ((j + 1 : Nat) : Int) - 1 = (j : Int) by omega] at a3
      obtain ⟨k, t, hk, l, r⟩ := ih a3 (by omega) (by omega) (by omega) (by omega) (by omega) (by omega)
      exact ⟨1 + 1 + 1 + k, t, by omega, (((Leads.one h.kind).trans (Leads.one a1.kind)).trans (Leads.one a2.kind)).trans l, r⟩
/-- Up: as many returns as there are places. -/
theorem ca_up {n : Int} {M : Nat} (hM : M ≤ 255) : ∀ (j : Nat) {s : MS} {pc d st : Int}, pc = 7 ∨ pc = 8 → CaAt n M s pc 0 d st → 0 ≤ d → d + j + 1 = M → 0 ≤ st → st ≤ 5000 - j → ∃ t, Leads s (j + 1) t ∧ CaAt n M t 3 0 M (st + j + 1) := by
  intro j
  induction j with
  | zero =>
    intro s pc d st hp h h1 h2 h3 h4
    have a := ca_ret hp h h1 (by omega) hM h3 (by omega)
    rw [if_pos (by omega), show d + 1 = (M : Int) by omega] at a
    exact ⟨_, Leads.one h.kind, by simpa using a⟩
  | succ j ih =>
    intro s pc d st hp h h1 h2 h3 h4
    have a := ca_ret hp h h1 (by omega) hM h3 (by omega)
    rw [if_neg (by omega)] at a
    obtain ⟨t, l, r⟩ := ih (.inl rfl) a (by omega) (by omega) (by omega) (by omega)
    refine ⟨t, ?_, ?_⟩
    · have := (Leads.one h.kind).trans l
      rwa [show 1 + (j + 1) = j + 1 + 1 by omega] at this
    · rwa [show st + 1 + (j : Int) + 1 = st + ((j + 1 : Nat) : Int) + 1 by omega] at r
theorem ca_start (n : Int) (M : Nat) (n0 : 0 ≤ n) (n1 : n ≤ 255) (hM : M ≤ 255) : ∃ t, Leads (fresh (caC n) [] [] 0 M) 2 t ∧ CaAt n M t 2 n M 2 := by
  have hlen : (fresh (caC n) [] [] 0 M).mem.length = M := by simp [fresh]
  obtain ⟨s0, h0⟩ : ∃ s0, s0 = fresh (caC n) [] [] 0 M := ⟨_, rfl⟩
  obtain ⟨s1, e1⟩ : ∃ s1, s1 = ({ s0 with steps := 1, pc := 1 } : MS).set 1 n := ⟨_, rfl⟩
  obtain ⟨s2, e2⟩ : ∃ s2, s2 = ({ s1 with steps := 2, pc := 2 } : MS).set 2 1 := ⟨_, rfl⟩
  have h1 : step1 s0 = s1 := by
    have h := step_dec (s := s0) (x := ⟨3, 1, 0, 0, n⟩) (by rw [h0]; show (0 : Int) ≤ 0; omega) (by rw [h0]; show (0 : Int) < 9; omega) (by rw [h0]; exact ca_dec n n0 n1)
    rw [h, show s0.steps = 0 by rw [h0]; rfl, show s0.pc = 0 by rw [h0]; rfl, small64 (by omega) (by omega), e1]
    rfl
  have h2 : step1 s1 = s2 := by
    have h := step_dec (s := s1) (x := ⟨3, 2, 0, 0, 1⟩) (by rw [e1]; show (0 : Int) ≤ 1; omega) (by rw [e1, h0]; show (1 : Int) < 9; omega) (by rw [e1, h0]; exact ca1 n)
    rw [h, show s1.steps = 1 by rw [e1]; rfl, show s1.pc = 1 by rw [e1]; rfl, small64 (by omega) (by omega), e2]
    rfl
  rw [← h0]
  refine ⟨s2, ?_, ?_⟩
  · have l := (Leads.one (s := s0) (by rw [h0]; rfl)).trans (Leads.one (s := step1 s0) (by rw [h1, e1, h0]; rfl))
    rw [h1, h2] at l
    exact l
  · subst e2 e1 h0
    exact ⟨rfl, rfl, rfl, rfl, rfl, rfl, rfl, hlen, fun a h0 h1 => by omega⟩
theorem ca_run (n M : Nat) (hn : n ≤ 255) (hM : M ≤ 255) :
    let s := runN (Int.toNat 3000) (fresh (caC n) [] [] 0 M)
    ((M : Int) ≤ n → s.kind = 5) ∧ (¬ (M : Int) ≤ n → s.kind = 1 ∧ s.reg 15 = M ∧ s.reg 1 = 0 ∧ s.steps = 4 * n + 6) := by
  obtain ⟨t, l0, a0⟩ := ca_start n M (by omega) (by omega) hM
  dsimp only
  rw [show Int.toNat 3000 = 3000 by decide]
  by_cases m0 : M = 0
  · subst m0
    have e := ca_over (.inl rfl) a0 (by omega) (by omega)
    have l := l0.trans (Leads.one a0.kind)
    rw [l.ends (by rw [e]; decide) (by omega)]
    exact ⟨fun _ => e, fun h => by omega⟩
  have a1 := ca_call (.inl rfl) a0 (by omega) (by omega) hM (fun _ => rfl) (by omega) (by omega) (by omega)
  have l1 := l0.trans (Leads.one a0.kind)
  by_cases h : (M : Int) ≤ n
  · obtain ⟨k, u, hk, l, e⟩ := ca_down_bad hM n a1 hn (by omega) (by omega) (by omega) (by omega) (by omega)
    rw [(l1.trans l).ends (by rw [e]; decide) (by omega)]
    exact ⟨fun _ => e, fun h' => absurd h h'⟩
  · obtain ⟨u, l2, a2⟩ := ca_down hM n a1 hn (by omega) (by omega) (by omega) (by omega)
    obtain ⟨v, l3, a3⟩ := ca_up hM n (.inr rfl) a2 (by omega) (by omega) (by omega) (by omega)
    have e : step1 v = { v with steps := 4 * n + 6, pc := 4, kind := 1, panics := 0 } := by
      rw [a3.step (by omega) (by omega) (by omega) (by omega) (ca3 n), show (2 : Int) + 1 + 3 * (n : Int) + 1 + n + 1 + 1 = 4 * n + 6 by omega]
      rfl
    have l := (((l1.trans l2).trans l3).trans (Leads.one a3.kind))
    rw [l.ends (by rw [e]; show ¬ (1 : Int) = 0; decide) (by omega), e]
    exact ⟨fun h' => absurd h' h, fun _ => ⟨rfl, a3.r15, a3.r1v, rfl⟩⟩
end Go.Proofs.Ytbchiolgbhckhaa.Mach
