/- The machine's state; its operations, walked. -/
import Derived.Test.YtbchiolgbhckhaaA2
import Derived.Deep.RegionHeld3
import Derived.Test.YtbchiolgbhckhaaA1
section
/- The machine's state as plain numbers and lists, and what one step makes of it. -/
set_option linter.unusedVariables false
set_option linter.unusedSimpArgs false
namespace Go.Proofs.Ytbchiolgbhckhaa.Mach
open Go.RowKit Go.Proofs.YtbchiolgbhckhaaW.PrintWords Go.Proofs.YtbchiolgbhckhaaW.PrintMore Go.Proofs.Ytbchiolgbhckhaa.PMachRuns

/-- A machine's state. -/
structure MS where
  code : List Int
  mem : List Int
  reg : Nat → Int
  pc : Int
  inp : List Int
  out : List Int
  kind : Int
  panics : Int
  steps : Int
namespace MS
def set (s : MS) (k : Nat) (v : Int) : MS := { s with reg := fun j => if j = k then v else s.reg j }
def ends (s : MS) (k c : Int) : MS := { s with kind := k, panics := c }
def fault (s : MS) : MS := s.ends 5 0
def at_ (s : MS) (a : Int) : Bool := decide (0 ≤ a) && decide (a < s.mem.length)
def put (s : MS) (a : Int) (v : Int) : MS := { s with mem := s.mem.set a.toNat v }
def jump (s : MS) (d : Int) : MS := { s with pc := wrap64 (s.pc + d) }
end MS
/-- An operation of two words, of one word: what comes out, with a panic's code. -/
def bin2 (op a b : Int) : Int × Int := (mortiseref1_Bin.f 3 op a b).getD (0, 0)
def un2 (op a : Int) : Int × Int := (mortiseref1_Un.f op a).getD (0, 0)
def high (x i : Int) : Int := wrap64 (wrap64 (x * 4294967296) + i % 4294967296)
/-- A call: the place is laid down at register 15. -/
def MS.call (s : MS) (dest : MS → Int) : MS :=
  let k := wrap64 (s.reg 15 - 1)
  if s.at_ k = true then
    let t := (s.put k s.pc).set 15 k
    { t with pc := dest t }
  else s.fault
def trapS (s : MS) (n : Int) : MS :=
  if 1 ≤ n ∧ n ≤ 999 then s.ends 2 n else if n = 1000 then s.ends 3 0 else if n = 1001 then s.ends 4 0 else s.fault
/-- What an instruction makes of a state. -/
def exec (x : I5) (s : MS) : MS :=
  if x.o = 0 then s.ends 1 0
  else if x.o = 1 then trapS s x.i
  else if x.o = 2 then s.set x.a (s.reg x.b)
  else if x.o = 3 then s.set x.a x.i
  else if x.o = 4 then s.set x.a (high (s.reg x.a) x.i)
  else if x.o = 5 then (if s.at_ (wrap64 (s.reg x.b + x.i)) = true then s.set x.a (rd s.mem (wrap64 (s.reg x.b + x.i))) else s.fault)
  else if x.o = 6 then (if s.at_ (wrap64 (s.reg x.b + x.i)) = true then s.put (wrap64 (s.reg x.b + x.i)) (s.reg x.a) else s.fault)
  else if x.o = 7 then s.jump x.i
  else if x.o = 8 then (if s.reg x.a = 0 then s.jump x.i else s)
  else if x.o = 9 then (if s.reg x.a = 0 then s else s.jump x.i)
  else if x.o = 10 then s.call (fun _ => x.i)
  else if x.o = 11 then s.call (fun t => t.reg x.a)
  else if x.o = 12 then (if s.at_ (s.reg 15) = true then { s.set 15 (wrap64 (s.reg 15 + 1)) with pc := rd s.mem (s.reg 15) } else s.fault)
  else if x.o = 13 then (match s.inp with | [] => s.set x.a (-1) | b :: r => { s.set x.a b with inp := r })
  else if x.o = 14 then (if s.out.length < 4096 then { s with out := s.out ++ [s.reg x.a % 256] } else s)
  else if x.o = 15 then s.set x.a s.mem.length
  else
    let r := if x.o < 40 then bin2 (x.o - 16) (s.reg x.b) (s.reg x.c) else un2 (x.o - 40) (s.reg x.b)
    if r.2 = 0 then s.set x.a r.1 else s.ends 2 r.2
/-- One step of a machine whose run is not over. -/
def step1 (s : MS) : MS :=
  let t := { s with steps := wrap64 (s.steps + 1) }
  if 0 ≤ s.pc ∧ s.pc < s.code.length then
    match decI (rd s.code s.pc) with
    | none => t.fault
    | some x => exec x { t with pc := wrap64 (s.pc + 1) }
  else t.fault
/-- So many steps at most. -/
def runN : Nat → MS → MS
  | 0, s => s
  | n + 1, s => if s.kind = 0 then runN n (step1 s) else s

namespace Num
theorem wrap64_eq (n : Int) : wrap64 n = (BitVec.ofInt 64 n).toInt := by
  rw [BitVec.toInt_ofInt]
  unfold wrap64
  simp only [Int.bmod]
  omega

theorem i64_wrap_eq (n : Int) : IntKind.i64.wrap n = wrap64 n := by
  simp only [IntKind.wrap, IntKind.signed, IntKind.bits, wrap64, Bool.true_and]
  split <;> simp_all <;> omega

theorem i64_wrap_toNat (x : BitVec 64) : IntKind.i64.wrap (x.toNat : Int) = x.toInt := by
  rw [i64_wrap_eq, wrap64_eq]; simp

theorem bits_and (a b : Int) : bits .and .i64 a b = (BitVec.ofInt 64 a &&& BitVec.ofInt 64 b).toInt := i64_wrap_toNat _
theorem bits_or (a b : Int) : bits .or .i64 a b = (BitVec.ofInt 64 a ||| BitVec.ofInt 64 b).toInt := i64_wrap_toNat _
theorem bits_xor (a b : Int) : bits .xor .i64 a b = (BitVec.ofInt 64 a ^^^ BitVec.ofInt 64 b).toInt := i64_wrap_toNat _

theorem ofInt_toInt (x : BitVec 64) : BitVec.ofInt 64 x.toInt = x := by simp

theorem wf_i64 {a : Int} (h : (Lit.int .i64 a).wf = true) : -9223372036854775808 ≤ a ∧ a ≤ 9223372036854775807 := by
  simpa [Lit.wf, IntKind.min, IntKind.max, IntKind.signed, IntKind.bits] using h
theorem wf_u8 {a : Int} (h : (Lit.int .u8 a).wf = true) : 0 ≤ a ∧ a ≤ 255 := by
  simpa [Lit.wf, IntKind.min, IntKind.max, IntKind.signed, IntKind.bits] using h

theorem toInt_ofInt_in {a : Int} (h : -9223372036854775808 ≤ a ∧ a ≤ 9223372036854775807) : (BitVec.ofInt 64 a).toInt = a := by
  rw [← wrap64_eq]; unfold wrap64; omega

theorem u64_wrap (n : Int) : IntKind.u64.wrap n = n % 18446744073709551616 := by
  simp [IntKind.wrap, IntKind.signed, IntKind.bits]

/-- The six low bits of a word without a sign. -/
theorem mask63_u (b : Int) : bits .and .u64 (IntKind.u64.wrap b) 63 = b % 64 := by
  rw [u64_wrap]
  show IntKind.u64.wrap ((BitVec.ofInt 64 (b % 18446744073709551616) &&& BitVec.ofInt 64 63).toNat : Int) = b % 64
  rw [u64_wrap, BitVec.toNat_and]
  have e : (BitVec.ofInt 64 63).toNat = 2 ^ 6 - 1 := by decide
  rw [e, Nat.and_two_pow_sub_one_eq_mod]
  simp only [BitVec.toNat_ofInt]
  omega
/-- The six low bits of a word with a sign. -/
theorem mask63_i (b : Int) : bits .and .i64 b 63 = b % 64 := by
  show IntKind.i64.wrap ((BitVec.ofInt 64 b &&& BitVec.ofInt 64 63).toNat : Int) = b % 64
  rw [i64_wrap_eq, BitVec.toNat_and]
  have e : (BitVec.ofInt 64 63).toNat = 2 ^ 6 - 1 := by decide
  rw [e, Nat.and_two_pow_sub_one_eq_mod]
  simp only [BitVec.toNat_ofInt]
  unfold wrap64
  omega
end Num
open Num

theorem bin_same' (op a b : Int) : ∃ r, word_Bin.f 3 op a b = some r ∧ mortiseref1_Bin.f 3 op a b = some r := by
  have h64 : 0 ≤ b % 64 := by omega
  unfold word_Bin.f mortiseref1_Bin.f
  by_cases h1 : op = 1
  · simp [h1]
  by_cases h2 : op = 2
  · simp [h2]
  by_cases h3 : op = 3
  · simp [h3]
  by_cases h4 : op = 4
  · subst h4
    by_cases hb : b = 0
    · simp [word_Bin.j0, mortiseref1_Bin.j0, word_quotient.f, hb]
    by_cases hm : b = -1
    · simp [word_Bin.j0, mortiseref1_Bin.j0, word_quotient.f, word_quotient.j0, hm]
    · simp [word_Bin.j0, mortiseref1_Bin.j0, word_quotient.f, word_quotient.j0, hb, hm]
  by_cases h5 : op = 5
  · subst h5
    by_cases hb : b = 0
    · simp [word_Bin.j0, mortiseref1_Bin.j0, word_quotient.f, hb]
    by_cases hm : b = -1
    · simp [word_Bin.j0, mortiseref1_Bin.j0, word_quotient.f, word_quotient.j0, hm]
    · simp [word_Bin.j0, mortiseref1_Bin.j0, word_quotient.f, word_quotient.j0, hb, hm]
  · have e : IntKind.u64.wrap (b % 64) = b % 64 := by rw [u64_wrap]; omega
    have t : ∀ c : Bool, word_truth.f c = mortiseref1_one.f c := fun _ => rfl
    have s : ∀ c : Bool, ∃ n, mortiseref1_one.f c = some n := fun c => by cases c <;> exact ⟨_, rfl⟩
    have x5 : (op == 5) = false := beq_eq_false_iff_ne.2 h5
    rw [if_neg h1, if_neg h2, if_neg h3, if_neg h4, if_neg h1, if_neg h2, if_neg h3, if_neg h4, x5]
    simp only [word_Bin.j0, mortiseref1_Bin.j0, word_shift.f, mask63_i, e, t]
    rw [mask63_u]
    simp only [Option.bind_some, if_pos h64]
    by_cases h6 : op = 6
    · simp [h6]
    by_cases h7 : op = 7
    · simp [h7]
    by_cases h8 : op = 8
    · simp [h8]
    by_cases h9 : op = 9
    · simp [h9]
    by_cases h10 : op = 10
    · simp [h10]
    by_cases h11 : op = 11
    · obtain ⟨n, hn⟩ := s (a == b); simp [h11, hn]
    by_cases h12 : op = 12
    · obtain ⟨n, hn⟩ := s (a != b); simp [h12, hn]
    by_cases h13 : op = 13
    · obtain ⟨n, hn⟩ := s (decide (a < b)); simp [h13, hn]
    by_cases h14 : op = 14
    · obtain ⟨n, hn⟩ := s (decide (a ≤ b)); simp [h14, hn]
    by_cases h15 : op = 15
    · obtain ⟨n, hn⟩ := s (decide (b < a)); simp [h15, hn]
    by_cases h16 : op = 16
    · obtain ⟨n, hn⟩ := s (decide (b ≤ a)); simp [h16, hn]
    · simp [h6, h7, h8, h9, h10, h11, h12, h13, h14, h15, h16]

theorem bin_same (op a b : Int) : word_Bin.f 3 op a b = some (bin2 op a b) ∧ mortiseref1_Bin.f 3 op a b = some (bin2 op a b) := by
  obtain ⟨r, h1, h2⟩ := bin_same' op a b
  unfold bin2
  rw [h1, h2]
  exact ⟨rfl, rfl⟩
theorem un_same' (op a : Int) : ∃ r, word_Un.f op a = some r ∧ mortiseref1_Un.f op a = some r := by
  unfold word_Un.f mortiseref1_Un.f word_truth.f mortiseref1_one.f
  by_cases h1 : op = 1
  · simp [h1]
  by_cases h2 : op = 2
  · simp [h2]
  by_cases h3 : op = 3
  · by_cases h0 : a = 0 <;> simp [h3, h0]
  · simp [h1, h2, h3]

theorem un_same (op a : Int) : word_Un.f op a = some (un2 op a) ∧ mortiseref1_Un.f op a = some (un2 op a) := by
  obtain ⟨r, h1, h2⟩ := un_same' op a
  unfold un2
  rw [h1, h2]
  exact ⟨rfl, rfl⟩
theorem un2_ok {op : Int} (a : Int) (h : op = 1 ∨ op = 2 ∨ op = 3) : (un2 op a).2 = 0 := by
  unfold un2 mortiseref1_Un.f mortiseref1_one.f
  rcases h with rfl | rfl | rfl
  · rfl
  · rfl
  · cases (a == 0) <;> rfl
end Go.Proofs.Ytbchiolgbhckhaa.Mach
end

section
/- The operations of the machine, one walk each: what each writes into the machine's own words. -/
set_option linter.unusedVariables false
set_option linter.unusedSimpArgs false
namespace Go.Proofs.Ytbchiolgbhckhaa.Mach
open Go.RowKit Go.Proofs.YtbchiolgbhckhaaW.PrintWords Go.Proofs.YtbchiolgbhckhaaW.PrintMore Go.Proofs.Ytbchiolgbhckhaa.PMachRuns

def faultP : Ending := .panicked [{ v := .iface 65 (.agg #[]), recovered := false }]
set_option maxHeartbeats 400000 in
theorem word_yes (m : Nat) (b : Nat) (n c : Nat) (a : Int) (w : World) (h0 : 0 ≤ a) (h1 : a < n) (hn : n ≤ 262144) (hc : w.cell? ⟨m, 1, none⟩ = some (.slice (some ⟨b, 0, none⟩) n c)) :
    Calls Try.prog 58 #[.pointer (some ⟨m, 0, none⟩), .int .i64 a] w fun e w' => e = .returned (.pointer (some ⟨b, a.toNat, none⟩)) ∧ w' = w := by
  go_enter Try.func58, Try.ntmps58
  go_wp2
  go_ret
  exact ⟨rfl, rfl⟩
set_option maxHeartbeats 400000 in
theorem word_no (m : Nat) (b : Option Addr) (n c : Nat) (a : Int) (w : World) (h : a < 0 ∨ n ≤ a) (hn : n ≤ 262144) (hc : w.cell? ⟨m, 1, none⟩ = some (.slice b n c)) :
    Calls Try.prog 58 #[.pointer (some ⟨m, 0, none⟩), .int .i64 a] w fun e w' => e = faultP ∧ w = w' := by
  go_enter Try.func58, Try.ntmps58
  rcases h with h | h
  · go_wp2
    exact ⟨rfl, rfl, rfl⟩
  · go_wp2
    exact ⟨rfl, rfl, rfl⟩
set_option maxHeartbeats 400000 in
theorem ends_any (m : Nat) (x y k c : Int) (w : World) (h6 : w.cell? ⟨m, 21, none⟩ = some (.int .i64 x)) (h7 : w.cell? ⟨m, 22, none⟩ = some (.int .i64 y)) (hf : ∀ o, w.frozen? ⟨m, o, none⟩ = false) :
    Calls Try.prog 49 #[.pointer (some ⟨m, 0, none⟩), .int .i64 k, .int .i64 c] w fun e w' => e = .returned (.tuple #[]) ∧ w' = (w.setCell ⟨m, 21, none⟩ (.int .i64 k)).setCell ⟨m, 22, none⟩ (.int .i64 c) := by
  go_enter Try.func49, Try.ntmps49
  go_wp2
  go_end0
  exact ⟨rfl, rfl⟩
/-- The end of a run, told. -/
def endsW (w : World) (m : Nat) (k c : Int) : World := (w.setCell ⟨m, 21, none⟩ (.int .i64 k)).setCell ⟨m, 22, none⟩ (.int .i64 c)
def regW (w : World) (m k : Nat) (v : Int) : World := w.setCell ⟨m, 2 + k, none⟩ (.int .i64 v)
def Did (w W : World) (e : Ending) (w' : World) : Prop := e = .returned (.tuple #[]) ∧ Below w.heap.size W w'

set_option maxHeartbeats 400000 in
theorem halt_any (m : Nat) (o a b c i x y : Int) (w : World) (hm : m < w.heap.size) (hf : ∀ o, w.frozen? ⟨m, o, none⟩ = false) (h6 : w.cell? ⟨m, 21, none⟩ = some (.int .i64 x)) (h7 : w.cell? ⟨m, 22, none⟩ = some (.int .i64 y)) :
    Calls Try.prog 32 #[.pointer (some ⟨m, 0, none⟩), .agg #[.int .i64 o, .int .i64 a, .int .i64 b, .int .i64 c, .int .i64 i]] w (Did w (endsW w m 1 0)) := by
  go_enter Try.func32, Try.ntmps32
  go_wp2
  go_end0
  go_wp2
  go_end0
  exact ⟨rfl, (Below.refl _ _).alloc (by simp [endsW, regW]) _⟩
set_option maxHeartbeats 400000 in
theorem trap_1 (m : Nat) (o a b c i x y : Int) (w : World) (hm : m < w.heap.size) (hf : ∀ o, w.frozen? ⟨m, o, none⟩ = false) (h6 : w.cell? ⟨m, 21, none⟩ = some (.int .i64 x)) (h7 : w.cell? ⟨m, 22, none⟩ = some (.int .i64 y)) (i0 : 1 ≤ i) (i1 : i ≤ 999) :
    Calls Try.prog 33 #[.pointer (some ⟨m, 0, none⟩), .agg #[.int .i64 o, .int .i64 a, .int .i64 b, .int .i64 c, .int .i64 i]] w (Did w (endsW w m 2 i)) := by
  go_enter Try.func33, Try.ntmps33
  go_wp2
  go_end0
  go_wp2
  go_end0
  exact ⟨rfl, (Below.refl _ _).alloc (by simp [endsW, regW]) _⟩
set_option maxHeartbeats 400000 in
theorem trap_2 (m : Nat) (o a b c i x y : Int) (w : World) (hm : m < w.heap.size) (hf : ∀ o, w.frozen? ⟨m, o, none⟩ = false) (h6 : w.cell? ⟨m, 21, none⟩ = some (.int .i64 x)) (h7 : w.cell? ⟨m, 22, none⟩ = some (.int .i64 y)) (i0 : i = 1000) :
    Calls Try.prog 33 #[.pointer (some ⟨m, 0, none⟩), .agg #[.int .i64 o, .int .i64 a, .int .i64 b, .int .i64 c, .int .i64 i]] w (Did w (endsW w m 3 0)) := by
  go_enter Try.func33, Try.ntmps33
  subst i0
  go_wp2
  go_end0
  go_wp2
  go_end0
  exact ⟨rfl, (Below.refl _ _).alloc (by simp [endsW, regW]) _⟩
set_option maxHeartbeats 400000 in
theorem trap_3 (m : Nat) (o a b c i x y : Int) (w : World) (hm : m < w.heap.size) (hf : ∀ o, w.frozen? ⟨m, o, none⟩ = false) (h6 : w.cell? ⟨m, 21, none⟩ = some (.int .i64 x)) (h7 : w.cell? ⟨m, 22, none⟩ = some (.int .i64 y)) (i0 : i = 1001) :
    Calls Try.prog 33 #[.pointer (some ⟨m, 0, none⟩), .agg #[.int .i64 o, .int .i64 a, .int .i64 b, .int .i64 c, .int .i64 i]] w (Did w (endsW w m 4 0)) := by
  go_enter Try.func33, Try.ntmps33
  subst i0
  go_wp2
  go_end0
  go_wp2
  go_end0
  exact ⟨rfl, (Below.refl _ _).alloc (by simp [endsW, regW]) _⟩
set_option maxHeartbeats 400000 in
theorem trap_4 (m : Nat) (o a b c i x y : Int) (w : World) (hm : m < w.heap.size) (hf : ∀ o, w.frozen? ⟨m, o, none⟩ = false) (h6 : w.cell? ⟨m, 21, none⟩ = some (.int .i64 x)) (h7 : w.cell? ⟨m, 22, none⟩ = some (.int .i64 y)) (i0 : i < 1) :
    Calls Try.prog 33 #[.pointer (some ⟨m, 0, none⟩), .agg #[.int .i64 o, .int .i64 a, .int .i64 b, .int .i64 c, .int .i64 i]] w (Did w (endsW w m 5 0)) := by
  go_enter Try.func33, Try.ntmps33
  go_wp2
  go_end0
  go_wp2
  go_end0
  exact ⟨rfl, (Below.refl _ _).alloc (by simp [endsW, regW]) _⟩
set_option maxHeartbeats 400000 in
theorem trap_5 (m : Nat) (o a b c i x y : Int) (w : World) (hm : m < w.heap.size) (hf : ∀ o, w.frozen? ⟨m, o, none⟩ = false) (h6 : w.cell? ⟨m, 21, none⟩ = some (.int .i64 x)) (h7 : w.cell? ⟨m, 22, none⟩ = some (.int .i64 y)) (i0 : 999 < i) (i1 : ¬ i = 1000) (i2 : ¬ i = 1001) :
    Calls Try.prog 33 #[.pointer (some ⟨m, 0, none⟩), .agg #[.int .i64 o, .int .i64 a, .int .i64 b, .int .i64 c, .int .i64 i]] w (Did w (endsW w m 5 0)) := by
  go_enter Try.func33, Try.ntmps33
  go_wp2
  go_end0
  go_wp2
  go_end0
  exact ⟨rfl, (Below.refl _ _).alloc (by simp [endsW, regW]) _⟩
set_option maxHeartbeats 400000 in
theorem move_any (m a b c : Nat) (o i xa xb xc : Int) (w : World) (hm : m < w.heap.size) (hf : ∀ o, w.frozen? ⟨m, o, none⟩ = false) (ha : w.cell? ⟨m, 2 + a, none⟩ = some (.int .i64 xa)) (la : (a : Int) < 16) (hb : w.cell? ⟨m, 2 + b, none⟩ = some (.int .i64 xb)) (lb : (b : Int) < 16) :
    Calls Try.prog 34 #[.pointer (some ⟨m, 0, none⟩), .agg #[.int .i64 o, .int .i64 a, .int .i64 b, .int .i64 c, .int .i64 i]] w (Did w (regW w m a xb)) := by
  go_enter Try.func34, Try.ntmps34
  go_wp2
  refine region_tail 13 mixed (by kernel_rfl) ?_
  simp only [List.take_succ_cons, List.take_zero, List.drop_succ_cons, List.drop_zero]
  repeat still_step
  refine wpStill_nil ?_
  go_wp2
  go_end0
  exact ⟨rfl, ((Below.refl _ _).alloc (by simp [endsW, regW]) _).drew⟩
set_option maxHeartbeats 400000 in
theorem konst_any (m a b c : Nat) (o i xa xb xc : Int) (w : World) (hm : m < w.heap.size) (hf : ∀ o, w.frozen? ⟨m, o, none⟩ = false) (ha : w.cell? ⟨m, 2 + a, none⟩ = some (.int .i64 xa)) (la : (a : Int) < 16) :
    Calls Try.prog 35 #[.pointer (some ⟨m, 0, none⟩), .agg #[.int .i64 o, .int .i64 a, .int .i64 b, .int .i64 c, .int .i64 i]] w (Did w (regW w m a i)) := by
  go_enter Try.func35, Try.ntmps35
  go_wp2
  refine region_tail 8 mixed (by kernel_rfl) ?_
  simp only [List.take_succ_cons, List.take_zero, List.drop_succ_cons, List.drop_zero]
  repeat still_step
  refine wpStill_nil ?_
  go_wp2
  go_end0
  exact ⟨rfl, ((Below.refl _ _).alloc (by simp [endsW, regW]) _).drew⟩
set_option maxHeartbeats 400000 in
theorem high_any (m a b c : Nat) (o i xa xb xc : Int) (w : World) (hm : m < w.heap.size) (hf : ∀ o, w.frozen? ⟨m, o, none⟩ = false) (ha : w.cell? ⟨m, 2 + a, none⟩ = some (.int .i64 xa)) (la : (a : Int) < 16) :
    Calls Try.prog 36 #[.pointer (some ⟨m, 0, none⟩), .agg #[.int .i64 o, .int .i64 a, .int .i64 b, .int .i64 c, .int .i64 i]] w (Did w (regW w m a (wrap64 (wrap64 (xa * 4294967296) + wrap64 (i % 4294967296))))) := by
  go_enter Try.func36, Try.ntmps36
  go_wp2
  refine region_tail 19 mixed (by kernel_rfl) ?_
  simp only [List.take_succ_cons, List.take_zero, List.drop_succ_cons, List.drop_zero]
  repeat still_step
  refine wpStill_nil ?_
  go_wp2
  go_end0
  exact ⟨rfl, ((Below.refl _ _).alloc (by simp [endsW, regW]) _).drew⟩
set_option maxHeartbeats 400000 in
theorem load_yes (m mb n cp a b c : Nat) (o i xa xb xc k v : Int) (w : World) (hm : m < w.heap.size) (hf : ∀ o, w.frozen? ⟨m, o, none⟩ = false) (hmem : w.cell? ⟨m, 1, none⟩ = some (.slice (some ⟨mb, 0, none⟩) n cp)) (hn : n ≤ 262144) (ha : w.cell? ⟨m, 2 + a, none⟩ = some (.int .i64 xa)) (la : (a : Int) < 16) (hb : w.cell? ⟨m, 2 + b, none⟩ = some (.int .i64 xb)) (lb : (b : Int) < 16) (hk : IntKind.i64.wrap (xb + i) = k) (k0 : 0 ≤ k) (k1 : k < n) (hv : w.cell? ⟨mb, k.toNat, none⟩ = some (.int .i64 v)) (hmb : mb < w.heap.size) :
    Calls Try.prog 37 #[.pointer (some ⟨m, 0, none⟩), .agg #[.int .i64 o, .int .i64 a, .int .i64 b, .int .i64 c, .int .i64 i]] w (Did w (regW w m a v)) := by
  go_enter Try.func37, Try.ntmps37
  go_wp2
  refine region_tail 20 mixed (by kernel_rfl) ?_
  simp only [List.take_succ_cons, List.take_zero, List.drop_succ_cons, List.drop_zero]
  repeat (first | still_step | still_call (word_yes m mb n cp _ _ k0 k1 hn ((World.cell?_alloc_past _ m 1 hm).trans hmem)))
  refine wpStill_nil ?_
  go_wp2
  go_end0
  exact ⟨rfl, ((Below.refl _ _).alloc (by simp [endsW, regW]) _).drew⟩
def Died (w : World) (e : Ending) (w' : World) : Prop := e = faultP ∧ Below w.heap.size w w'
set_option maxHeartbeats 1000000 in
theorem load_no (m n cp a b c : Nat) (A : Option Addr) (o i xa xb xc k : Int) (w : World) (hm : m < w.heap.size) (hf : ∀ o, w.frozen? ⟨m, o, none⟩ = false) (hmem : w.cell? ⟨m, 1, none⟩ = some (.slice A n cp)) (hn : n ≤ 262144) (ha : w.cell? ⟨m, 2 + a, none⟩ = some (.int .i64 xa)) (la : (a : Int) < 16) (hb : w.cell? ⟨m, 2 + b, none⟩ = some (.int .i64 xb)) (lb : (b : Int) < 16) (hk : IntKind.i64.wrap (xb + i) = k) (k0 : k < 0 ∨ n ≤ k) :
    Calls Try.prog 37 #[.pointer (some ⟨m, 0, none⟩), .agg #[.int .i64 o, .int .i64 a, .int .i64 b, .int .i64 c, .int .i64 i]] w (Died w) := by
  have K0 := Lib.hid k0
  clear k0
  have hmem' := (World.cell?_alloc_past (w := w) (.cells #[.int .i64 o, .int .i64 a, .int .i64 b, .int .i64 c, .int .i64 i] 50) m 1 hm).trans hmem
  go_enter Try.func37, Try.ntmps37
  go_wp2
  refine wp_region_held_drew (S := fun w' => w' = (w.alloc (.cells #[.int .i64 o, .int .i64 a, .int .i64 b, .int .i64 c, .int .i64 i] 50)).drew) mixed rfl (fun _ => ?_)
  refine wpAnyH_take (i := 0) (v := ?v0) rfl (by kernel_rfl) (by kernel_rfl) (by kernel_rfl) (fun _ _ _ h => h) (Or.inl ⟨by rfl, ?y0⟩) rfl ?_
  case y0 => intro w' hS; subst hS; go_simp; rfl
  refine wpAnyH_take (i := 1) (v := ?v1) rfl (by kernel_rfl) (by kernel_rfl) (by kernel_rfl) (fun _ _ _ h => h) (Or.inl ⟨by rfl, ?y1⟩) rfl ?_
  case y1 => intro w' hS; subst hS; go_simp; rfl
  refine wpAnyH_take (i := 2) (v := ?v2) rfl (by kernel_rfl) (by kernel_rfl) (by kernel_rfl) (fun _ _ _ h => h) (Or.inl ⟨by rfl, ?y2⟩) rfl ?_
  case y2 => intro w' hS; subst hS; go_simp; rfl
  refine wpAnyH_take (i := 3) (v := ?v3) rfl (by kernel_rfl) (by kernel_rfl) (by kernel_rfl) (fun _ _ _ h => h) (Or.inl ⟨by rfl, ?y3⟩) rfl ?_
  case y3 => intro w' hS; subst hS; go_simp; rfl
  refine wpAnyH_take (i := 4) (v := ?v4) rfl (by kernel_rfl) (by kernel_rfl) (by kernel_rfl) (fun _ _ _ h => h) (Or.inl ⟨by rfl, ?y4⟩) rfl ?_
  case y4 => intro w' hS; subst hS; go_simp; rfl
  refine wpAnyH_take (i := 5) (v := ?v5) rfl (by kernel_rfl) (by kernel_rfl) (by kernel_rfl) (fun _ _ _ h => h) (Or.inl ⟨by rfl, ?y5⟩) rfl ?_
  case y5 => intro w' hS; subst hS; go_simp; rfl
  refine wpAnyH_take (i := 6) (v := ?v6) rfl (by kernel_rfl) (by kernel_rfl) (by kernel_rfl) (fun _ _ _ h => h) (Or.inl ⟨by rfl, ?y6⟩) rfl ?_
  case y6 => intro w' hS; subst hS; go_simp; rfl
  refine wpAnyH_take (i := 7) (v := ?v7) rfl (by kernel_rfl) (by kernel_rfl) (by kernel_rfl) (fun _ _ _ h => h) (Or.inl ⟨by rfl, ?y7⟩) rfl ?_
  case y7 => intro w' hS; subst hS; go_simp; rfl
  refine wpAnyH_take (i := 8) (v := ?v8) rfl (by kernel_rfl) (by kernel_rfl) (by kernel_rfl) (fun _ _ _ h => h) (Or.inl ⟨by rfl, ?y8⟩) rfl ?_
  case y8 => intro w' hS; subst hS; go_simp; rfl
  refine wpAnyH_take (i := 9) (v := ?v9) rfl (by kernel_rfl) (by kernel_rfl) (by kernel_rfl) (fun _ _ _ h => h) (Or.inl ⟨by rfl, ?y9⟩) rfl ?_
  case y9 => intro w' hS; subst hS; go_simp; rfl
  refine wpAnyH_take (i := 10) (v := ?v10) rfl (by kernel_rfl) (by kernel_rfl) (by kernel_rfl) (fun _ _ _ h => h) (Or.inl ⟨by rfl, ?y10⟩) rfl ?_
  case y10 => intro w' hS; subst hS; go_simp; rfl
  refine wpAnyH_take (i := 11) (v := ?v11) rfl (by kernel_rfl) (by kernel_rfl) (by kernel_rfl) (fun _ _ _ h => h) (Or.inl ⟨by rfl, ?y11⟩) rfl ?_
  case y11 => intro w' hS; subst hS; go_simp; rfl
  refine wpAnyH_take (i := 12) (v := ?v12) rfl (by kernel_rfl) (by kernel_rfl) (by kernel_rfl) (fun _ _ _ h => h) (Or.inl ⟨by rfl, ?y12⟩) rfl ?_
  case y12 => intro w' hS; subst hS; go_simp; rfl
  refine wpAnyH_take (i := 13) (v := ?v13) rfl (by kernel_rfl) (by kernel_rfl) (by kernel_rfl) (fun _ _ _ h => h) (Or.inl ⟨by rfl, ?y13⟩) rfl ?_
  case y13 => intro w' hS; subst hS; go_simp; rfl
  refine wpAnyH_take (i := 17) (v := ?v17) rfl (by kernel_rfl) (by kernel_rfl) (by kernel_rfl) (fun _ _ _ h => h) (Or.inl ⟨by rfl, ?y17⟩) rfl ?_
  case y17 => intro w' hS; subst hS; go_simp; rfl
  refine wpAnyH_take (i := 18) (v := ?v18) rfl (by kernel_rfl) (by kernel_rfl) (by kernel_rfl) (fun _ _ _ h => h) (Or.inl ⟨by rfl, ?y18⟩) rfl ?_
  case y18 => intro w' hS; subst hS; go_simp; rfl
  refine wpAnyH_ready (rs := [14]) (by kernel_rfl) (by simp) (AllReadyH.cons rfl (fun K' hK => ?_) AllReadyH.nil)
  go_simp
  refine (word_no m A n cp k _ K0.out hn (by exact hmem')).mono ?_
  rintro e w1 ⟨rfl, rfl⟩
  exact ⟨rfl, rfl, ((Below.refl _ _).alloc (Nat.le_refl _) _).drew⟩
end Go.Proofs.Ytbchiolgbhckhaa.Mach
end

section
/- The operations of the machine, one walk each: those that lay words down, jump, call. -/
set_option linter.unusedVariables false
set_option linter.unusedSimpArgs false
namespace Go.Proofs.Ytbchiolgbhckhaa.Mach
open Go.RowKit Go.Proofs.YtbchiolgbhckhaaW.PrintWords Go.Proofs.YtbchiolgbhckhaaW.PrintMore Go.Proofs.Ytbchiolgbhckhaa.PMachRuns

def memW (w : World) (mb k : Nat) (v : Int) : World := w.setCell ⟨mb, k, none⟩ (.int .i64 v)
def pcW (w : World) (m : Nat) (v : Int) : World := w.setCell ⟨m, 18, none⟩ (.int .i64 v)
set_option maxHeartbeats 400000 in
theorem store_yes (m mb n cp a b c : Nat) (o i xa xb xc k v : Int) (w : World) (hm : m < w.heap.size) (hf : ∀ o, w.frozen? ⟨m, o, none⟩ = false) (hmem : w.cell? ⟨m, 1, none⟩ = some (.slice (some ⟨mb, 0, none⟩) n cp)) (hn : n ≤ 262144) (ha : w.cell? ⟨m, 2 + a, none⟩ = some (.int .i64 xa)) (la : (a : Int) < 16) (hb : w.cell? ⟨m, 2 + b, none⟩ = some (.int .i64 xb)) (lb : (b : Int) < 16) (hk : IntKind.i64.wrap (xb + i) = k) (k0 : 0 ≤ k) (k1 : k < n) (hv : w.cell? ⟨mb, k.toNat, none⟩ = some (.int .i64 v)) (hmb : mb < w.heap.size) (hfm : w.frozen? ⟨mb, k.toNat, none⟩ = false) (hne : ¬ m = mb) (hne' : ¬ mb = m) :
    Calls Try.prog 38 #[.pointer (some ⟨m, 0, none⟩), .agg #[.int .i64 o, .int .i64 a, .int .i64 b, .int .i64 c, .int .i64 i]] w (Did w (memW w mb k.toNat xa)) := by
  go_enter Try.func38, Try.ntmps38
  go_wp2
  refine region_tail 20 mixed (by kernel_rfl) ?_
  simp only [List.take_succ_cons, List.take_zero, List.drop_succ_cons, List.drop_zero]
  repeat (first | still_step | still_call (word_yes m mb n cp _ _ k0 k1 hn ((World.cell?_alloc_past _ m 1 hm).trans hmem)))
  refine wpStill_nil ?_
  go_wp2
  go_end0
  exact ⟨rfl, ((Below.refl _ _).alloc (by simp [endsW, regW, memW, pcW]) _).drew⟩
set_option maxHeartbeats 1000000 in
theorem store_no (m n cp a b c : Nat) (A : Option Addr) (o i xa xb xc k : Int) (w : World) (hm : m < w.heap.size) (hf : ∀ o, w.frozen? ⟨m, o, none⟩ = false) (hmem : w.cell? ⟨m, 1, none⟩ = some (.slice A n cp)) (hn : n ≤ 262144) (ha : w.cell? ⟨m, 2 + a, none⟩ = some (.int .i64 xa)) (la : (a : Int) < 16) (hb : w.cell? ⟨m, 2 + b, none⟩ = some (.int .i64 xb)) (lb : (b : Int) < 16) (hk : IntKind.i64.wrap (xb + i) = k) (k0 : k < 0 ∨ n ≤ k) :
    Calls Try.prog 38 #[.pointer (some ⟨m, 0, none⟩), .agg #[.int .i64 o, .int .i64 a, .int .i64 b, .int .i64 c, .int .i64 i]] w (Died w) := by
  have K0 := Lib.hid k0
  clear k0
  have hmem' := (World.cell?_alloc_past (w := w) (.cells #[.int .i64 o, .int .i64 a, .int .i64 b, .int .i64 c, .int .i64 i] 50) m 1 hm).trans hmem
  go_enter Try.func38, Try.ntmps38
  go_wp2
  refine wp_region_held_drew (S := fun w' => w' = (w.alloc (.cells #[.int .i64 o, .int .i64 a, .int .i64 b, .int .i64 c, .int .i64 i] 50)).drew) mixed rfl (fun _ => ?_)
  refine wpAnyH_take (i := 0) (v := ?v0) rfl (by kernel_rfl) (by kernel_rfl) (by kernel_rfl) (fun _ _ _ h => h) (Or.inl ⟨by rfl, ?y0⟩) rfl ?_
  case y0 => intro w' hS; subst hS; go_simp; rfl
  refine wpAnyH_take (i := 1) (v := ?v1) rfl (by kernel_rfl) (by kernel_rfl) (by kernel_rfl) (fun _ _ _ h => h) (Or.inl ⟨by rfl, ?y1⟩) rfl ?_
  case y1 => intro w' hS; subst hS; go_simp; rfl
  refine wpAnyH_take (i := 2) (v := ?v2) rfl (by kernel_rfl) (by kernel_rfl) (by kernel_rfl) (fun _ _ _ h => h) (Or.inl ⟨by rfl, ?y2⟩) rfl ?_
  case y2 => intro w' hS; subst hS; go_simp; rfl
  refine wpAnyH_take (i := 3) (v := ?v3) rfl (by kernel_rfl) (by kernel_rfl) (by kernel_rfl) (fun _ _ _ h => h) (Or.inl ⟨by rfl, ?y3⟩) rfl ?_
  case y3 => intro w' hS; subst hS; go_simp; rfl
  refine wpAnyH_take (i := 4) (v := ?v4) rfl (by kernel_rfl) (by kernel_rfl) (by kernel_rfl) (fun _ _ _ h => h) (Or.inl ⟨by rfl, ?y4⟩) rfl ?_
  case y4 => intro w' hS; subst hS; go_simp; rfl
  refine wpAnyH_take (i := 5) (v := ?v5) rfl (by kernel_rfl) (by kernel_rfl) (by kernel_rfl) (fun _ _ _ h => h) (Or.inl ⟨by rfl, ?y5⟩) rfl ?_
  case y5 => intro w' hS; subst hS; go_simp; rfl
  refine wpAnyH_take (i := 6) (v := ?v6) rfl (by kernel_rfl) (by kernel_rfl) (by kernel_rfl) (fun _ _ _ h => h) (Or.inl ⟨by rfl, ?y6⟩) rfl ?_
  case y6 => intro w' hS; subst hS; go_simp; rfl
  refine wpAnyH_take (i := 7) (v := ?v7) rfl (by kernel_rfl) (by kernel_rfl) (by kernel_rfl) (fun _ _ _ h => h) (Or.inl ⟨by rfl, ?y7⟩) rfl ?_
  case y7 => intro w' hS; subst hS; go_simp; rfl
  refine wpAnyH_take (i := 8) (v := ?v8) rfl (by kernel_rfl) (by kernel_rfl) (by kernel_rfl) (fun _ _ _ h => h) (Or.inl ⟨by rfl, ?y8⟩) rfl ?_
  case y8 => intro w' hS; subst hS; go_simp; rfl
  refine wpAnyH_take (i := 9) (v := ?v9) rfl (by kernel_rfl) (by kernel_rfl) (by kernel_rfl) (fun _ _ _ h => h) (Or.inl ⟨by rfl, ?y9⟩) rfl ?_
  case y9 => intro w' hS; subst hS; go_simp; rfl
  refine wpAnyH_take (i := 10) (v := ?v10) rfl (by kernel_rfl) (by kernel_rfl) (by kernel_rfl) (fun _ _ _ h => h) (Or.inl ⟨by rfl, ?y10⟩) rfl ?_
  case y10 => intro w' hS; subst hS; go_simp; rfl
  refine wpAnyH_take (i := 12) (v := ?v12) rfl (by kernel_rfl) (by kernel_rfl) (by kernel_rfl) (fun _ _ _ h => h) (Or.inl ⟨by rfl, ?y12⟩) rfl ?_
  case y12 => intro w' hS; subst hS; go_simp; rfl
  refine wpAnyH_take (i := 13) (v := ?v13) rfl (by kernel_rfl) (by kernel_rfl) (by kernel_rfl) (fun _ _ _ h => h) (Or.inl ⟨by rfl, ?y13⟩) rfl ?_
  case y13 => intro w' hS; subst hS; go_simp; rfl
  refine wpAnyH_take (i := 14) (v := ?v14) rfl (by kernel_rfl) (by kernel_rfl) (by kernel_rfl) (fun _ _ _ h => h) (Or.inl ⟨by rfl, ?y14⟩) rfl ?_
  case y14 => intro w' hS; subst hS; go_simp; rfl
  refine wpAnyH_take (i := 15) (v := ?v15) rfl (by kernel_rfl) (by kernel_rfl) (by kernel_rfl) (fun _ _ _ h => h) (Or.inl ⟨by rfl, ?y15⟩) rfl ?_
  case y15 => intro w' hS; subst hS; go_simp; rfl
  refine wpAnyH_take (i := 16) (v := ?v16) rfl (by kernel_rfl) (by kernel_rfl) (by kernel_rfl) (fun _ _ _ h => h) (Or.inl ⟨by rfl, ?y16⟩) rfl ?_
  case y16 => intro w' hS; subst hS; go_simp; rfl
  refine wpAnyH_take (i := 17) (v := ?v17) rfl (by kernel_rfl) (by kernel_rfl) (by kernel_rfl) (fun _ _ _ h => h) (Or.inl ⟨by rfl, ?y17⟩) rfl ?_
  case y17 => intro w' hS; subst hS; go_simp; rfl
  refine wpAnyH_take (i := 18) (v := ?v18) rfl (by kernel_rfl) (by kernel_rfl) (by kernel_rfl) (fun _ _ _ h => h) (Or.inl ⟨by rfl, ?y18⟩) rfl ?_
  case y18 => intro w' hS; subst hS; go_simp; rfl
  refine wpAnyH_ready (rs := [11]) (by kernel_rfl) (by simp) (AllReadyH.cons rfl (fun K' hK => ?_) AllReadyH.nil)
  go_simp
  refine (word_no m A n cp k _ K0.out hn (by exact hmem')).mono ?_
  rintro e w1 ⟨rfl, rfl⟩
  exact ⟨rfl, rfl, ((Below.refl _ _).alloc (Nat.le_refl _) _).drew⟩
set_option maxHeartbeats 400000 in
theorem jump_any (m a b c : Nat) (o i xa xb xc pc : Int) (w : World) (hm : m < w.heap.size) (hf : ∀ o, w.frozen? ⟨m, o, none⟩ = false) (h18 : w.cell? ⟨m, 18, none⟩ = some (.int .i64 pc)) :
    Calls Try.prog 39 #[.pointer (some ⟨m, 0, none⟩), .agg #[.int .i64 o, .int .i64 a, .int .i64 b, .int .i64 c, .int .i64 i]] w (Did w (pcW w m (wrap64 (pc + i)))) := by
  go_enter Try.func39, Try.ntmps39
  go_wp2
  refine region_tail 9 mixed (by kernel_rfl) ?_
  simp only [List.take_succ_cons, List.take_zero, List.drop_succ_cons, List.drop_zero]
  repeat still_step
  refine wpStill_nil ?_
  go_wp2
  go_end0
  exact ⟨rfl, ((Below.refl _ _).alloc (by simp [endsW, regW, memW, pcW]) _).drew⟩
set_option maxHeartbeats 400000 in
theorem zero_yes (m a b c : Nat) (o i xa xb xc pc : Int) (w : World) (hm : m < w.heap.size) (hf : ∀ o, w.frozen? ⟨m, o, none⟩ = false) (h18 : w.cell? ⟨m, 18, none⟩ = some (.int .i64 pc)) (ha : w.cell? ⟨m, 2 + a, none⟩ = some (.int .i64 xa)) (la : (a : Int) < 16) (z : (xa == 0) = true) :
    Calls Try.prog 40 #[.pointer (some ⟨m, 0, none⟩), .agg #[.int .i64 o, .int .i64 a, .int .i64 b, .int .i64 c, .int .i64 i]] w (Did w (pcW w m (wrap64 (pc + i)))) := by
  go_enter Try.func40, Try.ntmps40
  go_wp2
  refine region_still mixed (by kernel_rfl) ?_
  repeat still_step
  refine wpStill_nil ?_
  go_wp2
  refine region_tail 9 mixed (by kernel_rfl) ?_
  simp only [List.take_succ_cons, List.take_zero, List.drop_succ_cons, List.drop_zero]
  repeat still_step
  refine wpStill_nil ?_
  go_wp2
  go_end0
  exact ⟨rfl, ((Below.refl _ _).alloc (by simp [endsW, regW, memW, pcW]) _).drew.drew⟩
set_option maxHeartbeats 400000 in
theorem zero_no (m a b c : Nat) (o i xa xb xc pc : Int) (w : World) (hm : m < w.heap.size) (hf : ∀ o, w.frozen? ⟨m, o, none⟩ = false) (h18 : w.cell? ⟨m, 18, none⟩ = some (.int .i64 pc)) (ha : w.cell? ⟨m, 2 + a, none⟩ = some (.int .i64 xa)) (la : (a : Int) < 16) (z : (xa == 0) = false) :
    Calls Try.prog 40 #[.pointer (some ⟨m, 0, none⟩), .agg #[.int .i64 o, .int .i64 a, .int .i64 b, .int .i64 c, .int .i64 i]] w (Did w w) := by
  go_enter Try.func40, Try.ntmps40
  go_wp2
  refine region_still mixed (by kernel_rfl) ?_
  repeat still_step
  refine wpStill_nil ?_
  go_wp2
  go_end0
  exact ⟨rfl, ((Below.refl _ _).alloc (by simp [endsW, regW, memW, pcW]) _).drew⟩
set_option maxHeartbeats 400000 in
theorem some_yes (m a b c : Nat) (o i xa xb xc pc : Int) (w : World) (hm : m < w.heap.size) (hf : ∀ o, w.frozen? ⟨m, o, none⟩ = false) (h18 : w.cell? ⟨m, 18, none⟩ = some (.int .i64 pc)) (ha : w.cell? ⟨m, 2 + a, none⟩ = some (.int .i64 xa)) (la : (a : Int) < 16) (z : (xa != 0) = true) :
    Calls Try.prog 41 #[.pointer (some ⟨m, 0, none⟩), .agg #[.int .i64 o, .int .i64 a, .int .i64 b, .int .i64 c, .int .i64 i]] w (Did w (pcW w m (wrap64 (pc + i)))) := by
  go_enter Try.func41, Try.ntmps41
  go_wp2
  refine region_still mixed (by kernel_rfl) ?_
  repeat still_step
  refine wpStill_nil ?_
  go_wp2
  refine region_tail 9 mixed (by kernel_rfl) ?_
  simp only [List.take_succ_cons, List.take_zero, List.drop_succ_cons, List.drop_zero]
  repeat still_step
  refine wpStill_nil ?_
  go_wp2
  go_end0
  exact ⟨rfl, ((Below.refl _ _).alloc (by simp [endsW, regW, memW, pcW]) _).drew.drew⟩
set_option maxHeartbeats 400000 in
theorem some_no (m a b c : Nat) (o i xa xb xc pc : Int) (w : World) (hm : m < w.heap.size) (hf : ∀ o, w.frozen? ⟨m, o, none⟩ = false) (h18 : w.cell? ⟨m, 18, none⟩ = some (.int .i64 pc)) (ha : w.cell? ⟨m, 2 + a, none⟩ = some (.int .i64 xa)) (la : (a : Int) < 16) (z : (xa != 0) = false) :
    Calls Try.prog 41 #[.pointer (some ⟨m, 0, none⟩), .agg #[.int .i64 o, .int .i64 a, .int .i64 b, .int .i64 c, .int .i64 i]] w (Did w w) := by
  go_enter Try.func41, Try.ntmps41
  go_wp2
  refine region_still mixed (by kernel_rfl) ?_
  repeat still_step
  refine wpStill_nil ?_
  go_wp2
  go_end0
  exact ⟨rfl, ((Below.refl _ _).alloc (by simp [endsW, regW, memW, pcW]) _).drew⟩
set_option maxHeartbeats 400000 in
theorem room_any (m n cp a b c : Nat) (A : Option Addr) (o i xa xb xc : Int) (w : World) (hm : m < w.heap.size) (hf : ∀ o, w.frozen? ⟨m, o, none⟩ = false) (hmem : w.cell? ⟨m, 1, none⟩ = some (.slice A n cp)) (hn : n ≤ 262144) (ha : w.cell? ⟨m, 2 + a, none⟩ = some (.int .i64 xa)) (la : (a : Int) < 16) :
    Calls Try.prog 47 #[.pointer (some ⟨m, 0, none⟩), .agg #[.int .i64 o, .int .i64 a, .int .i64 b, .int .i64 c, .int .i64 i]] w (Did w (regW w m a n)) := by
  go_enter Try.func47, Try.ntmps47
  go_wp2
  refine region_tail 11 mixed (by kernel_rfl) ?_
  simp only [List.take_succ_cons, List.take_zero, List.drop_succ_cons, List.drop_zero]
  repeat still_step
  refine wpStill_nil ?_
  go_wp2
  go_end0
  exact ⟨rfl, ((Below.refl _ _).alloc (by simp [endsW, regW, memW, pcW]) _).drew⟩
def enterW (w : World) (m mb : Nat) (k pc : Int) : World := regW (memW w mb k.toNat pc) m 15 k
set_option maxHeartbeats 400000 in
theorem enter_yes (m mb n cp : Nat) (x15 pc k v : Int) (w : World) (hm : m < w.heap.size) (hf : ∀ o, w.frozen? ⟨m, o, none⟩ = false) (hmem : w.cell? ⟨m, 1, none⟩ = some (.slice (some ⟨mb, 0, none⟩) n cp)) (hn : n ≤ 262144) (h15 : w.cell? ⟨m, 17, none⟩ = some (.int .i64 x15)) (h18 : w.cell? ⟨m, 18, none⟩ = some (.int .i64 pc)) (hk : IntKind.i64.wrap (x15 - 1) = k) (k0 : 0 ≤ k) (k1 : k < n) (hv : w.cell? ⟨mb, k.toNat, none⟩ = some (.int .i64 v)) (hmb : mb < w.heap.size) (hfm : w.frozen? ⟨mb, k.toNat, none⟩ = false) (hne : ¬ m = mb) (hne' : ¬ mb = m) :
    Calls Try.prog 59 #[.pointer (some ⟨m, 0, none⟩)] w fun e w' => e = .returned (.tuple #[]) ∧ w' = (enterW w m mb k pc).drew.drew := by
  have hk' : wrap64 (x15 - 1) = k := by rw [← hk, Num.i64_wrap_eq]
  go_enter Try.func59, Try.ntmps59
  go_wp2
  refine region_tail 13 mixed (by kernel_rfl) ?_
  simp only [List.take_succ_cons, List.take_zero, List.drop_succ_cons, List.drop_zero]
  repeat (first | still_step | still_call (word_yes m mb n cp _ _ k0 k1 hn hmem))
  refine wpStill_nil ?_
  go_wp2
  refine region_tail 9 mixed (by kernel_rfl) ?_
  simp only [List.take_succ_cons, List.take_zero, List.drop_succ_cons, List.drop_zero]
  repeat still_step
  refine wpStill_nil ?_
  go_wp2
  go_end0
  exact ⟨rfl, rfl⟩
set_option maxHeartbeats 1000000 in
theorem enter_no (m n cp : Nat) (A : Option Addr) (x15 pc k : Int) (w : World) (hm : m < w.heap.size) (hf : ∀ o, w.frozen? ⟨m, o, none⟩ = false) (hmem : w.cell? ⟨m, 1, none⟩ = some (.slice A n cp)) (hn : n ≤ 262144) (h15 : w.cell? ⟨m, 17, none⟩ = some (.int .i64 x15)) (h18 : w.cell? ⟨m, 18, none⟩ = some (.int .i64 pc)) (hk : IntKind.i64.wrap (x15 - 1) = k) (k0 : k < 0 ∨ n ≤ k) :
    Calls Try.prog 59 #[.pointer (some ⟨m, 0, none⟩)] w fun e w' => e = faultP ∧ w' = w.drew := by
  have K0 := Lib.hid k0
  clear k0
  have hmem' := hmem
  go_enter Try.func59, Try.ntmps59
  go_wp2
  refine wp_region_held_drew (S := fun w' => w' = w.drew) mixed rfl (fun _ => ?_)
  refine wpAnyH_take (i := 0) (v := ?v0) rfl (by kernel_rfl) (by kernel_rfl) (by kernel_rfl) (fun _ _ _ h => h) (Or.inl ⟨by rfl, ?y0⟩) rfl ?_
  case y0 => intro w' hS; subst hS; go_simp; rfl
  refine wpAnyH_take (i := 1) (v := ?v1) rfl (by kernel_rfl) (by kernel_rfl) (by kernel_rfl) (fun _ _ _ h => h) (Or.inl ⟨by rfl, ?y1⟩) rfl ?_
  case y1 => intro w' hS; subst hS; go_simp; rfl
  refine wpAnyH_take (i := 2) (v := ?v2) rfl (by kernel_rfl) (by kernel_rfl) (by kernel_rfl) (fun _ _ _ h => h) (Or.inl ⟨by rfl, ?y2⟩) rfl ?_
  case y2 => intro w' hS; subst hS; go_simp; rfl
  refine wpAnyH_take (i := 3) (v := ?v3) rfl (by kernel_rfl) (by kernel_rfl) (by kernel_rfl) (fun _ _ _ h => h) (Or.inl ⟨by rfl, ?y3⟩) rfl ?_
  case y3 => intro w' hS; subst hS; go_simp; rfl
  refine wpAnyH_take (i := 4) (v := ?v4) rfl (by kernel_rfl) (by kernel_rfl) (by kernel_rfl) (fun _ _ _ h => h) (Or.inl ⟨by rfl, ?y4⟩) rfl ?_
  case y4 => intro w' hS; subst hS; go_simp; rfl
  refine wpAnyH_take (i := 5) (v := ?v5) rfl (by kernel_rfl) (by kernel_rfl) (by kernel_rfl) (fun _ _ _ h => h) (Or.inl ⟨by rfl, ?y5⟩) rfl ?_
  case y5 => intro w' hS; subst hS; go_simp; rfl
  refine wpAnyH_take (i := 6) (v := ?v6) rfl (by kernel_rfl) (by kernel_rfl) (by kernel_rfl) (fun _ _ _ h => h) (Or.inl ⟨by rfl, ?y6⟩) rfl ?_
  case y6 => intro w' hS; subst hS; go_simp; rfl
  refine wpAnyH_take (i := 8) (v := ?v8) rfl (by kernel_rfl) (by kernel_rfl) (by kernel_rfl) (fun _ _ _ h => h) (Or.inl ⟨by rfl, ?y8⟩) rfl ?_
  case y8 => intro w' hS; subst hS; go_simp; rfl
  refine wpAnyH_take (i := 9) (v := ?v9) rfl (by kernel_rfl) (by kernel_rfl) (by kernel_rfl) (fun _ _ _ h => h) (Or.inl ⟨by rfl, ?y9⟩) rfl ?_
  case y9 => intro w' hS; subst hS; go_simp; rfl
  refine wpAnyH_take (i := 10) (v := ?v10) rfl (by kernel_rfl) (by kernel_rfl) (by kernel_rfl) (fun _ _ _ h => h) (Or.inl ⟨by rfl, ?y10⟩) rfl ?_
  case y10 => intro w' hS; subst hS; go_simp; rfl
  refine wpAnyH_take (i := 11) (v := ?v11) rfl (by kernel_rfl) (by kernel_rfl) (by kernel_rfl) (fun _ _ _ h => h) (Or.inl ⟨by rfl, ?y11⟩) rfl ?_
  case y11 => intro w' hS; subst hS; go_simp; rfl
  refine wpAnyH_ready (rs := [7]) (by kernel_rfl) (by simp) (AllReadyH.cons rfl (fun K' hK => ?_) AllReadyH.nil)
  go_simp
  refine (word_no m A n cp k _ K0.out hn (by exact hmem')).mono ?_
  rintro e w1 ⟨rfl, rfl⟩
  exact ⟨rfl, rfl, rfl⟩
end Go.Proofs.Ytbchiolgbhckhaa.Mach
end

section
/- The operations of the machine, one walk each: calls and returns. -/
set_option linter.unusedVariables false
set_option linter.unusedSimpArgs false
namespace Go.Proofs.Ytbchiolgbhckhaa.Mach
open Go.RowKit Go.Proofs.YtbchiolgbhckhaaW.PrintWords Go.Proofs.YtbchiolgbhckhaaW.PrintMore Go.Proofs.Ytbchiolgbhckhaa.PMachRuns

set_option maxHeartbeats 1000000 in
theorem call_yes (m mb n cp a b c : Nat) (o i xa xb xc x15 pc k v : Int) (w : World) (hm : m < w.heap.size) (hf : ∀ o, w.frozen? ⟨m, o, none⟩ = false) (hmem : w.cell? ⟨m, 1, none⟩ = some (.slice (some ⟨mb, 0, none⟩) n cp)) (hn : n ≤ 262144) (h15 : w.cell? ⟨m, 17, none⟩ = some (.int .i64 x15)) (h18 : w.cell? ⟨m, 18, none⟩ = some (.int .i64 pc)) (hk : IntKind.i64.wrap (x15 - 1) = k) (k0 : 0 ≤ k) (k1 : k < n) (hv : w.cell? ⟨mb, k.toNat, none⟩ = some (.int .i64 v)) (hmb : mb < w.heap.size) (hfm : w.frozen? ⟨mb, k.toNat, none⟩ = false) (hne : ¬ m = mb) (hne' : ¬ mb = m) :
    Calls Try.prog 42 #[.pointer (some ⟨m, 0, none⟩), .agg #[.int .i64 o, .int .i64 a, .int .i64 b, .int .i64 c, .int .i64 i]] w (Did w (pcW (enterW w m mb k pc) m i)) := by
  have f1 := (World.cell?_alloc_past (w := w) (.cells #[.int .i64 o, .int .i64 a, .int .i64 b, .int .i64 c, .int .i64 i] 50) m 1 hm).trans hmem
  have f2 := (World.cell?_alloc_past (w := w) (.cells #[.int .i64 o, .int .i64 a, .int .i64 b, .int .i64 c, .int .i64 i] 50) m 17 hm).trans h15
  have f3 := (World.cell?_alloc_past (w := w) (.cells #[.int .i64 o, .int .i64 a, .int .i64 b, .int .i64 c, .int .i64 i] 50) m 18 hm).trans h18
  have f6 : ∀ o', (w.alloc (.cells #[.int .i64 o, .int .i64 a, .int .i64 b, .int .i64 c, .int .i64 i] 50)).frozen? ⟨m, o', none⟩ = false := fun o' => (World.frozen?_alloc_past (w := w) (.cells #[.int .i64 o, .int .i64 a, .int .i64 b, .int .i64 c, .int .i64 i] 50) m o' hm).trans (hf o')
  have f4 := (World.cell?_alloc_past (w := w) (.cells #[.int .i64 o, .int .i64 a, .int .i64 b, .int .i64 c, .int .i64 i] 50) mb k.toNat hmb).trans hv
  have f5 := (World.frozen?_alloc_past (w := w) (.cells #[.int .i64 o, .int .i64 a, .int .i64 b, .int .i64 c, .int .i64 i] 50) mb k.toNat hmb).trans hfm
  have hm2 : m < (w.alloc (.cells #[.int .i64 o, .int .i64 a, .int .i64 b, .int .i64 c, .int .i64 i] 50)).heap.size := by simp; omega
  have hmb2 : mb < (w.alloc (.cells #[.int .i64 o, .int .i64 a, .int .i64 b, .int .i64 c, .int .i64 i] 50)).heap.size := by simp; omega
  go_enter Try.func42, Try.ntmps42
  go_wp2_with (go_at_call 59; refine (enter_yes m mb n cp x15 pc k v _ (by exact hm2) (by exact f6) (by exact f1) hn (by exact f2) (by exact f3) hk k0 k1 (by exact f4) (by exact hmb2) (by exact f5) hne hne').mono ?_; rintro e w' ⟨rfl, rfl⟩; unfold enterW regW memW)
  go_end0
  exact ⟨rfl, by repeat (first | exact (Below.refl _ _).alloc (by simp [endsW, regW, memW, pcW, enterW]) _ | refine Below.drew ?_)⟩
set_option maxHeartbeats 1000000 in
theorem call_no (m n cp a b c : Nat) (A : Option Addr) (o i xa xb xc x15 pc k : Int) (w : World) (hm : m < w.heap.size) (hf : ∀ o, w.frozen? ⟨m, o, none⟩ = false) (hmem : w.cell? ⟨m, 1, none⟩ = some (.slice A n cp)) (hn : n ≤ 262144) (h15 : w.cell? ⟨m, 17, none⟩ = some (.int .i64 x15)) (h18 : w.cell? ⟨m, 18, none⟩ = some (.int .i64 pc)) (hk : IntKind.i64.wrap (x15 - 1) = k) (k0 : k < 0 ∨ n ≤ k) :
    Calls Try.prog 42 #[.pointer (some ⟨m, 0, none⟩), .agg #[.int .i64 o, .int .i64 a, .int .i64 b, .int .i64 c, .int .i64 i]] w (Died w) := by
  have f1 := (World.cell?_alloc_past (w := w) (.cells #[.int .i64 o, .int .i64 a, .int .i64 b, .int .i64 c, .int .i64 i] 50) m 1 hm).trans hmem
  have f2 := (World.cell?_alloc_past (w := w) (.cells #[.int .i64 o, .int .i64 a, .int .i64 b, .int .i64 c, .int .i64 i] 50) m 17 hm).trans h15
  have f3 := (World.cell?_alloc_past (w := w) (.cells #[.int .i64 o, .int .i64 a, .int .i64 b, .int .i64 c, .int .i64 i] 50) m 18 hm).trans h18
  have f6 : ∀ o', (w.alloc (.cells #[.int .i64 o, .int .i64 a, .int .i64 b, .int .i64 c, .int .i64 i] 50)).frozen? ⟨m, o', none⟩ = false := fun o' => (World.frozen?_alloc_past (w := w) (.cells #[.int .i64 o, .int .i64 a, .int .i64 b, .int .i64 c, .int .i64 i] 50) m o' hm).trans (hf o')
  have hm2 : m < (w.alloc (.cells #[.int .i64 o, .int .i64 a, .int .i64 b, .int .i64 c, .int .i64 i] 50)).heap.size := by simp; omega
  go_enter Try.func42, Try.ntmps42
  have K0 := Lib.hid k0
  clear k0
  go_wp2_with (go_at_call 59; refine (enter_no m n cp A x15 pc k _ (by exact hm2) (by exact f6) (by exact f1) hn (by exact f2) (by exact f3) hk K0.out).mono ?_; rintro e w' ⟨rfl, rfl⟩; dsimp only [faultP])
  exact ⟨rfl, rfl, ((Below.refl _ _).alloc (Nat.le_refl _) _).drew⟩
set_option maxHeartbeats 1000000 in
theorem at_yes_15 (m mb n cp a b c : Nat) (o i xa xb xc x15 pc k v : Int) (w : World) (hm : m < w.heap.size) (hf : ∀ o, w.frozen? ⟨m, o, none⟩ = false) (hmem : w.cell? ⟨m, 1, none⟩ = some (.slice (some ⟨mb, 0, none⟩) n cp)) (hn : n ≤ 262144) (h15 : w.cell? ⟨m, 17, none⟩ = some (.int .i64 x15)) (h18 : w.cell? ⟨m, 18, none⟩ = some (.int .i64 pc)) (hk : IntKind.i64.wrap (x15 - 1) = k) (k0 : 0 ≤ k) (k1 : k < n) (hv : w.cell? ⟨mb, k.toNat, none⟩ = some (.int .i64 v)) (hmb : mb < w.heap.size) (hfm : w.frozen? ⟨mb, k.toNat, none⟩ = false) (hne : ¬ m = mb) (hne' : ¬ mb = m) (e15 : 2 + a = 17) :
    Calls Try.prog 43 #[.pointer (some ⟨m, 0, none⟩), .agg #[.int .i64 o, .int .i64 a, .int .i64 b, .int .i64 c, .int .i64 i]] w (Did w (pcW (enterW w m mb k pc) m k)) := by
  have la : (a : Int) < 16 := by omega
  have f1 := (World.cell?_alloc_past (w := w) (.cells #[.int .i64 o, .int .i64 a, .int .i64 b, .int .i64 c, .int .i64 i] 50) m 1 hm).trans hmem
  have f2 := (World.cell?_alloc_past (w := w) (.cells #[.int .i64 o, .int .i64 a, .int .i64 b, .int .i64 c, .int .i64 i] 50) m 17 hm).trans h15
  have f3 := (World.cell?_alloc_past (w := w) (.cells #[.int .i64 o, .int .i64 a, .int .i64 b, .int .i64 c, .int .i64 i] 50) m 18 hm).trans h18
  have f6 : ∀ o', (w.alloc (.cells #[.int .i64 o, .int .i64 a, .int .i64 b, .int .i64 c, .int .i64 i] 50)).frozen? ⟨m, o', none⟩ = false := fun o' => (World.frozen?_alloc_past (w := w) (.cells #[.int .i64 o, .int .i64 a, .int .i64 b, .int .i64 c, .int .i64 i] 50) m o' hm).trans (hf o')
  have f4 := (World.cell?_alloc_past (w := w) (.cells #[.int .i64 o, .int .i64 a, .int .i64 b, .int .i64 c, .int .i64 i] 50) mb k.toNat hmb).trans hv
  have f5 := (World.frozen?_alloc_past (w := w) (.cells #[.int .i64 o, .int .i64 a, .int .i64 b, .int .i64 c, .int .i64 i] 50) mb k.toNat hmb).trans hfm
  have hm2 : m < (w.alloc (.cells #[.int .i64 o, .int .i64 a, .int .i64 b, .int .i64 c, .int .i64 i] 50)).heap.size := by simp; omega
  have hmb2 : mb < (w.alloc (.cells #[.int .i64 o, .int .i64 a, .int .i64 b, .int .i64 c, .int .i64 i] 50)).heap.size := by simp; omega
  go_enter Try.func43, Try.ntmps43
  go_wp2_with (go_at_call 59; refine (enter_yes m mb n cp x15 pc k v _ (by exact hm2) (by exact f6) (by exact f1) hn (by exact f2) (by exact f3) hk k0 k1 (by exact f4) (by exact hmb2) (by exact f5) hne hne').mono ?_; rintro e w' ⟨rfl, rfl⟩; unfold enterW regW memW)
  refine region_tail 10 mixed (by kernel_rfl) ?_
  simp only [List.take_succ_cons, List.take_zero, List.drop_succ_cons, List.drop_zero]
  repeat still_step
  refine wpStill_nil ?_
  go_wp2
  go_end0
  exact ⟨rfl, by repeat (first | exact (Below.refl _ _).alloc (by simp [endsW, regW, memW, pcW, enterW]) _ | refine Below.drew ?_)⟩
set_option maxHeartbeats 1000000 in
theorem at_yes (m mb n cp a b c : Nat) (o i xa xb xc x15 pc k v : Int) (w : World) (hm : m < w.heap.size) (hf : ∀ o, w.frozen? ⟨m, o, none⟩ = false) (hmem : w.cell? ⟨m, 1, none⟩ = some (.slice (some ⟨mb, 0, none⟩) n cp)) (hn : n ≤ 262144) (h15 : w.cell? ⟨m, 17, none⟩ = some (.int .i64 x15)) (h18 : w.cell? ⟨m, 18, none⟩ = some (.int .i64 pc)) (hk : IntKind.i64.wrap (x15 - 1) = k) (k0 : 0 ≤ k) (k1 : k < n) (hv : w.cell? ⟨mb, k.toNat, none⟩ = some (.int .i64 v)) (hmb : mb < w.heap.size) (hfm : w.frozen? ⟨mb, k.toNat, none⟩ = false) (hne : ¬ m = mb) (hne' : ¬ mb = m) (ha : w.cell? ⟨m, 2 + a, none⟩ = some (.int .i64 xa)) (la : (a : Int) < 16) (g15 : ¬ a = 15) :
    Calls Try.prog 43 #[.pointer (some ⟨m, 0, none⟩), .agg #[.int .i64 o, .int .i64 a, .int .i64 b, .int .i64 c, .int .i64 i]] w (Did w (pcW (enterW w m mb k pc) m xa)) := by
  have g1 : ¬ (17 = 2 + a) := by omega
  have g2 : ¬ (2 + a = 17) := by omega
  have g3 : ¬ (15 = a) := by omega
  have f1 := (World.cell?_alloc_past (w := w) (.cells #[.int .i64 o, .int .i64 a, .int .i64 b, .int .i64 c, .int .i64 i] 50) m 1 hm).trans hmem
  have f2 := (World.cell?_alloc_past (w := w) (.cells #[.int .i64 o, .int .i64 a, .int .i64 b, .int .i64 c, .int .i64 i] 50) m 17 hm).trans h15
  have f3 := (World.cell?_alloc_past (w := w) (.cells #[.int .i64 o, .int .i64 a, .int .i64 b, .int .i64 c, .int .i64 i] 50) m 18 hm).trans h18
  have f6 : ∀ o', (w.alloc (.cells #[.int .i64 o, .int .i64 a, .int .i64 b, .int .i64 c, .int .i64 i] 50)).frozen? ⟨m, o', none⟩ = false := fun o' => (World.frozen?_alloc_past (w := w) (.cells #[.int .i64 o, .int .i64 a, .int .i64 b, .int .i64 c, .int .i64 i] 50) m o' hm).trans (hf o')
  have f4 := (World.cell?_alloc_past (w := w) (.cells #[.int .i64 o, .int .i64 a, .int .i64 b, .int .i64 c, .int .i64 i] 50) mb k.toNat hmb).trans hv
  have f5 := (World.frozen?_alloc_past (w := w) (.cells #[.int .i64 o, .int .i64 a, .int .i64 b, .int .i64 c, .int .i64 i] 50) mb k.toNat hmb).trans hfm
  have hm2 : m < (w.alloc (.cells #[.int .i64 o, .int .i64 a, .int .i64 b, .int .i64 c, .int .i64 i] 50)).heap.size := by simp; omega
  have hmb2 : mb < (w.alloc (.cells #[.int .i64 o, .int .i64 a, .int .i64 b, .int .i64 c, .int .i64 i] 50)).heap.size := by simp; omega
  go_enter Try.func43, Try.ntmps43
  go_wp2_with (go_at_call 59; refine (enter_yes m mb n cp x15 pc k v _ (by exact hm2) (by exact f6) (by exact f1) hn (by exact f2) (by exact f3) hk k0 k1 (by exact f4) (by exact hmb2) (by exact f5) hne hne').mono ?_; rintro e w' ⟨rfl, rfl⟩; unfold enterW regW memW)
  refine region_tail 10 mixed (by kernel_rfl) ?_
  simp only [List.take_succ_cons, List.take_zero, List.drop_succ_cons, List.drop_zero]
  repeat still_step
  refine wpStill_nil ?_
  go_wp2
  go_end0
  exact ⟨rfl, by repeat (first | exact (Below.refl _ _).alloc (by simp [endsW, regW, memW, pcW, enterW]) _ | refine Below.drew ?_)⟩
set_option maxHeartbeats 1000000 in
theorem at_no (m n cp a b c : Nat) (A : Option Addr) (o i xa xb xc x15 pc k : Int) (w : World) (hm : m < w.heap.size) (hf : ∀ o, w.frozen? ⟨m, o, none⟩ = false) (hmem : w.cell? ⟨m, 1, none⟩ = some (.slice A n cp)) (hn : n ≤ 262144) (h15 : w.cell? ⟨m, 17, none⟩ = some (.int .i64 x15)) (h18 : w.cell? ⟨m, 18, none⟩ = some (.int .i64 pc)) (hk : IntKind.i64.wrap (x15 - 1) = k) (k0 : k < 0 ∨ n ≤ k) :
    Calls Try.prog 43 #[.pointer (some ⟨m, 0, none⟩), .agg #[.int .i64 o, .int .i64 a, .int .i64 b, .int .i64 c, .int .i64 i]] w (Died w) := by
  have f1 := (World.cell?_alloc_past (w := w) (.cells #[.int .i64 o, .int .i64 a, .int .i64 b, .int .i64 c, .int .i64 i] 50) m 1 hm).trans hmem
  have f2 := (World.cell?_alloc_past (w := w) (.cells #[.int .i64 o, .int .i64 a, .int .i64 b, .int .i64 c, .int .i64 i] 50) m 17 hm).trans h15
  have f3 := (World.cell?_alloc_past (w := w) (.cells #[.int .i64 o, .int .i64 a, .int .i64 b, .int .i64 c, .int .i64 i] 50) m 18 hm).trans h18
  have f6 : ∀ o', (w.alloc (.cells #[.int .i64 o, .int .i64 a, .int .i64 b, .int .i64 c, .int .i64 i] 50)).frozen? ⟨m, o', none⟩ = false := fun o' => (World.frozen?_alloc_past (w := w) (.cells #[.int .i64 o, .int .i64 a, .int .i64 b, .int .i64 c, .int .i64 i] 50) m o' hm).trans (hf o')
  have hm2 : m < (w.alloc (.cells #[.int .i64 o, .int .i64 a, .int .i64 b, .int .i64 c, .int .i64 i] 50)).heap.size := by simp; omega
  go_enter Try.func43, Try.ntmps43
  have K0 := Lib.hid k0
  clear k0
  go_wp2_with (go_at_call 59; refine (enter_no m n cp A x15 pc k _ (by exact hm2) (by exact f6) (by exact f1) hn (by exact f2) (by exact f3) hk K0.out).mono ?_; rintro e w' ⟨rfl, rfl⟩; dsimp only [faultP])
  exact ⟨rfl, rfl, ((Below.refl _ _).alloc (Nat.le_refl _) _).drew⟩
set_option maxHeartbeats 1000000 in
theorem ret_yes (m mb n cp a b c : Nat) (o i xa xb xc x15 pc v : Int) (w : World) (hm : m < w.heap.size) (hf : ∀ o, w.frozen? ⟨m, o, none⟩ = false) (hmem : w.cell? ⟨m, 1, none⟩ = some (.slice (some ⟨mb, 0, none⟩) n cp)) (hn : n ≤ 262144) (h15 : w.cell? ⟨m, 17, none⟩ = some (.int .i64 x15)) (h18 : w.cell? ⟨m, 18, none⟩ = some (.int .i64 pc)) (k0 : 0 ≤ x15) (k1 : x15 < n) (hv : w.cell? ⟨mb, x15.toNat, none⟩ = some (.int .i64 v)) (hmb : mb < w.heap.size) :
    Calls Try.prog 44 #[.pointer (some ⟨m, 0, none⟩), .agg #[.int .i64 o, .int .i64 a, .int .i64 b, .int .i64 c, .int .i64 i]] w (Did w (regW (pcW w m v) m 15 (x15 + 1))) := by
  have f1 := (World.cell?_alloc_past (w := w) (.cells #[.int .i64 o, .int .i64 a, .int .i64 b, .int .i64 c, .int .i64 i] 50) m 1 hm).trans hmem
  have f2 := (World.cell?_alloc_past (w := w) (.cells #[.int .i64 o, .int .i64 a, .int .i64 b, .int .i64 c, .int .i64 i] 50) m 17 hm).trans h15
  have f3 := (World.cell?_alloc_past (w := w) (.cells #[.int .i64 o, .int .i64 a, .int .i64 b, .int .i64 c, .int .i64 i] 50) m 18 hm).trans h18
  have f6 : ∀ o', (w.alloc (.cells #[.int .i64 o, .int .i64 a, .int .i64 b, .int .i64 c, .int .i64 i] 50)).frozen? ⟨m, o', none⟩ = false := fun o' => (World.frozen?_alloc_past (w := w) (.cells #[.int .i64 o, .int .i64 a, .int .i64 b, .int .i64 c, .int .i64 i] 50) m o' hm).trans (hf o')
  go_enter Try.func44, Try.ntmps44
  go_wp2_with (go_at_call 58; refine (word_yes m mb n cp _ _ k0 k1 hn (by exact f1)).mono ?_; rintro e w' ⟨rfl, rfl⟩)
  refine region_tail 9 mixed (by kernel_rfl) ?_
  simp only [List.take_succ_cons, List.take_zero, List.drop_succ_cons, List.drop_zero]
  repeat still_step
  refine wpStill_nil ?_
  go_wp2
  go_end0
  exact ⟨rfl, by repeat (first | exact (Below.refl _ _).alloc (by simp [endsW, regW, memW, pcW, enterW]) _ | refine Below.drew ?_)⟩
set_option maxHeartbeats 1000000 in
theorem ret_no (m n cp a b c : Nat) (A : Option Addr) (o i xa xb xc x15 pc : Int) (w : World) (hm : m < w.heap.size) (hf : ∀ o, w.frozen? ⟨m, o, none⟩ = false) (hmem : w.cell? ⟨m, 1, none⟩ = some (.slice A n cp)) (hn : n ≤ 262144) (h15 : w.cell? ⟨m, 17, none⟩ = some (.int .i64 x15)) (h18 : w.cell? ⟨m, 18, none⟩ = some (.int .i64 pc)) (k0 : x15 < 0 ∨ n ≤ x15) :
    Calls Try.prog 44 #[.pointer (some ⟨m, 0, none⟩), .agg #[.int .i64 o, .int .i64 a, .int .i64 b, .int .i64 c, .int .i64 i]] w (Died w) := by
  have f1 := (World.cell?_alloc_past (w := w) (.cells #[.int .i64 o, .int .i64 a, .int .i64 b, .int .i64 c, .int .i64 i] 50) m 1 hm).trans hmem
  have f2 := (World.cell?_alloc_past (w := w) (.cells #[.int .i64 o, .int .i64 a, .int .i64 b, .int .i64 c, .int .i64 i] 50) m 17 hm).trans h15
  have f3 := (World.cell?_alloc_past (w := w) (.cells #[.int .i64 o, .int .i64 a, .int .i64 b, .int .i64 c, .int .i64 i] 50) m 18 hm).trans h18
  have f6 : ∀ o', (w.alloc (.cells #[.int .i64 o, .int .i64 a, .int .i64 b, .int .i64 c, .int .i64 i] 50)).frozen? ⟨m, o', none⟩ = false := fun o' => (World.frozen?_alloc_past (w := w) (.cells #[.int .i64 o, .int .i64 a, .int .i64 b, .int .i64 c, .int .i64 i] 50) m o' hm).trans (hf o')
  go_enter Try.func44, Try.ntmps44
  have K0 := Lib.hid k0
  clear k0
  go_wp2_with (go_at_call 58; refine (word_no m A n cp _ _ K0.out hn (by exact f1)).mono ?_; rintro e w' ⟨rfl, rfl⟩; dsimp only [faultP])
  exact ⟨rfl, rfl, (Below.refl _ _).alloc (Nat.le_refl _) _⟩
end Go.Proofs.Ytbchiolgbhckhaa.Mach
end

section
/- The operations of the machine, one walk each: input, output, words. -/
set_option linter.unusedVariables false
set_option linter.unusedSimpArgs false
namespace Go.Proofs.Ytbchiolgbhckhaa.Mach
open Go.RowKit Go.Proofs.YtbchiolgbhckhaaW.PrintWords Go.Proofs.YtbchiolgbhckhaaW.PrintMore Go.Proofs.Ytbchiolgbhckhaa.PMachRuns

def inW (w : World) (m : Nat) (v : Value) : World := w.setCell ⟨m, 19, none⟩ v
set_option maxHeartbeats 400000 in
theorem read_no (m a b c : Nat) (o i xa xb xc : Int) (A : Option Addr) (cc : Nat) (w : World) (hm : m < w.heap.size) (hf : ∀ o, w.frozen? ⟨m, o, none⟩ = false) (ha : w.cell? ⟨m, 2 + a, none⟩ = some (.int .i64 xa)) (la : (a : Int) < 16) (h19 : w.cell? ⟨m, 19, none⟩ = some (.slice A 0 cc)) :
    Calls Try.prog 45 #[.pointer (some ⟨m, 0, none⟩), .agg #[.int .i64 o, .int .i64 a, .int .i64 b, .int .i64 c, .int .i64 i]] w (Did w (regW w m a (-1))) := by
  go_enter Try.func45, Try.ntmps45
  go_wp2
  refine region_tail 6 mixed (by kernel_rfl) ?_
  simp only [List.take_succ_cons, List.take_zero, List.drop_succ_cons, List.drop_zero]
  repeat still_step
  refine wpStill_nil ?_
  go_wp2
  go_end0
  exact ⟨rfl, by repeat (first | exact (Below.refl _ _).alloc (by simp [endsW, regW, memW, pcW, enterW, inW]) _ | refine Below.drew ?_)⟩
set_option maxHeartbeats 400000 in
theorem read_yes (m a b c : Nat) (o i xa xb xc : Int) (ib off n cc : Nat) (x : Int) (w : World) (hm : m < w.heap.size) (hf : ∀ o, w.frozen? ⟨m, o, none⟩ = false) (ha : w.cell? ⟨m, 2 + a, none⟩ = some (.int .i64 xa)) (la : (a : Int) < 16) (h19 : w.cell? ⟨m, 19, none⟩ = some (.slice (some ⟨ib, off, none⟩) (n + 1) cc)) (hcc : n + 1 ≤ cc) (hc1 : ¬ cc = 1) (hbig : cc ≤ 9223372036854775807) (hx : w.cell? ⟨ib, off, none⟩ = some (.int .u8 x)) (x0 : 0 ≤ x) (x1 : x ≤ 255) (hib : ib < w.heap.size) (hnei : ¬ m = ib) :
    Calls Try.prog 45 #[.pointer (some ⟨m, 0, none⟩), .agg #[.int .i64 o, .int .i64 a, .int .i64 b, .int .i64 c, .int .i64 i]] w (Did w (inW (regW (regW w m a (-1)) m a x) m (.slice (some ⟨ib, off + 1, none⟩) n (cc - 1)))) := by
  have g1 : ¬ (19 = 2 + a) := by omega
  have g2 : ¬ (2 + a = 19) := by omega
  go_enter Try.func45, Try.ntmps45
  go_wp2
  refine region_tail 6 mixed (by kernel_rfl) ?_
  simp only [List.take_succ_cons, List.take_zero, List.drop_succ_cons, List.drop_zero]
  repeat still_step
  refine wpStill_nil ?_
  go_wp2
  refine region_tail 13 mixed (by kernel_rfl) ?_
  simp only [List.take_succ_cons, List.take_zero, List.drop_succ_cons, List.drop_zero]
  repeat still_step
  refine wpStill_nil ?_
  go_wp2
  go_end0
  exact ⟨rfl, by repeat (first | exact (Below.refl _ _).alloc (by simp [endsW, regW, memW, pcW, enterW, inW]) _ | refine Below.drew ?_)⟩
set_option maxHeartbeats 400000 in
theorem read_last (m a b c : Nat) (o i xa xb xc : Int) (ib off n cc : Nat) (x : Int) (w : World) (hm : m < w.heap.size) (hf : ∀ o, w.frozen? ⟨m, o, none⟩ = false) (ha : w.cell? ⟨m, 2 + a, none⟩ = some (.int .i64 xa)) (la : (a : Int) < 16) (h19 : w.cell? ⟨m, 19, none⟩ = some (.slice (some ⟨ib, off, none⟩) 1 1))  (hx : w.cell? ⟨ib, off, none⟩ = some (.int .u8 x)) (x0 : 0 ≤ x) (x1 : x ≤ 255) (hib : ib < w.heap.size) (hnei : ¬ m = ib) :
    Calls Try.prog 45 #[.pointer (some ⟨m, 0, none⟩), .agg #[.int .i64 o, .int .i64 a, .int .i64 b, .int .i64 c, .int .i64 i]] w (Did w (inW (regW (regW w m a (-1)) m a x) m (.slice (some ⟨ib, off, none⟩) 0 0))) := by
  have g1 : ¬ (19 = 2 + a) := by omega
  have g2 : ¬ (2 + a = 19) := by omega
  go_enter Try.func45, Try.ntmps45
  go_wp2
  refine region_tail 6 mixed (by kernel_rfl) ?_
  simp only [List.take_succ_cons, List.take_zero, List.drop_succ_cons, List.drop_zero]
  repeat still_step
  refine wpStill_nil ?_
  go_wp2
  refine region_tail 13 mixed (by kernel_rfl) ?_
  simp only [List.take_succ_cons, List.take_zero, List.drop_succ_cons, List.drop_zero]
  repeat still_step
  refine wpStill_nil ?_
  go_wp2
  go_end0
  exact ⟨rfl, by repeat (first | exact (Below.refl _ _).alloc (by simp [endsW, regW, memW, pcW, enterW, inW]) _ | refine Below.drew ?_)⟩
set_option maxHeartbeats 400000 in
theorem write_full (m a b c : Nat) (o i xa xb xc : Int) (A : Option Addr) (n cc : Nat) (w : World) (hm : m < w.heap.size) (hf : ∀ o, w.frozen? ⟨m, o, none⟩ = false) (h20 : w.cell? ⟨m, 20, none⟩ = some (.slice A n cc)) (hn : ¬ (n : Int) < 4096) :
    Calls Try.prog 46 #[.pointer (some ⟨m, 0, none⟩), .agg #[.int .i64 o, .int .i64 a, .int .i64 b, .int .i64 c, .int .i64 i]] w (Did w w) := by
  go_enter Try.func46, Try.ntmps46
  go_wp2
  go_end0
  exact ⟨rfl, by repeat (first | exact (Below.refl _ _).alloc (by simp [endsW, regW, memW, pcW, enterW, inW]) _ | refine Below.drew ?_)⟩
def outW (w : World) (m : Nat) (v : Value) : World := w.setCell ⟨m, 20, none⟩ v
set_option maxHeartbeats 400000 in
theorem write_yes (m a b c : Nat) (o i xa xb xc : Int) (A : Option Addr) (n cc : Nat) (xs : List Int) (w : World) (hm : m < w.heap.size) (hf : ∀ o, w.frozen? ⟨m, o, none⟩ = false) (ha : w.cell? ⟨m, 2 + a, none⟩ = some (.int .i64 xa)) (la : (a : Int) < 16) (h20 : w.cell? ⟨m, 20, none⟩ = some (.slice A n cc)) (hn : (n : Int) < 4096) (hown : w.ownsRow 0 5 1 (.slice A n cc) n (nums .u8 xs)) (hmo : some m ≠ (Value.slice A n cc).ownBlock) :
    Calls Try.prog 46 #[.pointer (some ⟨m, 0, none⟩), .agg #[.int .i64 o, .int .i64 a, .int .i64 b, .int .i64 c, .int .i64 i]] w (fun e w' => e = .returned (.tuple #[]) ∧ ∃ v' w1, Appended w 0 5 1 (.slice A n cc) (n + 1) (nums .u8 (xs ++ [xa % 256])) v' w1 ∧ Below w1.heap.size (outW w1 m v') w') := by
  go_enter Try.func46, Try.ntmps46
  go_wp2
  refine region_way (fun w' => w'.cell? ⟨m, 20, none⟩ = some (.slice A n cc) ∧ w'.cell? ⟨w.heap.size, 1, none⟩ = some (.int .i64 a) ∧ w'.cell? ⟨m, 2 + a, none⟩ = some (.int .i64 xa)) [(0, false), (1, false), (2, false), (3, false), (4, false), (5, false), (6, false), (7, false), (8, false), (9, false), (10, false), (11, false), (12, false), (13, true), (14, true)] 15 mixed (by kernel_rfl) ?_ ?_
  · go_simp
  refine way_read (some 10) ?v0 rfl rfl (fun _ _ _ h => h) rfl ?y0 ?_
  case y0 => intro w' hS; obtain ⟨s1, s2, s3⟩ := hS; go_simp; rfl
  refine way_read (some 11) ?v1 rfl rfl (fun _ _ _ h => h) rfl ?y1 ?_
  case y1 => intro w' hS; obtain ⟨s1, s2, s3⟩ := hS; go_simp; rfl
  refine way_read (some 12) ?v2 rfl rfl (fun _ _ _ h => h) rfl ?y2 ?_
  case y2 => intro w' hS; obtain ⟨s1, s2, s3⟩ := hS; go_simp; rfl
  refine way_read (some 13) ?v3 rfl rfl (fun _ _ _ h => h) rfl ?y3 ?_
  case y3 => intro w' hS; obtain ⟨s1, s2, s3⟩ := hS; go_simp; rfl
  refine way_read (some 14) ?v4 rfl rfl (fun _ _ _ h => h) rfl ?y4 ?_
  case y4 => intro w' hS; obtain ⟨s1, s2, s3⟩ := hS; go_simp; rfl
  refine way_read (some 15) ?v5 rfl rfl (fun _ _ _ h => h) rfl ?y5 ?_
  case y5 => intro w' hS; obtain ⟨s1, s2, s3⟩ := hS; go_simp; rfl
  refine way_read (some 16) ?v6 rfl rfl (fun _ _ _ h => h) rfl ?y6 ?_
  case y6 => intro w' hS; obtain ⟨s1, s2, s3⟩ := hS; go_simp; rfl
  refine way_read (some 17) ?v7 rfl rfl (fun _ _ _ h => h) rfl ?y7 ?_
  case y7 => intro w' hS; obtain ⟨s1, s2, s3⟩ := hS; go_simp; rfl
  refine way_read (some 18) ?v8 rfl rfl (fun _ _ _ h => h) rfl ?y8 ?_
  case y8 => intro w' hS; obtain ⟨s1, s2, s3⟩ := hS; go_simp; rfl
  refine way_read (some 19) ?v9 rfl rfl (fun _ _ _ h => h) rfl ?y9 ?_
  case y9 => intro w' hS; obtain ⟨s1, s2, s3⟩ := hS; go_simp; rfl
  refine way_read (some 20) ?v10 rfl rfl (fun _ _ _ h => h) rfl ?y10 ?_
  case y10 => intro w' hS; obtain ⟨s1, s2, s3⟩ := hS; go_simp; rfl
  refine way_read (some 21) ?v11 rfl rfl (fun _ _ _ h => h) rfl ?y11 ?_
  case y11 => intro w' hS; obtain ⟨s1, s2, s3⟩ := hS; go_simp; rfl
  refine way_read (some 22) ?v12 rfl rfl (fun _ _ _ h => h) rfl ?y12 ?_
  case y12 => intro w' hS; obtain ⟨s1, s2, s3⟩ := hS; go_simp; rfl
  refine way_turn rfl rfl (fun K hK => ?_)
  unfold Oper.wp execOp
  go_simp
  refine hK _ _ ⟨by go_simp, by go_simp, by go_simp⟩ (fun _ => ?_)
  clear hK K
  refine way_turn rfl rfl (fun K hK => ?_)
  refine wp_append_mine (.tmp 14) (.tmp 23) 25 rfl 0 5 _ _ 1 1 rfl rfl rfl rfl rfl rfl (by omega) _ _ _ rfl (by exact (hown.alloc _).alloc _) _ 1 1 [.int .u8 (IntKind.u8.wrap xa)] rfl rfl ?h2 ?h3 (by unfold maxLen; omega) (by omega) (Nat.zero_le _) (fun v' w1 hA => ?_)
  case h2 => 
    intro j u hj
    cases j with
    | zero => cases hj; go_simp
    | succ j => cases hj
  case h3 => intro u hu; simp at hu; subst hu; rfl
  have hgb := hA.2.1
  have far : ∀ b o, b < w.heap.size → some b ≠ (Value.slice A n cc).ownBlock → w1.cell? ⟨b, o, none⟩ = w.cell? ⟨b, o, none⟩ := fun b o hb hne => by
    rw [hgb.cell_far ⟨b, o, none⟩ (by simp; omega) hne]
    go_simp
  have farf : ∀ b o, b < w.heap.size → some b ≠ (Value.slice A n cc).ownBlock → w1.frozen? ⟨b, o, none⟩ = w.frozen? ⟨b, o, none⟩ := fun b o hb hne => by
    rw [hgb.frozen_far ⟨b, o, none⟩ (by simp; omega) hne]
    go_simp
  have hbox : some w.heap.size ≠ (Value.slice A n cc).ownBlock := fun he => by
    have := (hown.lt w.heap.size he.symm).2
    omega
  have e1 : w1.cell? ⟨w.heap.size, 1, none⟩ = some (.int .i64 a) := by
    rw [hgb.cell_far ⟨w.heap.size, 1, none⟩ (by simp; omega) hbox]
    go_simp
  have e2 := far m 20 hm hmo
  have e3 := far m (2 + a) hm hmo
  have e4 : ∀ o, w1.frozen? ⟨m, o, none⟩ = false := fun o => (farf m o hm hmo).trans (hf o)
  refine hK _ _ ⟨e2.trans h20, e1, e3.trans ha⟩ (fun _ => ?_)
  refine way_done ?_
  simp only [List.drop_succ_cons, List.drop_zero]
  go_simp
  obtain ⟨g, cap, rfl⟩ := own_form hA.1 (Nat.succ_pos _)
  have e6 : m < w1.heap.size := Nat.lt_of_lt_of_le hm (Nat.le_trans (by simp; omega) hgb.size)
  go_wp2
  go_end0
  have hu : [Value.int .u8 (IntKind.u8.wrap xa)] = nums .u8 [xa % 256] := by simp [nums, IntKind.wrap, IntKind.signed, IntKind.bits]
  have happ : nums .u8 xs ++ [Value.int .u8 (IntKind.u8.wrap xa)] = nums .u8 (xs ++ [xa % 256]) := by rw [hu]; simp [nums]
  rw [happ] at hA
  exact ⟨rfl, _, w1, ⟨hA.1, gb_trans (gb_drew (gb_trans (World.grownBy_alloc w _ _) (World.grownBy_alloc _ _ _))) hgb, fun k hk => (hA.2.2 k hk).imp id (fun h => by simp at h; omega)⟩, Below.refl _ _⟩
end Go.Proofs.Ytbchiolgbhckhaa.Mach
end
