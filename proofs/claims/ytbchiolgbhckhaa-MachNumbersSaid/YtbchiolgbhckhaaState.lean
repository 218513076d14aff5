/- The machine's state as plain numbers and lists, and what one step makes of it. -/
import Derived.Test.YtbchiolgbhckhaaDec
set_option linter.unusedVariables false
set_option linter.unusedSimpArgs false
namespace Go.Proofs.Ytbchiolgbhckhaa.Mach
open Go.RowKit Go.Proofs.YtbchiolgbhckhaaW.PrintWords Go.Proofs.YtbchiolgbhckhaaW.PrintMore Go.Proofs.Ytbchiolgbhckhaa.PMachRuns

/-- A machine's state. -/
structure MS where
  code : List Int
  mem : List Int
  reg : Nat → Int
  pc : Int
  inp : List Int
  out : List Int
  kind : Int
  panics : Int
  steps : Int
namespace MS
def set (s : MS) (k : Nat) (v : Int) : MS := { s with reg := fun j => if j = k then v else s.reg j }
def ends (s : MS) (k c : Int) : MS := { s with kind := k, panics := c }
def fault (s : MS) : MS := s.ends 5 0
def at_ (s : MS) (a : Int) : Bool := decide (0 ≤ a) && decide (a < s.mem.length)
def put (s : MS) (a : Int) (v : Int) : MS := { s with mem := s.mem.set a.toNat v }
def jump (s : MS) (d : Int) : MS := { s with pc := wrap64 (s.pc + d) }
end MS
/-- An operation of two words, of one word: what comes out, with a panic's code. -/
def bin2 (op a b : Int) : Int × Int := (mortiseref1_Bin.f 3 op a b).getD (0, 0)
def un2 (op a : Int) : Int × Int := (mortiseref1_Un.f op a).getD (0, 0)
def high (x i : Int) : Int := wrap64 (wrap64 (x * 4294967296) + i % 4294967296)
/-- A call: the place is laid down at register 15. -/
def MS.call (s : MS) (dest : MS → Int) : MS :=
  let k := wrap64 (s.reg 15 - 1)
  if s.at_ k = true then
    let t := (s.put k s.pc).set 15 k
    { t with pc := dest t }
  else s.fault
def trapS (s : MS) (n : Int) : MS :=
  if 1 ≤ n ∧ n ≤ 999 then s.ends 2 n else if n = 1000 then s.ends 3 0 else if n = 1001 then s.ends 4 0 else s.fault
/-- What an instruction makes of a state. -/
def exec (x : I5) (s : MS) : MS :=
  if x.o = 0 then s.ends 1 0
  else if x.o = 1 then trapS s x.i
  else if x.o = 2 then s.set x.a (s.reg x.b)
  else if x.o = 3 then s.set x.a x.i
  else if x.o = 4 then s.set x.a (high (s.reg x.a) x.i)
  else if x.o = 5 then (if s.at_ (wrap64 (s.reg x.b + x.i)) = true then s.set x.a (rd s.mem (wrap64 (s.reg x.b + x.i))) else s.fault)
  else if x.o = 6 then (if s.at_ (wrap64 (s.reg x.b + x.i)) = true then s.put (wrap64 (s.reg x.b + x.i)) (s.reg x.a) else s.fault)
  else if x.o = 7 then s.jump x.i
  else if x.o = 8 then (if s.reg x.a = 0 then s.jump x.i else s)
  else if x.o = 9 then (if s.reg x.a = 0 then s else s.jump x.i)
  else if x.o = 10 then s.call (fun _ => x.i)
  else if x.o = 11 then s.call (fun t => t.reg x.a)
  else if x.o = 12 then (if s.at_ (s.reg 15) = true then { s.set 15 (wrap64 (s.reg 15 + 1)) with pc := rd s.mem (s.reg 15) } else s.fault)
  else if x.o = 13 then (match s.inp with | [] => s.set x.a (-1) | b :: r => { s.set x.a b with inp := r })
  else if x.o = 14 then (if s.out.length < 4096 then { s with out := s.out ++ [s.reg x.a % 256] } else s)
  else if x.o = 15 then s.set x.a s.mem.length
  else
    let r := if x.o < 40 then bin2 (x.o - 16) (s.reg x.b) (s.reg x.c) else un2 (x.o - 40) (s.reg x.b)
    if r.2 = 0 then s.set x.a r.1 else s.ends 2 r.2
/-- One step of a machine whose run is not over. -/
def step1 (s : MS) : MS :=
  let t := { s with steps := wrap64 (s.steps + 1) }
  if 0 ≤ s.pc ∧ s.pc < s.code.length then
    match decI (rd s.code s.pc) with
    | none => t.fault
    | some x => exec x { t with pc := wrap64 (s.pc + 1) }
  else t.fault
/-- So many steps at most. -/
def runN : Nat → MS → MS
  | 0, s => s
  | n + 1, s => if s.kind = 0 then runN n (step1 s) else s

namespace Num
theorem wrap64_eq (n : Int) : wrap64 n = (BitVec.ofInt 64 n).toInt := by
  rw [BitVec.toInt_ofInt]
  unfold wrap64
  simp only [Int.bmod]
  omega

theorem i64_wrap_eq (n : Int) : IntKind.i64.wrap n = wrap64 n := by
  simp only [IntKind.wrap, IntKind.signed, IntKind.bits, wrap64, Bool.true_and]
  split <;> simp_all <;> omega

theorem i64_wrap_toNat (x : BitVec 64) : IntKind.i64.wrap (x.toNat : Int) = x.toInt := by
  rw [i64_wrap_eq, wrap64_eq]; simp

theorem bits_and (a b : Int) : bits .and .i64 a b = (BitVec.ofInt 64 a &&& BitVec.ofInt 64 b).toInt := i64_wrap_toNat _
theorem bits_or (a b : Int) : bits .or .i64 a b = (BitVec.ofInt 64 a ||| BitVec.ofInt 64 b).toInt := i64_wrap_toNat _
theorem bits_xor (a b : Int) : bits .xor .i64 a b = (BitVec.ofInt 64 a ^^^ BitVec.ofInt 64 b).toInt := i64_wrap_toNat _

theorem ofInt_toInt (x : BitVec 64) : BitVec.ofInt 64 x.toInt = x := by simp

theorem wf_i64 {a : Int} (h : (Lit.int .i64 a).wf = true) : -9223372036854775808 ≤ a ∧ a ≤ 9223372036854775807 := by
  simpa [Lit.wf, IntKind.min, IntKind.max, IntKind.signed, IntKind.bits] using h
theorem wf_u8 {a : Int} (h : (Lit.int .u8 a).wf = true) : 0 ≤ a ∧ a ≤ 255 := by
  simpa [Lit.wf, IntKind.min, IntKind.max, IntKind.signed, IntKind.bits] using h

theorem toInt_ofInt_in {a : Int} (h : -9223372036854775808 ≤ a ∧ a ≤ 9223372036854775807) : (BitVec.ofInt 64 a).toInt = a := by
  rw [← wrap64_eq]; unfold wrap64; omega

theorem u64_wrap (n : Int) : IntKind.u64.wrap n = n % 18446744073709551616 := by
  simp [IntKind.wrap, IntKind.signed, IntKind.bits]

/-- The six low bits of a word without a sign. -/
theorem mask63_u (b : Int) : bits .and .u64 (IntKind.u64.wrap b) 63 = b % 64 := by
  rw [u64_wrap]
  show IntKind.u64.wrap ((BitVec.ofInt 64 (b % 18446744073709551616) &&& BitVec.ofInt 64 63).toNat : Int) = b % 64
  rw [u64_wrap, BitVec.toNat_and]
  have e : (BitVec.ofInt 64 63).toNat = 2 ^ 6 - 1 := by decide
  rw [e, Nat.and_two_pow_sub_one_eq_mod]
  simp only [BitVec.toNat_ofInt]
  omega
/-- The six low bits of a word with a sign. -/
theorem mask63_i (b : Int) : bits .and .i64 b 63 = b % 64 := by
  show IntKind.i64.wrap ((BitVec.ofInt 64 b &&& BitVec.ofInt 64 63).toNat : Int) = b % 64
  rw [i64_wrap_eq, BitVec.toNat_and]
  have e : (BitVec.ofInt 64 63).toNat = 2 ^ 6 - 1 := by decide
  rw [e, Nat.and_two_pow_sub_one_eq_mod]
  simp only [BitVec.toNat_ofInt]
  unfold wrap64
  omega
end Num
open Num

theorem bin_same' (op a b : Int) : ∃ r, word_Bin.f 3 op a b = some r ∧ mortiseref1_Bin.f 3 op a b = some r := by
  have h64 : 0 ≤ b % 64 := by omega
  unfold word_Bin.f mortiseref1_Bin.f
  by_cases h1 : op = 1
  · simp [h1]
  by_cases h2 : op = 2
  · simp [h2]
  by_cases h3 : op = 3
  · simp [h3]
  by_cases h4 : op = 4
  · subst h4
    by_cases hb : b = 0
    · simp [word_Bin.j0, mortiseref1_Bin.j0, word_quotient.f, hb]
    by_cases hm : b = -1
    · simp [word_Bin.j0, mortiseref1_Bin.j0, word_quotient.f, word_quotient.j0, hm]
    · simp [word_Bin.j0, mortiseref1_Bin.j0, word_quotient.f, word_quotient.j0, hb, hm]
  by_cases h5 : op = 5
  · subst h5
    by_cases hb : b = 0
    · simp [word_Bin.j0, mortiseref1_Bin.j0, word_quotient.f, hb]
    by_cases hm : b = -1
    · simp [word_Bin.j0, mortiseref1_Bin.j0, word_quotient.f, word_quotient.j0, hm]
    · simp [word_Bin.j0, mortiseref1_Bin.j0, word_quotient.f, word_quotient.j0, hb, hm]
  · have e : IntKind.u64.wrap (b % 64) = b % 64 := by rw [u64_wrap]; omega
    have t : ∀ c : Bool, word_truth.f c = mortiseref1_one.f c := fun _ => rfl
    have s : ∀ c : Bool, ∃ n, mortiseref1_one.f c = some n := fun c => by cases c <;> exact ⟨_, rfl⟩
    have x5 : (op == 5) = false := beq_eq_false_iff_ne.2 h5
    rw [if_neg h1, if_neg h2, if_neg h3, if_neg h4, if_neg h1, if_neg h2, if_neg h3, if_neg h4, x5]
    simp only [word_Bin.j0, mortiseref1_Bin.j0, word_shift.f, mask63_i, e, t]
    rw [mask63_u]
    simp only [Option.bind_some, if_pos h64]
    by_cases h6 : op = 6
    · simp [h6]
    by_cases h7 : op = 7
    · simp [h7]
    by_cases h8 : op = 8
    · simp [h8]
    by_cases h9 : op = 9
    · simp [h9]
    by_cases h10 : op = 10
    · simp [h10]
    by_cases h11 : op = 11
    · obtain ⟨n, hn⟩ := s (a == b); simp [h11, hn]
    by_cases h12 : op = 12
    · obtain ⟨n, hn⟩ := s (a != b); simp [h12, hn]
    by_cases h13 : op = 13
    · obtain ⟨n, hn⟩ := s (decide (a < b)); simp [h13, hn]
    by_cases h14 : op = 14
    · obtain ⟨n, hn⟩ := s (decide (a ≤ b)); simp [h14, hn]
    by_cases h15 : op = 15
    · obtain ⟨n, hn⟩ := s (decide (b < a)); simp [h15, hn]
    by_cases h16 : op = 16
    · obtain ⟨n, hn⟩ := s (decide (b ≤ a)); simp [h16, hn]
    · simp [h6, h7, h8, h9, h10, h11, h12, h13, h14, h15, h16]

theorem bin_same (op a b : Int) : word_Bin.f 3 op a b = some (bin2 op a b) ∧ mortiseref1_Bin.f 3 op a b = some (bin2 op a b) := by
  obtain ⟨r, h1, h2⟩ := bin_same' op a b
  unfold bin2
  rw [h1, h2]
  exact ⟨rfl, rfl⟩
theorem un_same' (op a : Int) : ∃ r, word_Un.f op a = some r ∧ mortiseref1_Un.f op a = some r := by
  unfold word_Un.f mortiseref1_Un.f word_truth.f mortiseref1_one.f
  by_cases h1 : op = 1
  · simp [h1]
  by_cases h2 : op = 2
  · simp [h2]
  by_cases h3 : op = 3
  · by_cases h0 : a = 0 <;> simp [h3, h0]
  · simp [h1, h2, h3]

theorem un_same (op a : Int) : word_Un.f op a = some (un2 op a) ∧ mortiseref1_Un.f op a = some (un2 op a) := by
  obtain ⟨r, h1, h2⟩ := un_same' op a
  unfold un2
  rw [h1, h2]
  exact ⟨rfl, rfl⟩
theorem un2_ok {op : Int} (a : Int) (h : op = 1 ∨ op = 2 ∨ op = 3) : (un2 op a).2 = 0 := by
  unfold un2 mortiseref1_Un.f mortiseref1_one.f
  rcases h with rfl | rfl | rfl
  · rfl
  · rfl
  · cases (a == 0) <;> rfl
end Go.Proofs.Ytbchiolgbhckhaa.Mach
