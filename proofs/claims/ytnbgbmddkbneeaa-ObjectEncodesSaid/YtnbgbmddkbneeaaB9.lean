/- A number's eight bytes. -/
import Derived.Test.YtnbgbmddkbneeaaB8
set_option linter.unusedVariables false
set_option linter.unusedSimpArgs false
namespace Go.Proofs.Ytnbgbmddkbneeaa.Obj
open Go.RowKit Go.Proofs.YtnbgbmddkbneeaaW.PrintWords Go.Proofs.YtnbgbmddkbneeaaW.PrintMore Go.Proofs.Ytnbgbmddkbneeaa.PLinkWeak
def byteAt (v : Int) (i : Nat) : Int := v % 18446744073709551616 / 256 ^ i % 256
def le8 (v : Int) : List Int := (List.range 8).map (byteAt v)
theorem u8_wrap (x : Int) : IntKind.u8.wrap x = x % 256 := by simp [IntKind.wrap, IntKind.signed, IntKind.bits]
theorem shr_run (v : Int) (k : Nat) (hk : k < 8) (w : World) : (Op.shift BinOp.shr IntKind.u64 (IntKind.u64.wrap v) IntKind.i64 (IntKind.i64.wrap (8 * (k : Int)))).run Try.prog w = .ok (.int .u64 (v % 18446744073709551616 / 256 ^ k)) w := by
  rw [show IntKind.i64.wrap (8 * (k : Int)) = 8 * (k : Int) by rw [IntKind.wrap_i64]; omega, shift_shr_any _ _ _ _ (by omega), u64_is]
  have e : min (8 * (k : Int)).toNat IntKind.u64.bits = 8 * k := by
    have : IntKind.u64.bits = 64 := rfl
    omega
  rw [e, Nat.mul_comm, show (2 : Int) ^ (k * 8) = 256 ^ k by rw [Nat.mul_comm, Int.pow_mul]; rfl]
  rfl
theorem bytes_succ (v : Int) (out : List Int) (k : Nat) : out ++ (List.range (k + 1)).map (byteAt v) = (out ++ (List.range k).map (byteAt v)) ++ [byteAt v k] := by
  rw [List.range_succ, List.map_append, List.append_assoc]; rfl
set_option maxRecDepth 100000 in
set_option maxHeartbeats 4000000 in
theorem num_any {w : World} {g : Nat} {out : List Int} (v : Int) (h : WrIs 74 [] w g out) (hl : out.length ≤ 100000000) :
    Calls Try.prog 35 #[.pointer (some ⟨g, 0, none⟩), .int .i64 v] w fun e w' => e = .returned (.tuple #[]) ∧ WrIs 74 [] w' g (out ++ le8 v) ∧ Keep w w' g := by
  obtain ⟨i0, hi, hz0, hz1, hz2⟩ := info_parts info5
  have Hl := Lib.hid hl
  have Hi := Lib.hid (And.intro hi (And.intro hz0 (And.intro hz1 hz2)))
  clear hl hi hz0 hz1 hz2
  go_enter Try.func35, Try.ntmps35
  go_wp2
  go_loopw [5] (fun i wr => ∃ k : Nat, k ≤ 8 ∧ i = .int .i64 (k : Int) ∧ WrIs 74 [] wr g (out ++ (List.range k).map (byteAt v)) ∧ Keep w wr g) (fun i _ => 8 - (intOf i).toNat)
  case atStart => exact ⟨0, by omega, by go_num, by simpa using h, Keep.refl _ _⟩
  case round =>
    obtain ⟨k, hk, rfl, hW, hK⟩ := hrel
    by_cases hlt : k < 8
    · have p0 : (0 : Int) ≤ (k : Int) := by omega
      have p1 : (k : Int) < 8 := by omega
      obtain ⟨v0, hv, ho⟩ := hW.cell
      obtain ⟨A, c, rfl⟩ := own_slice ho
      have hWg := hW.lt
      have hsh := shr_run v k hlt
      have hnx := bytes_succ v out k
      have hn : (out ++ (List.range k).map (byteAt v)).length = out.length + k := by simp
      have Hn := Lib.hid hn
      have Hnx := Lib.hid hnx
      clear hnx hn
      generalize out ++ (List.range k).map (byteAt v) = outk at *
      generalize hgn : outk.length = n at *
      have Hgn := Lib.hid hgn
      clear hgn
      generalize hX : v % 18446744073709551616 / 256 ^ k = X at *
      have HX := Lib.hid hX
      clear hX
      go_wp2
      refine region_tree2 (fun _ w' => w'.cell? ⟨g, 0, none⟩ = some (.slice A n c)) (.read 0 (.read 1 (.read 2 (.read 3 (.read 4 (.read 5 (.read 6 (.read 7 (.read 8 (.read 9 (.read 10 (.read 11 (.turn 12 (.turn 13 .done)))))))))))))) 14 (fun a W a' w1 => ∃ A' n' c', a' = ((((((((((((((a.put (some 8) (.pointer (some ⟨g, 0, none⟩))).put (some 9) (.pointer (some ⟨g, 0, none⟩))).put (some 10) (.pointer (some ⟨g, 0, none⟩))).put (some 11) (.pointer (some ⟨g, 0, none⟩))).put (some 12) (.pointer (some ⟨g, 0, none⟩))).put (some 13) (.slice A n c)).put (some 14) (.int .i64 v)).put (some 15) (.int .u64 (IntKind.u64.wrap v))).put (some 16) (.int .i64 (k : Int))).put (some 17) (.int .i64 (IntKind.i64.wrap (8 * (k : Int))))).put (some 18) (.int .u64 X)).put (some 19) (.int .u8 (IntKind.u8.wrap X))).put (some 20) (.slice (some ⟨wr.heap.size, 0, none⟩) 1 1)).put (some 21) (.slice A' n' c')) ∧ WrIs 74 [] (w1.setCell ⟨g, 0, none⟩ (.slice A' n' c')) g (outk ++ [X % 256]) ∧ Keep wr (w1.setCell ⟨g, 0, none⟩ (.slice A' n' c')) g ∧ w1.frozen? ⟨g, 0, none⟩ = false ∧ g < w1.heap.size ∧ w1.cell? ⟨g, 0, none⟩ = some (.slice A n c)) mixed (by kernel_rfl) hv ?_ ?_
      refine tree_read (some 8) (.pointer (some ⟨g, 0, none⟩)) rfl rfl (fun _ _ _ h => h) (by kernel_rfl) ?y0 ?_
      case y0 => intro w' hS; go_simp <;> first | rfl | simp
      refine tree_read (some 9) (.pointer (some ⟨g, 0, none⟩)) rfl rfl (fun _ _ _ h => h) (by kernel_rfl) ?y1 ?_
      case y1 => intro w' hS; go_simp <;> first | rfl | simp
      refine tree_read (some 10) (.pointer (some ⟨g, 0, none⟩)) rfl rfl (fun _ _ _ h => h) (by kernel_rfl) ?y2 ?_
      case y2 => intro w' hS; go_simp <;> first | rfl | simp
      refine tree_read (some 11) (.pointer (some ⟨g, 0, none⟩)) rfl rfl (fun _ _ _ h => h) (by kernel_rfl) ?y3 ?_
      case y3 => intro w' hS; go_simp <;> first | rfl | simp
      refine tree_read (some 12) (.pointer (some ⟨g, 0, none⟩)) rfl rfl (fun _ _ _ h => h) (by kernel_rfl) ?y4 ?_
      case y4 => intro w' hS; go_simp <;> first | rfl | simp
      refine tree_read (some 13) (.slice A n c) rfl rfl (fun _ _ _ h => h) (by kernel_rfl) ?y5 ?_
      case y5 => intro w' hS; go_simp <;> first | rfl | simp
      refine tree_read (some 14) (.int .i64 v) rfl rfl (fun _ _ _ h => h) (by kernel_rfl) ?y6 ?_
      case y6 => intro w' hS; go_simp <;> first | rfl | simp
      refine tree_read (some 15) (.int .u64 (IntKind.u64.wrap v)) rfl rfl (fun _ _ _ h => h) (by kernel_rfl) ?y7 ?_
      case y7 => intro w' hS; go_simp <;> first | rfl | simp
      refine tree_read (some 16) (.int .i64 (k : Int)) rfl rfl (fun _ _ _ h => h) (by kernel_rfl) ?y8 ?_
      case y8 => intro w' hS; go_simp <;> first | rfl | simp
      refine tree_read (some 17) (.int .i64 (IntKind.i64.wrap (8 * (k : Int)))) rfl rfl (fun _ _ _ h => h) (by kernel_rfl) ?y9 ?_
      case y9 => intro w' hS; go_simp <;> first | rfl | simp
      refine tree_read (some 18) (.int .u64 X) rfl rfl (fun _ _ _ h => h) (by kernel_rfl) ?y10 ?_
      case y10 => intro w' hS; go_simp
      refine tree_read (some 19) (.int .u8 (IntKind.u8.wrap X)) rfl rfl (fun _ _ _ h => h) (by kernel_rfl) ?y11 ?_
      case y11 => intro w' hS; go_simp <;> first | rfl | simp
      refine tree_turn rfl rfl (fun K hK => ?_)
      unfold Oper.wp execOp
      go_simp
      refine hK _ _ (by go_simp) (fun _ => ?_)
      clear hK K
      refine tree_turn rfl rfl (fun K hK => ?_)
      obtain ⟨hi, hz0, hz1, hz2⟩ := Hi.out
      have ho2 : (wr.drew.alloc (.cells #[.int .u8 (IntKind.u8.wrap X)] 5)).ownsRow (g + 1) 5 1 (.slice A n c) n (nums .u8 outk) := own_move ho fun b hb => Below.heap_alloc _ _ _ (ho.lt b hb).2
      refine wp_append_mine (.tmp 13) (.tmp 20) 34 rfl (g + 1) 5 i0 _ 1 1 Try.underlying34 hi hz0 hz1 hz2 rfl (by omega) _ n _ rfl ho2 ⟨wr.heap.size, 0, none⟩ 1 1 [.int .u8 (IntKind.u8.wrap X)] rfl rfl ?h2 ?h3 (by have := Hl.out; have := Hn.out; have := Hgn.out; unfold maxLen; omega) (by have := Hl.out; have := Hn.out; have := Hgn.out; omega) (by show g + 1 ≤ (wr.drew.alloc _).heap.size; simp only [World.size_alloc]; show g + 1 ≤ wr.heap.size + 1; omega) (fun v' w1 hA => ?_)
      case h2 =>
        intro j u hj
        cases j with
        | zero => cases hj; go_simp
        | succ j => cases hj
      case h3 => intro u hu; simp at hu; subst hu; rfl
      have hb : Below wr.heap.size wr (wr.drew.alloc (.cells #[.int .u8 (IntKind.u8.wrap X)] 5)) := ((Below.refl _ _).drew).alloc (Nat.le_refl _) _
      have hu : [Value.int .u8 (IntKind.u8.wrap X)] = nums .u8 [X % 256] := by simp [nums, u8_wrap]
      rw [hu, ← nums_append, show n + 1 = (outk ++ [X % 256]).length by rw [List.length_append, Hgn.out]; rfl] at hA
      obtain ⟨A', c', rfl⟩ := own_slice hA.1
      have hfin := hW.put hv hb hA
      refine hK _ _ hfin.2.2.2.2 (fun _ => tree_done ⟨A', _, c', by kernel_rfl, hfin⟩)
      rintro a' w1 ⟨A', n', c', rfl, hW1, hK1, hf1, hl1, hv1⟩
      simp only [List.drop_succ_cons, List.drop_zero]
      have HW1 := Lib.hid hW1
      have HK1 := Lib.hid hK1
      clear hW1 hK1 hW
      go_simp
      go_wp2
      go_roundw
      case rel => exact ⟨k + 1, by omega, by go_num, by rw [Hnx.out, show byteAt v k = X % 256 by unfold byteAt; rw [HX.out]]; exact HW1.out, hK.trans HK1.out⟩
      case measure => simp [intOf]; omega
    · obtain rfl : k = 8 := by omega
      go_wp2
      go_end0
      exact ⟨rfl, hW, hK⟩
end Go.Proofs.Ytnbgbmddkbneeaa.Obj
