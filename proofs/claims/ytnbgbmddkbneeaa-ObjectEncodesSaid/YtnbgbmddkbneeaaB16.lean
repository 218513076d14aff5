/- The document's writer. -/
import Derived.Test.YtnbgbmddkbneeaaB13
set_option linter.unusedVariables false
set_option linter.unusedSimpArgs false
namespace Go.Proofs.Ytnbgbmddkbneeaa.Obj
open Go.RowKit Go.Proofs.YtnbgbmddkbneeaaW.PrintWords Go.Proofs.YtnbgbmddkbneeaaW.PrintMore Go.Proofs.Ytnbgbmddkbneeaa.PLinkWeak
theorem append_one {w W : World} {g : Nat} {T : TypeId} {tl : List Value} {out : List Int} {v : Value} (b : Int) (ad : Addr) (c : Nat) (ty : TypeId) (h : WrIs T tl w g out) (hv : w.cell? ⟨g, 0, none⟩ = some v) (hb : Below w.heap.size w W)
    (hc : W.cell? ad = some (.int .u8 b)) (hl : out.length + 1 ≤ 140737488355328) :
    ∃ A' n' c' w1, (Builtin.append_ #[34, 34] ty #[v, .slice (some ad) 1 c]).run Try.prog W = .ok (.slice A' n' c') w1 ∧ WrIs T tl (w1.setCell ⟨g, 0, none⟩ (.slice A' n' c')) g (out ++ [b]) ∧ Keep w (w1.setCell ⟨g, 0, none⟩ (.slice A' n' c')) g ∧ w1.frozen? ⟨g, 0, none⟩ = false ∧ g < w1.heap.size ∧ w1.cell? ⟨g, 0, none⟩ = some v := by
  obtain ⟨i0, hi, hz0, hz1, hz2⟩ := info_parts info5
  obtain ⟨u, hu, ho⟩ := h.cell
  rw [hv] at hu; cases hu
  have ho' : W.ownsRow (g + 1) 5 1 v out.length (nums .u8 out) := own_move ho fun k hk => hb.block k (ho.lt k hk).2
  have hg := h.lt
  obtain ⟨v', w1, hr, hA⟩ := run_append_mine (P := Try.prog) W (g + 1) 34 ty 5 i0 _ 1 1 Try.underlying34 hi hz0 hz1 hz2 rfl (by omega) v out.length (nums .u8 out) ho' ad 1 c [.int .u8 b] rfl
    (by intro j u hj
        cases j with
        | zero => cases hj; simpa [Addr.add] using hc
        | succ j => cases hj) (by intro u hu; simp at hu; subst hu; rfl) (by unfold maxLen; omega) (by omega) (by have := hb.size; omega)
  obtain ⟨A', c', rfl⟩ := own_slice hA.1
  refine ⟨A', _, c', w1, hr, h.put hv hb ?_⟩
  have e : out.length + 1 = (out ++ [b]).length := by simp
  rw [show [Value.int .u8 b] = nums .u8 [b] from rfl, ← nums_append, e] at hA
  rw [← e] at hA ⊢
  exact hA
def tlR : List Value := [.bool false, .int .i64 0]
/-- What the document's writer holds of what should be written. -/
def Cap (a b : List Int) : Prop := a.length ≤ 262300 ∧ AllB a ∧ (a = b ∨ (262144 < a.length ∧ 262144 < b.length))
theorem Cap.full {a b : List Int} (h : Cap a b) (hf : 262144 < a.length) (c : List Int) : Cap a (b ++ c) := ⟨h.1, h.2.1, .inr ⟨hf, by rcases h.2.2 with rfl | h2 <;> simp <;> omega⟩⟩
theorem Cap.room {a b : List Int} (h : Cap a b) (hf : ¬ 262144 < a.length) (c : List Int) (hc : c.length ≤ 100) (hA : AllB c) : Cap (a ++ c) (b ++ c) := by
  rcases h.2.2 with rfl | h2
  · exact ⟨by simp; omega, h.2.1.app hA, .inl rfl⟩
  · omega
set_option maxRecDepth 100000 in
theorem full_any {w : World} {g : Nat} {a : List Int} (h : WrIs 81 tlR w g a) (hl : a.length ≤ 262300) : Calls Try.prog 43 #[.pointer (some ⟨g, 0, none⟩)] w fun e w' => e = .returned (.bool (decide (262144 < a.length))) ∧ w = w' := by
  obtain ⟨A, c, hv⟩ := h.slot
  have d : decide ((262144 : Int) < (a.length : Int)) = decide (262144 < a.length) := by
    by_cases e : 262144 < a.length
    · rw [decide_eq_true e, decide_eq_true (by omega)]
    · rw [decide_eq_false e, decide_eq_false (by omega)]
  generalize a.length = n at *
  clear h
  go_enter Try.func43, Try.ntmps43
  go_wp2
  go_ret
  exact ⟨by first | rfl | rw [d], rfl⟩
theorem quo_256 (v : Int) (k : Nat) : IntKind.u64.wrap ((v % 18446744073709551616 / 256 ^ k).tdiv 256) = v % 18446744073709551616 / 256 ^ (k + 1) := by
  have h0 : 0 ≤ v % 18446744073709551616 := Int.emod_nonneg _ (by omega)
  have h1 : v % 18446744073709551616 < 18446744073709551616 := Int.emod_lt_of_pos _ (by omega)
  have hp : (0 : Int) < 256 ^ k := Int.pow_pos (by omega)
  have h2 : 0 ≤ v % 18446744073709551616 / 256 ^ k := Int.ediv_nonneg h0 (by omega)
  have h3 : v % 18446744073709551616 / 256 ^ k ≤ v % 18446744073709551616 := Int.ediv_le_self _ h0
  rw [Int.tdiv_eq_ediv_of_nonneg h2, u64_is, Int.pow_succ, ← Int.ediv_ediv_of_nonneg (by omega)]
  generalize v % 18446744073709551616 / 256 ^ k = x at *
  omega
def numR (a : List Int) (v : Int) : List Int := if 262144 < a.length then a else a ++ le8 v
theorem Cap.num {a b : List Int} (h : Cap a b) (v : Int) : Cap (numR a v) (b ++ le8 v) := by
  unfold numR
  split
  · exact h.full (by assumption) _
  · exact h.room (by assumption) _ (by simp [le8]) (le8_in v)
set_option maxRecDepth 100000 in
set_option maxHeartbeats 2000000 in
theorem rnum_eq {w : World} {g : Nat} {a : List Int} (v : Int) (h : WrIs 81 tlR w g a) (hc : a.length ≤ 262300) :
    Calls Try.prog 38 #[.pointer (some ⟨g, 0, none⟩), .int .i64 v] w fun e w' => e = .returned (.tuple #[]) ∧ WrIs 81 tlR w' g (numR a v) ∧ Keep w w' g := by
  have hfu := Lib.hid (full_any h hc)
  unfold numR
  by_cases hf : 262144 < a.length
  · rw [decide_eq_true hf] at hfu
    rw [if_pos hf]
    have HR := Lib.hid h
    clear h hc hf
    go_enter Try.func38, Try.ntmps38
    go_wp2_with (go_at_call 43; refine hfu.out.mono ?_; rintro e w1 ⟨rfl, rfl⟩)
    (try simp only [Exit.inBlock, Exit.then])
    refine bodyPost_ret (results_none rfl _ _ _) rfl ?_
    exact ⟨rfl, HR.out, Keep.refl _ _⟩
  · rw [decide_eq_false hf] at hfu
    rw [if_neg hf]
    have HL := Lib.hid (Nat.not_lt.1 hf)
    clear hc hf
    go_enter Try.func38, Try.ntmps38
    go_wp2_with (go_at_call 43; refine hfu.out.mono ?_; rintro e w1 ⟨rfl, rfl⟩)
    go_loopw [4, 5] (fun u i wr => ∃ k : Nat, k ≤ 8 ∧ i = .int .i64 (k : Int) ∧ u = .int .u64 (v % 18446744073709551616 / 256 ^ k) ∧ WrIs 81 tlR wr g (a ++ (List.range k).map (byteAt v)) ∧ Keep w wr g) (fun _ i _ => 8 - (intOf i).toNat)
    case atStart => exact ⟨0, by omega, by go_num, by rw [u64_is]; simp, by simpa using h, Keep.refl _ _⟩
    case round =>
      obtain ⟨k, hk, rfl, rfl, hW, hK⟩ := hrel
      by_cases hlt : k < 8
      · have p0 : (0 : Int) ≤ (k : Int) := by omega
        have p1 : (k : Int) < 8 := by omega
        obtain ⟨A, c, hv⟩ := hW.slot
        have hWg := hW.lt
        have hq := quo_256 v k
        have hnx := bytes_succ v a k
        have hn : (a ++ (List.range k).map (byteAt v)).length = a.length + k := by simp
        have hone := fun (X : World) (hb : Below wr.heap.size wr X) ad hc => append_one (W := X) (IntKind.u8.wrap (v % 18446744073709551616 / 256 ^ k)) ad 1 34 hW hv hb hc (by have := HL.out; omega)
        rw [show IntKind.u8.wrap (v % 18446744073709551616 / 256 ^ k) = byteAt v k by rw [u8_wrap]; rfl] at hone
        have Hone := Lib.hid hone
        have Hnx := Lib.hid hnx
        have Hq := Lib.hid hq
        have Hb := Lib.hid (show IntKind.u8.wrap (v % 18446744073709551616 / 256 ^ k) = byteAt v k from by rw [u8_wrap]; rfl)
        clear hone hnx hq hn
        generalize v % 18446744073709551616 / 256 ^ k = X at *
        generalize hX' : v % 18446744073709551616 / 256 ^ (k + 1) = X' at *
        have HX' := Lib.hid hX'
        clear hX'
        generalize (a ++ List.map (byteAt v) (List.range k)).length = n at *
        obtain ⟨A', n', c', w1, hr, hW1, hK1, hf1, hl1, hv1⟩ := Hone.out (wr.alloc (.cells #[.int .u8 (X % 256)] 5)) (alloc_below _ _) ⟨wr.heap.size, 0, none⟩ (by rw [← Hb.out, u8_wrap]; simp)
        have Hr := Lib.hid hr
        have HW1 := Lib.hid hW1
        have HK1 := Lib.hid hK1
        clear hr hW1 hK1 Hone hW
        go_wp2_with (refine wpList_app (o := ⟨some 22, _, _, _, _, _⟩) rfl (.tmp 18) (.tmp 21) 34 34 rfl _ _ _ _ rfl rfl Hr.out ?_)
        go_roundw
        case rel => exact ⟨k + 1, by omega, by go_num, by rw [HX'.out, Hq.out], by rw [Hnx.out]; exact HW1.out, hK.trans HK1.out⟩
        case measure => simp [intOf]; omega
      · obtain rfl : k = 8 := by omega
        go_wp2
        go_end0
        exact ⟨rfl, hW, hK⟩
theorem rnum_any {w : World} {g : Nat} {a b : List Int} (v : Int) (h : WrIs 81 tlR w g a) (hc : Cap a b) :
    Calls Try.prog 38 #[.pointer (some ⟨g, 0, none⟩), .int .i64 v] w fun e w' => e = .returned (.tuple #[]) ∧ ∃ a', Cap a' (b ++ le8 v) ∧ WrIs 81 tlR w' g a' ∧ Keep w w' g :=
  (rnum_eq v h hc.1).mono fun e w' ⟨h1, h2, h3⟩ => ⟨h1, _, hc.num v, h2, h3⟩
end Go.Proofs.Ytnbgbmddkbneeaa.Obj
