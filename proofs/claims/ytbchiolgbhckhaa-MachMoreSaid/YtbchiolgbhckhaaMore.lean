/- With more steps nothing is unlike, but how far it comes: the walk. -/
import Derived.Test.YtbchiolgbhckhaaAid
set_option linter.unusedVariables false
set_option linter.unusedSimpArgs false
namespace Go.Proofs.Ytbchiolgbhckhaa.Mach
open Go.RowKit Go.Proofs.YtbchiolgbhckhaaW.PrintWords Go.Proofs.YtbchiolgbhckhaaW.PrintMore Go.Proofs.Ytbchiolgbhckhaa.PMachRuns
theorem whole_more (n1 n2 n3 : Nat) (en mem : Int) (code data inp : List Int) (fuel more : Int) (h0 : 0 ≤ fuel) (h1 : fuel ≤ 3000) (h2 : 0 ≤ more) (h3 : more ≤ 3000) :
    (¬ (whole n1 n2 n3 en mem code data inp fuel).kind = 0 → whole n1 n2 n3 en mem code data inp (fuel + more) = whole n1 n2 n3 en mem code data inp fuel) ∧
    (whole n1 n2 n3 en mem code data inp fuel).out <+: (whole n1 n2 n3 en mem code data inp (fuel + more)).out ∧
    (whole n1 n2 n3 en mem code data inp fuel).steps ≤ (whole n1 n2 n3 en mem code data inp (fuel + more)).steps := by
  unfold whole
  by_cases he : newErr n1 n2 n3 en mem = 0
  · simp only [if_pos he]
    rw [show (min (fuel + more) 4194304).toNat = (min fuel 4194304).toNat + more.toNat by omega, runN_add]
    refine ⟨fun hk => runN_stop hk _, runN_prefix _ _, ?_⟩
    obtain ⟨a, b, _⟩ := runN_steps (min fuel 4194304).toNat (fresh code data inp en mem.toNat) (Int.le_refl 0) (by show (0 : Int) + _ ≤ _; omega)
    exact (runN_steps more.toNat _ (by have : (fresh code data inp en mem.toNat).steps = 0 := rfl; omega) (by have : (fresh code data inp en mem.toNat).steps = 0 := rfl; omega)).1
  · simp only [if_neg he]
    exact ⟨by simp, List.prefix_refl _, Int.le_refl _⟩
set_option maxRecDepth 100000 in
set_option maxHeartbeats 2000000 in
theorem machMore_walk {A1 A2 A3 : Option Addr} {n1 c1 n2 c2 n3 c3 : Nat} {en : Int} {code data inp : List Int} (w : World) (him : Image w A1 n1 c1 A2 n2 c2 code data) (mem : Int) (hin : Input w A3 n3 c3 inp) (fuel more : Int) (l1 : n1 ≤ c1) (l2 : n2 ≤ c2) (m1 : c1 ≤ maxLen) (m2 : c2 ≤ maxLen) (hmw : (Lit.int .i64 mem).wf = true) (l3 : n3 ≤ c3) (m3 : c3 ≤ maxLen) (hfw : (Lit.int .i64 fuel).wf = true) (hmo : (Lit.int .i64 more).wf = true) :
    Calls Try.prog 9 #[.agg #[.slice A1 n1 c1, .slice A2 n2 c2, .int .i64 en], .int .i64 mem, .slice A3 n3 c3, .int .i64 fuel, .int .i64 more] w fun e w' => e = .returned (.bool true) ∧ Below w.heap.size w w' := by
  clear hmw hfw hmo
  have im : ∀ X, Below w.heap.size w X → Image X A1 n1 c1 A2 n2 c2 code data := fun X h => him.below h
  have inn : ∀ X, Below w.heap.size w X → Input X A3 n3 c3 inp := fun X h => hin.below h
  have hb0 := alloc_below w (.cells #[.slice A1 n1 c1, .slice A2 n2 c2, .int .i64 en] 24)
  by_cases hh : (n1 : Int) > 2000 ∨ (n2 : Int) > 2000 ∨ mem > 5000 ∨ (n3 : Int) > 100 ∨ fuel > 3000
  · have hv := heavy_any (en := en) (mem := mem) (fuel := fuel) (im _ hb0) (inn _ hb0) l1 l2 l3 m1 m2 m3 true (by rw [decide_eq_true hh])
    clear hh him hin
    go_enter Try.func9, Try.ntmps9
    go_wp2_with (first | (go_at_call 12; refine hv.mono ?_; rintro e w1 ⟨rfl, hb1⟩) | (go_at_call 13; refine (awake_any _).mono ?_; rintro e w2 ⟨rfl, hb2⟩))
    go_ret
    exact ⟨rfl, bnext hb0 (bnext hb1 hb2)⟩
  · have hv := heavy_any (en := en) (mem := mem) (fuel := fuel) (im _ hb0) (inn _ hb0) l1 l2 l3 m1 m2 m3 false (by rw [decide_eq_false hh])
    have f1 : fuel ≤ 3000 := by omega
    clear hh him hin
    by_cases hg : fuel < 0 ∨ more < 0 ∨ 3000 < more
    · by_cases g0 : fuel < 0
      · clear hg
        go_enter Try.func9, Try.ntmps9
        go_wp2_with (first | (go_at_call 12; refine hv.mono ?_; rintro e w1 ⟨rfl, hb1⟩) | (go_at_call 13; refine (awake_any _).mono ?_; rintro e w2 ⟨rfl, hb2⟩))
        go_ret
        exact ⟨rfl, bnext hb0 (bnext hb1 hb2)⟩
      have d0 : decide (fuel < 0) = false := decide_eq_false g0
      by_cases g1 : more < 0
      · clear hg
        go_enter Try.func9, Try.ntmps9
        go_wp2_with (first | (go_at_call 12; refine hv.mono ?_; rintro e w1 ⟨rfl, hb1⟩) | (go_at_call 13; refine (awake_any _).mono ?_; rintro e w2 ⟨rfl, hb2⟩))
        go_ret
        exact ⟨rfl, bnext hb0 (bnext hb1 hb2)⟩
      have d1 : decide (more < 0) = false := decide_eq_false g1
      have g2 : 3000 < more := by omega
      clear hg
      go_enter Try.func9, Try.ntmps9
      go_wp2_with (first | (go_at_call 12; refine hv.mono ?_; rintro e w1 ⟨rfl, hb1⟩) | (go_at_call 13; refine (awake_any _).mono ?_; rintro e w2 ⟨rfl, hb2⟩))
      go_ret
      exact ⟨rfl, bnext hb0 (bnext hb1 hb2)⟩
    · have d0 : decide (fuel < 0) = false := decide_eq_false (by omega)
      have d1 : decide (more < 0) = false := decide_eq_false (by omega)
      have d2 : decide ((3000 : Int) < more) = false := decide_eq_false (by omega)
      have i0 : 0 ≤ fuel := by omega
      have i1 : 0 ≤ more := by omega
      have i2 : more ≤ 3000 := by omega
      clear hg
      obtain ⟨q1, q2, q3⟩ := whole_more n1 n2 n3 en mem code data inp fuel more i0 f1 i1 i2
      have hfu1 : fuel ≤ 9223372036854775807 := by omega
      have hfu2 : fuel + more ≤ 9223372036854775807 := by omega
      obtain ⟨k1, hk1⟩ : ∃ k, (whole n1 n2 n3 en mem code data inp fuel).kind = k := ⟨_, rfl⟩
      obtain ⟨p1, hp1⟩ : ∃ k, (whole n1 n2 n3 en mem code data inp fuel).panics = k := ⟨_, rfl⟩
      obtain ⟨s1, hs1⟩ : ∃ k, (whole n1 n2 n3 en mem code data inp fuel).steps = k := ⟨_, rfl⟩
      obtain ⟨o1, ho1⟩ : ∃ k, (whole n1 n2 n3 en mem code data inp fuel).out = k := ⟨_, rfl⟩
      obtain ⟨k2, hk2⟩ : ∃ k, (whole n1 n2 n3 en mem code data inp (fuel + more)).kind = k := ⟨_, rfl⟩
      obtain ⟨p2, hp2⟩ : ∃ k, (whole n1 n2 n3 en mem code data inp (fuel + more)).panics = k := ⟨_, rfl⟩
      obtain ⟨s2, hs2⟩ : ∃ k, (whole n1 n2 n3 en mem code data inp (fuel + more)).steps = k := ⟨_, rfl⟩
      obtain ⟨o2, ho2⟩ : ∃ k, (whole n1 n2 n3 en mem code data inp (fuel + more)).out = k := ⟨_, rfl⟩
      have r1 : ∀ X, Below w.heap.size w X → _ := fun X h => mrun_lit (im X h) (inn X h) fuel hfu1 hk1 hp1 ho1 hs1
      have r2 : ∀ X, Below w.heap.size w X → _ := fun X h => mrun_lit (im X h) (inn X h) (fuel + more) hfu2 hk2 hp2 ho2 hs2
      rw [ho1, ho2] at q2
      rw [hs1, hs2] at q3
      by_cases hz : k1 = 0
      · subst hz
        clear q1 hfu1 hfu2 hk1 hp1 ho1 hs1 hk2 hp2 ho2 hs2
        go_enter Try.func9, Try.ntmps9
        go_wp2_with (first | (go_at_call 12; refine hv.mono ?_; rintro e w1 ⟨rfl, hb1⟩; have t1 := bnext hb0 hb1; obtain ⟨e1, e2, e3, e4⟩ := img_kept hb1))
        refine (r1 _ t1).mono ?_
        rintro e w2 ⟨B1, j1, d1, rfl, ⟨u1, R1, _⟩, x1, y1, z1, hb2⟩
        have t2 := bnext t1 hb2
        have t3 := bnext t2 (alloc_below w2 (.cells #[.int .i64 0, .int .i64 p1, .slice B1 j1 d1, .int .i64 s1] 34))
        have tb2 := bnext hb1 hb2
        clear e1 e2 e3 e4
        obtain ⟨e1, e2, e3, e4⟩ := img_kept tb2
        go_wp2_with (fail)
        refine (r2 _ t3).mono ?_
        rintro e w3 ⟨B2, j2, d2, rfl, ⟨u2, R2, _⟩, x2, y2, z2, hb3⟩
        have t4 := bnext t3 hb3
        clear e1 e2 e3 e4
        obtain ⟨e1, e2, e3, e4, e5⟩ := out_kept hb3
        have R1' := own_below R1 (bnext (alloc_below w2 (.cells #[.int .i64 0, .int .i64 p1, .slice B1 j1 d1, .int .i64 s1] 34)) (bnext hb3 (alloc_below w3 (.cells #[.int .i64 k2, .int .i64 p2, .slice B2 j2 d2, .int .i64 s2] 34))))
        have R2' := own_below R2 (alloc_below w3 (.cells #[.int .i64 k2, .int .i64 p2, .slice B2 j2 d2, .int .i64 s2] 34))
        go_wp2_with (first | (go_at_call 29; refine (begins_any R1' R2' x2 y2 q2).mono ?_; rintro e w4 ⟨rfl, hb4⟩; clear e1 e2 e3 e4 e5; obtain ⟨e1, e2, e3, e4, e5⟩ := out_kept (bnext hb3 (bnext (alloc_below w3 _) hb4)); obtain ⟨f1, f2, f3, f4, f5⟩ := out_kept hb4) | (go_at_call 13; refine (awake_any _).mono ?_; rintro e w5 ⟨rfl, hb5⟩))
        go_ret
        exact ⟨rfl, bnext (bnext (bnext t4 (alloc_below w3 _)) hb4) hb5⟩
      · have qe := q1 (by rw [hk1]; exact hz)
        rw [qe, hk1] at hk2
        rw [qe, hp1] at hp2
        rw [qe, hs1] at hs2
        rw [qe, ho1] at ho2
        subst hk2 hp2 hs2 ho2
        have hz1 : (k1 != 0) = true := by simpa using hz
        clear q1 q2 q3 qe hfu1 hfu2 hk1 hp1 ho1 hs1 hz
        go_enter Try.func9, Try.ntmps9
        go_wp2_with (first | (go_at_call 12; refine hv.mono ?_; rintro e w1 ⟨rfl, hb1⟩; have t1 := bnext hb0 hb1; obtain ⟨e1, e2, e3, e4⟩ := img_kept hb1))
        refine (r1 _ t1).mono ?_
        rintro e w2 ⟨B1, j1, d1, rfl, ⟨u1, R1, _⟩, x1, y1, z1, hb2⟩
        have t2 := bnext t1 hb2
        have t3 := bnext t2 (alloc_below w2 (.cells #[.int .i64 k1, .int .i64 p1, .slice B1 j1 d1, .int .i64 s1] 34))
        have tb2 := bnext hb1 hb2
        clear e1 e2 e3 e4
        obtain ⟨e1, e2, e3, e4⟩ := img_kept tb2
        go_wp2_with (fail)
        refine (r2 _ t3).mono ?_
        rintro e w3 ⟨B2, j2, d2, rfl, ⟨u2, R2, _⟩, x2, y2, z2, hb3⟩
        have t4 := bnext t3 hb3
        clear e1 e2 e3 e4
        obtain ⟨e1, e2, e3, e4, e5⟩ := out_kept hb3
        have R1' := own_reads (own_below R1 (bnext (alloc_below w2 (.cells #[.int .i64 k1, .int .i64 p1, .slice B1 j1 d1, .int .i64 s1] 34)) (bnext hb3 (alloc_below w3 (.cells #[.int .i64 k1, .int .i64 p1, .slice B2 j2 d2, .int .i64 s1] 34)))))
        have R2' := own_reads (own_below R2 (alloc_below w3 (.cells #[.int .i64 k1, .int .i64 p1, .slice B2 j2 d2, .int .i64 s1] 34)))
        go_wp2_with (first | (go_at_call 22; refine (same_any R1' R2' x1 x2 (by omega) (by omega) rfl rfl rfl rfl).mono ?_; rintro e w4 ⟨rfl, hb4⟩) | (go_at_call 13; refine (awake_any _).mono ?_; rintro e w5 ⟨rfl, hb5⟩))
        go_ret
        exact ⟨rfl, bnext (bnext (bnext t4 (alloc_below w3 _)) hb4) hb5⟩
end Go.Proofs.Ytbchiolgbhckhaa.Mach
