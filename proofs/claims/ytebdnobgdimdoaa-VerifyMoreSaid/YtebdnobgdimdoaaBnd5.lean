/- bounds: what is done with bounds, more operations. -/
import Derived.Test.YtebdnobgdimdoaaBnd4
set_option linter.unusedVariables false
set_option linter.unusedSimpArgs false
namespace Go.Proofs.Ytebdnobgdimdoaa
open Go.RowKit
attribute [local go_sem] max2_nat min2_nat bmax_two bmin_two

set_option maxHeartbeats 1000000 in
theorem rule3 (l1 h1 l2 h2 : Nat) (w : World) (hl1 : l1 ≤ h1) (hh1 : h1 < 4294967296) (hl2 : l2 ≤ h2) (hh2 : h2 < 4294967296) :
    Calls Try.prog 116 #[.agg #[.int .u64 l1, .int .u64 h1], .agg #[.int .u64 l2, .int .u64 h2]] w fun e w' => e = .returned (.agg #[.int .u64 (aluS 3 l1 h1 l2 h2).1, .int .u64 (aluS 3 l1 h1 l2 h2).2]) ∧ Bel w w' := by
  have HB := Bel.refl w
  have E : aluS 3 l1 h1 l2 h2 = fitS (l1 * l2) (h1 * h2) := rfl
  rw [E]
  clear E
  have p1 := nmul_le hl1 hl2 hh1 hh2
  have p2 := nmul_le (Nat.le_refl h1) (Nat.le_refl h2) hh1 hh2
  have p3 : (l1 : Int) * (l2 : Int) ≤ 18446744065119617025 := by have := Int.natCast_mul l1 l2; omega
  have p4 : (0 : Int) ≤ (l1 : Int) * (l2 : Int) := by have := Int.natCast_mul l1 l2; omega
  have p5 : (h1 : Int) * (h2 : Int) ≤ 18446744065119617025 := by have := Int.natCast_mul h1 h2; omega
  have p6 : (0 : Int) ≤ (h1 : Int) * (h2 : Int) := by have := Int.natCast_mul h1 h2; omega
  clear p1 p2
  have HB := ((HB.alloc (.cells #[.int .u64 l1, .int .u64 h1] 153)).alloc (.cells #[.int .u64 l2, .int .u64 h2] 153))
  go_enter Try.func116, Try.ntmps116
  go_wp2_with (first | (go_at_call 96; refine (fit_at (l1 * l2) (h1 * h2) _ _ _ (by rw [Int.natCast_mul]) (by rw [Int.natCast_mul]) (Nat.le_trans (nmul_le hl1 hl2 hh1 hh2) (by decide)) (Nat.le_trans (nmul_le (Nat.le_refl _) (Nat.le_refl _) hh1 hh2) (by decide))).mono ?_; rintro e w1 ⟨rfl, hb1⟩; have HB := (HB.alloc _).trans hb1; obtain ⟨hc1, hf1, hs1⟩ := bcell hb1))
  refine bodyPost_ret (v := .agg #[.int .u64 (((fitS (l1 * l2) (h1 * h2)).1 : Nat) : Int), .int .u64 (((fitS (l1 * l2) (h1 * h2)).2 : Nat) : Int)]) ?_ rfl ⟨rfl, by repeat (first | (with_reducible exact HB) | (with_reducible refine Bel.setCell ?_ (by first | (simp; done) | (simp; omega)) _) | apply Bel.alloc | apply Bel.drewN)⟩
  simp [results, Try.results116, go_sem, hc1, hf1]

set_option maxHeartbeats 1000000 in
theorem rule2 (l1 h1 l2 h2 : Nat) (w : World) (hl1 : l1 ≤ h1) (hh1 : h1 < 4294967296) (hl2 : l2 ≤ h2) (hh2 : h2 < 4294967296) :
    Calls Try.prog 115 #[.agg #[.int .u64 l1, .int .u64 h1], .agg #[.int .u64 l2, .int .u64 h2]] w fun e w' => e = .returned (.agg #[.int .u64 (aluS 2 l1 h1 l2 h2).1, .int .u64 (aluS 2 l1 h1 l2 h2).2]) ∧ Bel w w' := by
  have HB := Bel.refl w
  by_cases c : l1 < h2
  · have c' : (l1 : Int) < (h2 : Int) := by omega
    have E : aluS 2 l1 h1 l2 h2 = (0, 4294967295) := if_pos c
    rw [E]
    clear E
    clear c
    have HB := ((HB.alloc (.cells #[.int .u64 l1, .int .u64 h1] 153)).alloc (.cells #[.int .u64 l2, .int .u64 h2] 153))
    go_enter Try.func115, Try.ntmps115
    go_wp2_with (first | (go_at_call 96; refine (fit_at 1 0 _ _ _ (by rfl) (by rfl) (by omega) (by omega)).mono ?_; rintro e w1 ⟨rfl, hb1⟩; have HB := (HB.alloc _).trans hb1; obtain ⟨hc1, hf1, hs1⟩ := bcell hb1))
    refine bodyPost_ret (v := .agg #[.int .u64 (((fitS 1 0).1 : Nat) : Int), .int .u64 (((fitS 1 0).2 : Nat) : Int)]) ?_ rfl ⟨rfl, by repeat (first | (with_reducible exact HB) | (with_reducible refine Bel.setCell ?_ (by first | (simp; done) | (simp; omega)) _) | apply Bel.alloc | apply Bel.drewN)⟩
    simp [results, Try.results115, go_sem, hc1, hf1]
  · have c' : ¬ (l1 : Int) < (h2 : Int) := by omega
    have n1 : (l1 : Int) - (h2 : Int) = ((l1 - h2 : Nat) : Int) := nsub (by omega)
    have n2 : (h1 : Int) - (l2 : Int) = ((h1 - l2 : Nat) : Int) := nsub (by omega)
    have E : aluS 2 l1 h1 l2 h2 = (l1 - h2, h1 - l2) := if_neg c
    rw [E]
    clear E
    clear c
    go_enter Try.func115, Try.ntmps115
    go_wp2
    refine bodyPost_ret (v := .agg #[.int .u64 ((l1 - h2 : Nat) : Int), .int .u64 ((h1 - l2 : Nat) : Int)]) ?_ rfl ⟨rfl, by repeat (first | (with_reducible exact HB) | apply Bel.alloc | apply Bel.drewN)⟩
    simp [results, Try.results115, go_sem]

set_option maxHeartbeats 1000000 in
theorem rule4 (l1 h1 l2 h2 : Nat) (w : World) (hl1 : l1 ≤ h1) (hh1 : h1 < 4294967296) (hl2 : l2 ≤ h2) (hh2 : h2 < 4294967296) :
    Calls Try.prog 117 #[.agg #[.int .u64 l1, .int .u64 h1], .agg #[.int .u64 l2, .int .u64 h2]] w fun e w' => e = .returned (.agg #[.int .u64 (aluS 4 l1 h1 l2 h2).1, .int .u64 (aluS 4 l1 h1 l2 h2).2]) ∧ Bel w w' := by
  have HB := Bel.refl w
  by_cases c : l2 = 0
  · subst c
    have E : aluS 4 l1 h1 0 h2 = (0, h1) := by simp [aluS]
    rw [E]
    clear E
    go_enter Try.func117, Try.ntmps117
    go_wp2
    refine bodyPost_ret (v := .agg #[.int .u64 ((0 : Nat) : Int), .int .u64 ((h1 : Nat) : Int)]) ?_ rfl ⟨rfl, by repeat (first | (with_reducible exact HB) | apply Bel.alloc | apply Bel.drewN)⟩
    simp [results, Try.results117, go_sem]
  · have c' : ((l2 : Int) == 0) = false := by simp [c]
    have p1 : (0 : Int) < (l2 : Int) := by omega
    have p2 : (0 : Int) < (h2 : Int) := by omega
    have q1 : ¬ h2 = 0 := by omega
    have q2 : ¬ l2 = 0 := by omega
    have q3 : ((h2 : Int) == 0) = false := by simp [q1]
    have n8 : IntKind.u64.wrap ((l1 : Int) / (h2 : Int)) = (l1 : Int) / (h2 : Int) := wrap_div (by omega)
    have n9 : IntKind.u64.wrap ((h1 : Int) / (l2 : Int)) = (h1 : Int) / (l2 : Int) := wrap_div hh1
    have E : aluS 4 l1 h1 l2 h2 = (l1 / h2, h1 / l2) := if_neg c
    rw [E]
    clear E
    clear c
    go_enter Try.func117, Try.ntmps117
    go_wp2
    go_region_held3 (fun w' => w'.cell? ⟨w.heap.size, 0, none⟩ = some (.int .u64 l1) ∧ w'.cell? ⟨w.heap.size, 1, none⟩ = some (.int .u64 h1) ∧ w'.cell? ⟨w.heap.size + 1, 0, none⟩ = some (.int .u64 l2) ∧ w'.cell? ⟨w.heap.size + 1, 1, none⟩ = some (.int .u64 h2)) (go_keep) (first | fail)
    all_goals go_wp2
    all_goals (refine bodyPost_ret (v := .agg #[.int .u64 ((l1 / h2 : Nat) : Int), .int .u64 ((h1 / l2 : Nat) : Int)]) ?_ rfl ⟨rfl, by repeat (first | (with_reducible exact HB) | apply Bel.alloc | apply Bel.drew | apply Bel.drewN)⟩)
    all_goals (simp [results, Try.results117, go_sem, *])

set_option maxHeartbeats 1000000 in
theorem rule5 (l1 h1 l2 h2 : Nat) (w : World) (hl1 : l1 ≤ h1) (hh1 : h1 < 4294967296) (hl2 : l2 ≤ h2) (hh2 : h2 < 4294967296) :
    Calls Try.prog 118 #[.agg #[.int .u64 l1, .int .u64 h1], .agg #[.int .u64 l2, .int .u64 h2]] w fun e w' => e = .returned (.agg #[.int .u64 (aluS 5 l1 h1 l2 h2).1, .int .u64 (aluS 5 l1 h1 l2 h2).2]) ∧ Bel w w' := by
  have HB := Bel.refl w
  by_cases c : h1 < l2
  · have c' : (h1 : Int) < (l2 : Int) := by omega
    have E : aluS 5 l1 h1 l2 h2 = (l1, h1) := if_pos c
    rw [E]
    clear E
    clear c
    go_enter Try.func118, Try.ntmps118
    go_wp2
    refine bodyPost_ret (v := .agg #[.int .u64 ((l1 : Nat) : Int), .int .u64 ((h1 : Nat) : Int)]) ?_ rfl ⟨rfl, by repeat (first | (with_reducible exact HB) | apply Bel.alloc | apply Bel.drewN)⟩
    simp [results, Try.results118, go_sem]
  · have c' : ¬ (h1 : Int) < (l2 : Int) := by omega
    by_cases d : l2 = 0
    · subst d
      have E : aluS 5 l1 h1 0 h2 = (0, h1) := by simp [aluS]
      rw [E]
      clear E
      clear c
      go_enter Try.func118, Try.ntmps118
      go_wp2
      refine bodyPost_ret (v := .agg #[.int .u64 ((0 : Nat) : Int), .int .u64 ((h1 : Nat) : Int)]) ?_ rfl ⟨rfl, by repeat (first | (with_reducible exact HB) | apply Bel.alloc | apply Bel.drewN)⟩
      simp [results, Try.results118, go_sem]
    · have d' : ((l2 : Int) == 0) = false := by simp [d]
      have n1 : (h2 : Int) - 1 = ((h2 - 1 : Nat) : Int) := by omega
      have E : aluS 5 l1 h1 l2 h2 = (0, nmin h1 (h2 - 1)) := by simp [aluS, c, d]
      rw [E]
      clear E
      clear c d
      go_enter Try.func118, Try.ntmps118
      go_wp2
      refine bodyPost_ret (v := .agg #[.int .u64 ((0 : Nat) : Int), .int .u64 ((nmin h1 (h2 - 1) : Nat) : Int)]) ?_ rfl ⟨rfl, by repeat (first | (with_reducible exact HB) | apply Bel.alloc | apply Bel.drewN)⟩
      simp [results, Try.results118, go_sem]

set_option maxHeartbeats 1000000 in
theorem rule7 (l1 h1 l2 h2 : Nat) (w : World) (hl1 : l1 ≤ h1) (hh1 : h1 < 4294967296) (hl2 : l2 ≤ h2) (hh2 : h2 < 4294967296) :
    Calls Try.prog 120 #[.agg #[.int .u64 l1, .int .u64 h1], .agg #[.int .u64 l2, .int .u64 h2]] w fun e w' => e = .returned (.agg #[.int .u64 (aluS 7 l1 h1 l2 h2).1, .int .u64 (aluS 7 l1 h1 l2 h2).2]) ∧ Bel w w' := by
  have HB := Bel.refl w
  have E : aluS 7 l1 h1 l2 h2 = (nmax l1 l2, powS h1 h2 - 1) := rfl
  rw [E]
  clear E
  have n1 : ((powS h1 h2 : Nat) : Int) - 1 = ((powS h1 h2 - 1 : Nat) : Int) := by have := powS_one h1 h2; omega
  have n2 := powS_one h1 h2
  have n9 : IntKind.u64.wrap ((powS h1 h2 - 1 : Nat) : Int) = ((powS h1 h2 - 1 : Nat) : Int) := by have := powS_le hh1 hh2; simp only [IntKind.wrap]; simp [go_sem]; omega
  have n3 := powS_le hh1 hh2
  go_enter Try.func120, Try.ntmps120
  go_wp2
  go_region_held3 (fun w' => w'.cell? ⟨w.heap.size, 0, none⟩ = some (.int .u64 l1) ∧ w'.cell? ⟨w.heap.size, 1, none⟩ = some (.int .u64 h1) ∧ w'.cell? ⟨w.heap.size + 1, 0, none⟩ = some (.int .u64 l2) ∧ w'.cell? ⟨w.heap.size + 1, 1, none⟩ = some (.int .u64 h2)) (go_keep) (first | (go_at_call 121; refine (power_loop _ _ _ (by omega) (by omega)).mono ?_; rintro e w1 ⟨rfl, rfl⟩))
  all_goals go_wp2
  all_goals (refine bodyPost_ret (v := .agg #[.int .u64 ((nmax l1 l2 : Nat) : Int), .int .u64 ((powS h1 h2 - 1 : Nat) : Int)]) ?_ rfl ⟨rfl, by repeat (first | (with_reducible exact HB) | apply Bel.alloc | apply Bel.drew | apply Bel.drewN)⟩)
  all_goals (simp [results, Try.results120, go_sem, *])

set_option maxHeartbeats 1000000 in
theorem rule8 (l1 h1 l2 h2 : Nat) (w : World) (hl1 : l1 ≤ h1) (hh1 : h1 < 4294967296) (hl2 : l2 ≤ h2) (hh2 : h2 < 4294967296) :
    Calls Try.prog 122 #[.agg #[.int .u64 l1, .int .u64 h1], .agg #[.int .u64 l2, .int .u64 h2]] w fun e w' => e = .returned (.agg #[.int .u64 (aluS 8 l1 h1 l2 h2).1, .int .u64 (aluS 8 l1 h1 l2 h2).2]) ∧ Bel w w' := by
  have HB := Bel.refl w
  have E : aluS 8 l1 h1 l2 h2 = (0, powS h1 h2 - 1) := rfl
  rw [E]
  clear E
  have n1 : ((powS h1 h2 : Nat) : Int) - 1 = ((powS h1 h2 - 1 : Nat) : Int) := by have := powS_one h1 h2; omega
  have n2 := powS_one h1 h2
  have n9 : IntKind.u64.wrap ((powS h1 h2 - 1 : Nat) : Int) = ((powS h1 h2 - 1 : Nat) : Int) := by have := powS_le hh1 hh2; simp only [IntKind.wrap]; simp [go_sem]; omega
  have n3 := powS_le hh1 hh2
  go_enter Try.func122, Try.ntmps122
  go_wp2_with (first | (go_at_call 121; refine (power_loop _ _ _ (by omega) (by omega)).mono ?_; rintro e w1 ⟨rfl, rfl⟩))
  refine bodyPost_ret (v := .agg #[.int .u64 ((0 : Nat) : Int), .int .u64 ((powS h1 h2 - 1 : Nat) : Int)]) ?_ rfl ⟨rfl, by repeat (first | (with_reducible exact HB) | apply Bel.alloc | apply Bel.drewN)⟩
  simp [results, Try.results122, go_sem]

set_option maxHeartbeats 1000000 in
theorem rule9 (l1 h1 l2 h2 : Nat) (w : World) (hl1 : l1 ≤ h1) (hh1 : h1 < 4294967296) (hl2 : l2 ≤ h2) (hh2 : h2 < 4294967296) :
    Calls Try.prog 123 #[.agg #[.int .u64 l1, .int .u64 h1], .agg #[.int .u64 l2, .int .u64 h2]] w fun e w' => e = .returned (.agg #[.int .u64 (aluS 9 l1 h1 l2 h2).1, .int .u64 (aluS 9 l1 h1 l2 h2).2]) ∧ Bel w w' := by
  have HB := Bel.refl w
  by_cases c : l2 = h2
  · subst c
    have E : aluS 9 l1 h1 l2 l2 = fitS (l1 * 2 ^ (l2 % 32)) (h1 * 2 ^ (l2 % 32)) := if_pos rfl
    rw [E]
    clear E
    have HB := ((HB.alloc (.cells #[.int .u64 l1, .int .u64 h1] 153)).alloc (.cells #[.int .u64 l2, .int .u64 l2] 153))
    go_enter Try.func123, Try.ntmps123
    go_wp2_with (first | (go_at_call 96; refine (fit_at (l1 * 2 ^ (l2 % 32)) (h1 * 2 ^ (l2 % 32)) _ _ _ (shl_eq (by omega)) (shl_eq (by omega)) (Nat.le_trans (shl_le (by omega)) (by decide)) (Nat.le_trans (shl_le (by omega)) (by decide))).mono ?_; rintro e w1 ⟨rfl, hb1⟩; have HB := (HB.alloc _).trans hb1; obtain ⟨hc1, hf1, hs1⟩ := bcell hb1))
    refine bodyPost_ret (v := .agg #[.int .u64 (((fitS (l1 * 2 ^ (l2 % 32)) (h1 * 2 ^ (l2 % 32))).1 : Nat) : Int), .int .u64 (((fitS (l1 * 2 ^ (l2 % 32)) (h1 * 2 ^ (l2 % 32))).2 : Nat) : Int)]) ?_ rfl ⟨rfl, by repeat (first | (with_reducible exact HB) | (with_reducible refine Bel.setCell ?_ (by first | (simp; done) | (simp; omega)) _) | apply Bel.alloc | apply Bel.drewN)⟩
    simp [results, Try.results123, go_sem, hc1, hf1]
  · have c' : ((l2 : Int) != (h2 : Int)) = true := by rw [bne_iff_ne]; omega
    have E : aluS 9 l1 h1 l2 h2 = (0, 4294967295) := if_neg c
    rw [E]
    clear E
    clear c
    have HB := ((HB.alloc (.cells #[.int .u64 l1, .int .u64 h1] 153)).alloc (.cells #[.int .u64 l2, .int .u64 h2] 153))
    go_enter Try.func123, Try.ntmps123
    go_wp2_with (first | (go_at_call 96; refine (fit_at 1 0 _ _ _ (by rfl) (by rfl) (by omega) (by omega)).mono ?_; rintro e w1 ⟨rfl, hb1⟩; have HB := (HB.alloc _).trans hb1; obtain ⟨hc1, hf1, hs1⟩ := bcell hb1))
    refine bodyPost_ret (v := .agg #[.int .u64 (((fitS 1 0).1 : Nat) : Int), .int .u64 (((fitS 1 0).2 : Nat) : Int)]) ?_ rfl ⟨rfl, by repeat (first | (with_reducible exact HB) | (with_reducible refine Bel.setCell ?_ (by first | (simp; done) | (simp; omega)) _) | apply Bel.alloc | apply Bel.drewN)⟩
    simp [results, Try.results123, go_sem, hc1, hf1]

set_option maxHeartbeats 1000000 in
theorem rule10 (l1 h1 l2 h2 : Nat) (w : World) (hl1 : l1 ≤ h1) (hh1 : h1 < 4294967296) (hl2 : l2 ≤ h2) (hh2 : h2 < 4294967296) :
    Calls Try.prog 124 #[.agg #[.int .u64 l1, .int .u64 h1], .agg #[.int .u64 l2, .int .u64 h2]] w fun e w' => e = .returned (.agg #[.int .u64 (aluS 10 l1 h1 l2 h2).1, .int .u64 (aluS 10 l1 h1 l2 h2).2]) ∧ Bel w w' := by
  have HB := Bel.refl w
  by_cases c : l2 = h2
  · subst c
    have n1 := shr_eq l1 l2
    have n2 := shr_eq h1 l2
    have E : aluS 10 l1 h1 l2 l2 = (l1 / 2 ^ (l2 % 32), h1 / 2 ^ (l2 % 32)) := if_pos rfl
    rw [E]
    clear E
    go_enter Try.func124, Try.ntmps124
    go_wp2
    refine bodyPost_ret (v := .agg #[.int .u64 ((l1 / 2 ^ (l2 % 32) : Nat) : Int), .int .u64 ((h1 / 2 ^ (l2 % 32) : Nat) : Int)]) ?_ rfl ⟨rfl, by repeat (first | (with_reducible exact HB) | apply Bel.alloc | apply Bel.drewN)⟩
    simp [results, Try.results124, go_sem]
  · have c' : ((l2 : Int) != (h2 : Int)) = true := by rw [bne_iff_ne]; omega
    have E : aluS 10 l1 h1 l2 h2 = (0, h1) := if_neg c
    rw [E]
    clear E
    clear c
    go_enter Try.func124, Try.ntmps124
    go_wp2
    refine bodyPost_ret (v := .agg #[.int .u64 ((0 : Nat) : Int), .int .u64 ((h1 : Nat) : Int)]) ?_ rfl ⟨rfl, by repeat (first | (with_reducible exact HB) | apply Bel.alloc | apply Bel.drewN)⟩
    simp [results, Try.results124, go_sem]
end Go.Proofs.Ytebdnobgdimdoaa
