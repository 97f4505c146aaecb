/- bounds.Alu and bounds.Cut by their contracts. -/
import Derived.Test.YtebdnobgdimdoaaGreatGD
set_option linter.unusedVariables false
set_option linter.unusedSimpArgs false
namespace Go.Proofs.YtebdnobgdimdoaaGreat
open Go.RowKit
attribute [local go_sem] max2_nat min2_nat bmax_two bmin_two
theorem Bel.of_alloc {w w1 : World} {o : Obj} (h : w.alloc o = w1) : Bel w w1 := h ▸ (Bel.refl w).alloc o
theorem brulesB (w : World) : Calls Tryz.prog 153 #[] w fun e w' => e = .returned (.agg brulesV) ∧ Bel w w' := (brules_any w).mono fun _ _ ⟨h, k⟩ => ⟨h, Bel.of_alloc k⟩
theorem ofB (l h : Nat) (w : World) (hl : l ≤ h) (hh : h < 4294967296) : Calls Tryz.prog 91 #[.complex .f64 (fl l) (fl h)] w fun e w' => e = .returned (.agg #[.int .u64 l, .int .u64 h]) ∧ Bel w w' := (of_any l h w hl hh).mono fun _ _ ⟨h, k⟩ => ⟨h, Bel.of_alloc k⟩
set_option maxHeartbeats 400000 in
theorem balu_out (op : Int) (l1 h1 l2 h2 : Nat) (w : World) (h : op < 0 ∨ 11 ≤ op) :
    Calls Tryz.prog 126 #[.int .i64 op, .complex .f64 (fl l1) (fl h1), .complex .f64 (fl l2) (fl h2)] w fun e w' => e = .returned (.complex .f64 (fl 0) (fl 4294967295)) ∧ Bel w w' := by
  have HB := Bel.refl w
  by_cases c : op < 0
  · go_enter Tryz.func126, Tryz.ntmps126
    go_wp2_with (first | (go_at_call 152; refine (fit_at 1 0 _ _ _ (by rfl) (by rfl) (by omega) (by omega)).mono ?_; rintro e w1 ⟨rfl, hb1⟩) | (go_at_call 148; refine (told_any 0 4294967295 _).mono ?_; rintro e w2 ⟨rfl, hb2⟩))
    go_ret
    exact ⟨by simp, HB.trans (hb1.trans hb2)⟩
  · have c2 : 11 ≤ op := by omega
    go_enter Tryz.func126, Tryz.ntmps126
    go_wp2_with (first | (go_at_call 152; refine (fit_at 1 0 _ _ _ (by rfl) (by rfl) (by omega) (by omega)).mono ?_; rintro e w1 ⟨rfl, hb1⟩) | (go_at_call 148; refine (told_any 0 4294967295 _).mono ?_; rintro e w2 ⟨rfl, hb2⟩))
    go_ret
    exact ⟨by simp, HB.trans (hb1.trans hb2)⟩
theorem bidx0 : ∀ w, (Instr.index 229 (.agg brulesV) (.int .i64 0)).run Tryz.prog w = .ok (Value.func (Fn.func 154) #[] #[]) w := fun _ => by kernel_rfl
set_option maxHeartbeats 1000000 in
theorem balu_0 (l1 h1 l2 h2 : Nat) (w : World) (hl1 : l1 ≤ h1) (hh1 : h1 < 4294967296) (hl2 : l2 ≤ h2) (hh2 : h2 < 4294967296) :
    Calls Tryz.prog 126 #[.int .i64 0, .complex .f64 (fl l1) (fl h1), .complex .f64 (fl l2) (fl h2)] w fun e w' => e = .returned (.complex .f64 (fl (aluS 0 l1 h1 l2 h2).1) (fl (aluS 0 l1 h1 l2 h2).2)) ∧ Bel w w' := by
  have HB := Bel.refl w
  have i1 := bidx0
  generalize EA : aluS 0 l1 h1 l2 h2 = A
  go_enter Tryz.func126, Tryz.ntmps126
  go_wp2
  go_region_held3 (fun w' => Bel w w') (first | (with_reducible assumption) | (with_reducible refine Bel.trans ?_ hb1; with_reducible assumption) | (with_reducible refine Bel.drew ?_; first | (with_reducible assumption) | (with_reducible refine Bel.trans ?_ hb1; with_reducible assumption))) (first | (go_at_call 153; refine (brulesB _).mono ?_; rintro e w1 ⟨rfl, hb1⟩) | (go_at_call 91; refine (ofB _ _ _ (by with_reducible assumption) (by with_reducible assumption)).mono ?_; rintro e w1 ⟨rfl, hb1⟩) | (go_at_call 154; refine (rule0 l1 h1 l2 h2 _ hl1 hh1 hl2 hh2).mono ?_; rw [EA]; rintro e w1 ⟨rfl, hb1⟩) | (go_at_call 148; refine (told_any A.1 A.2 _).mono ?_; rintro e w1 ⟨rfl, hb1⟩))
  all_goals go_wp2
  all_goals (refine bodyPost_ret (v := .complex .f64 (fl A.1) (fl A.2)) ?_ rfl ⟨rfl, by with_reducible assumption⟩)
  all_goals (simp [results, Tryz.results126, go_sem])
theorem bidx1 : ∀ w, (Instr.index 229 (.agg brulesV) (.int .i64 1)).run Tryz.prog w = .ok (Value.func (Fn.func 155) #[] #[]) w := fun _ => by kernel_rfl
set_option maxHeartbeats 1000000 in
theorem balu_1 (l1 h1 l2 h2 : Nat) (w : World) (hl1 : l1 ≤ h1) (hh1 : h1 < 4294967296) (hl2 : l2 ≤ h2) (hh2 : h2 < 4294967296) :
    Calls Tryz.prog 126 #[.int .i64 1, .complex .f64 (fl l1) (fl h1), .complex .f64 (fl l2) (fl h2)] w fun e w' => e = .returned (.complex .f64 (fl (aluS 1 l1 h1 l2 h2).1) (fl (aluS 1 l1 h1 l2 h2).2)) ∧ Bel w w' := by
  have HB := Bel.refl w
  have i1 := bidx1
  generalize EA : aluS 1 l1 h1 l2 h2 = A
  go_enter Tryz.func126, Tryz.ntmps126
  go_wp2
  go_region_held3 (fun w' => Bel w w') (first | (with_reducible assumption) | (with_reducible refine Bel.trans ?_ hb1; with_reducible assumption) | (with_reducible refine Bel.drew ?_; first | (with_reducible assumption) | (with_reducible refine Bel.trans ?_ hb1; with_reducible assumption))) (first | (go_at_call 153; refine (brulesB _).mono ?_; rintro e w1 ⟨rfl, hb1⟩) | (go_at_call 91; refine (ofB _ _ _ (by with_reducible assumption) (by with_reducible assumption)).mono ?_; rintro e w1 ⟨rfl, hb1⟩) | (go_at_call 155; refine (rule1 l1 h1 l2 h2 _ hl1 hh1 hl2 hh2).mono ?_; rw [EA]; rintro e w1 ⟨rfl, hb1⟩) | (go_at_call 148; refine (told_any A.1 A.2 _).mono ?_; rintro e w1 ⟨rfl, hb1⟩))
  all_goals go_wp2
  all_goals (refine bodyPost_ret (v := .complex .f64 (fl A.1) (fl A.2)) ?_ rfl ⟨rfl, by with_reducible assumption⟩)
  all_goals (simp [results, Tryz.results126, go_sem])
theorem bidx2 : ∀ w, (Instr.index 229 (.agg brulesV) (.int .i64 2)).run Tryz.prog w = .ok (Value.func (Fn.func 156) #[] #[]) w := fun _ => by kernel_rfl
set_option maxHeartbeats 1000000 in
theorem balu_2 (l1 h1 l2 h2 : Nat) (w : World) (hl1 : l1 ≤ h1) (hh1 : h1 < 4294967296) (hl2 : l2 ≤ h2) (hh2 : h2 < 4294967296) :
    Calls Tryz.prog 126 #[.int .i64 2, .complex .f64 (fl l1) (fl h1), .complex .f64 (fl l2) (fl h2)] w fun e w' => e = .returned (.complex .f64 (fl (aluS 2 l1 h1 l2 h2).1) (fl (aluS 2 l1 h1 l2 h2).2)) ∧ Bel w w' := by
  have HB := Bel.refl w
  have i1 := bidx2
  generalize EA : aluS 2 l1 h1 l2 h2 = A
  go_enter Tryz.func126, Tryz.ntmps126
  go_wp2
  go_region_held3 (fun w' => Bel w w') (first | (with_reducible assumption) | (with_reducible refine Bel.trans ?_ hb1; with_reducible assumption) | (with_reducible refine Bel.drew ?_; first | (with_reducible assumption) | (with_reducible refine Bel.trans ?_ hb1; with_reducible assumption))) (first | (go_at_call 153; refine (brulesB _).mono ?_; rintro e w1 ⟨rfl, hb1⟩) | (go_at_call 91; refine (ofB _ _ _ (by with_reducible assumption) (by with_reducible assumption)).mono ?_; rintro e w1 ⟨rfl, hb1⟩) | (go_at_call 156; refine (rule2 l1 h1 l2 h2 _ hl1 hh1 hl2 hh2).mono ?_; rw [EA]; rintro e w1 ⟨rfl, hb1⟩) | (go_at_call 148; refine (told_any A.1 A.2 _).mono ?_; rintro e w1 ⟨rfl, hb1⟩))
  all_goals go_wp2
  all_goals (refine bodyPost_ret (v := .complex .f64 (fl A.1) (fl A.2)) ?_ rfl ⟨rfl, by with_reducible assumption⟩)
  all_goals (simp [results, Tryz.results126, go_sem])
theorem bidx3 : ∀ w, (Instr.index 229 (.agg brulesV) (.int .i64 3)).run Tryz.prog w = .ok (Value.func (Fn.func 157) #[] #[]) w := fun _ => by kernel_rfl
set_option maxHeartbeats 1000000 in
theorem balu_3 (l1 h1 l2 h2 : Nat) (w : World) (hl1 : l1 ≤ h1) (hh1 : h1 < 4294967296) (hl2 : l2 ≤ h2) (hh2 : h2 < 4294967296) :
    Calls Tryz.prog 126 #[.int .i64 3, .complex .f64 (fl l1) (fl h1), .complex .f64 (fl l2) (fl h2)] w fun e w' => e = .returned (.complex .f64 (fl (aluS 3 l1 h1 l2 h2).1) (fl (aluS 3 l1 h1 l2 h2).2)) ∧ Bel w w' := by
  have HB := Bel.refl w
  have i1 := bidx3
  generalize EA : aluS 3 l1 h1 l2 h2 = A
  go_enter Tryz.func126, Tryz.ntmps126
  go_wp2
  go_region_held3 (fun w' => Bel w w') (first | (with_reducible assumption) | (with_reducible refine Bel.trans ?_ hb1; with_reducible assumption) | (with_reducible refine Bel.drew ?_; first | (with_reducible assumption) | (with_reducible refine Bel.trans ?_ hb1; with_reducible assumption))) (first | (go_at_call 153; refine (brulesB _).mono ?_; rintro e w1 ⟨rfl, hb1⟩) | (go_at_call 91; refine (ofB _ _ _ (by with_reducible assumption) (by with_reducible assumption)).mono ?_; rintro e w1 ⟨rfl, hb1⟩) | (go_at_call 157; refine (rule3 l1 h1 l2 h2 _ hl1 hh1 hl2 hh2).mono ?_; rw [EA]; rintro e w1 ⟨rfl, hb1⟩) | (go_at_call 148; refine (told_any A.1 A.2 _).mono ?_; rintro e w1 ⟨rfl, hb1⟩))
  all_goals go_wp2
  all_goals (refine bodyPost_ret (v := .complex .f64 (fl A.1) (fl A.2)) ?_ rfl ⟨rfl, by with_reducible assumption⟩)
  all_goals (simp [results, Tryz.results126, go_sem])
theorem bidx4 : ∀ w, (Instr.index 229 (.agg brulesV) (.int .i64 4)).run Tryz.prog w = .ok (Value.func (Fn.func 158) #[] #[]) w := fun _ => by kernel_rfl
set_option maxHeartbeats 1000000 in
theorem balu_4 (l1 h1 l2 h2 : Nat) (w : World) (hl1 : l1 ≤ h1) (hh1 : h1 < 4294967296) (hl2 : l2 ≤ h2) (hh2 : h2 < 4294967296) :
    Calls Tryz.prog 126 #[.int .i64 4, .complex .f64 (fl l1) (fl h1), .complex .f64 (fl l2) (fl h2)] w fun e w' => e = .returned (.complex .f64 (fl (aluS 4 l1 h1 l2 h2).1) (fl (aluS 4 l1 h1 l2 h2).2)) ∧ Bel w w' := by
  have HB := Bel.refl w
  have i1 := bidx4
  generalize EA : aluS 4 l1 h1 l2 h2 = A
  go_enter Tryz.func126, Tryz.ntmps126
  go_wp2
  go_region_held3 (fun w' => Bel w w') (first | (with_reducible assumption) | (with_reducible refine Bel.trans ?_ hb1; with_reducible assumption) | (with_reducible refine Bel.drew ?_; first | (with_reducible assumption) | (with_reducible refine Bel.trans ?_ hb1; with_reducible assumption))) (first | (go_at_call 153; refine (brulesB _).mono ?_; rintro e w1 ⟨rfl, hb1⟩) | (go_at_call 91; refine (ofB _ _ _ (by with_reducible assumption) (by with_reducible assumption)).mono ?_; rintro e w1 ⟨rfl, hb1⟩) | (go_at_call 158; refine (rule4 l1 h1 l2 h2 _ hl1 hh1 hl2 hh2).mono ?_; rw [EA]; rintro e w1 ⟨rfl, hb1⟩) | (go_at_call 148; refine (told_any A.1 A.2 _).mono ?_; rintro e w1 ⟨rfl, hb1⟩))
  all_goals go_wp2
  all_goals (refine bodyPost_ret (v := .complex .f64 (fl A.1) (fl A.2)) ?_ rfl ⟨rfl, by with_reducible assumption⟩)
  all_goals (simp [results, Tryz.results126, go_sem])
theorem bidx5 : ∀ w, (Instr.index 229 (.agg brulesV) (.int .i64 5)).run Tryz.prog w = .ok (Value.func (Fn.func 159) #[] #[]) w := fun _ => by kernel_rfl
set_option maxHeartbeats 1000000 in
theorem balu_5 (l1 h1 l2 h2 : Nat) (w : World) (hl1 : l1 ≤ h1) (hh1 : h1 < 4294967296) (hl2 : l2 ≤ h2) (hh2 : h2 < 4294967296) :
    Calls Tryz.prog 126 #[.int .i64 5, .complex .f64 (fl l1) (fl h1), .complex .f64 (fl l2) (fl h2)] w fun e w' => e = .returned (.complex .f64 (fl (aluS 5 l1 h1 l2 h2).1) (fl (aluS 5 l1 h1 l2 h2).2)) ∧ Bel w w' := by
  have HB := Bel.refl w
  have i1 := bidx5
  generalize EA : aluS 5 l1 h1 l2 h2 = A
  go_enter Tryz.func126, Tryz.ntmps126
  go_wp2
  go_region_held3 (fun w' => Bel w w') (first | (with_reducible assumption) | (with_reducible refine Bel.trans ?_ hb1; with_reducible assumption) | (with_reducible refine Bel.drew ?_; first | (with_reducible assumption) | (with_reducible refine Bel.trans ?_ hb1; with_reducible assumption))) (first | (go_at_call 153; refine (brulesB _).mono ?_; rintro e w1 ⟨rfl, hb1⟩) | (go_at_call 91; refine (ofB _ _ _ (by with_reducible assumption) (by with_reducible assumption)).mono ?_; rintro e w1 ⟨rfl, hb1⟩) | (go_at_call 159; refine (rule5 l1 h1 l2 h2 _ hl1 hh1 hl2 hh2).mono ?_; rw [EA]; rintro e w1 ⟨rfl, hb1⟩) | (go_at_call 148; refine (told_any A.1 A.2 _).mono ?_; rintro e w1 ⟨rfl, hb1⟩))
  all_goals go_wp2
  all_goals (refine bodyPost_ret (v := .complex .f64 (fl A.1) (fl A.2)) ?_ rfl ⟨rfl, by with_reducible assumption⟩)
  all_goals (simp [results, Tryz.results126, go_sem])
theorem bidx6 : ∀ w, (Instr.index 229 (.agg brulesV) (.int .i64 6)).run Tryz.prog w = .ok (Value.func (Fn.func 160) #[] #[]) w := fun _ => by kernel_rfl
set_option maxHeartbeats 1000000 in
theorem balu_6 (l1 h1 l2 h2 : Nat) (w : World) (hl1 : l1 ≤ h1) (hh1 : h1 < 4294967296) (hl2 : l2 ≤ h2) (hh2 : h2 < 4294967296) :
    Calls Tryz.prog 126 #[.int .i64 6, .complex .f64 (fl l1) (fl h1), .complex .f64 (fl l2) (fl h2)] w fun e w' => e = .returned (.complex .f64 (fl (aluS 6 l1 h1 l2 h2).1) (fl (aluS 6 l1 h1 l2 h2).2)) ∧ Bel w w' := by
  have HB := Bel.refl w
  have i1 := bidx6
  generalize EA : aluS 6 l1 h1 l2 h2 = A
  go_enter Tryz.func126, Tryz.ntmps126
  go_wp2
  go_region_held3 (fun w' => Bel w w') (first | (with_reducible assumption) | (with_reducible refine Bel.trans ?_ hb1; with_reducible assumption) | (with_reducible refine Bel.drew ?_; first | (with_reducible assumption) | (with_reducible refine Bel.trans ?_ hb1; with_reducible assumption))) (first | (go_at_call 153; refine (brulesB _).mono ?_; rintro e w1 ⟨rfl, hb1⟩) | (go_at_call 91; refine (ofB _ _ _ (by with_reducible assumption) (by with_reducible assumption)).mono ?_; rintro e w1 ⟨rfl, hb1⟩) | (go_at_call 160; refine (rule6 l1 h1 l2 h2 _ hl1 hh1 hl2 hh2).mono ?_; rw [EA]; rintro e w1 ⟨rfl, hb1⟩) | (go_at_call 148; refine (told_any A.1 A.2 _).mono ?_; rintro e w1 ⟨rfl, hb1⟩))
  all_goals go_wp2
  all_goals (refine bodyPost_ret (v := .complex .f64 (fl A.1) (fl A.2)) ?_ rfl ⟨rfl, by with_reducible assumption⟩)
  all_goals (simp [results, Tryz.results126, go_sem])
theorem bidx7 : ∀ w, (Instr.index 229 (.agg brulesV) (.int .i64 7)).run Tryz.prog w = .ok (Value.func (Fn.func 161) #[] #[]) w := fun _ => by kernel_rfl
set_option maxHeartbeats 1000000 in
theorem balu_7 (l1 h1 l2 h2 : Nat) (w : World) (hl1 : l1 ≤ h1) (hh1 : h1 < 4294967296) (hl2 : l2 ≤ h2) (hh2 : h2 < 4294967296) :
    Calls Tryz.prog 126 #[.int .i64 7, .complex .f64 (fl l1) (fl h1), .complex .f64 (fl l2) (fl h2)] w fun e w' => e = .returned (.complex .f64 (fl (aluS 7 l1 h1 l2 h2).1) (fl (aluS 7 l1 h1 l2 h2).2)) ∧ Bel w w' := by
  have HB := Bel.refl w
  have i1 := bidx7
  generalize EA : aluS 7 l1 h1 l2 h2 = A
  go_enter Tryz.func126, Tryz.ntmps126
  go_wp2
  go_region_held3 (fun w' => Bel w w') (first | (with_reducible assumption) | (with_reducible refine Bel.trans ?_ hb1; with_reducible assumption) | (with_reducible refine Bel.drew ?_; first | (with_reducible assumption) | (with_reducible refine Bel.trans ?_ hb1; with_reducible assumption))) (first | (go_at_call 153; refine (brulesB _).mono ?_; rintro e w1 ⟨rfl, hb1⟩) | (go_at_call 91; refine (ofB _ _ _ (by with_reducible assumption) (by with_reducible assumption)).mono ?_; rintro e w1 ⟨rfl, hb1⟩) | (go_at_call 161; refine (rule7 l1 h1 l2 h2 _ hl1 hh1 hl2 hh2).mono ?_; rw [EA]; rintro e w1 ⟨rfl, hb1⟩) | (go_at_call 148; refine (told_any A.1 A.2 _).mono ?_; rintro e w1 ⟨rfl, hb1⟩))
  all_goals go_wp2
  all_goals (refine bodyPost_ret (v := .complex .f64 (fl A.1) (fl A.2)) ?_ rfl ⟨rfl, by with_reducible assumption⟩)
  all_goals (simp [results, Tryz.results126, go_sem])
theorem bidx8 : ∀ w, (Instr.index 229 (.agg brulesV) (.int .i64 8)).run Tryz.prog w = .ok (Value.func (Fn.func 163) #[] #[]) w := fun _ => by kernel_rfl
set_option maxHeartbeats 1000000 in
theorem balu_8 (l1 h1 l2 h2 : Nat) (w : World) (hl1 : l1 ≤ h1) (hh1 : h1 < 4294967296) (hl2 : l2 ≤ h2) (hh2 : h2 < 4294967296) :
    Calls Tryz.prog 126 #[.int .i64 8, .complex .f64 (fl l1) (fl h1), .complex .f64 (fl l2) (fl h2)] w fun e w' => e = .returned (.complex .f64 (fl (aluS 8 l1 h1 l2 h2).1) (fl (aluS 8 l1 h1 l2 h2).2)) ∧ Bel w w' := by
  have HB := Bel.refl w
  have i1 := bidx8
  generalize EA : aluS 8 l1 h1 l2 h2 = A
  go_enter Tryz.func126, Tryz.ntmps126
  go_wp2
  go_region_held3 (fun w' => Bel w w') (first | (with_reducible assumption) | (with_reducible refine Bel.trans ?_ hb1; with_reducible assumption) | (with_reducible refine Bel.drew ?_; first | (with_reducible assumption) | (with_reducible refine Bel.trans ?_ hb1; with_reducible assumption))) (first | (go_at_call 153; refine (brulesB _).mono ?_; rintro e w1 ⟨rfl, hb1⟩) | (go_at_call 91; refine (ofB _ _ _ (by with_reducible assumption) (by with_reducible assumption)).mono ?_; rintro e w1 ⟨rfl, hb1⟩) | (go_at_call 163; refine (rule8 l1 h1 l2 h2 _ hl1 hh1 hl2 hh2).mono ?_; rw [EA]; rintro e w1 ⟨rfl, hb1⟩) | (go_at_call 148; refine (told_any A.1 A.2 _).mono ?_; rintro e w1 ⟨rfl, hb1⟩))
  all_goals go_wp2
  all_goals (refine bodyPost_ret (v := .complex .f64 (fl A.1) (fl A.2)) ?_ rfl ⟨rfl, by with_reducible assumption⟩)
  all_goals (simp [results, Tryz.results126, go_sem])
theorem bidx9 : ∀ w, (Instr.index 229 (.agg brulesV) (.int .i64 9)).run Tryz.prog w = .ok (Value.func (Fn.func 164) #[] #[]) w := fun _ => by kernel_rfl
set_option maxHeartbeats 1000000 in
theorem balu_9 (l1 h1 l2 h2 : Nat) (w : World) (hl1 : l1 ≤ h1) (hh1 : h1 < 4294967296) (hl2 : l2 ≤ h2) (hh2 : h2 < 4294967296) :
    Calls Tryz.prog 126 #[.int .i64 9, .complex .f64 (fl l1) (fl h1), .complex .f64 (fl l2) (fl h2)] w fun e w' => e = .returned (.complex .f64 (fl (aluS 9 l1 h1 l2 h2).1) (fl (aluS 9 l1 h1 l2 h2).2)) ∧ Bel w w' := by
  have HB := Bel.refl w
  have i1 := bidx9
  generalize EA : aluS 9 l1 h1 l2 h2 = A
  go_enter Tryz.func126, Tryz.ntmps126
  go_wp2
  go_region_held3 (fun w' => Bel w w') (first | (with_reducible assumption) | (with_reducible refine Bel.trans ?_ hb1; with_reducible assumption) | (with_reducible refine Bel.drew ?_; first | (with_reducible assumption) | (with_reducible refine Bel.trans ?_ hb1; with_reducible assumption))) (first | (go_at_call 153; refine (brulesB _).mono ?_; rintro e w1 ⟨rfl, hb1⟩) | (go_at_call 91; refine (ofB _ _ _ (by with_reducible assumption) (by with_reducible assumption)).mono ?_; rintro e w1 ⟨rfl, hb1⟩) | (go_at_call 164; refine (rule9 l1 h1 l2 h2 _ hl1 hh1 hl2 hh2).mono ?_; rw [EA]; rintro e w1 ⟨rfl, hb1⟩) | (go_at_call 148; refine (told_any A.1 A.2 _).mono ?_; rintro e w1 ⟨rfl, hb1⟩))
  all_goals go_wp2
  all_goals (refine bodyPost_ret (v := .complex .f64 (fl A.1) (fl A.2)) ?_ rfl ⟨rfl, by with_reducible assumption⟩)
  all_goals (simp [results, Tryz.results126, go_sem])
theorem bidx10 : ∀ w, (Instr.index 229 (.agg brulesV) (.int .i64 10)).run Tryz.prog w = .ok (Value.func (Fn.func 165) #[] #[]) w := fun _ => by kernel_rfl
set_option maxHeartbeats 1000000 in
theorem balu_10 (l1 h1 l2 h2 : Nat) (w : World) (hl1 : l1 ≤ h1) (hh1 : h1 < 4294967296) (hl2 : l2 ≤ h2) (hh2 : h2 < 4294967296) :
    Calls Tryz.prog 126 #[.int .i64 10, .complex .f64 (fl l1) (fl h1), .complex .f64 (fl l2) (fl h2)] w fun e w' => e = .returned (.complex .f64 (fl (aluS 10 l1 h1 l2 h2).1) (fl (aluS 10 l1 h1 l2 h2).2)) ∧ Bel w w' := by
  have HB := Bel.refl w
  have i1 := bidx10
  generalize EA : aluS 10 l1 h1 l2 h2 = A
  go_enter Tryz.func126, Tryz.ntmps126
  go_wp2
  go_region_held3 (fun w' => Bel w w') (first | (with_reducible assumption) | (with_reducible refine Bel.trans ?_ hb1; with_reducible assumption) | (with_reducible refine Bel.drew ?_; first | (with_reducible assumption) | (with_reducible refine Bel.trans ?_ hb1; with_reducible assumption))) (first | (go_at_call 153; refine (brulesB _).mono ?_; rintro e w1 ⟨rfl, hb1⟩) | (go_at_call 91; refine (ofB _ _ _ (by with_reducible assumption) (by with_reducible assumption)).mono ?_; rintro e w1 ⟨rfl, hb1⟩) | (go_at_call 165; refine (rule10 l1 h1 l2 h2 _ hl1 hh1 hl2 hh2).mono ?_; rw [EA]; rintro e w1 ⟨rfl, hb1⟩) | (go_at_call 148; refine (told_any A.1 A.2 _).mono ?_; rintro e w1 ⟨rfl, hb1⟩))
  all_goals go_wp2
  all_goals (refine bodyPost_ret (v := .complex .f64 (fl A.1) (fl A.2)) ?_ rfl ⟨rfl, by with_reducible assumption⟩)
  all_goals (simp [results, Tryz.results126, go_sem])
theorem balu_any (op l1 h1 l2 h2 : Nat) (w : World) (hop : op < 11) (hl1 : l1 ≤ h1) (hh1 : h1 < 4294967296) (hl2 : l2 ≤ h2) (hh2 : h2 < 4294967296) :
    Calls Tryz.prog 126 #[.int .i64 op, .complex .f64 (fl l1) (fl h1), .complex .f64 (fl l2) (fl h2)] w fun e w' => e = .returned (.complex .f64 (fl (aluS op l1 h1 l2 h2).1) (fl (aluS op l1 h1 l2 h2).2)) ∧ Bel w w' := by
  match op, hop with
  | 0, _ => exact balu_0 l1 h1 l2 h2 w hl1 hh1 hl2 hh2
  | 1, _ => exact balu_1 l1 h1 l2 h2 w hl1 hh1 hl2 hh2
  | 2, _ => exact balu_2 l1 h1 l2 h2 w hl1 hh1 hl2 hh2
  | 3, _ => exact balu_3 l1 h1 l2 h2 w hl1 hh1 hl2 hh2
  | 4, _ => exact balu_4 l1 h1 l2 h2 w hl1 hh1 hl2 hh2
  | 5, _ => exact balu_5 l1 h1 l2 h2 w hl1 hh1 hl2 hh2
  | 6, _ => exact balu_6 l1 h1 l2 h2 w hl1 hh1 hl2 hh2
  | 7, _ => exact balu_7 l1 h1 l2 h2 w hl1 hh1 hl2 hh2
  | 8, _ => exact balu_8 l1 h1 l2 h2 w hl1 hh1 hl2 hh2
  | 9, _ => exact balu_9 l1 h1 l2 h2 w hl1 hh1 hl2 hh2
  | 10, _ => exact balu_10 l1 h1 l2 h2 w hl1 hh1 hl2 hh2
  | n + 11, h => omega
end Go.Proofs.YtebdnobgdimdoaaGreat
