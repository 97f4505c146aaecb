/- course.may by its contract. -/
import Derived.Test.YtebdnobgdimdoaaInstMay
import Derived.Test.YtebdnobgdimdoaaCrsPure
import Derived.Shelf.SlicesQ.IndexFunc
import Derived.Ground.SlgfProg
import Derived.Lib.SliceRun
import Derived.Lib.Hide
set_option linter.unusedVariables false
set_option linter.unusedSimpArgs false
namespace Go.Proofs.Ytebdnobgdimdoaa
open Go.RowKit Go.Shelf Go.Lib
shelf_lay_g SlLaysH0.n8 Slgf 8 at Try 49 as crsL8

theorem inst_cells {w : World} {b off c : Nat} {l : List InstD} (h : Sl InstR 7 w (some ⟨b, off, none⟩) c l) : ∀ j, j < l.length → ∀ i v, (InstD.cells l[j]!)[i]? = some v → w.cell? ⟨b, off + j * 7 + i, none⟩ = some v := by
  intro j hj i v hv
  obtain ⟨b', off', cs, e, hl, ⟨rfl, hw⟩, hc⟩ := h.get j hj
  simp at e; obtain ⟨rfl, rfl⟩ := e
  rw [getElem!_pos l j hj] at hv
  exact hc i v hv
/-- 'func(i api.Inst) bool { return !inst.May(i) }'. -/
theorem crs_pred (w : World) : PredBelow Try.prog 50 #[] (fun x : InstD => .agg (InstD.cells x).toArray) (fun x => !x.okB) w := fun W x hb => by
  obtain ⟨op, fn, dst, src, reg, off, imm⟩ := x
  show Calls Try.prog 50 #[.agg #[.int .i64 op, .int .i64 fn, .int .i64 dst, .int .i64 src, .bool reg, .int .i64 off, .int .u32 imm]] W _
  have HB := Bel.of hb
  go_enter Try.func50, Try.ntmps50
  go_wp2_with fail
  refine (may_any _ _ _ _ _ _ _ _).mono ?_
  rintro e w1 ⟨rfl, hb1⟩
  go_wp2_with fail
  go_ret
  exact ⟨rfl, by first | exact (HB.trans hb1).out | exact ((HB.alloc _).trans hb1).out⟩
theorem crs_enters : ∀ args w, (callFunc 50 args).run Try.prog w = .ok (.enter 50 args) w := enters_of Try.func50 (by kernel_rfl) rfl
theorem contains_any (b off c n : Nat) (l : List InstD) (w : World) (h : Sl InstR 7 w (some ⟨b, off, none⟩) c l) (hp : 0 < l.length) (hn : Hid (l.length = n)) (r : Bool) (hr : Hid (l.any (fun x => !x.okB) = r)) :
    Calls Try.prog 49 #[.slice (some ⟨b, off, none⟩) n c, .func (.func 50) #[] #[]] w fun e w' => e = .returned (.bool r) ∧ Bel w w' := by
  have hb : b < w.heap.size := by
    obtain ⟨b', off', cs, e, hl, ⟨rfl, hw⟩, hc⟩ := h.get 0 hp
    simp at e; obtain ⟨rfl, rfl⟩ := e
    exact World.block_lt_of_cell? _ _ (hc 0 _ rfl)
  have hle := h.le
  have hbig := h.big
  simp only [maxLen] at hbig
  have hcon := AnyQ.slices_ContainsFunc crsL8 7 Try.isAgg32 Try.sizeOf32 InstD.cells (fun _ => rfl) (fun x => !x.okB) 50 #[] crs_enters b off l.length c l w (crs_pred w) (Nat.le_refl _) (by omega) hb (inst_cells h)
  change Calls Try.prog 49 _ _ _ at hcon
  rw [List.take_length, hr.out, hn.out] at hcon
  exact hcon.mono fun e w' ⟨h1, h2⟩ => ⟨h1, Bel.of h2⟩
set_option maxHeartbeats 1000000 in
theorem crsmay_any (A : Option Addr) (c : Nat) (l : List InstD) (w : World) (h : Sl InstR 7 w A c l) :
    Calls Try.prog 25 #[.slice A l.length c] w fun e w' => e = .returned (.bool (crsMay l)) ∧ Bel w w' := by
  have HB := Bel.refl w
  have b1 : l.length ≤ 9223372036854775807 := by have := h.le; have := h.big; simp only [maxLen] at this; omega
  by_cases h0 : l.length = 0
  · have hr : crsMay l = false := by unfold crsMay; rw [decide_eq_false (by omega)]; rfl
    rw [hr, h0]
    clear hr h0 h
    go_enter Try.func25, Try.ntmps25
    go_wp2_with fail
    go_ret
    exact ⟨by simp, by repeat (first | exact HB | apply Bel.alloc | apply Bel.drewN)⟩
  · by_cases h1 : 64 < l.length
    · have hr : crsMay l = false := by unfold crsMay; rw [decide_eq_false (by omega)]; rfl
      rw [hr]
      have h0' : (0 : Int) < (l.length : Int) := by omega
      have h1' : ¬ (l.length : Int) ≤ 64 := by omega
      clear hr h
      go_enter Try.func25, Try.ntmps25
      go_wp2_with fail
      go_ret
      exact ⟨by simp, by repeat (first | exact HB | apply Bel.alloc | apply Bel.drewN)⟩
    · obtain ⟨b, off, rfl⟩ := h.addr (by omega)
      have h0' : (0 : Int) < (l.length : Int) := by omega
      have h1' : (l.length : Int) ≤ 64 := by omega
      have HS := Lib.hid h
      have hp : 0 < l.length := by omega
      have hr : crsMay l = !(l.any fun x => !x.okB) := by
        unfold crsMay
        rw [decide_eq_true (by omega), Bool.true_and]
        rw [Bool.eq_iff_iff]
        simp [List.any_eq_true, List.all_eq_true]
      rw [hr]
      obtain ⟨r, hr2⟩ : ∃ r, Hid (l.any (fun x => !x.okB) = r) := ⟨_, Lib.hid rfl⟩
      rw [hr2.out]
      clear hr h
      go_enter Try.func25, Try.ntmps25
      go_wp2_with (first | (go_at_call 49; refine (contains_any b off c _ l _ (HS.out.mono InstR.mono (by first | exact Bel.refl _ | exact (Bel.refl _).drew | exact (Bel.refl _).drew.drew)) hp (Lib.hid rfl) r hr2).mono ?_; rintro e w1 ⟨rfl, hb1⟩))
      go_ret
      exact ⟨by simp, by first | exact hb1 | exact ((Bel.refl _).drew).trans hb1 | exact ((Bel.refl _).drew.drew).trans hb1⟩
end Go.Proofs.Ytebdnobgdimdoaa
