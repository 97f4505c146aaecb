/- course.Longest at whatever code; prog.May by its contract. In chapter 11's seats the texts of chapter 8 stand for those of chapter 3. -/
import Derived.Test.YtebdnobgdimdoaaGreatZCrs5
import Derived.Test.YtebdnobgdimdoaaGreatGB
set_option linter.unusedVariables false
set_option linter.unusedSimpArgs false
namespace Go.Proofs.YtebdnobgdimdoaaGreat
open Go.RowKit Go.Shelf Go.Lib
shelf_lay_g SlLaysH0.n8 Slgf 8 at Tryz 70 as crsF8
/-- What 'Longest' tells. -/
def longR (l : List InstD) (cs : List Int) : Int := if crsMay l = true then cost l cs 0 else 0
set_option maxHeartbeats 1000000 in
theorem Longest_any (A A1 : Option Addr) (c n c1 n1 : Nat) (l : List InstD) (cs : List Int) (r : Int) (w : World) (h : Sl InstR 7 w A c l) (hn : Hid (l.length = n)) (h1 : Sl (IntR .i64) 1 w A1 c1 cs) (hn1 : Hid (cs.length = n1)) (hr : Hid (longR l cs = r)) :
    Calls Tryz.prog 40 #[.slice A n c, .slice A1 n1 c1] w fun e w' => e = .returned (.int .i64 r) ∧ Bel w w' := by
  rw [← hr.out]
  unfold longR
  by_cases hm : crsMay l = true
  · rw [if_pos hm]
    obtain ⟨m0, m1, m2⟩ := crsMay_facts hm
    exact longest_ok A A1 c n c1 n1 l cs w h hn h1 hn1 (Lib.hid hm) (by rw [← hn.out]; exact m0) (by rw [← hn.out]; exact m1) (Lib.hid m2)
  · rw [if_neg hm]
    have HM : Hid (crsMay l = false) := Lib.hid (by simpa using hm)
    have HS := Lib.hid h
    clear hm h hr h1 hn1
    go_enter Tryz.func40, Tryz.ntmps40
    go_wp2
    go_step3
    go_wp2_with fail
    refine (crsmay_at _ _ _ _ _ _ HS.out hn HM).mono ?_
    rintro e w1 ⟨rfl, hb⟩
    go_wp2_with fail
    rw [Exit.noGoto_ret]
    go_ret
    exact ⟨rfl, hb⟩

/-! ### A function, and a program -/
structure FnD where
  args : Int
  code : List InstD
def FnR (w : World) (cs : List Value) (x : FnD) : Prop := ∃ A c, cs = [.int .i64 x.args, .slice A x.code.length c] ∧ Sl InstR 7 w A c x.code ∧ (Lit.int .i64 x.args).wf = true
theorem FnR.mono : Mono FnR := fun w w' cs x hb ⟨A, c, e, hs, hw⟩ => ⟨A, c, e, hs.mono InstR.mono hb, hw⟩
def fnFine (f : FnD) : Bool := decide (0 ≤ f.args) && decide (f.args ≤ 4) && crsMay f.code
def progMay (l : List FnD) : Bool := decide (0 < l.length) && decide (l.length ≤ 8) && decide ((l.map FnD.args).getD 0 0 = 0) && l.all fnFine
theorem crsMay_eq {l : List InstD} (h0 : 0 < l.length) (h1 : l.length ≤ 64) : crsMay l = !(l.any fun x => !x.okB) := by
  unfold crsMay
  rw [decide_eq_true ⟨h0, h1⟩, Bool.true_and]
  rw [Bool.eq_iff_iff]
  simp [List.any_eq_true, List.all_eq_true]
/-- 'off := func(i api.Inst) bool { return !inst.May(i) }'. -/
theorem fineOff_pred (w : World) : PredBelow Tryz.prog 115 #[] (fun x : InstD => .agg (InstD.cells x).toArray) (fun x => !x.okB) w := fun W x hb => by
  obtain ⟨op, fn, dst, src, reg, off, imm⟩ := x
  show Calls Tryz.prog 115 #[.agg #[.int .i64 op, .int .i64 fn, .int .i64 dst, .int .i64 src, .bool reg, .int .i64 off, .int .u32 imm]] W _
  have HB := Bel.of hb
  go_enter Tryz.func115, Tryz.ntmps115
  go_wp2_with fail
  refine (may_any _ _ _ _ _ _ _ _).mono ?_
  rintro e w1 ⟨rfl, hb1⟩
  go_wp2_with fail
  go_ret
  exact ⟨rfl, by first | exact (HB.trans hb1).out | exact ((HB.alloc _).trans hb1).out⟩
theorem fineOff_enters : ∀ args w, (callFunc 115 args).run Tryz.prog w = .ok (.enter 115 args) w := enters_of Tryz.func115 (by kernel_rfl) rfl
theorem containsF_any (b off c n : Nat) (l : List InstD) (w : World) (h : Sl InstR 7 w (some ⟨b, off, none⟩) c l) (hp : 0 < l.length) (hn : Hid (l.length = n)) (r : Bool) (hr : Hid (l.any (fun x => !x.okB) = r)) :
    Calls Tryz.prog 117 #[.slice (some ⟨b, off, none⟩) n c, .func (.func 115) #[] #[]] w fun e w' => e = .returned (.bool r) ∧ Bel w w' := by
  have hb : b < w.heap.size := by
    obtain ⟨b', off', cs, e, hl, ⟨rfl, hw⟩, hc⟩ := h.get 0 hp
    simp at e; obtain ⟨rfl, rfl⟩ := e
    exact World.block_lt_of_cell? _ _ (hc 0 _ rfl)
  have hle := h.le
  have hbig := h.big
  simp only [maxLen] at hbig
  have hcon := AnyQ.slices_ContainsFunc crsL8 7 Tryz.isAgg95 Tryz.sizeOf95 InstD.cells (fun _ => rfl) (fun x => !x.okB) 115 #[] fineOff_enters b off l.length c l w (fineOff_pred w) (Nat.le_refl _) (by omega) hb (inst_cells h)
  change Calls Tryz.prog 117 _ _ _ at hcon
  rw [List.take_length, hr.out, hn.out] at hcon
  exact hcon.mono fun e w' ⟨h1, h2⟩ => ⟨h1, Bel.of h2⟩
set_option maxHeartbeats 4000000 in
set_option maxRecDepth 100000 in
theorem fine_any (g : Int) (A : Option Addr) (c n : Nat) (l : List InstD) (r : Bool) (w : World) (h : Sl InstR 7 w A c l) (hn : Hid (l.length = n)) (hr : Hid (fnFine ⟨g, l⟩ = r)) :
    Calls Tryz.prog 72 #[.agg #[.int .i64 g, .slice A n c]] w fun e w' => e = .returned (.bool r) ∧ Bel w w' := by
  have HS := Lib.hid h
  have hnn : n ≤ 9223372036854775807 := by rw [← hn.out]; have := h.le; have := h.big; simp only [maxLen] at this; omega
  have HNN := Lib.hid hnn
  by_cases g0 : 0 ≤ g
  · by_cases g1 : g ≤ 4
    · by_cases n0 : 0 < n
      · by_cases n1 : n ≤ 64
        · obtain ⟨b, off, rfl⟩ := h.addr (by rw [hn.out]; exact n0)
          have n0' : (0 : Int) < (n : Int) := by omega
          have n1' : (n : Int) ≤ 64 := by omega
          have hp : Hid (0 < l.length) := Lib.hid (by rw [hn.out]; exact n0)
          have HR : Hid (fnFine ⟨g, l⟩ = !(l.any fun x => !x.okB)) := Lib.hid (by
            unfold fnFine
            rw [crsMay_eq (by rw [hn.out]; exact n0) (by rw [hn.out]; exact n1), decide_eq_true g0, decide_eq_true g1]
            rfl)
          rw [← hr.out, HR.out]
          obtain ⟨r, hr2⟩ : ∃ r, Hid (l.any (fun x => !x.okB) = r) := ⟨_, Lib.hid rfl⟩
          rw [hr2.out]
          clear hr h hnn n0 n1
          go_enter Tryz.func72, Tryz.ntmps72
          go_wp2_with fail
          refine (containsF_any b off c _ l _ (HS.out.mono InstR.mono ?_) hp.out hn r hr2).mono ?_
          · repeat (first | exact Bel.refl _ | apply Bel.alloc | apply Bel.drew | apply Bel.drewN)
          rintro e w1 ⟨rfl, hb1⟩
          have HB : Bel w w1 := Bel.trans (by repeat (first | exact Bel.refl _ | apply Bel.alloc | apply Bel.drew | apply Bel.drewN)) hb1
          clear hb1
          go_wp2_with fail
          go_ret
          exact ⟨by simp, HB⟩
        · have n1' : ¬ (n : Int) ≤ 64 := by omega
          have n0' : (0 : Int) < (n : Int) := by omega
          have HR : Hid (r = false) := Lib.hid (by
            rw [← hr.out]; unfold fnFine crsMay
            rw [decide_eq_false (show ¬ (0 < l.length ∧ l.length ≤ 64) by rw [hn.out]; exact fun h => n1 h.2)]
            simp)
          rw [HR.out]
          clear hr h hnn n0 n1
          go_enter Tryz.func72, Tryz.ntmps72
          go_wp2_with fail
          go_ret
          exact ⟨by simp, by repeat (first | exact Bel.refl _ | apply Bel.alloc | apply Bel.drew | apply Bel.drewN)⟩
      · have n0' : ¬ (0 : Int) < (n : Int) := by omega
        have HR : Hid (r = false) := Lib.hid (by
          rw [← hr.out]; unfold fnFine crsMay
          rw [decide_eq_false (show ¬ (0 < l.length ∧ l.length ≤ 64) by rw [hn.out]; exact fun h => n0 h.1)]
          simp)
        rw [HR.out]
        clear hr h hnn n0
        go_enter Tryz.func72, Tryz.ntmps72
        go_wp2_with fail
        go_ret
        exact ⟨by simp, by repeat (first | exact Bel.refl _ | apply Bel.alloc | apply Bel.drew | apply Bel.drewN)⟩
    · have HR : Hid (r = false) := Lib.hid (by
        rw [← hr.out]; unfold fnFine
        rw [decide_eq_false g1]
        simp)
      rw [HR.out]
      clear hr h hnn
      go_enter Tryz.func72, Tryz.ntmps72
      go_wp2_with fail
      go_ret
      exact ⟨by simp, by repeat (first | exact Bel.refl _ | apply Bel.alloc | apply Bel.drew | apply Bel.drewN)⟩
  · have HR : Hid (r = false) := Lib.hid (by
      rw [← hr.out]; unfold fnFine
      rw [decide_eq_false g0]
      simp)
    rw [HR.out]
    clear hr h hnn
    go_enter Tryz.func72, Tryz.ntmps72
    go_wp2_with fail
    go_ret
    exact ⟨by simp, by repeat (first | exact Bel.refl _ | apply Bel.alloc | apply Bel.drew | apply Bel.drewN)⟩
/-! ### prog.May -/
/-- A function and where its code lies. -/
structure FnX (w : World) where
  fn : FnD
  A : Option Addr
  c : Nat
  sl : Sl InstR 7 w A c fn.code
  wf : (Lit.int .i64 fn.args).wf = true
instance (w : World) : Inhabited (FnX w) := ⟨⟨⟨0, []⟩, none, 0, Sl.nil _ _ _, by decide⟩⟩
def FnX.cells {w : World} (x : FnX w) : List Value := [.int .i64 x.fn.args, .slice x.A x.fn.code.length x.c]
theorem Sl.fns {w : World} {b off c : Nat} {L : List FnD} (h : Sl FnR 2 w (some ⟨b, off, none⟩) c L) :
    ∃ zs : List (FnX w), zs.map FnX.fn = L ∧ ∀ j, j < zs.length → ∀ i v, (FnX.cells zs[j]!)[i]? = some v → w.cell? ⟨b, off + j * 2 + i, none⟩ = some v := by
  have key : ∀ i : Fin L.length, ∃ x : FnX w, x.fn = L[i.1] ∧ ∀ j v, (FnX.cells x)[j]? = some v → w.cell? ⟨b, off + i.1 * 2 + j, none⟩ = some v := by
    intro i
    obtain ⟨b', off', cs, e, hl, ⟨A, c', rfl, hs, hw⟩, hc⟩ := h.get i.1 i.2
    simp at e; obtain ⟨rfl, rfl⟩ := e
    exact ⟨⟨L[i.1], A, c', hs, hw⟩, rfl, hc⟩
  obtain ⟨f, hf⟩ := Classical.axiomOfChoice key
  refine ⟨List.ofFn f, ?_, ?_⟩
  · apply List.ext_getElem
    · simp
    · intro i h1 h2
      simp only [List.getElem_map, List.getElem_ofFn]
      exact (hf _).1
  · intro j hj i v hv
    rw [getElem!_pos _ j hj, List.getElem_ofFn] at hv
    exact (hf ⟨j, by simpa using hj⟩).2 i v hv
/-- 'func(f api.Fn) bool { return !fine(f) }'. -/
theorem may_pred (w : World) : PredBelow Tryz.prog 71 #[] (fun x : FnX w => .agg (FnX.cells x).toArray) (fun x => !fnFine x.fn) w := fun W x hb => by
  obtain ⟨⟨g, l⟩, A, c, hs, hw⟩ := x
  show Calls Tryz.prog 71 #[.agg #[.int .i64 g, .slice A l.length c]] W _
  have HB := Bel.of hb
  obtain ⟨n, hn⟩ : ∃ n, Hid (l.length = n) := ⟨_, Lib.hid rfl⟩
  obtain ⟨r, hr⟩ : ∃ r, Hid (fnFine ⟨g, l⟩ = r) := ⟨_, Lib.hid rfl⟩
  have HS := Lib.hid (show Sl InstR 7 w A c l from hs)
  show Calls _ _ _ _ fun e w' => e = .returned (.bool (!fnFine ⟨g, l⟩)) ∧ _
  rw [hn.out, hr.out]
  clear hs hw
  go_enter Tryz.func71, Tryz.ntmps71
  go_wp2_with fail
  refine (fine_any g A c n l r _ (HS.out.mono InstR.mono (by repeat (first | exact HB | apply Bel.alloc | apply Bel.drew | apply Bel.drewN))) hn hr).mono ?_
  rintro e w1 ⟨rfl, hb1⟩
  go_wp2_with fail
  go_ret
  exact ⟨rfl, by first | exact (HB.trans hb1).out | exact ((HB.alloc _).trans hb1).out⟩
theorem may_enters : ∀ args w, (callFunc 71 args).run Tryz.prog w = .ok (.enter 71 args) w := enters_of Tryz.func71 (by kernel_rfl) rfl
theorem containsFn_any (b off c n : Nat) (L : List FnD) (w : World) (h : Sl FnR 2 w (some ⟨b, off, none⟩) c L) (hp : 0 < L.length) (hn : Hid (L.length = n)) (r : Bool) (hr : Hid (L.any (fun x => !fnFine x) = r)) :
    Calls Tryz.prog 70 #[.slice (some ⟨b, off, none⟩) n c, .func (.func 71) #[] #[]] w fun e w' => e = .returned (.bool r) ∧ Bel w w' := by
  have hb : b < w.heap.size := by
    obtain ⟨b', off', cs, e, hl, ⟨A, c', rfl, hw⟩, hc⟩ := h.get 0 hp
    simp at e; obtain ⟨rfl, rfl⟩ := e
    exact World.block_lt_of_cell? _ _ (hc 0 _ rfl)
  have hle := h.le
  have hbig := h.big
  simp only [maxLen] at hbig
  obtain ⟨zs, hz, hcs⟩ := h.fns
  have hlen : zs.length = L.length := by rw [← hz]; simp
  have hcon := AnyQ.slices_ContainsFunc crsF8 2 Tryz.isAgg73 Tryz.sizeOf73 FnX.cells (fun _ => rfl) (fun x => !fnFine x.fn) 71 #[] may_enters b off zs.length c zs w (may_pred w) (Nat.le_refl _) (by omega) hb hcs
  change Calls Tryz.prog 70 _ _ _ at hcon
  have e : zs.any (fun x => !fnFine x.fn) = L.any fun x => !fnFine x := by rw [← hz, List.any_map]; rfl
  rw [List.take_length, e, hr.out, hlen, hn.out] at hcon
  exact hcon.mono fun e w' ⟨h1, h2⟩ => ⟨h1, Bel.of h2⟩
theorem fn_cells {w : World} {b off c : Nat} {L : List FnD} (h : Sl FnR 2 w (some ⟨b, off, none⟩) c L) (j : Nat) (hj : j < L.length) : ∃ A c', w.cell? ⟨b, off + j * 2, none⟩ = some (.int .i64 L[j].args) ∧ w.cell? ⟨b, off + j * 2 + 1, none⟩ = some (.slice A L[j].code.length c') ∧ Sl InstR 7 w A c' L[j].code := by
  obtain ⟨b', off', cs, e, hl, ⟨A, c', rfl, hs, hw⟩, hc⟩ := h.get j hj
  simp at e; obtain ⟨rfl, rfl⟩ := e
  exact ⟨A, c', hc 0 _ rfl, hc 1 _ rfl, hs⟩
set_option maxHeartbeats 4000000 in
set_option maxRecDepth 100000 in
theorem progmay_any (A : Option Addr) (c n : Nat) (L : List FnD) (r : Bool) (w : World) (h : Sl FnR 2 w A c L) (hn : Hid (L.length = n)) (hr : Hid (progMay L = r)) :
    Calls Tryz.prog 38 #[.agg #[.slice A n c]] w fun e w' => e = .returned (.bool r) ∧ Bel w w' := by
  have hnn : n ≤ 9223372036854775807 := by rw [← hn.out]; have := h.le; have := h.big; simp only [maxLen] at this; omega
  by_cases n0 : n = 0
  · subst n0
    have HR : Hid (r = false) := Lib.hid (by
      rw [← hr.out]; unfold progMay
      rw [decide_eq_false (show ¬ 0 < L.length by rw [hn.out]; omega)]
      simp)
    rw [HR.out]
    clear hr h hnn hn
    go_enter Tryz.func38, Tryz.ntmps38
    go_wp2_with fail
    go_ret
    exact ⟨by simp, by repeat (first | exact Bel.refl _ | apply Bel.alloc | apply Bel.drew | apply Bel.drewN)⟩
  · have n0' : ((n : Int) == 0) = false := by
      rw [beq_eq_false_iff_ne]; omega
    by_cases n1 : n ≤ 8
    · have n1' : ¬ (8 : Int) < n := by omega
      have np : (0 : Int) < n := by omega
      obtain ⟨b, off, rfl⟩ := h.addr (by rw [hn.out]; omega)
      obtain ⟨A0, c0, k0, -, -⟩ := fn_cells h 0 (by rw [hn.out]; omega)
      obtain ⟨g, hg⟩ : ∃ g, Hid ((L[0]'(by rw [hn.out]; omega)).args = g) := ⟨_, Lib.hid rfl⟩
      rw [hg.out, Nat.zero_mul, Nat.add_zero] at k0
      have hb : b < w.heap.size := World.block_lt_of_cell? _ _ k0
      have nb : ¬ b = w.heap.size := by omega
      have nb' : ¬ w.heap.size = b := by omega
      have hg2 : (L.map FnD.args).getD 0 0 = g := by
        rw [List.getD_eq_getElem?_getD, List.getElem?_map, List.getElem?_eq_getElem (by rw [hn.out]; omega)]
        exact hg.out
      have HS := Lib.hid h
      by_cases hg0 : g = 0
      · subst hg0
        obtain ⟨r2, hr2⟩ : ∃ r2, Hid (L.any (fun x => !fnFine x) = r2) := ⟨_, Lib.hid rfl⟩
        have HR : Hid (r = !r2) := Lib.hid (by
          rw [← hr.out, ← hr2.out]; unfold progMay
          rw [decide_eq_true (show 0 < L.length by rw [hn.out]; omega), decide_eq_true (show L.length ≤ 8 by rw [hn.out]; exact n1), hg2, decide_eq_true rfl, Bool.true_and, Bool.true_and, Bool.true_and]
          rw [Bool.eq_iff_iff]
          simp [List.any_eq_true, List.all_eq_true])
        have hp : Hid (0 < L.length) := Lib.hid (by rw [hn.out]; omega)
        rw [HR.out]
        clear hr h hnn n0 n1 hg hg2
        go_enter Tryz.func38, Tryz.ntmps38
        go_wp2_with fail
        refine (containsFn_any b off c _ L _ (HS.out.mono FnR.mono ?_) hp.out hn r2 hr2).mono ?_
        · repeat (first | exact Bel.refl _ | apply Bel.alloc | apply Bel.drew | apply Bel.drewN)
        rintro e w1 ⟨rfl, hb1⟩
        have HB : Bel w w1 := Bel.trans (by repeat (first | exact Bel.refl _ | apply Bel.alloc | apply Bel.drew | apply Bel.drewN)) hb1
        clear hb1
        go_wp2_with fail
        go_ret
        exact ⟨by simp, HB⟩
      · have hg1 : (g == 0) = false := by rw [beq_eq_false_iff_ne]; exact hg0
        have HR : Hid (r = false) := Lib.hid (by
          rw [← hr.out]; unfold progMay
          rw [hg2, decide_eq_false hg0]
          simp)
        rw [HR.out]
        clear hr h hnn n0 n1 hg hg2
        go_enter Tryz.func38, Tryz.ntmps38
        go_wp2_with fail
        go_ret
        exact ⟨by simp, by repeat (first | exact Bel.refl _ | apply Bel.alloc | apply Bel.drew | apply Bel.drewN)⟩
    · have n1' : ¬ (n : Int) ≤ 8 := by omega
      have HR : Hid (r = false) := Lib.hid (by
        rw [← hr.out]; unfold progMay
        rw [decide_eq_false (show ¬ L.length ≤ 8 by rw [hn.out]; exact n1)]
        simp)
      rw [HR.out]
      clear hr h hnn n0 n1 hn
      go_enter Tryz.func38, Tryz.ntmps38
      go_wp2_with fail
      go_ret
      exact ⟨by simp, by repeat (first | exact Bel.refl _ | apply Bel.alloc | apply Bel.drew | apply Bel.drewN)⟩
end Go.Proofs.YtebdnobgdimdoaaGreat
/- In chapter 11's seats the texts of chapter 8 stand for those of chapter 3. -/
