/- The document's 'Budget' by its contract; whether two lists of Booleans are the same. -/
import Derived.Test.YtpfnjbebfihkeaaCrsRef3
import Derived.Test.YtpfnjbebfihkeaaCrsRef4
import Derived.Deep.QuietTactic
import Derived.BigQuiet
set_option linter.unusedVariables false
set_option linter.unusedSimpArgs false
namespace Go.Proofs.Ytpfnjbebfihkeaa
open Go.RowKit

theorem bud_zero (L : List FnD) {n : Nat} : ∀ k, k ≤ n → ∀ t, t + k < n → (budUpto L ((downTo n).take k)).getD t 0 = 0
  | 0, _, t, ht => by
    simp only [budUpto, List.take_zero, List.foldl_nil, List.getD_eq_getElem?_getD, List.getElem?_replicate]
    split <;> rfl
  | k + 1, hk, t, ht => by
    rw [downTo_succ n k (by omega), budUpto_snoc]
    unfold budStep
    rw [List.getD_eq_getElem?_getD, List.getElem?_set, if_neg (by simp only; omega), ← List.getD_eq_getElem?_getD]
    exact bud_zero L k (by omega) t (by omega)
/-- What is copied so far. -/
structure Part (n q j : Nat) (C P : List Int) : Prop where
  len : P.length = n
  get : ∀ t, t < n → P.getD t 0 = if q < t ∧ t < j then C.getD t 0 else 0
theorem Part.start (n q : Nat) (C : List Int) : Part n q (q + 1) C (List.replicate n 0) := ⟨by simp, fun t ht => by
  rw [if_neg (by omega), List.getD_eq_getElem?_getD, List.getElem?_replicate, if_pos ht]
  rfl⟩
theorem Part.step {n q j : Nat} {C P : List Int} (h : Part n q j C P) (hq : q < j) (hj : j < n) : Part n q (j + 1) C (P.set j (C.getD j 0)) := ⟨by rw [List.length_set]; exact h.len, fun t ht => by
  rw [List.getD_eq_getElem?_getD, List.getElem?_set]
  by_cases e : j = t
  · subst e
    rw [if_pos rfl, if_pos (by rw [h.len]; exact hj), if_pos ⟨hq, by omega⟩]
    rfl
  · rw [if_neg e, ← List.getD_eq_getElem?_getD, h.get t ht]
    by_cases h1 : q < t ∧ t < j
    · rw [if_pos h1, if_pos ⟨h1.1, by omega⟩]
    · rw [if_neg h1, if_neg (by omega)]⟩
theorem Part.all {n q : Nat} {C P : List Int} (h : Part n q n C P) (hC : C.length = n) (hz : ∀ t, t ≤ q → C.getD t 0 = 0) : P = C := by
  apply List.ext_getElem
  · rw [h.len, hC]
  · intro i h1 h2
    have h3 := h.get i (by rw [← h.len]; exact h1)
    rw [List.getD_eq_getElem?_getD, List.getElem?_eq_getElem h1] at h3
    simp only [Option.getD_some] at h3
    rw [h3]
    by_cases hq : q < i
    · rw [if_pos ⟨hq, by rw [← hC]; exact h2⟩, List.getD_eq_getElem?_getD, List.getElem?_eq_getElem h2]
      rfl
    · rw [if_neg (fun h => hq h.1)]
      have := hz i (by omega)
      rw [List.getD_eq_getElem?_getD, List.getElem?_eq_getElem h2] at this
      exact this.symm
set_option maxHeartbeats 8000000 in
set_option maxRecDepth 100000 in
theorem refbudget_ok (b off c n : Nat) (L : List FnD) (w : World) (h : Sl FnR 2 w (some ⟨b, off, none⟩) c L) (hn : Hid (L.length = n)) (hm : Hid (progMay L = true)) :
    Calls Try.prog 22 #[.agg #[.slice (some ⟨b, off, none⟩) n c]] w fun e w' => e = .returned (.int .i64 ((budRow L).getD 0 0)) ∧ Bel w w' := by
  have HS0 := Lib.hid h
  have hn8 : n ≤ 8 := by
    have := hm.out
    unfold progMay at this
    simp only [Bool.and_eq_true, decide_eq_true_iff] at this
    rw [← hn.out]; omega
  have hn0 : 0 < n := by
    have := hm.out
    unfold progMay at this
    simp only [Bool.and_eq_true, decide_eq_true_iff] at this
    rw [← hn.out]; omega
  clear h
  have hq0 : (w.alloc (.cells #[.slice (some ⟨b, off, none⟩) n c] 26)).cell? ⟨w.heap.size, 0, none⟩ = some (.slice (some ⟨b, off, none⟩) n c) := cell_fresh w _ _ 0 _ rfl
  have HQ0 := Lib.hid hq0
  have HBa := Lib.hid ((Bel.refl w).alloc (.cells #[.slice (some ⟨b, off, none⟩) n c] 26))
  have hsz0 : w.heap.size < (w.alloc (.cells #[.slice (some ⟨b, off, none⟩) n c] 26)).heap.size := by simp
  go_enter Try.func22, Try.ntmps22
  go_wp2_with fail
  generalize w.alloc (.cells #[.slice (some ⟨b, off, none⟩) n c] 26) = W1 at *
  obtain ⟨g0, hg0⟩ : ∃ g0, w.heap.size = g0 := ⟨_, rfl⟩
  rw [hg0] at hq0 HQ0 hsz0 ⊢
  refine (refProgMay_any _ c n L true _ (HS0.out.mono FnR.mono HBa.out) hn hm).mono ?_
  rintro e w1 ⟨rfl, hb1⟩
  have HB1 := HBa.out.trans hb1
  have q1 := hb1.cell HQ0.out
  have hg1 : g0 < w1.heap.size := Nat.lt_of_lt_of_le hsz0 hb1.size
  have hmk := (made_ints n w1).resolve_right (by omega)
  obtain ⟨W2, hW2⟩ : ∃ W2, W2 = w1.alloc (.cells ((List.replicate n (0 : Int)).map (Value.int .i64)).toArray 3) := ⟨_, rfl⟩
  have HB2 : Bel w1 W2 := by rw [hW2]; exact (Bel.refl _).alloc _
  have R0 : Row (Value.int .i64) 3 W2 w1.heap.size (List.replicate n (0 : Int)) := by rw [hW2]; exact Row.new _ _ _
  have hgs : w.heap.size ≤ w1.heap.size := HB1.size
  rw [← hW2] at hmk
  clear hW2
  have q2 := HB2.cell q1
  have HB2w := Lib.hid (HB1.trans HB2)
  obtain ⟨g, hg⟩ : ∃ g, w1.heap.size = g := ⟨_, rfl⟩
  rw [hg] at hmk R0 hgs hg1
  have hn1' : IntKind.i64.wrap ((n : Int) - 1) = (n : Int) - 1 := wrap_i64 (by omega) (by omega)
  have HR0 := Lib.hid R0
  have HQ2 := Lib.hid q2
  clear R0 hb1 HB1 HB2 hq0 hsz0 hg hg0
  go_wp2_with fail
  clear hmk q1 q2 hn1'
  have hne : g0 ≠ g := by omega
  go_loopw [5] (fun v wr => ∃ k : Nat, k ≤ n ∧ v = .int .i64 ((n : Int) - 1 - k) ∧ Row (Value.int .i64) 3 wr g (budUpto L ((downTo n).take k)) ∧ But g W2 wr ∧ Bel w wr) (fun v _ => (intOf v + 1).toNat)
  case atStart => exact ⟨0, Nat.zero_le _, by simp, HR0.out, But.refl _ _, HB2w.out⟩
  case round =>
    obtain ⟨k, hk, rfl, hrow, hbut, hbr⟩ := hrel
    have qr := hbut.cell (p := ⟨g0, 0, none⟩) hne HQ2.out
    by_cases hkn : k = n
    · subst hkn
      have ep : (k : Int) - 1 - k = -1 := by omega
      rw [ep]
      rw [downTo_all, budUpto_all L k hn.out] at hrow
      have hl : (budRow L).length = k := by rw [← budUpto_all L k hn.out]; exact (budUpto_facts L _).1
      have rc := hrow.cell (i := 0) (by rw [hl]; exact hn0)
      have he : (budRow L)[0]'(by rw [hl]; exact hn0) = (budRow L).getD 0 0 := by rw [List.getD_eq_getElem?_getD, List.getElem?_eq_getElem (by rw [hl]; exact hn0)]; rfl
      rw [he] at rc
      have hn0' : (0 : Int) < k := by omega
      obtain ⟨r, hr⟩ : ∃ r, Hid ((budRow L).getD 0 0 = r) := ⟨_, Lib.hid rfl⟩
      rw [hr.out] at rc
      clear ep hrow hl he
      go_wp2
      go_ret
      exact ⟨by rw [hr.out]; rfl, hbr⟩
    · obtain ⟨q, hq⟩ : ∃ q : Nat, q = n - 1 - k := ⟨_, rfl⟩
      have ep : (n : Int) - 1 - k = (q : Int) := by omega
      have hqn : q < n := by omega
      have hqn' : (q : Int) < n := by omega
      have q0' : 0 ≤ (q : Int) := by omega
      have eq1 : IntKind.i64.wrap ((q : Int) + 1) = (q : Int) + 1 := wrap_i64 (by omega) (by omega)
      have EQ1 : Hid (IntKind.i64.wrap ((q : Int) - 1) = (q : Int) - 1) := Lib.hid (wrap_i64 (by omega) (by omega))
      have EQ2 : Hid ((q : Int) - 1 = (n : Int) - 1 - ((k + 1 : Nat) : Int)) := Lib.hid (by omega)
      have HK1 : Hid (k + 1 ≤ n) := Lib.hid (by omega)
      have hsucc : (downTo n).take (k + 1) = (downTo n).take k ++ [⟨q, hqn⟩] := (downTo_succ n k (by omega)).trans (by rw [show (⟨n - 1 - k, by omega⟩ : Fin n) = ⟨q, hqn⟩ from Fin.ext hq.symm])
      have hql : q < L.length := by rw [hn.out]; exact hqn
      obtain ⟨A', c', -, d1, hsc⟩ := fn_cells (HS0.out.mono FnR.mono hbr) q hql
      obtain ⟨l', hl'⟩ : ∃ l', Hid ((L[q]'hql).code = l') := ⟨_, Lib.hid rfl⟩
      rw [hl'.out] at d1 hsc
      obtain ⟨m, hm2⟩ : ∃ m, Hid (l'.length = m) := ⟨_, Lib.hid rfl⟩
      rw [hm2.out] at d1
      have HSC := Lib.hid hsc
      have HNX : Hid (budUpto L ((downTo n).take (k + 1)) = (budUpto L ((downTo n).take k)).set q (longR l' (budUpto L ((downTo n).take k)))) := Lib.hid (by
        rw [hsucc, budUpto_snoc]
        unfold budStep
        rw [List.getD_eq_getElem?_getD, List.getElem?_map, List.getElem?_eq_getElem hql]
        simp only [Option.map_some, Option.getD_some]
        rw [hl'.out])
      have HBF := Lib.hid (budUpto_facts L ((downTo n).take k))
      have HZ : Hid (∀ t, t ≤ q → (budUpto L ((downTo n).take k)).getD t 0 = 0) := Lib.hid (fun t ht => bud_zero L k hk t (by omega))
      obtain ⟨C, hC⟩ : ∃ C, Hid (budUpto L ((downTo n).take k) = C) := ⟨_, Lib.hid rfl⟩
      rw [hC.out] at hrow HBF HNX HZ
      obtain ⟨r, hr⟩ : ∃ r, Hid (longR l' C = r) := ⟨_, Lib.hid rfl⟩
      rw [hr.out] at HNX
      have HRC := Lib.hid hrow
      have HBUT := Lib.hid hbut
      have HBR := Lib.hid hbr
      have hmk := (made_ints n wr).resolve_right (by omega)
      obtain ⟨W4, hW4⟩ : ∃ W4, W4 = wr.alloc (.cells ((List.replicate n (0 : Int)).map (Value.int .i64)).toArray 3) := ⟨_, rfl⟩
      have HB4 : Bel wr W4 := by rw [hW4]; exact (Bel.refl _).alloc _
      have R4 : Row (Value.int .i64) 3 W4 wr.heap.size (List.replicate n (0 : Int)) := by rw [hW4]; exact Row.new _ _ _
      rw [← hW4] at hmk
      clear hW4
      obtain ⟨gb, hgb⟩ : ∃ gb, wr.heap.size = gb := ⟨_, rfl⟩
      have hgle : wr.heap.size ≤ gb := by omega
      have hgne : ¬ gb = g := by have := HRC.out.lt; omega
      rw [hgb] at hmk R4
      have HR4 := Lib.hid R4
      have HBX := Lib.hid HB4
      have HGLE := Lib.hid hgle
      have HQR := Lib.hid qr
      have HD1 := Lib.hid d1
      rw [ep]
      clear ep hq hkn hk hsucc hsc hrow hbut hbr R4 HB4 hgb hgle d1
      go_wp2_with fail
      clear hmk qr
      go_loopw [7] (fun v wx => ∃ (j : Nat) (P : List Int), v = .int .i64 j ∧ q + 1 ≤ j ∧ j ≤ n ∧ Row (Value.int .i64) 3 wx gb P ∧ Hid (Part n q j C P) ∧ Bel wr wx) (fun v _ => n - (intOf v).toNat)
      case atStart => exact ⟨q + 1, _, by simp, Nat.le_refl _, by omega, HR4.out, Lib.hid (Part.start n q C), HBX.out⟩
      case round =>
        obtain ⟨j, P, rfl, hj0, hj, hrp, hpt, hbx⟩ := hrel
        have qx := hbx.cell HQR.out
        by_cases hjn : j = n
        · subst hjn
          have hPC := hpt.out.all HBF.out.1 HZ.out
          subst hPC
          have HRP := Lib.hid hrp
          have dx := hbx.cell HD1.out
          have HSI := hrp.sl_int (by rw [HBF.out.1]; show j ≤ maxLen; simp only [maxLen]; omega) HBF.out.2
          rw [HBF.out.1] at HSI
          have HSI := Lib.hid HSI
          have HBXX := Lib.hid hbx
          clear hrp hbx hj0 hj
          go_wp2_with fail
          refine (refLongest_any _ _ _ _ _ _ l' P r _ (HSC.out.mono InstR.mono HBXX.out) hm2 HSI.out (Lib.hid HBF.out.1) hr).mono ?_
          rintro e w5 ⟨rfl, hb5⟩
          have HB5 := HBXX.out.trans hb5
          have rc5 := (HRC.out.mono HB5).cell (i := q) (by rw [HBF.out.1]; exact hqn)
          have rf5 := (HRC.out.mono HB5).frozen q
          have HSET := Lib.hid ((HRC.out.mono HB5).set (i := q) (by rw [HBF.out.1]; exact hqn) r)
          have HBUT5 := Lib.hid ((HBUT.out.bel HB5).set q (.int .i64 r))
          have HBW5 : Bel w (w5.setCell ⟨g, q, none⟩ (.int .i64 r)) := (HBR.out.trans HB5).setCell hgs _
          have eq2 := EQ1.out
          clear hb5 HB5 dx qx eq1
          go_wp2
          go_roundw
          case rel => exact ⟨k + 1, HK1.out, by rw [EQ2.out], by rw [HNX.out]; exact HSET.out, HBUT5.out, HBW5⟩
          case measure => simp [intOf] <;> omega
        · have hj1 : j < n := by omega
          have hj2 : (j : Int) < n := by omega
          have j0 : 0 ≤ (j : Int) := by omega
          have ej : IntKind.i64.wrap ((j : Int) + 1) = (j : Int) + 1 := wrap_i64 (by omega) (by omega)
          have rcj := (HRC.out.mono hbx).cell (i := j) (by rw [HBF.out.1]; exact hj1)
          have hval : C[j]'(by rw [HBF.out.1]; exact hj1) = C.getD j 0 := by rw [List.getD_eq_getElem?_getD, List.getElem?_eq_getElem (by rw [HBF.out.1]; exact hj1)]; rfl
          rw [hval] at rcj
          have rpj := hrp.cell (i := j) (by rw [hpt.out.len]; exact hj1)
          have rpf := hrp.frozen j
          have HSET := Lib.hid (hrp.set (i := j) (by rw [hpt.out.len]; exact hj1) (C.getD j 0))
          have HPN := Lib.hid (hpt.out.step (by omega) hj1)
          have hb3 := hbx.setCell (p := ⟨gb, j, none⟩) HGLE.out (.int .i64 (C.getD j 0))
          generalize C.getD j 0 = y at *
          clear hval hjn hrp hbx
          go_wp2
          go_roundw
          case rel => exact ⟨j + 1, _, by simp, by omega, by omega, HSET.out, HPN, hb3⟩
          case measure => simp [intOf]; omega
set_option maxHeartbeats 1000000 in
theorem refBudget_any (A : Option Addr) (c n : Nat) (L : List FnD) (r : Int) (w : World) (h : Sl FnR 2 w A c L) (hn : Hid (L.length = n)) (hr : Hid (budget L = r)) :
    Calls Try.prog 22 #[.agg #[.slice A n c]] w fun e w' => e = .returned (.int .i64 r) ∧ Bel w w' := by
  rw [← hr.out]
  unfold budget
  by_cases hm : progMay L = true
  · rw [if_pos hm]
    have hn0 : 0 < L.length := by
      have := hm
      unfold progMay at this
      simp only [Bool.and_eq_true, decide_eq_true_iff] at this
      omega
    obtain ⟨b, off, rfl⟩ := h.addr hn0
    exact refbudget_ok b off c n L w h hn (Lib.hid hm)
  · rw [if_neg hm]
    have HM : Hid (progMay L = false) := Lib.hid (by simpa using hm)
    have HS := Lib.hid h
    clear hm h hr
    go_enter Try.func22, Try.ntmps22
    go_wp2_with fail
    refine (refProgMay_any _ c n L false _ (HS.out.mono FnR.mono ?_) hn HM).mono ?_
    · repeat (first | exact Bel.refl _ | apply Bel.alloc | apply Bel.drew)
    rintro e w1 ⟨rfl, hb1⟩
    have HB1 : Bel w w1 := (((Bel.refl w).alloc _).trans hb1)
    clear hb1
    go_wp2_with fail
    go_ret
    exact ⟨rfl, HB1⟩

/-! ### Two lists of Booleans -/
set_option maxHeartbeats 4000000 in
set_option maxRecDepth 100000 in
theorem boolsEq_any (A B : Option Addr) (ca cb n : Nat) (l : List Bool) (w : World) (h1 : Sl BoolR 1 w A ca l) (h2 : Sl BoolR 1 w B cb l) (hn : Hid (l.length = n)) (hb : n ≤ 64) :
    Calls Try.prog 14 #[.slice A n ca, .slice B n cb] w fun e w' => e = .returned (.bool true) ∧ Bel w w' := by
  have H1 := Lib.hid h1
  have H2 := Lib.hid h2
  have t0 : ((n : Int) != (n : Int)) = false := by simp
  clear h1 h2
  go_enter Try.func14, Try.ntmps14
  go_wp2
  go_loopw [5] (fun i wr => ∃ k : Nat, k ≤ n ∧ i = .int .i64 k ∧ Bel w wr) (fun i _ => n - (intOf i).toNat)
  case atStart => exact ⟨0, by omega, rfl, Bel.refl _⟩
  case round =>
    obtain ⟨k, hk, rfl, HB⟩ := hrel
    by_cases hkn : k = n
    · subst hkn
      go_wp2
      go_ret
      exact ⟨rfl, HB⟩
    · have hk1 : k < n := by omega
      have hk2 : (k : Int) < n := by omega
      have k0 : 0 ≤ (k : Int) := by omega
      have ek : IntKind.i64.wrap ((k : Int) + 1) = (k : Int) + 1 := wrap_i64 (by omega) (by omega)
      have EK := Lib.hid ek
      obtain ⟨ba, oa, rfl, ga⟩ := (H1.out.mono BoolR.mono HB).bool_cell (by rw [hn.out]; omega)
      obtain ⟨bb, ob, rfl, gb⟩ := (H2.out.mono BoolR.mono HB).bool_cell (by rw [hn.out]; omega)
      have c1 := ga k (by rw [hn.out]; exact hk1)
      have c2 := gb k (by rw [hn.out]; exact hk1)
      have HBB := Lib.hid HB
      generalize l.getD k false = x at *
      clear ga gb hkn ek HB
      cases x
      · go_wp2_with fail
        go_quiet (fail)
        have ek := EK.out
        go_wp2
        go_roundw
        case rel => exact ⟨k + 1, by omega, by simp, by repeat (first | exact HBB.out | apply Bel.drew | apply Bel.drewN)⟩
        case measure => simp [intOf]; omega
      · go_wp2_with fail
        go_quiet (fail)
        have ek := EK.out
        go_wp2
        go_roundw
        case rel => exact ⟨k + 1, by omega, by simp, by repeat (first | exact HBB.out | apply Bel.drew | apply Bel.drewN)⟩
        case measure => simp [intOf]; omega
end Go.Proofs.Ytpfnjbebfihkeaa
