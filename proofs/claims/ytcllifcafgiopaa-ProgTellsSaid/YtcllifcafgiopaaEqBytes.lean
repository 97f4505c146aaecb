/- Whether two lists of numbers are the same: drydock/drydockref01.Bytes by its contract. -/
import Derived.Test.YtcllifcafgiopaaProg
import Derived.Test.YtcllifcafgiopaaRead
import Derived.KernelRfl
import Derived.WalkLawsBesides
import Derived.WalkSpells
import Derived.LoopTactic
import Derived.BigQuiet
import Derived.Deep.QuietTactic
import Derived.Lib.Hide
set_option linter.unusedVariables false
set_option linter.unusedSimpArgs false
namespace Go.Proofs.Ytcllifcafgiopaa
open Go.RowKit

set_option maxHeartbeats 1000000 in
theorem bytes_any (A B : Option Addr) (ca cb : Nat) (l m : List Int) (w : World) (h1 : Sl (IntR .u8) 1 w A ca l) (h2 : Sl (IntR .u8) 1 w B cb m) :
    Calls Try.prog 14 #[.slice A l.length ca, .slice B m.length cb] w fun e w' => e = .returned (.bool (decide (l = m))) ∧ ∃ z, w' = w.drewN z := by
  have b1 : l.length ≤ 9223372036854775807 := by have := h1.le; have := h1.big; simp only [maxLen] at this; omega
  have b2 : m.length ≤ 9223372036854775807 := by have := h2.le; have := h2.big; simp only [maxLen] at this; omega
  have H1 := Lib.hid h1
  have H2 := Lib.hid h2
  clear h1 h2
  obtain ⟨n, hn⟩ : ∃ n, l.length = n := ⟨_, rfl⟩
  obtain ⟨q, hq⟩ : ∃ n, m.length = n := ⟨_, rfl⟩
  rw [hn] at b1 ⊢
  rw [hq] at b2 ⊢
  have HN := Lib.hid hn
  have HQ := Lib.hid hq
  clear hn hq
  by_cases hne : n = q
  · subst hne
    have t0 : ((n : Int) != (n : Int)) = false := by simp
    go_enter Try.func14, Try.ntmps14
    go_wp2
    go_loopw [5] (fun i wr => ∃ k : Nat, k ≤ n ∧ i = .int .i64 k ∧ Hid (∀ j, j < k → l.getD j 0 = m.getD j 0) ∧ Drw w wr) (fun i _ => n - (intOf i).toNat)
    case atStart => exact ⟨0, by omega, rfl, Lib.hid (fun j hj => absurd hj (by omega)), Drw.refl _⟩
    case round =>
      obtain ⟨k, hk, rfl, HE, HB⟩ := hrel
      obtain ⟨wo, rfl⟩ : ∃ wo : World, wo = wr := ⟨_, rfl⟩
      by_cases hlt : k < n
      · obtain ⟨ba, oa, rfl, ga⟩ := (H1.out.mono (IntR.mono _) HB.bel).int_cell (by rw [HN.out]; omega)
        obtain ⟨bb, ob, rfl, gb⟩ := (H2.out.mono (IntR.mono _) HB.bel).int_cell (by rw [HQ.out]; omega)
        have c1 := (ga k (by rw [HN.out]; exact hlt)).1
        have c2 := (gb k (by rw [HQ.out]; exact hlt)).1
        clear ga gb
        have i0 : (0 : Int) ≤ (k : Int) := Int.natCast_nonneg _
        have i1 : (k : Int) < (n : Int) := by omega
        by_cases he : l.getD k 0 = m.getD k 0
        · have t1 : (l.getD k 0 != m.getD k 0) = false := by simpa using he
          have HE' : Hid (∀ j, j < k + 1 → l.getD j 0 = m.getD j 0) := Lib.hid (fun j hj => by
            by_cases hj' : j < k
            · exact HE.out j hj'
            · obtain rfl : j = k := by omega
              exact he)
          clear he HE
          generalize l.getD k 0 = x at *
          generalize m.getD k 0 = y at *
          go_wp2
          go_quiet (fail)
          go_wp2
          go_roundw
          case rel => exact ⟨k + 1, by omega, by go_num, HE', HB.step _⟩
          case measure => simp [intOf]; omega
        · have t1 : (l.getD k 0 != m.getD k 0) = true := by simpa using he
          have hd : Hid (decide (l = m) = false) := Lib.hid (decide_eq_false (fun e => he (by rw [e])))
          clear he HE
          generalize l.getD k 0 = x at *
          generalize m.getD k 0 = y at *
          go_wp2
          go_quiet (fail)
          go_wp2
          go_ret
          exact ⟨by rw [hd.out]; rfl, (HB.step _).out⟩
      · obtain rfl : k = n := by omega
        have hd : Hid (decide (l = m) = true) := Lib.hid (decide_eq_true (List.ext_getElem (by rw [HN.out, HQ.out]) (fun j h3 h4 => by
          have := HE.out j (by rw [← HN.out]; exact h3)
          simpa [List.getD_eq_getElem?_getD, List.getElem?_eq_getElem h3, List.getElem?_eq_getElem h4] using this)))
        go_wp2
        go_ret
        exact ⟨by rw [hd.out]; rfl, HB.out⟩
  · have t0 : ((n : Int) != (q : Int)) = true := by rw [bne_iff_ne]; omega
    have hd : Hid (decide (l = m) = false) := Lib.hid (decide_eq_false (fun e => hne (by rw [← HN.out, ← HQ.out, e])))
    clear hne
    go_enter Try.func14, Try.ntmps14
    go_wp2
    go_ret
    exact ⟨by rw [hd.out]; rfl, 0, rfl⟩
end Go.Proofs.Ytcllifcafgiopaa
