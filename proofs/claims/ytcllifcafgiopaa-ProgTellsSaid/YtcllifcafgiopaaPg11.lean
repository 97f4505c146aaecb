/- prog.Same by its contract. -/
import Derived.Test.YtcllifcafgiopaaPg10
set_option linter.unusedVariables false
set_option linter.unusedSimpArgs false
namespace Go.Proofs.Ytcllifcafgiopaa
open Go.RowKit

instance : DecidableEq FnD := fun a b => decidable_of_iff (a.args = b.args ∧ a.code = b.code) ⟨fun ⟨h1, h2⟩ => by cases a; cases b; simp_all, fun h => by subst h; exact ⟨rfl, rfl⟩⟩
theorem insts_ext {l k : List InstD} (h : l.length = k.length) (h2 : ∀ j, j < l.length → l[j]! = k[j]!) : l = k :=
  List.ext_getElem h fun i hi hj => by
    have := h2 i hi
    rwa [getElem!_pos l i hi, getElem!_pos k i hj] at this
theorem fns_ext {l k : List FnD} (h : l.length = k.length) (h2 : ∀ j (h1 : j < l.length) (h3 : j < k.length), l[j] = k[j]) : l = k :=
  List.ext_getElem h fun i hi hj => h2 i hi hj
theorem ne_dec {α : Type} [DecidableEq α] {a b : α} {r : Bool} (hr : decide (a = b) = r) (h : a = b → False) : r = false := by rw [← hr]; exact decide_eq_false h
set_option maxHeartbeats 8000000 in
set_option maxRecDepth 100000 in
theorem eqInsts_any (A B : Option Addr) (n m ca cb : Nat) (l k : List InstD) (r : Bool) (w : World) (h1 : Sl InstR 7 w A ca l) (h2 : Sl InstR 7 w B cb k) (hn : Hid (l.length = n)) (hm : Hid (k.length = m)) (hr : Hid (decide (l = k) = r)) :
    Calls Try.prog 30 #[.slice A n ca, .slice B m cb] w fun e w' => e = .returned (.bool r) ∧ Bel w w' := by
  have HS1 := Lib.hid h1
  have HS2 := Lib.hid h2
  have HBIG : Hid (n ≤ 9223372036854775807) := Lib.hid (by rw [← hn.out]; have := h1.le; have := h1.big; simp only [maxLen] at this; omega)
  clear h1 h2
  by_cases hnm : n = m
  · subst hnm
    have t0 : ((n : Int) != (n : Int)) = false := by simp
    go_enter Try.func30, Try.ntmps30
    go_wp2_with fail
    go_loopw [13] (fun iv wr => ∃ i : Nat, iv = .int .i64 i ∧ i ≤ n ∧ Hid (∀ j, j < i → l[j]! = k[j]!) ∧ Bel w wr) (fun iv _ => n - (intOf iv).toNat)
    case atStart => exact ⟨0, rfl, Nat.zero_le _, Lib.hid (fun j hj => absurd hj (Nat.not_lt_zero _)), Bel.refl _⟩
    case round =>
      obtain ⟨i, rfl, hi, HT, hbk⟩ := hrel
      have HBK := Lib.hid hbk
      by_cases hin : i = n
      · subst hin
        have HR : Hid (r = true) := Lib.hid (by
          rw [← hr.out]
          exact decide_eq_true (insts_ext (hn.out.trans hm.out.symm) (fun j hj => HT.out j (by rw [← hn.out]; exact hj))))
        go_wp2_with fail
        go_ret
        exact ⟨by rw [HR.out]; rfl, HBK.out⟩
      · have hi1 : i < n := by omega
        have hi2 : (i : Int) < n := by omega
        have i0 : 0 ≤ (i : Int) := by omega
        have ei : IntKind.i64.wrap ((i : Int) + 1) = (i : Int) + 1 := wrap_i64 (by omega) (by have := HBIG.out; omega)
        have hil : i < l.length := by rw [hn.out]; exact hi1
        have hik : i < k.length := by rw [hm.out]; exact hi1
        have hs1 := HS1.out.mono InstR.mono hbk
        have hs2 := HS2.out.mono InstR.mono hbk
        obtain ⟨b1, o1, rfl⟩ := hs1.addr (by omega)
        obtain ⟨b2, o2, rfl⟩ := hs2.addr (by omega)
        obtain ⟨c0, c1, c2, c3, c4, c5, c6, -⟩ := hs1.inst_at hil
        obtain ⟨d0, d1, d2, d3, d4, d5, d6, -⟩ := hs2.inst_at hik
        obtain ⟨b, hb⟩ : ∃ b, Hid (decide (l[i]! = k[i]!) = b) := ⟨_, Lib.hid rfl⟩
        have NE := inst_neq (l[i]!) (k[i]!) b hb
        have NOT : Hid (l[i]! ≠ k[i]! → r = false) := Lib.hid (fun h => ne_dec hr.out (fun e => h (by rw [e])))
        have NXT : Hid (l[i]! = k[i]! → ∀ j, j < i + 1 → l[j]! = k[j]!) := Lib.hid (fun h j hj => by
          by_cases e : j = i
          · subst e; exact h
          · exact HT.out j (by omega))
        generalize l[i]! = X at *
        generalize k[i]! = Y at *
        obtain ⟨op, fn, dst, src, reg, off, imm⟩ := X
        obtain ⟨op2, fn2, dst2, src2, reg2, off2, imm2⟩ := Y
        simp only at c0 c1 c2 c3 c4 c5 c6 d0 d1 d2 d3 d4 d5 d6 NE
        clear hbk hs1 hs2 hin
        cases b
        · have HR := Lib.hid (NOT.out (of_decide_eq_false hb.out))
          simp only [Bool.not_false] at NE
          go_wp2_with fail
          go_quiet (fail)
          go_wp2_with fail
          go_ret
          exact ⟨by rw [HR.out]; rfl, by repeat (first | exact HBK.out | apply Bel.drew | apply Bel.drewN)⟩
        · have XN := Lib.hid (NXT.out (of_decide_eq_true hb.out))
          simp only [Bool.not_true] at NE
          go_wp2_with fail
          go_quiet (fail)
          go_wp2
          go_roundw
          case rel => exact ⟨i + 1, by simp, by omega, XN, by repeat (first | exact HBK.out | apply Bel.drew | apply Bel.drewN)⟩
          case measure => simp [intOf]; omega
  · have t0 : ((n : Int) != (m : Int)) = true := by simp only [bne_iff_ne, ne_eq]; omega
    have HR : Hid (r = false) := Lib.hid (ne_dec hr.out (fun e => hnm (by rw [← hn.out, ← hm.out, e])))
    clear hnm
    go_enter Try.func30, Try.ntmps30
    go_wp2_with fail
    go_ret
    exact ⟨by rw [HR.out]; rfl, Bel.refl _⟩
set_option maxHeartbeats 8000000 in
set_option maxRecDepth 100000 in
theorem same1_any (g1 g2 : Int) (A B : Option Addr) (n m ca cb : Nat) (l k : List InstD) (r : Bool) (w : World) (h1 : Sl InstR 7 w A ca l) (h2 : Sl InstR 7 w B cb k) (hn : Hid (l.length = n)) (hm : Hid (k.length = m)) (hr : Hid (decide ((⟨g1, l⟩ : FnD) = ⟨g2, k⟩) = r)) :
    Calls Try.prog 29 #[.agg #[.int .i64 g1, .slice A n ca], .agg #[.int .i64 g2, .slice B m cb]] w fun e w' => e = .returned (.bool r) ∧ Bel w w' := by
  have HB := Lib.hid (((Bel.refl w).alloc (.cells #[.int .i64 g1, .slice A n ca] 38)).alloc (.cells #[.int .i64 g2, .slice B m cb] 38))
  have HS1 := Lib.hid (h1.mono InstR.mono HB.out)
  have HS2 := Lib.hid (h2.mono InstR.mono HB.out)
  clear h1 h2
  by_cases hg : g1 = g2
  · subst hg
    have t0 : (g1 == g1) = true := by simp
    obtain ⟨b, hb⟩ : ∃ b, Hid (decide (l = k) = b) := ⟨_, Lib.hid rfl⟩
    have HR : Hid (r = b) := Lib.hid (by
      rw [← hr.out, ← hb.out]
      simp)
    go_enter Try.func29, Try.ntmps29
    go_wp2_with fail
    refine (eqInsts_any A B n m ca cb l k b _ HS1.out HS2.out hn hm hb).mono ?_
    rintro e w1 ⟨rfl, hb1⟩
    have HB1 := HB.out.trans hb1
    go_wp2_with fail
    go_ret
    exact ⟨by rw [HR.out]; first | rfl | simp, HB1⟩
  · have t0 : (g1 == g2) = false := by simpa using hg
    have HR : Hid (r = false) := Lib.hid (ne_dec hr.out (fun e => hg (by simp only [FnD.mk.injEq] at e; exact e.1)))
    clear hg
    go_enter Try.func29, Try.ntmps29
    go_wp2_with fail
    go_ret
    exact ⟨by rw [HR.out]; rfl, HB.out⟩
set_option maxHeartbeats 8000000 in
set_option maxRecDepth 100000 in
theorem eqFns_any (A B : Option Addr) (n m ca cb : Nat) (l k : List FnD) (r : Bool) (w : World) (h1 : Sl FnR 2 w A ca l) (h2 : Sl FnR 2 w B cb k) (hn : Hid (l.length = n)) (hm : Hid (k.length = m)) (hr : Hid (decide (l = k) = r)) :
    Calls Try.prog 28 #[.slice A n ca, .slice B m cb, .func (.func 29) #[] #[]] w fun e w' => e = .returned (.bool r) ∧ Bel w w' := by
  have HS1 := Lib.hid h1
  have HS2 := Lib.hid h2
  have HBIG : Hid (n ≤ 9223372036854775807) := Lib.hid (by rw [← hn.out]; have := h1.le; have := h1.big; simp only [maxLen] at this; omega)
  clear h1 h2
  by_cases hnm : n = m
  · subst hnm
    have t0 : ((n : Int) != (n : Int)) = false := by simp
    go_enter Try.func28, Try.ntmps28
    go_wp2_with fail
    go_loopw [17] (fun iv wr => ∃ i : Nat, iv = .int .i64 i ∧ i ≤ n ∧ Hid (∀ j (h1 : j < l.length) (h2 : j < k.length), j < i → l[j] = k[j]) ∧ Bel w wr) (fun iv _ => n - (intOf iv).toNat)
    case atStart => exact ⟨0, rfl, Nat.zero_le _, Lib.hid (fun j _ _ hj => absurd hj (Nat.not_lt_zero _)), Bel.refl _⟩
    case round =>
      obtain ⟨i, rfl, hi, HT, hbk⟩ := hrel
      have HBK := Lib.hid hbk
      by_cases hin : i = n
      · subst hin
        have HR : Hid (r = true) := Lib.hid (by
          rw [← hr.out]
          exact decide_eq_true (fns_ext (hn.out.trans hm.out.symm) (fun j h1 h3 => HT.out j h1 h3 (by rw [← hn.out]; exact h1))))
        go_wp2_with fail
        go_ret
        exact ⟨by rw [HR.out]; rfl, HBK.out⟩
      · have hi1 : i < n := by omega
        have hi2 : (i : Int) < n := by omega
        have i0 : 0 ≤ (i : Int) := by omega
        have ei : IntKind.i64.wrap ((i : Int) + 1) = (i : Int) + 1 := wrap_i64 (by omega) (by have := HBIG.out; omega)
        have hil : i < l.length := by rw [hn.out]; exact hi1
        have hik : i < k.length := by rw [hm.out]; exact hi1
        have hs1 := HS1.out.mono FnR.mono hbk
        have hs2 := HS2.out.mono FnR.mono hbk
        obtain ⟨b1, o1, rfl⟩ := hs1.addr (by omega)
        obtain ⟨b2, o2, rfl⟩ := hs2.addr (by omega)
        obtain ⟨A1, c1, d0, d1, hc1⟩ := fn_cells hs1 i hil
        obtain ⟨A2, c2, e0, e1, hc2⟩ := fn_cells hs2 i hik
        obtain ⟨b, hb⟩ : ∃ b, Hid (decide (l[i] = k[i]) = b) := ⟨_, Lib.hid rfl⟩
        have NOT : Hid (l[i] ≠ k[i] → r = false) := Lib.hid (fun h => ne_dec hr.out (fun e => h (by subst e; rfl)))
        have NXT : Hid (l[i] = k[i] → ∀ j (h1 : j < l.length) (h2 : j < k.length), j < i + 1 → l[j] = k[j]) := Lib.hid (fun h j h1 h2 hj => by
          by_cases e : j = i
          · subst e; exact h
          · exact HT.out j h1 h2 (by omega))
        generalize l[i] = X at *
        generalize k[i] = Y at *
        obtain ⟨gx, lx⟩ := X
        obtain ⟨gy, ly⟩ := Y
        simp only at d0 d1 e0 e1
        obtain ⟨n1, hn1⟩ : ∃ n1, Hid (lx.length = n1) := ⟨_, Lib.hid rfl⟩
        obtain ⟨n2, hn2⟩ : ∃ n2, Hid (ly.length = n2) := ⟨_, Lib.hid rfl⟩
        rw [hn1.out] at d1
        rw [hn2.out] at e1
        have HBX := Lib.hid (((Bel.refl wr).alloc (.cells #[.int .i64 gx, .slice A1 n1 c1] 38)).alloc (.cells #[.int .i64 gy, .slice A2 n2 c2] 38))
        have HC1 := Lib.hid (hc1.mono InstR.mono HBX.out)
        have HC2 := Lib.hid (hc2.mono InstR.mono HBX.out)
        have g0 := ((Bel.refl wr).alloc (.cells #[.int .i64 gx, .slice A1 n1 c1] 38)).cell e0
        have g1 := ((Bel.refl wr).alloc (.cells #[.int .i64 gx, .slice A1 n1 c1] 38)).cell e1
        clear hbk hs1 hs2 hin hc1 hc2
        go_wp2_with fail
        refine (same1_any gx gy A1 A2 n1 n2 c1 c2 lx ly b _ HC1.out HC2.out hn1 hn2 hb).mono ?_
        rintro e w5 ⟨rfl, hb5⟩
        have HB5 := Lib.hid (HBK.out.trans (HBX.out.trans hb5))
        clear hb5 d0 d1 e0 e1 g0 g1
        cases b
        · have HR := Lib.hid (NOT.out (of_decide_eq_false hb.out))
          go_wp2_with fail
          go_ret
          exact ⟨by rw [HR.out]; rfl, HB5.out⟩
        · have XN := Lib.hid (NXT.out (of_decide_eq_true hb.out))
          go_wp2
          go_roundw
          case rel => exact ⟨i + 1, by simp, by omega, XN, HB5.out⟩
          case measure => simp [intOf]; omega
  · have t0 : ((n : Int) != (m : Int)) = true := by simp only [bne_iff_ne, ne_eq]; omega
    have HR : Hid (r = false) := Lib.hid (ne_dec hr.out (fun e => hnm (by rw [← hn.out, ← hm.out, e])))
    clear hnm
    go_enter Try.func28, Try.ntmps28
    go_wp2_with fail
    go_ret
    exact ⟨by rw [HR.out]; rfl, Bel.refl _⟩
set_option maxHeartbeats 4000000 in
set_option maxRecDepth 100000 in
theorem progSame_any (A B : Option Addr) (n m ca cb : Nat) (l k : List FnD) (r : Bool) (w : World) (h1 : Sl FnR 2 w A ca l) (h2 : Sl FnR 2 w B cb k) (hn : Hid (l.length = n)) (hm : Hid (k.length = m)) (hr : Hid (decide (l = k) = r)) :
    Calls Try.prog 16 #[.agg #[.slice A n ca], .agg #[.slice B m cb]] w fun e w' => e = .returned (.bool r) ∧ Bel w w' := by
  have HB := Lib.hid (((Bel.refl w).alloc (.cells #[.slice A n ca] 24)).alloc (.cells #[.slice B m cb] 24))
  have HS1 := Lib.hid (h1.mono FnR.mono HB.out)
  have HS2 := Lib.hid (h2.mono FnR.mono HB.out)
  clear h1 h2
  go_enter Try.func16, Try.ntmps16
  go_wp2_with fail
  refine (eqFns_any A B n m ca cb l k r _ HS1.out HS2.out hn hm hr).mono ?_
  rintro e w1 ⟨rfl, hb1⟩
  have HB1 := HB.out.trans hb1
  go_wp2_with fail
  go_ret
  exact ⟨rfl, HB1⟩
end Go.Proofs.Ytcllifcafgiopaa
