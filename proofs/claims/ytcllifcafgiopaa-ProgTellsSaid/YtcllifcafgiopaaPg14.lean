/- The document's Same by its contract. -/
import Derived.Test.YtcllifcafgiopaaPgRow
set_option linter.unusedVariables false
set_option linter.unusedSimpArgs false
namespace Go.Proofs.Ytcllifcafgiopaa
open Go.RowKit

set_option maxHeartbeats 8000000 in
set_option maxRecDepth 100000 in
theorem refSame_any (A B : Option Addr) (n m ca cb : Nat) (l k : List FnD) (r : Bool) (w : World) (h1 : Sl FnR 2 w A ca l) (h2 : Sl FnR 2 w B cb k) (hn : Hid (l.length = n)) (hm : Hid (k.length = m)) (hr : Hid (decide (l = k) = r)) :
    Calls Try.prog 13 #[.agg #[.slice A n ca], .agg #[.slice B m cb]] w fun e w' => e = .returned (.bool r) ∧ Bel w w' := by
  have HB := Lib.hid (((Bel.refl w).alloc (.cells #[.slice A n ca] 24)).alloc (.cells #[.slice B m cb] 24))
  have HS1 := Lib.hid (h1.mono FnR.mono HB.out)
  have HS2 := Lib.hid (h2.mono FnR.mono HB.out)
  have K1 := Lib.hid ((Blk.new w 24 #[.slice A n ca]).alloc (.cells #[.slice B m cb] 24))
  have K2 : Hid (Blk ((w.alloc (.cells #[.slice A n ca] 24)).alloc (.cells #[.slice B m cb] 24)) (w.heap.size + 1) 24 #[.slice B m cb]) := Lib.hid (by
    have := Blk.new (w.alloc (.cells #[.slice A n ca] 24)) 24 #[.slice B m cb]
    simpa using this)
  have HBIG : Hid (n ≤ 9223372036854775807) := Lib.hid (by rw [← hn.out]; have := h1.le; have := h1.big; simp only [maxLen] at this; omega)
  clear h1 h2
  have q1 := K1.out.cell 0 rfl
  have q2 := K2.out.cell 0 rfl
  by_cases hnm : n = m
  case neg =>
    have t0 : ((n : Int) != (m : Int)) = true := by simp only [bne_iff_ne, ne_eq]; omega
    have HR : Hid (r = false) := Lib.hid (ne_dec hr.out (fun e => hnm (by rw [← hn.out, ← hm.out, e])))
    clear hnm
    go_enter Try.func13, Try.ntmps13
    go_wp2_with fail
    go_ret
    exact ⟨by rw [HR.out]; simp, HB.out⟩
  subst hnm
  have t0 : ((n : Int) != (n : Int)) = false := by simp
  go_enter Try.func13, Try.ntmps13
  go_wp2_with fail
  generalize (w.alloc (.cells #[.slice A n ca] 24)).alloc (.cells #[.slice B n cb] 24) = W1 at *
  generalize w.heap.size = g at *
  clear q1 q2
  go_loopw [5] (fun iv wr => ∃ i : Nat, iv = .int .i64 i ∧ i ≤ n ∧ Hid (∀ j (h1 : j < l.length) (h2 : j < k.length), j < i → l[j] = k[j]) ∧ Hid (Bel W1 wr)) (fun iv _ => n - (intOf iv).toNat)
  case atStart => exact ⟨0, rfl, Nat.zero_le _, Lib.hid (fun j _ _ hj => absurd hj (Nat.not_lt_zero _)), Lib.hid (Bel.refl _)⟩
  case round =>
    obtain ⟨i, rfl, hi, HT, HBK⟩ := hrel
    have q1 := (K1.out.bel HBK.out).cell 0 rfl
    have q2 := (K2.out.bel HBK.out).cell 0 rfl
    by_cases hin : i = n
    · subst hin
      have HR : Hid (r = true) := Lib.hid (by
        rw [← hr.out]
        exact decide_eq_true (fns_ext (hn.out.trans hm.out.symm) (fun j h1 h3 => HT.out j h1 h3 (by rw [← hn.out]; exact h1))))
      go_wp2_with fail
      go_ret
      exact ⟨by rw [HR.out]; simp, HB.out.trans HBK.out⟩
    · have hi1 : i < n := by omega
      have hi2 : (i : Int) < n := by omega
      have i0 : 0 ≤ (i : Int) := by omega
      have ei : IntKind.i64.wrap ((i : Int) + 1) = (i : Int) + 1 := wrap_i64 (by omega) (by have := HBIG.out; omega)
      have hil : i < l.length := by rw [hn.out]; exact hi1
      have hik : i < k.length := by rw [hm.out]; exact hi1
      have hs1 := HS1.out.mono FnR.mono HBK.out
      have hs2 := HS2.out.mono FnR.mono HBK.out
      obtain ⟨b1, o1, rfl⟩ := hs1.addr (by omega)
      obtain ⟨b2, o2, rfl⟩ := hs2.addr (by omega)
      obtain ⟨A1, c1, d0, d1, hc1⟩ := fn_cells hs1 i hil
      obtain ⟨A2, c2, e0, e1, hc2⟩ := fn_cells hs2 i hik
      have NOT : Hid (l[i] ≠ k[i] → r = false) := Lib.hid (fun h => ne_dec hr.out (fun e => h (by subst e; rfl)))
      have NXT : Hid (l[i] = k[i] → ∀ j (h1 : j < l.length) (h2 : j < k.length), j < i + 1 → l[j] = k[j]) := Lib.hid (fun h j h1 h2 hj => by
        by_cases e : j = i
        · subst e; exact h
        · exact HT.out j h1 h2 (by omega))
      generalize l[i] = X at *
      generalize k[i] = Y at *
      obtain ⟨gx, lx⟩ := X
      obtain ⟨gy, ly⟩ := Y
      simp only at d0 d1 e0 e1 hc1 hc2
      obtain ⟨n1, hn1⟩ : ∃ n1, Hid (lx.length = n1) := ⟨_, Lib.hid rfl⟩
      obtain ⟨n2, hn2⟩ : ∃ n2, Hid (ly.length = n2) := ⟨_, Lib.hid rfl⟩
      rw [hn1.out] at d1
      rw [hn2.out] at e1
      have HBX := Lib.hid (((Bel.refl wr).alloc (.cells #[.int .i64 gx, .slice A1 n1 c1] 38)).alloc (.cells #[.int .i64 gy, .slice A2 n2 c2] 38))
      have HC1 := Lib.hid (hc1.mono InstR.mono HBX.out)
      have HC2 := Lib.hid (hc2.mono InstR.mono HBX.out)
      have HBX1 := ((Bel.refl wr).alloc (.cells #[.int .i64 gx, .slice A1 n1 c1] 38))
      have g0 := HBX1.cell e0
      have g1 := HBX1.cell e1
      have g2 := HBX1.cell q2
      have F1 := Lib.hid ((Blk.new wr 38 #[.int .i64 gx, .slice A1 n1 c1]).alloc (.cells #[.int .i64 gy, .slice A2 n2 c2] 38))
      have F2 : Hid (Blk ((wr.alloc (.cells #[.int .i64 gx, .slice A1 n1 c1] 38)).alloc (.cells #[.int .i64 gy, .slice A2 n2 c2] 38)) (wr.heap.size + 1) 38 #[.int .i64 gy, .slice A2 n2 c2]) := Lib.hid (by
        have := Blk.new (wr.alloc (.cells #[.int .i64 gx, .slice A1 n1 c1] 38)) 38 #[.int .i64 gy, .slice A2 n2 c2]
        simpa using this)
      have p10 := F1.out.cell 0 rfl
      have p11 := F1.out.cell 1 rfl
      have p20 := F2.out.cell 0 rfl
      have p21 := F2.out.cell 1 rfl
      have hbig1 : n1 ≤ 9223372036854775807 := by rw [← hn1.out]; have := hc1.le; have := hc1.big; simp only [maxLen] at this; omega
      clear hs1 hs2 hin hc1 hc2 HBX1
      by_cases hg : gx = gy
      case neg =>
        have t1 : (gx != gy) = true := by simpa using hg
        have HR := Lib.hid (NOT.out (fun e => hg (by simp only [FnD.mk.injEq] at e; exact e.1)))
        clear hg
        go_wp2_with fail
        go_ret
        exact ⟨by rw [HR.out]; simp, HB.out.trans (HBK.out.trans HBX.out)⟩
      subst hg
      have t1 : (gx != gx) = false := by simp
      by_cases hn12 : n1 = n2
      case neg =>
        have t2 : ((n1 : Int) != (n2 : Int)) = true := by simp only [bne_iff_ne, ne_eq]; omega
        have HR := Lib.hid (NOT.out (fun e => hn12 (by simp only [FnD.mk.injEq] at e; rw [← hn1.out, ← hn2.out, e.2])))
        clear hn12
        go_wp2_with fail
        go_ret
        exact ⟨by rw [HR.out]; simp, HB.out.trans (HBK.out.trans HBX.out)⟩
      subst hn12
      have t2 : ((n1 : Int) != (n1 : Int)) = false := by simp
      have HBIG1 := Lib.hid hbig1
      go_wp2_with fail
      have HBX := Lib.hid (HBK.out.trans HBX.out)
      clear d0 d1 e0 e1 g0 g1 g2 p10 p11 p20 p21 q1 q2 hbig1
      generalize (wr.alloc (.cells #[.int .i64 gx, .slice A1 n1 c1] 38)).alloc (.cells #[.int .i64 gx, .slice A2 n1 c2] 38) = W3 at *
      generalize wr.heap.size = gg at *
      go_loopw [8] (fun kv wi => ∃ q : Nat, kv = .int .i64 q ∧ q ≤ n1 ∧ Hid (∀ j, j < q → lx[j]! = ly[j]!) ∧ Hid (Bel W3 wi)) (fun kv _ => n1 - (intOf kv).toNat)
      case atStart => exact ⟨0, rfl, Nat.zero_le _, Lib.hid (fun j hj => absurd hj (Nat.not_lt_zero _)), Lib.hid (Bel.refl _)⟩
      case round =>
        obtain ⟨q, rfl, hq, HU, HBI⟩ := hrel
        have p11 := (F1.out.bel HBI.out).cell 1 rfl
        have p21 := (F2.out.bel HBI.out).cell 1 rfl
        by_cases hqn : q = n1
        · subst hqn
          have XN := Lib.hid (NXT.out (by
            rw [insts_ext (hn1.out.trans hn2.out.symm) (fun j hj => HU.out j (by rw [← hn1.out]; exact hj))]))
          have HBJ := Lib.hid (HBX.out.trans HBI.out)
          go_wp2
          go_roundw
          case rel => exact ⟨i + 1, by simp, by omega, XN, HBJ⟩
          case measure => simp [intOf]; omega
        · have hq1 : q < n1 := by omega
          have hq2 : (q : Int) < n1 := by omega
          have q0 : 0 ≤ (q : Int) := by omega
          have eq : IntKind.i64.wrap ((q : Int) + 1) = (q : Int) + 1 := wrap_i64 (by omega) (by have := HBIG1.out; omega)
          have hql : q < lx.length := by rw [hn1.out]; exact hq1
          have hqk : q < ly.length := by rw [hn2.out]; exact hq1
          have hs1 := HC1.out.mono InstR.mono HBI.out
          have hs2 := HC2.out.mono InstR.mono HBI.out
          obtain ⟨b3, o3, rfl⟩ := hs1.addr (by omega)
          obtain ⟨b4, o4, rfl⟩ := hs2.addr (by omega)
          obtain ⟨c0, c1, c2, c3, c4, c5, c6, -⟩ := hs1.inst_at hql
          obtain ⟨d0, d1, d2, d3, d4, d5, d6, -⟩ := hs2.inst_at hqk
          obtain ⟨b, hb⟩ : ∃ b, Hid (decide (lx[q]! = ly[q]!) = b) := ⟨_, Lib.hid rfl⟩
          have NE := inst_neq (lx[q]!) (ly[q]!) b hb
          have NOT2 : Hid (lx[q]! ≠ ly[q]! → r = false) := Lib.hid (fun h => NOT.out (fun e => h (by simp only [FnD.mk.injEq] at e; rw [e.2])))
          have NXT2 : Hid (lx[q]! = ly[q]! → ∀ j, j < q + 1 → lx[j]! = ly[j]!) := Lib.hid (fun h j hj => by
            by_cases e : j = q
            · subst e; exact h
            · exact HU.out j (by omega))
          generalize lx[q]! = X at *
          generalize ly[q]! = Y at *
          obtain ⟨op, fn, dst, src, reg, off, imm⟩ := X
          obtain ⟨op2, fn2, dst2, src2, reg2, off2, imm2⟩ := Y
          simp only at c0 c1 c2 c3 c4 c5 c6 d0 d1 d2 d3 d4 d5 d6 NE
          clear hs1 hs2 hqn
          have HBJ := Lib.hid (HBX.out.trans HBI.out)
          cases b
          · have HR := Lib.hid (NOT2.out (of_decide_eq_false hb.out))
            simp only [Bool.not_false] at NE
            go_wp2_with fail
            go_quiet (fail)
            go_wp2_with fail
            go_ret
            exact ⟨by rw [HR.out]; simp, by repeat (first | exact HB.out.trans HBJ.out | apply Bel.drew | apply Bel.drewN)⟩
          · have XN := Lib.hid (NXT2.out (of_decide_eq_true hb.out))
            simp only [Bool.not_true] at NE
            go_wp2_with fail
            go_quiet (fail)
            go_wp2
            go_roundw
            case rel => exact ⟨q + 1, by simp, by omega, XN, Lib.hid (by repeat (first | exact HBI.out | apply Bel.drew | apply Bel.drewN))⟩
            case measure => simp [intOf]; omega
end Go.Proofs.Ytcllifcafgiopaa
