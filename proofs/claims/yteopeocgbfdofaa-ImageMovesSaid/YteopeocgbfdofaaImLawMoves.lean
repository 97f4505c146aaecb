/- ImageMoves: its walk. -/
import Derived.Test.YteopeocgbfdofaaImLawInside
set_option linter.unusedVariables false
set_option linter.unusedSimpArgs false
namespace Go.Proofs.Yteopeocgbfdofaa
open Go.RowKit

set_option maxHeartbeats 8000000 in
set_option maxRecDepth 100000 in
theorem ImageMoves_walk (C : Array Value) (L : List FnD) (a b : Int) (W : World) (hp : ProgR W C.toList L) (ha : (Lit.int .i64 a).wf = true) (hb : (Lit.int .i64 b).wf = true) :
    Calls Try.prog 4 #[.agg C, .int .i64 a, .int .i64 b] W fun e w' => e = .returned (.bool true) ∧ Bel W w' := by
  obtain ⟨A, c, hC, hsl⟩ := hp
  obtain rfl : C = #[.slice A L.length c] := by cases C; simpa using hC
  clear hC ha hb
  obtain ⟨n, hn0⟩ : ∃ n, L.length = n := ⟨_, rfl⟩
  have hn := Lib.hid hn0
  rw [hn0]
  have HBa := Lib.hid ((Bel.refl W).alloc (.cells #[.slice A n c] 24))
  have HS := Lib.hid (hsl.mono FnR.mono HBa.out)
  have K1 := Lib.hid (One.new W 24 (.slice A n c))
  have HIMM := Lib.hid (sl_imm hsl)
  obtain ⟨fv, hfv⟩ : ∃ fv, Hid (fewB L = fv) := ⟨_, Lib.hid rfl⟩
  clear hsl hn0
  go_enter Try.func4, Try.ntmps4
  go_wp2_with fail
  generalize W.alloc (.cells #[.slice A n c] 24) = W1 at *
  generalize W.heap.size = g at *
  refine (awake_any _).mono ?_
  rintro e w1 ⟨rfl, hb⟩
  have HB1 := Lib.hid hb
  clear hb
  have q1 := (K1.out.bel HB1.out).cell1 rfl
  go_wp2_with fail
  refine (refFew_any A c n L fv _ (HS.out.mono FnR.mono HB1.out) hn hfv).mono ?_
  rintro e w2 ⟨rfl, hb⟩
  have HB2 := Lib.hid (HB1.out.trans hb)
  clear hb q1 HB1
  cases fv
  · go_wp2_with fail
    go_ret
    exact ⟨rfl, HBa.out.trans HB2.out⟩
  have q2 := (K1.out.bel HB2.out).cell1 rfl
  obtain ⟨va, ea, hma⟩ : ∃ ws er, Hid (imgMake L a = (ws, er)) := ⟨_, _, Lib.hid rfl⟩
  obtain ⟨m, hm⟩ : ∃ m, Hid (va.length = m) := ⟨_, Lib.hid rfl⟩
  obtain ⟨vb, eb, hmb⟩ : ∃ ws er, Hid (imgMake L b = (ws, er)) := ⟨_, _, Lib.hid rfl⟩
  obtain ⟨m2, hm2⟩ : ∃ m, Hid (vb.length = m) := ⟨_, Lib.hid rfl⟩
  go_wp2_with fail
  refine (make_any A c n L a _ (HS.out.mono FnR.mono HB2.out) hn va ea m hma hm).mono ?_
  rintro e w3 ⟨A3, c3, rfl, s3, hb⟩
  have HB3 := Lib.hid (HB2.out.trans hb)
  have S3 := Lib.hid s3
  clear hb s3 q2
  have q3 := (K1.out.bel HB3.out).cell1 rfl
  go_wp2_with fail
  refine (make_any A c n L b _ (HS.out.mono FnR.mono HB3.out) hn vb eb m2 hmb hm2).mono ?_
  rintro e w4 ⟨A4, c4, rfl, s4, hb⟩
  have HB4 := Lib.hid (HB3.out.trans hb)
  have S4 := Lib.hid (S3.out.mono (IntR.mono _) hb)
  have T4 := Lib.hid s4
  clear hb s4 q3 S3
  by_cases hea : ea = 0
  case neg =>
    go_wp2_with fail
    all_goals
      go_ret
      exact ⟨by first | rfl | simp, HBa.out.trans HB4.out⟩
  subst hea
  by_cases heb : eb = 0
  case neg =>
    go_wp2_with fail
    all_goals
      go_ret
      exact ⟨by first | rfl | simp, HBa.out.trans HB4.out⟩
  subst heb
  obtain ⟨o1, o2, o3, o4, o5, o6⟩ := make_ok HIMM.out hma.out
  obtain ⟨-, r2, r3, r4, -, -⟩ := make_ok HIMM.out hmb.out
  have hms : m = imgSize L := by rw [← hm.out, o4, List.length_map, o5]
  obtain rfl : m2 = m := by rw [← hm2.out, r4, List.length_map, o5, hms]
  rw [← hms] at o3 o5 o6 r3
  have HO := Lib.hid (And.intro o4 (And.intro r4 (And.intro o5 o6)))
  clear o1 o4 o5 o6 hms r4
  have t0 : ((m2 : Int) != (m2 : Int)) = false := by simp
  go_wp2_with fail
  clear t0
  go_loopw [13] (fun kv wr => ∃ k : Nat, kv = .int .i64 k ∧ k ≤ m2 ∧ Hid (Bel w4 wr)) (fun kv _ => m2 - (intOf kv).toNat)
  case atStart => exact ⟨0, rfl, Nat.zero_le _, Lib.hid (Bel.refl _)⟩
  case round =>
    obtain ⟨k, rfl, hkm, HBr⟩ := hrel
    by_cases hke : k = m2
    · subst hke
      go_wp2_with fail
      go_ret
      exact ⟨by first | rfl | simp, HBa.out.trans (HB4.out.trans HBr.out)⟩
    have hk1 : k < m2 := by omega
    have hk2 : (k : Int) < m2 := by omega
    have k0 : 0 ≤ (k : Int) := by omega
    have ek : IntKind.i64.wrap ((k : Int) + 1) = (k : Int) + 1 := wrap_i64 (by omega) (by omega)
    obtain ⟨b1, o1, hA, hc⟩ := (S4.out.mono (IntR.mono _) HBr.out).int_cell (by rw [hm.out]; omega)
    subst hA
    obtain ⟨b2, o2', hA2, hc2⟩ := (T4.out.mono (IntR.mono _) HBr.out).int_cell (by rw [hm2.out]; omega)
    subst hA2
    have d0 := (hc k (by rw [hm.out]; exact hk1)).1
    have d1 := (hc2 k (by rw [hm2.out]; exact hk1)).1
    obtain ⟨p, ⟨hpl, hpe⟩, hpk, hwa, hx0, hx1⟩ := word_at o2 o3 HO.out.1 HO.out.2.2.1 HO.out.2.2.2 hk1
    obtain ⟨p2, ⟨hpl2, hpe2⟩, -, hwb, hy0, hy1⟩ := word_at r2 r3 HO.out.2.1 HO.out.2.2.1 HO.out.2.2.2 hk1
    obtain rfl : p2 = p := by rw [← hpe2, ← hpe]
    have HSAME : Hid (¬ goes p2.1 → va.getD k 0 = vb.getD k 0) := Lib.hid (fun hg => by
      have hk2 : k < (desc L).length := hpl
      rw [HO.out.1, HO.out.2.1, List.getD_eq_getElem?_getD, List.getD_eq_getElem?_getD, List.getElem?_map, List.getElem?_map, List.getElem?_eq_getElem hk2]
      have e : ∀ z, wordTo z (desc L)[k] = 0 := fun z => by
        unfold wordTo
        rw [hpe]
        exact if_neg hg
      show wordAt a (desc L)[k] = wordAt b (desc L)[k]
      unfold wordAt
      rw [e, e])
    generalize va.getD k 0 = x at *
    generalize vb.getD k 0 = y at *
    have HX := Lib.hid (And.intro hx0 hx1)
    have HY := Lib.hid (And.intro hy0 hy1)
    clear hc hc2 hke hx0 hx1 hy0 hy1 hpe hpe2 hpl hpl2
    obtain ⟨⟨op, fn, dst, src, reg, off, imm⟩, dl⟩ := p2
    by_cases h1 : op = 1
    · subst h1
      clear HSAME
      obtain ⟨ta, hta⟩ : ∃ ta, wordTo a (⟨1, fn, dst, src, reg, off, imm⟩, dl) = ta := ⟨_, rfl⟩
      obtain ⟨tb, htb⟩ : ∃ tb, wordTo b (⟨1, fn, dst, src, reg, off, imm⟩, dl) = tb := ⟨_, rfl⟩
      have hgo := hpk.goes (.inl rfl)
      have hab : ta = a + dl ∧ tb = b + dl := by
        rw [← hta, ← htb]
        unfold wordTo
        rw [if_pos (.inl rfl), if_pos (.inl rfl)]
        exact ⟨rfl, rfl⟩
      rw [hta] at hwa
      rw [htb] at hwb
      have HWA : Hid (wget x = (⟨1, fn, dst, src, reg, 0, imm⟩, ta, 0)) := Lib.hid (by rw [hwa]; rfl)
      have HWB : Hid (wget y = (⟨1, fn, dst, src, reg, 0, imm⟩, tb, 0)) := Lib.hid (by rw [hwb]; rfl)
      simp only at hgo
      have e1 : IntKind.i64.wrap (tb - ta) = b - a := by
        rw [wrap_i64 (by omega) (by omega)]
        omega
      have e2 : IntKind.i64.wrap (b - a) = b - a := wrap_i64 (by omega) (by omega)
      have e3 : ((b - a : Int) != (b - a : Int)) = false := by simp
      clear hab hta htb hwa hwb hgo hpk
      have NE := inst_neq ⟨1, fn, dst, src, reg, 0, imm⟩ ⟨1, fn, dst, src, reg, 0, imm⟩ true (Lib.hid (by simp))
      simp only [Bool.not_true] at NE
      go_wp2_with fail
      refine (get_at x 1 fn dst src reg 0 imm (ta) 0 _ HX HWA).mono ?_
      rintro e wB ⟨rfl, hbB⟩
      have hbx := (Bel.refl wB).alloc (.cells #[.int .i64 1, .int .i64 fn, .int .i64 dst, .int .i64 src, .bool reg, .int .i64 0, .int .u32 imm] 34)
      have HBB := Lib.hid (HBr.out.trans (hbB.trans hbx))
      have d1 := hbx.cell (hbB.cell d1)
      have d0 := hbx.cell (hbB.cell d0)
      go_wp2_with fail
      refine (get_at y 1 fn dst src reg 0 imm (tb) 0 _ HY HWB).mono ?_
      rintro e wC ⟨rfl, hbC⟩
      have hby := (Bel.refl wC).alloc (.cells #[.int .i64 1, .int .i64 fn, .int .i64 dst, .int .i64 src, .bool reg, .int .i64 0, .int .u32 imm] 34)
      have HBC := Lib.hid (HBB.out.trans (hbC.trans hby))
      have d0 := hby.cell (hbC.cell d0)
      have d1 := hby.cell (hbC.cell d1)
      have i0 := hby.cell (hbC.cell (cell_fresh wB #[.int .i64 1, .int .i64 fn, .int .i64 dst, .int .i64 src, .bool reg, .int .i64 0, .int .u32 imm] 34 0 _ rfl))
      have i1 := hby.cell (hbC.cell (cell_fresh wB #[.int .i64 1, .int .i64 fn, .int .i64 dst, .int .i64 src, .bool reg, .int .i64 0, .int .u32 imm] 34 1 _ rfl))
      have i2 := hby.cell (hbC.cell (cell_fresh wB #[.int .i64 1, .int .i64 fn, .int .i64 dst, .int .i64 src, .bool reg, .int .i64 0, .int .u32 imm] 34 2 _ rfl))
      have i3 := hby.cell (hbC.cell (cell_fresh wB #[.int .i64 1, .int .i64 fn, .int .i64 dst, .int .i64 src, .bool reg, .int .i64 0, .int .u32 imm] 34 3 _ rfl))
      have i4 := hby.cell (hbC.cell (cell_fresh wB #[.int .i64 1, .int .i64 fn, .int .i64 dst, .int .i64 src, .bool reg, .int .i64 0, .int .u32 imm] 34 4 _ rfl))
      have i5 := hby.cell (hbC.cell (cell_fresh wB #[.int .i64 1, .int .i64 fn, .int .i64 dst, .int .i64 src, .bool reg, .int .i64 0, .int .u32 imm] 34 5 _ rfl))
      have i6 := hby.cell (hbC.cell (cell_fresh wB #[.int .i64 1, .int .i64 fn, .int .i64 dst, .int .i64 src, .bool reg, .int .i64 0, .int .u32 imm] 34 6 _ rfl))
      clear hbB hbx hbC hby
      go_wp2_with fail
      go_quiet (fail)
      go_wp2
      go_roundw
      case rel => exact ⟨k + 1, by simp, by omega, Lib.hid (by repeat (first | exact HBC.out | apply Bel.drew | apply Bel.drewN))⟩
      case measure => simp [intOf]; omega
    by_cases h6 : op = 6
    · subst h6
      clear HSAME
      obtain ⟨ta, hta⟩ : ∃ ta, wordTo a (⟨6, fn, dst, src, reg, off, imm⟩, dl) = ta := ⟨_, rfl⟩
      obtain ⟨tb, htb⟩ : ∃ tb, wordTo b (⟨6, fn, dst, src, reg, off, imm⟩, dl) = tb := ⟨_, rfl⟩
      have hgo := hpk.goes (.inr rfl)
      have hab : ta = a + dl ∧ tb = b + dl := by
        rw [← hta, ← htb]
        unfold wordTo
        rw [if_pos (.inr rfl), if_pos (.inr rfl)]
        exact ⟨rfl, rfl⟩
      rw [hta] at hwa
      rw [htb] at hwb
      have HWA : Hid (wget x = (⟨6, fn, dst, src, reg, 0, 0⟩, ta, 0)) := Lib.hid (by rw [hwa]; rfl)
      have HWB : Hid (wget y = (⟨6, fn, dst, src, reg, 0, 0⟩, tb, 0)) := Lib.hid (by rw [hwb]; rfl)
      simp only at hgo
      have e1 : IntKind.i64.wrap (tb - ta) = b - a := by
        rw [wrap_i64 (by omega) (by omega)]
        omega
      have e2 : IntKind.i64.wrap (b - a) = b - a := wrap_i64 (by omega) (by omega)
      have e3 : ((b - a : Int) != (b - a : Int)) = false := by simp
      clear hab hta htb hwa hwb hgo hpk
      have NE := inst_neq ⟨6, fn, dst, src, reg, 0, 0⟩ ⟨6, fn, dst, src, reg, 0, 0⟩ true (Lib.hid (by simp))
      simp only [Bool.not_true] at NE
      go_wp2_with fail
      refine (get_at x 6 fn dst src reg 0 0 (ta) 0 _ HX HWA).mono ?_
      rintro e wB ⟨rfl, hbB⟩
      have hbx := (Bel.refl wB).alloc (.cells #[.int .i64 6, .int .i64 fn, .int .i64 dst, .int .i64 src, .bool reg, .int .i64 0, .int .u32 0] 34)
      have HBB := Lib.hid (HBr.out.trans (hbB.trans hbx))
      have d1 := hbx.cell (hbB.cell d1)
      have d0 := hbx.cell (hbB.cell d0)
      go_wp2_with fail
      refine (get_at y 6 fn dst src reg 0 0 (tb) 0 _ HY HWB).mono ?_
      rintro e wC ⟨rfl, hbC⟩
      have hby := (Bel.refl wC).alloc (.cells #[.int .i64 6, .int .i64 fn, .int .i64 dst, .int .i64 src, .bool reg, .int .i64 0, .int .u32 0] 34)
      have HBC := Lib.hid (HBB.out.trans (hbC.trans hby))
      have d0 := hby.cell (hbC.cell d0)
      have d1 := hby.cell (hbC.cell d1)
      have i0 := hby.cell (hbC.cell (cell_fresh wB #[.int .i64 6, .int .i64 fn, .int .i64 dst, .int .i64 src, .bool reg, .int .i64 0, .int .u32 0] 34 0 _ rfl))
      have i1 := hby.cell (hbC.cell (cell_fresh wB #[.int .i64 6, .int .i64 fn, .int .i64 dst, .int .i64 src, .bool reg, .int .i64 0, .int .u32 0] 34 1 _ rfl))
      have i2 := hby.cell (hbC.cell (cell_fresh wB #[.int .i64 6, .int .i64 fn, .int .i64 dst, .int .i64 src, .bool reg, .int .i64 0, .int .u32 0] 34 2 _ rfl))
      have i3 := hby.cell (hbC.cell (cell_fresh wB #[.int .i64 6, .int .i64 fn, .int .i64 dst, .int .i64 src, .bool reg, .int .i64 0, .int .u32 0] 34 3 _ rfl))
      have i4 := hby.cell (hbC.cell (cell_fresh wB #[.int .i64 6, .int .i64 fn, .int .i64 dst, .int .i64 src, .bool reg, .int .i64 0, .int .u32 0] 34 4 _ rfl))
      have i5 := hby.cell (hbC.cell (cell_fresh wB #[.int .i64 6, .int .i64 fn, .int .i64 dst, .int .i64 src, .bool reg, .int .i64 0, .int .u32 0] 34 5 _ rfl))
      have i6 := hby.cell (hbC.cell (cell_fresh wB #[.int .i64 6, .int .i64 fn, .int .i64 dst, .int .i64 src, .bool reg, .int .i64 0, .int .u32 0] 34 6 _ rfl))
      clear hbB hbx hbC hby
      go_wp2_with fail
      go_quiet (fail)
      go_wp2
      go_roundw
      case rel => exact ⟨k + 1, by simp, by omega, Lib.hid (by repeat (first | exact HBC.out | apply Bel.drew | apply Bel.drewN))⟩
      case measure => simp [intOf]; omega
    have hng : ¬ goes (⟨op, fn, dst, src, reg, off, imm⟩ : InstD) := fun h => h.elim h1 h6
    obtain rfl : x = y := HSAME.out hng
    have hta : wordTo a (⟨op, fn, dst, src, reg, off, imm⟩, dl) = 0 := if_neg hng
    have htb : wordTo b (⟨op, fn, dst, src, reg, off, imm⟩, dl) = 0 := if_neg hng
    rw [hta] at hwa
    have HWA : Hid (wget x = (⟨op, fn, dst, src, reg, 0, imm⟩, 0, 0)) := Lib.hid (by
      rw [hwa]
      unfold normI
      rw [if_neg h6])
    have HWB := HWA
    have u1 : (op == 1) = false := by simpa using h1
    have u2 : (op == 6) = false := by simpa using h6
    have u3 : (x != x) = false := by simp
    clear hpk hwa hwb hta htb h1 h6 hng HSAME
    have NE := inst_neq ⟨op, fn, dst, src, reg, 0, imm⟩ ⟨op, fn, dst, src, reg, 0, imm⟩ true (Lib.hid (by simp))
    simp only [Bool.not_true] at NE
    go_wp2_with fail
    refine (get_at x op fn dst src reg 0 imm (0) 0 _ HX HWA).mono ?_
    rintro e wB ⟨rfl, hbB⟩
    have hbx := (Bel.refl wB).alloc (.cells #[.int .i64 op, .int .i64 fn, .int .i64 dst, .int .i64 src, .bool reg, .int .i64 0, .int .u32 imm] 34)
    have HBB := Lib.hid (HBr.out.trans (hbB.trans hbx))
    have d1 := hbx.cell (hbB.cell d1)
    have d0 := hbx.cell (hbB.cell d0)
    go_wp2_with fail
    refine (get_at x op fn dst src reg 0 imm (0) 0 _ HY HWB).mono ?_
    rintro e wC ⟨rfl, hbC⟩
    have hby := (Bel.refl wC).alloc (.cells #[.int .i64 op, .int .i64 fn, .int .i64 dst, .int .i64 src, .bool reg, .int .i64 0, .int .u32 imm] 34)
    have HBC := Lib.hid (HBB.out.trans (hbC.trans hby))
    have d0 := hby.cell (hbC.cell d0)
    have d1 := hby.cell (hbC.cell d1)
    have i0 := hby.cell (hbC.cell (cell_fresh wB #[.int .i64 op, .int .i64 fn, .int .i64 dst, .int .i64 src, .bool reg, .int .i64 0, .int .u32 imm] 34 0 _ rfl))
    have i1 := hby.cell (hbC.cell (cell_fresh wB #[.int .i64 op, .int .i64 fn, .int .i64 dst, .int .i64 src, .bool reg, .int .i64 0, .int .u32 imm] 34 1 _ rfl))
    have i2 := hby.cell (hbC.cell (cell_fresh wB #[.int .i64 op, .int .i64 fn, .int .i64 dst, .int .i64 src, .bool reg, .int .i64 0, .int .u32 imm] 34 2 _ rfl))
    have i3 := hby.cell (hbC.cell (cell_fresh wB #[.int .i64 op, .int .i64 fn, .int .i64 dst, .int .i64 src, .bool reg, .int .i64 0, .int .u32 imm] 34 3 _ rfl))
    have i4 := hby.cell (hbC.cell (cell_fresh wB #[.int .i64 op, .int .i64 fn, .int .i64 dst, .int .i64 src, .bool reg, .int .i64 0, .int .u32 imm] 34 4 _ rfl))
    have i5 := hby.cell (hbC.cell (cell_fresh wB #[.int .i64 op, .int .i64 fn, .int .i64 dst, .int .i64 src, .bool reg, .int .i64 0, .int .u32 imm] 34 5 _ rfl))
    have i6 := hby.cell (hbC.cell (cell_fresh wB #[.int .i64 op, .int .i64 fn, .int .i64 dst, .int .i64 src, .bool reg, .int .i64 0, .int .u32 imm] 34 6 _ rfl))
    clear hbB hbx hbC hby
    go_wp2_with fail
    go_quiet (fail)
    go_wp2
    go_roundw
    case rel => exact ⟨k + 1, by simp, by omega, Lib.hid (by repeat (first | exact HBC.out | apply Bel.drew | apply Bel.drewN))⟩
    case measure => simp [intOf]; omega
end Go.Proofs.Yteopeocgbfdofaa
