/- ImageInside: its walk. -/
import Derived.Test.YteopeocgbfdofaaImRow
set_option linter.unusedVariables false
set_option linter.unusedSimpArgs false
namespace Go.Proofs.Yteopeocgbfdofaa
open Go.RowKit

theorem make_err (L : List FnD) (base : Int) : (imgMake L base).2 = 0 ∨ imgMake L base = ([], (imgMake L base).2) := by
  unfold imgMake
  split
  · split
    · exact .inr rfl
    · exact .inl rfl
  · exact .inr rfl
/-- The word at a place. -/
theorem word_at {L : List FnD} {base : Int} {ws : List Int} {s : Nat} (hb : 0 ≤ base) (hs : base + s ≤ 1024) (hw : ws = (desc L).map (wordAt base)) (hl : (desc L).length = s) (hok : ∀ p ∈ desc L, Wok s p) {k : Nat} (hk : k < s) : ∃ p : InstD × Int, (∃ h : k < (desc L).length, (desc L)[k] = p) ∧ Wok s p ∧ wget (ws.getD k 0) = (normI p.1, wordTo base p, 0) ∧ 0 ≤ ws.getD k 0 ∧ ws.getD k 0 < 18446744073709551616 := by
  have hk2 : k < (desc L).length := by rw [hl]; exact hk
  have hp := hok _ (List.getElem_mem hk2)
  have e : ws.getD k 0 = wordAt base (desc L)[k] := by
    rw [hw, List.getD_eq_getElem?_getD, List.getElem?_map, List.getElem?_eq_getElem hk2]
    rfl
  have := word_get hb hs hp
  rw [e]
  exact ⟨_, ⟨hk2, rfl⟩, hp, this⟩
theorem desc_door {L : List FnD} {k : Nat} (hk : k < L.length) (h : k < (desc L).length) : (desc L)[k] = (doorI, (L.length : Int) + sz L k) := by
  have h1 : k < (dDoors L L.length).length := by rw [dDoors_len]; exact hk
  show (dDoors L L.length ++ dCodes L L.length)[k]'h = _
  exact (List.getElem_append_left h1).trans (dDoors_get L _ k h1)
set_option maxHeartbeats 8000000 in
set_option maxRecDepth 100000 in
theorem ImageInside_walk (C : Array Value) (L : List FnD) (base : Int) (W : World) (hp : ProgR W C.toList L) (hbw : (Lit.int .i64 base).wf = true) :
    Calls Try.prog 3 #[.agg C, .int .i64 base] W fun e w' => e = .returned (.bool true) ∧ Bel W w' := by
  obtain ⟨A, c, hC, hsl⟩ := hp
  obtain rfl : C = #[.slice A L.length c] := by cases C; simpa using hC
  clear hC hbw
  obtain ⟨n, hn0⟩ : ∃ n, L.length = n := ⟨_, rfl⟩
  have hn := Lib.hid hn0
  rw [hn0]
  have HBa := Lib.hid ((Bel.refl W).alloc (.cells #[.slice A n c] 24))
  have HS := Lib.hid (hsl.mono FnR.mono HBa.out)
  have K1 := Lib.hid (One.new W 24 (.slice A n c))
  have HIMM := Lib.hid (sl_imm hsl)
  obtain ⟨fv, hfv⟩ : ∃ fv, Hid (fewB L = fv) := ⟨_, Lib.hid rfl⟩
  clear hsl hn0
  go_enter Try.func3, Try.ntmps3
  go_wp2_with fail
  generalize W.alloc (.cells #[.slice A n c] 24) = W1 at *
  generalize W.heap.size = g at *
  refine (awake_any _).mono ?_
  rintro e w1 ⟨rfl, hb⟩
  have HB1 := Lib.hid hb
  clear hb
  have q1 := (K1.out.bel HB1.out).cell1 rfl
  go_wp2_with fail
  refine (refFew_any A c n L fv _ (HS.out.mono FnR.mono HB1.out) hn hfv).mono ?_
  rintro e w2 ⟨rfl, hb⟩
  have HB2 := Lib.hid (HB1.out.trans hb)
  clear hb q1 HB1
  cases fv
  · go_wp2_with fail
    go_ret
    exact ⟨rfl, HBa.out.trans HB2.out⟩
  have q2 := (K1.out.bel HB2.out).cell1 rfl
  obtain ⟨ws, er, hmk⟩ : ∃ ws er, Hid (imgMake L base = (ws, er)) := ⟨_, _, Lib.hid rfl⟩
  obtain ⟨m, hm⟩ : ∃ m, Hid (ws.length = m) := ⟨_, Lib.hid rfl⟩
  go_wp2_with fail
  refine (make_any A c n L base _ (HS.out.mono FnR.mono HB2.out) hn ws er m hmk hm).mono ?_
  rintro e w3 ⟨A3, c3, rfl, s3, hb⟩
  have HB3 := Lib.hid (HB2.out.trans hb)
  have S3 := Lib.hid s3
  clear hb s3 q2
  have q3 := (K1.out.bel HB3.out).cell1 rfl
  by_cases he : er = 0
  case neg =>
    obtain rfl : m = 0 := by
      rcases make_err L base with h | h
      · rw [hmk.out] at h
        exact absurd h he
      · rw [hmk.out] at h
        have := (Prod.mk.inj h).1
        rw [← hm.out, this]
        rfl
    go_wp2_with fail
    go_ret
    exact ⟨by first | rfl | simp, HBa.out.trans HB3.out⟩
  subst he
  obtain ⟨o1, o2, o3, o4, o5, o6⟩ := make_ok HIMM.out hmk.out
  have hms : m = imgSize L := by rw [← hm.out, o4, List.length_map, o5]
  have HMS := Lib.hid hms
  rw [← hms] at o3 o5 o6
  have HFI := Lib.hid (fine_of o1)
  have hn8 : n ≤ 8 := by rw [← hn.out]; exact HFI.out.n8
  have hn0 : 0 < n := by rw [← hn.out]; exact HFI.out.n0
  have HSIZE : Hid (m = n + sz L n) := Lib.hid (by
    rw [hms]
    unfold imgSize
    rw [if_pos o1, hn.out])
  have HO := Lib.hid (And.intro o4 (And.intro o5 o6))
  clear o1 o4 o5 o6 hms
  go_wp2_with fail
  refine (size_any A c n L _ (HS.out.mono FnR.mono HB3.out) hn m (Lib.hid HMS.out.symm)).mono ?_
  rintro e w4 ⟨rfl, hb⟩
  have HB4 := Lib.hid (HB3.out.trans hb)
  have S4 := Lib.hid (S3.out.mono (IntR.mono _) hb)
  have q4 := (K1.out.bel HB4.out).cell1 rfl
  clear hb S3 q3
  have t0 : ((m : Int) != (m : Int)) = false := by simp
  have t1 : ¬ base < 0 := by omega
  have t2 : ¬ (1024 : Int) < base + m := by omega
  have e1 : IntKind.i64.wrap (base + (m : Int)) = base + m := wrap_i64 (by omega) (by omega)
  have e2 : IntKind.i64.wrap (base + (n : Int)) = base + n := wrap_i64 (by omega) (by omega)
  go_wp2_with fail
  clear t0 t1 t2 e2
  go_loopw [9, 10] (fun av kv wr => ∃ (k : Nat) (t : Int), kv = .int .i64 k ∧ k ≤ m ∧ av = .int .i64 t ∧ Hid (atOf L base (min k n) = t) ∧ Hid (Bel w4 wr)) (fun _ kv _ => m - (intOf kv).toNat)
  case atStart => exact ⟨0, base + n, rfl, Nat.zero_le _, rfl, Lib.hid (by unfold atOf; rw [hn.out]; simp [sz]), Lib.hid (Bel.refl _)⟩
  case round =>
    obtain ⟨k, t, rfl, hkm, rfl, hat, HBr⟩ := hrel
    by_cases hke : k = m
    · subst hke
      go_wp2_with fail
      go_ret
      exact ⟨by first | rfl | simp, HBa.out.trans (HB4.out.trans HBr.out)⟩
    have hk1 : k < m := by omega
    have hk2 : (k : Int) < m := by omega
    have k0 : 0 ≤ (k : Int) := by omega
    have ek : IntKind.i64.wrap ((k : Int) + 1) = (k : Int) + 1 := wrap_i64 (by omega) (by omega)
    obtain ⟨b, o, hA, hc⟩ := (S4.out.mono (IntR.mono _) HBr.out).int_cell (by rw [hm.out]; omega)
    subst hA
    have d0 := (hc k (by rw [hm.out]; exact hk1)).1
    obtain ⟨p, ⟨hpl, hpe⟩, hpk, hwg, hx0, hx1⟩ := word_at o2 o3 HO.out.1 HO.out.2.1 HO.out.2.2 hk1
    generalize ws.getD k 0 = x at *
    have HX := Lib.hid (And.intro hx0 hx1)
    clear hc hke hx0 hx1
    by_cases hkn : k < n
    · have hkL : k < L.length := by rw [hn.out]; exact hkn
      have hpd := desc_door hkL hpl
      rw [hpe] at hpd
      subst hpd
      have hgo := hpk.goes (.inl rfl)
      have hto : wordTo base (doorI, (L.length : Int) + sz L k) = t := by
        unfold wordTo
        rw [if_pos (show goes doorI from .inl rfl), ← hat.out, Nat.min_eq_left (by omega)]
        unfold atOf
        omega
      rw [hto] at hwg
      have HWG : Hid (wget x = (⟨1, 0, 0, 0, false, 0, 0⟩, t, 0)) := Lib.hid hwg
      have hb1 : base ≤ t ∧ t < base + m := by
        unfold wordTo at hto
        rw [if_pos (show goes doorI from .inl rfl)] at hto
        simp only at hto hgo
        omega
      obtain ⟨hb1, hb2⟩ := hb1
      have u1 : ¬ t < base := by omega
      have u2 : ¬ base + (m : Int) ≤ t := by omega
      have u3 : (k : Int) < n := by omega
      have u4 : (t != t) = false := by simp
      obtain ⟨bp, op, hAp⟩ := HS.out.addr (by rw [hn.out]; exact hn0)
      subst hAp
      go_wp2_with fail
      refine (get_at x 1 0 0 0 false 0 0 (t) 0 _ HX HWG).mono ?_
      rintro e wB ⟨rfl, hbB⟩
      have hbx := (Bel.refl wB).alloc (.cells #[.int .i64 1, .int .i64 0, .int .i64 0, .int .i64 0, .bool false, .int .i64 0, .int .u32 0] 34)
      have HBB := Lib.hid (HBr.out.trans (hbB.trans hbx))
      have p9 := (K1.out.bel (HB4.out.trans HBB.out)).cell1 rfl
      obtain ⟨Ak, ck, -, e5, -⟩ := fn_cells (HS.out.mono FnR.mono (HB4.out.trans HBB.out)) k hkL
      obtain ⟨lk, hlk⟩ : ∃ lk, Hid ((L[k]).code.length = lk) := ⟨_, Lib.hid rfl⟩
      rw [hlk.out] at e5
      have hl64 : lk ≤ 64 := by rw [← hlk.out]; exact HFI.out.c64 _ (List.getElem_mem hkL)
      have e6 : IntKind.i64.wrap (t + (lk : Int)) = t + lk := wrap_i64 (by omega) (by omega)
      have HT2 : Hid (atOf L base (min (k + 1) n) = t + lk) := Lib.hid (by
        rw [← hat.out, Nat.min_eq_left (by omega), Nat.min_eq_left (by omega)]
        unfold atOf
        rw [sz, code_nth hkL, hlk.out]
        omega)
      clear hpk hwg hgo hto hbB hbx hpe
      go_wp2
      go_roundw
      case rel => exact ⟨k + 1, t + lk, by simp, by omega, rfl, HT2, HBB⟩
      case measure => simp [intOf]; omega
    · have u3 : ¬ (k : Int) < n := by omega
      have HT2 : Hid (atOf L base (min (k + 1) n) = t) := Lib.hid (by
        rw [← hat.out, Nat.min_eq_right (by omega), Nat.min_eq_right (by omega)])
      obtain ⟨⟨op, fn, dst, src, reg, off, imm⟩, dl⟩ := p
      clear hpe hkn
      by_cases h1 : op = 1
      · subst h1
        have hgo := hpk.goes (.inl rfl)
        obtain ⟨tq, hto⟩ : ∃ tq, wordTo base (⟨1, fn, dst, src, reg, off, imm⟩, dl) = tq := ⟨_, rfl⟩
        have hb1 : base ≤ tq ∧ tq < base + m := by
          rw [← hto]
          unfold wordTo
          rw [if_pos (.inl rfl)]
          simp only at hgo ⊢
          omega
        rw [hto] at hwg
        have HWG : Hid (wget x = (⟨1, fn, dst, src, reg, 0, imm⟩, tq, 0)) := Lib.hid (by rw [hwg]; rfl)
        obtain ⟨hb1, hb2⟩ := hb1
        have u1 : ¬ tq < base := by omega
        have u2 : ¬ base + (m : Int) ≤ tq := by omega
        clear hpk hwg hgo hto
        go_wp2_with fail
        refine (get_at x 1 fn dst src reg 0 imm (tq) 0 _ HX HWG).mono ?_
        rintro e wB ⟨rfl, hbB⟩
        have hbx := (Bel.refl wB).alloc (.cells #[.int .i64 1, .int .i64 fn, .int .i64 dst, .int .i64 src, .bool reg, .int .i64 0, .int .u32 imm] 34)
        have HBB := Lib.hid (HBr.out.trans (hbB.trans hbx))
        have p9 := (K1.out.bel (HB4.out.trans HBB.out)).cell1 rfl
        go_wp2
        go_roundw
        case rel => exact ⟨k + 1, t, by simp, by omega, rfl, HT2, HBB⟩
        case measure => simp [intOf]; omega
      by_cases h6 : op = 6
      · subst h6
        have hgo := hpk.goes (.inr rfl)
        obtain ⟨tq, hto⟩ : ∃ tq, wordTo base (⟨6, fn, dst, src, reg, off, imm⟩, dl) = tq := ⟨_, rfl⟩
        have hb1 : base ≤ tq ∧ tq < base + m := by
          rw [← hto]
          unfold wordTo
          rw [if_pos (.inr rfl)]
          simp only at hgo ⊢
          omega
        rw [hto] at hwg
        have HWG : Hid (wget x = (⟨6, fn, dst, src, reg, 0, 0⟩, tq, 0)) := Lib.hid (by rw [hwg]; rfl)
        obtain ⟨hb1, hb2⟩ := hb1
        have u1 : ¬ tq < base := by omega
        have u2 : ¬ base + (m : Int) ≤ tq := by omega
        clear hpk hwg hgo hto
        go_wp2_with fail
        refine (get_at x 6 fn dst src reg 0 0 (tq) 0 _ HX HWG).mono ?_
        rintro e wB ⟨rfl, hbB⟩
        have hbx := (Bel.refl wB).alloc (.cells #[.int .i64 6, .int .i64 fn, .int .i64 dst, .int .i64 src, .bool reg, .int .i64 0, .int .u32 0] 34)
        have HBB := Lib.hid (HBr.out.trans (hbB.trans hbx))
        have p9 := (K1.out.bel (HB4.out.trans HBB.out)).cell1 rfl
        go_wp2
        go_roundw
        case rel => exact ⟨k + 1, t, by simp, by omega, rfl, HT2, HBB⟩
        case measure => simp [intOf]; omega
      have hto : wordTo base (⟨op, fn, dst, src, reg, off, imm⟩, dl) = 0 := by
        unfold wordTo
        exact if_neg (fun h => h.elim h1 h6)
      rw [hto] at hwg
      have HWG : Hid (wget x = (⟨op, fn, dst, src, reg, 0, imm⟩, 0, 0)) := Lib.hid (by
        rw [hwg]
        unfold normI
        rw [if_neg h6])
      have u1 : (op == 1) = false := by simpa using h1
      have u2 : (op == 6) = false := by simpa using h6
      clear hpk hwg hto h1 h6
      go_wp2_with fail
      refine (get_at x op fn dst src reg 0 imm (0) 0 _ HX HWG).mono ?_
      rintro e wB ⟨rfl, hbB⟩
      have hbx := (Bel.refl wB).alloc (.cells #[.int .i64 op, .int .i64 fn, .int .i64 dst, .int .i64 src, .bool reg, .int .i64 0, .int .u32 imm] 34)
      have HBB := Lib.hid (HBr.out.trans (hbB.trans hbx))
      have p9 := (K1.out.bel (HB4.out.trans HBB.out)).cell1 rfl
      go_wp2
      go_roundw
      case rel => exact ⟨k + 1, t, by simp, by omega, rfl, HT2, HBB⟩
      case measure => simp [intOf]; omega
end Go.Proofs.Yteopeocgbfdofaa
