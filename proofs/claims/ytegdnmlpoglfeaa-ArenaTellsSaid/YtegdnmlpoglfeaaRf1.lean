/- The document's May (chapter 13) by its contract: it is what arena's is. -/
import Derived.Test.YtegdnmlpoglfeaaArRef1
set_option linter.unusedVariables false
set_option linter.unusedSimpArgs false
namespace Go.Proofs.Ytegdnmlpoglfeaa
open Go.RowKit

theorem may_false {m : MemD} {i : Nat} (hi : i < m.l.length) (h : ¬ BlkOk m i) : mayM m = false := by
  cases hm : mayM m with
  | false => rfl
  | true => exact absurd ((mayM_iff.1 hm).blk i hi) h
theorem prev_nonneg {m : MemD} : ∀ {i : Nat}, i < m.l.length → (∀ j, j < i → BlkOk m j) → 0 ≤ prevEnd m.l i
  | 0, _, _ => by unfold prevEnd; rw [if_pos rfl]; exact Int.le_refl _
  | i + 1, hi, h => by
    have ih := prev_nonneg (m := m) (show i < m.l.length by omega) (fun j hj => h j (by omega))
    have b := (h i (by omega)).lo
    rw [prevEnd_succ]
    omega
set_option maxHeartbeats 8000000 in
set_option maxRecDepth 100000 in
theorem may13_any (cap : Int) (A : Option Addr) (n c : Nat) (l : List BlkD) (r : Bool) (w : World) (h : Sl BlkR 3 w A c l) (hn : Hid (l.length = n)) (hlen : Hid (∀ i, i < l.length → (l[i]!).w.length ≤ 4000)) (hr : Hid (mayM ⟨cap, l⟩ = r)) :
    Calls Try.prog 28 #[.agg #[.int .i64 cap, .slice A n c]] w fun e w' => e = .returned (.bool r) ∧ Bel w w' := by
  have HB := Lib.hid ((Bel.refl w).alloc (.cells #[.int .i64 cap, .slice A n c] 26))
  have HS := Lib.hid (h.mono BlkR.mono HB.out)
  have KM := Lib.hid (Blk.new w 26 #[.int .i64 cap, .slice A n c])
  have HBIG : Hid (n ≤ 9223372036854775807) := Lib.hid (by rw [← hn.out]; have := h.le; have := h.big; simp only [maxLen] at this; omega)
  have q0 := KM.out.cell 0 (v := .int .i64 cap) rfl
  have q1 := KM.out.cell 1 (v := .slice A n c) rfl
  clear h
  by_cases hc0 : cap < 0
  · have HRF : Hid (r = false) := Lib.hid (by
      rw [← hr.out]
      cases hm : mayM ⟨cap, l⟩ with
      | false => rfl
      | true => have := (mayM_iff.1 hm).cap0; simp only at this; omega)
    go_enter Try.func28, Try.ntmps28
    go_wp2_with fail
    go_ret
    exact ⟨by rw [HRF.out]; rfl, HB.out⟩
  by_cases hc1 : 1024 < cap
  · have HRF : Hid (r = false) := Lib.hid (by
      rw [← hr.out]
      cases hm : mayM ⟨cap, l⟩ with
      | false => rfl
      | true => have := (mayM_iff.1 hm).cap1; simp only at this; omega)
    go_enter Try.func28, Try.ntmps28
    go_wp2_with fail
    go_ret
    exact ⟨by rw [HRF.out]; rfl, HB.out⟩
  go_enter Try.func28, Try.ntmps28
  go_wp2_with fail
  generalize w.alloc (.cells #[.int .i64 cap, .slice A n c] 26) = W1 at *
  generalize w.heap.size = g at *
  clear q0 q1
  have HC := Lib.hid (And.intro hc0 hc1)
  clear hc0 hc1
  go_loopw [3] (fun iv wr => ∃ i : Nat, iv = .int .i64 i ∧ i ≤ n ∧ Hid (∀ j, j < i → BlkOk ⟨cap, l⟩ j) ∧ Hid (Bel W1 wr)) (fun iv _ => n - (intOf iv).toNat)
  case atStart => exact ⟨0, rfl, Nat.zero_le _, Lib.hid (fun j hj => absurd hj (Nat.not_lt_zero _)), Lib.hid (Bel.refl _)⟩
  case round =>
    obtain ⟨i, rfl, hin, HOKS, HBr⟩ := hrel
    have q0 := (KM.out.bel HBr.out).cell 0 (v := .int .i64 cap) rfl
    have q1 := (KM.out.bel HBr.out).cell 1 (v := .slice A n c) rfl
    by_cases hie : i = n
    · subst hie
      have HRT : Hid (r = true) := Lib.hid (by
        rw [← hr.out]
        exact mayM_iff.2 ⟨by have := HC.out.1; simp only; omega, by have := HC.out.2; simp only; omega, fun j hj => HOKS.out j (by rw [← hn.out]; exact hj)⟩)
      go_wp2_with fail
      go_ret
      exact ⟨by rw [HRT.out]; rfl, HB.out.trans HBr.out⟩
    have hi1 : i < n := by omega
    have hi2 : (i : Int) < n := by omega
    have i0 : 0 ≤ (i : Int) := by omega
    have ei : IntKind.i64.wrap ((i : Int) + 1) = (i : Int) + 1 := wrap_i64 (by omega) (by have := HBIG.out; omega)
    have hil : i < l.length := by rw [hn.out]; exact hi1
    have hs := HS.out.mono BlkR.mono HBr.out
    obtain ⟨b0, o0, rfl⟩ := hs.addr (by rw [hn.out]; omega)
    obtain ⟨Aw, cw, d0, d1, d2, -, -, -⟩ := blk_cells hs i hil
    have hw4 := hlen.out i hil
    obtain ⟨mw, hmw⟩ : ∃ mw, Hid ((l[i]!).w.length = mw) := ⟨_, Lib.hid rfl⟩
    obtain ⟨id, hid⟩ : ∃ id, Hid ((l[i]!).id = id) := ⟨_, Lib.hid rfl⟩
    obtain ⟨at', hat⟩ : ∃ at', Hid ((l[i]!).at' = at') := ⟨_, Lib.hid rfl⟩
    rw [hmw.out] at d2 hw4
    rw [hid.out] at d0
    rw [hat.out] at d1
    have HPE : Hid (0 ≤ prevEnd l i) := Lib.hid (prev_nonneg (m := ⟨cap, l⟩) hil HOKS.out)
    have NOTB : Hid (¬ BlkOk ⟨cap, l⟩ i → r = false) := Lib.hid (fun h => by rw [← hr.out]; exact may_false hil h)
    clear hs hie
    have hbx := (Bel.refl wr).alloc (.cells #[.int .i64 id, .int .i64 at', .slice Aw mw cw] 33)
    have q0x := hbx.cell q0
    have q1x := hbx.cell q1
    by_cases c1 : id < 1
    · have HRF := Lib.hid (NOTB.out (fun hb => by have h1 := hb.id1; have h2 := hb.len; have h3 := hb.lo; have h4 := hb.hi; have h5 := HC.out; have h6 := HPE.out; simp only at h1 h2 h3 h4 h5 h6; rw [hid.out] at h1; rw [hmw.out] at h2 h4; rw [hat.out] at h3 h4; omega))
      go_wp2_with fail
      go_ret
      exact ⟨by rw [HRF.out]; rfl, by repeat (first | exact HB.out.trans HBr.out | refine Bel.alloc ?_ _)⟩
    by_cases c2 : (mw : Int) < 1
    · have HRF := Lib.hid (NOTB.out (fun hb => by have h1 := hb.id1; have h2 := hb.len; have h3 := hb.lo; have h4 := hb.hi; have h5 := HC.out; have h6 := HPE.out; simp only at h1 h2 h3 h4 h5 h6; rw [hid.out] at h1; rw [hmw.out] at h2 h4; rw [hat.out] at h3 h4; omega))
      go_wp2_with fail
      go_ret
      exact ⟨by rw [HRF.out]; rfl, by repeat (first | exact HB.out.trans HBr.out | refine Bel.alloc ?_ _)⟩
    by_cases c3 : at' < 0
    · have HRF := Lib.hid (NOTB.out (fun hb => by have h1 := hb.id1; have h2 := hb.len; have h3 := hb.lo; have h4 := hb.hi; have h5 := HC.out; have h6 := HPE.out; simp only at h1 h2 h3 h4 h5 h6; rw [hid.out] at h1; rw [hmw.out] at h2 h4; rw [hat.out] at h3 h4; omega))
      go_wp2_with fail
      go_ret
      exact ⟨by rw [HRF.out]; rfl, by repeat (first | exact HB.out.trans HBr.out | refine Bel.alloc ?_ _)⟩
    by_cases c4 : 1024 < at'
    · have HRF := Lib.hid (NOTB.out (fun hb => by have h1 := hb.id1; have h2 := hb.len; have h3 := hb.lo; have h4 := hb.hi; have h5 := HC.out; have h6 := HPE.out; simp only at h1 h2 h3 h4 h5 h6; rw [hid.out] at h1; rw [hmw.out] at h2 h4; rw [hat.out] at h3 h4; omega))
      go_wp2_with fail
      go_ret
      exact ⟨by rw [HRF.out]; rfl, by repeat (first | exact HB.out.trans HBr.out | refine Bel.alloc ?_ _)⟩
    have ea : IntKind.i64.wrap (at' + (mw : Int)) = at' + mw := wrap_i64 (by omega) (by omega)
    by_cases c5 : cap < at' + (mw : Int)
    · have HRF := Lib.hid (NOTB.out (fun hb => by have h1 := hb.id1; have h2 := hb.len; have h3 := hb.lo; have h4 := hb.hi; have h5 := HC.out; have h6 := HPE.out; simp only at h1 h2 h3 h4 h5 h6; rw [hid.out] at h1; rw [hmw.out] at h2 h4; rw [hat.out] at h3 h4; omega))
      go_wp2_with fail
      go_ret
      exact ⟨by rw [HRF.out]; rfl, by repeat (first | exact HB.out.trans HBr.out | refine Bel.alloc ?_ _)⟩
    have HBX := Lib.hid (HBr.out.trans hbx)
    have KB := Lib.hid (Blk.new wr 33 #[.int .i64 id, .int .i64 at', .slice Aw mw cw])
    by_cases hi00 : i = 0
    · subst hi00
      have HLO : Hid (prevEnd l 0 ≤ at') := Lib.hid (by unfold prevEnd; rw [if_pos rfl]; omega)
      have x0 := KB.out.cell 0 (v := .int .i64 id) rfl
      have x1 := KB.out.cell 1 (v := .int .i64 at') rfl
      simp only [Nat.zero_mul, Nat.add_zero] at d0 d1 d2
      clear hbx
      go_wp2_with fail
      go_quiet (fail)
      go_wp2_with fail
      have HBZ := Lib.hid ((Bel.refl (wr.alloc (.cells #[.int .i64 id, .int .i64 at', .slice Aw mw cw] 33))).drewN nq)
      have KBZ := Lib.hid (KB.out.bel HBZ.out)
      have HBW := Lib.hid (HBX.out.trans HBZ.out)
      clear x0 x1 q0x q1x q0 q1 d0 d1 d2 HBZ
      generalize (wr.alloc (.cells #[.int .i64 id, .int .i64 at', .slice Aw mw cw] 33)).drewN nq = W5 at *
      generalize wr.heap.size = gb at *
      go_loopw [5] (fun kv wr => ∃ k : Nat, kv = .int .i64 k ∧ k ≤ 0 ∧ Hid (∀ j, j < k → (l[j]!).id ≠ id) ∧ Hid (Bel W5 wr)) (fun kv _ => 0 - (intOf kv).toNat)
      case atStart => exact ⟨0, rfl, Nat.zero_le _, Lib.hid (fun j hj => absurd hj (Nat.not_lt_zero _)), Lib.hid (Bel.refl _)⟩
      case round =>
        obtain ⟨k, rfl, hki, HID, HBi⟩ := hrel
        have HBk := Lib.hid (HBW.out.trans HBi.out)
        by_cases hke : k = 0
        · have hke2 := hke.symm
          subst hke2
          have HOK2 : Hid (∀ j, j < 0 + 1 → BlkOk ⟨cap, l⟩ j) := Lib.hid (fun j hj => by
            by_cases e : j = 0
            · subst e
              refine ⟨?_, fun k hk => ?_, ?_, ?_, ?_, ?_⟩
              · rw [hid.out]; omega
              · rw [hid.out]; exact HID.out k hk
              · rw [hmw.out]; omega
              · rw [hat.out]; exact HLO.out
              · rw [hat.out, hmw.out]; simp only; omega
              · rw [hmw.out]; simp only; omega
            · exact HOKS.out j (by omega))
          go_wp2
          go_roundw
          case rel => exact ⟨0 + 1, by simp, by omega, HOK2, HBk⟩
          case measure => simp [intOf]; omega
        exact absurd hki (by omega)
    obtain ⟨j, hj⟩ : ∃ j, Hid (i = j + 1) := ⟨i - 1, Lib.hid (by omega)⟩
    have ej : IntKind.i64.wrap ((i : Int) - 1) = (j : Int) := by
      have := hj.out
      have := HBIG.out
      rw [wrap_i64 (by omega) (by omega)]
      omega
    have hji : j < i := by have := hj.out; omega
    have hjl : j < l.length := by omega
    have hjn : j < n := by omega
    have hjn2 : (j : Int) < n := by omega
    have hsx := HS.out.mono BlkR.mono HBX.out
    obtain ⟨Aj, cj, -, p1, p2, -, -, -⟩ := blk_cells hsx j hjl
    have hbj := HOKS.out j hji
    obtain ⟨mj, hmj⟩ : ∃ mj, Hid ((l[j]!).w.length = mj) := ⟨_, Lib.hid rfl⟩
    obtain ⟨aj, haj⟩ : ∃ aj, Hid ((l[j]!).at' = aj) := ⟨_, Lib.hid rfl⟩
    have HPV : Hid (prevEnd l i = aj + mj) := Lib.hid (by rw [hj.out, prevEnd_succ, haj.out, hmj.out])
    have hwj := hlen.out j hjl
    have hjhi := hbj.hi
    have hjlen := hbj.len
    simp only at hjhi hjlen
    rw [hmj.out] at p2 hwj hjhi hjlen
    rw [haj.out] at p1 hjhi
    have hcap := HC.out.2
    have hpe := HPE.out
    rw [HPV.out] at hpe
    have eaj : IntKind.i64.wrap (aj + (mj : Int)) = aj + mj := wrap_i64 (by omega) (by omega)
    have x0 := KB.out.cell 0 (v := .int .i64 id) rfl
    have x1 := KB.out.cell 1 (v := .int .i64 at') rfl
    have hip : (0 : Int) < i := by omega
    have hip2 : 0 < i := by omega
    have hip3 : decide (0 < i) = true := decide_eq_true (by omega)
    clear hbx hsx hbj
    by_cases c6 : at' < aj + mj
    · have HRF := Lib.hid (NOTB.out (fun hb => by
        have h3 := hb.lo
        simp only at h3
        rw [hat.out, HPV.out] at h3
        omega))
      go_wp2_with fail
      go_quiet (fail)
      go_wp2_with fail
      go_ret
      exact ⟨by rw [HRF.out]; rfl, by repeat (first | exact HB.out.trans HBX.out | apply Bel.drew | apply Bel.drewN | refine Bel.alloc ?_ _)⟩
    have HLO : Hid (prevEnd l i ≤ at') := Lib.hid (by rw [HPV.out]; omega)
    clear hjhi hjlen hpe hcap hji hjl
    go_wp2_with fail
    go_quiet (fail)
    go_wp2_with fail
    have HBZ := Lib.hid ((Bel.refl (wr.alloc (.cells #[.int .i64 id, .int .i64 at', .slice Aw mw cw] 33))).drewN nq)
    have KBZ := Lib.hid (KB.out.bel HBZ.out)
    have HBW := Lib.hid (HBX.out.trans HBZ.out)
    clear x0 x1 q0x q1x q0 q1 d0 d1 d2 HBZ
    generalize (wr.alloc (.cells #[.int .i64 id, .int .i64 at', .slice Aw mw cw] 33)).drewN nq = W5 at *
    generalize wr.heap.size = gb at *
    go_loopw [5] (fun kv wr => ∃ k : Nat, kv = .int .i64 k ∧ k ≤ i ∧ Hid (∀ j, j < k → (l[j]!).id ≠ id) ∧ Hid (Bel W5 wr)) (fun kv _ => i - (intOf kv).toNat)
    case atStart => exact ⟨0, rfl, Nat.zero_le _, Lib.hid (fun j hj => absurd hj (Nat.not_lt_zero _)), Lib.hid (Bel.refl _)⟩
    case round =>
      obtain ⟨k, rfl, hki, HID, HBi⟩ := hrel
      have HBk := Lib.hid (HBW.out.trans HBi.out)
      by_cases hke : k = i
      · have hke2 := hke.symm
        subst hke2
        have HOK2 : Hid (∀ j, j < i + 1 → BlkOk ⟨cap, l⟩ j) := Lib.hid (fun j hj => by
          by_cases e : j = i
          · subst e
            refine ⟨?_, fun k hk => ?_, ?_, ?_, ?_, ?_⟩
            · rw [hid.out]; omega
            · rw [hid.out]; exact HID.out k hk
            · rw [hmw.out]; omega
            · rw [hat.out]; exact HLO.out
            · rw [hat.out, hmw.out]; simp only; omega
            · rw [hmw.out]; simp only; omega
          · exact HOKS.out j (by omega))
        go_wp2
        go_roundw
        case rel => exact ⟨i + 1, by simp, by omega, HOK2, HBk⟩
        case measure => simp [intOf]; omega
      have hk1 : k < i := by omega
      have hk2 : (k : Int) < (i : Nat) := by omega
      have k0 : 0 ≤ (k : Int) := by omega
      have hkn : k < n := by omega
      have hkn2 : (k : Int) < n := by omega
      have ek : IntKind.i64.wrap ((k : Int) + 1) = (k : Int) + 1 := wrap_i64 (by omega) (by have := HBIG.out; omega)
      obtain ⟨Ak, ck, y0, -, -, -, -, -⟩ := blk_cells (HS.out.mono BlkR.mono HBk.out) k (by rw [hn.out]; exact hkn)
      obtain ⟨idk, hidk⟩ : ∃ x, Hid ((l[k]!).id = x) := ⟨_, Lib.hid rfl⟩
      rw [hidk.out] at y0
      have x0 := (KBZ.out.bel HBi.out).cell 0 (v := .int .i64 id) rfl
      have q1 := (KM.out.bel HBk.out).cell 1 (v := .slice (some ⟨b0, o0, none⟩) n c) rfl
      by_cases hsame : idk = id
      · have HRF := Lib.hid (NOTB.out (fun hb => hb.ids k hk1 (by simp only; rw [hidk.out, hid.out, hsame])))
        have t0 : (idk == id) = true := by simpa using hsame
        clear hke hsame
        go_wp2_with fail
        go_quiet (fail)
        go_wp2_with fail
        go_ret
        exact ⟨by rw [HRF.out]; rfl, by repeat (first | exact HB.out.trans HBk.out | apply Bel.drew | apply Bel.drewN)⟩
      have t0 : (idk == id) = false := by simpa using hsame
      have HID2 : Hid (∀ j, j < k + 1 → (l[j]!).id ≠ id) := Lib.hid (fun j hj => by
        by_cases e : j = k
        · subst e; rw [hidk.out]; exact hsame
        · exact HID.out j (by omega))
      clear hke hsame
      go_wp2_with fail
      go_quiet (fail)
      go_wp2
      go_roundw
      case rel => exact ⟨k + 1, by simp, by omega, HID2, Lib.hid (by repeat (first | exact HBi.out | apply Bel.drew | apply Bel.drewN))⟩
      case measure => simp [intOf]; omega
end Go.Proofs.Ytegdnmlpoglfeaa
