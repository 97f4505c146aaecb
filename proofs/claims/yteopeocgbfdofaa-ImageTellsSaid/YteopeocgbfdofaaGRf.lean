/- The document's May (chapter 13) by its contract: it is what arena's is. The document's Of, find and free (chapter 13) by their contracts. -/
import Derived.Test.YteopeocgbfdofaaZArRef1
set_option linter.unusedVariables false
set_option linter.unusedSimpArgs false
namespace Go.Proofs.Yteopeocgbfdofaa
open Go.RowKit

theorem may_false {m : MemD} {i : Nat} (hi : i < m.l.length) (h : ¬ BlkOk m i) : mayM m = false := by
  cases hm : mayM m with
  | false => rfl
  | true => exact absurd ((mayM_iff.1 hm).blk i hi) h
theorem prev_nonneg {m : MemD} : ∀ {i : Nat}, i < m.l.length → (∀ j, j < i → BlkOk m j) → 0 ≤ prevEnd m.l i
  | 0, _, _ => by unfold prevEnd; rw [if_pos rfl]; exact Int.le_refl _
  | i + 1, hi, h => by
    have ih := prev_nonneg (m := m) (show i < m.l.length by omega) (fun j hj => h j (by omega))
    have b := (h i (by omega)).lo
    rw [prevEnd_succ]
    omega
set_option maxHeartbeats 8000000 in
set_option maxRecDepth 100000 in
theorem may13_any (cap : Int) (A : Option Addr) (n c : Nat) (l : List BlkD) (r : Bool) (w : World) (h : Sl BlkR 3 w A c l) (hn : Hid (l.length = n)) (hlen : Hid (∀ i, i < l.length → (l[i]!).w.length ≤ 4000)) (hr : Hid (mayM ⟨cap, l⟩ = r)) :
    Calls Try.prog 38 #[.agg #[.int .i64 cap, .slice A n c]] w fun e w' => e = .returned (.bool r) ∧ Bel w w' := by
  have HB := Lib.hid ((Bel.refl w).alloc (.cells #[.int .i64 cap, .slice A n c] 45))
  have HS := Lib.hid (h.mono BlkR.mono HB.out)
  have KM := Lib.hid (Blk.new w 45 #[.int .i64 cap, .slice A n c])
  have HBIG : Hid (n ≤ 9223372036854775807) := Lib.hid (by rw [← hn.out]; have := h.le; have := h.big; simp only [maxLen] at this; omega)
  have q0 := KM.out.cell 0 (v := .int .i64 cap) rfl
  have q1 := KM.out.cell 1 (v := .slice A n c) rfl
  clear h
  by_cases hc0 : cap < 0
  · have HRF : Hid (r = false) := Lib.hid (by
      rw [← hr.out]
      cases hm : mayM ⟨cap, l⟩ with
      | false => rfl
      | true => have := (mayM_iff.1 hm).cap0; simp only at this; omega)
    go_enter Try.func38, Try.ntmps38
    go_wp2_with fail
    go_ret
    exact ⟨by rw [HRF.out]; rfl, HB.out⟩
  by_cases hc1 : 1024 < cap
  · have HRF : Hid (r = false) := Lib.hid (by
      rw [← hr.out]
      cases hm : mayM ⟨cap, l⟩ with
      | false => rfl
      | true => have := (mayM_iff.1 hm).cap1; simp only at this; omega)
    go_enter Try.func38, Try.ntmps38
    go_wp2_with fail
    go_ret
    exact ⟨by rw [HRF.out]; rfl, HB.out⟩
  go_enter Try.func38, Try.ntmps38
  go_wp2_with fail
  generalize w.alloc (.cells #[.int .i64 cap, .slice A n c] 45) = W1 at *
  generalize w.heap.size = g at *
  clear q0 q1
  have HC := Lib.hid (And.intro hc0 hc1)
  clear hc0 hc1
  go_loopw [3] (fun iv wr => ∃ i : Nat, iv = .int .i64 i ∧ i ≤ n ∧ Hid (∀ j, j < i → BlkOk ⟨cap, l⟩ j) ∧ Hid (Bel W1 wr)) (fun iv _ => n - (intOf iv).toNat)
  case atStart => exact ⟨0, rfl, Nat.zero_le _, Lib.hid (fun j hj => absurd hj (Nat.not_lt_zero _)), Lib.hid (Bel.refl _)⟩
  case round =>
    obtain ⟨i, rfl, hin, HOKS, HBr⟩ := hrel
    have q0 := (KM.out.bel HBr.out).cell 0 (v := .int .i64 cap) rfl
    have q1 := (KM.out.bel HBr.out).cell 1 (v := .slice A n c) rfl
    by_cases hie : i = n
    · subst hie
      have HRT : Hid (r = true) := Lib.hid (by
        rw [← hr.out]
        exact mayM_iff.2 ⟨by have := HC.out.1; simp only; omega, by have := HC.out.2; simp only; omega, fun j hj => HOKS.out j (by rw [← hn.out]; exact hj)⟩)
      go_wp2_with fail
      go_ret
      exact ⟨by rw [HRT.out]; rfl, HB.out.trans HBr.out⟩
    have hi1 : i < n := by omega
    have hi2 : (i : Int) < n := by omega
    have i0 : 0 ≤ (i : Int) := by omega
    have ei : IntKind.i64.wrap ((i : Int) + 1) = (i : Int) + 1 := wrap_i64 (by omega) (by have := HBIG.out; omega)
    have hil : i < l.length := by rw [hn.out]; exact hi1
    have hs := HS.out.mono BlkR.mono HBr.out
    obtain ⟨b0, o0, rfl⟩ := hs.addr (by rw [hn.out]; omega)
    obtain ⟨Aw, cw, d0, d1, d2, -, -, -⟩ := blk_cells hs i hil
    have hw4 := hlen.out i hil
    obtain ⟨mw, hmw⟩ : ∃ mw, Hid ((l[i]!).w.length = mw) := ⟨_, Lib.hid rfl⟩
    obtain ⟨id, hid⟩ : ∃ id, Hid ((l[i]!).id = id) := ⟨_, Lib.hid rfl⟩
    obtain ⟨at', hat⟩ : ∃ at', Hid ((l[i]!).at' = at') := ⟨_, Lib.hid rfl⟩
    rw [hmw.out] at d2 hw4
    rw [hid.out] at d0
    rw [hat.out] at d1
    have HPE : Hid (0 ≤ prevEnd l i) := Lib.hid (prev_nonneg (m := ⟨cap, l⟩) hil HOKS.out)
    have NOTB : Hid (¬ BlkOk ⟨cap, l⟩ i → r = false) := Lib.hid (fun h => by rw [← hr.out]; exact may_false hil h)
    clear hs hie
    have hbx := (Bel.refl wr).alloc (.cells #[.int .i64 id, .int .i64 at', .slice Aw mw cw] 69)
    have q0x := hbx.cell q0
    have q1x := hbx.cell q1
    by_cases c1 : id < 1
    · have HRF := Lib.hid (NOTB.out (fun hb => by have h1 := hb.id1; have h2 := hb.len; have h3 := hb.lo; have h4 := hb.hi; have h5 := HC.out; have h6 := HPE.out; simp only at h1 h2 h3 h4 h5 h6; rw [hid.out] at h1; rw [hmw.out] at h2 h4; rw [hat.out] at h3 h4; omega))
      go_wp2_with fail
      go_ret
      exact ⟨by rw [HRF.out]; rfl, by repeat (first | exact HB.out.trans HBr.out | refine Bel.alloc ?_ _)⟩
    by_cases c2 : (mw : Int) < 1
    · have HRF := Lib.hid (NOTB.out (fun hb => by have h1 := hb.id1; have h2 := hb.len; have h3 := hb.lo; have h4 := hb.hi; have h5 := HC.out; have h6 := HPE.out; simp only at h1 h2 h3 h4 h5 h6; rw [hid.out] at h1; rw [hmw.out] at h2 h4; rw [hat.out] at h3 h4; omega))
      go_wp2_with fail
      go_ret
      exact ⟨by rw [HRF.out]; rfl, by repeat (first | exact HB.out.trans HBr.out | refine Bel.alloc ?_ _)⟩
    by_cases c3 : at' < 0
    · have HRF := Lib.hid (NOTB.out (fun hb => by have h1 := hb.id1; have h2 := hb.len; have h3 := hb.lo; have h4 := hb.hi; have h5 := HC.out; have h6 := HPE.out; simp only at h1 h2 h3 h4 h5 h6; rw [hid.out] at h1; rw [hmw.out] at h2 h4; rw [hat.out] at h3 h4; omega))
      go_wp2_with fail
      go_ret
      exact ⟨by rw [HRF.out]; rfl, by repeat (first | exact HB.out.trans HBr.out | refine Bel.alloc ?_ _)⟩
    by_cases c4 : 1024 < at'
    · have HRF := Lib.hid (NOTB.out (fun hb => by have h1 := hb.id1; have h2 := hb.len; have h3 := hb.lo; have h4 := hb.hi; have h5 := HC.out; have h6 := HPE.out; simp only at h1 h2 h3 h4 h5 h6; rw [hid.out] at h1; rw [hmw.out] at h2 h4; rw [hat.out] at h3 h4; omega))
      go_wp2_with fail
      go_ret
      exact ⟨by rw [HRF.out]; rfl, by repeat (first | exact HB.out.trans HBr.out | refine Bel.alloc ?_ _)⟩
    have ea : IntKind.i64.wrap (at' + (mw : Int)) = at' + mw := wrap_i64 (by omega) (by omega)
    by_cases c5 : cap < at' + (mw : Int)
    · have HRF := Lib.hid (NOTB.out (fun hb => by have h1 := hb.id1; have h2 := hb.len; have h3 := hb.lo; have h4 := hb.hi; have h5 := HC.out; have h6 := HPE.out; simp only at h1 h2 h3 h4 h5 h6; rw [hid.out] at h1; rw [hmw.out] at h2 h4; rw [hat.out] at h3 h4; omega))
      go_wp2_with fail
      go_ret
      exact ⟨by rw [HRF.out]; rfl, by repeat (first | exact HB.out.trans HBr.out | refine Bel.alloc ?_ _)⟩
    have HBX := Lib.hid (HBr.out.trans hbx)
    have KB := Lib.hid (Blk.new wr 69 #[.int .i64 id, .int .i64 at', .slice Aw mw cw])
    by_cases hi00 : i = 0
    · subst hi00
      have HLO : Hid (prevEnd l 0 ≤ at') := Lib.hid (by unfold prevEnd; rw [if_pos rfl]; omega)
      have x0 := KB.out.cell 0 (v := .int .i64 id) rfl
      have x1 := KB.out.cell 1 (v := .int .i64 at') rfl
      simp only [Nat.zero_mul, Nat.add_zero] at d0 d1 d2
      clear hbx
      go_wp2_with fail
      go_quiet (fail)
      go_wp2_with fail
      have HBZ := Lib.hid ((Bel.refl (wr.alloc (.cells #[.int .i64 id, .int .i64 at', .slice Aw mw cw] 69))).drewN nq)
      have KBZ := Lib.hid (KB.out.bel HBZ.out)
      have HBW := Lib.hid (HBX.out.trans HBZ.out)
      clear x0 x1 q0x q1x q0 q1 d0 d1 d2 HBZ
      generalize (wr.alloc (.cells #[.int .i64 id, .int .i64 at', .slice Aw mw cw] 69)).drewN nq = W5 at *
      generalize wr.heap.size = gb at *
      go_loopw [5] (fun kv wr => ∃ k : Nat, kv = .int .i64 k ∧ k ≤ 0 ∧ Hid (∀ j, j < k → (l[j]!).id ≠ id) ∧ Hid (Bel W5 wr)) (fun kv _ => 0 - (intOf kv).toNat)
      case atStart => exact ⟨0, rfl, Nat.zero_le _, Lib.hid (fun j hj => absurd hj (Nat.not_lt_zero _)), Lib.hid (Bel.refl _)⟩
      case round =>
        obtain ⟨k, rfl, hki, HID, HBi⟩ := hrel
        have HBk := Lib.hid (HBW.out.trans HBi.out)
        by_cases hke : k = 0
        · have hke2 := hke.symm
          subst hke2
          have HOK2 : Hid (∀ j, j < 0 + 1 → BlkOk ⟨cap, l⟩ j) := Lib.hid (fun j hj => by
            by_cases e : j = 0
            · subst e
              refine ⟨?_, fun k hk => ?_, ?_, ?_, ?_, ?_⟩
              · rw [hid.out]; omega
              · rw [hid.out]; exact HID.out k hk
              · rw [hmw.out]; omega
              · rw [hat.out]; exact HLO.out
              · rw [hat.out, hmw.out]; simp only; omega
              · rw [hmw.out]; simp only; omega
            · exact HOKS.out j (by omega))
          go_wp2
          go_roundw
          case rel => exact ⟨0 + 1, by simp, by omega, HOK2, HBk⟩
          case measure => simp [intOf]; omega
        exact absurd hki (by omega)
    obtain ⟨j, hj⟩ : ∃ j, Hid (i = j + 1) := ⟨i - 1, Lib.hid (by omega)⟩
    have ej : IntKind.i64.wrap ((i : Int) - 1) = (j : Int) := by
      have := hj.out
      have := HBIG.out
      rw [wrap_i64 (by omega) (by omega)]
      omega
    have hji : j < i := by have := hj.out; omega
    have hjl : j < l.length := by omega
    have hjn : j < n := by omega
    have hjn2 : (j : Int) < n := by omega
    have hsx := HS.out.mono BlkR.mono HBX.out
    obtain ⟨Aj, cj, -, p1, p2, -, -, -⟩ := blk_cells hsx j hjl
    have hbj := HOKS.out j hji
    obtain ⟨mj, hmj⟩ : ∃ mj, Hid ((l[j]!).w.length = mj) := ⟨_, Lib.hid rfl⟩
    obtain ⟨aj, haj⟩ : ∃ aj, Hid ((l[j]!).at' = aj) := ⟨_, Lib.hid rfl⟩
    have HPV : Hid (prevEnd l i = aj + mj) := Lib.hid (by rw [hj.out, prevEnd_succ, haj.out, hmj.out])
    have hwj := hlen.out j hjl
    have hjhi := hbj.hi
    have hjlen := hbj.len
    simp only at hjhi hjlen
    rw [hmj.out] at p2 hwj hjhi hjlen
    rw [haj.out] at p1 hjhi
    have hcap := HC.out.2
    have hpe := HPE.out
    rw [HPV.out] at hpe
    have eaj : IntKind.i64.wrap (aj + (mj : Int)) = aj + mj := wrap_i64 (by omega) (by omega)
    have x0 := KB.out.cell 0 (v := .int .i64 id) rfl
    have x1 := KB.out.cell 1 (v := .int .i64 at') rfl
    have hip : (0 : Int) < i := by omega
    have hip2 : 0 < i := by omega
    have hip3 : decide (0 < i) = true := decide_eq_true (by omega)
    clear hbx hsx hbj
    by_cases c6 : at' < aj + mj
    · have HRF := Lib.hid (NOTB.out (fun hb => by
        have h3 := hb.lo
        simp only at h3
        rw [hat.out, HPV.out] at h3
        omega))
      go_wp2_with fail
      go_quiet (fail)
      go_wp2_with fail
      go_ret
      exact ⟨by rw [HRF.out]; rfl, by repeat (first | exact HB.out.trans HBX.out | apply Bel.drew | apply Bel.drewN | refine Bel.alloc ?_ _)⟩
    have HLO : Hid (prevEnd l i ≤ at') := Lib.hid (by rw [HPV.out]; omega)
    clear hjhi hjlen hpe hcap hji hjl
    go_wp2_with fail
    go_quiet (fail)
    go_wp2_with fail
    have HBZ := Lib.hid ((Bel.refl (wr.alloc (.cells #[.int .i64 id, .int .i64 at', .slice Aw mw cw] 69))).drewN nq)
    have KBZ := Lib.hid (KB.out.bel HBZ.out)
    have HBW := Lib.hid (HBX.out.trans HBZ.out)
    clear x0 x1 q0x q1x q0 q1 d0 d1 d2 HBZ
    generalize (wr.alloc (.cells #[.int .i64 id, .int .i64 at', .slice Aw mw cw] 69)).drewN nq = W5 at *
    generalize wr.heap.size = gb at *
    go_loopw [5] (fun kv wr => ∃ k : Nat, kv = .int .i64 k ∧ k ≤ i ∧ Hid (∀ j, j < k → (l[j]!).id ≠ id) ∧ Hid (Bel W5 wr)) (fun kv _ => i - (intOf kv).toNat)
    case atStart => exact ⟨0, rfl, Nat.zero_le _, Lib.hid (fun j hj => absurd hj (Nat.not_lt_zero _)), Lib.hid (Bel.refl _)⟩
    case round =>
      obtain ⟨k, rfl, hki, HID, HBi⟩ := hrel
      have HBk := Lib.hid (HBW.out.trans HBi.out)
      by_cases hke : k = i
      · have hke2 := hke.symm
        subst hke2
        have HOK2 : Hid (∀ j, j < i + 1 → BlkOk ⟨cap, l⟩ j) := Lib.hid (fun j hj => by
          by_cases e : j = i
          · subst e
            refine ⟨?_, fun k hk => ?_, ?_, ?_, ?_, ?_⟩
            · rw [hid.out]; omega
            · rw [hid.out]; exact HID.out k hk
            · rw [hmw.out]; omega
            · rw [hat.out]; exact HLO.out
            · rw [hat.out, hmw.out]; simp only; omega
            · rw [hmw.out]; simp only; omega
          · exact HOKS.out j (by omega))
        go_wp2
        go_roundw
        case rel => exact ⟨i + 1, by simp, by omega, HOK2, HBk⟩
        case measure => simp [intOf]; omega
      have hk1 : k < i := by omega
      have hk2 : (k : Int) < (i : Nat) := by omega
      have k0 : 0 ≤ (k : Int) := by omega
      have hkn : k < n := by omega
      have hkn2 : (k : Int) < n := by omega
      have ek : IntKind.i64.wrap ((k : Int) + 1) = (k : Int) + 1 := wrap_i64 (by omega) (by have := HBIG.out; omega)
      obtain ⟨Ak, ck, y0, -, -, -, -, -⟩ := blk_cells (HS.out.mono BlkR.mono HBk.out) k (by rw [hn.out]; exact hkn)
      obtain ⟨idk, hidk⟩ : ∃ x, Hid ((l[k]!).id = x) := ⟨_, Lib.hid rfl⟩
      rw [hidk.out] at y0
      have x0 := (KBZ.out.bel HBi.out).cell 0 (v := .int .i64 id) rfl
      have q1 := (KM.out.bel HBk.out).cell 1 (v := .slice (some ⟨b0, o0, none⟩) n c) rfl
      by_cases hsame : idk = id
      · have HRF := Lib.hid (NOTB.out (fun hb => hb.ids k hk1 (by simp only; rw [hidk.out, hid.out, hsame])))
        have t0 : (idk == id) = true := by simpa using hsame
        clear hke hsame
        go_wp2_with fail
        go_quiet (fail)
        go_wp2_with fail
        go_ret
        exact ⟨by rw [HRF.out]; rfl, by repeat (first | exact HB.out.trans HBk.out | apply Bel.drew | apply Bel.drewN)⟩
      have t0 : (idk == id) = false := by simpa using hsame
      have HID2 : Hid (∀ j, j < k + 1 → (l[j]!).id ≠ id) := Lib.hid (fun j hj => by
        by_cases e : j = k
        · subst e; rw [hidk.out]; exact hsame
        · exact HID.out j (by omega))
      clear hke hsame
      go_wp2_with fail
      go_quiet (fail)
      go_wp2
      go_roundw
      case rel => exact ⟨k + 1, by simp, by omega, HID2, Lib.hid (by repeat (first | exact HBi.out | apply Bel.drew | apply Bel.drewN))⟩
      case measure => simp [intOf]; omega
end Go.Proofs.Yteopeocgbfdofaa
set_option linter.unusedVariables false
set_option linter.unusedSimpArgs false
namespace Go.Proofs.Yteopeocgbfdofaa
open Go.RowKit

def ofP (p : Int) (b : BlkD) : Bool := decide (b.at' ≤ p) && decide (IntKind.i64.wrap (p - b.at') < (b.w.length : Int))
def ofM (l : List BlkD) (p : Int) : Int := match l.findIdx? (ofP p) with
  | some i => (i : Int)
  | none => -1
theorem ofM_hit {l : List BlkD} {p : Int} {k : Nat} (hk : k < l.length) (h : ∀ j, j < k → ofP p (l[j]!) = false) (hh : ofP p (l[k]!) = true) : ofM l p = (k : Int) := by
  have e : l.findIdx? (ofP p) = some k := by
    rw [List.findIdx?_eq_some_iff_getElem]
    refine ⟨hk, by rw [← getElem!_pos l k hk]; exact hh, fun j hj => ?_⟩
    have := h j hj
    rw [getElem!_pos l j (by omega)] at this
    simp [this]
  unfold ofM
  rw [e]
theorem ofM_miss {l : List BlkD} {p : Int} (h : ∀ j, j < l.length → ofP p (l[j]!) = false) : ofM l p = -1 := by
  have e : l.findIdx? (ofP p) = none := by
    rw [List.findIdx?_eq_none_iff]
    intro b hb
    obtain ⟨i, hi, rfl⟩ := List.mem_iff_getElem.1 hb
    have := h i hi
    rwa [getElem!_pos l i hi] at this
  unfold ofM
  rw [e]
/-- Of a memory that may be. -/
theorem Ok.ofP_iff {m : MemD} (h : Ok m) {p : Int} (hp : p ≤ 9223372036854775807) {i : Nat} (hi : i < m.l.length) : ofP p (m.l[i]!) = decide ((m.l[i]!).at' ≤ p ∧ p < (m.l[i]!).at' + ((m.l[i]!).w.length : Int)) := by
  obtain ⟨h1, h2, h3, h4⟩ := h.bounds hi
  unfold ofP
  by_cases e : (m.l[i]!).at' ≤ p
  · rw [wrap_i64 (by omega) (by omega), Bool.decide_and]
    rw [show decide (p - (m.l[i]!).at' < ((m.l[i]!).w.length : Int)) = decide (p < (m.l[i]!).at' + ((m.l[i]!).w.length : Int)) from decide_eq_decide.2 (by omega)]
  · rw [decide_eq_false e, Bool.false_and]
    exact (decide_eq_false (fun h => e h.1)).symm
theorem Ok.of_some {m : MemD} (h : Ok m) {p : Int} (hp : p ≤ 9223372036854775807) {i : Nat} (hb : blkOf m.l p = some i) : ofM m.l p = (i : Int) := by
  obtain ⟨hi, h1, h2⟩ := (blkOf_some h).1 hb
  have e1 : ∀ j, j < i → ofP p (m.l[j]!) = false := fun j hj => by
    rw [h.ofP_iff hp (by omega)]
    refine decide_eq_false ?_
    have := h.rise i j hj hi
    omega
  have e2 : ofP p (m.l[i]!) = true := by rw [h.ofP_iff hp hi, decide_eq_true ⟨h1, h2⟩]
  exact ofM_hit hi e1 e2
theorem Ok.of_none {m : MemD} (h : Ok m) {p : Int} (hp : p ≤ 9223372036854775807) (hb : blkOf m.l p = none) : ofM m.l p = -1 :=
  ofM_miss fun j hj => by rw [h.ofP_iff hp hj]; exact decide_eq_false (blkOf_none.1 hb j hj)
set_option maxRecDepth 100000 in
set_option maxHeartbeats 4000000 in
theorem of_any (cap : Int) (A : Option Addr) (n c : Nat) (l : List BlkD) (place r : Int) (w : World) (h : Sl BlkR 3 w A c l) (hn : Hid (l.length = n)) (hr : Hid (ofM l place = r)) :
    Calls Try.prog 61 #[.agg #[.int .i64 cap, .slice A n c], .int .i64 place] w fun e w' => e = .returned (.int .i64 r) ∧ Bel w w' := by
  have HS0 := Lib.hid h
  have HBIG : Hid (n ≤ 9223372036854775807) := Lib.hid (by rw [← hn.out]; have := h.le; have := h.big; simp only [maxLen] at this; omega)
  clear h
  have KM := Lib.hid (Blk.new w 45 #[.int .i64 cap, .slice A n c])
  have HBa := Lib.hid ((Bel.refl w).alloc (.cells #[.int .i64 cap, .slice A n c] 45))
  go_enter Try.func61, Try.ntmps61
  go_wp2_with fail
  generalize w.alloc (.cells #[.int .i64 cap, .slice A n c] 45) = W1 at *
  generalize w.heap.size = g at *
  go_loopw [5] (fun kv wr => ∃ k : Nat, kv = .int .i64 k ∧ k ≤ n ∧ Hid (∀ j, j < k → ofP place (l[j]!) = false) ∧ Hid (Bel W1 wr)) (fun kv _ => n - (intOf kv).toNat)
  case atStart => exact ⟨0, rfl, Nat.zero_le _, Lib.hid (fun j hj => absurd hj (Nat.not_lt_zero _)), Lib.hid (Bel.refl _)⟩
  case round =>
    obtain ⟨k, rfl, hk, HT, hbk⟩ := hrel
    have HBw := Lib.hid (HBa.out.trans hbk.out)
    have hq1 := (KM.out.bel hbk.out).cell 1 (v := .slice A n c) rfl
    by_cases hkn : k = n
    · subst hkn
      have HR : Hid (r = -1) := Lib.hid (by
        rw [← hr.out]
        exact ofM_miss (fun j hj => HT.out j (by rw [← hn.out]; exact hj)))
      go_wp2_with fail
      go_ret
      exact ⟨by rw [HR.out]; rfl, HBw.out⟩
    have hk1 : k < n := by omega
    have hk2 : (k : Int) < n := by omega
    have k0 : 0 ≤ (k : Int) := by omega
    have HKL : Hid (k < l.length) := Lib.hid (by rw [hn.out]; exact hk1)
    have ek : IntKind.i64.wrap ((k : Int) + 1) = (k : Int) + 1 := wrap_i64 (by omega) (by have := HBIG.out; omega)
    have HIT : Hid (ofP place (l[k]!) = true → r = k) := Lib.hid (fun hh => by
      rw [← hr.out]
      exact ofM_hit HKL.out HT.out hh)
    have NXT : Hid (ofP place (l[k]!) = false → ∀ j, j < k + 1 → ofP place (l[j]!) = false) := Lib.hid (fun hh j hj => by
      by_cases e : j = k
      · subst e; exact hh
      · exact HT.out j (by omega))
    have HSr := HS0.out.mono BlkR.mono HBw.out
    obtain ⟨b0, o0, rfl⟩ := HSr.addr (by rw [hn.out]; omega)
    obtain ⟨A', c', d0, d1, d2, -, -, -⟩ := blk_cells HSr k HKL.out
    have hP : ofP place (l[k]!) = (decide ((l[k]!).at' ≤ place) && decide (IntKind.i64.wrap (place - (l[k]!).at') < ((l[k]!).w.length : Int))) := rfl
    obtain ⟨pb, hpb⟩ : ∃ pb, Hid (ofP place (l[k]!) = pb) := ⟨_, Lib.hid rfl⟩
    rw [hpb.out] at hP HIT NXT
    generalize (l[k]!).at' = a at *
    generalize (l[k]!).w.length = m at *
    generalize (l[k]!).id = id at *
    have HP := Lib.hid hP
    obtain ⟨s, hs⟩ : ∃ s, IntKind.i64.wrap (place - a) = s := ⟨_, rfl⟩
    rw [hs] at HP
    clear hkn hP HSr d0
    by_cases h1 : a ≤ place
    · rw [decide_eq_true h1, Bool.true_and] at HP
      by_cases h2 : s < (m : Int)
      · have HW := Lib.hid (HIT.out (by rw [HP.out, decide_eq_true h2]))
        have h1d : decide (a ≤ place) = true := decide_eq_true h1
        have h2d : decide (s < (m : Int)) = true := decide_eq_true h2
        clear HIT NXT HP
        go_wp2_with fail
        go_quiet (fail)
        go_wp2_with fail
        go_ret
        exact ⟨by rw [HW.out]; rfl, by repeat (first | exact HBw.out | apply Bel.drew | apply Bel.drewN)⟩
      · have HN := Lib.hid (NXT.out (by rw [HP.out, decide_eq_false h2]))
        have h1d : decide (a ≤ place) = true := decide_eq_true h1
        have h2d : decide (s < (m : Int)) = false := decide_eq_false h2
        clear HIT NXT HP
        go_wp2_with fail
        go_quiet (fail)
        go_wp2
        go_roundw
        case rel => exact ⟨k + 1, by simp, by omega, HN, Lib.hid (by repeat (first | exact hbk.out | apply Bel.drew | apply Bel.drewN))⟩
        case measure => simp [intOf]; omega
    · rw [decide_eq_false h1, Bool.false_and] at HP
      have HN := Lib.hid (NXT.out HP.out)
      have h1d : decide (a ≤ place) = false := decide_eq_false h1
      clear HIT NXT HP hs
      go_wp2_with fail
      go_quiet (fail)
      go_wp2
      go_roundw
      case rel => exact ⟨k + 1, by simp, by omega, HN, Lib.hid (by repeat (first | exact hbk.out | apply Bel.drew | apply Bel.drewN))⟩
      case measure => simp [intOf]; omega
theorem idxR_hit {l : List BlkD} {id : Int} {k : Nat} (hk : k < l.length) (h : ∀ j, j < k → (l[j]!).id ≠ id) (hh : (l[k]!).id = id) : idxR l id = (k : Int) := by
  rcases idxR_cases l id with ⟨i, h1, h2, h3, h4⟩ | ⟨h1, h2⟩
  · by_cases e : i < k
    · exact absurd h2 (h i e)
    · by_cases e2 : k < i
      · exact absurd hh (h3 k e2)
      · rw [h4]; congr 1; omega
  · exact absurd hh (h1 k hk)
theorem idxR_miss {l : List BlkD} {id : Int} (h : ∀ j, j < l.length → (l[j]!).id ≠ id) : idxR l id = -1 := by
  rcases idxR_cases l id with ⟨i, h1, h2, h3, h4⟩ | ⟨h1, h2⟩
  · exact absurd h2 (h i h1)
  · exact h2
set_option maxRecDepth 100000 in
set_option maxHeartbeats 4000000 in
theorem find13_any (cap : Int) (A : Option Addr) (n c : Nat) (l : List BlkD) (id r : Int) (w : World) (h : Sl BlkR 3 w A c l) (hn : Hid (l.length = n)) (hr : Hid (idxR l id = r)) :
    Calls Try.prog 59 #[.agg #[.int .i64 cap, .slice A n c], .int .i64 id] w fun e w' => e = .returned (.int .i64 r) ∧ Bel w w' := by
  have HS0 := Lib.hid h
  have HBIG : Hid (n ≤ 9223372036854775807) := Lib.hid (by rw [← hn.out]; have := h.le; have := h.big; simp only [maxLen] at this; omega)
  clear h
  have KM := Lib.hid (Blk.new w 45 #[.int .i64 cap, .slice A n c])
  have HBa := Lib.hid ((Bel.refl w).alloc (.cells #[.int .i64 cap, .slice A n c] 45))
  go_enter Try.func59, Try.ntmps59
  go_wp2_with fail
  generalize w.alloc (.cells #[.int .i64 cap, .slice A n c] 45) = W1 at *
  generalize w.heap.size = g at *
  go_loopw [5] (fun kv wr => ∃ k : Nat, kv = .int .i64 k ∧ k ≤ n ∧ Hid (∀ j, j < k → (l[j]!).id ≠ id) ∧ Hid (Bel W1 wr)) (fun kv _ => n - (intOf kv).toNat)
  case atStart => exact ⟨0, rfl, Nat.zero_le _, Lib.hid (fun j hj => absurd hj (Nat.not_lt_zero _)), Lib.hid (Bel.refl _)⟩
  case round =>
    obtain ⟨k, rfl, hk, HT, hbk⟩ := hrel
    have HBw := Lib.hid (HBa.out.trans hbk.out)
    have hq1 := (KM.out.bel hbk.out).cell 1 (v := .slice A n c) rfl
    by_cases hkn : k = n
    · subst hkn
      have HR : Hid (r = -1) := Lib.hid (by
        rw [← hr.out]
        exact idxR_miss (fun j hj => HT.out j (by rw [← hn.out]; exact hj)))
      go_wp2_with fail
      go_ret
      exact ⟨by rw [HR.out]; rfl, HBw.out⟩
    have hk1 : k < n := by omega
    have hk2 : (k : Int) < n := by omega
    have k0 : 0 ≤ (k : Int) := by omega
    have HKL : Hid (k < l.length) := Lib.hid (by rw [hn.out]; exact hk1)
    have ek : IntKind.i64.wrap ((k : Int) + 1) = (k : Int) + 1 := wrap_i64 (by omega) (by have := HBIG.out; omega)
    have HSr := HS0.out.mono BlkR.mono HBw.out
    obtain ⟨b0, o0, rfl⟩ := HSr.addr (by rw [hn.out]; omega)
    obtain ⟨A', c', d0, d1, d2, -, -, -⟩ := blk_cells HSr k HKL.out
    obtain ⟨idk, hidk⟩ : ∃ x, Hid ((l[k]!).id = x) := ⟨_, Lib.hid rfl⟩
    rw [hidk.out] at d0
    clear hkn HSr d1 d2
    by_cases hsame : idk = id
    · have HW : Hid (r = k) := Lib.hid (by rw [← hr.out]; exact idxR_hit HKL.out HT.out (by rw [hidk.out]; exact hsame))
      have t0 : (idk == id) = true := by simpa using hsame
      clear hsame
      go_wp2_with fail
      go_ret
      exact ⟨by rw [HW.out]; rfl, by repeat (first | exact HBw.out | apply Bel.drew | apply Bel.drewN)⟩
    have t0 : (idk == id) = false := by simpa using hsame
    have HN : Hid (∀ j, j < k + 1 → (l[j]!).id ≠ id) := Lib.hid (fun j hj => by
      by_cases e : j = k
      · subst e; rw [hidk.out]; exact hsame
      · exact HT.out j (by omega))
    clear hsame
    go_wp2
    go_roundw
    case rel => exact ⟨k + 1, by simp, by omega, HN, Lib.hid (by repeat (first | exact hbk.out | apply Bel.drew | apply Bel.drewN))⟩
    case measure => simp [intOf]; omega
/-- No address of a block. -/
def freeM (m : MemD) (p n : Int) : Bool := decide (0 ≤ p ∧ p ≤ m.cap ∧ n ≤ m.cap - p ∧ ∀ k : Nat, k < n.toNat → blkOf m.l (p + k) = none)
set_option maxRecDepth 100000 in
set_option maxHeartbeats 4000000 in
theorem free_any (cap : Int) (A : Option Addr) (nn c : Nat) (l : List BlkD) (p n : Int) (r : Bool) (w : World) (h : Sl BlkR 3 w A c l) (hn : Hid (l.length = nn)) (hok : Hid (Ok ⟨cap, l⟩)) (hr : Hid (freeM ⟨cap, l⟩ p n = r)) :
    Calls Try.prog 58 #[.agg #[.int .i64 cap, .slice A nn c], .int .i64 p, .int .i64 n] w fun e w' => e = .returned (.bool r) ∧ Bel w w' := by
  have HS0 := Lib.hid h
  clear h
  have KM := Lib.hid (Blk.new w 45 #[.int .i64 cap, .slice A nn c])
  have HBa := Lib.hid ((Bel.refl w).alloc (.cells #[.int .i64 cap, .slice A nn c] 45))
  have q0 := KM.out.cell 0 (v := .int .i64 cap) rfl
  have q1 := KM.out.cell 1 (v := .slice A nn c) rfl
  have cap0 := hok.out.cap0
  have cap1 := hok.out.cap1
  simp only at cap0 cap1
  have HC := Lib.hid (And.intro cap0 cap1)
  clear cap0 cap1
  have NO : Hid (¬ (0 ≤ p ∧ p ≤ cap ∧ n ≤ cap - p) → r = false) := Lib.hid (fun hh => by
    rw [← hr.out]
    exact decide_eq_false (fun h => hh ⟨h.1, h.2.1, h.2.2.1⟩))
  by_cases c1 : p < 0
  · have HR := Lib.hid (NO.out (by omega))
    go_enter Try.func58, Try.ntmps58
    go_wp2_with fail
    go_ret
    exact ⟨by rw [HR.out]; rfl, HBa.out⟩
  by_cases c2 : cap < p
  · have HR := Lib.hid (NO.out (by omega))
    go_enter Try.func58, Try.ntmps58
    go_wp2_with fail
    go_ret
    exact ⟨by rw [HR.out]; rfl, HBa.out⟩
  have es : IntKind.i64.wrap (cap - p) = cap - p := wrap_i64 (by omega) (by have := HC.out; omega)
  by_cases c3 : cap - p < n
  · have HR := Lib.hid (NO.out (by omega))
    go_enter Try.func58, Try.ntmps58
    go_wp2_with fail
    go_ret
    exact ⟨by rw [HR.out]; rfl, HBa.out⟩
  have HCC : Hid (0 ≤ p ∧ p ≤ cap ∧ n ≤ cap - p ∧ cap ≤ 1024) := Lib.hid (by have := HC.out; omega)
  go_enter Try.func58, Try.ntmps58
  go_wp2_with fail
  clear c1 c2 c3 es q0 q1
  generalize w.alloc (.cells #[.int .i64 cap, .slice A nn c] 45) = W1 at *
  generalize w.heap.size = g at *
  go_loopw [7] (fun kv wr => ∃ k : Nat, kv = .int .i64 k ∧ k ≤ n.toNat ∧ Hid (∀ j : Nat, j < k → blkOf l (p + j) = none) ∧ Hid (Bel W1 wr)) (fun kv _ => n.toNat - (intOf kv).toNat)
  case atStart => exact ⟨0, rfl, Nat.zero_le _, Lib.hid (fun j hj => absurd hj (Nat.not_lt_zero _)), Lib.hid (Bel.refl _)⟩
  case round =>
    obtain ⟨k, rfl, hk, HT, hbk⟩ := hrel
    have HBw := Lib.hid (HBa.out.trans hbk.out)
    have q0 := (KM.out.bel hbk.out).cell 0 (v := .int .i64 cap) rfl
    have q1 := (KM.out.bel hbk.out).cell 1 (v := .slice A nn c) rfl
    by_cases hkn : n ≤ (k : Int)
    · have HR : Hid (r = true) := Lib.hid (by
        rw [← hr.out]
        have := HCC.out
        exact decide_eq_true ⟨this.1, this.2.1, this.2.2.1, fun j hj => HT.out j (by omega)⟩)
      have d1 : ¬ (k : Int) < n := by omega
      clear hkn hk
      go_wp2_with fail
      go_ret
      exact ⟨by rw [HR.out]; rfl, HBw.out⟩
    have hk2 : (k : Int) < n := by omega
    have HKN := Lib.hid hk2
    obtain ⟨s, hs⟩ : ∃ s, p + (k : Int) = s := ⟨_, rfl⟩
    have es : IntKind.i64.wrap (p + (k : Int)) = s := by rw [wrap_i64 (by have := HCC.out; omega) (by have := HCC.out; omega), hs]
    have ek : IntKind.i64.wrap ((k : Int) + 1) = (k : Int) + 1 := wrap_i64 (by omega) (by have := HCC.out; omega)
    have HSB : Hid (s ≤ 9223372036854775807) := Lib.hid (by have := HCC.out; omega)
    have HSS := Lib.hid hs
    clear hkn hs
    obtain ⟨b, hb⟩ : ∃ b, Hid (blkOf l s = b) := ⟨_, Lib.hid rfl⟩
    cases b with
    | some i =>
      have HO : Hid (ofM l s = (i : Int)) := Lib.hid (hok.out.of_some (m := ⟨cap, l⟩) HSB.out hb.out)
      have HR : Hid (r = false) := Lib.hid (by
        rw [← hr.out]
        refine decide_eq_false (fun h => ?_)
        have := h.2.2.2 k (by have := HKN.out; omega)
        rw [HSS.out] at this
        simp only at this
        rw [hb.out] at this
        cases this)
      go_wp2_with fail
      refine (of_any cap A nn c l s _ _ (HS0.out.mono BlkR.mono HBw.out) hn HO).mono ?_
      rintro e w3 ⟨rfl, hb3⟩
      have i0 : 0 ≤ (i : Int) := by omega
      have HB3 := Lib.hid (HBw.out.trans hb3)
      clear hb3 q0 q1
      go_wp2_with fail
      go_ret
      exact ⟨by rw [HR.out]; rfl, HB3.out⟩
    | none =>
      have HO : Hid (ofM l s = -1) := Lib.hid (hok.out.of_none (m := ⟨cap, l⟩) HSB.out hb.out)
      have HN : Hid (∀ j : Nat, j < k + 1 → blkOf l (p + j) = none) := Lib.hid (fun j hj => by
        by_cases e : j = k
        · subst e; rw [HSS.out]; exact hb.out
        · exact HT.out j (by omega))
      have HK2 : Hid (k + 1 ≤ n.toNat) := Lib.hid (by have := HKN.out; omega)
      go_wp2_with fail
      refine (of_any cap A nn c l s _ _ (HS0.out.mono BlkR.mono HBw.out) hn HO).mono ?_
      rintro e w3 ⟨rfl, hb3⟩
      have HB3 := Lib.hid (hbk.out.trans hb3)
      clear hb3 q0 q1
      go_wp2
      go_roundw
      case rel => exact ⟨k + 1, by simp, HK2.out, HN, HB3⟩
      case measure => have := HK2.out; simp [intOf]; omega
end Go.Proofs.Yteopeocgbfdofaa
