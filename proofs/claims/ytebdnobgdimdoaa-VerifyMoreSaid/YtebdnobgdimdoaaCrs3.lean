/- course.Reach by its contract. -/
import Derived.Test.YtebdnobgdimdoaaCrs2
import Derived.Test.YtebdnobgdimdoaaCrsLaw
import Derived.Test.YtebdnobgdimdoaaRow
import Derived.LoopTactic
import Derived.WalkMore
import Derived.ScopeJumps
set_option linter.unusedVariables false
set_option linter.unusedSimpArgs false
namespace Go.Proofs.Ytebdnobgdimdoaa
open Go.RowKit

theorem foldl_take_succ {α β : Type} (f : β → α → β) (z : β) (ts : List α) {j : Nat} (hj : j < ts.length) : (ts.take (j + 1)).foldl f z = f ((ts.take j).foldl f z) ts[j] := by
  rw [List.take_succ_eq_append_getElem hj, List.foldl_append]
  rfl
theorem ints_getD (ts : List Nat) (j : Nat) : (ints ts).getD j 0 = ((ts.getD j 0 : Nat) : Int) := by
  simp only [ints, List.getD_eq_getElem?_getD, List.getElem?_map]
  cases ts[j]? <;> simp
/-- Numbers that lie elsewhere than in block g. -/
def IntsAt (A : Option Addr) (g : Nat) (ts : List Nat) (w : World) : Prop := ∀ j (hj : j < ts.length), ∃ b o, A = some ⟨b, o, none⟩ ∧ b ≠ g ∧ w.cell? ⟨b, o + j, none⟩ = some (.int .i64 (ts[j] : Nat))
theorem IntsAt.set {A : Option Addr} {g : Nat} {ts : List Nat} {w : World} (h : IntsAt A g ts w) (i : Nat) (v : Value) : IntsAt A g ts (w.setCell ⟨g, i, none⟩ v) := by
  intro j hj
  obtain ⟨b, o, e, hb, hc⟩ := h j hj
  refine ⟨b, o, e, hb, ?_⟩
  rw [World.cell?_setCell_other (w := w) (a := ⟨g, i, none⟩) (b := ⟨b, o + j, none⟩) (v := v) (h := fun h => hb (by cases h; rfl))]
  exact hc
theorem IntsAt.of {A : Option Addr} {g c s : Nat} {ts : List Nat} {w : World} (h : Sl (IntR .i64) 1 w A c (ints ts)) (hf : ∀ x, A = some x → s ≤ x.block) (hg : g < s) : IntsAt A g ts w := by
  intro j hj
  obtain ⟨b, o, rfl, hc⟩ := h.int_cell (by simp [ints]; omega)
  have := (hc j (by simpa [ints] using hj)).1
  rw [ints_getD] at this
  refine ⟨b, o, rfl, by have := hf _ rfl; simp at this; omega, ?_⟩
  rw [this, List.getD_eq_getElem?_getD, List.getElem?_eq_getElem hj]
  rfl
theorem reach_step_t {l : List InstD} {k n : Nat} {ts : List Nat} {R : List Bool} (hn : l.length = n) (hR : reachUpto l k = R) (hr : R.getD k false = true) (ht : nxt l[k]! k = ts) : reachUpto l (k + 1) = ts.foldl (mark n) R := by
  rw [reachUpto, hR, rstep, if_pos hr, ht, hn]
theorem reach_step_f {l : List InstD} {k : Nat} {R : List Bool} (hR : reachUpto l k = R) (hr : R.getD k false = false) : reachUpto l (k + 1) = R := by
  rw [reachUpto, hR, rstep, if_neg (by rw [hr]; decide)]
theorem row_slice {t : TypeId} {w : World} {g n : Nat} {L : List Bool} (h : Row Value.bool t w g L) (hl : L.length = n) (hn : n ≤ 64) : Sl BoolR 1 w (some ⟨g, 0, none⟩) n L := by
  have := h.sl_bool (by show L.length ≤ maxLen; simp [maxLen]; omega)
  rwa [hl] at this
theorem Row.bool_at {t : TypeId} {w : World} {g k : Nat} {R : List Bool} (h : Row Value.bool t w g R) (hk : k < R.length) : w.cell? ⟨g, k, none⟩ = some (.bool (R.getD k false)) := by
  rw [h.cell hk, List.getD_eq_getElem?_getD, List.getElem?_eq_getElem hk]
  rfl
theorem made_row (n : Nat) (w : World) : (Instr.makeSlice 42 (.int .i64 n) (.int .i64 n)).run Try.prog w = .ok (.slice (some ⟨w.heap.size, 0, none⟩) n n) (w.alloc (.cells ((List.replicate n false).map Value.bool).toArray 4)) ∨ 64 < n := by
  by_cases hn : 64 < n
  · exact .inr hn
  · have h : (Try.prog.info? 4).map (fun i => (i.zero, i.size, i.bytes)) = some (some (.bool false), 1, 1) := by kernel_rfl
    obtain ⟨i, hi, hz⟩ := Option.map_eq_some_iff.1 h
    simp only [Prod.mk.injEq] at hz
    obtain ⟨hz0, hz1, hz2⟩ := hz
    have := run_make (P := Try.prog) w 42 4 i (.bool false) Try.underlying42 hi hz0 .i64 .i64 (n : Int) (n : Int) (by omega) (Int.le_refl _) (by rw [hz2]; omega) (by omega)
    rw [this, hz1, Int.toNat_natCast, Nat.mul_one, show (Value.bool false).cells = #[Value.bool false] from rfl]
    have e : madeCells #[Value.bool false] n = ((List.replicate n false).map Value.bool).toArray := by
      apply Array.toList_inj.1
      rw [toList_madeCells_one]
      simp
    rw [e]
    exact .inl rfl
set_option maxHeartbeats 4000000 in
set_option maxRecDepth 100000 in
theorem reach_ok (A : Option Addr) (c n : Nat) (l : List InstD) (w : World) (h : Sl InstR 7 w A c l) (hn : Hid (l.length = n)) (hm : Hid (crsMay l = true)) (hn0 : 0 < n) (hn1 : n ≤ 64) (hok : Hid (∀ k, k < l.length → (l[k]!).okB = true)) :
    Calls Try.prog 11 #[.slice A n c] w fun e w' => ∃ A2 cap, e = .returned (.slice A2 n cap) ∧ Sl BoolR 1 w' A2 cap (reach l) ∧ Bel w w' := by
  have HS := Lib.hid h
  have HS0 := HS
  clear h
  have hns : (n : Int) ≤ 64 := by omega
  have hns0 : (0 : Int) < n := by omega
  have hns0' : ¬ (n : Int) < 0 := by omega
  go_enter Try.func11, Try.ntmps11
  go_wp2
  refine wp_scope_jumps 0 (fun a' wr => ∃ (g k : Nat) (u1 u5 u6 u7 u8 u9 u10 u11 u12 u13 u14 u15 u16 u17 u18 u19 u20 u21 u22 u23 u24 u25 u26 u27 u28 u29 u30 u31 u32 u33 u34 u35 u36 u37 u38 u39 u40 u41 : Value), a' = { tmps := #[.slice A n c, u1, .slice none 0 0, .slice (some ⟨g, 0, none⟩) n n, .int .i64 k, u5, u6, u7, u8, u9, u10, u11, u12, u13, u14, u15, u16, u17, u18, u19, u20, u21, u22, u23, u24, u25, u26, u27, u28, u29, u30, u31, u32, u33, u34, u35, u36, u37, u38, u39, u40, u41], defers := [] } ∧ k < n ∧ Row Value.bool 4 wr g (reachUpto l k) ∧ w.heap.size ≤ g ∧ Bel w wr) (fun a' _ => n - (intOf (a'.tmps.getD 4 undef)).toNat) rfl ?_ ?_
  · go_wp2_with fail
    refine (crsmay_at _ _ _ _ _ _ HS.out hn hm).mono ?_
    rintro e w1 ⟨rfl, hb⟩
    have HB := (Bel.refl w).trans hb
    have HS := Lib.hid (HS.out.mono InstR.mono hb)
    clear hb
    have hmk := (made_row n w1).resolve_right (by omega)
    obtain ⟨W2, hW2⟩ : ∃ W2, W2 = w1.alloc (.cells ((List.replicate n false).map Value.bool).toArray 4) := ⟨_, rfl⟩
    have HB2 : Bel w1 W2 := by rw [hW2]; exact (Bel.refl _).alloc _
    have R0 : Row Value.bool 4 W2 w1.heap.size (List.replicate n false) := by rw [hW2]; exact Row.new _ _ _
    have hgs : w.heap.size ≤ w1.heap.size := HB.size
    rw [← hW2] at hmk
    clear hW2
    generalize w1.heap.size = g at *
    have rc := R0.cell (i := 0) (by simpa using hn0)
    have rf := R0.frozen 0
    have R1 := R0.set (i := 0) (by simpa using hn0) true
    have HS := Lib.hid (HS.out.mono InstR.mono HB2)
    have HB := HB.trans HB2
    have HB3 : Bel w (W2.setCell ⟨g, 0, none⟩ (.bool true)) := HB.setCell hgs _
    have HR := Lib.hid R1
    clear R0 R1
    go_wp2_with fail
    go_step3
    go_wp2_with fail
    clear rc rf
    obtain ⟨ts, hts⟩ : ∃ ts, Hid (nxt l[0]! 0 = ts) := ⟨_, Lib.hid rfl⟩
    have htl : ts.length ≤ 2 := by rw [← hts.out]; exact nxt_two _ _
    generalize W2.setCell ⟨g, 0, none⟩ (.bool true) = W3 at *
    have HS := Lib.hid (HS0.out.mono InstR.mono HB3)
    refine (next_any _ _ _ _ 0 ts _ HS.out hn hn0 (by omega) (hok.out 0 (by rw [hn.out]; exact hn0)) hts).mono ?_
    rintro e w4 ⟨A2, c2, rfl, s2, hfr, hb2⟩
    have IA := Lib.hid (IntsAt.of s2 hfr HR.out.lt)
    have HR := Lib.hid (HR.out.mono hb2)
    have HB := HB3.trans hb2
    have hRl : Hid (((List.replicate n false).set 0 true).length = n) := Lib.hid (by simp)
    have HP : Hid (reachUpto l 1 = ts.foldl (mark n) ((List.replicate n false).set 0 true)) := Lib.hid (reach_step_t (k := 0) hn.out (by rw [reachUpto, hn.out]) (by simp [List.getD_eq_getElem?_getD, hn0]) hts.out)
    have HLN : Hid ((ts.foldl (mark n) ((List.replicate n false).set 0 true)).length = n) := Lib.hid (by rw [marks_length]; exact hRl.out)
    clear s2 hb2 HB3 hfr
    go_wp2_with fail
    go_loopw [23] (fun v wr => ∃ j : Nat, v = .int .i64 j ∧ j ≤ ts.length ∧ Row Value.bool 4 wr g ((ts.take j).foldl (mark n) ((List.replicate n false).set 0 true)) ∧ IntsAt A2 g ts wr ∧ Bel w wr) (fun v _ => ts.length - (intOf v).toNat)
    case atStart => exact ⟨0, rfl, Nat.zero_le _, by simpa using HR.out, IA.out, HB⟩
    case round =>
      obtain ⟨j, rfl, hj, hrow, hia, hbj⟩ := hrel
      have hrl : ((ts.take j).foldl (mark n) ((List.replicate n false).set 0 true)).length = n := by rw [marks_length]; exact hRl.out
      by_cases hjt : j = ts.length
      · subst hjt
        rw [List.take_length] at hrow
        have HRW := Lib.hid hrow
        have HBW := hbj
        clear hrow hbj hrl HR hia
        by_cases hlt : 1 < n
        · have hlt' : ((1 : Nat) : Int) < (n : Int) := by omega
          go_wp2_with fail
          go_step3
          exact ⟨rfl, g, 1, _, _, _, _, _, _, _, _, _, _, _, _, _, _, _, _, _, _, _, _, _, _, _, _, _, _, _, _, _, _, _, _, _, _, _, _, _, _, rfl, hlt, by rw [HP.out]; exact HRW.out, hgs, HBW⟩
        · have hlt' : ¬ ((1 : Nat) : Int) < (n : Int) := by omega
          have hke : 1 = n := by omega
          have hrn : reach l = ts.foldl (mark n) ((List.replicate n false).set 0 true) := (congrArg (reachUpto l) (hn.out.trans hke.symm)).trans HP.out
          go_wp2_with fail
          simp only [Exit.jump]
          go_ret
          rw [hrn]
          exact ⟨_, _, rfl, row_slice HRW.out HLN.out (by omega), HBW⟩
      · have hj' : j < ts.length := by omega
        have hj2 : (j : Int) < (ts.length : Int) := by omega
        have HIA := Lib.hid hia
        obtain ⟨b2, o2, rfl, hne, hcj⟩ := hia j hj'
        have hfs := Lib.hid (foldl_take_succ (mark n) ((List.replicate n false).set 0 true) ts hj')
        have ej : IntKind.i64.wrap ((j : Int) + 1) = (j : Int) + 1 := wrap_i64 (by omega) (by omega)
        have hwr := hrow.frozen ts[j]
        generalize ts[j] = t at *
        have t0 : 0 ≤ (t : Int) := by omega
        by_cases htn : t < n
        · have htn' : (t : Int) < (n : Int) := by omega
          have hwc := hrow.cell (i := t) (by rw [hrl]; exact htn)
          have hset := hrow.set (i := t) (by rw [hrl]; exact htn) true
          have hb3 : Bel w (wr.setCell ⟨g, t, none⟩ (.bool true)) := hbj.setCell hgs _
          have HIA2 := Lib.hid (HIA.out.set t (.bool true))
          have hm : mark n ((ts.take j).foldl (mark n) ((List.replicate n false).set 0 true)) t = ((ts.take j).foldl (mark n) ((List.replicate n false).set 0 true)).set t true := if_pos htn
          rw [← hm, ← hfs.out] at hset
          have HSET := Lib.hid hset
          clear hset hm hrow
          go_wp2
          go_roundw
          case rel => exact ⟨j + 1, by simp, by omega, HSET.out, HIA2.out, hb3⟩
          case measure => simp [intOf]; omega
        · have htn' : ¬ (t : Int) < (n : Int) := by omega
          have hm : mark n ((ts.take j).foldl (mark n) ((List.replicate n false).set 0 true)) t = (ts.take j).foldl (mark n) ((List.replicate n false).set 0 true) := if_neg htn
          rw [← hm, ← hfs.out] at hrow
          have HSET := Lib.hid hrow
          clear hm hrow hwr
          go_wp2
          go_roundw
          case rel => exact ⟨j + 1, by simp, by omega, HSET.out, HIA.out, hbj⟩
          case measure => simp [intOf]; omega
  · rintro a' wr ⟨g, k, u1, u5, u6, u7, u8, u9, u10, u11, u12, u13, u14, u15, u16, u17, u18, u19, u20, u21, u22, u23, u24, u25, u26, u27, u28, u29, u30, u31, u32, u33, u34, u35, u36, u37, u38, u39, u40, u41, rfl, hk, hrow, hgs, HB⟩
    obtain ⟨R, hR⟩ : ∃ R, Hid (reachUpto l k = R) := ⟨_, Lib.hid rfl⟩
    rw [hR.out] at hrow
    have hRl : Hid (R.length = n) := Lib.hid (by rw [← hR.out, reachUpto_length, hn.out])
    have rc := hrow.bool_at (k := k) (by rw [hRl.out]; exact hk)
    have k0 : 0 ≤ (k : Int) := by omega
    have kn : (k : Int) < n := by omega
    have ek : IntKind.i64.wrap ((k : Int) + 1) = (k : Int) + 1 := wrap_i64 (by omega) (by omega)
    have HS := Lib.hid (HS0.out.mono InstR.mono HB)
    by_cases hr : R.getD k false = true
    · rw [hr] at rc
      obtain ⟨ts, hts⟩ : ∃ ts, Hid (nxt l[k]! k = ts) := ⟨_, Lib.hid rfl⟩
      have htl : ts.length ≤ 2 := by rw [← hts.out]; exact nxt_two _ _
      have HP : Hid (reachUpto l (k + 1) = ts.foldl (mark n) R) := Lib.hid (reach_step_t hn.out hR.out hr hts.out)
      have HLN : Hid ((ts.foldl (mark n) R).length = n) := Lib.hid (by rw [marks_length]; exact hRl.out)
      have HR := Lib.hid hrow
      clear hrow hr
      go_wp2_with fail
      refine (next_any _ _ _ _ k ts _ HS.out hn hk (by omega) (hok.out k (by rw [hn.out]; exact hk)) hts).mono ?_
      rintro e w4 ⟨A2, c2, rfl, s2, hfr, hb2⟩
      have IA := Lib.hid (IntsAt.of s2 hfr HR.out.lt)
      have HR := Lib.hid (HR.out.mono hb2)
      have HB := HB.trans hb2
      clear s2 hb2 hfr rc
      go_wp2_with fail
      go_loopw [23] (fun v wr => ∃ j : Nat, v = .int .i64 j ∧ j ≤ ts.length ∧ Row Value.bool 4 wr g ((ts.take j).foldl (mark n) R) ∧ IntsAt A2 g ts wr ∧ Bel w wr) (fun v _ => ts.length - (intOf v).toNat)
      case atStart => exact ⟨0, rfl, Nat.zero_le _, by simpa using HR.out, IA.out, HB⟩
      case round =>
        obtain ⟨j, rfl, hj, hrow, hia, hbj⟩ := hrel
        have hrl : ((ts.take j).foldl (mark n) R).length = n := by rw [marks_length]; exact hRl.out
        by_cases hjt : j = ts.length
        · subst hjt
          rw [List.take_length] at hrow
          have HRW := Lib.hid hrow
          have HBW := hbj
          clear hrow hbj hrl HR hia
          by_cases hlt : (k + 1) < n
          · have hlt' : (((k + 1) : Nat) : Int) < (n : Int) := by omega
            go_wp2_with fail
            go_step3
            exact ⟨rfl, ⟨g, (k + 1), _, _, _, _, _, _, _, _, _, _, _, _, _, _, _, _, _, _, _, _, _, _, _, _, _, _, _, _, _, _, _, _, _, _, _, _, _, _, rfl, hlt, by rw [HP.out]; exact HRW.out, hgs, HBW⟩, by simp [intOf]; omega⟩
          · have hlt' : ¬ (((k + 1) : Nat) : Int) < (n : Int) := by omega
            have hke : (k + 1) = n := by omega
            have hrn : reach l = ts.foldl (mark n) R := (congrArg (reachUpto l) (hn.out.trans hke.symm)).trans HP.out
            go_wp2_with fail
            simp only [Exit.jump]
            go_ret
            rw [hrn]
            exact ⟨_, _, rfl, row_slice HRW.out HLN.out (by omega), HBW⟩
        · have hj' : j < ts.length := by omega
          have hj2 : (j : Int) < (ts.length : Int) := by omega
          have HIA := Lib.hid hia
          obtain ⟨b2, o2, rfl, hne, hcj⟩ := hia j hj'
          have hfs := Lib.hid (foldl_take_succ (mark n) R ts hj')
          have ej : IntKind.i64.wrap ((j : Int) + 1) = (j : Int) + 1 := wrap_i64 (by omega) (by omega)
          have hwr := hrow.frozen ts[j]
          generalize ts[j] = t at *
          have t0 : 0 ≤ (t : Int) := by omega
          by_cases htn : t < n
          · have htn' : (t : Int) < (n : Int) := by omega
            have hwc := hrow.cell (i := t) (by rw [hrl]; exact htn)
            have hset := hrow.set (i := t) (by rw [hrl]; exact htn) true
            have hb3 : Bel w (wr.setCell ⟨g, t, none⟩ (.bool true)) := hbj.setCell hgs _
            have HIA2 := Lib.hid (HIA.out.set t (.bool true))
            have hm : mark n ((ts.take j).foldl (mark n) R) t = ((ts.take j).foldl (mark n) R).set t true := if_pos htn
            rw [← hm, ← hfs.out] at hset
            have HSET := Lib.hid hset
            clear hset hm hrow
            go_wp2
            go_roundw
            case rel => exact ⟨j + 1, by simp, by omega, HSET.out, HIA2.out, hb3⟩
            case measure => simp [intOf]; omega
          · have htn' : ¬ (t : Int) < (n : Int) := by omega
            have hm : mark n ((ts.take j).foldl (mark n) R) t = (ts.take j).foldl (mark n) R := if_neg htn
            rw [← hm, ← hfs.out] at hrow
            have HSET := Lib.hid hrow
            clear hm hrow hwr
            go_wp2
            go_roundw
            case rel => exact ⟨j + 1, by simp, by omega, HSET.out, HIA.out, hbj⟩
            case measure => simp [intOf]; omega
    · have hr' : R.getD k false = false := by simpa using hr
      rw [hr'] at rc
      have HP : Hid (reachUpto l (k + 1) = R) := Lib.hid (reach_step_f hR.out hr')
      have HLN := hRl
      have HRW := Lib.hid hrow
      have HBW := HB
      clear hrow hr hr'
      by_cases hlt : (k + 1) < n
      · have hlt' : (((k + 1) : Nat) : Int) < (n : Int) := by omega
        go_wp2_with fail
        go_step3
        exact ⟨rfl, ⟨g, (k + 1), _, _, _, _, _, _, _, _, _, _, _, _, _, _, _, _, _, _, _, _, _, _, _, _, _, _, _, _, _, _, _, _, _, _, _, _, _, _, rfl, hlt, by rw [HP.out]; exact HRW.out, hgs, HBW⟩, by simp [intOf]; omega⟩
      · have hlt' : ¬ (((k + 1) : Nat) : Int) < (n : Int) := by omega
        have hke : (k + 1) = n := by omega
        have hrn : reach l = R := (congrArg (reachUpto l) (hn.out.trans hke.symm)).trans HP.out
        go_wp2_with fail
        simp only [Exit.jump]
        go_ret
        rw [hrn]
        exact ⟨_, _, rfl, row_slice HRW.out HLN.out (by omega), HBW⟩
/-- What 'Reach' tells. -/
def reachR (l : List InstD) : List Bool := if crsMay l = true then reach l else []
set_option maxHeartbeats 1000000 in
theorem Reach_any (A : Option Addr) (c n : Nat) (l : List InstD) (R : List Bool) (w : World) (h : Sl InstR 7 w A c l) (hn : Hid (l.length = n)) (hr : Hid (reachR l = R)) :
    Calls Try.prog 11 #[.slice A n c] w fun e w' => ∃ A2 cap, e = .returned (.slice A2 R.length cap) ∧ Sl BoolR 1 w' A2 cap R ∧ Bel w w' := by
  rw [← hr.out]
  unfold reachR
  by_cases hm : crsMay l = true
  · rw [if_pos hm, reach_length, hn.out]
    obtain ⟨m0, m1, m2⟩ := crsMay_facts hm
    exact reach_ok A c n l w h hn (Lib.hid hm) (by rw [← hn.out]; exact m0) (by rw [← hn.out]; exact m1) (Lib.hid m2)
  · rw [if_neg hm]
    have HM : Hid (crsMay l = false) := Lib.hid (by simpa using hm)
    have HS := Lib.hid h
    clear hm h
    go_enter Try.func11, Try.ntmps11
    go_wp2
    go_step3
    go_wp2_with fail
    refine (crsmay_at _ _ _ _ _ _ HS.out hn HM).mono ?_
    rintro e w1 ⟨rfl, hb⟩
    go_wp2_with fail
    rw [Exit.noGoto_ret]
    go_ret
    exact ⟨none, 0, rfl, Sl.nil _ _ _, hb⟩
end Go.Proofs.Ytebdnobgdimdoaa
