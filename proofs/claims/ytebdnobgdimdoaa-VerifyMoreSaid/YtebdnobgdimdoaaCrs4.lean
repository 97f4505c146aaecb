/- course.Fine by its contract. -/
import Derived.Test.YtebdnobgdimdoaaCrs3
import Derived.Shelf.SlicesE.IndexFunc
set_option linter.unusedVariables false
set_option linter.unusedSimpArgs false
namespace Go.Proofs.Ytebdnobgdimdoaa
open Go.RowKit Go.Shelf Go.Lib
shelf_lay_g SlLaysH.n8 Slgf 8 at Try 31 as crsI8

/-- 'func(n int) bool { return n >= len(l) }', l in a cell of the caller's. -/
theorem off_pred (A : Option Addr) (n c B : Nat) (hn : n ≤ 64) (w : World) (hB : B < w.heap.size) (hcell : w.cell? ⟨B, 0, none⟩ = some (.slice A n c)) :
    PredAt Try.prog 32 #[.pointer (some ⟨B, 0, none⟩)] (Value.int .i64) (fun x => decide ((n : Int) ≤ x)) w := fun W x hb => by
  have hc : W.cell? ⟨B, 0, none⟩ = some (.slice A n c) := (hb.cell (p := ⟨B, 0, none⟩) hB).trans hcell
  show Calls Try.prog 32 #[.int .i64 x, .pointer (some ⟨B, 0, none⟩)] W _
  go_enter Try.func32, Try.ntmps32
  go_wp2
  all_goals (go_ret; exact ⟨by simp_all, 0, rfl⟩)
theorem Bel.un {w w1 : World} {o : Obj} (h : Bel (w.alloc o) w1) : Bel w w1 := ((Bel.refl w).alloc o).trans h
theorem off_enters : ∀ args w, (callFunc 32 args).run Try.prog w = .ok (.enter 32 args) w := enters_of Try.func32 (by kernel_rfl) rfl
theorem ints_any (ts : List Nat) (n : Nat) : (ints ts).any (fun x => decide ((n : Int) ≤ x)) = ts.any fun t => decide (n ≤ t) := by
  unfold ints
  rw [List.any_map]
  congr 1
  funext t
  simp
/-- Does one of the places lie behind the end? -/
theorem containsI_any (A2 : Option Addr) (c2 : Nat) (ts : List Nat) (A : Option Addr) (n c B : Nat) (hn : n ≤ 64) (r : Bool) (w : World) (h : Sl (IntR .i64) 1 w A2 c2 (ints ts)) (hcell : w.cell? ⟨B, 0, none⟩ = some (.slice A n c)) (hr : Hid (ts.any (fun t => decide (n ≤ t)) = r)) :
    Calls Try.prog 31 #[.slice A2 ts.length c2, .func (.func 32) #[] #[.pointer (some ⟨B, 0, none⟩)]] w fun e w' => e = .returned (.bool r) ∧ Bel w w' := by
  have hB : B < w.heap.size := World.block_lt_of_cell? _ _ hcell
  have hle := h.le
  have hbig := h.big
  simp only [maxLen, ints, List.length_map] at hbig hle
  by_cases h0 : ts.length = 0
  · have e : ts = [] := List.eq_nil_of_length_eq_zero h0
    subst e
    have hcon := AnyE.slices_ContainsFunc_empty crsI8 A2 c2 (.func (.func 32) #[] #[.pointer (some ⟨B, 0, none⟩)]) w
    change Calls Try.prog 31 _ _ _ at hcon
    rw [← hr.out]
    exact hcon.mono fun e w' ⟨h1, h2⟩ => ⟨h1, h2 ▸ Bel.refl _⟩
  · obtain ⟨b, o, rfl, hc⟩ := h.int_cell (by simp [ints]; omega)
    have hcon := AnyE.slices_ContainsFunc crsI8 (Value.int .i64) (fun x => decide ((n : Int) ≤ x)) 32 #[.pointer (some ⟨B, 0, none⟩)] off_enters b o ts.length c2 (ints ts) w (off_pred A n c B hn w hB hcell) (by simp [ints]) (by omega) (fun j hj => by
      have := (hc j hj).1
      rw [this, getElem!_pos (ints ts) j hj, List.getD_eq_getElem?_getD, List.getElem?_eq_getElem hj]
      rfl)
    change Calls Try.prog 31 _ _ _ at hcon
    rw [show (ints ts).take ts.length = ints ts from List.take_of_length_le (by simp [ints]), ints_any, hr.out] at hcon
    exact hcon.mono fun e w' ⟨h1, q, h2⟩ => ⟨h1, h2 ▸ (Bel.refl w).drewN q⟩
def goodB (l : List InstD) (k : Nat) : Bool := !(reach l).getD k false || (nxt l[k]! k).all fun t => decide (t < l.length)
theorem fine_true {l : List InstD} (hm : crsMay l = true) (h : ∀ k, k < l.length → goodB l k = true) : fineB l = true := by
  unfold fineB
  rw [hm, Bool.true_and, List.all_eq_true]
  intro k hk
  exact h k (List.mem_range.1 hk)
theorem fine_false {l : List InstD} {k : Nat} (hk : k < l.length) (h : goodB l k = false) : fineB l = false := by
  unfold fineB
  have : (List.range l.length).all (fun k => !(reach l).getD k false || (nxt l[k]! k).all fun t => decide (t < l.length)) = false := by
    rw [Bool.eq_false_iff]
    intro hh
    rw [List.all_eq_true] at hh
    have := hh k (List.mem_range.2 hk)
    unfold goodB at h
    rw [h] at this
    cases this
  rw [this, Bool.and_false]
theorem good_of {l : List InstD} {k n : Nat} {ts : List Nat} {r : Bool} (hn : l.length = n) (hr : (reach l).getD k false = true) (ht : nxt l[k]! k = ts) (ha : ts.any (fun t => decide (n ≤ t)) = r) : goodB l k = !r := by
  unfold goodB
  rw [hr, ht, hn, ← ha]
  rw [Bool.eq_iff_iff]
  simp
theorem good_not {l : List InstD} {k : Nat} (hr : (reach l).getD k false = false) : goodB l k = true := by
  unfold goodB; rw [hr]; rfl
set_option maxHeartbeats 4000000 in
set_option maxRecDepth 100000 in
theorem fine_ok (A : Option Addr) (c n : Nat) (l : List InstD) (w : World) (h : Sl InstR 7 w A c l) (hn : Hid (l.length = n)) (hm : Hid (crsMay l = true)) (hn0 : 0 < n) (hn1 : n ≤ 64) (hok : Hid (∀ k, k < l.length → (l[k]!).okB = true)) :
    Calls Try.prog 15 #[.slice A n c] w fun e w' => e = .returned (.bool (fineB l)) ∧ Bel w w' := by
  have HB := Bel.refl (w.alloc (.cells #[.slice A n c] 29))
  have HS := Lib.hid (h.mono InstR.mono ((Bel.refl w).alloc (.cells #[.slice A n c] 29)))
  clear h
  go_enter Try.func15, Try.ntmps15
  go_wp2_with fail
  refine (crsmay_at _ _ _ _ _ _ HS.out hn hm).mono ?_
  rintro e w1 ⟨rfl, hb⟩
  have HB := HB.trans hb
  have HS := Lib.hid (HS.out.mono InstR.mono hb)
  have p0 := HB.cell (p := ⟨w.heap.size, 0, none⟩) (v := .slice A n c) (by simp)
  clear hb
  go_wp2_with fail
  refine (Reach_any _ _ _ _ (reach l) _ HS.out hn (Lib.hid (by unfold reachR; rw [if_pos hm.out]))).mono ?_
  rw [reach_length, hn.out]
  rintro e w2 ⟨A2, c2, rfl, s2, hb⟩
  have HB := HB.trans hb
  have HS := Lib.hid (HS.out.mono InstR.mono hb)
  have S2 := Lib.hid s2
  have p0 := HB.cell (p := ⟨w.heap.size, 0, none⟩) (v := .slice A n c) (by simp)
  clear hb s2
  go_wp2_with fail
  have hmf : ∀ (fn : Fn) (first cap : Array Value) (w : World), (Instr.makeFunc fn first cap).run Try.prog w = .ok (.func fn first cap) w := fun _ _ _ _ => rfl
  go_loopw [11] (fun v wr => ∃ k : Nat, v = .int .i64 k ∧ k ≤ n ∧ (∀ j, j < k → goodB l j = true) ∧ Bel w2 wr) (fun v _ => n - (intOf v).toNat)
  case atStart => exact ⟨0, rfl, Nat.zero_le _, fun j hj => absurd hj (Nat.not_lt_zero _), Bel.refl _⟩
  case round =>
    obtain ⟨k, rfl, hk, hgood, hbk⟩ := hrel
    have HG := Lib.hid hgood
    have HBw := HB.trans hbk
    have HSr := Lib.hid (HS.out.mono InstR.mono hbk)
    have p0 := HBw.cell (p := ⟨w.heap.size, 0, none⟩) (v := .slice A n c) (by simp)
    clear hgood
    by_cases hkn : k = n
    · subst hkn
      have hfin := fine_true hm.out (fun j hj => HG.out j (by rw [← hn.out]; exact hj))
      go_wp2_with fail
      go_ret
      rw [hfin]
      exact ⟨rfl, HBw.un⟩
    · have hk1 : k < n := by omega
      have hk2 : (k : Int) < n := by omega
      have k0 : 0 ≤ (k : Int) := by omega
      have ek : IntKind.i64.wrap ((k : Int) + 1) = (k : Int) + 1 := wrap_i64 (by omega) (by omega)
      obtain ⟨b2, o2, rfl, hc2⟩ := S2.out.bool_cell (by rw [reach_length, hn.out]; exact hn0)
      have rc := hbk.cell (hc2 k (by rw [reach_length, hn.out]; exact hk1))
      clear hc2
      by_cases hr : (reach l).getD k false = true
      · rw [hr] at rc
        have HRR := Lib.hid hr
        obtain ⟨ts, hts⟩ : ∃ ts, Hid (nxt l[k]! k = ts) := ⟨_, Lib.hid rfl⟩
        obtain ⟨r, har⟩ : ∃ r, Hid (ts.any (fun t => decide (n ≤ t)) = r) := ⟨_, Lib.hid rfl⟩
        have HGO := Lib.hid (good_of hn.out hr hts.out har.out)
        clear hr
        go_wp2_with fail
        refine (next_any _ _ _ _ k ts _ HSr.out hn hk1 (by omega) (hok.out k (by rw [hn.out]; exact hk1)) hts).mono ?_
        rintro e w4 ⟨A3, c3, rfl, s3, hfr, hb4⟩
        have S3 := Lib.hid s3
        have HBw := HBw.trans hb4
        have hbk := hbk.trans hb4
        have p0 := HBw.cell (p := ⟨w.heap.size, 0, none⟩) (v := .slice A n c) (by simp)
        clear s3 hfr hb4 rc
        go_wp2_with fail
        refine (containsI_any A3 c3 ts A n c w.heap.size hn1 r _ S3.out p0 har).mono ?_
        rintro e w5 ⟨rfl, hb5⟩
        have HBw := HBw.trans hb5
        have hbk := hbk.trans hb5
        clear hb5 p0
        cases r
        · go_wp2
          go_roundw
          case rel => exact ⟨k + 1, by simp, by omega, fun j hj => by
            by_cases e : j = k
            · subst e; exact HGO.out
            · exact HG.out j (by omega), hbk⟩
          case measure => simp [intOf]; omega
        · have hfin := fine_false (by rw [hn.out]; exact hk1) HGO.out
          go_wp2
          go_ret
          rw [hfin]
          exact ⟨rfl, HBw.un⟩
      · have hr' : (reach l).getD k false = false := by simpa using hr
        have HGO := Lib.hid (good_not hr')
        rw [hr'] at rc
        clear hr hr'
        go_wp2
        go_roundw
        case rel => exact ⟨k + 1, by simp, by omega, fun j hj => by
          by_cases e : j = k
          · subst e; exact HGO.out
          · exact HG.out j (by omega), hbk⟩
        case measure => simp [intOf]; omega
theorem Fine_any (A : Option Addr) (c n : Nat) (l : List InstD) (r : Bool) (w : World) (h : Sl InstR 7 w A c l) (hn : Hid (l.length = n)) (hr : Hid (fineB l = r)) :
    Calls Try.prog 15 #[.slice A n c] w fun e w' => e = .returned (.bool r) ∧ Bel w w' := by
  rw [← hr.out]
  by_cases hm : crsMay l = true
  · obtain ⟨m0, m1, m2⟩ := crsMay_facts hm
    exact fine_ok A c n l w h hn (Lib.hid hm) (by rw [← hn.out]; exact m0) (by rw [← hn.out]; exact m1) (Lib.hid m2)
  · have HM : Hid (crsMay l = false) := Lib.hid (by simpa using hm)
    have hf : fineB l = false := by unfold fineB; rw [HM.out]; rfl
    rw [hf]
    have HB := Bel.refl (w.alloc (.cells #[.slice A n c] 29))
    have HS := Lib.hid (h.mono InstR.mono ((Bel.refl w).alloc (.cells #[.slice A n c] 29)))
    clear hm h hf
    go_enter Try.func15, Try.ntmps15
    go_wp2_with fail
    refine (crsmay_at _ _ _ _ _ _ HS.out hn HM).mono ?_
    rintro e w1 ⟨rfl, hb⟩
    have HB := HB.trans hb
    go_wp2_with fail
    go_ret
    exact ⟨rfl, HB.un⟩
end Go.Proofs.Ytebdnobgdimdoaa
