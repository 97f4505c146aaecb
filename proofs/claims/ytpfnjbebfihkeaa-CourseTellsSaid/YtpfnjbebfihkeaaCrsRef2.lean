/- The document's 'Reach' by its contract. -/
import Derived.Test.YtpfnjbebfihkeaaCrsRef1
set_option linter.unusedVariables false
set_option linter.unusedSimpArgs false
namespace Go.Proofs.Ytpfnjbebfihkeaa
open Go.RowKit

/-- A pass over all places, from whatever is reached so far. -/
def passUpto (l : List InstD) (R : List Bool) : Nat → List Bool
  | 0 => R
  | k + 1 => rstep l (passUpto l R k) k
theorem passUpto_length {l : List InstD} {R : List Bool} {n : Nat} (h : R.length = n) : ∀ k, (passUpto l R k).length = n
  | 0 => h
  | k + 1 => by rw [passUpto, rstep_length]; exact passUpto_length h k
theorem pass_start (l : List InstD) : ∀ k, passUpto l (reachUpto l 0) k = reachUpto l k
  | 0 => rfl
  | k + 1 => by rw [passUpto, pass_start l k, reachUpto]
theorem marks_in {n : Nat} : ∀ (ts : List Nat) (R : List Bool), R.length = n → (∀ t ∈ ts, t < n → R.getD t false = true) → ts.foldl (mark n) R = R
  | [], R, _, _ => rfl
  | t :: ts, R, hR, h => by
    have e : mark n R t = R := by
      unfold mark
      split
      · rename_i ht
        have h1 := h t (by simp) ht
        apply List.ext_getElem
        · simp
        · intro i h2 h3
          rw [List.getElem_set]
          split
          · rename_i e
            subst e
            rw [List.getD_eq_getElem?_getD, List.getElem?_eq_getElem h3] at h1
            simpa using h1.symm
          · rfl
      · rfl
    rw [List.foldl_cons, e]
    exact marks_in ts R hR (fun u hu => h u (by simp [hu]))
theorem pass_still (l : List InstD) : ∀ k, k ≤ l.length → passUpto l (reach l) k = reach l
  | 0, _ => rfl
  | k + 1, hk => by
    rw [passUpto, pass_still l k (by omega)]
    unfold rstep
    split
    · rename_i hr
      exact marks_in _ _ (reach_length l) (fun t ht htl => reach_next (by omega) htl hr ht)
    · rfl
theorem mark_keeps {n : Nat} {R : List Bool} (hR : R.length = n) {t i : Nat} (hi : i < n) (h : R.getD i false = true) : (mark n R t).getD i false = true := (mark_get hR hi).2 (.inl h)
theorem marks_keeps {n i : Nat} {R : List Bool} (hR : R.length = n) (hi : i < n) (ts : List Nat) (h : R.getD i false = true) : (ts.foldl (mark n) R).getD i false = true := (marks_get hi ts R hR).2 (.inl h)
theorem pass_keeps {l : List InstD} {R : List Bool} {n : Nat} (hl : l.length = n) (hR : R.length = n) {i : Nat} (hi : i < n) (h : R.getD i false = true) : ∀ k, (passUpto l R k).getD i false = true
  | 0 => h
  | k + 1 => by
    have ih := pass_keeps hl hR hi h k
    rw [passUpto]
    unfold rstep
    split
    · rw [hl]; exact marks_keeps (passUpto_length hR k) hi _ ih
    · exact ih
/-- Something is reached that was not. -/
def Grew (n : Nat) (R Q : List Bool) : Prop := ∃ t, t < n ∧ R.getD t false = false ∧ Q.getD t false = true
theorem Grew.none {n : Nat} {R : List Bool} (h : Grew n R R) : False := by
  obtain ⟨t, _, h1, h2⟩ := h
  rw [h1] at h2
  cases h2
theorem Grew.mark {n : Nat} {R Q : List Bool} (hQ : Q.length = n) (h : Grew n R Q) (t : Nat) : Grew n R (mark n Q t) := by
  obtain ⟨u, hu, h1, h2⟩ := h
  exact ⟨u, hu, h1, mark_keeps hQ hu h2⟩
/-- How much there is to do yet. -/
noncomputable def toDo (t : TypeId) (g : Nat) (R : List Bool) (mv : Value) (wr : World) : Nat :=
  (match mv with | .bool true => 1 | _ => 0) + (@ite _ (wr.heap[g]? = some (.cells (R.map Value.bool).toArray t (0, 0))) (Classical.propDecidable _) 0 2)
theorem toDo_less {t : TypeId} {g n : Nat} {R Q : List Bool} {mb : Bool} {wo wn : World} (ho : Row Value.bool t wo g Q) (hn : Row Value.bool t wn g R) (h : mb = true → Grew n Q R) : toDo t g R (.bool mb) wn < toDo t g R (.bool true) wo := by
  unfold toDo
  rw [if_pos hn.out]
  by_cases e : wo.heap[g]? = some (.cells (R.map Value.bool).toArray t (0, 0))
  · rw [if_pos e]
    have hQR : Q = R := by
      have h1 := ho.out.symm.trans e
      simp at h1
      exact (List.map_inj_right (fun a b hab => by cases hab; rfl)).1 h1
    cases mb with
    | false => simp
    | true => exact absurd (hQR ▸ h rfl) Grew.none
  · rw [if_neg e]
    cases mb <;> simp
set_option maxHeartbeats 4000000 in
set_option maxRecDepth 100000 in
theorem refreach_ok (A : Option Addr) (c n : Nat) (l : List InstD) (w : World) (h : Sl InstR 7 w A c l) (hn : Hid (l.length = n)) (hm : Hid (crsMay l = true)) (hn0 : 0 < n) (hn1 : n ≤ 64) :
    Calls Try.prog 16 #[.slice A n c] w fun e w' => ∃ A2 cap, e = .returned (.slice A2 n cap) ∧ Sl BoolR 1 w' A2 cap (reach l) ∧ (∀ x, A2 = some x → w.heap.size ≤ x.block) ∧ Bel w w' := by
  have HS0 := Lib.hid h
  clear h
  have hns : (n : Int) ≤ 64 := by omega
  have hns0 : (0 : Int) < n := by omega
  have HRL : Hid ((reach l).length = n) := Lib.hid (by rw [reach_length, hn.out])
  go_enter Try.func16, Try.ntmps16
  go_wp2_with fail
  refine (refCrsMay_any _ _ _ l true _ HS0.out hn hm).mono ?_
  rintro e w1 ⟨rfl, hb⟩
  have HB := hb
  clear hb
  have hmk := (made_row n w1).resolve_right (by omega)
  obtain ⟨W2, hW2⟩ : ∃ W2, W2 = w1.alloc (.cells ((List.replicate n false).map Value.bool).toArray 4) := ⟨_, rfl⟩
  have HB2 : Bel w1 W2 := by rw [hW2]; exact (Bel.refl _).alloc _
  have R0 : Row Value.bool 4 W2 w1.heap.size (List.replicate n false) := by rw [hW2]; exact Row.new _ _ _
  have hgs : w.heap.size ≤ w1.heap.size := HB.size
  rw [← hW2] at hmk
  clear hW2
  generalize w1.heap.size = g at *
  have rc := R0.cell (i := 0) (by simpa using hn0)
  have rf := R0.frozen 0
  have R1 := R0.set (i := 0) (by simpa using hn0) true
  have HB := HB.trans HB2
  have HB3 : Bel w (W2.setCell ⟨g, 0, none⟩ (.bool true)) := HB.setCell hgs _
  have e0 : (List.replicate n false).set 0 true = reachUpto l 0 := by rw [reachUpto, hn.out]
  rw [e0] at R1
  have HR := Lib.hid R1
  clear R0 R1 e0
  go_wp2_with fail
  clear rc rf
  generalize W2.setCell ⟨g, 0, none⟩ (.bool true) = W3 at *
  clear HB hmk HB2
  go_loopw [5] (fun mv wr => ∃ (mb : Bool) (R : List Bool), mv = .bool mb ∧ Row Value.bool 4 wr g R ∧ Hid ((R = reachUpto l 0 ∧ mb = true) ∨ R = reach l) ∧ Bel w wr) (fun mv wr => toDo 4 g (reach l) mv wr)
  case atStart => exact ⟨true, _, rfl, HR.out, Lib.hid (.inl ⟨rfl, rfl⟩), HB3⟩
  case round =>
    obtain ⟨mb, R, rfl, hrow, HPH, hbr⟩ := hrel
    cases mb
    · have HE : R = reach l := by
        rcases HPH.out with ⟨_, h⟩ | h
        · cases h
        · exact h
      subst HE
      have HRW := Lib.hid hrow
      clear hrow
      go_wp2
      go_ret
      exact ⟨_, _, rfl, row_slice HRW.out HRL.out hn1, (fun x hx => by cases hx; exact hgs), hbr⟩
    · have HL : Hid (R.length = n) := Lib.hid (by
        rcases HPH.out with ⟨h, _⟩ | h
        · rw [h, reachUpto_length, hn.out]
        · rw [h]; exact HRL.out)
      have HEND : Hid (passUpto l R n = reach l) := Lib.hid (by
        rcases HPH.out with ⟨h, _⟩ | h
        · rw [h, pass_start, ← hn.out]; rfl
        · rw [h]; exact pass_still l n (by rw [hn.out]; exact Nat.le_refl _))
      have HRW := Lib.hid hrow
      clear hrow
      go_wp2_with fail
      go_loopw [5, 6] (fun mv iv ws => ∃ (i : Nat) (mb : Bool), iv = .int .i64 i ∧ i ≤ n ∧ mv = .bool mb ∧ Row Value.bool 4 ws g (passUpto l R i) ∧ Hid (mb = true → Grew n R (passUpto l R i)) ∧ Bel w ws) (fun _ iv _ => n - (intOf iv).toNat)
      case atStart => exact ⟨0, false, rfl, Nat.zero_le _, rfl, HRW.out, Lib.hid (fun h => by cases h), hbr⟩
      case round =>
        obtain ⟨i, mb, rfl, hi, rfl, hrow, HG, hbs⟩ := hrel
        by_cases hin : i = n
        · subst hin
          rw [HEND.out] at hrow
          have HG2 := HG.out
          rw [HEND.out] at HG2
          have HNEW := Lib.hid hrow
          have HLESS := Lib.hid (toDo_less HRW.out HNEW.out HG2)
          clear hrow HG2
          go_wp2
          go_roundw
          case rel => exact ⟨mb, reach l, rfl, HNEW.out, Lib.hid (.inr rfl), hbs⟩
          case measure => exact HLESS.out
        · have hi1 : i < n := by omega
          have hi2 : (i : Int) < n := by omega
          have i0 : 0 ≤ (i : Int) := by omega
          have HEI : Hid (IntKind.i64.wrap ((i : Int) + 1) = (i : Int) + 1) := Lib.hid (wrap_i64 (by omega) (by omega))
          have HIL : Hid (i < l.length) := Lib.hid (by rw [hn.out]; exact hi1)
          obtain ⟨ts, hts⟩ : ∃ ts, Hid (nxt l[i]! i = ts) := ⟨_, Lib.hid rfl⟩
          have HQL : Hid ((passUpto l R i).length = n) := Lib.hid (passUpto_length HL.out i)
          have HST : Hid (passUpto l R (i + 1) = if (passUpto l R i).getD i false = true then ts.foldl (mark n) (passUpto l R i) else passUpto l R i) := Lib.hid (by
            rw [passUpto, rstep, hts.out, hn.out])
          have HKP : Hid (∀ t, t < n → R.getD t false = true → (passUpto l R i).getD t false = true) := Lib.hid (fun t ht h => pass_keeps hn.out HL.out ht h i)
          obtain ⟨Q, hQ⟩ : ∃ Q, Hid (passUpto l R i = Q) := ⟨_, Lib.hid rfl⟩
          rw [hQ.out] at hrow HG HQL HST HKP
          have HRQ := Lib.hid hrow
          have hgt : ∀ t ∈ ts, i < t := fun t ht => by rw [← hts.out] at ht; exact nxt_gt ht
          have HGT := Lib.hid hgt
          have htl : ts.length ≤ 2 := by rw [← hts.out]; exact nxt_two _ _
          have HSr := HS0.out.mono InstR.mono hbs
          clear hrow hgt hin
          go_wp2_with fail
          refine (refNext_any _ _ _ l i ts _ HSr hn (Lib.hid ((nextR_in hm.out HIL.out).trans hts.out))).mono ?_
          rintro e w4 ⟨A2, c2, rfl, s2, hfr, hb4⟩
          have IA := Lib.hid (IntsAt.of s2 hfr HRQ.out.lt)
          have HR4 := Lib.hid (HRQ.out.mono hb4)
          have HB4 := hbs.trans hb4
          clear s2 hfr hb4 HSr hts
          go_wp2_with fail
          obtain ⟨rv, hrv⟩ : ∃ rv, Hid (Q.getD i false = rv) := ⟨_, Lib.hid rfl⟩
          rw [hrv.out] at HST
          cases rv
          · have rc := HR4.out.bool_at (k := i) (by rw [HQL.out]; exact hi1)
            rw [hrv.out] at rc
            have HST' : Hid (passUpto l R (i + 1) = Q) := Lib.hid (by rw [HST.out, if_neg (by simp)])
            go_loopw [5, 8] (fun mv v wr => mv = .bool mb ∧ v = .int .i64 0 ∧ wr = w4) (fun _ v _ => 0)
            case atStart => exact ⟨rfl, rfl, rfl⟩
            case round =>
              obtain ⟨rfl, rfl, rfl⟩ := hrel
              have ei := HEI.out
              by_cases hz : (0 : Int) < ts.length
              · go_wp2
                go_roundw
                case rel => exact ⟨i + 1, mb, by simp, by omega, rfl, by rw [HST'.out]; exact HR4.out, by rw [HST'.out]; exact HG, HB4⟩
                case measure => simp [intOf]; omega
              · go_wp2
                go_roundw
                case rel => exact ⟨i + 1, mb, by simp, by omega, rfl, by rw [HST'.out]; exact HR4.out, by rw [HST'.out]; exact HG, HB4⟩
                case measure => simp [intOf]; omega
          · have HST' : Hid (passUpto l R (i + 1) = ts.foldl (mark n) Q) := Lib.hid (by rw [HST.out, if_pos rfl])
            go_loopw [5, 8] (fun mv v wr => ∃ (k : Nat) (mb : Bool), v = .int .i64 k ∧ k ≤ ts.length ∧ mv = .bool mb ∧ Row Value.bool 4 wr g ((ts.take k).foldl (mark n) Q) ∧ Hid (mb = true → Grew n R ((ts.take k).foldl (mark n) Q)) ∧ IntsAt A2 g ts wr ∧ Bel w wr) (fun _ v _ => ts.length - (intOf v).toNat)
            case atStart => exact ⟨0, mb, rfl, Nat.zero_le _, rfl, by simpa using HR4.out, by simpa using HG, IA.out, HB4⟩
            case round =>
              obtain ⟨k, mb, rfl, hk, rfl, hrow, HG, hia, hbk⟩ := hrel
              have hrl : ((ts.take k).foldl (mark n) Q).length = n := by rw [marks_length]; exact HQL.out
              have HRLk := Lib.hid hrl
              have rci := hrow.bool_at (k := i) (by rw [hrl]; exact hi1)
              rw [marks_keeps HQL.out hi1 _ hrv.out] at rci
              by_cases hkt : k = ts.length
              · subst hkt
                rw [List.take_length] at hrow HG
                have HRW2 := Lib.hid hrow
                have ei := HEI.out
                clear hrow hia hrl rci
                go_wp2
                go_roundw
                case rel => exact ⟨i + 1, mb, by simp, by omega, rfl, by rw [HST'.out]; exact HRW2.out, by rw [HST'.out]; exact HG, hbk⟩
                case measure => simp [intOf]; omega
              · have hk1 : k < ts.length := by omega
                have hk2 : (k : Int) < ts.length := by omega
                have k0 : 0 ≤ (k : Int) := by omega
                have HIA := Lib.hid hia
                obtain ⟨b2, o2, rfl, hne, hcj⟩ := hia k hk1
                have hfs := Lib.hid (foldl_take_succ (mark n) Q ts hk1)
                have ek : IntKind.i64.wrap ((k : Int) + 1) = (k : Int) + 1 := wrap_i64 (by omega) (by omega)
                have HKP2 : Hid (∀ t, t < n → R.getD t false = true → ((ts.take k).foldl (mark n) Q).getD t false = true) := Lib.hid (fun t ht h => marks_keeps HQL.out ht _ (HKP.out t ht h))
                generalize ts[k] = t at *
                have t0 : 0 ≤ (t : Int) := by omega
                obtain ⟨P, hP⟩ : ∃ P, Hid ((ts.take k).foldl (mark n) Q = P) := ⟨_, Lib.hid rfl⟩
                rw [hP.out] at hrow HG hfs HKP2 HRLk
                have HRP := Lib.hid hrow
                clear hia hrl hkt hrow
                by_cases htn : t < n
                · have htn' : (t : Int) < (n : Int) := by omega
                  have hmk : mark n P t = P.set t true := if_pos htn
                  have rct := HRP.out.bool_at (k := t) (by rw [HRLk.out]; exact htn)
                  have rft := HRP.out.frozen t
                  have HSET : Hid (Row Value.bool 4 (wr.setCell ⟨g, t, none⟩ (.bool true)) g (mark n P t)) := Lib.hid (by rw [hmk]; exact HRP.out.set (i := t) (by rw [HRLk.out]; exact htn) true)
                  have hb3 : Bel w (wr.setCell ⟨g, t, none⟩ (.bool true)) := hbk.setCell hgs _
                  have HIA2 := Lib.hid (HIA.out.set t (.bool true))
                  have HGM : Hid (mb = true → Grew n R (mark n P t)) := Lib.hid (fun h => (HG.out h).mark HRLk.out t)
                  obtain ⟨pt, hpt⟩ : ∃ pt, Hid (P.getD t false = pt) := ⟨_, Lib.hid rfl⟩
                  rw [hpt.out] at rct
                  cases pt
                  · have HGN : Hid (true = true → Grew n R (mark n P t)) := Lib.hid (fun _ => by
                      refine ⟨t, htn, ?_, (mark_get HRLk.out htn).2 (.inr rfl)⟩
                      exact Bool.eq_false_iff.2 (fun h => by have := HKP2.out t htn h; rw [hpt.out] at this; cases this))
                    clear hmk
                    go_wp2
                    go_roundw
                    case rel => exact ⟨k + 1, true, by simp, by omega, rfl, by rw [hfs.out]; exact HSET.out, by rw [hfs.out]; exact HGN, HIA2.out, hb3⟩
                    case measure => simp [intOf]; omega
                  · have HSAME : Hid (mark n P t = P) := Lib.hid (marks_in [t] P HRLk.out (fun u hu _ => by simp at hu; subst hu; exact hpt.out))
                    clear hmk
                    go_wp2
                    go_roundw
                    case rel => exact ⟨k + 1, mb, by simp, by omega, rfl, by rw [hfs.out, HSAME.out]; exact HRP.out, by rw [hfs.out]; exact HGM, HIA.out, hbk⟩
                    case measure => simp [intOf]; omega
                · have htn' : ¬ (t : Int) < (n : Int) := by omega
                  have HSAME : Hid (mark n P t = P) := Lib.hid (if_neg htn)
                  go_wp2
                  go_roundw
                  case rel => exact ⟨k + 1, mb, by simp, by omega, rfl, by rw [hfs.out, HSAME.out]; exact HRP.out, by rw [hfs.out, HSAME.out]; exact HG, HIA.out, hbk⟩
                  case measure => simp [intOf]; omega
set_option maxHeartbeats 1000000 in
theorem refReach_any (A : Option Addr) (c n : Nat) (l : List InstD) (R : List Bool) (w : World) (h : Sl InstR 7 w A c l) (hn : Hid (l.length = n)) (hr : Hid (reachR l = R)) :
    Calls Try.prog 16 #[.slice A n c] w fun e w' => ∃ A2 cap, e = .returned (.slice A2 R.length cap) ∧ Sl BoolR 1 w' A2 cap R ∧ (∀ x, A2 = some x → w.heap.size ≤ x.block) ∧ Bel w w' := by
  rw [← hr.out]
  unfold reachR
  by_cases hm : crsMay l = true
  · rw [if_pos hm, reach_length, hn.out]
    obtain ⟨m0, m1, m2⟩ := crsMay_facts hm
    exact refreach_ok A c n l w h hn (Lib.hid hm) (by rw [← hn.out]; exact m0) (by rw [← hn.out]; exact m1)
  · rw [if_neg hm]
    have HM : Hid (crsMay l = false) := Lib.hid (by simpa using hm)
    have HS := Lib.hid h
    clear hm h
    go_enter Try.func16, Try.ntmps16
    go_wp2_with fail
    refine (refCrsMay_any _ _ _ l false _ HS.out hn HM).mono ?_
    rintro e w1 ⟨rfl, hb⟩
    go_wp2_with fail
    go_ret
    exact ⟨none, 0, rfl, Sl.nil _ _ _, (fun x hx => by cases hx), hb⟩
set_option maxHeartbeats 4000000 in
set_option maxRecDepth 100000 in
theorem refFine_any (A : Option Addr) (c n : Nat) (l : List InstD) (r : Bool) (w : World) (h : Sl InstR 7 w A c l) (hn : Hid (l.length = n)) (hr : Hid (fineB l = r)) :
    Calls Try.prog 20 #[.slice A n c] w fun e w' => e = .returned (.bool r) ∧ Bel w w' := by
  rw [← hr.out]
  have HS0 := Lib.hid h
  clear h hr
  by_cases hm : crsMay l = true
  · have HM := Lib.hid hm
    obtain ⟨m0, m1, -⟩ := crsMay_facts hm
    rw [hn.out] at m0 m1
    have HRL : Hid ((reach l).length = n) := Lib.hid (by rw [reach_length, hn.out])
    have m0' : (0 : Int) < n := by omega
    clear hm
    go_enter Try.func20, Try.ntmps20
    go_wp2_with fail
    refine (refReach_any _ _ _ _ (reach l) _ HS0.out hn (Lib.hid (by unfold reachR; rw [if_pos HM.out]))).mono ?_
    rw [HRL.out]
    rintro e w2 ⟨A2, c2, rfl, s2, -, hb⟩
    have HB := hb
    have HS := Lib.hid (HS0.out.mono InstR.mono hb)
    obtain ⟨b2, o2, rfl, hc2⟩ := s2.bool_cell (by rw [HRL.out]; exact m0)
    have HC2 : Hid (∀ i, i < n → w2.cell? ⟨b2, o2 + i, none⟩ = some (.bool ((reach l).getD i false))) := Lib.hid (fun i hi => hc2 i (by rw [HRL.out]; exact hi))
    clear s2 hc2 hb
    go_wp2_with fail
    go_loopw [4] (fun v wr => ∃ i : Nat, v = .int .i64 i ∧ i ≤ n ∧ Hid (∀ j, j < i → goodB l j = true) ∧ Bel w2 wr) (fun v _ => n - (intOf v).toNat)
    case atStart => exact ⟨0, rfl, Nat.zero_le _, Lib.hid (fun j hj => absurd hj (Nat.not_lt_zero _)), Bel.refl _⟩
    case round =>
      obtain ⟨i, rfl, hi, HG, hbi⟩ := hrel
      have HBw := HB.trans hbi
      by_cases hin : i = n
      · subst hin
        have hfin := fine_true HM.out (fun j hj => HG.out j (by rw [← hn.out]; exact hj))
        go_wp2_with fail
        go_ret
        (try rw [hfin])
        exact ⟨by simp, HBw⟩
      · have hi1 : i < n := by omega
        have hi2 : (i : Int) < n := by omega
        have i0 : 0 ≤ (i : Int) := by omega
        have HEI : Hid (IntKind.i64.wrap ((i : Int) + 1) = (i : Int) + 1) := Lib.hid (wrap_i64 (by omega) (by omega))
        have HIL : Hid (i < l.length) := Lib.hid (by rw [hn.out]; exact hi1)
        obtain ⟨ts, hts⟩ : ∃ ts, Hid (nxt l[i]! i = ts) := ⟨_, Lib.hid rfl⟩
        have htl : ts.length ≤ 2 := by rw [← hts.out]; exact nxt_two _ _
        have HSr := HS.out.mono InstR.mono hbi
        clear hin
        go_wp2_with fail
        refine (refNext_any _ _ _ l i ts _ HSr hn (Lib.hid ((nextR_in HM.out HIL.out).trans hts.out))).mono ?_
        rintro e w3 ⟨A3, c3, rfl, s3, -, hb3⟩
        have HBw := HBw.trans hb3
        have hbi := hbi.trans hb3
        have S3 := Lib.hid s3
        have HBI := Lib.hid hbi
        have rc := hbi.cell (HC2.out i hi1)
        obtain ⟨rv, hrv⟩ : ∃ rv, Hid ((reach l).getD i false = rv) := ⟨_, Lib.hid rfl⟩
        rw [hrv.out] at rc
        clear s3 hb3 hbi HSr
        go_wp2_with fail
        go_loopw [6] (fun v wr => ∃ k : Nat, v = .int .i64 k ∧ k ≤ ts.length ∧ Hid (rv = true → ∀ t ∈ ts.take k, t < n) ∧ wr = w3) (fun v _ => ts.length - (intOf v).toNat)
        case atStart => exact ⟨0, rfl, Nat.zero_le _, Lib.hid (fun _ t ht => by simp at ht), rfl⟩
        case round =>
          obtain ⟨k, rfl, hk, HT, rfl⟩ := hrel
          by_cases hkt : k = ts.length
          · subst hkt
            have HGI : Hid (goodB l i = true) := Lib.hid (by
              unfold goodB
              rw [hrv.out, hts.out]
              have := HT.out
              rw [List.take_length] at this
              cases rv
              · rfl
              · rw [Bool.not_true, Bool.false_or, List.all_eq_true]
                intro t ht
                rw [hn.out]
                exact decide_eq_true (this rfl t ht))
            have ei := HEI.out
            clear hk
            go_wp2
            go_roundw
            case rel => exact ⟨i + 1, by simp, by omega, Lib.hid (fun j hj => by
              by_cases e : j = i
              · subst e; exact HGI.out
              · exact HG.out j (by omega)), HBI.out⟩
            case measure => simp [intOf]; omega
          · have hk1 : k < ts.length := by omega
            have hk2 : (k : Int) < ts.length := by omega
            have k0 : 0 ≤ (k : Int) := by omega
            have ek : IntKind.i64.wrap ((k : Int) + 1) = (k : Int) + 1 := wrap_i64 (by omega) (by omega)
            obtain ⟨b3, o3, rfl, hc3⟩ := ints_cells S3.out (by omega)
            have d3 := hc3 k hk1
            have hin2 : Hid (ts[k] ∈ ts) := Lib.hid (List.getElem_mem hk1)
            have HTK : Hid (ts.take (k + 1) = ts.take k ++ [ts[k]]) := Lib.hid (by rw [List.take_append_getElem])
            generalize ts[k] = t at *
            have t0 : 0 ≤ (t : Int) := by omega
            clear hc3 hkt
            cases rv
            · have HT' : Hid (false = true → ∀ t ∈ ts.take (k + 1), t < n) := Lib.hid (fun h => by cases h)
              go_wp2
              go_roundw
              case rel => exact ⟨k + 1, by simp, by omega, (by first | exact HT' | exact Lib.hid (fun _ => HT'.out rfl) | exact Lib.hid (fun h => h.elim)), by first | rfl | trivial⟩
              case measure => simp [intOf]; omega
            · by_cases htn : t < n
              · have htn' : ¬ (n : Int) ≤ t := by omega
                have HT' : Hid (true = true → ∀ t ∈ ts.take (k + 1), t < n) := Lib.hid (fun _ u hu => by
                  rw [HTK.out] at hu
                  rcases List.mem_append.1 hu with h | h
                  · exact HT.out rfl u h
                  · simp at h; subst h; exact htn)
                go_wp2
                go_roundw
                case rel => exact ⟨k + 1, by simp, by omega, (by first | exact HT' | exact Lib.hid (fun _ => HT'.out rfl) | exact Lib.hid (fun h => h.elim)), by first | rfl | trivial⟩
                case measure => simp [intOf]; omega
              · have htn' : (n : Int) ≤ t := by omega
                have hfin : fineB l = false := fine_false HIL.out (by
                  unfold goodB
                  rw [hrv.out, hts.out, Bool.not_true, Bool.false_or, Bool.eq_false_iff]
                  intro h
                  rw [List.all_eq_true] at h
                  have := of_decide_eq_true (h t hin2.out)
                  rw [hn.out] at this
                  exact htn this)
                go_wp2_with fail
                go_ret
                (try rw [hfin])
                exact ⟨rfl, HBw⟩
  · have HM : Hid (crsMay l = false) := Lib.hid (by simpa using hm)
    have hf : fineB l = false := by unfold fineB; rw [HM.out]; rfl
    rw [hf]
    clear hm hf
    go_enter Try.func20, Try.ntmps20
    go_wp2_with fail
    refine (refReach_any _ _ _ _ [] _ HS0.out hn (Lib.hid (by unfold reachR; rw [if_neg (by rw [HM.out]; simp)]))).mono ?_
    rintro e w2 ⟨A2, c2, rfl, s2, -, hb⟩
    go_wp2_with fail
    go_loopw [4] (fun v wr => v = .int .i64 0 ∧ wr = w2) (fun v _ => 0)
    case atStart => exact ⟨rfl, rfl⟩
    case round =>
      obtain ⟨rfl, rfl⟩ := hrel
      go_wp2
      go_ret
      exact ⟨by simp, hb⟩
end Go.Proofs.Ytpfnjbebfihkeaa
