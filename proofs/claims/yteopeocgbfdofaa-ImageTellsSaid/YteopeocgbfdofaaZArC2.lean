/- arena.May by its contract. -/
import Derived.Test.YteopeocgbfdofaaZArC1
set_option linter.unusedVariables false
set_option linter.unusedSimpArgs false
namespace Go.Proofs.Yteopeocgbfdofaa
open Go.RowKit

theorem idx_from {l : List BlkD} {id : Int} : ∀ (s : Nat), (∃ k, k < l.length ∧ (l[k]!).id = id ∧ (∀ j, j < k → (l[j]!).id ≠ id) ∧ Lib.idxByFrom (fun _ (b : BlkD) => decide (b.id = id)) default l s = ((s + k : Nat) : Int)) ∨ ((∀ j, j < l.length → (l[j]!).id ≠ id) ∧ Lib.idxByFrom (fun _ (b : BlkD) => decide (b.id = id)) default l s = -1) := by
  induction l with
  | nil => intro s; exact .inr ⟨fun j hj => absurd hj (Nat.not_lt_zero _), rfl⟩
  | cons b l ih =>
    intro s
    rw [Lib.idxByFrom]
    by_cases h : b.id = id
    · rw [if_pos (decide_eq_true h)]
      exact .inl ⟨0, by simp, by simpa using h, fun j hj => absurd hj (Nat.not_lt_zero _), by simp⟩
    · rw [if_neg (by simpa using h)]
      rcases ih (s + 1) with ⟨k, h1, h2, h3, h4⟩ | ⟨h1, h2⟩
      · refine .inl ⟨k + 1, by simpa using h1, by simpa using h2, fun j hj => ?_, by rw [h4]; congr 1; omega⟩
        cases j with
        | zero => simpa using h
        | succ j => simpa using h3 j (by omega)
      · refine .inr ⟨fun j hj => ?_, h2⟩
        cases j with
        | zero => simpa using h
        | succ j => simpa using h1 j (by simpa using hj)
theorem idxR_cases (l : List BlkD) (id : Int) : (∃ k, k < l.length ∧ (l[k]!).id = id ∧ (∀ j, j < k → (l[j]!).id ≠ id) ∧ idxR l id = (k : Int)) ∨ ((∀ j, j < l.length → (l[j]!).id ≠ id) ∧ idxR l id = -1) := by
  have := idx_from (l := l) (id := id) 0
  unfold idxR Lib.idxBy
  simpa using this
theorem idxR_self {l : List BlkD} {k : Nat} (hk : k < l.length) : idxR l (l[k]!).id = (k : Int) ↔ ∀ j, j < k → (l[j]!).id ≠ (l[k]!).id := by
  rcases idxR_cases l (l[k]!).id with ⟨i, h1, h2, h3, h4⟩ | ⟨h1, h2⟩
  · rw [h4]
    constructor
    · intro h
      obtain rfl : i = k := by omega
      exact h3
    · intro h
      by_cases e : i < k
      · exact absurd h2 (h i e)
      · by_cases e2 : k < i
        · exact absurd rfl (h3 k e2)
        · omega
  · exact absurd rfl (h1 k hk)
theorem mayM_not {m : MemD} {k : Nat} (hk : k < m.l.length) (h : ckB m k = false) : mayM m = false := by
  unfold mayM
  rw [Bool.and_eq_false_iff]
  refine .inr (Bool.eq_false_iff.2 fun hh => ?_)
  rw [List.all_eq_true] at hh
  rw [hh k (List.mem_range.2 hk)] at h
  cases h
theorem ck_not {m : MemD} {k : Nat} (h : ¬ BlkOk m k) : ckB m k = false := by
  rw [Bool.eq_false_iff]
  exact fun hh => h (ckB_iff.1 hh)
set_option maxHeartbeats 8000000 in
set_option maxRecDepth 100000 in
theorem May_any (cap : Int) (A : Option Addr) (n c : Nat) (l : List BlkD) (r : Bool) (w : World) (h : Sl BlkR 3 w A c l) (hn : Hid (l.length = n)) (hr : Hid (mayM ⟨cap, l⟩ = r)) :
    Calls Try.prog 32 #[.agg #[.int .i64 cap, .slice A n c]] w fun e w' => e = .returned (.bool r) ∧ Bel w w' := by
  have HS0 := Lib.hid h
  have HBIG : Hid (n ≤ 9223372036854775807) := Lib.hid (by rw [← hn.out]; have := h.le; have := h.big; simp only [maxLen] at this; omega)
  clear h
  have hq0 := cell_fresh w #[.int .i64 cap, .slice A n c] 45 0 (.int .i64 cap) rfl
  have hq1 := cell_fresh w #[.int .i64 cap, .slice A n c] 45 1 (.slice A n c) rfl
  have HBa := Lib.hid ((Bel.refl w).alloc (.cells #[.int .i64 cap, .slice A n c] 45))
  have hsz : w.heap.size < (w.alloc (.cells #[.int .i64 cap, .slice A n c] 45)).heap.size := by simp
  go_enter Try.func32, Try.ntmps32
  go_wp2_with fail
  generalize w.alloc (.cells #[.int .i64 cap, .slice A n c] 45) = W1 at *
  obtain ⟨g, hg⟩ : ∃ g, w.heap.size = g := ⟨_, rfl⟩
  rw [hg] at hq0 hq1 hsz ⊢
  refine (New_any cap _).mono ?_
  rintro e w1 ⟨rfl, hb⟩
  have HB1 := HBa.out.trans hb
  have q0 := hb.cell hq0
  have q1 := hb.cell hq1
  have hg1 : g < w1.heap.size := Nat.lt_of_lt_of_le hsz hb.size
  have ng : ¬ g = w1.heap.size := by omega
  have ng' : ¬ w1.heap.size = g := by omega
  clear hq0 hq1 hsz hb hg
  by_cases hroom : roomB cap = true
  · have hE : newE cap = 0 := by unfold newE; rw [if_pos hroom]
    have hC : newC cap = cap := by unfold newC; rw [if_pos hroom]
    rw [hE, hC]
    have hc01 : 0 ≤ cap ∧ cap ≤ 1024 := of_decide_eq_true hroom
    obtain ⟨cap0, cap1⟩ := hc01
    have HROOM := Lib.hid hroom
    clear hE hC hroom
    go_wp2_with fail
    have Q0 := Lib.hid ((Bel.refl w1).alloc (.cells #[.int .i64 cap, .slice none 0 0] 45) |>.cell q0)
    have Q1 := Lib.hid ((Bel.refl w1).alloc (.cells #[.int .i64 cap, .slice none 0 0] 45) |>.cell q1)
    have HB2 := Lib.hid (HB1.alloc (.cells #[.int .i64 cap, .slice none 0 0] 45))
    have hg2 : g < (w1.alloc (.cells #[.int .i64 cap, .slice none 0 0] 45)).heap.size := by simp; omega
    generalize w1.alloc (.cells #[.int .i64 cap, .slice none 0 0] 45) = W2 at *
    clear q0 q1 ng ng' HB1
    go_loopw [5, 19] (fun lv kv wr => ∃ k : Nat, kv = .int .i64 k ∧ k ≤ n ∧ lv = .int .i64 (prevEnd l k) ∧ Hid (∀ j, j < k → BlkOk ⟨cap, l⟩ j) ∧ Bel W2 wr) (fun _ kv _ => n - (intOf kv).toNat)
    case atStart => exact ⟨0, rfl, Nat.zero_le _, rfl, Lib.hid (fun j hj => absurd hj (Nat.not_lt_zero _)), Bel.refl _⟩
    case round =>
      obtain ⟨k, rfl, hk, rfl, HT, hbk⟩ := hrel
      have q0 := hbk.cell Q0.out
      have q1 := hbk.cell Q1.out
      have HBw := HB2.out.trans hbk
      by_cases hkn : k = n
      · subst hkn
        have HR : Hid (r = true) := Lib.hid (by
          rw [← hr.out]
          exact mayM_iff.2 ⟨cap0, cap1, fun i hi => HT.out i (by rw [← hn.out]; exact hi)⟩)
        go_wp2_with fail
        go_ret
        exact ⟨by rw [HR.out]; rfl, HBw⟩
      · have hk1 : k < n := by omega
        have hk2 : (k : Int) < n := by omega
        have k0 : 0 ≤ (k : Int) := by omega
        have HKL : Hid (k < l.length) := Lib.hid (by rw [hn.out]; exact hk1)
        have HEK : Hid (IntKind.i64.wrap ((k : Int) + 1) = (k : Int) + 1) := Lib.hid (wrap_i64 (by omega) (by have := HBIG.out; omega))
        have NOT : Hid (¬ BlkOk ⟨cap, l⟩ k → r = false) := Lib.hid (fun h => by rw [← hr.out]; exact mayM_not (m := ⟨cap, l⟩) HKL.out (ck_not h))
        have hok : BlkOk ⟨cap, l⟩ k ↔ (1 ≤ (l[k]!).id ∧ (∀ j, j < k → (l[j]!).id ≠ (l[k]!).id) ∧ 0 < (l[k]!).w.length ∧ prevEnd l k ≤ (l[k]!).at' ∧ (l[k]!).at' + ((l[k]!).w.length : Int) ≤ cap ∧ ((l[k]!).w.length : Int) ≤ cap) := ⟨fun h => ⟨h.id1, h.ids, h.len, h.lo, h.hi, h.cap⟩, fun ⟨h1, h2, h3, h4, h5, h6⟩ => ⟨h1, h2, h3, h4, h5, h6⟩⟩
        have hself := idxR_self HKL.out
        have hsucc := prevEnd_succ l k
        have HSr := HS0.out.mono BlkR.mono HBw
        obtain ⟨b0, o0, rfl⟩ := HSr.addr (by rw [hn.out]; omega)
        obtain ⟨A', c', d0, d1, d2, hs', -, -⟩ := blk_cells HSr k HKL.out
        obtain ⟨ix, hix⟩ : ∃ ix, Hid (idxR l (l[k]!).id = ix) := ⟨_, Lib.hid rfl⟩
        rw [hix.out] at hself
        have hix2 := hix.out
        obtain ⟨pe, hpe⟩ : ∃ pe, Hid (prevEnd l k = pe) := ⟨_, Lib.hid rfl⟩
        rw [hpe.out] at hok ⊢
        obtain ⟨pn, hpn⟩ : ∃ pn, Hid (prevEnd l (k + 1) = pn) := ⟨_, Lib.hid rfl⟩
        rw [hpn.out] at hsucc
        generalize l[k]! = B at *
        obtain ⟨id, a, ws⟩ := B
        simp only at d0 d1 d2 hok hsucc hself hix2
        generalize ws.length = m at *
        rw [← hself] at hok
        have HOK := Lib.hid hok
        have HPN := Lib.hid hsucc
        have hg3 : g < wr.heap.size := Nat.lt_of_lt_of_le hg2 hbk.size
        have ng : ¬ g = wr.heap.size := by omega
        have ng' : ¬ wr.heap.size = g := by omega
        have f0 := cell_fresh wr #[.int .i64 id, .int .i64 a, .slice A' m c'] 69 0 (.int .i64 id) rfl
        have f1 := cell_fresh wr #[.int .i64 id, .int .i64 a, .slice A' m c'] 69 1 (.int .i64 a) rfl
        have f2 := cell_fresh wr #[.int .i64 id, .int .i64 a, .slice A' m c'] 69 2 (.slice A' m c') rfl
        have hBox : Bel wr (wr.alloc (.cells #[.int .i64 id, .int .i64 a, .slice A' m c'] 69)) := (Bel.refl wr).alloc _
        have HBOX := Lib.hid hBox
        have HBK := Lib.hid hbk
        clear hkn hself hsucc hok hix2 hs' hBox hbk
        have F0 := Lib.hid f0
        have F1 := Lib.hid f1
        have F2 := Lib.hid f2
        have QQ0 := Lib.hid (HBOX.out.cell q0)
        have QQ1 := Lib.hid (HBOX.out.cell q1)
        clear f0 f1 f2
        by_cases h1 : id < 1
        · have HR : Hid (r = false) := Lib.hid (NOT.out (fun h => by have := (HOK.out.1 h).1; omega))
          go_wp2_with fail
          go_ret
          exact ⟨by rw [HR.out]; rfl, HBw.trans HBOX.out⟩
        · have h1' : ¬ id < 1 := h1
          go_wp2_with fail
          refine (at_any cap _ n c l id ix _ (HSr.mono BlkR.mono HBOX.out) hn hix).mono ?_
          rintro e w5 ⟨rfl, hb5⟩
          have f0 := hb5.cell F0.out
          have f1 := hb5.cell F1.out
          have f2 := hb5.cell F2.out
          have q0 := hb5.cell QQ0.out
          have q1 := hb5.cell QQ1.out
          have HBX := HBOX.out.trans hb5
          have HBW5 := HBw.trans HBX
          have HBK5 := Lib.hid (HBK.out.trans HBX)
          clear hb5 HBX d0 d1 d2 HBw HSr
          generalize wr.heap.size = gb at *
          by_cases hix3 : ix = k
          · have t0 : (ix != (k : Int)) = false := by simpa using hix3
            by_cases hm : m = 0
            · subst hm
              have HR : Hid (r = false) := Lib.hid (NOT.out (fun h => by have := (HOK.out.1 h).2.2.1; omega))
              clear hix3
              go_wp2_with fail
              go_ret
              exact ⟨by rw [HR.out]; rfl, HBW5⟩
            · have t1 : ((m : Int) == 0) = false := by simpa using hm
              by_cases hlo : a < pe
              · have HR : Hid (r = false) := Lib.hid (NOT.out (fun h => by have := (HOK.out.1 h).2.2.2.1; omega))
                clear hix3 hm
                go_wp2_with fail
                go_ret
                exact ⟨by rw [HR.out]; rfl, HBW5⟩
              · have hlo' : ¬ a < pe := hlo
                by_cases hcp : cap < (m : Int)
                · have HR : Hid (r = false) := Lib.hid (NOT.out (fun h => by have := (HOK.out.1 h).2.2.2.2.2; omega))
                  clear hix3 hm
                  go_wp2_with fail
                  go_ret
                  exact ⟨by rw [HR.out]; rfl, HBW5⟩
                · have hcp' : ¬ cap < (m : Int) := hcp
                  have e1 : IntKind.i64.wrap (cap - m) = cap - m := wrap_i64 (by omega) (by omega)
                  by_cases hhi : cap - m < a
                  · have HR : Hid (r = false) := Lib.hid (NOT.out (fun h => by have := (HOK.out.1 h).2.2.2.2.1; omega))
                    clear hix3 hm
                    go_wp2_with fail
                    go_ret
                    exact ⟨by rw [HR.out]; rfl, HBW5⟩
                  · have hhi' : ¬ cap - m < a := hhi
                    have HNEW : Hid (BlkOk ⟨cap, l⟩ k) := Lib.hid (HOK.out.2 ⟨by omega, hix3, by omega, by omega, by omega, by omega⟩)
                    have HPE : Hid (0 ≤ pe) := Lib.hid (by
                      rw [← hpe.out]
                      cases k with
                      | zero => show (0 : Int) ≤ prevEnd l 0; unfold prevEnd; rw [if_pos rfl]; omega
                      | succ j =>
                        have hj := HT.out j (by omega)
                        have h2 : ∀ i, i ≤ j → 0 ≤ prevEnd l (i + 1) := fun i => by
                          induction i with
                          | zero => intro _; have h3 := (HT.out 0 (by omega)).lo; rw [prevEnd_succ]; unfold prevEnd at h3; rw [if_pos rfl] at h3; simp only at h3; omega
                          | succ i ih => intro hi; have h3 := (HT.out (i + 1) (by omega)).lo; have h4 := ih (by omega); rw [prevEnd_succ]; simp only at h3; omega
                        exact h2 j (Nat.le_refl _))
                    have HW : Hid (IntKind.i64.wrap (a + m) = pn) := Lib.hid (by rw [wrap_i64 (by have := HPE.out; omega) (by omega)]; exact HPN.out.symm)
                    clear hix3 hm
                    go_wp2_with fail
                    refine (end_any id a A' m c' _ pn HW).mono ?_
                    rintro e w6 ⟨rfl, hb6⟩
                    have HB6 := HBK5.out.trans hb6
                    have ek := HEK.out
                    clear hb6
                    go_wp2
                    go_roundw
                    case rel => exact ⟨k + 1, by simp, by omega, by rw [hpn.out], Lib.hid (fun j hj => by
                      by_cases e : j = k
                      · subst e; exact HNEW.out
                      · exact HT.out j (by omega)), HB6⟩
                    case measure => simp [intOf]; omega
          · have t0 : (ix != (k : Int)) = true := by simpa using hix3
            have HR : Hid (r = false) := Lib.hid (NOT.out (fun h => hix3 (HOK.out.1 h).2.1))
            clear hix3
            go_wp2_with fail
            go_ret
            exact ⟨by rw [HR.out]; rfl, HBW5⟩
  · have hE : newE cap = 1 := by unfold newE; rw [if_neg hroom]
    have HR : Hid (r = false) := Lib.hid (by
      rw [← hr.out]; unfold mayM
      rw [show roomB cap = false by simpa using hroom]
      rfl)
    rw [hE]
    generalize newC cap = cc
    clear hE hroom
    go_wp2_with fail
    go_ret
    exact ⟨by rw [HR.out]; first | rfl | simp, HB1.alloc _⟩
end Go.Proofs.Yteopeocgbfdofaa
