/- arena.May by its contract. arena.gaps, the iterator, by its contract. arena.Left by its contract. arena.Find by its contract. -/
import Derived.Test.YtebdnobgdimdoaaGreatGR
import Derived.RangeFuncNested
import Derived.RangeFuncBound
import Derived.RangeFuncCalls
import Derived.RangeFuncLeaves
import Derived.RangeFuncBox
import Derived.Shelf.Abstract
import Derived.WalkKit
import Derived.OwnWalkIn
import Derived.TacticsInMore
import Derived.LoopNIn
import Derived.LoopIn
set_option linter.unusedVariables false
set_option linter.unusedSimpArgs false
namespace Go.Proofs.YtebdnobgdimdoaaGreat
open Go.RowKit
theorem idx_from {l : List BlkD} {id : Int} : ∀ (s : Nat), (∃ k, k < l.length ∧ (l[k]!).id = id ∧ (∀ j, j < k → (l[j]!).id ≠ id) ∧ Lib.idxByFrom (fun _ (b : BlkD) => decide (b.id = id)) default l s = ((s + k : Nat) : Int)) ∨ ((∀ j, j < l.length → (l[j]!).id ≠ id) ∧ Lib.idxByFrom (fun _ (b : BlkD) => decide (b.id = id)) default l s = -1) := by
  induction l with
  | nil => intro s; exact .inr ⟨fun j hj => absurd hj (Nat.not_lt_zero _), rfl⟩
  | cons b l ih =>
    intro s
    rw [Lib.idxByFrom]
    by_cases h : b.id = id
    · rw [if_pos (decide_eq_true h)]
      exact .inl ⟨0, by simp, by simpa using h, fun j hj => absurd hj (Nat.not_lt_zero _), by simp⟩
    · rw [if_neg (by simpa using h)]
      rcases ih (s + 1) with ⟨k, h1, h2, h3, h4⟩ | ⟨h1, h2⟩
      · refine .inl ⟨k + 1, by simpa using h1, by simpa using h2, fun j hj => ?_, by rw [h4]; congr 1; omega⟩
        cases j with
        | zero => simpa using h
        | succ j => simpa using h3 j (by omega)
      · refine .inr ⟨fun j hj => ?_, h2⟩
        cases j with
        | zero => simpa using h
        | succ j => simpa using h1 j (by simpa using hj)
theorem idxR_cases (l : List BlkD) (id : Int) : (∃ k, k < l.length ∧ (l[k]!).id = id ∧ (∀ j, j < k → (l[j]!).id ≠ id) ∧ idxR l id = (k : Int)) ∨ ((∀ j, j < l.length → (l[j]!).id ≠ id) ∧ idxR l id = -1) := by
  have := idx_from (l := l) (id := id) 0
  unfold idxR Lib.idxBy
  simpa using this
theorem idxR_self {l : List BlkD} {k : Nat} (hk : k < l.length) : idxR l (l[k]!).id = (k : Int) ↔ ∀ j, j < k → (l[j]!).id ≠ (l[k]!).id := by
  rcases idxR_cases l (l[k]!).id with ⟨i, h1, h2, h3, h4⟩ | ⟨h1, h2⟩
  · rw [h4]
    constructor
    · intro h
      obtain rfl : i = k := by omega
      exact h3
    · intro h
      by_cases e : i < k
      · exact absurd h2 (h i e)
      · by_cases e2 : k < i
        · exact absurd rfl (h3 k e2)
        · omega
  · exact absurd rfl (h1 k hk)
theorem mayM_not {m : MemD} {k : Nat} (hk : k < m.l.length) (h : ckB m k = false) : mayM m = false := by
  unfold mayM
  rw [Bool.and_eq_false_iff]
  refine .inr (Bool.eq_false_iff.2 fun hh => ?_)
  rw [List.all_eq_true] at hh
  rw [hh k (List.mem_range.2 hk)] at h
  cases h
theorem ck_not {m : MemD} {k : Nat} (h : ¬ BlkOk m k) : ckB m k = false := by
  rw [Bool.eq_false_iff]
  exact fun hh => h (ckB_iff.1 hh)
set_option maxHeartbeats 8000000 in
set_option maxRecDepth 100000 in
theorem May_any (cap : Int) (A : Option Addr) (n c : Nat) (l : List BlkD) (r : Bool) (w : World) (h : Sl BlkR 3 w A c l) (hn : Hid (l.length = n)) (hr : Hid (mayM ⟨cap, l⟩ = r)) :
    Calls Tryz.prog 28 #[.agg #[.int .i64 cap, .slice A n c]] w fun e w' => e = .returned (.bool r) ∧ Bel w w' := by
  have HS0 := Lib.hid h
  have HBIG : Hid (n ≤ 9223372036854775807) := Lib.hid (by rw [← hn.out]; have := h.le; have := h.big; simp only [maxLen] at this; omega)
  clear h
  have hq0 := cell_fresh w #[.int .i64 cap, .slice A n c] 79 0 (.int .i64 cap) rfl
  have hq1 := cell_fresh w #[.int .i64 cap, .slice A n c] 79 1 (.slice A n c) rfl
  have HBa := Lib.hid ((Bel.refl w).alloc (.cells #[.int .i64 cap, .slice A n c] 79))
  have hsz : w.heap.size < (w.alloc (.cells #[.int .i64 cap, .slice A n c] 79)).heap.size := by simp
  go_enter Tryz.func28, Tryz.ntmps28
  go_wp2_with fail
  generalize w.alloc (.cells #[.int .i64 cap, .slice A n c] 79) = W1 at *
  obtain ⟨g, hg⟩ : ∃ g, w.heap.size = g := ⟨_, rfl⟩
  rw [hg] at hq0 hq1 hsz ⊢
  refine (New_any cap _).mono ?_
  rintro e w1 ⟨rfl, hb⟩
  have HB1 := HBa.out.trans hb
  have q0 := hb.cell hq0
  have q1 := hb.cell hq1
  have hg1 : g < w1.heap.size := Nat.lt_of_lt_of_le hsz hb.size
  have ng : ¬ g = w1.heap.size := by omega
  have ng' : ¬ w1.heap.size = g := by omega
  clear hq0 hq1 hsz hb hg
  by_cases hroom : roomB cap = true
  · have hE : newE cap = 0 := by unfold newE; rw [if_pos hroom]
    have hC : newC cap = cap := by unfold newC; rw [if_pos hroom]
    rw [hE, hC]
    have hc01 : 0 ≤ cap ∧ cap ≤ 1024 := of_decide_eq_true hroom
    obtain ⟨cap0, cap1⟩ := hc01
    have HROOM := Lib.hid hroom
    clear hE hC hroom
    go_wp2_with fail
    have Q0 := Lib.hid ((Bel.refl w1).alloc (.cells #[.int .i64 cap, .slice none 0 0] 79) |>.cell q0)
    have Q1 := Lib.hid ((Bel.refl w1).alloc (.cells #[.int .i64 cap, .slice none 0 0] 79) |>.cell q1)
    have HB2 := Lib.hid (HB1.alloc (.cells #[.int .i64 cap, .slice none 0 0] 79))
    have hg2 : g < (w1.alloc (.cells #[.int .i64 cap, .slice none 0 0] 79)).heap.size := by simp; omega
    generalize w1.alloc (.cells #[.int .i64 cap, .slice none 0 0] 79) = W2 at *
    clear q0 q1 ng ng' HB1
    go_loopw [5, 19] (fun lv kv wr => ∃ k : Nat, kv = .int .i64 k ∧ k ≤ n ∧ lv = .int .i64 (prevEnd l k) ∧ Hid (∀ j, j < k → BlkOk ⟨cap, l⟩ j) ∧ Bel W2 wr) (fun _ kv _ => n - (intOf kv).toNat)
    case atStart => exact ⟨0, rfl, Nat.zero_le _, rfl, Lib.hid (fun j hj => absurd hj (Nat.not_lt_zero _)), Bel.refl _⟩
    case round =>
      obtain ⟨k, rfl, hk, rfl, HT, hbk⟩ := hrel
      have q0 := hbk.cell Q0.out
      have q1 := hbk.cell Q1.out
      have HBw := HB2.out.trans hbk
      by_cases hkn : k = n
      · subst hkn
        have HR : Hid (r = true) := Lib.hid (by
          rw [← hr.out]
          exact mayM_iff.2 ⟨cap0, cap1, fun i hi => HT.out i (by rw [← hn.out]; exact hi)⟩)
        go_wp2_with fail
        go_ret
        exact ⟨by rw [HR.out]; rfl, HBw⟩
      · have hk1 : k < n := by omega
        have hk2 : (k : Int) < n := by omega
        have k0 : 0 ≤ (k : Int) := by omega
        have HKL : Hid (k < l.length) := Lib.hid (by rw [hn.out]; exact hk1)
        have HEK : Hid (IntKind.i64.wrap ((k : Int) + 1) = (k : Int) + 1) := Lib.hid (wrap_i64 (by omega) (by have := HBIG.out; omega))
        have NOT : Hid (¬ BlkOk ⟨cap, l⟩ k → r = false) := Lib.hid (fun h => by rw [← hr.out]; exact mayM_not (m := ⟨cap, l⟩) HKL.out (ck_not h))
        have hok : BlkOk ⟨cap, l⟩ k ↔ (1 ≤ (l[k]!).id ∧ (∀ j, j < k → (l[j]!).id ≠ (l[k]!).id) ∧ 0 < (l[k]!).w.length ∧ prevEnd l k ≤ (l[k]!).at' ∧ (l[k]!).at' + ((l[k]!).w.length : Int) ≤ cap ∧ ((l[k]!).w.length : Int) ≤ cap) := ⟨fun h => ⟨h.id1, h.ids, h.len, h.lo, h.hi, h.cap⟩, fun ⟨h1, h2, h3, h4, h5, h6⟩ => ⟨h1, h2, h3, h4, h5, h6⟩⟩
        have hself := idxR_self HKL.out
        have hsucc := prevEnd_succ l k
        have HSr := HS0.out.mono BlkR.mono HBw
        obtain ⟨b0, o0, rfl⟩ := HSr.addr (by rw [hn.out]; omega)
        obtain ⟨A', c', d0, d1, d2, hs', -, -⟩ := blk_cells HSr k HKL.out
        obtain ⟨ix, hix⟩ : ∃ ix, Hid (idxR l (l[k]!).id = ix) := ⟨_, Lib.hid rfl⟩
        rw [hix.out] at hself
        have hix2 := hix.out
        obtain ⟨pe, hpe⟩ : ∃ pe, Hid (prevEnd l k = pe) := ⟨_, Lib.hid rfl⟩
        rw [hpe.out] at hok ⊢
        obtain ⟨pn, hpn⟩ : ∃ pn, Hid (prevEnd l (k + 1) = pn) := ⟨_, Lib.hid rfl⟩
        rw [hpn.out] at hsucc
        generalize l[k]! = B at *
        obtain ⟨id, a, ws⟩ := B
        simp only at d0 d1 d2 hok hsucc hself hix2
        generalize ws.length = m at *
        rw [← hself] at hok
        have HOK := Lib.hid hok
        have HPN := Lib.hid hsucc
        have hg3 : g < wr.heap.size := Nat.lt_of_lt_of_le hg2 hbk.size
        have ng : ¬ g = wr.heap.size := by omega
        have ng' : ¬ wr.heap.size = g := by omega
        have f0 := cell_fresh wr #[.int .i64 id, .int .i64 a, .slice A' m c'] 144 0 (.int .i64 id) rfl
        have f1 := cell_fresh wr #[.int .i64 id, .int .i64 a, .slice A' m c'] 144 1 (.int .i64 a) rfl
        have f2 := cell_fresh wr #[.int .i64 id, .int .i64 a, .slice A' m c'] 144 2 (.slice A' m c') rfl
        have hBox : Bel wr (wr.alloc (.cells #[.int .i64 id, .int .i64 a, .slice A' m c'] 144)) := (Bel.refl wr).alloc _
        have HBOX := Lib.hid hBox
        have HBK := Lib.hid hbk
        clear hkn hself hsucc hok hix2 hs' hBox hbk
        have F0 := Lib.hid f0
        have F1 := Lib.hid f1
        have F2 := Lib.hid f2
        have QQ0 := Lib.hid (HBOX.out.cell q0)
        have QQ1 := Lib.hid (HBOX.out.cell q1)
        clear f0 f1 f2
        by_cases h1 : id < 1
        · have HR : Hid (r = false) := Lib.hid (NOT.out (fun h => by have := (HOK.out.1 h).1; omega))
          go_wp2_with fail
          go_ret
          exact ⟨by rw [HR.out]; rfl, HBw.trans HBOX.out⟩
        · have h1' : ¬ id < 1 := h1
          go_wp2_with fail
          refine (at_any cap _ n c l id ix _ (HSr.mono BlkR.mono HBOX.out) hn hix).mono ?_
          rintro e w5 ⟨rfl, hb5⟩
          have f0 := hb5.cell F0.out
          have f1 := hb5.cell F1.out
          have f2 := hb5.cell F2.out
          have q0 := hb5.cell QQ0.out
          have q1 := hb5.cell QQ1.out
          have HBX := HBOX.out.trans hb5
          have HBW5 := HBw.trans HBX
          have HBK5 := Lib.hid (HBK.out.trans HBX)
          clear hb5 HBX d0 d1 d2 HBw HSr
          generalize wr.heap.size = gb at *
          by_cases hix3 : ix = k
          · have t0 : (ix != (k : Int)) = false := by simpa using hix3
            by_cases hm : m = 0
            · subst hm
              have HR : Hid (r = false) := Lib.hid (NOT.out (fun h => by have := (HOK.out.1 h).2.2.1; omega))
              clear hix3
              go_wp2_with fail
              go_ret
              exact ⟨by rw [HR.out]; rfl, HBW5⟩
            · have t1 : ((m : Int) == 0) = false := by simpa using hm
              by_cases hlo : a < pe
              · have HR : Hid (r = false) := Lib.hid (NOT.out (fun h => by have := (HOK.out.1 h).2.2.2.1; omega))
                clear hix3 hm
                go_wp2_with fail
                go_ret
                exact ⟨by rw [HR.out]; rfl, HBW5⟩
              · have hlo' : ¬ a < pe := hlo
                by_cases hcp : cap < (m : Int)
                · have HR : Hid (r = false) := Lib.hid (NOT.out (fun h => by have := (HOK.out.1 h).2.2.2.2.2; omega))
                  clear hix3 hm
                  go_wp2_with fail
                  go_ret
                  exact ⟨by rw [HR.out]; rfl, HBW5⟩
                · have hcp' : ¬ cap < (m : Int) := hcp
                  have e1 : IntKind.i64.wrap (cap - m) = cap - m := wrap_i64 (by omega) (by omega)
                  by_cases hhi : cap - m < a
                  · have HR : Hid (r = false) := Lib.hid (NOT.out (fun h => by have := (HOK.out.1 h).2.2.2.2.1; omega))
                    clear hix3 hm
                    go_wp2_with fail
                    go_ret
                    exact ⟨by rw [HR.out]; rfl, HBW5⟩
                  · have hhi' : ¬ cap - m < a := hhi
                    have HNEW : Hid (BlkOk ⟨cap, l⟩ k) := Lib.hid (HOK.out.2 ⟨by omega, hix3, by omega, by omega, by omega, by omega⟩)
                    have HPE : Hid (0 ≤ pe) := Lib.hid (by
                      rw [← hpe.out]
                      cases k with
                      | zero => show (0 : Int) ≤ prevEnd l 0; unfold prevEnd; rw [if_pos rfl]; omega
                      | succ j =>
                        have hj := HT.out j (by omega)
                        have h2 : ∀ i, i ≤ j → 0 ≤ prevEnd l (i + 1) := fun i => by
                          induction i with
                          | zero => intro _; have h3 := (HT.out 0 (by omega)).lo; rw [prevEnd_succ]; unfold prevEnd at h3; rw [if_pos rfl] at h3; simp only at h3; omega
                          | succ i ih => intro hi; have h3 := (HT.out (i + 1) (by omega)).lo; have h4 := ih (by omega); rw [prevEnd_succ]; simp only at h3; omega
                        exact h2 j (Nat.le_refl _))
                    have HW : Hid (IntKind.i64.wrap (a + m) = pn) := Lib.hid (by rw [wrap_i64 (by have := HPE.out; omega) (by omega)]; exact HPN.out.symm)
                    clear hix3 hm
                    go_wp2_with fail
                    refine (end_any id a A' m c' _ pn HW).mono ?_
                    rintro e w6 ⟨rfl, hb6⟩
                    have HB6 := HBK5.out.trans hb6
                    have ek := HEK.out
                    clear hb6
                    go_wp2
                    go_roundw
                    case rel => exact ⟨k + 1, by simp, by omega, by rw [hpn.out], Lib.hid (fun j hj => by
                      by_cases e : j = k
                      · subst e; exact HNEW.out
                      · exact HT.out j (by omega)), HB6⟩
                    case measure => simp [intOf]; omega
          · have t0 : (ix != (k : Int)) = true := by simpa using hix3
            have HR : Hid (r = false) := Lib.hid (NOT.out (fun h => hix3 (HOK.out.1 h).2.1))
            clear hix3
            go_wp2_with fail
            go_ret
            exact ⟨by rw [HR.out]; rfl, HBW5⟩
  · have hE : newE cap = 1 := by unfold newE; rw [if_neg hroom]
    have HR : Hid (r = false) := Lib.hid (by
      rw [← hr.out]; unfold mayM
      rw [show roomB cap = false by simpa using hroom]
      rfl)
    rw [hE]
    generalize newC cap = cc
    clear hE hroom
    go_wp2_with fail
    go_ret
    exact ⟨by rw [HR.out]; first | rfl | simp, HB1.alloc _⟩
end Go.Proofs.YtebdnobgdimdoaaGreat
set_option linter.unusedVariables false
set_option linter.unusedSimpArgs false
namespace Go.Proofs.YtebdnobgdimdoaaGreat
open Go.RowKit Go.Shelf
attribute [local go_sem] Oper.semAt_some
/-- A gap's ends. -/
abbrev GapV := { x : Int × Int // 0 ≤ x.1 ∧ x.1 ≤ 1024 ∧ 0 ≤ x.2 ∧ x.2 ≤ 1024 }
def gapEnc (x : GapV) : Array Value := #[.int .i64 x.1.1, .int .i64 x.1.2]
def vals (xs : List GapV) : List (Int × Int) := xs.map Subtype.val
theorem vals_snoc (xs : List GapV) (x : GapV) : vals (xs ++ [x]) = vals xs ++ [x.1] := by simp [vals]
/-- What a round keeps: what lay below n₀, and whatever cells there are from Bs on. -/
structure KpG (n₀ Bs : Nat) (W W' : World) : Prop where
  below : Below n₀ W W'
  cells : ∀ k o, W.heap[k]? = some o → o.isCells = true → Bs ≤ k → W'.heap[k]? = some o
theorem KpG.refl (n₀ Bs : Nat) (W : World) : KpG n₀ Bs W W := ⟨Below.refl _ _, fun _ _ h _ _ => h⟩
theorem KpG.trans {n₀ Bs : Nat} {A B C : World} (h : KpG n₀ Bs A B) (k : KpG n₀ Bs B C) : KpG n₀ Bs A C := ⟨h.below.trans k.below, fun i o h1 h2 h3 => k.cells i o (h.cells i o h1 h2 h3) h2 h3⟩
theorem KpG.turn {n₀ Bs : Nat} {w : World} (hn : n₀ ≤ w.heap.size) (W : World) (l : Nat) (o o' : Obj) (hl : w.heap.size ≤ l) (h : W.heap[l]? = some o) (h1 : o.isCells = false) (h2 : o.isWalk = false) : KpG n₀ Bs W (W.putObj l o') :=
  ⟨belowK_b hn W l o o' hl h h1 h2, fun k u hk hu _ => by
    by_cases e : k = l
    · subst e; rw [h] at hk; cases hk; rw [h1] at hu; cases hu
    · rw [World.putObj_heap_other e]; exact hk⟩
theorem KpG.alloc {n₀ Bs : Nat} {A B : World} (h : KpG n₀ Bs A B) (hn : n₀ ≤ B.heap.size) (o : Obj) : KpG n₀ Bs A (B.alloc o) :=
  ⟨h.below.alloc hn o, fun k u hk hu hb => (Below.heap_alloc _ _ _ (Array.getElem?_eq_some_iff.1 (h.cells k u hk hu hb)).1).trans (h.cells k u hk hu hb)⟩
theorem KpG.cell {n₀ Bs : Nat} {W W' : World} (h : KpG n₀ Bs W W') {p : Addr} {v : Value} (hp : Bs ≤ p.block) (hc : W.cell? p = some v) : W'.cell? p = some v := by
  obtain ⟨o, h1, h2⟩ := cells_of_cell hc
  exact (World.cell?_of_block ((h.cells _ o h1 h2 hp).trans h1.symm)).trans hc
theorem end_at (id a : Int) (A : Option Addr) (n c : Nat) (w : World) (r : Int) (hr : Hid (IntKind.i64.wrap (a + n) = r)) :
    Calls Tryz.prog 66 #[.agg #[.int .i64 id, .int .i64 a, .slice A n c]] w fun e w' => e = .returned (.int .i64 r) ∧ w' = w.alloc (.cells #[.int .i64 id, .int .i64 a, .slice A n c] 144) := by
  have hr' := hr.out
  go_enter Tryz.func66, Tryz.ntmps66
  go_wp2_with fail
  go_ret
  exact ⟨rfl, rfl⟩
theorem Ok.gap {m : MemD} (h : Ok m) {i : Nat} (hi : i ≤ m.l.length) : 0 ≤ prevEnd m.l i ∧ prevEnd m.l i ≤ 1024 ∧ 0 ≤ nextAt m i ∧ nextAt m i ≤ 1024 := by
  have h1 := h.prev i hi
  have h2 := h.next hi
  have h3 := h.cap1
  omega
theorem gaps_len {m : MemD} {i : Nat} {pre : List GapV} (hp : vals pre = gapsUpto m i) (hi : i ≤ m.l.length) (hl : prevEnd m.l i < nextAt m i) : pre.length < (gapsL m).length := by
  have h1 : pre.length = (gapsUpto m i).length := by rw [← hp]; simp [vals]
  have h2 := (gapsUpto_pre m (i + 1) (m.l.length + 1) (by omega)).length_le
  have h3 : (gapsUpto m (i + 1)).length = (gapsUpto m i).length + 1 := by
    rw [gapsUpto]; unfold gapAt; rw [if_pos hl]; simp
  unfold gapsL
  omega
set_option maxRecDepth 100000 in
set_option maxHeartbeats 8000000 in
theorem gaps1_in (n : Nat) (hn : 1 ≤ n) (z Bs : Nat) (cap : Int) (A : Option Addr) (c nn : Nat) (l : List BlkD) (w0 : World) (hS : Sl BlkR 3 w0 A c l) (hnn : Hid (l.length = nn)) (hok : Hid (Ok ⟨cap, l⟩)) (hbs : w0.heap.size ≤ Bs) (J Jx : List GapV → World → Prop)
    (W : World) (hW0 : Bel w0 W) (hJ : AbidesFrom W.heap.size J)
    (hY : ∀ pre x W, J pre W → pre.length < (gapsL ⟨cap, l⟩).length → YieldAt Fence.wide (n - 1) Tryz.prog z (gapEnc x) W fun e W' =>
      (e = .returned (.bool true) ∧ J (pre ++ [x]) W' ∧ KpG w0.heap.size Bs W W') ∨ (e = .returned (.bool false) ∧ Jx (pre ++ [x]) W'))
    (hB0 : W.cell? ⟨Bs, 0, none⟩ = some (.int .i64 cap)) (hB1 : W.cell? ⟨Bs, 1, none⟩ = some (.slice A nn c)) (h0 : J [] W) :
    CallsIn Fence.wide n Tryz.prog 109 #[.func (.yield z) #[] #[], .pointer (some ⟨Bs, 0, none⟩)] W fun e W' => (∃ v, e = .returned v) ∧
      ((∃ ys, vals ys = gapsL ⟨cap, l⟩ ∧ J ys W') ∨ (∃ pre, vals pre <+: gapsL ⟨cap, l⟩ ∧ Jx pre W')) := by
  have hbsW : Bs < W.heap.size := World.block_lt_of_cell? _ _ hB0
  have HS := Lib.hid hS
  have HJ := Lib.hid hJ
  have HY := Lib.hid hY
  have hnlen : l.length ≤ 9223372036854775807 := by have := hS.le; have := hS.big; simp only [maxLen] at this; omega
  rw [hnn.out] at hnlen
  have HNL := Lib.hid hnlen
  have HW0 := Lib.hid hW0
  clear hS hJ hY hnlen
  refine callsIn_of_wp Tryz.func109 rfl trivial ?_ rfl
  simp only [Tryz.ntmps109, List.size_toArray, List.length_cons, List.length_nil, Nat.reduceAdd, Nat.reduceSub, Array.replicate_succ, Array.replicate_zero, List.push_toArray, List.append_toArray, List.nil_append, List.cons_append]
  gi_wp2
  gi_loopw [3, 9] (fun fv iv wr => ∃ (i : Nat) (pre : List GapV), iv = .int .i64 i ∧ i ≤ nn ∧ fv = .int .i64 (prevEnd l i) ∧ vals pre = gapsUpto ⟨cap, l⟩ i ∧ J pre wr ∧ KpG w0.heap.size Bs W wr ∧ W.heap.size ≤ wr.heap.size)
    (fun _ iv _ => nn - (intOf iv).toNat)
  case atStart => exact ⟨0, [], rfl, Nat.zero_le _, rfl, rfl, h0, KpG.refl _ _ _, Nat.le_refl _⟩
  case round =>
    obtain ⟨i, pre, rfl, hi, rfl, hpre, hJs, hkp, hsz⟩ := hrel
    have hB0' := hkp.cell (p := ⟨Bs, 0, none⟩) (Nat.le_refl _) hB0
    have hB1' := hkp.cell (p := ⟨Bs, 1, none⟩) (Nat.le_refl _) hB1
    have HBw : Bel w0 wr := ⟨HW0.out.out.trans hkp.below⟩
    have hgap := hok.out.gap (i := i) (by simp only; rw [hnn.out]; exact hi)
    simp only at hgap
    obtain ⟨pe, hpe⟩ : ∃ pe, Hid (prevEnd l i = pe) := ⟨_, Lib.hid rfl⟩
    have hlenG := fun (h : prevEnd l i < nextAt ⟨cap, l⟩ i) => gaps_len (m := ⟨cap, l⟩) hpre (by simp only; rw [hnn.out]; exact hi) h
    have hsnoc : Hid (gapsUpto ⟨cap, l⟩ (i + 1) = vals pre ++ gapAt ⟨cap, l⟩ i) := Lib.hid (by rw [gapsUpto, hpre])
    have hupto : Hid (gapsUpto ⟨cap, l⟩ (i + 1) <+: gapsL ⟨cap, l⟩) := Lib.hid (gapsUpto_pre _ _ _ (by simp only; rw [hnn.out]; omega))
    unfold gapAt at hsnoc
    simp only at hsnoc
    obtain ⟨nx, hnx⟩ : ∃ nx, Hid (nextAt ⟨cap, l⟩ i = nx) := ⟨_, Lib.hid rfl⟩
    rw [hpe.out, hnx.out] at hgap hlenG hsnoc
    rw [hpe.out]
    by_cases hin : i = nn
    · subst hin
      have hncap : nx = cap := by
        rw [← hnx.out]; unfold nextAt; rw [if_neg (by simp only; rw [hnn.out]; omega)]
      have hfull : Hid (gapsL ⟨cap, l⟩ = gapsUpto ⟨cap, l⟩ (i + 1)) := Lib.hid (by unfold gapsL; simp only; rw [hnn.out])
      subst hncap
      by_cases hlt : pe < nx
      · obtain ⟨fn, tmps, assign, body, hy, hR⟩ := HY.out pre ⟨(pe, nx), hgap⟩ wr hJs (hlenG hlt)
        simp only [gapEnc] at hy
        have HV : Hid (vals (pre ++ [⟨(pe, nx), hgap⟩]) = gapsL ⟨nx, l⟩) := Lib.hid (by rw [vals_snoc, hfull.out, hsnoc.out, if_pos hlt])
        clear hlenG hB1 hB1' hpre
        gi_wp2
        refine hR.mono ?_
        rintro e W3 (⟨rfl, hJ3, hk3⟩ | ⟨rfl, hJx3⟩)
        · gi_wp2
          go_end0
          exact ⟨⟨_, rfl⟩, .inl ⟨_, HV.out, hJ3⟩⟩
        · gi_wp2
          go_end0
          exact ⟨⟨_, rfl⟩, .inr ⟨_, by rw [HV.out]; exact List.prefix_refl _, hJx3⟩⟩
      · have HV : Hid (vals pre = gapsL ⟨nx, l⟩) := Lib.hid (by rw [hfull.out, hsnoc.out, if_neg hlt, List.append_nil])
        have hlt' : ¬ pe < nx := hlt
        clear hlenG hB1 hB1' hpre
        gi_wp2
        go_end0
        exact ⟨⟨_, rfl⟩, .inl ⟨_, HV.out, hJs⟩⟩
    · have hi1 : i < nn := by omega
      have hi2 : (i : Int) < nn := by omega
      have i0 : 0 ≤ (i : Int) := by omega
      have HIL : Hid (i < l.length) := Lib.hid (by rw [hnn.out]; exact hi1)
      have HEI : Hid (IntKind.i64.wrap ((i : Int) + 1) = (i : Int) + 1) := Lib.hid (wrap_i64 (by omega) (by have := HNL.out; omega))
      obtain ⟨b0, o0, rfl⟩ := HS.out.addr (by rw [hnn.out]; omega)
      obtain ⟨A', c', d0, d1, d2, -, -, -⟩ := blk_cells (HS.out.mono BlkR.mono HBw) i HIL.out
      have hbnd := hok.out.bounds (i := i) HIL.out
      have hlo := (hok.out.blk i HIL.out).lo
      have hnxa : nx = (l[i]!).at' := by rw [← hnx.out]; unfold nextAt; rw [if_pos HIL.out]
      have hsucc := prevEnd_succ l i
      simp only at hbnd hlo
      rw [hpe.out] at hlo
      obtain ⟨pn, hpn⟩ : ∃ pn, Hid (prevEnd l (i + 1) = pn) := ⟨_, Lib.hid rfl⟩
      rw [hpn.out] at hsucc
      generalize l[i]! = B at *
      obtain ⟨id, a, ws⟩ := B
      simp only at d0 d1 d2 hbnd hlo hnxa hsucc
      generalize ws.length = m at *
      subst hnxa
      have HW : Hid (IntKind.i64.wrap (nx + m) = pn) := Lib.hid (by rw [wrap_i64 (by omega) (by omega)]; exact hsucc.symm)
      have hJ5 := HJ.out pre wr (wr.alloc (.cells #[.int .i64 id, .int .i64 nx, .slice A' m c'] 144)) none hJs (World.grownBy_alloc wr _ none) (fun r e => by cases e)
      have hk5 := hkp.alloc (by have := hW0.size; omega) (.cells #[.int .i64 id, .int .i64 nx, .slice A' m c'] 144)
      have f0 := cell_fresh wr #[.int .i64 id, .int .i64 nx, .slice A' m c'] 144 0 (.int .i64 id) rfl
      have f1 := cell_fresh wr #[.int .i64 id, .int .i64 nx, .slice A' m c'] 144 1 (.int .i64 nx) rfl
      have f2 := cell_fresh wr #[.int .i64 id, .int .i64 nx, .slice A' m c'] 144 2 (.slice A' m c') rfl
      have hgb : Bs ≤ wr.heap.size := by omega
      have hs5 : wr.heap.size < (wr.alloc (.cells #[.int .i64 id, .int .i64 nx, .slice A' m c'] 144)).heap.size := by simp
      have hs6 : W.heap.size ≤ (wr.alloc (.cells #[.int .i64 id, .int .i64 nx, .slice A' m c'] 144)).heap.size := by omega
      obtain ⟨gb, hgb2⟩ : ∃ gb, wr.heap.size = gb := ⟨_, rfl⟩
      rw [hgb2] at f0 f1 f2 hgb hs5
      obtain ⟨W5, hW5⟩ : ∃ W5, W5 = wr.alloc (.cells #[.int .i64 id, .int .i64 nx, .slice A' m c'] 144) := ⟨_, rfl⟩
      by_cases hlt : pe < nx
      · have hl2 := hlenG hlt
        rw [← hW5] at hJ5
        obtain ⟨fn, tmps, assign, body, hy, hR⟩ := HY.out pre ⟨(pe, nx), hgap⟩ W5 hJ5 hl2
        simp only [gapEnc] at hy
        have HV : Hid (vals (pre ++ [⟨(pe, nx), hgap⟩]) = gapsUpto ⟨cap, l⟩ (i + 1)) := Lib.hid (by rw [vals_snoc, hsnoc.out, if_pos hlt])
        rw [hW5] at hy hR
        have HK5 := Lib.hid hk5
        have HS6 := Lib.hid hs6
        have F0 := Lib.hid f0
        have F1 := Lib.hid f1
        have F2 := Lib.hid f2
        clear hlenG hB1 hB1' hpre hJ5 hW5 hl2 hkp hk5 hs6 f0 f1 f2 hin hsucc
        gi_wp2
        refine hR.mono ?_
        rintro e W3 (⟨rfl, hJ3, hk3⟩ | ⟨rfl, hJx3⟩)
        · have f0 := hk3.cell (p := ⟨gb, 0, none⟩) hgb F0.out
          have f1 := hk3.cell (p := ⟨gb, 1, none⟩) hgb F1.out
          have f2 := hk3.cell (p := ⟨gb, 2, none⟩) hgb F2.out
          have hsz3 := hk3.below.size
          gi_wp2_with fail
          refine ⟨trivial, ?_⟩
          refine (callsIn_wide.2 (end_at id nx A' m c' _ pn HW)).mono ?_
          rintro e W6 ⟨rfl, rfl⟩
          have ek := HEI.out
          have hJ6 := HJ.out _ W3 (W3.alloc (.cells #[.int .i64 id, .int .i64 nx, .slice A' m c'] 144)) none hJ3 (World.grownBy_alloc W3 _ none) (fun r e => by cases e)
          have hK6 := (HK5.out.trans hk3).alloc (by have := HK5.out.below.size; have := HW0.out.size; omega) (.cells #[.int .i64 id, .int .i64 nx, .slice A' m c'] 144)
          have hS6 : W.heap.size ≤ (W3.alloc (.cells #[.int .i64 id, .int .i64 nx, .slice A' m c'] 144)).heap.size := by have := HS6.out; simp only [World.size_alloc] at *; omega
          gi_wp2
          go_roundw
          case rel => exact ⟨i + 1, _, by simp, by omega, by rw [hpn.out], HV.out, hJ6, hK6, hS6⟩
          case measure => simp [intOf]; omega
        · gi_wp2
          refine bodyPost_ret (results_none rfl _ _ _) rfl ?_
          exact ⟨⟨_, rfl⟩, .inr ⟨_, by rw [HV.out]; exact hupto.out, hJx3⟩⟩
      · have hlt' : ¬ pe < nx := hlt
        have HV : Hid (vals pre = gapsUpto ⟨cap, l⟩ (i + 1)) := Lib.hid (by rw [hsnoc.out, if_neg hlt, List.append_nil])
        have HK5 := Lib.hid hk5
        have HS6 := Lib.hid hs6
        have HJ5 := Lib.hid hJ5
        clear hlenG hB1 hB1' hpre hJ5 hW5 hkp hk5 hs6 hin hsucc hlt
        gi_wp2_with fail
        refine ⟨fun _ h => (by cases h), ?_⟩
        gi_wp2_with fail
        refine ⟨trivial, ?_⟩
        refine (callsIn_wide.2 (end_at id nx A' m c' _ pn HW)).mono ?_
        rintro e W6 ⟨rfl, rfl⟩
        have ek := HEI.out
        have hJ6 := HJ.out _ _ ((wr.alloc (.cells #[.int .i64 id, .int .i64 nx, .slice A' m c'] 144)).alloc (.cells #[.int .i64 id, .int .i64 nx, .slice A' m c'] 144)) none HJ5.out (World.grownBy_alloc _ _ none) (fun r e => by cases e)
        have hK6 := HK5.out.alloc (by have := HK5.out.below.size; have := HW0.out.size; omega) (.cells #[.int .i64 id, .int .i64 nx, .slice A' m c'] 144)
        have hS6 : W.heap.size ≤ ((wr.alloc (.cells #[.int .i64 id, .int .i64 nx, .slice A' m c'] 144)).alloc (.cells #[.int .i64 id, .int .i64 nx, .slice A' m c'] 144)).heap.size := by have := HS6.out; simp only [World.size_alloc] at *; omega
        gi_wp2
        go_roundw
        case rel => exact ⟨i + 1, _, by simp, by omega, by rw [hpn.out], HV.out, hJ6, hK6, hS6⟩
        case measure => simp [intOf]; omega
/-- arena.gaps(m): the memory is boxed; the function value captures the box. -/
theorem gaps_in (n : Nat) (cap : Int) (A : Option Addr) (nn c : Nat) (w : World) :
    CallsIn Fence.wide n Tryz.prog 64 #[.agg #[.int .i64 cap, .slice A nn c]] w fun e w' => e = .returned (.func (.func 109) #[] #[.pointer (some ⟨w.heap.size, 0, none⟩)]) ∧ w' = w.alloc (.cells #[.int .i64 cap, .slice A nn c] 79) := by
  refine callsIn_of_wp Tryz.func64 rfl trivial ?_ rfl
  simp only [Tryz.ntmps64, List.size_toArray, List.length_cons, List.length_nil, Nat.reduceAdd, Nat.reduceSub, Array.replicate_succ, Array.replicate_zero, List.push_toArray, List.append_toArray, List.nil_append, List.cons_append]
  gi_wp2
  go_ret
  exact ⟨rfl, rfl⟩
theorem gaps_stops (n : Nat) (hn : 1 ≤ n) (Bs : Nat) (cap : Int) (A : Option Addr) (c nn : Nat) (l : List BlkD) (w0 w : World) (hS : Sl BlkR 3 w0 A c l) (hnn : Hid (l.length = nn)) (hok : Hid (Ok ⟨cap, l⟩)) (hbs : w0.heap.size ≤ Bs) (hw : Bel w0 w)
    (hB0 : w.cell? ⟨Bs, 0, none⟩ = some (.int .i64 cap)) (hB1 : w.cell? ⟨Bs, 1, none⟩ = some (.slice A nn c)) :
    SeqStopsK Fence.wide n Tryz.prog 109 #[.pointer (some ⟨Bs, 0, none⟩)] gapEnc (KpG w0.heap.size Bs) (fun ys => vals ys = gapsL ⟨cap, l⟩) (fun pre => vals pre <+: gapsL ⟨cap, l⟩) (gapsL ⟨cap, l⟩).length w := fun z J Jx W hW hJ _ hY h0 =>
  gaps1_in n hn z Bs cap A c nn l w0 hS hnn hok hbs J Jx W (hw.trans (Bel.of hW)) hJ hY ((Bel.of hW).cell hB0) ((Bel.of hW).cell hB1) h0
end Go.Proofs.YtebdnobgdimdoaaGreat
set_option linter.unusedVariables false
set_option linter.unusedSimpArgs false
namespace Go.Proofs.YtebdnobgdimdoaaGreat
open Go.RowKit Go.Shelf
attribute [local go_sem] Oper.semAt_some
theorem KpG.setCell {n₀ Bs b : Nat} {W : World} (h1 : n₀ ≤ b) (h2 : b < Bs) (v : Value) : KpG n₀ Bs W (W.setCell ⟨b, 0, none⟩ v) :=
  ⟨(Below.refl _ _).setCell (p := ⟨b, 0, none⟩) h1 v, fun k o hk ho hb => (Below.heap_setCell _ _ _ k (by simp only; omega)).trans hk⟩
theorem Ok.count {m : MemD} (h : Ok m) : ∀ i, i ≤ m.l.length → (i : Int) ≤ prevEnd m.l i
  | 0, _ => by unfold prevEnd; rw [if_pos rfl]; simp
  | i + 1, hi => by
    have ih := h.count i (by omega)
    have b := h.blk i (by omega)
    have h1 := b.lo
    have h2 := b.len
    rw [prevEnd_succ]
    omega
theorem Ok.few {m : MemD} (h : Ok m) : m.l.length ≤ 1024 := by
  have h1 := h.count m.l.length (Nat.le_refl _)
  have h2 := (h.prev m.l.length (Nat.le_refl _)).2
  have h3 := h.cap1
  omega
theorem gapsUpto_len (m : MemD) : ∀ i, (gapsUpto m i).length ≤ i
  | 0 => by simp [gapsUpto]
  | i + 1 => by
    have ih := gapsUpto_len m i
    rw [gapsUpto, List.length_append]
    unfold gapAt
    split <;> simp <;> omega
theorem gapsL_len {m : MemD} (h : Ok m) : (gapsL m).length ≤ 1025 := by
  have h1 := gapsUpto_len m (m.l.length + 1)
  have h2 := h.few
  unfold gapsL
  omega
theorem leftL_range : ∀ (xs : List GapV), -(1024 * (xs.length : Int)) ≤ leftL (vals xs) ∧ leftL (vals xs) ≤ 1024 * (xs.length : Int)
  | [] => by simp [leftL, vals]
  | x :: xs => by
    have ih := leftL_range xs
    have hx := x.2
    simp only [leftL, vals, List.map_cons, List.sum_cons, List.length_cons] at ih ⊢
    omega
theorem leftL_snoc (xs : List GapV) (x : GapV) : leftL (vals (xs ++ [x])) = leftL (vals xs) + (x.1.2 - x.1.1) := by
  rw [vals_snoc]
  simp [leftL]
set_option maxRecDepth 100000 in
set_option maxHeartbeats 4000000 in
theorem left_in (cap : Int) (A : Option Addr) (n c : Nat) (l : List BlkD) (r : Int) (w : World) (h : Sl BlkR 3 w A c l) (hn : Hid (l.length = n)) (hr : Hid (leftM ⟨cap, l⟩ = r)) :
    CallsIn Fence.wide 3 Tryz.prog 26 #[.agg #[.int .i64 cap, .slice A n c]] w fun e w' => e = .returned (.int .i64 r) ∧ Bel w w' := by
  have HS0 := Lib.hid h
  clear h
  obtain ⟨mb, hmb⟩ : ∃ mb, Hid (mayM ⟨cap, l⟩ = mb) := ⟨_, Lib.hid rfl⟩
  have hq0 := cell_fresh w #[.int .i64 cap, .slice A n c] 79 0 (.int .i64 cap) rfl
  have hq1 := cell_fresh w #[.int .i64 cap, .slice A n c] 79 1 (.slice A n c) rfl
  have HBa := Lib.hid ((Bel.refl w).alloc (.cells #[.int .i64 cap, .slice A n c] 79))
  have hsz : w.heap.size < (w.alloc (.cells #[.int .i64 cap, .slice A n c] 79)).heap.size := by simp
  refine callsIn_of_wp_marks Tryz.func26 rfl trivial ?_ rfl
  simp only [Tryz.ntmps26, List.size_toArray, List.length_cons, List.length_nil, Nat.reduceAdd, Nat.reduceSub, Array.replicate_succ, Array.replicate_zero, List.push_toArray, List.append_toArray, List.nil_append, List.cons_append]
  gi_wp2_with fail
  refine ⟨trivial, ?_⟩
  generalize w.alloc (.cells #[.int .i64 cap, .slice A n c] 79) = W1 at *
  refine (callsIn_wide.2 (May_any cap A n c l mb _ (HS0.out.mono BlkR.mono HBa.out) hn hmb)).mono ?_
  rintro e w1 ⟨rfl, hb⟩
  have HB1 := HBa.out.trans hb
  have q0 := hb.cell hq0
  have q1 := hb.cell hq1
  have hg1 : w.heap.size < w1.heap.size := Nat.lt_of_lt_of_le hsz hb.size
  have ng : ¬ w.heap.size = w1.heap.size := by omega
  have ng' : ¬ w1.heap.size = w.heap.size := by omega
  clear hq0 hq1 hsz hb
  cases mb
  · have HR : Hid (r = 0) := Lib.hid (by rw [← hr.out]; unfold leftM; rw [if_neg (by rw [hmb.out]; simp)])
    gi_wp2_with fail
    exact ⟨_, results_tmp rfl _ _ _, by rw [HR.out]; rfl, HB1⟩
  · have HOK : Hid (Ok ⟨cap, l⟩) := Lib.hid (mayM_iff.1 hmb.out)
    have HR : Hid (leftL (gapsL ⟨cap, l⟩) = r) := Lib.hid (by rw [← hr.out]; unfold leftM; rw [if_pos hmb.out])
    gi_wp2_with fail
    refine ⟨trivial, ?_⟩
    refine (gaps_in 2 cap A n c _).mono ?_
    rintro e w' ⟨rfl, rfl⟩
    have bN := (Boxed.new w1 3 (.int .i64 0)).alloc (.cells #[.int .i64 cap, .slice A n c] 79)
    have hs3 : (w1.alloc (.cells #[.int .i64 0] 3)).heap.size = w1.heap.size + 1 := by simp
    have B0 := cell_fresh (w1.alloc (.cells #[.int .i64 0] 3)) #[.int .i64 cap, .slice A n c] 79 0 (.int .i64 cap) rfl
    have B1 := cell_fresh (w1.alloc (.cells #[.int .i64 0] 3)) #[.int .i64 cap, .slice A n c] 79 1 (.slice A n c) rfl
    have hs4 : ((w1.alloc (.cells #[.int .i64 0] 3)).alloc (.cells #[.int .i64 cap, .slice A n c] 79)).heap.size = w1.heap.size + 2 := by simp
    have HB4 := (HB1.alloc (.cells #[.int .i64 0] 3)).alloc (.cells #[.int .i64 cap, .slice A n c] 79)
    rw [hs3] at B0 B1
    simp only [hs3]
    generalize (w1.alloc (.cells #[.int .i64 0] 3)).alloc (.cells #[.int .i64 cap, .slice A n c] 79) = W4 at *
    generalize w1.heap.size = g at *
    clear hs3 q0 q1 HB1
    gi_wp2_with fail
    refine wpIn_rangeFunc_ownG (F := Fence.wide) (n := 3) rfl (by omega) (gf := 109) (lb := #[.pointer (some ⟨g + 1, 0, none⟩)]) rfl trivial (enters_of Tryz.func109 (by kernel_rfl) rfl)
      (gaps_stops (3 - 1) (by omega) (g + 1) cap A c n l w W4 HS0.out hn HOK (by omega) HB4 B0 B1)
      KpG.trans (KpG.turn (by omega)) (Below.refl _ _) (fun _ => rfl)
      (fun pre W => Boxed W g 3 (.int .i64 (leftL (vals pre))) ∧ Below w.heap.size w W)
      (fun _ _ _ => False)
      (OwnFrom.and (Own.from (boxed_own g 3 (fun pre => .int .i64 (leftL (vals pre)))) _) (ownFrom_below (Nat.le_refl _) (by omega)))
      (fun _ _ _ _ _ hs _ _ => hs)
      ⟨bN, HB4.out⟩
      (fun x => { tmps := #[.agg #[.int .i64 cap, .slice A n c], .pointer (some ⟨w.heap.size, 0, none⟩), .int .i64 0, .pointer (some ⟨g, 0, none⟩), .int .i64 x.1.1, .int .i64 x.1.2, .agg #[.int .i64 cap, .slice A n c], .bool true, .bool false, .agg #[.int .i64 cap, .slice A n c], .func (.func 109) #[] #[.pointer (some ⟨g + 1, 0, none⟩)], .int .i64 x.1.1, .int .i64 x.1.2, undef, undef, undef, undef, undef, undef], defers := [] }) ?assign ?body ?done ?stop
    case assign =>
      intro z x W K hK
      simp only [gapEnc]
      gi_wp2
      exact hK
    case body =>
      rintro z pre x W ⟨hb, hB⟩ hlen
      have hx := x.2
      have hlr := leftL_range pre
      have hNN := gapsL_len HOK.out
      have HSN := Lib.hid (leftL_snoc pre x)
      have HB := Lib.hid hb
      have HBB := Lib.hid hB
      have cc := hb.cell
      have ff := hb.frozen
      have e1 : IntKind.i64.wrap (x.1.2 - x.1.1) = x.1.2 - x.1.1 := wrap_i64 (by omega) (by omega)
      have e2 : IntKind.i64.wrap (leftL (vals pre) + (x.1.2 - x.1.1)) = leftL (vals pre) + (x.1.2 - x.1.1) := wrap_i64 (by omega) (by omega)
      have E1 := Lib.hid e1
      generalize leftL (vals pre) = S at *
      clear hb hB hx hlr hNN hlen
      gi_wp2
      refine ⟨(KeepsOthers.setCell _ _ _).from _, KpG.setCell (by omega) (by omega) _, ?_, HBB.out.setCell (p := ⟨g, 0, none⟩) (by simp only; omega) _⟩
      rw [HSN.out]
      exact HB.out.set _
    case done =>
      rintro D ys W hD hys ⟨hb, hB⟩ hK
      have cc := hb.cell
      have HV : Hid (leftL (vals ys) = r) := Lib.hid (by rw [hys]; exact HR.out)
      rw [HV.out] at cc
      have HK := Lib.hid hK
      have hF : Bel w (W.putObj D (.deferred none)) := Bel.of (hB.trans (belowK_b (w := w) (Nat.le_refl _) W D _ _ (by omega) hK rfl rfl))
      have HF := Lib.hid hF
      clear hb hB hK hys hF
      gi_wp2
      refine ⟨by simp, .inl ⟨_, _, rfl, run_takeDeferred HK.out, ?_⟩⟩
      exact ⟨_, results_tmp rfl _ _ _, rfl, HF.out⟩
    case stop =>
      rintro D c pre W _ _ h _
      exact h.elim
theorem Left_any (cap : Int) (A : Option Addr) (n c : Nat) (l : List BlkD) (r : Int) (w : World) (h : Sl BlkR 3 w A c l) (hn : Hid (l.length = n)) (hr : Hid (leftM ⟨cap, l⟩ = r)) :
    Calls Tryz.prog 26 #[.agg #[.int .i64 cap, .slice A n c]] w fun e w' => e = .returned (.int .i64 r) ∧ Bel w w' := callsIn_wide.1 (left_in cap A n c l r w h hn hr)
end Go.Proofs.YtebdnobgdimdoaaGreat
set_option linter.unusedVariables false
set_option linter.unusedSimpArgs false
namespace Go.Proofs.YtebdnobgdimdoaaGreat
open Go.RowKit Go.Shelf
attribute [local go_sem] Oper.semAt_some
theorem findL_none {n : Int} {gs : List (Int × Int)} (h : ∀ x ∈ gs, x.2 - x.1 < n) : findL n gs = none := by
  unfold findL
  rw [List.find?_eq_none.2 (fun x hx => by have := h x hx; simp only [decide_eq_true_eq]; omega)]
  rfl
theorem findL_some {n : Int} {gs ini : List (Int × Int)} {x : Int × Int} (hp : ini ++ [x] <+: gs) (h : ∀ y ∈ ini, y.2 - y.1 < n) (hx : n ≤ x.2 - x.1) : findL n gs = some x.1 := by
  obtain ⟨t, rfl⟩ := hp
  unfold findL
  rw [List.append_assoc, List.find?_append, List.find?_eq_none.2 (fun y hy => by have := h y hy; simp only [decide_eq_true_eq]; omega)]
  simp [hx]
set_option maxRecDepth 100000 in
set_option maxHeartbeats 4000000 in
theorem find_in (cap : Int) (A : Option Addr) (nn c : Nat) (l : List BlkD) (n : Int) (r : Int) (rb : Bool) (w : World) (h : Sl BlkR 3 w A c l) (hn : Hid (l.length = nn)) (hnw : -9223372036854775808 ≤ n ∧ n ≤ 9223372036854775807) (hr : Hid (findM ⟨cap, l⟩ n = (r, rb))) :
    CallsIn Fence.wide 3 Tryz.prog 29 #[.agg #[.int .i64 cap, .slice A nn c], .int .i64 n] w fun e w' => e = .returned (.tuple #[.int .i64 r, .bool rb]) ∧ Bel w w' := by
  have HS0 := Lib.hid h
  clear h
  obtain ⟨mb, hmb⟩ : ∃ mb, Hid (mayM ⟨cap, l⟩ = mb) := ⟨_, Lib.hid rfl⟩
  have bM0 := cell_fresh w #[.int .i64 cap, .slice A nn c] 79 0 (.int .i64 cap) rfl
  have bM1 := cell_fresh w #[.int .i64 cap, .slice A nn c] 79 1 (.slice A nn c) rfl
  refine callsIn_of_wp_marks Tryz.func29 rfl trivial ?_ rfl
  simp only [Tryz.ntmps29, List.size_toArray, List.length_cons, List.length_nil, Nat.reduceAdd, Nat.reduceSub, Array.replicate_succ, Array.replicate_zero, List.push_toArray, List.append_toArray, List.nil_append, List.cons_append]
  gi_wp2_with fail
  refine ⟨trivial, ?_⟩
  have bN := ((Boxed.new (w.alloc (.cells #[.int .i64 cap, .slice A nn c] 79)) 3 (.int .i64 n)).alloc (.cells #[.int .i64 0] 3)).alloc (.cells #[.bool false] 4)
  have bR := (Boxed.new ((w.alloc (.cells #[.int .i64 cap, .slice A nn c] 79)).alloc (.cells #[.int .i64 n] 3)) 3 (.int .i64 0)).alloc (.cells #[.bool false] 4)
  have bB := Boxed.new (((w.alloc (.cells #[.int .i64 cap, .slice A nn c] 79)).alloc (.cells #[.int .i64 n] 3)).alloc (.cells #[.int .i64 0] 3)) 4 (.bool false)
  have HBa := Lib.hid (((((Bel.refl w).alloc (.cells #[.int .i64 cap, .slice A nn c] 79)).alloc (.cells #[.int .i64 n] 3)).alloc (.cells #[.int .i64 0] 3)).alloc (.cells #[.bool false] 4))
  have hq0 := (((Bel.refl (w.alloc (.cells #[.int .i64 cap, .slice A nn c] 79))).alloc (.cells #[.int .i64 n] 3)).alloc (.cells #[.int .i64 0] 3)).alloc (.cells #[.bool false] 4) |>.cell bM0
  have hq1 := (((Bel.refl (w.alloc (.cells #[.int .i64 cap, .slice A nn c] 79))).alloc (.cells #[.int .i64 n] 3)).alloc (.cells #[.int .i64 0] 3)).alloc (.cells #[.bool false] 4) |>.cell bM1
  simp only [World.size_alloc] at bN bR bB
  generalize (((w.alloc (.cells #[.int .i64 cap, .slice A nn c] 79)).alloc (.cells #[.int .i64 n] 3)).alloc (.cells #[.int .i64 0] 3)).alloc (.cells #[.bool false] 4) = W1 at *
  clear bM0 bM1
  refine (callsIn_wide.2 (May_any cap A nn c l mb _ (HS0.out.mono BlkR.mono HBa.out) hn hmb)).mono ?_
  rintro e w1 ⟨rfl, hb⟩
  have HB1 := HBa.out.trans hb
  have q0 := hb.cell hq0
  have q1 := hb.cell hq1
  have bN1 : Boxed w1 (w.heap.size + 1) 3 (.int .i64 n) := (hb.out.block _ bN.lt).trans bN
  have bR1 : Boxed w1 (w.heap.size + 1 + 1) 3 (.int .i64 0) := (hb.out.block _ bR.lt).trans bR
  have bB1 : Boxed w1 (w.heap.size + 1 + 1 + 1) 4 (.bool false) := (hb.out.block _ bB.lt).trans bB
  obtain ⟨g, hg⟩ : ∃ g, w.heap.size = g := ⟨_, rfl⟩
  have hgw : w.heap.size ≤ g := by omega
  rw [hg] at q0 q1 bN1 bR1 bB1 ⊢
  have cN := bN1.cell
  have cR := bR1.cell
  have fR := bR1.frozen
  have cB := bB1.cell
  have fB := bB1.frozen
  have hlt := bB1.lt
  have m1 : g < w1.heap.size := by omega
  have m2 : g + 1 < w1.heap.size := by omega
  have m3 : g + 1 + 1 < w1.heap.size := by omega
  have n1 : ¬ g = w1.heap.size := by omega
  have n2 : ¬ w1.heap.size = g := by omega
  clear hq0 hq1 bN bR bB hb hg
  have two : ∀ (v : Int) (b : Bool), Boxed ((w1.setCell ⟨g + 1 + 1, 0, none⟩ (.int .i64 v)).setCell ⟨g + 1 + 1 + 1, 0, none⟩ (.bool b)) (g + 1 + 1) 3 (.int .i64 v) ∧ Boxed ((w1.setCell ⟨g + 1 + 1, 0, none⟩ (.int .i64 v)).setCell ⟨g + 1 + 1 + 1, 0, none⟩ (.bool b)) (g + 1 + 1 + 1) 4 (.bool b) ∧ Bel w ((w1.setCell ⟨g + 1 + 1, 0, none⟩ (.int .i64 v)).setCell ⟨g + 1 + 1 + 1, 0, none⟩ (.bool b)) := fun v b =>
    ⟨(bR1.set _).other (by omega) _, (bB1.other (by omega) _).set _, (HB1.setCell (p := ⟨g + 1 + 1, 0, none⟩) (by simp only; omega) _).setCell (p := ⟨g + 1 + 1 + 1, 0, none⟩) (by simp only; omega) _⟩
  by_cases hgo : mb = true ∧ 1 ≤ n
  · obtain ⟨rfl, hn1⟩ := hgo
    have HOK : Hid (Ok ⟨cap, l⟩) := Lib.hid (mayM_iff.1 hmb.out)
    have HR : Hid ((match findL n (gapsL ⟨cap, l⟩) with | some a => (a, true) | none => (0, false)) = (r, rb)) := Lib.hid (by
      have := hr.out
      unfold findM at this
      rwa [if_pos ⟨hmb.out, hn1⟩] at this)
    have hn1' : ¬ n < 1 := by omega
    clear two
    gi_wp2_with fail
    refine ⟨trivial, ?_⟩
    refine (gaps_in 2 cap A nn c _).mono ?_
    rintro e w' ⟨rfl, rfl⟩
    have B0 := cell_fresh w1 #[.int .i64 cap, .slice A nn c] 79 0 (.int .i64 cap) rfl
    have B1 := cell_fresh w1 #[.int .i64 cap, .slice A nn c] 79 1 (.slice A nn c) rfl
    have bN4 := bN1.alloc (.cells #[.int .i64 cap, .slice A nn c] 79)
    have bR4 := bR1.alloc (.cells #[.int .i64 cap, .slice A nn c] 79)
    have bB4 := bB1.alloc (.cells #[.int .i64 cap, .slice A nn c] 79)
    have HB4 := HB1.alloc (.cells #[.int .i64 cap, .slice A nn c] 79)
    have hs4 : (w1.alloc (.cells #[.int .i64 cap, .slice A nn c] 79)).heap.size = w1.heap.size + 1 := by simp
    generalize w1.alloc (.cells #[.int .i64 cap, .slice A nn c] 79) = W4 at *
    generalize w1.heap.size = s at *
    clear q0 q1 cN cR fR cB fB bN1 bR1 bB1 HB1
    gi_wp2_with fail
    refine wpIn_rangeFunc_ownG (F := Fence.wide) (n := 3) rfl (by omega) (gf := 109) (lb := #[.pointer (some ⟨s, 0, none⟩)]) rfl trivial (enters_of Tryz.func109 (by kernel_rfl) rfl)
      (gaps_stops (3 - 1) (by omega) s cap A c nn l w W4 HS0.out hn HOK (by omega) HB4 B0 B1)
      KpG.trans (KpG.turn (by omega)) (Below.refl _ _) (fun _ => rfl)
      (fun pre W => ((Boxed W (g + 1) 3 (.int .i64 n) ∧ Boxed W (g + 1 + 1) 3 (.int .i64 0) ∧ Boxed W (g + 1 + 1 + 1) 4 (.bool false)) ∧ (∀ y ∈ vals pre, y.2 - y.1 < n)) ∧ Below w.heap.size w W)
      (fun c pre W => (c = .ret ∧ ∃ ini last, pre = ini ++ [last] ∧ (∀ y ∈ vals ini, y.2 - y.1 < n) ∧ n ≤ last.1.2 - last.1.1 ∧ Boxed W (g + 1 + 1) 3 (.int .i64 last.1.1) ∧ Boxed W (g + 1 + 1 + 1) 4 (.bool true)) ∧ Below w.heap.size w W)
      (OwnFrom.and (Own.from (fun s A B row hs hg hr => ⟨⟨boxed_own _ _ (fun _ : Unit => _) () _ _ _ hs.1.1 hg hr, boxed_own _ _ (fun _ : Unit => _) () _ _ _ hs.1.2.1 hg hr, boxed_own _ _ (fun _ : Unit => _) () _ _ _ hs.1.2.2 hg hr⟩, hs.2⟩) _) (ownFrom_below (Nat.le_refl _) (by omega)))
      (fun c => OwnFrom.and (Own.from (fun s A B row hs hg hr => by
        obtain ⟨hc, ini, last, e1, e2, e3, e4, e5⟩ := hs
        exact ⟨hc, ini, last, e1, e2, e3, boxed_own _ _ (fun _ : Unit => _) () _ _ _ e4 hg hr, boxed_own _ _ (fun _ : Unit => _) () _ _ _ e5 hg hr⟩) _) (ownFrom_below (Nat.le_refl _) (by omega)))
      ⟨⟨⟨bN4, bR4, bB4⟩, fun y hy => by simp [vals] at hy⟩, HB4.out⟩
      (fun x => { tmps := #[.agg #[.int .i64 cap, .slice A nn c], .int .i64 n, .pointer (some ⟨g, 0, none⟩), .pointer (some ⟨g + 1, 0, none⟩), .pointer (some ⟨g + 1 + 1, 0, none⟩), .pointer (some ⟨g + 1 + 1 + 1, 0, none⟩), .int .i64 x.1.1, .int .i64 x.1.2, .agg #[.int .i64 cap, .slice A nn c], .bool true, .bool false, .bool false, .int .i64 n, .bool (decide (n < 1)), .bool (decide (n < 1)), .agg #[.int .i64 cap, .slice A nn c], .func (.func 109) #[] #[.pointer (some ⟨s, 0, none⟩)], .int .i64 x.1.1, .int .i64 x.1.2, undef, undef, undef, undef, undef, undef], defers := [] }) ?assign ?body ?done ?stop
    case assign =>
      intro z x W K hK
      simp only [gapEnc]
      gi_wp2
      exact hK
    case body =>
      rintro z pre x W ⟨⟨⟨bn, br, bb⟩, hp⟩, hB⟩ hlen
      have hx := x.2
      have cn := bn.cell
      have cr := br.cell
      have fr := br.frozen
      have cb := bb.cell
      have fb := bb.frozen
      have e1 : IntKind.i64.wrap (x.1.2 - x.1.1) = x.1.2 - x.1.1 := wrap_i64 (by omega) (by omega)
      have HBN := Lib.hid bn
      have HBR := Lib.hid br
      have HBB := Lib.hid bb
      have HP := Lib.hid hp
      have HB := Lib.hid hB
      clear bn br bb hp hB hlen hx
      by_cases hlt : n ≤ x.1.2 - x.1.1
      · gi_wp2
        refine ⟨((KeepsOthers.setCell _ _ _).trans (KeepsOthers.setCell _ _ _)).from _, ⟨rfl, pre, x, rfl, HP.out, hlt, (HBR.out.set _).other (by omega) _, (HBB.out.other (by omega) _).set _⟩, (HB.out.setCell (p := ⟨g + 1 + 1, 0, none⟩) (by simp only; omega) _).setCell (p := ⟨g + 1 + 1 + 1, 0, none⟩) (by simp only; omega) _⟩
      · have HPN : Hid (∀ y ∈ vals (pre ++ [x]), y.2 - y.1 < n) := Lib.hid (by
          intro y hy
          rw [vals_snoc] at hy
          rcases List.mem_append.1 hy with h | h
          · exact HP.out y h
          · simp only [List.mem_singleton] at h; subst h; omega)
        gi_wp2
        exact ⟨KeepsFrom.refl _ _, KpG.refl _ _ _, ⟨⟨HBN.out, HBR.out, HBB.out⟩, fun a b h => HPN.out (a, b) h⟩, HB.out⟩
    case done =>
      rintro D ys W hD hys ⟨⟨⟨bn, br, bb⟩, hp⟩, hB⟩ hK
      have HV : Hid (r = 0 ∧ rb = false) := Lib.hid (by
        have := HR.out
        rw [findL_none (by rw [← hys]; exact hp)] at this
        cases this
        exact ⟨rfl, rfl⟩)
      have cr := br.cell
      have fr := br.frozen
      have cb := bb.cell
      have fb := bb.frozen
      have b1 := (br.set (.int .i64 0)).other (B' := g + 1 + 1 + 1) (by omega) (.bool false)
      have b2 := (bb.other (B' := g + 1 + 1) (by omega) (.int .i64 0)).set (.bool false)
      have hK' := ((KeepsOthers.setCell W ⟨g + 1 + 1, 0, none⟩ (.int .i64 0)).trans (KeepsOthers.setCell _ ⟨g + 1 + 1 + 1, 0, none⟩ (.bool false))).same D _ hK rfl
      have hB2 := (hB.setCell (p := ⟨g + 1 + 1, 0, none⟩) (by simp only; omega) (.int .i64 0)).setCell (p := ⟨g + 1 + 1 + 1, 0, none⟩) (by simp only; omega) (.bool false)
      have h1 := cell_kept b1.cell (grownBy_putObj' _ D (.deferred none)) (fun r e => by cases e; exact ⟨_, hK', rfl⟩)
      have h2 := cell_kept b2.cell (grownBy_putObj' _ D (.deferred none)) (fun r e => by cases e; exact ⟨_, hK', rfl⟩)
      have hF : Bel w _ := Bel.of (hB2.trans (belowK_b (w := w) (Nat.le_refl _) _ D _ (.deferred none) (by omega) hK' rfl rfl))
      have HK := Lib.hid hK'
      have H1 := Lib.hid h1
      have H2 := Lib.hid h2
      have HF := Lib.hid hF
      clear bn br bb hp hB hK hK' b1 b2 hB2 h1 h2 hF hys
      gi_wp2
      refine ⟨by simp, .inl ⟨_, _, rfl, run_takeDeferred HK.out, ?_⟩⟩
      refine ⟨.tuple #[.int .i64 0, .bool false], ?_, by rw [HV.out.1, HV.out.2], HF.out⟩
      have h1 := H1.out
      have h2 := H2.out
      simp [results, Tryz.f29, go_sem, h1, h2]
    case stop =>
      rintro D c pre W hD hpre ⟨⟨rfl, ini, last, rfl, e2, e3, b1, b2⟩, hB⟩ hK
      have HV : Hid (r = last.1.1 ∧ rb = true) := Lib.hid (by
        have := HR.out
        rw [findL_some (ini := vals ini) (x := last.1) (gs := gapsL ⟨cap, l⟩) (by rw [← vals_snoc]; exact hpre) e2 e3] at this
        cases this
        exact ⟨rfl, rfl⟩)
      have h1 := cell_kept b1.cell (grownBy_putObj' _ D (.deferred none)) (fun r e => by cases e; exact ⟨_, hK, rfl⟩)
      have h2 := cell_kept b2.cell (grownBy_putObj' _ D (.deferred none)) (fun r e => by cases e; exact ⟨_, hK, rfl⟩)
      have hF : Bel w _ := Bel.of (hB.trans (belowK_b (w := w) (Nat.le_refl _) _ D _ (.deferred none) (by omega) hK rfl rfl))
      have HK := Lib.hid hK
      have H1 := Lib.hid h1
      have H2 := Lib.hid h2
      have HF := Lib.hid hF
      clear hB hK b1 b2 h1 h2 hF hpre e2 e3
      gi_wp2
      refine ⟨by simp, .inl ⟨_, _, rfl, run_takeDeferred HK.out, ?_⟩⟩
      refine ⟨.tuple #[.int .i64 last.1.1, .bool true], ?_, by rw [HV.out.1, HV.out.2], HF.out⟩
      have h1 := H1.out
      have h2 := H2.out
      simp [results, Tryz.f29, go_sem, h1, h2]
  · have HR : Hid (r = 0 ∧ rb = false) := Lib.hid (by
      have := hr.out
      unfold findM at this
      rw [if_neg (by rw [hmb.out]; exact hgo)] at this
      cases this
      exact ⟨rfl, rfl⟩)
    obtain ⟨rfl, rfl⟩ := HR.out
    obtain ⟨t1, t2, t3⟩ := two 0 false
    have h1 := t1.cell
    have h2 := t2.cell
    have H1 := Lib.hid h1
    have H2 := Lib.hid h2
    have H3 := Lib.hid t3
    clear two t1 t2 t3 h1 h2
    cases mb
    · gi_wp2_with fail
      refine ⟨.tuple #[.int .i64 0, .bool false], ?_, rfl, H3.out⟩
      have h1 := H1.out
      have h2 := H2.out
      simp [results, Tryz.f29, go_sem, h1, h2]
    · have hn1 : n < 1 := by
        by_cases h : 1 ≤ n
        · exact absurd ⟨rfl, h⟩ hgo
        · omega
      clear hgo
      gi_wp2_with fail
      refine ⟨.tuple #[.int .i64 0, .bool false], ?_, rfl, H3.out⟩
      have h1 := H1.out
      have h2 := H2.out
      simp [results, Tryz.f29, go_sem, h1, h2]
theorem Find_any (cap : Int) (A : Option Addr) (nn c : Nat) (l : List BlkD) (n : Int) (r : Int) (rb : Bool) (w : World) (h : Sl BlkR 3 w A c l) (hn : Hid (l.length = nn)) (hnw : -9223372036854775808 ≤ n ∧ n ≤ 9223372036854775807) (hr : Hid (findM ⟨cap, l⟩ n = (r, rb))) :
    Calls Tryz.prog 29 #[.agg #[.int .i64 cap, .slice A nn c], .int .i64 n] w fun e w' => e = .returned (.tuple #[.int .i64 r, .bool rb]) ∧ Bel w w' := callsIn_wide.1 (find_in cap A nn c l n r rb w h hn hnw hr)
end Go.Proofs.YtebdnobgdimdoaaGreat
