/- The document's Left, Fetch and New (chapter 13) by their contracts: they are what arena's are. -/
import Derived.Test.YtegdnmlpoglfeaaRf6
set_option linter.unusedVariables false
set_option linter.unusedSimpArgs false
namespace Go.Proofs.Ytegdnmlpoglfeaa
open Go.RowKit

/-- How many of the first addresses are of no block. -/
def cntF (m : MemD) : Nat → Int
  | 0 => 0
  | k + 1 => if ofM m.l k < 0 then cntF m k + 1 else cntF m k
theorem Ok.of_neg {m : MemD} (h : Ok m) {p : Int} (hp : p ≤ 9223372036854775807) : ofM m.l p < 0 ↔ blkOf m.l p = none := by
  cases hb : blkOf m.l p with
  | none => rw [h.of_none hp hb]; simp
  | some i => rw [h.of_some hp hb]; simp
theorem cntF_free {m : MemD} (h : Ok m) (a : Nat) : ∀ k : Nat, a + k ≤ 4096 → (∀ j : Nat, a ≤ j → j < a + k → blkOf m.l j = none) → cntF m (a + k) = cntF m a + k
  | 0, _, _ => by simp
  | k + 1, hk, hf => by
    have ih := cntF_free h a k (by omega) (fun j h1 h2 => hf j h1 (by omega))
    rw [← Nat.add_assoc, cntF, if_pos ((h.of_neg (by omega)).2 (hf (a + k) (by omega) (by omega))), ih]
    omega
theorem cntF_busy {m : MemD} (h : Ok m) (a : Nat) : ∀ k : Nat, a + k ≤ 4096 → (∀ j : Nat, a ≤ j → j < a + k → blkOf m.l j ≠ none) → cntF m (a + k) = cntF m a
  | 0, _, _ => by simp
  | k + 1, hk, hf => by
    have ih := cntF_busy h a k (by omega) (fun j h1 h2 => hf j h1 (by omega))
    rw [← Nat.add_assoc, cntF, if_neg (fun hh => hf (a + k) (by omega) (by omega) ((h.of_neg (by omega)).1 hh)), ih]
theorem cntF_gap {m : MemD} (h : Ok m) {i : Nat} (hi : i ≤ m.l.length) : cntF m (nextAt m i).toNat = cntF m (prevEnd m.l i).toNat + (nextAt m i - prevEnd m.l i) := by
  have h1 := (h.prev i hi).1
  have h2 := h.next hi
  have h3 := h.cap1
  have := cntF_free h (prevEnd m.l i).toNat ((nextAt m i).toNat - (prevEnd m.l i).toNat) (by omega) (fun j a b => h.gap_none hi (by omega) (by omega))
  rw [show (prevEnd m.l i).toNat + ((nextAt m i).toNat - (prevEnd m.l i).toNat) = (nextAt m i).toNat by omega] at this
  rw [this]
  omega
theorem cntF_upto {m : MemD} (h : Ok m) : ∀ i, i ≤ m.l.length → cntF m (prevEnd m.l i).toNat = prevEnd m.l i - taken (m.l.take i)
  | 0, _ => by simp [prevEnd, taken, cntF]
  | i + 1, hi => by
    have ih := cntF_upto h i (by omega)
    have hg := cntF_gap h (i := i) (by omega)
    have hb := h.blk i (by omega)
    have h1 := (h.prev i (by omega)).1
    have h2 := h.next (i := i) (by omega)
    have h3 := h.cap1
    have hhi := hb.hi
    have hn : nextAt m i = (m.l[i]!).at' := by unfold nextAt; rw [if_pos (by omega)]
    rw [hn] at hg h2
    have hbusy := cntF_busy h (m.l[i]!).at'.toNat (m.l[i]!).w.length (by omega) (fun j a b => by
      intro hnone
      exact blkOf_none.1 hnone i (by omega) ⟨by omega, by omega⟩)
    rw [taken_take m.l (by omega), prevEnd_succ, show ((m.l[i]!).at' + ((m.l[i]!).w.length : Int)).toNat = (m.l[i]!).at'.toNat + (m.l[i]!).w.length by omega, hbusy, hg, ih]
    omega
theorem cntF_all {m : MemD} (h : Ok m) : cntF m m.cap.toNat = leftM m := by
  have h1 := cntF_upto h m.l.length (Nat.le_refl _)
  have h2 := cntF_gap h (i := m.l.length) (Nat.le_refl _)
  have hn : nextAt m m.l.length = m.cap := by unfold nextAt; rw [if_neg (Nat.lt_irrefl _)]
  rw [List.take_length] at h1
  rw [hn] at h2
  rw [h2, h1, left_all h]
  omega
theorem cntF_range (m : MemD) : ∀ k : Nat, 0 ≤ cntF m k ∧ cntF m k ≤ k
  | 0 => by simp [cntF]
  | k + 1 => by
    have := cntF_range m k
    rw [cntF]
    split <;> omega
set_option maxRecDepth 100000 in
set_option maxHeartbeats 4000000 in
theorem left13_any (cap : Int) (A : Option Addr) (nn c : Nat) (l : List BlkD) (r : Int) (w : World) (h : Sl BlkR 3 w A c l) (hn : Hid (l.length = nn)) (hlen : Hid (∀ i, i < l.length → (l[i]!).w.length ≤ 4000)) (hr : Hid (leftM ⟨cap, l⟩ = r)) :
    Calls Try.prog 27 #[.agg #[.int .i64 cap, .slice A nn c]] w fun e w' => e = .returned (.int .i64 r) ∧ Bel w w' := by
  have HS0 := Lib.hid h
  clear h
  obtain ⟨mb, hmb⟩ : ∃ mb, Hid (mayM ⟨cap, l⟩ = mb) := ⟨_, Lib.hid rfl⟩
  have KM := Lib.hid (Blk.new w 26 #[.int .i64 cap, .slice A nn c])
  have HBa := Lib.hid ((Bel.refl w).alloc (.cells #[.int .i64 cap, .slice A nn c] 26))
  have q0 := KM.out.cell 0 (v := .int .i64 cap) rfl
  have q1 := KM.out.cell 1 (v := .slice A nn c) rfl
  go_enter Try.func27, Try.ntmps27
  go_wp2_with fail
  generalize w.alloc (.cells #[.int .i64 cap, .slice A nn c] 26) = W1 at *
  generalize w.heap.size = g at *
  refine (may13_any cap A nn c l mb _ (HS0.out.mono BlkR.mono HBa.out) hn hlen hmb).mono ?_
  rintro e w1 ⟨rfl, hb1⟩
  have HB1 := Lib.hid (HBa.out.trans hb1)
  have KM1 := Lib.hid (KM.out.bel hb1)
  clear hb1 q0 q1
  cases mb
  · have HR : Hid (r = 0) := Lib.hid (by
      rw [← hr.out]
      unfold leftM
      rw [if_neg (by rw [hmb.out]; simp)])
    go_wp2_with fail
    go_loopw [3, 5] (fun nv kv wr => nv = .int .i64 0 ∧ kv = .int .i64 0 ∧ Hid (Bel w1 wr)) (fun _ kv _ => 0)
    case atStart => exact ⟨rfl, rfl, Lib.hid (Bel.refl _)⟩
    case round =>
      obtain ⟨rfl, rfl, hbk⟩ := hrel
      have HBw := Lib.hid (HB1.out.trans hbk.out)
      have q0 := (KM1.out.bel hbk.out).cell 0 (v := .int .i64 cap) rfl
      by_cases c0 : 0 < cap
      · go_wp2_with fail
        go_ret
        exact ⟨by rw [HR.out]; rfl, HBw.out⟩
      · go_wp2_with fail
        go_ret
        exact ⟨by rw [HR.out]; rfl, HBw.out⟩
  · have HOK : Hid (Ok ⟨cap, l⟩) := Lib.hid (mayM_iff.1 hmb.out)
    have HCAP : Hid (0 ≤ cap ∧ cap ≤ 1024) := Lib.hid ⟨HOK.out.cap0, HOK.out.cap1⟩
    go_wp2_with fail
    go_loopw [3, 5] (fun nv kv wr => ∃ (k : Nat) (q : Int), nv = .int .i64 q ∧ kv = .int .i64 k ∧ k ≤ cap.toNat ∧ Hid (q = cntF ⟨cap, l⟩ k) ∧ Hid (Bel w1 wr)) (fun _ kv _ => cap.toNat - (intOf kv).toNat)
    case atStart => exact ⟨0, 0, rfl, rfl, Nat.zero_le _, Lib.hid rfl, Lib.hid (Bel.refl _)⟩
    case round =>
      obtain ⟨k, q, rfl, rfl, hk, HT, hbk⟩ := hrel
      have HBw := Lib.hid (HB1.out.trans hbk.out)
      have q0 := (KM1.out.bel hbk.out).cell 0 (v := .int .i64 cap) rfl
      have q1 := (KM1.out.bel hbk.out).cell 1 (v := .slice A nn c) rfl
      by_cases hkc : cap ≤ (k : Int)
      · have HR : Hid (r = q) := Lib.hid (by
          have := HCAP.out
          rw [← hr.out, ← cntF_all HOK.out, HT.out]
          congr 1
          simp only
          omega)
        have d1 : ¬ (k : Int) < cap := by omega
        clear hkc hk
        go_wp2_with fail
        go_ret
        exact ⟨by rw [HR.out]; rfl, HBw.out⟩
      have hkc2 : (k : Int) < cap := by omega
      have HKC := Lib.hid hkc2
      have ek : IntKind.i64.wrap ((k : Int) + 1) = (k : Int) + 1 := wrap_i64 (by omega) (by have := HCAP.out; omega)
      have eq' : IntKind.i64.wrap (q + 1) = q + 1 := by
        have h1 := cntF_range ⟨cap, l⟩ k
        rw [← HT.out] at h1
        have := HCAP.out
        exact wrap_i64 (by omega) (by omega)
      obtain ⟨ix, hix⟩ : ∃ ix, Hid (ofM l k = ix) := ⟨_, Lib.hid rfl⟩
      have HST : Hid (cntF ⟨cap, l⟩ (k + 1) = if ix < 0 then q + 1 else q) := Lib.hid (by rw [HT.out, ← hix.out]; rfl)
      have HK2 : Hid (k + 1 ≤ cap.toNat) := Lib.hid (by omega)
      clear hkc
      go_wp2_with fail
      refine (of_any cap A nn c l k ix _ (HS0.out.mono BlkR.mono HBw.out) hn hix).mono ?_
      rintro e w3 ⟨rfl, hb3⟩
      have HBK3 := Lib.hid (hbk.out.trans hb3)
      clear hb3 q0 q1
      by_cases hi : ix < 0
      · have HN : Hid (q + 1 = cntF ⟨cap, l⟩ (k + 1)) := Lib.hid (by rw [HST.out, if_pos hi])
        go_wp2
        go_roundw
        case rel => exact ⟨k + 1, q + 1, rfl, by simp, HK2.out, HN, HBK3⟩
        case measure => have := HK2.out; simp [intOf]; omega
      · have HN : Hid (q = cntF ⟨cap, l⟩ (k + 1)) := Lib.hid (by rw [HST.out, if_neg hi])
        go_wp2
        go_roundw
        case rel => exact ⟨k + 1, q, rfl, by simp, HK2.out, HN, HBK3⟩
        case measure => have := HK2.out; simp [intOf]; omega
set_option maxRecDepth 100000 in
set_option maxHeartbeats 4000000 in
theorem fetch13_any (cap : Int) (A : Option Addr) (n c : Nat) (l : List BlkD) (place v who : Int) (has : Bool) (w : World) (h : Sl BlkR 3 w A c l) (hn : Hid (l.length = n)) (hlen : Hid (∀ i, i < l.length → (l[i]!).w.length ≤ 4000)) (hp : Hid (place ≤ 9223372036854775807)) (hr : Hid (fetchM ⟨cap, l⟩ place = (v, who, has))) :
    Calls Try.prog 23 #[.agg #[.int .i64 cap, .slice A n c], .int .i64 place] w fun e w' => e = .returned (.tuple #[.int .u64 v, .int .i64 who, .bool has]) ∧ Bel w w' := by
  have HS0 := Lib.hid h
  clear h
  obtain ⟨mb, hmb⟩ : ∃ mb, Hid (mayM ⟨cap, l⟩ = mb) := ⟨_, Lib.hid rfl⟩
  obtain ⟨ix, hix⟩ : ∃ ix, Hid (ofM l place = ix) := ⟨_, Lib.hid rfl⟩
  have hq0 := cell_fresh w #[.int .i64 cap, .slice A n c] 26 0 (.int .i64 cap) rfl
  have hq1 := cell_fresh w #[.int .i64 cap, .slice A n c] 26 1 (.slice A n c) rfl
  have HBa := Lib.hid ((Bel.refl w).alloc (.cells #[.int .i64 cap, .slice A n c] 26))
  go_enter Try.func23, Try.ntmps23
  go_wp2_with fail
  generalize w.alloc (.cells #[.int .i64 cap, .slice A n c] 26) = W1 at *
  refine (may13_any cap A n c l mb _ (HS0.out.mono BlkR.mono HBa.out) hn hlen hmb).mono ?_
  rintro e w1 ⟨rfl, hb⟩
  have HB1 := HBa.out.trans hb
  have q0 := hb.cell hq0
  have q1 := hb.cell hq1
  clear hq0 hq1 hb
  go_wp2_with fail
  refine (of_any cap A n c l place ix _ (HS0.out.mono BlkR.mono HB1) hn hix).mono ?_
  rintro e w2 ⟨rfl, hb⟩
  have HB2 := HB1.trans hb
  have q0 := hb.cell q0
  have q1 := hb.cell q1
  clear hb HB1
  generalize w.heap.size = g at *
  cases mb
  · have HR : Hid ((v, who, has) = (0, 0, false)) := Lib.hid (by rw [← hr.out]; unfold fetchM; rw [if_neg (by rw [hmb.out]; simp)])
    obtain ⟨rfl, rfl, rfl⟩ : v = 0 ∧ who = 0 ∧ has = false := by have := HR.out; simp only [Prod.mk.injEq] at this; exact this
    go_wp2_with fail
    refine bodyPost_ret (v := .tuple #[.int .u64 0, .int .i64 0, .bool false]) ?_ rfl ⟨rfl, HB2⟩
    simp [results, Try.results23, go_sem]
  · have HOK : Hid (Ok ⟨cap, l⟩) := Lib.hid (mayM_iff.1 hmb.out)
    cases hb : blkOf l place with
    | none =>
      obtain rfl : ix = -1 := by rw [← hix.out]; exact HOK.out.of_none hp.out hb
      have HR : Hid ((v, who, has) = (0, 0, false)) := Lib.hid (by rw [← hr.out]; unfold fetchM; rw [if_pos hmb.out]; simp only [hb])
      obtain ⟨rfl, rfl, rfl⟩ : v = 0 ∧ who = 0 ∧ has = false := by have := HR.out; simp only [Prod.mk.injEq] at this; exact this
      go_wp2_with fail
      refine bodyPost_ret (v := .tuple #[.int .u64 0, .int .i64 0, .bool false]) ?_ rfl ⟨rfl, HB2⟩
      simp [results, Try.results23, go_sem]
    | some i =>
      obtain ⟨hi, h1, h2⟩ := (blkOf_some (m := ⟨cap, l⟩) HOK.out).1 hb
      simp only at hi h1 h2
      obtain ⟨z1, z2, z3, z4⟩ := HOK.out.bounds (i := i) (by simpa using hi)
      simp only at z1 z2 z3 z4
      obtain rfl : ix = (i : Int) := by rw [← hix.out]; exact HOK.out.of_some hp.out hb
      have e3 := hr.out
      unfold fetchM at e3
      rw [if_pos hmb.out] at e3
      simp only [hb, Prod.mk.injEq] at e3
      obtain ⟨e3, e4, rfl⟩ := e3
      have HSr := HS0.out.mono BlkR.mono HB2
      obtain ⟨b0, o0, rfl⟩ := HSr.addr (by omega)
      obtain ⟨A', c', d0, d1, d2, hsw, -, -⟩ := blk_cells HSr i hi
      have hin : i < n := by rw [← hn.out]; exact hi
      have hin2 : (i : Int) < n := by omega
      have i0 : 0 ≤ (i : Int) := by omega
      have hng : ¬ (i : Int) < 0 := by omega
      obtain ⟨kk, hkk⟩ : ∃ kk : Nat, place - (l[i]!).at' = kk := ⟨(place - (l[i]!).at').toNat, by omega⟩
      have eks : IntKind.i64.wrap (place - (l[i]!).at') = (kk : Int) := by rw [wrap_i64 (by omega) (by omega), hkk]
      have hkm : kk < (l[i]!).w.length := by omega
      obtain ⟨bw, ow, rfl, hcw⟩ := hsw.int_cell (by omega)
      have d4 := (hcw kk hkm).1
      rw [hkk, Int.toNat_natCast] at e3
      rw [e3] at d4
      rw [e4] at d0
      have hkm2 : (kk : Int) < ((l[i]!).w.length : Int) := by omega
      have kk0 : 0 ≤ (kk : Int) := by omega
      clear hcw hsw HSr e3 e4 h1 h2 hkk z1 z2 z3 z4
      generalize (l[i]!).w.length = m at *
      generalize (l[i]!).at' = ta at *
      go_wp2_with fail
      go_quiet (fail)
      go_wp2_with fail
      refine bodyPost_ret (v := .tuple #[.int .u64 v, .int .i64 who, .bool true]) ?_ rfl ⟨rfl, by repeat (first | exact HB2 | apply Bel.drew | apply Bel.drewN)⟩
      simp [results, Try.results23, go_sem]
set_option maxHeartbeats 1000000 in
theorem new13_any (room : Int) (w : World) :
    Calls Try.prog 26 #[.int .i64 room] w fun e w' => e = .returned (.tuple #[.agg #[.int .i64 (newC room), .slice none 0 0], .int .i64 (newE room)]) ∧ Bel w w' := by
  unfold newC newE roomB
  by_cases h0 : room < 0
  · rw [decide_eq_false (by omega)]
    go_enter Try.func26, Try.ntmps26
    go_wp2_with fail
    have c0 := cell_fresh w #[.int .i64 0, .slice none 0 0] 26 0 _ rfl
    have c1 := cell_fresh w #[.int .i64 0, .slice none 0 0] 26 1 _ rfl
    refine bodyPost_ret (v := .tuple #[.agg #[.int .i64 0, .slice none 0 0], .int .i64 1]) ?_ rfl ⟨rfl, (Bel.refl w).alloc _⟩
    simp [results, Try.results26, go_sem, c0, c1]
  · by_cases h1 : 1024 < room
    · rw [decide_eq_false (by omega)]
      have h0' : ¬ room < 0 := h0
      go_enter Try.func26, Try.ntmps26
      go_wp2_with fail
      have c0 := cell_fresh w #[.int .i64 0, .slice none 0 0] 26 0 _ rfl
      have c1 := cell_fresh w #[.int .i64 0, .slice none 0 0] 26 1 _ rfl
      refine bodyPost_ret (v := .tuple #[.agg #[.int .i64 0, .slice none 0 0], .int .i64 1]) ?_ rfl ⟨rfl, (Bel.refl w).alloc _⟩
      simp [results, Try.results26, go_sem, c0, c1]
    · rw [decide_eq_true (by omega)]
      have h0' : ¬ room < 0 := h0
      have h1' : ¬ 1024 < room := h1
      go_enter Try.func26, Try.ntmps26
      go_wp2_with fail
      have c0 := cell_fresh w #[.int .i64 room, .slice none 0 0] 26 0 _ rfl
      have c1 := cell_fresh w #[.int .i64 room, .slice none 0 0] 26 1 _ rfl
      refine bodyPost_ret (v := .tuple #[.agg #[.int .i64 room, .slice none 0 0], .int .i64 0]) ?_ rfl ⟨rfl, (Bel.refl w).alloc _⟩
      simp [results, Try.results26, go_sem, c0, c1]
end Go.Proofs.Ytegdnmlpoglfeaa
