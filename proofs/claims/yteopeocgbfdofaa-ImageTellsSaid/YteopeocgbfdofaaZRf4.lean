/- The document's Find (chapter 13) by its contract: it is what arena's is. -/
import Derived.Test.YteopeocgbfdofaaZRf3
import Derived.Test.YteopeocgbfdofaaGLa
set_option linter.unusedVariables false
set_option linter.unusedSimpArgs false
namespace Go.Proofs.Yteopeocgbfdofaa
open Go.RowKit

/-- Where the first block that ends behind an address is. -/
theorem gap_at {m : MemD} (h : Ok m) {p : Int} (h0 : 0 ≤ p) (hc : p < m.cap) : ∀ i, i ≤ m.l.length → prevEnd m.l i ≤ p → ∃ j, j ≤ m.l.length ∧ prevEnd m.l j ≤ p ∧ (j = m.l.length ∨ (j < m.l.length ∧ p < prevEnd m.l (j + 1)))
  | i, hi, hp => by
    by_cases hl : i = m.l.length
    · exact ⟨i, hi, hp, .inl hl⟩
    · by_cases hn : p < prevEnd m.l (i + 1)
      · exact ⟨i, hi, hp, .inr ⟨by omega, hn⟩⟩
      · exact gap_at h h0 hc (i + 1) (by omega) (by omega)
termination_by i => m.l.length - i
theorem freeM_iff {m : MemD} (h : Ok m) {p n : Int} (hn : 1 ≤ n) : freeM m p n = true ↔ ∃ i, i ≤ m.l.length ∧ prevEnd m.l i ≤ p ∧ p + n ≤ nextAt m i := by
  unfold freeM
  rw [decide_eq_true_iff]
  constructor
  · rintro ⟨h0, h1, h2, h3⟩
    obtain ⟨j, hj, hp, hh⟩ := gap_at h h0 (by omega) 0 (Nat.zero_le _) (by unfold prevEnd; rw [if_pos rfl]; exact h0)
    refine ⟨j, hj, hp, ?_⟩
    rcases hh with rfl | ⟨hl, hq⟩
    · unfold nextAt
      rw [if_neg (Nat.lt_irrefl _)]
      omega
    · rw [prevEnd_succ] at hq
      have hb := (h.blk j hl).len
      unfold nextAt
      rw [if_pos hl]
      by_cases hlt : (m.l[j]!).at' < p + n
      · exfalso
        by_cases hle : (m.l[j]!).at' ≤ p
        · have := h3 0 (by omega)
          rw [Int.natCast_zero, Int.add_zero] at this
          rw [blkOf_none] at this
          exact this j hl ⟨hle, hq⟩
        · have := h3 ((m.l[j]!).at' - p).toNat (by omega)
          rw [show p + (((m.l[j]!).at' - p).toNat : Int) = (m.l[j]!).at' by omega] at this
          rw [blkOf_none] at this
          exact this j hl ⟨Int.le_refl _, by omega⟩
      · omega
  · rintro ⟨i, hi, h1, h2⟩
    have hp := (h.prev i hi).1
    have hx := (h.next hi).2
    refine ⟨by omega, by omega, by omega, fun k hk => h.gap_none hi (by omega) (by omega)⟩
theorem free_fits {m : MemD} (h : Ok m) {p n : Int} (hn : 1 ≤ n) : freeM m p n = fitsL p n (gapsL m) := by
  rw [Bool.eq_iff_iff, freeM_iff h hn, fits_iff h hn]
theorem find_first {m : MemD} (h : Ok m) {n : Int} (hn : 1 ≤ n) {k : Nat} (h1 : ∀ j : Nat, j < k → freeM m j n = false) (h2 : freeM m k n = true) : findM m n = ((k : Int), true) := by
  obtain ⟨j, hj, p1, p2⟩ := (freeM_iff h hn).1 h2
  rcases findM_cases h hn with ⟨i, hi, e, g1, g2⟩ | ⟨e, g⟩
  · have hp := (h.prev i hi).1
    have hf : freeM m (prevEnd m.l i) n = true := (freeM_iff h hn).2 ⟨i, hi, Int.le_refl _, g1⟩
    have c1 : ¬ prevEnd m.l i < k := fun hlt => by
      have := h1 (prevEnd m.l i).toNat (by omega)
      rw [Int.toNat_of_nonneg hp, hf] at this
      cases this
    have c2 : ¬ j < i := fun hlt => by
      have := g2 j hlt
      omega
    have c3 := h.prev_mono j i (by omega) hj
    rw [e, show prevEnd m.l i = (k : Int) by omega]
  · have := g j hj
    omega
theorem find_none {m : MemD} (h : Ok m) {n : Int} (hn : 1 ≤ n) (h1 : ∀ j : Nat, (j : Int) < m.cap → freeM m j n = false) : findM m n = (0, false) := by
  rcases findM_cases h hn with ⟨i, hi, e, g1, g2⟩ | ⟨e, g⟩
  · exfalso
    have hp := (h.prev i hi).1
    have hx := (h.next hi).2
    have hf : freeM m (prevEnd m.l i) n = true := (freeM_iff h hn).2 ⟨i, hi, Int.le_refl _, g1⟩
    have := h1 (prevEnd m.l i).toNat (by omega)
    rw [Int.toNat_of_nonneg hp, hf] at this
    cases this
  · exact e
theorem findM_not {m : MemD} {n : Int} (h : ¬ (mayM m = true ∧ 1 ≤ n)) : findM m n = (0, false) := by
  unfold findM
  rw [if_neg h]
set_option maxRecDepth 100000 in
set_option maxHeartbeats 4000000 in
theorem find13_out (cap : Int) (A : Option Addr) (nn c : Nat) (l : List BlkD) (n : Int) (r : Int) (rb : Bool) (w : World) (h : Sl BlkR 3 w A c l) (hn : Hid (l.length = nn)) (hlen : Hid (∀ i, i < l.length → (l[i]!).w.length ≤ 4000)) (hr : Hid (findM ⟨cap, l⟩ n = (r, rb))) :
    Calls Try.prog 39 #[.agg #[.int .i64 cap, .slice A nn c], .int .i64 n] w fun e w' => e = .returned (.tuple #[.int .i64 r, .bool rb]) ∧ Bel w w' := by
  have HS0 := Lib.hid h
  clear h
  obtain ⟨mb, hmb⟩ : ∃ mb, Hid (mayM ⟨cap, l⟩ = mb) := ⟨_, Lib.hid rfl⟩
  have KM := Lib.hid (Blk.new w 45 #[.int .i64 cap, .slice A nn c])
  have HBa := Lib.hid ((Bel.refl w).alloc (.cells #[.int .i64 cap, .slice A nn c] 45))
  have q0 := KM.out.cell 0 (v := .int .i64 cap) rfl
  have q1 := KM.out.cell 1 (v := .slice A nn c) rfl
  go_enter Try.func39, Try.ntmps39
  go_wp2_with fail
  generalize w.alloc (.cells #[.int .i64 cap, .slice A nn c] 45) = W1 at *
  generalize w.heap.size = g at *
  refine (may13_any cap A nn c l mb _ (HS0.out.mono BlkR.mono HBa.out) hn hlen hmb).mono ?_
  rintro e w1 ⟨rfl, hb1⟩
  have HB1 := Lib.hid (HBa.out.trans hb1)
  have KM1 := Lib.hid (KM.out.bel hb1)
  clear hb1 q0 q1
  by_cases hok : mb = true ∧ 1 ≤ n
  · obtain ⟨rfl, hn1⟩ := hok
    have HOK : Hid (Ok ⟨cap, l⟩) := Lib.hid (mayM_iff.1 hmb.out)
    have HCAP : Hid (cap ≤ 1024) := Lib.hid HOK.out.cap1
    go_wp2_with fail
    go_loopw [7] (fun kv wr => ∃ k : Nat, kv = .int .i64 k ∧ k ≤ cap.toNat ∧ Hid (∀ j : Nat, j < k → freeM ⟨cap, l⟩ j n = false) ∧ Hid (Bel w1 wr)) (fun kv _ => cap.toNat - (intOf kv).toNat)
    case atStart => exact ⟨0, rfl, Nat.zero_le _, Lib.hid (fun j hj => absurd hj (Nat.not_lt_zero _)), Lib.hid (Bel.refl _)⟩
    case round =>
      obtain ⟨k, rfl, hk, HT, hbk⟩ := hrel
      have HBw := Lib.hid (HB1.out.trans hbk.out)
      have q0 := (KM1.out.bel hbk.out).cell 0 (v := .int .i64 cap) rfl
      have q1 := (KM1.out.bel hbk.out).cell 1 (v := .slice A nn c) rfl
      by_cases hkc : cap ≤ (k : Int)
      · have HR : Hid (r = 0 ∧ rb = false) := Lib.hid (by
          have := hr.out
          rw [find_none HOK.out hn1 (fun j hj => HT.out j (by simp only at hj; omega))] at this
          cases this
          exact ⟨rfl, rfl⟩)
        obtain ⟨rfl, rfl⟩ := HR.out
        have d1 : ¬ (k : Int) < cap := by omega
        clear hkc hk
        go_wp2_with fail
        go_ret2
        exact ⟨rfl, HBw.out⟩
      have hkc2 : (k : Int) < cap := by omega
      have HKC := Lib.hid hkc2
      have ek : IntKind.i64.wrap ((k : Int) + 1) = (k : Int) + 1 := wrap_i64 (by omega) (by have := HCAP.out; omega)
      obtain ⟨fb, hfb⟩ : ∃ fb, Hid (freeM ⟨cap, l⟩ k n = fb) := ⟨_, Lib.hid rfl⟩
      clear hkc
      go_wp2_with fail
      refine (free_any cap A nn c l k n fb _ (HS0.out.mono BlkR.mono HBw.out) hn HOK hfb).mono ?_
      rintro e w3 ⟨rfl, hb3⟩
      have HB3 := Lib.hid (HBw.out.trans hb3)
      have HBK3 := Lib.hid (hbk.out.trans hb3)
      clear hb3 q0 q1
      cases fb
      · have HN : Hid (∀ j : Nat, j < k + 1 → freeM ⟨cap, l⟩ j n = false) := Lib.hid (fun j hj => by
          by_cases e : j = k
          · subst e; exact hfb.out
          · exact HT.out j (by omega))
        have HK2 : Hid (k + 1 ≤ cap.toNat) := Lib.hid (by have := HKC.out; omega)
        go_wp2
        go_roundw
        case rel => exact ⟨k + 1, by simp, HK2.out, HN, HBK3⟩
        case measure => have := HK2.out; simp [intOf]; omega
      · have HR : Hid (r = k ∧ rb = true) := Lib.hid (by
          have := hr.out
          rw [find_first HOK.out hn1 HT.out hfb.out] at this
          cases this
          exact ⟨rfl, rfl⟩)
        obtain ⟨rfl, rfl⟩ := HR.out
        go_wp2_with fail
        go_ret2
        exact ⟨rfl, HB3.out⟩
  · have HR : Hid (r = 0 ∧ rb = false) := Lib.hid (by
      have := hr.out
      rw [findM_not (by rw [hmb.out]; exact hok)] at this
      cases this
      exact ⟨rfl, rfl⟩)
    obtain ⟨rfl, rfl⟩ := HR.out
    go_wp2_with fail
    go_loopw [7] (fun kv wr => kv = .int .i64 0 ∧ Hid (Bel w1 wr)) (fun kv _ => 0)
    case atStart => exact ⟨rfl, Lib.hid (Bel.refl _)⟩
    case round =>
      obtain ⟨rfl, hbk⟩ := hrel
      have HBw := Lib.hid (HB1.out.trans hbk.out)
      have q0 := (KM1.out.bel hbk.out).cell 0 (v := .int .i64 cap) rfl
      by_cases c0 : 0 < cap
      · cases mb
        · go_wp2_with fail
          go_ret2
          exact ⟨rfl, HBw.out⟩
        · have hn1 : ¬ 1 ≤ n := fun h => hok ⟨rfl, h⟩
          clear hok
          go_wp2_with fail
          go_ret2
          exact ⟨rfl, HBw.out⟩
      · clear hok
        go_wp2_with fail
        go_ret2
        exact ⟨rfl, HBw.out⟩
end Go.Proofs.Yteopeocgbfdofaa
