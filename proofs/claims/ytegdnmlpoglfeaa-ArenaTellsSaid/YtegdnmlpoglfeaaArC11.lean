/- arena.word and arena.Fetch by their contracts. -/
import Derived.Test.YtegdnmlpoglfeaaArC9
set_option linter.unusedVariables false
set_option linter.unusedSimpArgs false
namespace Go.Proofs.Ytegdnmlpoglfeaa
open Go.RowKit

def wordP (place : Int) (b : BlkD) : Bool := decide (b.at' ≤ place) && decide (place < IntKind.i64.wrap (b.at' + (b.w.length : Int)))
def wordM (l : List BlkD) (place : Int) : Int × Int := match l.findIdx? (wordP place) with
  | some i => ((i : Int), IntKind.i64.wrap (place - (l[i]!).at'))
  | none => (-1, 0)
theorem wordM_hit {l : List BlkD} {place : Int} {k : Nat} (hk : k < l.length) (h : ∀ j, j < k → wordP place (l[j]!) = false) (hh : wordP place (l[k]!) = true) : wordM l place = ((k : Int), IntKind.i64.wrap (place - (l[k]!).at')) := by
  have e : l.findIdx? (wordP place) = some k := by
    rw [List.findIdx?_eq_some_iff_getElem]
    refine ⟨hk, by rw [← getElem!_pos l k hk]; exact hh, fun j hj => ?_⟩
    have := h j hj
    rw [getElem!_pos l j (by omega)] at this
    simp [this]
  unfold wordM
  rw [e]
theorem wordM_miss {l : List BlkD} {place : Int} (h : ∀ j, j < l.length → wordP place (l[j]!) = false) : wordM l place = (-1, 0) := by
  have e : l.findIdx? (wordP place) = none := by
    rw [List.findIdx?_eq_none_iff]
    intro b hb
    obtain ⟨i, hi, rfl⟩ := List.mem_iff_getElem.1 hb
    have := h i hi
    rwa [getElem!_pos l i hi] at this
  unfold wordM
  rw [e]
/-- Of a memory that may be. -/
theorem Ok.wordP_iff {m : MemD} (h : Ok m) {place : Int} {i : Nat} (hi : i < m.l.length) : wordP place (m.l[i]!) = decide ((m.l[i]!).at' ≤ place ∧ place < (m.l[i]!).at' + ((m.l[i]!).w.length : Int)) := by
  obtain ⟨h1, h2, h3, h4⟩ := h.bounds hi
  unfold wordP
  rw [wrap_i64 (by omega) (by omega), Bool.decide_and]
theorem Ok.word_some {m : MemD} (h : Ok m) {place : Int} {i : Nat} (hb : blkOf m.l place = some i) : wordM m.l place = ((i : Int), place - (m.l[i]!).at') := by
  obtain ⟨hi, h1, h2⟩ := (blkOf_some h).1 hb
  obtain ⟨b1, b2, b3, b4⟩ := h.bounds hi
  have e1 : ∀ j, j < i → wordP place (m.l[j]!) = false := fun j hj => by
    rw [h.wordP_iff (by omega)]
    refine decide_eq_false ?_
    have := h.rise i j hj hi
    omega
  have e2 : wordP place (m.l[i]!) = true := by rw [h.wordP_iff hi, decide_eq_true ⟨h1, h2⟩]
  rw [wordM_hit hi e1 e2, wrap_i64 (by omega) (by omega)]
theorem Ok.word_none {m : MemD} (h : Ok m) {place : Int} (hb : blkOf m.l place = none) : wordM m.l place = (-1, 0) :=
  wordM_miss fun j hj => by rw [h.wordP_iff hj]; exact decide_eq_false (blkOf_none.1 hb j hj)
set_option maxRecDepth 100000 in
set_option maxHeartbeats 4000000 in
theorem word_any (cap : Int) (A : Option Addr) (n c : Nat) (l : List BlkD) (place wi wk : Int) (w : World) (h : Sl BlkR 3 w A c l) (hn : Hid (l.length = n)) (hr : Hid (wordM l place = (wi, wk))) :
    Calls Try.prog 34 #[.agg #[.int .i64 cap, .slice A n c], .int .i64 place] w fun e w' => e = .returned (.tuple #[.int .i64 wi, .int .i64 wk]) ∧ Bel w w' := by
  have HS0 := Lib.hid h
  have HBIG : Hid (n ≤ 9223372036854775807) := Lib.hid (by rw [← hn.out]; have := h.le; have := h.big; simp only [maxLen] at this; omega)
  clear h
  have hq0 := cell_fresh w #[.int .i64 cap, .slice A n c] 26 0 (.int .i64 cap) rfl
  have hq1 := cell_fresh w #[.int .i64 cap, .slice A n c] 26 1 (.slice A n c) rfl
  have HBa := Lib.hid ((Bel.refl w).alloc (.cells #[.int .i64 cap, .slice A n c] 26))
  go_enter Try.func34, Try.ntmps34
  go_wp2_with fail
  generalize w.alloc (.cells #[.int .i64 cap, .slice A n c] 26) = W1 at *
  clear hq0 hq1
  go_loopw [11] (fun kv wr => ∃ k : Nat, kv = .int .i64 k ∧ k ≤ n ∧ Hid (∀ j, j < k → wordP place (l[j]!) = false) ∧ Bel W1 wr) (fun kv _ => n - (intOf kv).toNat)
  case atStart => exact ⟨0, rfl, Nat.zero_le _, Lib.hid (fun j hj => absurd hj (Nat.not_lt_zero _)), Bel.refl _⟩
  case round =>
    obtain ⟨k, rfl, hk, HT, hbk⟩ := hrel
    have HBw := HBa.out.trans hbk
    by_cases hkn : k = n
    · subst hkn
      have HR : Hid (wi = -1 ∧ wk = 0) := Lib.hid (by
        have := hr.out
        rw [wordM_miss (fun j hj => HT.out j (by rw [← hn.out]; exact hj))] at this
        cases this
        exact ⟨rfl, rfl⟩)
      go_wp2_with fail
      refine bodyPost_ret (v := .tuple #[.int .i64 (-1), .int .i64 0]) ?_ rfl ⟨by rw [HR.out.1, HR.out.2], HBw⟩
      simp [results, Try.results34, go_sem]
    · have hk1 : k < n := by omega
      have hk2 : (k : Int) < n := by omega
      have k0 : 0 ≤ (k : Int) := by omega
      have HKL : Hid (k < l.length) := Lib.hid (by rw [hn.out]; exact hk1)
      have HEK : Hid (IntKind.i64.wrap ((k : Int) + 1) = (k : Int) + 1) := Lib.hid (wrap_i64 (by omega) (by have := HBIG.out; omega))
      have HIT : Hid (wordP place (l[k]!) = true → wi = k ∧ wk = IntKind.i64.wrap (place - (l[k]!).at')) := Lib.hid (fun hh => by
        have := hr.out
        rw [wordM_hit HKL.out HT.out hh] at this
        cases this
        exact ⟨rfl, rfl⟩)
      have NXT : Hid (wordP place (l[k]!) = false → ∀ j, j < k + 1 → wordP place (l[j]!) = false) := Lib.hid (fun hh j hj => by
        by_cases e : j = k
        · subst e; exact hh
        · exact HT.out j (by omega))
      have HSr := HS0.out.mono BlkR.mono HBw
      obtain ⟨b0, o0, rfl⟩ := HSr.addr (by rw [hn.out]; omega)
      obtain ⟨A', c', d0, d1, d2, -, -, -⟩ := blk_cells HSr k HKL.out
      have hP : wordP place (l[k]!) = (decide ((l[k]!).at' ≤ place) && decide (place < IntKind.i64.wrap ((l[k]!).at' + ((l[k]!).w.length : Int)))) := rfl
      obtain ⟨pb, hpb⟩ : ∃ pb, Hid (wordP place (l[k]!) = pb) := ⟨_, Lib.hid rfl⟩
      rw [hpb.out] at hP HIT NXT
      generalize (l[k]!).at' = a at *
      generalize (l[k]!).w.length = m at *
      generalize (l[k]!).id = id at *
      have HP := Lib.hid hP
      have f0 := cell_fresh wr #[.int .i64 id, .int .i64 a, .slice A' m c'] 33 0 (.int .i64 id) rfl
      have f1 := cell_fresh wr #[.int .i64 id, .int .i64 a, .slice A' m c'] 33 1 (.int .i64 a) rfl
      have f2 := cell_fresh wr #[.int .i64 id, .int .i64 a, .slice A' m c'] 33 2 (.slice A' m c') rfl
      have HBOX := Lib.hid ((Bel.refl wr).alloc (.cells #[.int .i64 id, .int .i64 a, .slice A' m c'] 33))
      have HBK := Lib.hid hbk
      clear hkn hbk hP HSr
      have F0 := Lib.hid f0
      have F1 := Lib.hid f1
      have F2 := Lib.hid f2
      clear f0 f1 f2
      by_cases h1 : a ≤ place
      · obtain ⟨r, hre⟩ : ∃ r, Hid (IntKind.i64.wrap (a + (m : Int)) = r) := ⟨_, Lib.hid rfl⟩
        rw [hre.out, decide_eq_true h1, Bool.true_and] at HP
        go_wp2_with fail
        refine (end_any id a A' m c' _ r hre).mono ?_
        rintro e w5 ⟨rfl, hb5⟩
        have f1 := hb5.cell F1.out
        have HBX := HBOX.out.trans hb5
        have HBW5 := HBw.trans HBX
        have HBK5 := Lib.hid (HBK.out.trans HBX)
        clear hb5 HBX d0 d1 d2 HBw
        generalize wr.heap.size = gb at *
        by_cases h2 : place < r
        · have HW := HIT.out (by rw [HP.out, decide_eq_true h2])
          obtain ⟨rfl, hwk⟩ := HW
          have ek : IntKind.i64.wrap (place - a) = wk := hwk.symm
          clear HIT NXT hwk
          go_wp2_with fail
          go_quiet (fail)
          go_wp2_with fail
          refine bodyPost_ret (v := .tuple #[.int .i64 k, .int .i64 wk]) ?_ rfl ⟨rfl, by repeat (first | exact HBW5 | apply Bel.drew | apply Bel.drewN)⟩
          simp [results, Try.results34, go_sem]
        · have HN := Lib.hid (NXT.out (by rw [HP.out, decide_eq_false h2]))
          have ek := HEK.out
          clear HIT NXT
          go_wp2
          go_roundw
          case rel => exact ⟨k + 1, by simp, by omega, HN, HBK5.out⟩
          case measure => simp [intOf]; omega
      · rw [decide_eq_false h1, Bool.false_and] at HP
        have HN := Lib.hid (NXT.out HP.out)
        have ek := HEK.out
        have HBK5 := Lib.hid (HBK.out.trans HBOX.out)
        clear HIT NXT
        have f1 := F1.out
        go_wp2
        go_roundw
        case rel => exact ⟨k + 1, by simp, by omega, HN, HBK5.out⟩
        case measure => simp [intOf]; omega
set_option maxRecDepth 100000 in
set_option maxHeartbeats 4000000 in
theorem Fetch_any (cap : Int) (A : Option Addr) (n c : Nat) (l : List BlkD) (place v who : Int) (has : Bool) (w : World) (h : Sl BlkR 3 w A c l) (hn : Hid (l.length = n)) (hr : Hid (fetchM ⟨cap, l⟩ place = (v, who, has))) :
    Calls Try.prog 17 #[.agg #[.int .i64 cap, .slice A n c], .int .i64 place] w fun e w' => e = .returned (.tuple #[.int .u64 v, .int .i64 who, .bool has]) ∧ Bel w w' := by
  have HS0 := Lib.hid h
  clear h
  obtain ⟨mb, hmb⟩ : ∃ mb, Hid (mayM ⟨cap, l⟩ = mb) := ⟨_, Lib.hid rfl⟩
  obtain ⟨⟨wi, wk⟩, hw⟩ : ∃ p, Hid (wordM l place = p) := ⟨_, Lib.hid rfl⟩
  have hq0 := cell_fresh w #[.int .i64 cap, .slice A n c] 26 0 (.int .i64 cap) rfl
  have hq1 := cell_fresh w #[.int .i64 cap, .slice A n c] 26 1 (.slice A n c) rfl
  have HBa := Lib.hid ((Bel.refl w).alloc (.cells #[.int .i64 cap, .slice A n c] 26))
  go_enter Try.func17, Try.ntmps17
  go_wp2_with fail
  generalize w.alloc (.cells #[.int .i64 cap, .slice A n c] 26) = W1 at *
  refine (word_any cap A n c l place wi wk _ (HS0.out.mono BlkR.mono HBa.out) hn hw).mono ?_
  rintro e w1 ⟨rfl, hb⟩
  have HB1 := HBa.out.trans hb
  have q0 := hb.cell hq0
  have q1 := hb.cell hq1
  clear hq0 hq1 hb
  go_wp2_with fail
  refine (May_any cap A n c l mb _ (HS0.out.mono BlkR.mono HB1) hn hmb).mono ?_
  rintro e w2 ⟨rfl, hb⟩
  have HB2 := HB1.trans hb
  have q0 := hb.cell q0
  have q1 := hb.cell q1
  clear hb HB1
  generalize w.heap.size = g at *
  cases mb
  · have HR : Hid ((v, who, has) = (0, 0, false)) := Lib.hid (by rw [← hr.out]; unfold fetchM; rw [if_neg (by rw [hmb.out]; simp)])
    obtain ⟨rfl, rfl, rfl⟩ : v = 0 ∧ who = 0 ∧ has = false := by have := HR.out; simp only [Prod.mk.injEq] at this; exact this
    go_wp2_with fail
    refine bodyPost_ret (v := .tuple #[.int .u64 0, .int .i64 0, .bool false]) ?_ rfl ⟨rfl, HB2⟩
    simp [results, Try.results17, go_sem]
  · have HOK : Hid (Ok ⟨cap, l⟩) := Lib.hid (mayM_iff.1 hmb.out)
    cases hb : blkOf l place with
    | none =>
      have e1 := hw.out
      rw [HOK.out.word_none hb] at e1
      obtain ⟨rfl, rfl⟩ : wi = -1 ∧ wk = 0 := by simp only [Prod.mk.injEq] at e1; exact ⟨e1.1.symm, e1.2.symm⟩
      have HR : Hid ((v, who, has) = (0, 0, false)) := Lib.hid (by rw [← hr.out]; unfold fetchM; rw [if_pos hmb.out]; simp only [hb])
      obtain ⟨rfl, rfl, rfl⟩ : v = 0 ∧ who = 0 ∧ has = false := by have := HR.out; simp only [Prod.mk.injEq] at this; exact this
      clear e1
      go_wp2_with fail
      refine bodyPost_ret (v := .tuple #[.int .u64 0, .int .i64 0, .bool false]) ?_ rfl ⟨rfl, HB2⟩
      simp [results, Try.results17, go_sem]
    | some i =>
      obtain ⟨hi, h1, h2⟩ := (blkOf_some (m := ⟨cap, l⟩) HOK.out).1 hb
      simp only at hi h1 h2
      have e1 := hw.out
      rw [HOK.out.word_some hb] at e1
      simp only [Prod.mk.injEq] at e1
      obtain ⟨rfl, e2⟩ := e1
      have e3 := hr.out
      unfold fetchM at e3
      rw [if_pos hmb.out] at e3
      simp only [hb, Prod.mk.injEq] at e3
      obtain ⟨e3, e4, rfl⟩ := e3
      have HSr := HS0.out.mono BlkR.mono HB2
      obtain ⟨b0, o0, rfl⟩ := HSr.addr (by omega)
      obtain ⟨A', c', d0, -, d2, hsw, -, -⟩ := blk_cells HSr i hi
      have hin : i < n := by rw [← hn.out]; exact hi
      have hin2 : (i : Int) < n := by omega
      have i0 : 0 ≤ (i : Int) := by omega
      have hng : ¬ (i : Int) < 0 := by omega
      obtain ⟨kk, hkk⟩ : ∃ kk : Nat, wk = kk := ⟨wk.toNat, by omega⟩
      subst hkk
      have hkm : kk < (l[i]!).w.length := by omega
      obtain ⟨bw, ow, rfl, hcw⟩ := hsw.int_cell (by omega)
      have d4 := (hcw kk hkm).1
      rw [show (place - (l[i]!).at').toNat = kk by omega] at e3
      rw [e3] at d4
      rw [e4] at d0
      have hkm2 : (kk : Int) < ((l[i]!).w.length : Int) := by omega
      have kk0 : 0 ≤ (kk : Int) := by omega
      generalize (l[i]!).w.length = m at *
      clear hcw hsw HSr e2 e3 e4 h1 h2
      go_wp2_with fail
      go_quiet (fail)
      go_wp2_with fail
      refine bodyPost_ret (v := .tuple #[.int .u64 v, .int .i64 who, .bool true]) ?_ rfl ⟨rfl, by repeat (first | exact HB2 | apply Bel.drew | apply Bel.drewN)⟩
      simp [results, Try.results17, go_sem]
end Go.Proofs.Ytegdnmlpoglfeaa
