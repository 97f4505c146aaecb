/- arena.word and arena.Fetch by their contracts. arena.Drop and arena.Patch by their contracts. arena.Patch by its contract. -/
import Derived.Test.YteopeocgbfdofaaGCb
import Derived.Test.YteopeocgbfdofaaGHe
set_option linter.unusedVariables false
set_option linter.unusedSimpArgs false
namespace Go.Proofs.Yteopeocgbfdofaa
open Go.RowKit

def wordP (place : Int) (b : BlkD) : Bool := decide (b.at' ≤ place) && decide (place < IntKind.i64.wrap (b.at' + (b.w.length : Int)))
def wordM (l : List BlkD) (place : Int) : Int × Int := match l.findIdx? (wordP place) with
  | some i => ((i : Int), IntKind.i64.wrap (place - (l[i]!).at'))
  | none => (-1, 0)
theorem wordM_hit {l : List BlkD} {place : Int} {k : Nat} (hk : k < l.length) (h : ∀ j, j < k → wordP place (l[j]!) = false) (hh : wordP place (l[k]!) = true) : wordM l place = ((k : Int), IntKind.i64.wrap (place - (l[k]!).at')) := by
  have e : l.findIdx? (wordP place) = some k := by
    rw [List.findIdx?_eq_some_iff_getElem]
    refine ⟨hk, by rw [← getElem!_pos l k hk]; exact hh, fun j hj => ?_⟩
    have := h j hj
    rw [getElem!_pos l j (by omega)] at this
    simp [this]
  unfold wordM
  rw [e]
theorem wordM_miss {l : List BlkD} {place : Int} (h : ∀ j, j < l.length → wordP place (l[j]!) = false) : wordM l place = (-1, 0) := by
  have e : l.findIdx? (wordP place) = none := by
    rw [List.findIdx?_eq_none_iff]
    intro b hb
    obtain ⟨i, hi, rfl⟩ := List.mem_iff_getElem.1 hb
    have := h i hi
    rwa [getElem!_pos l i hi] at this
  unfold wordM
  rw [e]
/-- Of a memory that may be. -/
theorem Ok.wordP_iff {m : MemD} (h : Ok m) {place : Int} {i : Nat} (hi : i < m.l.length) : wordP place (m.l[i]!) = decide ((m.l[i]!).at' ≤ place ∧ place < (m.l[i]!).at' + ((m.l[i]!).w.length : Int)) := by
  obtain ⟨h1, h2, h3, h4⟩ := h.bounds hi
  unfold wordP
  rw [wrap_i64 (by omega) (by omega), Bool.decide_and]
theorem Ok.word_some {m : MemD} (h : Ok m) {place : Int} {i : Nat} (hb : blkOf m.l place = some i) : wordM m.l place = ((i : Int), place - (m.l[i]!).at') := by
  obtain ⟨hi, h1, h2⟩ := (blkOf_some h).1 hb
  obtain ⟨b1, b2, b3, b4⟩ := h.bounds hi
  have e1 : ∀ j, j < i → wordP place (m.l[j]!) = false := fun j hj => by
    rw [h.wordP_iff (by omega)]
    refine decide_eq_false ?_
    have := h.rise i j hj hi
    omega
  have e2 : wordP place (m.l[i]!) = true := by rw [h.wordP_iff hi, decide_eq_true ⟨h1, h2⟩]
  rw [wordM_hit hi e1 e2, wrap_i64 (by omega) (by omega)]
theorem Ok.word_none {m : MemD} (h : Ok m) {place : Int} (hb : blkOf m.l place = none) : wordM m.l place = (-1, 0) :=
  wordM_miss fun j hj => by rw [h.wordP_iff hj]; exact decide_eq_false (blkOf_none.1 hb j hj)
set_option maxRecDepth 100000 in
set_option maxHeartbeats 4000000 in
theorem word_any (cap : Int) (A : Option Addr) (n c : Nat) (l : List BlkD) (place wi wk : Int) (w : World) (h : Sl BlkR 3 w A c l) (hn : Hid (l.length = n)) (hr : Hid (wordM l place = (wi, wk))) :
    Calls Try.prog 31 #[.agg #[.int .i64 cap, .slice A n c], .int .i64 place] w fun e w' => e = .returned (.tuple #[.int .i64 wi, .int .i64 wk]) ∧ Bel w w' := by
  have HS0 := Lib.hid h
  have HBIG : Hid (n ≤ 9223372036854775807) := Lib.hid (by rw [← hn.out]; have := h.le; have := h.big; simp only [maxLen] at this; omega)
  clear h
  have hq0 := cell_fresh w #[.int .i64 cap, .slice A n c] 45 0 (.int .i64 cap) rfl
  have hq1 := cell_fresh w #[.int .i64 cap, .slice A n c] 45 1 (.slice A n c) rfl
  have HBa := Lib.hid ((Bel.refl w).alloc (.cells #[.int .i64 cap, .slice A n c] 45))
  go_enter Try.func31, Try.ntmps31
  go_wp2_with fail
  generalize w.alloc (.cells #[.int .i64 cap, .slice A n c] 45) = W1 at *
  clear hq0 hq1
  go_loopw [11] (fun kv wr => ∃ k : Nat, kv = .int .i64 k ∧ k ≤ n ∧ Hid (∀ j, j < k → wordP place (l[j]!) = false) ∧ Bel W1 wr) (fun kv _ => n - (intOf kv).toNat)
  case atStart => exact ⟨0, rfl, Nat.zero_le _, Lib.hid (fun j hj => absurd hj (Nat.not_lt_zero _)), Bel.refl _⟩
  case round =>
    obtain ⟨k, rfl, hk, HT, hbk⟩ := hrel
    have HBw := HBa.out.trans hbk
    by_cases hkn : k = n
    · subst hkn
      have HR : Hid (wi = -1 ∧ wk = 0) := Lib.hid (by
        have := hr.out
        rw [wordM_miss (fun j hj => HT.out j (by rw [← hn.out]; exact hj))] at this
        cases this
        exact ⟨rfl, rfl⟩)
      go_wp2_with fail
      refine bodyPost_ret (v := .tuple #[.int .i64 (-1), .int .i64 0]) ?_ rfl ⟨by rw [HR.out.1, HR.out.2], HBw⟩
      simp [results, Try.results31, go_sem]
    · have hk1 : k < n := by omega
      have hk2 : (k : Int) < n := by omega
      have k0 : 0 ≤ (k : Int) := by omega
      have HKL : Hid (k < l.length) := Lib.hid (by rw [hn.out]; exact hk1)
      have HEK : Hid (IntKind.i64.wrap ((k : Int) + 1) = (k : Int) + 1) := Lib.hid (wrap_i64 (by omega) (by have := HBIG.out; omega))
      have HIT : Hid (wordP place (l[k]!) = true → wi = k ∧ wk = IntKind.i64.wrap (place - (l[k]!).at')) := Lib.hid (fun hh => by
        have := hr.out
        rw [wordM_hit HKL.out HT.out hh] at this
        cases this
        exact ⟨rfl, rfl⟩)
      have NXT : Hid (wordP place (l[k]!) = false → ∀ j, j < k + 1 → wordP place (l[j]!) = false) := Lib.hid (fun hh j hj => by
        by_cases e : j = k
        · subst e; exact hh
        · exact HT.out j (by omega))
      have HSr := HS0.out.mono BlkR.mono HBw
      obtain ⟨b0, o0, rfl⟩ := HSr.addr (by rw [hn.out]; omega)
      obtain ⟨A', c', d0, d1, d2, -, -, -⟩ := blk_cells HSr k HKL.out
      have hP : wordP place (l[k]!) = (decide ((l[k]!).at' ≤ place) && decide (place < IntKind.i64.wrap ((l[k]!).at' + ((l[k]!).w.length : Int)))) := rfl
      obtain ⟨pb, hpb⟩ : ∃ pb, Hid (wordP place (l[k]!) = pb) := ⟨_, Lib.hid rfl⟩
      rw [hpb.out] at hP HIT NXT
      generalize (l[k]!).at' = a at *
      generalize (l[k]!).w.length = m at *
      generalize (l[k]!).id = id at *
      have HP := Lib.hid hP
      have f0 := cell_fresh wr #[.int .i64 id, .int .i64 a, .slice A' m c'] 69 0 (.int .i64 id) rfl
      have f1 := cell_fresh wr #[.int .i64 id, .int .i64 a, .slice A' m c'] 69 1 (.int .i64 a) rfl
      have f2 := cell_fresh wr #[.int .i64 id, .int .i64 a, .slice A' m c'] 69 2 (.slice A' m c') rfl
      have HBOX := Lib.hid ((Bel.refl wr).alloc (.cells #[.int .i64 id, .int .i64 a, .slice A' m c'] 69))
      have HBK := Lib.hid hbk
      clear hkn hbk hP HSr
      have F0 := Lib.hid f0
      have F1 := Lib.hid f1
      have F2 := Lib.hid f2
      clear f0 f1 f2
      by_cases h1 : a ≤ place
      · obtain ⟨r, hre⟩ : ∃ r, Hid (IntKind.i64.wrap (a + (m : Int)) = r) := ⟨_, Lib.hid rfl⟩
        rw [hre.out, decide_eq_true h1, Bool.true_and] at HP
        go_wp2_with fail
        refine (end_any id a A' m c' _ r hre).mono ?_
        rintro e w5 ⟨rfl, hb5⟩
        have f1 := hb5.cell F1.out
        have HBX := HBOX.out.trans hb5
        have HBW5 := HBw.trans HBX
        have HBK5 := Lib.hid (HBK.out.trans HBX)
        clear hb5 HBX d0 d1 d2 HBw
        generalize wr.heap.size = gb at *
        by_cases h2 : place < r
        · have HW := HIT.out (by rw [HP.out, decide_eq_true h2])
          obtain ⟨rfl, hwk⟩ := HW
          have ek : IntKind.i64.wrap (place - a) = wk := hwk.symm
          clear HIT NXT hwk
          go_wp2_with fail
          go_quiet (fail)
          go_wp2_with fail
          refine bodyPost_ret (v := .tuple #[.int .i64 k, .int .i64 wk]) ?_ rfl ⟨rfl, by repeat (first | exact HBW5 | apply Bel.drew | apply Bel.drewN)⟩
          simp [results, Try.results31, go_sem]
        · have HN := Lib.hid (NXT.out (by rw [HP.out, decide_eq_false h2]))
          have ek := HEK.out
          clear HIT NXT
          go_wp2
          go_roundw
          case rel => exact ⟨k + 1, by simp, by omega, HN, HBK5.out⟩
          case measure => simp [intOf]; omega
      · rw [decide_eq_false h1, Bool.false_and] at HP
        have HN := Lib.hid (NXT.out HP.out)
        have ek := HEK.out
        have HBK5 := Lib.hid (HBK.out.trans HBOX.out)
        clear HIT NXT
        have f1 := F1.out
        go_wp2
        go_roundw
        case rel => exact ⟨k + 1, by simp, by omega, HN, HBK5.out⟩
        case measure => simp [intOf]; omega
set_option maxRecDepth 100000 in
set_option maxHeartbeats 4000000 in
theorem Fetch_any (cap : Int) (A : Option Addr) (n c : Nat) (l : List BlkD) (place v who : Int) (has : Bool) (w : World) (h : Sl BlkR 3 w A c l) (hn : Hid (l.length = n)) (hr : Hid (fetchM ⟨cap, l⟩ place = (v, who, has))) :
    Calls Try.prog 14 #[.agg #[.int .i64 cap, .slice A n c], .int .i64 place] w fun e w' => e = .returned (.tuple #[.int .u64 v, .int .i64 who, .bool has]) ∧ Bel w w' := by
  have HS0 := Lib.hid h
  clear h
  obtain ⟨mb, hmb⟩ : ∃ mb, Hid (mayM ⟨cap, l⟩ = mb) := ⟨_, Lib.hid rfl⟩
  obtain ⟨⟨wi, wk⟩, hw⟩ : ∃ p, Hid (wordM l place = p) := ⟨_, Lib.hid rfl⟩
  have hq0 := cell_fresh w #[.int .i64 cap, .slice A n c] 45 0 (.int .i64 cap) rfl
  have hq1 := cell_fresh w #[.int .i64 cap, .slice A n c] 45 1 (.slice A n c) rfl
  have HBa := Lib.hid ((Bel.refl w).alloc (.cells #[.int .i64 cap, .slice A n c] 45))
  go_enter Try.func14, Try.ntmps14
  go_wp2_with fail
  generalize w.alloc (.cells #[.int .i64 cap, .slice A n c] 45) = W1 at *
  refine (word_any cap A n c l place wi wk _ (HS0.out.mono BlkR.mono HBa.out) hn hw).mono ?_
  rintro e w1 ⟨rfl, hb⟩
  have HB1 := HBa.out.trans hb
  have q0 := hb.cell hq0
  have q1 := hb.cell hq1
  clear hq0 hq1 hb
  go_wp2_with fail
  refine (May_any cap A n c l mb _ (HS0.out.mono BlkR.mono HB1) hn hmb).mono ?_
  rintro e w2 ⟨rfl, hb⟩
  have HB2 := HB1.trans hb
  have q0 := hb.cell q0
  have q1 := hb.cell q1
  clear hb HB1
  generalize w.heap.size = g at *
  cases mb
  · have HR : Hid ((v, who, has) = (0, 0, false)) := Lib.hid (by rw [← hr.out]; unfold fetchM; rw [if_neg (by rw [hmb.out]; simp)])
    obtain ⟨rfl, rfl, rfl⟩ : v = 0 ∧ who = 0 ∧ has = false := by have := HR.out; simp only [Prod.mk.injEq] at this; exact this
    go_wp2_with fail
    refine bodyPost_ret (v := .tuple #[.int .u64 0, .int .i64 0, .bool false]) ?_ rfl ⟨rfl, HB2⟩
    simp [results, Try.results14, go_sem]
  · have HOK : Hid (Ok ⟨cap, l⟩) := Lib.hid (mayM_iff.1 hmb.out)
    cases hb : blkOf l place with
    | none =>
      have e1 := hw.out
      rw [HOK.out.word_none hb] at e1
      obtain ⟨rfl, rfl⟩ : wi = -1 ∧ wk = 0 := by simp only [Prod.mk.injEq] at e1; exact ⟨e1.1.symm, e1.2.symm⟩
      have HR : Hid ((v, who, has) = (0, 0, false)) := Lib.hid (by rw [← hr.out]; unfold fetchM; rw [if_pos hmb.out]; simp only [hb])
      obtain ⟨rfl, rfl, rfl⟩ : v = 0 ∧ who = 0 ∧ has = false := by have := HR.out; simp only [Prod.mk.injEq] at this; exact this
      clear e1
      go_wp2_with fail
      refine bodyPost_ret (v := .tuple #[.int .u64 0, .int .i64 0, .bool false]) ?_ rfl ⟨rfl, HB2⟩
      simp [results, Try.results14, go_sem]
    | some i =>
      obtain ⟨hi, h1, h2⟩ := (blkOf_some (m := ⟨cap, l⟩) HOK.out).1 hb
      simp only at hi h1 h2
      have e1 := hw.out
      rw [HOK.out.word_some hb] at e1
      simp only [Prod.mk.injEq] at e1
      obtain ⟨rfl, e2⟩ := e1
      have e3 := hr.out
      unfold fetchM at e3
      rw [if_pos hmb.out] at e3
      simp only [hb, Prod.mk.injEq] at e3
      obtain ⟨e3, e4, rfl⟩ := e3
      have HSr := HS0.out.mono BlkR.mono HB2
      obtain ⟨b0, o0, rfl⟩ := HSr.addr (by omega)
      obtain ⟨A', c', d0, -, d2, hsw, -, -⟩ := blk_cells HSr i hi
      have hin : i < n := by rw [← hn.out]; exact hi
      have hin2 : (i : Int) < n := by omega
      have i0 : 0 ≤ (i : Int) := by omega
      have hng : ¬ (i : Int) < 0 := by omega
      obtain ⟨kk, hkk⟩ : ∃ kk : Nat, wk = kk := ⟨wk.toNat, by omega⟩
      subst hkk
      have hkm : kk < (l[i]!).w.length := by omega
      obtain ⟨bw, ow, rfl, hcw⟩ := hsw.int_cell (by omega)
      have d4 := (hcw kk hkm).1
      rw [show (place - (l[i]!).at').toNat = kk by omega] at e3
      rw [e3] at d4
      rw [e4] at d0
      have hkm2 : (kk : Int) < ((l[i]!).w.length : Int) := by omega
      have kk0 : 0 ≤ (kk : Int) := by omega
      generalize (l[i]!).w.length = m at *
      clear hcw hsw HSr e2 e3 e4 h1 h2
      go_wp2_with fail
      go_quiet (fail)
      go_wp2_with fail
      refine bodyPost_ret (v := .tuple #[.int .u64 v, .int .i64 who, .bool true]) ?_ rfl ⟨rfl, by repeat (first | exact HB2 | apply Bel.drew | apply Bel.drewN)⟩
      simp [results, Try.results14, go_sem]
end Go.Proofs.Yteopeocgbfdofaa
set_option linter.unusedVariables false
set_option linter.unusedSimpArgs false
namespace Go.Proofs.Yteopeocgbfdofaa
open Go.RowKit

def del (l : List BlkD) (i : Nat) : List BlkD := l.take i ++ l.drop (i + 1)
theorem del_length {l : List BlkD} {i : Nat} (hi : i < l.length) : (del l i).length = l.length - 1 := by
  unfold del
  rw [List.length_append, List.length_take, List.length_drop]
  omega
theorem del_get {l : List BlkD} {i : Nat} (hi : i < l.length) (j : Nat) : (del l i)[j]! = if j < i then l[j]! else l[j + 1]! := by
  unfold del
  simp only [List.getElem!_eq_getElem?_getD]
  rw [List.getElem?_append, List.length_take, Nat.min_eq_left (by omega)]
  by_cases h1 : j < i
  · rw [if_pos h1, if_pos h1, List.getElem?_take, if_pos h1]
  · rw [if_neg h1, if_neg h1, List.getElem?_drop, show i + 1 + (j - i) = j + 1 by omega]
def dropM (m : MemD) (id : Int) : MemD × Int := if mayM m = true then (if idxR m.l id < 0 then (⟨0, []⟩, 3) else (⟨m.cap, del m.l (idxR m.l id).toNat⟩, 0)) else (⟨0, []⟩, 1)
def patchM (m : MemD) (place v : Int) : MemD × Int := if mayM m = true then (match blkOf m.l place with | some i => (⟨m.cap, m.l.set i ⟨(m.l[i]!).id, (m.l[i]!).at', (m.l[i]!).w.set (place - (m.l[i]!).at').toNat v⟩⟩, 0) | none => (⟨0, []⟩, 3)) else (⟨0, []⟩, 1)
theorem drop_sl {w0 W : World} {D c : Nat} {l : List BlkD} {A : Nat → Option Addr} {cc : Nat → Nat} (h : OwnB w0 W D c l l.length A cc) (hwf : ∀ i, i < l.length → (Lit.int .i64 (l[i]!).id).wf = true ∧ (Lit.int .i64 (l[i]!).at').wf = true)
    {i : Nat} (hi : i < l.length) {D9 c9 : Nat} (hc1 : l.length - 1 ≤ c9) (hc2 : c9 ≤ maxLen)
    (hcells : ∀ q u, (rowL l A cc 0 i ++ rowL l A cc (i + 1) (l.length - (i + 1)))[q]? = some u → W.cell? ⟨D9, q, none⟩ = some u) : Sl BlkR 3 W (some ⟨D9, 0, none⟩) c9 (del l i) := by
  refine rows_sl (by rw [del_length hi]; exact hc1) hc2 fun j hj => ?_
  rw [del_length hi] at hj
  have e := del_get hi j
  by_cases h1 : j < i
  · rw [if_pos h1] at e
    rw [e]
    obtain ⟨g', e1, -, -, -, e5⟩ := h.own j (by omega) (by omega)
    refine ⟨g', cc j, fun q v hv => hcells _ _ ?_, e5, hwf j (by omega)⟩
    have hq : q < 3 := (List.getElem?_eq_some_iff.1 hv).1
    rw [List.getElem?_append_left (by rw [rowL_len]; omega), rowL_get l A cc 0 i h1 hq, Nat.zero_add, e1]
    exact hv
  · rw [if_neg h1] at e
    rw [e]
    obtain ⟨g', e1, -, -, -, e5⟩ := h.own (j + 1) (by omega) (by omega)
    refine ⟨g', cc (j + 1), fun q v hv => hcells _ _ ?_, e5, hwf (j + 1) (by omega)⟩
    have hq : q < 3 := (List.getElem?_eq_some_iff.1 hv).1
    rw [List.getElem?_append_right (by rw [rowL_len]; omega), rowL_len, show j * 3 + q - i * 3 = (j - i) * 3 + q by omega, rowL_get l A cc (i + 1) _ (by omega) hq, show i + 1 + (j - i) = j + 1 by omega, e1]
    exact hv
/-- 'append(l[:i:i], l[i+1:]...)'. -/
theorem appB_drop (ty : TypeId) {b0 : Nat} {W0 W : World} {D c n : Nat} {l : List BlkD} {A : Nat → Option Addr} {cc : Nat → Nat} (h : RowB b0 W0 D c l A cc) (hb : Bel W0 W) (hn : l.length = n) (hs : n ≤ 4096) {i : Nat} (hi : i < n) (hb0 : b0 ≤ W0.heap.size) :
    ∃ v' w', (Builtin.append_ #[43, 43] ty #[.slice (some ⟨D, 0, none⟩) i i, .slice (if c = i + 1 then some ⟨D, 0, none⟩ else some ⟨D, (i + 1) * 3, none⟩) (n - (i + 1)) (c - (i + 1))]).run Try.prog W = .ok v' w' ∧ ∃ g cg, v' = .slice (some ⟨g, 0, none⟩) (i + (n - (i + 1))) cg ∧ b0 ≤ g ∧ g < w'.heap.size ∧ i + (n - (i + 1)) ≤ cg ∧ cg ≤ maxLen ∧ (∀ j u, (rowL l A cc 0 i ++ rowL l A cc (i + 1) (n - (i + 1)))[j]? = some u → w'.cell? ⟨g, j, none⟩ = some u) ∧ Bel W w' := by
  have holds := olds_of (A := A) (cc := cc) h hb (k := i) (by omega)
  have hle := h.le
  obtain ⟨hz1, hz2⟩ := news_if (i := i + 1) (k := n - (i + 1)) h hb (by omega) (p := c = i + 1) (by omega)
  obtain ⟨ad, had⟩ : ∃ ad, (if c = i + 1 then some (⟨D, 0, none⟩ : Addr) else some ⟨D, (i + 1) * 3, none⟩) = some ad := by
    split
    · exact ⟨_, rfl⟩
    · exact ⟨_, rfl⟩
  have hnews := hz2 ad had
  rw [had]
  by_cases h0 : n - (i + 1) = 0
  · obtain ⟨i0, hi0, hzz⟩ := Option.map_eq_some_iff.1 info_Block
    rw [h0]
    have hr := run_append_room_cells (P := Try.prog) W 43 ty 69 i0 Try.underlying43 hi0 D 0 i i ad 0 (c - (i + 1)) [] (by simp) (by intro j u hu; simp at hu) (by intro u hu; cases hu) (Nat.le_refl _) (by intro j hj; simp at hj) (by intro j hj; simp at hj)
    refine ⟨_, _, hr, D, i, rfl, h.D0, Nat.lt_of_lt_of_le h.lt hb.size, Nat.le_refl _, by simp only [maxLen]; omega, fun j u hu => ?_, Bel.refl _⟩
    rw [show rowL l A cc (i + 1) 0 = [] from rfl, List.append_nil] at hu
    have := holds _ rfl j u hu
    rw [Addr.add_lit, Nat.zero_add] at this
    exact this
  · obtain ⟨v', w', hr, g, cg, h1, h2, h3, h4, h5, h6, h7⟩ := appB_grow ty W (some ⟨D, 0, none⟩) i i (fun h => by cases h) (rowL l A cc 0 i) (rowL_len _ _ _ _ _) holds ad (n - (i + 1)) (c - (i + 1)) (rowL l A cc (i + 1) (n - (i + 1))) (rowL_len _ _ _ _ _) hnews (rowL_one _ _ _ _ _) (by omega) (by omega)
    exact ⟨v', w', hr, g, cg, h1, Nat.le_trans hb0 (Nat.le_trans hb.size h2), h3, h4, h5, h6, h7⟩
theorem idxR_range (l : List BlkD) (id : Int) : idxR l id < 0 ∨ ∃ i : Nat, idxR l id = i ∧ i < l.length := by
  have key : ∀ (zs : List BlkD) (k : Nat), Lib.idxByFrom (fun _ (b : BlkD) => decide (b.id = id)) default zs k < 0 ∨ ∃ i : Nat, Lib.idxByFrom (fun _ (b : BlkD) => decide (b.id = id)) default zs k = ((k + i : Nat) : Int) ∧ i < zs.length := by
    intro zs
    induction zs with
    | nil => intro k; left; simp [Lib.idxByFrom]
    | cons z zs ih =>
      intro k
      simp only [Lib.idxByFrom]
      split
      · right; exact ⟨0, by simp, by simp⟩
      · rcases ih (k + 1) with h | ⟨i, h1, h2⟩
        · left; exact h
        · right; exact ⟨i + 1, by rw [h1]; congr 1; omega, by simpa using h2⟩
  rcases key l 0 with h | ⟨i, h1, h2⟩
  · exact .inl h
  · exact .inr ⟨i, by unfold idxR Lib.idxBy; rw [h1]; simp, h2⟩
/-- The cells of a result that was stored whole. -/
theorem res_two {W : World} {B : Nat} {t : TypeId} {a b : Value} (h : Blk W B t #[a, b]) (x v : Value) :
    ((W.setCell ⟨B, 0, none⟩ x).setCell ⟨B, 1, none⟩ v).cell? ⟨B, 0, none⟩ = some x ∧ ((W.setCell ⟨B, 0, none⟩ x).setCell ⟨B, 1, none⟩ v).cell? ⟨B, 1, none⟩ = some v :=
  ⟨((h.set 0 x).set 1 v).cell 0 rfl, ((h.set 0 x).set 1 v).cell 1 rfl⟩
end Go.Proofs.Yteopeocgbfdofaa
set_option linter.unusedVariables false
set_option linter.unusedSimpArgs false
namespace Go.Proofs.Yteopeocgbfdofaa
open Go.RowKit

/-- A block with one word changed. -/
def setB (b : BlkD) (k : Nat) (v : Int) : BlkD := ⟨b.id, b.at', b.w.set k v⟩
theorem set_get! {l : List BlkD} {i : Nat} (hi : i < l.length) (b : BlkD) (j : Nat) : (l.set i b)[j]! = if j = i then b else l[j]! := by
  simp only [List.getElem!_eq_getElem?_getD]
  rw [List.getElem?_set]
  by_cases e : i = j
  · subst e
    rw [if_pos rfl, if_pos rfl, if_pos hi]
    rfl
  · rw [if_neg e, if_neg (Ne.symm e)]
theorem OwnB.patch {w0 W : World} {D c : Nat} {l : List BlkD} {A : Nat → Option Addr} {cc : Nat → Nat} (h : OwnB w0 W D c l l.length A cc) {i g k : Nat} (hi : i < l.length) (hg : A i = some ⟨g, 0, none⟩) (hgD : g ≠ D) (hk : k < (l[i]!).w.length) {v : Int} (hv : (Lit.int .u64 v).wf = true) :
    OwnB w0 (W.setCell ⟨g, k, none⟩ (.int .u64 v)) D c (l.set i (setB (l[i]!) k v)) (l.set i (setB (l[i]!) k v)).length A cc := by
  have hlen : (l.set i (setB (l[i]!) k v)).length = l.length := List.length_set
  have hget := set_get! hi (setB (l[i]!) k v)
  rw [hlen]
  have hid : ∀ j : Nat, ((l.set i (setB (l[i]!) k v))[j]!).id = (l[j]!).id ∧ ((l.set i (setB (l[i]!) k v))[j]!).at' = (l[j]!).at' ∧ ((l.set i (setB (l[i]!) k v))[j]!).w.length = (l[j]!).w.length := fun j => by
    rw [hget]
    split
    · rename_i e; subst e; exact ⟨rfl, rfl, List.length_set⟩
    · exact ⟨rfl, rfl, rfl⟩
  have hne : ∀ q, (W.setCell ⟨g, k, none⟩ (.int .u64 v)).cell? ⟨D, q, none⟩ = W.cell? ⟨D, q, none⟩ := fun q => World.cell?_of_block (a := ⟨D, q, none⟩) (setCell_heap_ne W _ (Ne.symm hgD))
  refine ⟨⟨h.row.D0, by rw [setCell_size]; exact h.row.lt, by rw [hlen]; exact h.row.le, h.row.big, fun q => by rw [World.frozen?_setCell]; exact h.row.frz q, fun j hj => ?_⟩, fun j hj hlj => ?_, fun j hj hlj => ?_, fun a b hab hb hbl => h.ne a b hab (by omega) hbl⟩
  · rw [hlen] at hj
    obtain ⟨e1, e2, e3⟩ := h.row.cells j hj
    obtain ⟨f1, f2, f3⟩ := hid j
    rw [f1, f2, f3, hne, hne, hne]
    exact ⟨e1, e2, e3⟩
  · omega
  · obtain ⟨g', e1, e2, e3, e4, e5⟩ := h.own j hlj hlj
    refine ⟨g', e1, e2, by rw [setCell_size]; exact e3, e4, ?_⟩
    rw [hget]
    by_cases e : j = i
    · subst e
      rw [if_pos rfl]
      obtain rfl : g' = g := by rw [hg] at e1; cases e1; rfl
      exact e5.set hk hv
    · rw [if_neg e]
      have hgg : g' ≠ g := fun hh => by
        subst hh
        by_cases h1 : i < j
        · exact h.ne i j h1 hlj hlj (by rw [hg, e1])
        · exact h.ne j i (by omega) hi hi (by rw [hg, e1])
      exact e5.other (setCell_heap_ne W _ hgg)
theorem OwnB.slS {N : Nat} {w0 W W9 : World} {D c : Nat} {l : List BlkD} {A : Nat → Option Addr} {cc : Nat → Nat} (h : OwnB w0 W D c l l.length A cc) (hA : Abv w0.heap.size W W9) (hn : N ≤ w0.heap.size) (hwf : ∀ i, i < l.length → (Lit.int .i64 (l[i]!).id).wf = true ∧ (Lit.int .i64 (l[i]!).at').wf = true) : SlS N W9 (some ⟨D, 0, none⟩) c l := slS_of hA hn (fun W' hA => (h.abv hA).sl hwf)
theorem patchM_eq {cap : Int} {l : List BlkD} {place v : Int} {i : Nat} (hm : mayM ⟨cap, l⟩ = true) (hb : blkOf l place = some i) : patchM ⟨cap, l⟩ place v = (⟨cap, l.set i (setB (l[i]!) (place - (l[i]!).at').toNat v)⟩, 0) := by
  unfold patchM
  rw [if_pos hm]
  simp only [hb]
  rfl
set_option maxRecDepth 100000 in
set_option maxHeartbeats 4000000 in
theorem Patch_any (cap : Int) (A : Option Addr) (nn c : Nat) (l : List BlkD) (place v : Int) (w : World) (h : Sl BlkR 3 w A c l) (hn : Hid (l.length = nn)) (hv : Hid ((Lit.int .u64 v).wf = true)) (cap' : Int) (l' : List BlkD) (nl : Nat) (e' : Int) (hr : Hid (patchM ⟨cap, l⟩ place v = (⟨cap', l'⟩, e'))) (hnl : Hid (l'.length = nl)) :
    Calls Try.prog 30 #[.agg #[.int .i64 cap, .slice A nn c], .int .i64 place, .int .u64 v] w fun e w' => ∃ A' c', e = .returned (.tuple #[.agg #[.int .i64 cap', .slice A' nl c'], .int .i64 e']) ∧ SlS w.heap.size w' A' c' l' ∧ Bel w w' := by
  have HS0 := Lib.hid h
  clear h
  obtain ⟨mb, hmb⟩ : ∃ mb, Hid (mayM ⟨cap, l⟩ = mb) := ⟨_, Lib.hid rfl⟩
  obtain ⟨⟨wi, wk⟩, hw⟩ : ∃ p, Hid (wordM l place = p) := ⟨_, Lib.hid rfl⟩
  have bM := (Blk.new w 45 #[.int .i64 cap, .slice A nn c]).alloc (.cells #[.int .i64 0, .slice none 0 0] 45)
  have bR := Blk.new (w.alloc (.cells #[.int .i64 cap, .slice A nn c] 45)) 45 #[.int .i64 0, .slice none 0 0]
  rw [World.size_alloc] at bR
  have HBa := Lib.hid (((Bel.refl w).alloc (.cells #[.int .i64 cap, .slice A nn c] 45)).alloc (.cells #[.int .i64 0, .slice none 0 0] 45))
  have q0 := bM.cell 0 (v := .int .i64 cap) rfl
  have q1 := bM.cell 1 (v := .slice A nn c) rfl
  go_enter Try.func30, Try.ntmps30
  go_wp2_with fail
  generalize (w.alloc (.cells #[.int .i64 cap, .slice A nn c] 45)).alloc (.cells #[.int .i64 0, .slice none 0 0] 45) = W1 at *
  refine (word_any cap A nn c l place wi wk _ (HS0.out.mono BlkR.mono HBa.out) hn hw).mono ?_
  rintro e w1 ⟨rfl, hb⟩
  have HB1 := HBa.out.trans hb
  have q0 := hb.cell q0
  have q1 := hb.cell q1
  have bM1 := bM.bel hb
  have bR1 := bR.bel hb
  clear hb bM bR
  go_wp2_with fail
  refine (May_any cap A nn c l mb _ (HS0.out.mono BlkR.mono HB1) hn hmb).mono ?_
  rintro e w2 ⟨rfl, hb⟩
  have HB2 := HB1.trans hb
  have q0 := hb.cell q0
  have q1 := hb.cell q1
  have BM := Lib.hid (bM1.bel hb)
  have BR := Lib.hid (bR1.bel hb)
  clear hb HB1 bM1 bR1
  obtain ⟨g, hg⟩ : ∃ g, w.heap.size = g := ⟨_, rfl⟩
  have hgw : w.heap.size ≤ g := by omega
  rw [hg] at q0 q1 BM BR ⊢
  have r0 : w2.cell? ⟨g + 1, 0, none⟩ = some (.int .i64 0) := BR.out.cell 0 rfl
  have r1 : w2.cell? ⟨g + 1, 1, none⟩ = some (.slice none 0 0) := BR.out.cell 1 rfl
  have fr0 := BR.out.frozen 0
  have fr1 := BR.out.frozen 1
  have fq0 := BM.out.frozen 0
  have fq1 := BM.out.frozen 1
  clear hg
  have ZERO : ∀ k : Int, Hid (patchM ⟨cap, l⟩ place v = (⟨0, []⟩, k) → (cap' = 0 ∧ l' = [] ∧ e' = k)) := fun k => Lib.hid (fun e => by
    have := hr.out
    rw [e] at this
    simp only [Prod.mk.injEq, MemD.mk.injEq] at this
    exact ⟨this.1.1.symm, this.1.2.symm, this.2.symm⟩)
  cases mb
  · obtain ⟨rfl, rfl, rfl⟩ := (ZERO 1).out (by unfold patchM; rw [if_neg (by rw [hmb.out]; simp)])
    obtain rfl : nl = 0 := by rw [← hnl.out]; rfl
    obtain ⟨e0, e1⟩ := res_two BR.out (.int .i64 0) (.slice none 0 0)
    have E0 := Lib.hid e0
    have E1 := Lib.hid e1
    have HFIN := Lib.hid ((HB2.setCell (p := ⟨g + 1, 0, none⟩) (by simp only; omega) (.int .i64 0)).setCell (p := ⟨g + 1, 1, none⟩) (by simp only; omega) (.slice none 0 0))
    clear e0 e1 hr ZERO
    go_wp2_with fail
    refine bodyPost_ret (v := .tuple #[.agg #[.int .i64 0, .slice none 0 0], .int .i64 1]) ?_ rfl ⟨none, 0, rfl, SlS.nil _ _ _ _ (by decide), HFIN.out⟩
    have h1 := E0.out
    have h2 := E1.out
    simp [results, Try.results30, go_sem, h1, h2]
  · have HOK : Hid (Ok ⟨cap, l⟩) := Lib.hid (mayM_iff.1 hmb.out)
    cases hbo : blkOf l place with
    | none =>
      have e1 := hw.out
      rw [HOK.out.word_none hbo] at e1
      obtain ⟨rfl, rfl⟩ : wi = -1 ∧ wk = 0 := by simp only [Prod.mk.injEq] at e1; exact ⟨e1.1.symm, e1.2.symm⟩
      obtain ⟨rfl, rfl, rfl⟩ := (ZERO 3).out (by unfold patchM; rw [if_pos hmb.out]; simp only [hbo])
      obtain rfl : nl = 0 := by rw [← hnl.out]; rfl
      obtain ⟨e0, e1⟩ := res_two BR.out (.int .i64 0) (.slice none 0 0)
      have E0 := Lib.hid e0
      have E1 := Lib.hid e1
      have HFIN := Lib.hid ((HB2.setCell (p := ⟨g + 1, 0, none⟩) (by simp only; omega) (.int .i64 0)).setCell (p := ⟨g + 1, 1, none⟩) (by simp only; omega) (.slice none 0 0))
      clear e0 e1 hr ZERO
      go_wp2_with fail
      refine bodyPost_ret (v := .tuple #[.agg #[.int .i64 0, .slice none 0 0], .int .i64 3]) ?_ rfl ⟨none, 0, rfl, SlS.nil _ _ _ _ (by decide), HFIN.out⟩
      have h1 := E0.out
      have h2 := E1.out
      simp [results, Try.results30, go_sem, h1, h2]
    | some i =>
      obtain ⟨hi, hp1, hp2⟩ := (blkOf_some (m := ⟨cap, l⟩) HOK.out).1 hbo
      simp only at hi hp1 hp2
      have e1 := hw.out
      rw [HOK.out.word_some hbo] at e1
      simp only [Prod.mk.injEq] at e1
      obtain ⟨rfl, e2⟩ := e1
      have HR : Hid (cap' = cap ∧ l' = l.set i (setB (l[i]!) (place - (l[i]!).at').toNat v) ∧ e' = 0) := Lib.hid (by
        have := hr.out
        rw [patchM_eq hmb.out hbo] at this
        simp only [Prod.mk.injEq, MemD.mk.injEq] at this
        exact ⟨this.1.1.symm, this.1.2.symm, this.2.symm⟩)
      obtain ⟨kk, hkk⟩ : ∃ kk : Nat, wk = kk := ⟨wk.toNat, by omega⟩
      subst hkk
      rw [show (place - (l[i]!).at').toNat = kk by omega] at HR
      obtain ⟨rfl, rfl, rfl⟩ := HR.out
      obtain rfl : nl = nn := by rw [← hnl.out, List.length_set, hn.out]
      have hin : i < nl := by rw [← hn.out]; exact hi
      have hin2 : (i : Int) < nl := by omega
      have i0 : 0 ≤ (i : Int) := by omega
      have hneg : ¬ (i : Int) < 0 := by omega
      have hkm : kk < (l[i]!).w.length := by omega
      have hkm2 : (kk : Int) < ((l[i]!).w.length : Int) := by omega
      have kk0 : 0 ≤ (kk : Int) := by omega
      clear hr ZERO e2 hp1 hp2 hbo
      have HKM := Lib.hid hkm
      have HIL := Lib.hid hi
      clear hi
      go_wp2_with fail
      refine (own_any cap' A nl c l w2 (HS0.out.mono BlkR.mono HB2) hn HOK).mono ?_
      rintro e w5 ⟨A5, c5, rfl, hown, hb5⟩
      rcases hown with ⟨rfl, -⟩ | ⟨D5, A', cc, rfl, hO⟩
      · have := HIL.out; simp at this
      have bM5 := BM.out.bel hb5
      have bR5 := BR.out.bel hb5
      have q0 : w5.cell? ⟨g, 0, none⟩ = some (.int .i64 cap') := bM5.cell 0 rfl
      have q1 : w5.cell? ⟨g, 1, none⟩ = some (.slice A nl c) := bM5.cell 1 rfl
      have fq0 := bM5.frozen 0
      have fq1 := bM5.frozen 1
      have hg2 := BR.out.lt
      have HBM6 : Hid (Blk ((w5.setCell ⟨g, 0, none⟩ (.int .i64 cap')).setCell ⟨g, 1, none⟩ (.slice (some ⟨D5, 0, none⟩) nl c5)) g 45 #[.int .i64 cap', .slice (some ⟨D5, 0, none⟩) nl c5]) := Lib.hid ((bM5.set 0 _).set 1 _)
      have HBR6 : Hid (Blk ((w5.setCell ⟨g, 0, none⟩ (.int .i64 cap')).setCell ⟨g, 1, none⟩ (.slice (some ⟨D5, 0, none⟩) nl c5)) (g + 1) 45 #[.int .i64 0, .slice none 0 0]) := Lib.hid ((bR5.other (by simp) _).other (by simp) _)
      have HB6 : Hid (Bel w ((w5.setCell ⟨g, 0, none⟩ (.int .i64 cap')).setCell ⟨g, 1, none⟩ (.slice (some ⟨D5, 0, none⟩) nl c5))) := Lib.hid (((HB2.trans hb5).setCell (p := ⟨g, 0, none⟩) (by simp only; omega) _).setCell (p := ⟨g, 1, none⟩) (by simp only; omega) _)
      have HA6 := Lib.hid (((Abv.refl w2.heap.size w5).set (p := ⟨g, 0, none⟩) (by simp only; omega) (.int .i64 cap')).set (p := ⟨g, 1, none⟩) (by simp only; omega) (.slice (some ⟨D5, 0, none⟩) nl c5))
      have HO6 := Lib.hid (hO.abv HA6.out)
      have HWF : Hid (∀ i, i < l.length → (Lit.int .i64 (l[i]!).id).wf = true ∧ (Lit.int .i64 (l[i]!).at').wf = true) := Lib.hid (fun i hi => by
        obtain ⟨b, off, rfl⟩ := HS0.out.addr (by omega)
        obtain ⟨_, _, _, _, _, _, f1, f2⟩ := blk_cells HS0.out i hi
        exact ⟨f1, f2⟩)
      have s0 : w5.cell? ⟨g + 1, 0, none⟩ = some (.int .i64 0) := bR5.cell 0 rfl
      have s1 : w5.cell? ⟨g + 1, 1, none⟩ = some (.slice none 0 0) := bR5.cell 1 rfl
      have fs0 := bR5.frozen 0
      have fs1 := bR5.frozen 1
      have HO5 := Lib.hid hO
      clear r0 r1 fr0 fr1 hb5 hO bM5 bR5
      obtain ⟨gi, ei, hge, hgl, hgD, hOw⟩ := HO5.out.own i HIL.out HIL.out
      have d2 := (HO5.out.row.cells i HIL.out).2.2
      have hDg : D5 ≠ g := by have := HO5.out.row.D0; omega
      have hDg1 : D5 ≠ g + 1 := by have := HO5.out.row.D0; omega
      rw [ei] at d2
      have dk := hOw.cells kk HKM.out
      have fk := hOw.frz kk
      have ng : gi ≠ g := by omega
      have ng1 : gi ≠ g + 1 := by omega
      have ng' : g ≠ gi := Ne.symm ng
      have ng1' : g + 1 ≠ gi := Ne.symm ng1
      have HP := Lib.hid (HO6.out.patch HIL.out ei hgD HKM.out hv.out)
      have hBM7 := HBM6.out.other (p := ⟨gi, kk, none⟩) ng' (.int .u64 v)
      have hBR7 := HBR6.out.other (p := ⟨gi, kk, none⟩) ng1' (.int .u64 v)
      obtain ⟨e0, e1⟩ := res_two hBR7 (.int .i64 cap') (.slice (some ⟨D5, 0, none⟩) nl c5)
      have E0 := Lib.hid e0
      have E1 := Lib.hid e1
      have HF := Lib.hid (((HB6.out.setCell (p := ⟨gi, kk, none⟩) (by simp only; omega) (.int .u64 v)).setCell (p := ⟨g + 1, 0, none⟩) (by simp only; omega) (.int .i64 cap')).setCell (p := ⟨g + 1, 1, none⟩) (by simp only; omega) (.slice (some ⟨D5, 0, none⟩) nl c5))
      have HSL := Lib.hid (HP.out.slS (((Abv.refl w2.heap.size _).set (p := ⟨g + 1, 0, none⟩) (by simp only; omega) (.int .i64 cap')).set (p := ⟨g + 1, 1, none⟩) (by simp only; omega) (.slice (some ⟨D5, 0, none⟩) nl c5)) HB2.size (fun j hj => by
        rw [List.length_set] at hj
        have hwj := HWF.out j hj
        rw [set_get! HIL.out]
        split
        · rename_i e; subst e; exact hwj
        · exact hwj))
      generalize (l[i]!).w.length = m at *
      generalize (l[i]!).w.getD kk 0 = x0 at *
      clear e0 e1 hBM7 hBR7 hOw hge hgl ei
      go_wp2_with fail
      refine bodyPost_ret (v := .tuple #[.agg #[.int .i64 cap', .slice (some ⟨D5, 0, none⟩) nl c5], .int .i64 0]) ?_ rfl ⟨_, c5, rfl, HSL.out, HF.out⟩
      have h1 := E0.out
      have h2 := E1.out
      simp [results, Try.results30, go_sem, h1, h2]
end Go.Proofs.Yteopeocgbfdofaa
