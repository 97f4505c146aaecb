/- Words that are made; the chapter's example. Plain facts on memories for the laws of chapter 13. Plain facts on memories: gaps, blocks that are put and dropped, words that are patched. Images of programs that are accepted, as plain facts (chapter 14). Nothing of the program. What is loaded, and its parts, as plain facts (chapters 13, 14). Nothing of the program. -/
import Derived.Test.YtebdnobgdimdoaaGreatZArC10
import Derived.Test.YtebdnobgdimdoaaGreatGU
import Derived.Test.YtebdnobgdimdoaaGreatZArRef1
import Derived.Test.YtebdnobgdimdoaaGreatGF
import Derived.Test.YtebdnobgdimdoaaGreatGK
import Derived.Test.YtebdnobgdimdoaaGreatGW
import Derived.Test.YtebdnobgdimdoaaGreatGQ
set_option linter.unusedVariables false
set_option linter.unusedSimpArgs false
namespace Go.Proofs.YtebdnobgdimdoaaGreat
open Go.RowKit
def zeros (n : Nat) : List Int := List.replicate n 0
theorem zeros_length (n : Nat) : (zeros n).length = n := List.length_replicate
/-- make([]uint64, n). -/
theorem make_words (n : Nat) (hn : n ≤ 4096) (w : World) : (Instr.makeSlice 74 (.int .i64 n) (.int .i64 n)).run Tryz.prog w = .ok (.slice (some ⟨w.heap.size, 0, none⟩) n n) (w.alloc (.cells (u64s (zeros n)).toArray 133)) := by
  obtain ⟨i, hi, hz⟩ := Option.map_eq_some_iff.1 info_word
  simp only [Prod.mk.injEq] at hz
  obtain ⟨hz0, hz1, hz2⟩ := hz
  have := run_make (P := Tryz.prog) w 74 133 i (.int .u64 0) Tryz.underlying74 hi hz0 .i64 .i64 (n : Int) (n : Int) (by omega) (Int.le_refl _) (by rw [hz2]; omega) (by omega)
  rw [this, hz1, Int.toNat_natCast, Nat.mul_one, show (Value.int .u64 0).cells = #[Value.int .u64 0] from rfl]
  have e : madeCells #[Value.int .u64 0] n = (u64s (zeros n)).toArray := by
    apply Array.toList_inj.1
    rw [toList_madeCells_one]
    simp [u64s, zeros]
  rw [e]
theorem zeros_getD (n i : Nat) : (zeros n).getD i 0 = 0 := by
  rw [List.getD_eq_getElem?_getD]
  unfold zeros
  rw [List.getElem?_replicate]
  split <;> rfl
theorem made_own (n : Nat) (hn : n ≤ 4096) (w : World) : OwnW (w.alloc (.cells (u64s (zeros n)).toArray 133)) w.heap.size n (zeros n) := by
  have hb : Blk (w.alloc (.cells (u64s (zeros n)).toArray 133)) w.heap.size 133 (u64s (zeros n)).toArray := Blk.new _ _ _
  refine ⟨by rw [zeros_length]; exact Nat.le_refl _, by simp only [maxLen]; omega, fun i hi => hb.cell i ?_, fun i => hb.frozen i, fun i hi => by rw [zeros_getD]; rfl⟩
  rw [zeros_getD]
  rw [zeros_length] at hi
  simp [u64s, zeros, hi]
theorem made_sl {n : Nat} (hn : n ≤ 4096) (w : World) : Sl (IntR .u64) 1 (w.alloc (.cells (u64s (zeros n)).toArray 133)) (some ⟨w.heap.size, 0, none⟩) n (zeros n) := (made_own n hn w).sl
end Go.Proofs.YtebdnobgdimdoaaGreat
set_option linter.unusedVariables false
set_option linter.unusedSimpArgs false
namespace Go.Proofs.YtebdnobgdimdoaaGreat
open Go.RowKit
theorem ok_nil {room : Int} (h0 : 0 ≤ room) (h1 : room ≤ 1024) : Ok ⟨room, []⟩ := ⟨h0, h1, fun i hi => by simp at hi⟩
theorem may_nil {room : Int} (h0 : 0 ≤ room) (h1 : room ≤ 1024) : mayM ⟨room, []⟩ = true := mayM_iff.2 (ok_nil h0 h1)
theorem gaps_nil {room : Int} (h : 0 < room) : gapsL ⟨room, []⟩ = [(0, room)] := by
  unfold gapsL
  simp only [List.length_nil, Nat.zero_add, gapsUpto, List.nil_append]
  unfold gapAt nextAt prevEnd
  simp [h]
theorem gaps_nil0 : gapsL ⟨0, []⟩ = [] := by decide
theorem find_nil {room n : Int} (h0 : 0 ≤ room) (h1 : room ≤ 1024) (hn : 1 ≤ n) : findM ⟨room, []⟩ n = if n ≤ room then (0, true) else (0, false) := by
  unfold findM
  rw [if_pos ⟨may_nil h0 h1, hn⟩]
  by_cases h : 0 < room
  · rw [gaps_nil h]
    unfold findL
    by_cases hh : n ≤ room
    · rw [if_pos hh]
      simp [hh]
    · rw [if_neg hh]
      simp [hh]
  · obtain rfl : room = 0 := by omega
    rw [gaps_nil0, if_neg (by omega)]
    rfl
theorem find_nil0 {room n : Int} (hn : n < 1) : findM ⟨room, []⟩ n = (0, false) := by
  unfold findM
  rw [if_neg (fun h => by have := h.2; omega)]
theorem left_nil {room : Int} (h0 : 0 ≤ room) (h1 : room ≤ 1024) : leftM ⟨room, []⟩ = room := by
  rw [left_all (ok_nil h0 h1)]
  simp [taken]
theorem taken_cons (b : BlkD) (l : List BlkD) : taken (b :: l) = (b.w.length : Int) + taken l := by simp [taken]
/-- One block that takes all. -/
theorem ok_one {room id : Int} {w : List Int} (h0 : 0 < room) (h1 : room ≤ 1024) (hid : 1 ≤ id) (hw : (w.length : Int) = room) : Ok ⟨room, [⟨id, 0, w⟩]⟩ := by
  refine ⟨by simp only; omega, h1, fun i hi => ?_⟩
  obtain rfl : i = 0 := by simpa using hi
  refine ⟨hid, fun k hk => absurd hk (Nat.not_lt_zero _), ?_, ?_, ?_, ?_⟩
  · show 0 < w.length; omega
  · simp [prevEnd]
  · show (0 : Int) + (w.length : Int) ≤ room; omega
  · show (w.length : Int) ≤ room; omega
theorem put_whole {room id : Int} {w : List Int} (h0 : 0 < room) (h1 : room ≤ 1024) (hid : 1 ≤ id) (hw : (w.length : Int) = room) : putM ⟨room, []⟩ ⟨id, 0, w⟩ = (⟨room, [⟨id, 0, w⟩]⟩, 0) := by
  unfold putM
  have hne : w ≠ [] := fun e => by rw [e] at hw; simp at hw; omega
  rw [if_pos ⟨may_nil (by omega) h1, hid, hne⟩]
  have hx : idxR [] id < 0 := by simp [idxR, Lib.idxBy, Lib.idxByFrom]
  have hf : fitsL 0 (w.length : Int) (gapsL ⟨room, []⟩) = true := by
    rw [gaps_nil h0]
    unfold fitsL
    simp only [List.any_cons, List.any_nil, Bool.or_false, decide_eq_true_iff]
    omega
  simp only
  rw [if_pos ⟨hx, hf⟩]
  rfl
theorem find_whole {room id : Int} {w : List Int} (h0 : 0 < room) (h1 : room ≤ 1024) (hid : 1 ≤ id) (hw : (w.length : Int) = room) {n : Int} : findM ⟨room, [⟨id, 0, w⟩]⟩ n = (0, false) := by
  unfold findM
  have hg : gapsL ⟨room, [⟨id, 0, w⟩]⟩ = [] := by
    unfold gapsL
    simp only [List.length_cons, List.length_nil, Nat.zero_add, gapsUpto, List.nil_append]
    unfold gapAt nextAt
    rw [prevEnd_succ]
    simp [prevEnd, hw]
  rw [hg]
  split <;> rfl
theorem left_whole {room id : Int} {w : List Int} (h0 : 0 < room) (h1 : room ≤ 1024) (hid : 1 ≤ id) (hw : (w.length : Int) = room) : leftM ⟨room, [⟨id, 0, w⟩]⟩ = 0 := by
  rw [left_all (ok_one h0 h1 hid hw), taken_cons]
  simp [taken]
  omega
theorem fetch_whole {room id : Int} {w : List Int} (h0 : 0 < room) (h1 : room ≤ 1024) (hid : 1 ≤ id) (hw : (w.length : Int) = room) {p : Int} (hp0 : 0 ≤ p) (hp : p < room) : fetchM ⟨room, [⟨id, 0, w⟩]⟩ p = (w.getD p.toNat 0, id, true) := by
  have hok := ok_one h0 h1 hid hw
  unfold fetchM
  rw [if_pos (mayM_iff.2 hok)]
  have hb : blkOf [⟨id, 0, w⟩] p = some 0 := (blkOf_some hok).2 ⟨by simp, by simpa using hp0, by simp; omega⟩
  simp only
  rw [hb]
  simp
theorem fetch_whole_out {room id : Int} {w : List Int} (h0 : 0 < room) (h1 : room ≤ 1024) (hid : 1 ≤ id) (hw : (w.length : Int) = room) {p : Int} (hp : room ≤ p) : fetchM ⟨room, [⟨id, 0, w⟩]⟩ p = (0, 0, false) := by
  have hok := ok_one h0 h1 hid hw
  unfold fetchM
  rw [if_pos (mayM_iff.2 hok)]
  have hb : blkOf [⟨id, 0, w⟩] p = none := blkOf_none.2 fun i hi => by
    obtain rfl : i = 0 := by simpa using hi
    simp
    omega
  simp only
  rw [hb]
end Go.Proofs.YtebdnobgdimdoaaGreat
set_option linter.unusedVariables false
set_option linter.unusedSimpArgs false
namespace Go.Proofs.YtebdnobgdimdoaaGreat
open Go.RowKit
theorem findL_upto {n : Int} {m : MemD} (hn : 1 ≤ n) : ∀ k, (∃ i, i < k ∧ findL n (gapsUpto m k) = some (prevEnd m.l i) ∧ prevEnd m.l i + n ≤ nextAt m i ∧ ∀ j, j < i → nextAt m j < prevEnd m.l j + n) ∨ (findL n (gapsUpto m k) = none ∧ ∀ j, j < k → nextAt m j < prevEnd m.l j + n)
  | 0 => .inr ⟨rfl, fun j hj => absurd hj (Nat.not_lt_zero _)⟩
  | k + 1 => by
    have hap : findL n (gapsUpto m (k + 1)) = (findL n (gapsUpto m k)).or (findL n (gapAt m k)) := by
      rw [gapsUpto]
      unfold findL
      rw [List.find?_append]
      cases List.find? (fun g => decide (n ≤ g.2 - g.1)) (gapsUpto m k) <;> simp
    rcases findL_upto (m := m) hn k with ⟨i, h1, h2, h3, h4⟩ | ⟨h1, h2⟩
    · exact .inl ⟨i, by omega, by rw [hap, h2]; rfl, h3, h4⟩
    · rw [h1] at hap
      by_cases hg : prevEnd m.l k + n ≤ nextAt m k
      · refine .inl ⟨k, Nat.lt_succ_self k, ?_, hg, h2⟩
        rw [hap]
        unfold gapAt findL
        rw [if_pos (by omega)]
        have : n ≤ nextAt m k - prevEnd m.l k := by omega
        simp [this]
      · refine .inr ⟨?_, fun j hj => ?_⟩
        · rw [hap]
          unfold gapAt findL
          split
          · have : ¬ n ≤ nextAt m k - prevEnd m.l k := by omega
            simp [this]
          · simp
        · by_cases e : j = k
          · subst e; omega
          · exact h2 j (by omega)
theorem findM_cases {m : MemD} (h : Ok m) {n : Int} (hn : 1 ≤ n) : (∃ i, i ≤ m.l.length ∧ findM m n = (prevEnd m.l i, true) ∧ prevEnd m.l i + n ≤ nextAt m i ∧ ∀ j, j < i → nextAt m j < prevEnd m.l j + n) ∨ (findM m n = (0, false) ∧ ∀ j, j ≤ m.l.length → nextAt m j < prevEnd m.l j + n) := by
  unfold findM gapsL
  rw [if_pos ⟨mayM_iff.2 h, hn⟩]
  rcases findL_upto (m := m) hn (m.l.length + 1) with ⟨i, h1, h2, h3, h4⟩ | ⟨h1, h2⟩
  · exact .inl ⟨i, by omega, by rw [h2], h3, h4⟩
  · exact .inr ⟨by rw [h1], fun j hj => h2 j (by omega)⟩
theorem Ok.prev_mono {m : MemD} (h : Ok m) : ∀ j i, i ≤ j → j ≤ m.l.length → prevEnd m.l i ≤ prevEnd m.l j
  | 0, i, hi, _ => by rw [Nat.le_zero.1 hi]; exact Int.le_refl _
  | j + 1, i, hi, hj => by
    by_cases e : i = j + 1
    · subst e; exact Int.le_refl _
    · have ih := h.prev_mono j i (by omega) (by omega)
      have b := (h.blk j (by omega)).lo
      have l := (h.blk j (by omega)).len
      rw [prevEnd_succ]
      omega
/-- No block has a word of a gap. -/
theorem Ok.gap_none {m : MemD} (h : Ok m) {i : Nat} (hi : i ≤ m.l.length) {p : Int} (h1 : prevEnd m.l i ≤ p) (h2 : p < nextAt m i) : blkOf m.l p = none :=
  blkOf_none.2 fun j hj => by
    by_cases e : j < i
    · have := h.prev_mono i (j + 1) (by omega) hi
      rw [prevEnd_succ] at this
      omega
    · have hr : (m.l[i]!).at' ≤ (m.l[j]!).at' := by
        by_cases e2 : i = j
        · subst e2; exact Int.le_refl _
        · have := h.rise j i (by omega) hj
          have := (h.blk i (by omega)).len
          omega
      unfold nextAt at h2
      rw [if_pos (by omega)] at h2
      omega
theorem fetch_gap {m : MemD} (h : Ok m) {i : Nat} (hi : i ≤ m.l.length) {p : Int} (h1 : prevEnd m.l i ≤ p) (h2 : p < nextAt m i) : fetchM m p = (0, 0, false) := by
  unfold fetchM
  rw [if_pos (mayM_iff.2 h), h.gap_none hi h1 h2]
/-- Nothing is put ahead of the gap that is found. -/
theorem put_find {m : MemD} (h : Ok m) {b : BlkD} (hb : b.w ≠ []) : (putM m b).2 = 0 → ∃ a, findM m b.w.length = (a, true) ∧ a ≤ b.at' := by
  intro hp
  have hl : 1 ≤ (b.w.length : Int) := by
    have := List.length_pos_iff.2 hb
    omega
  have hfit : fitsL b.at' b.w.length (gapsL m) = true := by
    unfold putM at hp
    split at hp
    · split at hp
      · rename_i h2; exact h2.2
      · simp at hp
    · simp at hp
  obtain ⟨i, hi, h1, h2⟩ := (fits_iff h hl).1 hfit
  rcases findM_cases h hl with ⟨j, hj, e, h3, h4⟩ | ⟨e, h4⟩
  · refine ⟨_, e, ?_⟩
    by_cases hji : i < j
    · have := h4 i hji
      omega
    · have := h.prev_mono i j (by omega) hi
      omega
  · have := h4 i hi
    omega
theorem putM_err (m : MemD) (b : BlkD) : (putM m b).2 = 0 ∨ (putM m b).2 = 1 ∨ (putM m b).2 = 4 := by
  unfold putM
  split
  · split
    · exact .inl rfl
    · exact .inr (.inr rfl)
  · exact .inr (.inl rfl)
theorem putM_one {m : MemD} {b : BlkD} (h : (putM m b).2 = 1) : ¬ (mayM m = true ∧ 1 ≤ b.id ∧ b.w ≠ []) := by
  unfold putM at h
  split at h
  · split at h <;> simp at h
  · assumption
/-- What is put lies between two that were next to each other. -/
theorem putM_ok {m : MemD} {b : BlkD} (h : (putM m b).2 = 0) : ∃ i, Ok m ∧ i ≤ m.l.length ∧ 1 ≤ b.id ∧ 0 < b.w.length ∧ (∀ k, k < m.l.length → (m.l[k]!).id ≠ b.id) ∧ prevEnd m.l i ≤ b.at' ∧ b.at' + (b.w.length : Int) ≤ nextAt m i ∧ putM m b = (⟨m.cap, ins m.l i b⟩, 0) ∧ Ok ⟨m.cap, ins m.l i b⟩ := by
  have h0 := h
  unfold putM at h0
  split at h0
  · rename_i hc
    obtain ⟨hm, hid, hw⟩ := hc
    split at h0
    · rename_i hx
      obtain ⟨hx, hf⟩ := hx
      have hok := mayM_iff.1 hm
      have hl := List.length_pos_iff.2 hw
      have hnew : ∀ k, k < m.l.length → (m.l[k]!).id ≠ b.id := by
        rcases idxR_cases m.l b.id with ⟨k, h1, h2, h3, h4⟩ | ⟨h1, h2⟩
        · omega
        · exact h1
      obtain ⟨i, hi, h1, h2⟩ := (fits_iff hok (show (1 : Int) ≤ b.w.length by omega)).1 hf
      have hix := hok.idx hi (show (1 : Int) ≤ b.w.length by omega) h1 h2
      refine ⟨i, hok, hi, hid, hl, hnew, h1, h2, ?_, hok.put hi hid hnew hl h1 h2⟩
      unfold putM
      rw [if_pos ⟨hm, hid, hw⟩, if_pos ⟨hx, hf⟩, hix]
    · simp at h0
  · simp at h0
theorem del_ins {l : List BlkD} {i : Nat} (hi : i ≤ l.length) (b : BlkD) : del (ins l i b) i = l := by
  unfold del ins
  have h1 : (l.take i).length = i := by rw [List.length_take]; omega
  rw [List.take_append_of_le_length (by omega), List.take_of_length_le (by omega), List.drop_append, List.drop_of_length_le (by omega), List.nil_append, h1, show i + 1 - i = 1 by omega]
  simp
theorem taken_ins {l : List BlkD} {i : Nat} (hi : i ≤ l.length) (b : BlkD) : taken (ins l i b) = taken l + (b.w.length : Int) := by
  unfold taken ins
  rw [List.map_append, List.sum_append, List.map_cons, List.sum_cons]
  have h : (l.map fun b => (b.w.length : Int)).sum = ((l.take i).map fun b => (b.w.length : Int)).sum + ((l.drop i).map fun b => (b.w.length : Int)).sum := by
    rw [← List.sum_append, ← List.map_append, List.take_append_drop]
  omega
theorem idxR_of {l : List BlkD} {k : Nat} (hk : k < l.length) (h : ∀ j, j < k → (l[j]!).id ≠ (l[k]!).id) : idxR l (l[k]!).id = (k : Int) := (idxR_self hk).2 h
theorem drop_put {m : MemD} {b : BlkD} {i : Nat} (hi : i ≤ m.l.length) (hnew : ∀ k, k < m.l.length → (m.l[k]!).id ≠ b.id) (hok : Ok ⟨m.cap, ins m.l i b⟩) : dropM ⟨m.cap, ins m.l i b⟩ b.id = (m, 0) := by
  have hg := ins_get hi b i
  rw [if_neg (Nat.lt_irrefl i), if_pos rfl] at hg
  have hx : idxR (ins m.l i b) b.id = (i : Int) := by
    have := idxR_of (l := ins m.l i b) (k := i) (by rw [ins_length hi]; omega) (fun j hj => by rw [hg, ins_get hi, if_pos hj]; exact hnew j (by omega))
    rwa [hg] at this
  unfold dropM
  simp only
  rw [if_pos (mayM_iff.2 hok), hx, if_neg (by omega), Int.toNat_natCast, del_ins hi]
theorem left_put {m : MemD} {b : BlkD} {i : Nat} (h : Ok m) (hi : i ≤ m.l.length) (hok : Ok ⟨m.cap, ins m.l i b⟩) : leftM ⟨m.cap, ins m.l i b⟩ = leftM m - b.w.length := by
  rw [left_all hok, left_all h, taken_ins hi]
  simp only
  omega
theorem fetch_put {m : MemD} {b : BlkD} {i : Nat} (hi : i ≤ m.l.length) (hok : Ok ⟨m.cap, ins m.l i b⟩) {k : Nat} (hk : k < b.w.length) : fetchM ⟨m.cap, ins m.l i b⟩ (b.at' + k) = (b.w.getD k 0, b.id, true) := by
  have hg := ins_get hi b i
  rw [if_neg (Nat.lt_irrefl i), if_pos rfl] at hg
  have hb : blkOf (ins m.l i b) (b.at' + k) = some i := (blkOf_some hok).2 ⟨by simp only; rw [ins_length hi]; omega, by simp only; rw [hg]; omega, by simp only; rw [hg]; omega⟩
  unfold fetchM
  rw [if_pos (mayM_iff.2 hok)]
  simp only
  rw [hb]
  simp only
  rw [hg, show b.at' + (k : Int) - b.at' = (k : Int) by omega, Int.toNat_natCast]
/-! ### A word that is patched -/
theorem set_prev {l : List BlkD} {i k : Nat} {v : Int} (hi : i < l.length) (j : Nat) : prevEnd (l.set i (setB (l[i]!) k v)) j = prevEnd l j := by
  cases j with
  | zero => rfl
  | succ j =>
    rw [prevEnd_succ, prevEnd_succ, set_get! hi]
    by_cases e : j = i
    · subst e
      rw [if_pos rfl]
      simp [setB]
    · rw [if_neg e]
theorem set_fld {l : List BlkD} {i k : Nat} {v : Int} (hi : i < l.length) (j : Nat) : ((l.set i (setB (l[i]!) k v))[j]!).id = (l[j]!).id ∧ ((l.set i (setB (l[i]!) k v))[j]!).at' = (l[j]!).at' ∧ ((l.set i (setB (l[i]!) k v))[j]!).w.length = (l[j]!).w.length := by
  rw [set_get! hi]
  by_cases e : j = i
  · subst e
    rw [if_pos rfl]
    simp [setB]
  · rw [if_neg e]
    exact ⟨rfl, rfl, rfl⟩
theorem Ok.set {m : MemD} (h : Ok m) {i k : Nat} {v : Int} (hi : i < m.l.length) : Ok ⟨m.cap, m.l.set i (setB (m.l[i]!) k v)⟩ := by
  refine ⟨h.cap0, h.cap1, fun j hj => ?_⟩
  simp only [List.length_set] at hj
  have o := h.blk j hj
  obtain ⟨e1, e2, e3⟩ := set_fld (k := k) (v := v) hi j
  refine ⟨?_, fun q hq => ?_, ?_, ?_, ?_, ?_⟩ <;> simp only
  · rw [e1]; exact o.id1
  · rw [e1, (set_fld hi q).1]; exact o.ids q hq
  · rw [e3]; exact o.len
  · rw [e2, set_prev hi]; exact o.lo
  · rw [e2, e3]; exact o.hi
  · rw [e3]; exact o.cap
theorem blkOf_set {l : List BlkD} {i k : Nat} {v : Int} (hi : i < l.length) {cap : Int} (h : Ok ⟨cap, l⟩) (p : Int) : blkOf (l.set i (setB (l[i]!) k v)) p = blkOf l p := by
  have h2 : Ok ⟨cap, l.set i (setB (l[i]!) k v)⟩ := Ok.set (m := ⟨cap, l⟩) h hi
  cases hb : blkOf l p with
  | none =>
    refine blkOf_none.2 fun j hj => ?_
    rw [List.length_set] at hj
    obtain ⟨e1, e2, e3⟩ := set_fld (k := k) (v := v) hi j
    rw [e2, e3]
    exact blkOf_none.1 hb j hj
  | some j =>
    obtain ⟨a, b, c⟩ := (blkOf_some (m := ⟨cap, l⟩) h).1 hb
    obtain ⟨e1, e2, e3⟩ := set_fld (k := k) (v := v) hi j
    exact (blkOf_some (m := ⟨cap, l.set i (setB (l[i]!) k v)⟩) h2).2 ⟨by simpa using a, by simp only; rw [e2]; exact b, by simp only; rw [e2, e3]; exact c⟩
theorem taken_set {l : List BlkD} {i k : Nat} {v : Int} (hi : i < l.length) : taken (l.set i (setB (l[i]!) k v)) = taken l := by
  have e : (l.set i (setB (l[i]!) k v)).map (fun b => (b.w.length : Int)) = l.map (fun b => (b.w.length : Int)) := by
    refine List.ext_getElem (by simp) fun j h1 h2 => ?_
    simp only [List.length_map, List.length_set] at h1 h2
    have := (set_fld (k := k) (v := v) hi j).2.2
    rw [getElem!_pos _ j (by rw [List.length_set]; exact h1), getElem!_pos l j h1] at this
    simp only [List.getElem_map]
    exact_mod_cast this
  unfold taken
  rw [e]
theorem left_set {m : MemD} (h : Ok m) {i k : Nat} {v : Int} (hi : i < m.l.length) : leftM ⟨m.cap, m.l.set i (setB (m.l[i]!) k v)⟩ = leftM m := by
  rw [left_all (h.set hi), left_all h]
  simp only
  rw [taken_set hi]
theorem fetch_none_iff {m : MemD} (h : Ok m) {p : Int} (hb : blkOf m.l p = none) : fetchM m p = (0, 0, false) := by
  unfold fetchM
  rw [if_pos (mayM_iff.2 h), hb]
theorem fetch_some {m : MemD} (h : Ok m) {p : Int} {i : Nat} (hb : blkOf m.l p = some i) : fetchM m p = ((m.l[i]!).w.getD (p - (m.l[i]!).at').toNat 0, (m.l[i]!).id, true) := by
  unfold fetchM
  rw [if_pos (mayM_iff.2 h), hb]
theorem setB_back (b : BlkD) (k : Nat) (v : Int) (hk : k < b.w.length) : setB (setB b k v) k (b.w.getD k 0) = b := by
  obtain ⟨a, c, w⟩ := b
  unfold setB
  simp only at hk ⊢
  congr 1
  rw [List.set_set, List.getD_eq_getElem?_getD, List.getElem?_eq_getElem hk, Option.getD_some, List.set_getElem_self]
/-- Patched: all that the law asks. -/
theorem patch_law {m : MemD} {p v q : Int} (hok : Ok m) {i : Nat} (hb : blkOf m.l p = some i) : ∃ l', patchM m p v = (⟨m.cap, l'⟩, 0) ∧ l'.length = m.l.length ∧ fetchM ⟨m.cap, l'⟩ p = (v, (m.l[i]!).id, true) ∧ (q = p ∨ fetchM ⟨m.cap, l'⟩ q = fetchM m q) ∧ patchM ⟨m.cap, l'⟩ p (fetchM m p).1 = (m, 0) ∧ leftM ⟨m.cap, l'⟩ = leftM m ∧ Ok ⟨m.cap, l'⟩ := by
  obtain ⟨hi, h1, h2⟩ := (blkOf_some hok).1 hb
  obtain ⟨k, hk⟩ : ∃ k : Nat, (p - (m.l[i]!).at').toNat = k := ⟨_, rfl⟩
  have hkl : k < (m.l[i]!).w.length := by omega
  refine ⟨m.l.set i (setB (m.l[i]!) k v), ?_, List.length_set, ?_, ?_, ?_, left_set hok hi, hok.set hi⟩
  · rw [patchM_eq (cap := m.cap) (l := m.l) (mayM_iff.2 hok) hb, hk]
  · have hs := set_get! hi (setB (m.l[i]!) k v) i
    rw [if_pos rfl] at hs
    rw [fetch_some (m := ⟨m.cap, _⟩) (hok.set hi) (i := i) (by simp only; rw [blkOf_set hi hok]; exact hb)]
    simp only
    rw [hs]
    simp only [setB]
    rw [hk, List.getD_eq_getElem?_getD, List.getElem?_set, if_pos rfl, if_pos hkl]
    rfl
  · by_cases e : q = p
    · exact .inl e
    · refine .inr ?_
      cases hq : blkOf m.l q with
      | none => rw [fetch_none_iff hok hq, fetch_none_iff (m := ⟨m.cap, _⟩) (hok.set hi) (by simp only; rw [blkOf_set hi hok]; exact hq)]
      | some j =>
        rw [fetch_some hok hq, fetch_some (m := ⟨m.cap, _⟩) (hok.set hi) (i := j) (by simp only; rw [blkOf_set hi hok]; exact hq)]
        simp only
        rw [set_get! hi]
        by_cases ej : j = i
        · subst ej
          rw [if_pos rfl]
          obtain ⟨hj, j1, j2⟩ := (blkOf_some hok).1 hq
          simp only [setB]
          rw [List.getD_eq_getElem?_getD, List.getElem?_set, if_neg (by omega), ← List.getD_eq_getElem?_getD]
        · rw [if_neg ej]
  · have hs := set_get! hi (setB (m.l[i]!) k v) i
    rw [if_pos rfl] at hs
    rw [patchM_eq (cap := m.cap) (l := m.l.set i (setB (m.l[i]!) k v)) (mayM_iff.2 (hok.set hi)) (i := i) (by rw [blkOf_set hi hok]; exact hb), hs, fetch_some hok hb]
    simp only
    have ha : (setB (m.l[i]!) k v).at' = (m.l[i]!).at' := rfl
    rw [ha, hk, setB_back _ _ _ hkl, List.set_set, getElem!_pos m.l i hi, List.set_getElem_self]
theorem taken_upto {m : MemD} (h : Ok m) : ∀ i, i ≤ m.l.length → taken (m.l.take i) ≤ prevEnd m.l i
  | 0, _ => by simp [prevEnd, taken]
  | i + 1, hi => by
    have ih := taken_upto h i (by omega)
    have b := (h.blk i (by omega)).lo
    rw [taken_take m.l (by omega), prevEnd_succ]
    omega
/-- What the blocks take is no more than there is. -/
theorem taken_le {m : MemD} (h : Ok m) : taken m.l ≤ m.cap := by
  have h1 := taken_upto h m.l.length (Nat.le_refl _)
  rw [List.take_length] at h1
  have := (h.prev m.l.length (Nat.le_refl _)).2
  omega
end Go.Proofs.YtebdnobgdimdoaaGreat
set_option linter.unusedVariables false
set_option linter.unusedSimpArgs false
namespace Go.Proofs.YtebdnobgdimdoaaGreat
open Go.RowKit

theorem goTo_in {n m : Nat} {base at' : Int} {k : Nat} {i : InstD} (h : inOk n m k i = true) : (goTo n m base at' k i).2 = true := by
  unfold inOk at h
  unfold goTo
  split at h
  · rename_i h1; rw [if_pos h1]; exact h
  · rename_i h1
    rw [if_neg h1]
    split at h
    · rename_i h2; rw [if_pos h2]; exact h
    · rename_i h2; rw [if_neg h2]
theorem imgCode_in {n : Nat} {l : List InstD} {base at' : Int} : ∀ {k : Nat}, insUpto n l k = true → ∃ ws, imgCode n l base at' k = some ws
  | 0, _ => ⟨[], rfl⟩
  | k + 1, h => by
    rw [insUpto, Bool.and_eq_true] at h
    obtain ⟨ws, hw⟩ := imgCode_in (base := base) (at' := at') h.1
    exact ⟨ws ++ [(wputD l[k]! (goTo n l.length base at' k l[k]!).1).1], by rw [imgCode, hw, Option.bind_some, if_pos (goTo_in h.2)]⟩
theorem code_nth' {L : List FnD} {k : Nat} (hk : k < L.length) : (L.map FnD.code)[k]! = (L.map FnD.code).getD k [] := by
  rw [getElem!_pos (L.map FnD.code) k (by simpa using hk), List.getD_eq_getElem?_getD, List.getElem?_eq_getElem (by simpa using hk)]
  rfl
theorem mkCodes_in {L : List FnD} (hin : ∀ k, k < L.length → insideB L k = true) (base : Int) : ∀ k, k ≤ L.length → ∃ cs, mkCodes L base k = some cs
  | 0, _ => ⟨[], rfl⟩
  | k + 1, h => by
    obtain ⟨cs, hc⟩ := mkCodes_in hin base k (by omega)
    have h1 := hin k (by omega)
    unfold insideB at h1
    rw [← code_nth' (show k < L.length by omega)] at h1
    obtain ⟨c, hc2⟩ := imgCode_in (base := base) (at' := atOf L base k) h1
    refine ⟨cs ++ [c], ?_⟩
    rw [mkCodes, hc, Option.bind_some, hc2, Option.bind_some]
theorem make_in {L : List FnD} (hp : progMay L = true) (hin : ∀ k, k < L.length → insideB L k = true) (hi : ∀ f ∈ L, ∀ i ∈ f.code, U32 i.imm) {base : Int} (h0 : 0 ≤ base) (h1 : base + imgSize L ≤ 1024) : ∃ ws, imgMake L base = (ws, 0) ∧ ws.length = imgSize L := by
  obtain ⟨cs, hc⟩ := mkCodes_in hin base L.length (Nat.le_refl _)
  have e : imgMake L base = (mkDoors L base L.length ++ cs.flatten, 0) := by
    unfold imgMake
    rw [if_pos ⟨hp, h0, h1⟩, hc]
  refine ⟨_, e, ?_⟩
  have := make_ok hi e
  rw [this.2.2.2.1, List.length_map, this.2.2.2.2.1]
theorem make_out {L : List FnD} {base : Int} (h : ¬ (0 ≤ base ∧ base + imgSize L ≤ 1024)) : imgMake L base = ([], 1) := by
  unfold imgMake
  rw [if_neg (fun h' => h h'.2)]
theorem size_may {L : List FnD} (hp : progMay L = true) : imgSize L = L.length + sz L L.length := by
  unfold imgSize
  rw [if_pos hp]
theorem sz_both {L : List FnD} (hp : progMay L = true) : ∀ k, k ≤ L.length → k ≤ sz L k ∧ sz L k ≤ k * 64
  | 0, _ => ⟨Nat.le_refl _, Nat.le_refl _⟩
  | k + 1, h => by
    have ih := sz_both hp k (by omega)
    have hk : k < L.length := by omega
    have h1 := crsMay_facts (prog_ok' hp hk)
    rw [sz, code_nth' hk]
    unfold codeOf at h1
    omega
theorem size_facts {L : List FnD} (hp : progMay L = true) : 2 ≤ imgSize L ∧ imgSize L ≤ 520 := by
  have h := sz_both hp L.length (Nat.le_refl _)
  have hp' := hp
  unfold progMay at hp'
  simp only [Bool.and_eq_true, decide_eq_true_iff] at hp'
  rw [size_may hp]
  omega
/-- A program that is accepted is loaded into a memory of its size, and takes all. -/
theorem load_whole {L : List FnD} (hp : progMay L = true) (hin : ∀ k, k < L.length → insideB L k = true) (hi : ∀ f ∈ L, ∀ i ∈ f.code, U32 i.imm) : ∃ ws, loadM ⟨(imgSize L : Int), []⟩ 1 L = (⟨(imgSize L : Int), [⟨1, 0, ws⟩]⟩, 0, 0) ∧ leftM ⟨(imgSize L : Int), [⟨1, 0, ws⟩]⟩ = 0 := by
  obtain ⟨h2, h520⟩ := size_facts hp
  obtain ⟨ws, hw, hl⟩ := make_in hp hin hi (base := 0) (Int.le_refl _) (by omega)
  have hf : findM ⟨(imgSize L : Int), []⟩ (imgSize L : Int) = (0, true) := by rw [find_nil (by omega) (by omega) (by omega), if_pos (Int.le_refl _)]
  have hput := put_whole (room := (imgSize L : Int)) (id := 1) (w := ws) (by omega) (by omega) (Int.le_refl _) (by omega)
  refine ⟨ws, ?_, left_whole (by omega) (by omega) (Int.le_refl _) (by omega)⟩
  unfold loadM
  rw [if_neg (by rw [hp, may_nil (by omega) (by omega)]; simp), hf, if_neg (by simp)]
  simp only
  rw [hw, if_neg (by simp)]
  simp only
  rw [hput, if_neg (by simp)]
/-- In less room it is not. -/
theorem load_less {L : List FnD} (hp : progMay L = true) {room : Int} (h0 : 0 ≤ room) (h1 : room < imgSize L) : loadM ⟨room, []⟩ 1 L = (⟨0, []⟩, 0, 4) := by
  obtain ⟨h2, h520⟩ := size_facts hp
  have hf : findM ⟨room, []⟩ (imgSize L : Int) = (0, false) := by rw [find_nil h0 (by omega) (by omega), if_neg (by omega)]
  unfold loadM
  rw [if_neg (by rw [hp, may_nil h0 (by omega)]; simp), hf, if_pos rfl]
theorem new_ok {room : Int} (h0 : 0 ≤ room) (h1 : room ≤ 1024) : newC room = room ∧ newE room = 0 := by
  unfold newC newE roomB
  rw [decide_eq_true ⟨h0, h1⟩]
  exact ⟨rfl, rfl⟩
end Go.Proofs.YtebdnobgdimdoaaGreat
set_option linter.unusedVariables false
set_option linter.unusedSimpArgs false
namespace Go.Proofs.YtebdnobgdimdoaaGreat
open Go.RowKit

theorem found_in {m : MemD} (h : Ok m) {n a : Int} (hn : 1 ≤ n) (hf : findM m n = (a, true)) : 0 ≤ a ∧ a + n ≤ 1024 := by
  rcases findM_cases h hn with ⟨i, hi, h1, h2, -⟩ | ⟨h1, -⟩
  · rw [hf] at h1
    simp only [Prod.mk.injEq, and_true] at h1
    subst h1
    have h3 := h.prev i hi
    have h4 := h.next hi
    obtain ⟨_, hcap, _⟩ := h
    omega
  · rw [hf] at h1
    simp at h1
theorem load_err {m : MemD} {id : Int} {L : List FnD} (hm : mayM m = true) (hid : 1 ≤ id) (hp : progMay L = true) (hin : ∀ k, k < L.length → insideB L k = true) (hi : ∀ f ∈ L, ∀ i ∈ f.code, U32 i.imm) : (loadM m id L).2.2 = 0 ∨ (loadM m id L).2.2 = 4 := by
  obtain ⟨h2, h520⟩ := size_facts hp
  unfold loadM
  rw [if_neg (by rw [hp, hm]; simp)]
  by_cases hf : (findM m (imgSize L)).2 = false
  · rw [if_pos hf]; right; rfl
  · rw [if_neg hf]
    obtain ⟨a, ha⟩ : ∃ a, findM m (imgSize L) = (a, true) := ⟨(findM m (imgSize L)).1, by rw [← Bool.not_eq_false _ |>.mp hf]⟩
    rw [ha]
    obtain ⟨h0, h1⟩ := found_in (mayM_iff.1 hm) (by omega) ha
    obtain ⟨ws, hw, hl⟩ := make_in hp hin hi h0 h1
    simp only
    rw [hw, if_neg (by simp)]
    simp only
    rcases putM_err m ⟨id, a, ws⟩ with h | h | h
    · rw [if_neg (by rw [h]; simp)]; left; rfl
    · exfalso
      refine putM_one h ⟨hm, hid, fun e => ?_⟩
      simp only at e
      rw [e] at hl
      simp at hl
      omega
    · rw [if_pos (by rw [h]; decide)]; right; exact h
theorem load_ok {m : MemD} {id : Int} {L : List FnD} (hi : ∀ f ∈ L, ∀ i ∈ f.code, U32 i.imm) (h : (loadM m id L).2.2 = 0) : ∃ a ws m', loadM m id L = (m', a, 0) ∧ progMay L = true ∧ mayM m = true ∧ findM m (imgSize L) = (a, true) ∧ imgMake L a = (ws, 0) ∧ ws.length = imgSize L ∧ leftM m' = leftM m - imgSize L ∧ dropM m' id = (m, 0) ∧ 0 ≤ a ∧ a + imgSize L ≤ 1024 := by
  by_cases h1 : progMay L = false ∨ mayM m = false
  · unfold loadM at h
    rw [if_pos h1] at h
    exact absurd h (by decide)
  have hp : progMay L = true := by simpa using fun e => h1 (.inl e)
  have hm : mayM m = true := by simpa using fun e => h1 (.inr e)
  obtain ⟨h2, h520⟩ := size_facts hp
  by_cases hf : (findM m (imgSize L)).2 = false
  · unfold loadM at h
    rw [if_neg h1, if_pos hf] at h
    exact absurd h (by decide)
  obtain ⟨a, ha⟩ : ∃ a, findM m (imgSize L) = (a, true) := ⟨(findM m (imgSize L)).1, by rw [← Bool.not_eq_false _ |>.mp hf]⟩
  have e0 : loadM m id L = if (imgMake L a).2 ≠ 0 then (⟨0, []⟩, 0, (imgMake L a).2) else if (putM m ⟨id, a, (imgMake L a).1⟩).2 ≠ 0 then (⟨0, []⟩, 0, (putM m ⟨id, a, (imgMake L a).1⟩).2) else ((putM m ⟨id, a, (imgMake L a).1⟩).1, a, 0) := by
    unfold loadM
    rw [if_neg h1, if_neg hf, ha]
  by_cases hk : (imgMake L a).2 ≠ 0
  · rw [e0, if_pos hk] at h
    exact absurd h hk
  rw [if_neg hk] at e0
  by_cases hq : (putM m ⟨id, a, (imgMake L a).1⟩).2 ≠ 0
  · rw [e0, if_pos hq] at h
    exact absurd h hq
  rw [if_neg hq] at e0
  have hq := Decidable.of_not_not hq
  obtain ⟨ws, hw⟩ : ∃ ws, imgMake L a = (ws, 0) := ⟨(imgMake L a).1, by rw [← Decidable.of_not_not hk]⟩
  have hl : ws.length = imgSize L := by
    have := make_ok hi hw
    rw [this.2.2.2.1, List.length_map, this.2.2.2.2.1]
  rw [hw] at e0 hq
  simp only at e0 hq
  obtain ⟨i, hok, hi', -, -, hnew, -, -, hput, hok2⟩ := putM_ok hq
  obtain ⟨h0, h1'⟩ := found_in hok (by omega) ha
  refine ⟨a, ws, _, e0, hp, hm, ha, hw, hl, ?_, ?_, h0, h1'⟩
  · rw [hput]
    rw [left_put hok hi' hok2]
    simp only
    rw [hl]
  · rw [hput]
    exact drop_put hi' hnew hok2
theorem mkCodes_get {L : List FnD} {base : Int} : ∀ {k : Nat} {cs : List (List Int)}, k ≤ L.length → mkCodes L base k = some cs → cs.length = k ∧ ∀ j, j < k → imgCode L.length ((L.map FnD.code)[j]!) base (atOf L base j) ((L.map FnD.code)[j]!).length = some (cs.getD j [])
  | 0, cs, _, h => by
    simp only [mkCodes, Option.some.injEq] at h
    subst h
    exact ⟨rfl, fun j h => by cases h⟩
  | k + 1, cs, hk, h => by
    rw [mkCodes, Option.bind_eq_some_iff] at h
    obtain ⟨cs', h1, h2⟩ := h
    rw [Option.bind_eq_some_iff] at h2
    obtain ⟨c, h2, h3⟩ := h2
    simp only [Option.some.injEq] at h3
    obtain ⟨e1, e2⟩ := mkCodes_get (by omega) h1
    subst h3
    refine ⟨by simp [e1], fun j hj => ?_⟩
    by_cases hjk : j < k
    · rw [e2 j hjk, List.getD_eq_getElem?_getD, List.getD_eq_getElem?_getD, List.getElem?_append_left (by omega)]
    · obtain rfl : j = k := by omega
      rw [h2, List.getD_eq_getElem?_getD, List.getElem?_append_right (by omega), e1]
      simp
theorem flat_part : ∀ (cs : List (List Int)) (L : List FnD) (j : Nat), j < cs.length → (∀ i, i < cs.length → (cs.getD i []).length = ((L.map FnD.code)[i]!).length) → ((cs.flatten).drop (sz L j)).take (cs.getD j []).length = cs.getD j [] := by
  intro cs L j hj hl
  have hs : sz L j = ((cs.take j).flatten).length := by
    have : ∀ k, k ≤ j → sz L k = ((cs.take k).flatten).length := by
      intro k hk
      induction k with
      | zero => rfl
      | succ k ih =>
        have hkc : k < cs.length := by omega
        rw [sz, ih (by omega), ← hl k hkc, List.take_add_one, List.getElem?_eq_getElem hkc, List.getD_eq_getElem?_getD, List.getElem?_eq_getElem hkc, List.flatten_append, List.length_append]
        simp
    exact this j (Nat.le_refl _)
  have hsplit : cs = cs.take j ++ cs.getD j [] :: cs.drop (j + 1) := by
    rw [List.getD_eq_getElem?_getD, List.getElem?_eq_getElem hj]
    simp
  have hfl : cs.flatten = (cs.take j).flatten ++ (cs.getD j [] ++ (cs.drop (j + 1)).flatten) := by
    conv => lhs; rw [hsplit]
    rw [List.flatten_append, List.flatten_cons]
  rw [hfl, hs, List.drop_left, List.take_left]
theorem part_word {L : List FnD} {a : Int} {ws : List Int} (hi : ∀ f ∈ L, ∀ i ∈ f.code, U32 i.imm) (h0 : 0 ≤ a) (h1 : a + imgSize L ≤ 1024) (hp : progMay L = true) (h : imgMake L a = (ws, 0)) {fn : Nat} (hfn : fn < L.length) :
    ∃ c, imgPart L fn a (a + ((L.length + sz L fn : Nat) : Int)) = (c, 0) ∧ c.length = ((L.map FnD.code)[fn]!).length ∧ (ws.drop (L.length + sz L fn)).take c.length = c ∧ L.length + sz L fn + c.length = L.length + sz L (fn + 1) := by
  have hat : atOf L a fn = a + ((L.length + sz L fn : Nat) : Int) := by
    unfold atOf
    omega
  have hszm := sz_mono L (show fn + 1 ≤ L.length by omega)
  have hsz1 : sz L (fn + 1) = sz L fn + ((L.map FnD.code)[fn]!).length := rfl
  have hsize := size_may hp
  have e := h
  unfold imgMake at e
  rw [if_pos ⟨hp, h0, h1⟩] at e
  cases hc : mkCodes L a L.length with
  | none => rw [hc] at e; simp at e
  | some cs =>
    rw [hc] at e
    simp only [Prod.mk.injEq, and_true] at e
    obtain ⟨e1, e2⟩ := mkCodes_get (Nat.le_refl _) hc
    obtain ⟨-, -, e3, -⟩ := mkCodes_all hi L.length cs (Nat.le_refl _) hc
    have hlen : ∀ i, i < cs.length → (cs.getD i []).length = ((L.map FnD.code)[i]!).length := fun i hil => by
      rw [List.getD_eq_getElem?_getD, List.getElem?_eq_getElem hil, code_nth (show i < L.length by omega)]
      exact e3 i hil (by omega)
    have h2 := e2 fn hfn
    rw [hat] at h2
    have hcl := hlen fn (by omega)
    refine ⟨cs.getD fn [], ?_, hcl, ?_, by omega⟩
    · unfold imgPart
      rw [show ((fn : Int)).toNat = fn by omega, if_pos ⟨hp, by omega, by omega, h0, by omega, by omega, by omega⟩, h2]
    · rw [← e, ← List.drop_drop]
      have hdl : (mkDoors L a L.length).length = L.length := mkDoors_len L a L.length
      have hdr : List.drop L.length (mkDoors L a L.length ++ cs.flatten) = cs.flatten := by
        generalize mkDoors L a L.length = dd at hdl
        rw [← hdl, List.drop_left]
      rw [hdr]
      exact flat_part cs L fn (by omega) hlen
end Go.Proofs.YtebdnobgdimdoaaGreat
