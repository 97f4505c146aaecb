/- Plain facts on memories for the laws of chapter 13. -/
import Derived.Test.YtegdnmlpoglfeaaArLaw1
set_option linter.unusedVariables false
set_option linter.unusedSimpArgs false
namespace Go.Proofs.Ytegdnmlpoglfeaa
open Go.RowKit

theorem ok_nil {room : Int} (h0 : 0 ≤ room) (h1 : room ≤ 1024) : Ok ⟨room, []⟩ := ⟨h0, h1, fun i hi => by simp at hi⟩
theorem may_nil {room : Int} (h0 : 0 ≤ room) (h1 : room ≤ 1024) : mayM ⟨room, []⟩ = true := mayM_iff.2 (ok_nil h0 h1)
theorem gaps_nil {room : Int} (h : 0 < room) : gapsL ⟨room, []⟩ = [(0, room)] := by
  unfold gapsL
  simp only [List.length_nil, Nat.zero_add, gapsUpto, List.nil_append]
  unfold gapAt nextAt prevEnd
  simp [h]
theorem gaps_nil0 : gapsL ⟨0, []⟩ = [] := by decide
theorem find_nil {room n : Int} (h0 : 0 ≤ room) (h1 : room ≤ 1024) (hn : 1 ≤ n) : findM ⟨room, []⟩ n = if n ≤ room then (0, true) else (0, false) := by
  unfold findM
  rw [if_pos ⟨may_nil h0 h1, hn⟩]
  by_cases h : 0 < room
  · rw [gaps_nil h]
    unfold findL
    by_cases hh : n ≤ room
    · rw [if_pos hh]
      simp [hh]
    · rw [if_neg hh]
      simp [hh]
  · obtain rfl : room = 0 := by omega
    rw [gaps_nil0, if_neg (by omega)]
    rfl
theorem find_nil0 {room n : Int} (hn : n < 1) : findM ⟨room, []⟩ n = (0, false) := by
  unfold findM
  rw [if_neg (fun h => by have := h.2; omega)]
theorem left_nil {room : Int} (h0 : 0 ≤ room) (h1 : room ≤ 1024) : leftM ⟨room, []⟩ = room := by
  rw [left_all (ok_nil h0 h1)]
  simp [taken]
theorem taken_cons (b : BlkD) (l : List BlkD) : taken (b :: l) = (b.w.length : Int) + taken l := by simp [taken]
/-- One block that takes all. -/
theorem ok_one {room id : Int} {w : List Int} (h0 : 0 < room) (h1 : room ≤ 1024) (hid : 1 ≤ id) (hw : (w.length : Int) = room) : Ok ⟨room, [⟨id, 0, w⟩]⟩ := by
  refine ⟨by simp only; omega, h1, fun i hi => ?_⟩
  obtain rfl : i = 0 := by simpa using hi
  refine ⟨hid, fun k hk => absurd hk (Nat.not_lt_zero _), ?_, ?_, ?_, ?_⟩
  · show 0 < w.length; omega
  · simp [prevEnd]
  · show (0 : Int) + (w.length : Int) ≤ room; omega
  · show (w.length : Int) ≤ room; omega
theorem put_whole {room id : Int} {w : List Int} (h0 : 0 < room) (h1 : room ≤ 1024) (hid : 1 ≤ id) (hw : (w.length : Int) = room) : putM ⟨room, []⟩ ⟨id, 0, w⟩ = (⟨room, [⟨id, 0, w⟩]⟩, 0) := by
  unfold putM
  have hne : w ≠ [] := fun e => by rw [e] at hw; simp at hw; omega
  rw [if_pos ⟨may_nil (by omega) h1, hid, hne⟩]
  have hx : idxR [] id < 0 := by simp [idxR, Lib.idxBy, Lib.idxByFrom]
  have hf : fitsL 0 (w.length : Int) (gapsL ⟨room, []⟩) = true := by
    rw [gaps_nil h0]
    unfold fitsL
    simp only [List.any_cons, List.any_nil, Bool.or_false, decide_eq_true_iff]
    omega
  simp only
  rw [if_pos ⟨hx, hf⟩]
  rfl
theorem find_whole {room id : Int} {w : List Int} (h0 : 0 < room) (h1 : room ≤ 1024) (hid : 1 ≤ id) (hw : (w.length : Int) = room) {n : Int} : findM ⟨room, [⟨id, 0, w⟩]⟩ n = (0, false) := by
  unfold findM
  have hg : gapsL ⟨room, [⟨id, 0, w⟩]⟩ = [] := by
    unfold gapsL
    simp only [List.length_cons, List.length_nil, Nat.zero_add, gapsUpto, List.nil_append]
    unfold gapAt nextAt
    rw [prevEnd_succ]
    simp [prevEnd, hw]
  rw [hg]
  split <;> rfl
theorem left_whole {room id : Int} {w : List Int} (h0 : 0 < room) (h1 : room ≤ 1024) (hid : 1 ≤ id) (hw : (w.length : Int) = room) : leftM ⟨room, [⟨id, 0, w⟩]⟩ = 0 := by
  rw [left_all (ok_one h0 h1 hid hw), taken_cons]
  simp [taken]
  omega
theorem fetch_whole {room id : Int} {w : List Int} (h0 : 0 < room) (h1 : room ≤ 1024) (hid : 1 ≤ id) (hw : (w.length : Int) = room) {p : Int} (hp0 : 0 ≤ p) (hp : p < room) : fetchM ⟨room, [⟨id, 0, w⟩]⟩ p = (w.getD p.toNat 0, id, true) := by
  have hok := ok_one h0 h1 hid hw
  unfold fetchM
  rw [if_pos (mayM_iff.2 hok)]
  have hb : blkOf [⟨id, 0, w⟩] p = some 0 := (blkOf_some hok).2 ⟨by simp, by simpa using hp0, by simp; omega⟩
  simp only
  rw [hb]
  simp
theorem fetch_whole_out {room id : Int} {w : List Int} (h0 : 0 < room) (h1 : room ≤ 1024) (hid : 1 ≤ id) (hw : (w.length : Int) = room) {p : Int} (hp : room ≤ p) : fetchM ⟨room, [⟨id, 0, w⟩]⟩ p = (0, 0, false) := by
  have hok := ok_one h0 h1 hid hw
  unfold fetchM
  rw [if_pos (mayM_iff.2 hok)]
  have hb : blkOf [⟨id, 0, w⟩] p = none := blkOf_none.2 fun i hi => by
    obtain rfl : i = 0 := by simpa using hi
    simp
    omega
  simp only
  rw [hb]
end Go.Proofs.Ytegdnmlpoglfeaa
