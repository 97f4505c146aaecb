/- The document's Put (chapter 13) by its contract: it is what arena's is. -/
import Derived.Test.YteopeocgbfdofaaZRf4
set_option linter.unusedVariables false
set_option linter.unusedSimpArgs false
namespace Go.Proofs.Yteopeocgbfdofaa
open Go.RowKit

theorem rowY_slS {N : Nat} {zs : List (BlkD × Value)} {v : Value} {X : World} (ho : X.ownsRow N 69 3 v zs.length (zs.flatMap bz)) (hd : ∀ z ∈ zs, X.ownsRow N 37 1 z.2 z.1.w.length (u64s z.1.w)) (hw : ∀ z ∈ zs, BlkWf z.1) : ∃ A c, v = .slice A zs.length c ∧ SlS N X A c (zs.map Prod.fst) := by
  have key : ∀ Y, Abv N X Y → ∃ A c, v = .slice A zs.length c ∧ Sl BlkR 3 Y A c (zs.map Prod.fst) := fun Y hY =>
    sl_of_rows (R := BlkR) bz bz_len Prod.fst (own_abv ho hY) fun z hz => by
      obtain ⟨A, c, e, hs⟩ := own_ints (own_abv (hd z hz) hY) rfl (hw z hz).1
      exact ⟨A, c, by unfold bz; rw [e], hs, (hw z hz).2.1, (hw z hz).2.2⟩
  obtain ⟨A, c, e, -⟩ := key X (Abv.refl _ _)
  refine ⟨A, c, e, fun Y hb => ?_⟩
  obtain ⟨A', c', e', hs⟩ := key Y hb
  rw [e] at e'
  cases e'
  exact hs
theorem RowZ.cells {N : Nat} {zs : List (BlkD × Value)} {v : Value} {X : World} (h : RowZ N zs v X) {i : Nat} (hi : i < zs.length) : ∃ D c A ck, v = .slice (some ⟨D, 0, none⟩) zs.length c ∧ zs[i].2 = .slice A zs[i].1.w.length ck ∧ X.cell? ⟨D, i * 3, none⟩ = some (.int .i64 zs[i].1.id) ∧ X.cell? ⟨D, i * 3 + 1, none⟩ = some (.int .i64 zs[i].1.at') ∧ X.cell? ⟨D, i * 3 + 2, none⟩ = some (.slice A zs[i].1.w.length ck) := by
  obtain ⟨A, ck, e2⟩ := own_slice (h.words _ (List.getElem_mem hi))
  rcases own_openK h.own with ⟨rfl, h0⟩ | ⟨D, c, rfl, -, -, -, -, -, hcl⟩
  · omega
  · have g : ∀ j, j < 3 → (zs.flatMap bz)[i * 3 + j]? = (bz zs[i])[j]? := fun j hj => flat_get bz 3 bz_len zs i j hi hj
    refine ⟨D, c, A, ck, rfl, e2, hcl (i * 3 + 0) _ (by rw [g 0 (by decide)]; rfl), hcl (i * 3 + 1) _ (by rw [g 1 (by decide)]; rfl), hcl (i * 3 + 2) _ (by rw [g 2 (by decide)]; unfold bz; rw [e2]; rfl)⟩
/-- What has been put behind 'i' rounds. -/
def outL (l : List BlkD) (ix : Nat) (b : BlkD) (i : Nat) : List BlkD := if i ≤ ix then l.take i else (ins l ix b).take (i + 1)
theorem ins_getE {l : List BlkD} {ix : Nat} (hi : ix ≤ l.length) (b : BlkD) {j : Nat} (hj : j < (ins l ix b).length) : (ins l ix b)[j] = if j < ix then l[j]! else if j = ix then b else l[j - 1]! := by
  rw [← getElem!_pos (ins l ix b) j hj, ins_get hi]
theorem outL_lt {l : List BlkD} {ix i : Nat} (b : BlkD) (h : i < ix) (hx : ix ≤ l.length) : outL l ix b (i + 1) = outL l ix b i ++ [l[i]!] := by
  unfold outL
  rw [if_pos (show i + 1 ≤ ix by omega), if_pos (show i ≤ ix by omega), List.take_succ_eq_append_getElem (show i < l.length by omega), getElem!_pos l i (show i < l.length by omega)]
theorem ins_take {l : List BlkD} {ix : Nat} (b : BlkD) (hx : ix ≤ l.length) : (ins l ix b).take (ix + 1) = l.take ix ++ [b] := by
  unfold ins
  rw [List.take_append, List.length_take, Nat.min_eq_left hx, List.take_take, Nat.min_eq_right (by omega), Nat.add_sub_cancel_left]
  rfl
theorem outL_eq {l : List BlkD} {ix : Nat} (b : BlkD) (hx : ix < l.length) : outL l ix b (ix + 1) = (outL l ix b ix ++ [b]) ++ [l[ix]!] := by
  have hlen := ins_length (i := ix) (show ix ≤ l.length by omega) b
  unfold outL
  rw [if_neg (show ¬ ix + 1 ≤ ix by omega), if_pos (Nat.le_refl _), ← ins_take b (show ix ≤ l.length by omega), List.take_succ_eq_append_getElem (show ix + 1 < (ins l ix b).length by omega), ins_getE (by omega), if_neg (by omega), if_neg (by omega), Nat.add_sub_cancel]
theorem outL_eq_end {l : List BlkD} {ix : Nat} (b : BlkD) (hx : ix = l.length) : outL l ix b (ix + 1) = outL l ix b ix ++ [b] := by
  have hlen := ins_length (i := ix) (show ix ≤ l.length by omega) b
  unfold outL
  rw [if_neg (show ¬ ix + 1 ≤ ix by omega), if_pos (Nat.le_refl _), ← ins_take b (show ix ≤ l.length by omega), List.take_of_length_le (by omega), List.take_of_length_le (by omega)]
theorem outL_gt {l : List BlkD} {ix i : Nat} (b : BlkD) (h : ix < i) (hi : i < l.length) : outL l ix b (i + 1) = outL l ix b i ++ [l[i]!] := by
  have hlen := ins_length (i := ix) (show ix ≤ l.length by omega) b
  unfold outL
  rw [if_neg (show ¬ i + 1 ≤ ix by omega), if_neg (show ¬ i ≤ ix by omega), List.take_succ_eq_append_getElem (show i + 1 < (ins l ix b).length by omega), ins_getE (by omega), if_neg (by omega), if_neg (by omega), Nat.add_sub_cancel]
theorem outL_gt_end {l : List BlkD} {ix i : Nat} (b : BlkD) (h : ix < i) (hi : i = l.length) : outL l ix b (i + 1) = outL l ix b i := by
  have hlen := ins_length (i := ix) (show ix ≤ l.length by omega) b
  unfold outL
  rw [if_neg (show ¬ i + 1 ≤ ix by omega), if_neg (show ¬ i ≤ ix by omega), List.take_of_length_le (by omega), List.take_of_length_le (by omega)]
theorem outL_end {l : List BlkD} {ix : Nat} (b : BlkD) (h : ix ≤ l.length) : outL l ix b (l.length + 1) = ins l ix b := by
  have hlen := ins_length h b
  unfold outL
  rw [if_neg (show ¬ l.length + 1 ≤ ix by omega), List.take_of_length_le (by omega)]
/-- What a round of Put's loop knows. -/
structure PutQ (w WM : World) (Wb Pb : Nat) (cap : Int) (v0 : Value) (zs : List (BlkD × Value)) (v : Value) (X : World) : Prop where
  bel : Bel WM X
  was : Blk X Wb 45 #[.int .i64 cap, v0]
  box : Blk X Pb 45 #[.int .i64 cap, v]
  own : X.ownsRow WM.heap.size 69 3 v zs.length (zs.flatMap bz)
  words : ∀ z ∈ zs, X.ownsRow w.heap.size 37 1 z.2 z.1.w.length (u64s z.1.w)
theorem PutQ.mono {w WM : World} {Wb Pb : Nat} {cap : Int} {v0 : Value} {zs : List (BlkD × Value)} {v : Value} {X Y : World} (h : PutQ w WM Wb Pb cap v0 zs v X) (hb : Bel X Y) : PutQ w WM Wb Pb cap v0 zs v Y :=
  ⟨h.bel.trans hb, h.was.bel hb, h.box.bel hb, own_bel h.own hb, fun z hz => own_bel (h.words z hz) hb⟩
theorem PutQ.push {w WM : World} {Wb Pb : Nat} {cap : Int} {v0 : Value} {zs : List (BlkD × Value)} {v v' : Value} {X Y : World} {z : BlkD × Value} {n : Nat} (h : PutQ w WM Wb Pb cap v0 zs v X) (hWP : Wb ≠ Pb) (hMP : WM.heap.size ≤ Pb) (hn : n = zs.length + 1) (hz : X.ownsRow w.heap.size 37 1 z.2 z.1.w.length (u64s z.1.w)) (ho : Y.ownsRow WM.heap.size 69 3 v' n (zs.flatMap bz ++ bz z)) (hg : X.grownBy Y v.ownBlock) : PutQ w WM Wb Pb cap v0 (zs ++ [z]) v' (Y.setCell ⟨Pb, 1, none⟩ v') := by
  subst hn
  have hbx := blk_grown h.box h.own (by decide) hg
  refine ⟨(row_low h.own WM (Nat.le_refl _) h.bel hg).setCell (p := ⟨Pb, 1, none⟩) hMP v', (blk_grown h.was h.own (by decide) hg).other (p := ⟨Pb, 1, none⟩) hWP v', Blk.set (cs := #[.int .i64 cap, v]) hbx 1 v', ?_, fun y hy => ?_⟩
  · rw [List.length_append, List.flatMap_append, List.flatMap_singleton]
    exact own_put ho hbx (by decide) 1 v'
  · rcases List.mem_append.1 hy with hy | hy
    · exact own_put (own_grown (h.words y hy) h.own (by decide) hg) hbx (by decide) 1 v'
    · obtain rfl := List.mem_singleton.1 hy
      exact own_put (own_grown hz h.own (by decide) hg) hbx (by decide) 1 v'
/-- What the regions read. -/
structure PutSQ (WM : World) (Wb Pb : Nat) (v0 v : Value) (X : World) : Prop where
  bel : Bel WM X
  wc : X.cell? ⟨Wb, 1, none⟩ = some v0
  c : X.cell? ⟨Pb, 1, none⟩ = some v
  f : X.frozen? ⟨Pb, 1, none⟩ = false
theorem PutQ.s {w WM : World} {Wb Pb : Nat} {cap : Int} {v0 : Value} {zs : List (BlkD × Value)} {v : Value} {X : World} (h : PutQ w WM Wb Pb cap v0 zs v X) : PutSQ WM Wb Pb v0 v X := ⟨h.bel, h.was.cell 1 rfl, h.box.cell 1 rfl, h.box.frozen 1⟩
theorem PutSQ.mono {WM : World} {Wb Pb : Nat} {v0 v : Value} {X Y : World} (h : PutSQ WM Wb Pb v0 v X) (hb : Bel X Y) : PutSQ WM Wb Pb v0 v Y := ⟨h.bel.trans hb, hb.cell h.wc, hb.cell h.c, (hb.frozen h.c).trans h.f⟩
set_option maxHeartbeats 16000000 in
set_option maxRecDepth 100000 in
theorem put13_any (cap : Int) (A : Option Addr) (nn c : Nat) (l : List BlkD) (id place : Int) (B : Option Addr) (m c2 : Nat) (ws : List Int) (w : World) (h : Sl BlkR 3 w A c l) (hn : Hid (l.length = nn)) (hlen : Hid (∀ i, i < l.length → (l[i]!).w.length ≤ 4000)) (hw : Sl (IntR .u64) 1 w B c2 ws) (hm : Hid (ws.length = m)) (hm4 : m ≤ 4096) (hwf1 : Hid ((Lit.int .i64 id).wf = true)) (hwf2 : Hid ((Lit.int .i64 place).wf = true)) (cap' : Int) (l' : List BlkD) (nl : Nat) (e' : Int) (hr : Hid (putM ⟨cap, l⟩ ⟨id, place, ws⟩ = (⟨cap', l'⟩, e'))) (hnl : Hid (l'.length = nl)) :
    Calls Try.prog 40 #[.agg #[.int .i64 cap, .slice A nn c], .int .i64 id, .int .i64 place, .slice B m c2] w fun e w' => ∃ A' c', e = .returned (.tuple #[.agg #[.int .i64 cap', .slice A' nl c'], .int .i64 e']) ∧ SlS w.heap.size w' A' c' l' ∧ Bel w w' := by
  have HS0 := Lib.hid h
  have HW0 := Lib.hid hw
  have HM4 := Lib.hid hm4
  clear h hw hm4
  have hm4 := HM4.out
  obtain ⟨mb, hmb⟩ : ∃ mb, Hid (mayM ⟨cap, l⟩ = mb) := ⟨_, Lib.hid rfl⟩
  obtain ⟨ix, hix⟩ : ∃ ix, Hid (idxR l id = ix) := ⟨_, Lib.hid rfl⟩
  have BM := (Blk.new w 45 #[.int .i64 cap, .slice A nn c]).alloc (.cells #[.int .i64 0, .slice none 0 0] 45)
  have BR := Blk.new (w.alloc (.cells #[.int .i64 cap, .slice A nn c] 45)) 45 #[.int .i64 0, .slice none 0 0]
  rw [World.size_alloc] at BR
  have HB2 := Lib.hid (((Bel.refl w).alloc (.cells #[.int .i64 cap, .slice A nn c] 45)).alloc (.cells #[.int .i64 0, .slice none 0 0] 45))
  have q0 := BM.cell 0 (v := .int .i64 cap) rfl
  have q1 := BM.cell 1 (v := .slice A nn c) rfl
  have BM := Lib.hid BM
  have BR := Lib.hid BR
  go_enter Try.func40, Try.ntmps40
  go_wp2_with fail
  generalize (w.alloc (.cells #[.int .i64 cap, .slice A nn c] 45)).alloc (.cells #[.int .i64 0, .slice none 0 0] 45) = W1 at *
  obtain ⟨g, hg⟩ : ∃ g, w.heap.size = g := ⟨_, rfl⟩
  have hgw : w.heap.size ≤ g := by omega
  rw [hg] at q0 q1 BM BR
  simp only [hg]
  clear hg
  refine (may13_any cap A nn c l mb _ (HS0.out.mono BlkR.mono HB2.out) hn hlen hmb).mono ?_
  rintro e w1 ⟨rfl, hb⟩
  have HB2 := Lib.hid (HB2.out.trans hb)
  have BM := Lib.hid (BM.out.bel hb)
  have BR := Lib.hid (BR.out.bel hb)
  clear hb q0 q1
  have r0 : w1.cell? ⟨g + 1, 0, none⟩ = some (.int .i64 0) := BR.out.cell 0 rfl
  have r1 : w1.cell? ⟨g + 1, 1, none⟩ = some (.slice none 0 0) := BR.out.cell 1 rfl
  have fr0 := BR.out.frozen 0
  have fr1 := BR.out.frozen 1
  have q0 : w1.cell? ⟨g, 0, none⟩ = some (.int .i64 cap) := BM.out.cell 0 rfl
  have q1 : w1.cell? ⟨g, 1, none⟩ = some (.slice A nn c) := BM.out.cell 1 rfl
  have ZERO : ∀ k : Int, Hid (putM ⟨cap, l⟩ ⟨id, place, ws⟩ = (⟨0, []⟩, k) → (cap' = 0 ∧ l' = [] ∧ e' = k)) := fun k => Lib.hid (fun e => by
    have := hr.out
    rw [e] at this
    simp only [Prod.mk.injEq, MemD.mk.injEq] at this
    exact ⟨this.1.1.symm, this.1.2.symm, this.2.symm⟩)
  cases mb
  · obtain ⟨rfl, rfl, rfl⟩ := (ZERO 1).out (by unfold putM; rw [if_neg (by rw [hmb.out]; simp)])
    obtain rfl : nl = 0 := by rw [← hnl.out]; rfl
    obtain ⟨e0, e1⟩ := res_two BR.out (.int .i64 0) (.slice none 0 0)
    have E0 := Lib.hid e0
    have E1 := Lib.hid e1
    have HFIN := Lib.hid ((HB2.out.setCell (p := ⟨g + 1, 0, none⟩) (by simp only; omega) (.int .i64 0)).setCell (p := ⟨g + 1, 1, none⟩) (by simp only; omega) (.slice none 0 0))
    clear e0 e1 hr ZERO
    go_wp2_with fail
    refine bodyPost_ret (v := .tuple #[.agg #[.int .i64 0, .slice none 0 0], .int .i64 1]) ?_ rfl ⟨none, 0, rfl, SlS.nil _ _ _ _ (by decide), HFIN.out⟩
    have h1 := E0.out
    have h2 := E1.out
    simp [results, Try.results40, go_sem, h1, h2]
  have HOK : Hid (Ok ⟨cap, l⟩) := Lib.hid (mayM_iff.1 hmb.out)
  by_cases hid1 : id < 1
  · obtain ⟨rfl, rfl, rfl⟩ := (ZERO 1).out (by unfold putM; rw [if_neg (by simp only; omega)])
    obtain rfl : nl = 0 := by rw [← hnl.out]; rfl
    obtain ⟨e0, e1⟩ := res_two BR.out (.int .i64 0) (.slice none 0 0)
    have E0 := Lib.hid e0
    have E1 := Lib.hid e1
    have HFIN := Lib.hid ((HB2.out.setCell (p := ⟨g + 1, 0, none⟩) (by simp only; omega) (.int .i64 0)).setCell (p := ⟨g + 1, 1, none⟩) (by simp only; omega) (.slice none 0 0))
    clear e0 e1 hr ZERO
    go_wp2_with fail
    refine bodyPost_ret (v := .tuple #[.agg #[.int .i64 0, .slice none 0 0], .int .i64 1]) ?_ rfl ⟨none, 0, rfl, SlS.nil _ _ _ _ (by decide), HFIN.out⟩
    have h1 := E0.out
    have h2 := E1.out
    simp [results, Try.results40, go_sem, h1, h2]
  by_cases hm0 : (m : Int) < 1
  · have HW : Hid (ws = []) := Lib.hid (List.eq_nil_of_length_eq_zero (by rw [hm.out]; omega))
    obtain ⟨rfl, rfl, rfl⟩ := (ZERO 1).out (by unfold putM; rw [if_neg (by rw [HW.out]; simp)])
    obtain rfl : nl = 0 := by rw [← hnl.out]; rfl
    obtain ⟨e0, e1⟩ := res_two BR.out (.int .i64 0) (.slice none 0 0)
    have E0 := Lib.hid e0
    have E1 := Lib.hid e1
    have HFIN := Lib.hid ((HB2.out.setCell (p := ⟨g + 1, 0, none⟩) (by simp only; omega) (.int .i64 0)).setCell (p := ⟨g + 1, 1, none⟩) (by simp only; omega) (.slice none 0 0))
    clear e0 e1 hr ZERO
    go_wp2_with fail
    refine bodyPost_ret (v := .tuple #[.agg #[.int .i64 0, .slice none 0 0], .int .i64 1]) ?_ rfl ⟨none, 0, rfl, SlS.nil _ _ _ _ (by decide), HFIN.out⟩
    have h1 := E0.out
    have h2 := E1.out
    simp [results, Try.results40, go_sem, h1, h2]
  have HC1 : Hid (mayM ⟨cap, l⟩ = true ∧ 1 ≤ id ∧ ws ≠ []) := Lib.hid ⟨hmb.out, by omega, fun e => by have := hm.out; rw [e] at this; simp only [List.length_nil] at this; omega⟩
  have HM1 : Hid (1 ≤ (m : Int)) := Lib.hid (by omega)
  go_wp2_with fail
  refine (find13_any cap A nn c l id ix _ (HS0.out.mono BlkR.mono HB2.out) hn hix).mono ?_
  rintro e w3 ⟨rfl, hb⟩
  have HB2 := Lib.hid (HB2.out.trans hb)
  have BM := Lib.hid (BM.out.bel hb)
  have BR := Lib.hid (BR.out.bel hb)
  clear hb q0 q1 r0 r1 fr0 fr1
  have r0 : w3.cell? ⟨g + 1, 0, none⟩ = some (.int .i64 0) := BR.out.cell 0 rfl
  have r1 : w3.cell? ⟨g + 1, 1, none⟩ = some (.slice none 0 0) := BR.out.cell 1 rfl
  have fr0 := BR.out.frozen 0
  have fr1 := BR.out.frozen 1
  have q0 : w3.cell? ⟨g, 0, none⟩ = some (.int .i64 cap) := BM.out.cell 0 rfl
  have q1 : w3.cell? ⟨g, 1, none⟩ = some (.slice A nn c) := BM.out.cell 1 rfl
  clear hid1 hm0
  by_cases hxi : 0 ≤ ix
  · obtain ⟨rfl, rfl, rfl⟩ := (ZERO 4).out (by unfold putM; rw [if_pos (by exact HC1.out), if_neg (by simp only; rw [hix.out]; omega)])
    obtain rfl : nl = 0 := by rw [← hnl.out]; rfl
    obtain ⟨e0, e1⟩ := res_two BR.out (.int .i64 0) (.slice none 0 0)
    have E0 := Lib.hid e0
    have E1 := Lib.hid e1
    have HFIN := Lib.hid ((HB2.out.setCell (p := ⟨g + 1, 0, none⟩) (by simp only; omega) (.int .i64 0)).setCell (p := ⟨g + 1, 1, none⟩) (by simp only; omega) (.slice none 0 0))
    clear e0 e1 hr ZERO
    go_wp2_with fail
    refine bodyPost_ret (v := .tuple #[.agg #[.int .i64 0, .slice none 0 0], .int .i64 4]) ?_ rfl ⟨none, 0, rfl, SlS.nil _ _ _ _ (by decide), HFIN.out⟩
    have h1 := E0.out
    have h2 := E1.out
    simp [results, Try.results40, go_sem, h1, h2]
  obtain ⟨fb, hfb⟩ : ∃ fb, Hid (freeM ⟨cap, l⟩ place m = fb) := ⟨_, Lib.hid rfl⟩
  have HFF : Hid (fitsL place ws.length (gapsL ⟨cap, l⟩) = fb) := Lib.hid (by rw [← hfb.out, hm.out]; exact (free_fits HOK.out HM1.out).symm)
  have HIXN : Hid (idxR l id < 0) := Lib.hid (by rw [hix.out]; omega)
  go_wp2_with fail
  refine (free_any cap A nn c l place m fb _ (HS0.out.mono BlkR.mono HB2.out) hn HOK hfb).mono ?_
  rintro e w4 ⟨rfl, hb⟩
  have HB2 := Lib.hid (HB2.out.trans hb)
  have BM := Lib.hid (BM.out.bel hb)
  have BR := Lib.hid (BR.out.bel hb)
  clear hb q0 q1 r0 r1 fr0 fr1
  have r0 : w4.cell? ⟨g + 1, 0, none⟩ = some (.int .i64 0) := BR.out.cell 0 rfl
  have r1 : w4.cell? ⟨g + 1, 1, none⟩ = some (.slice none 0 0) := BR.out.cell 1 rfl
  have fr0 := BR.out.frozen 0
  have fr1 := BR.out.frozen 1
  have q0 : w4.cell? ⟨g, 0, none⟩ = some (.int .i64 cap) := BM.out.cell 0 rfl
  have q1 : w4.cell? ⟨g, 1, none⟩ = some (.slice A nn c) := BM.out.cell 1 rfl
  cases fb
  · obtain ⟨rfl, rfl, rfl⟩ := (ZERO 4).out (by unfold putM; rw [if_pos (by exact HC1.out), if_neg (by simp only; rw [HFF.out]; simp)])
    obtain rfl : nl = 0 := by rw [← hnl.out]; rfl
    obtain ⟨e0, e1⟩ := res_two BR.out (.int .i64 0) (.slice none 0 0)
    have E0 := Lib.hid e0
    have E1 := Lib.hid e1
    have HFIN := Lib.hid ((HB2.out.setCell (p := ⟨g + 1, 0, none⟩) (by simp only; omega) (.int .i64 0)).setCell (p := ⟨g + 1, 1, none⟩) (by simp only; omega) (.slice none 0 0))
    clear e0 e1 hr ZERO
    go_wp2_with fail
    refine bodyPost_ret (v := .tuple #[.agg #[.int .i64 0, .slice none 0 0], .int .i64 4]) ?_ rfl ⟨none, 0, rfl, SlS.nil _ _ _ _ (by decide), HFIN.out⟩
    have h1 := E0.out
    have h2 := E1.out
    simp [results, Try.results40, go_sem, h1, h2]
  have HR : Hid (cap' = cap ∧ l' = ins l (insIdx l place) ⟨id, place, ws⟩ ∧ e' = 0) := Lib.hid (by
    have := hr.out
    unfold putM at this
    rw [if_pos (by exact HC1.out), if_pos (by exact ⟨HIXN.out, HFF.out⟩)] at this
    simp only [Prod.mk.injEq, MemD.mk.injEq] at this
    exact ⟨this.1.1.symm, this.1.2.symm, this.2.symm⟩)
  obtain ⟨ip, hip⟩ : ∃ ip, Hid (insIdx l place = ip) := ⟨_, Lib.hid rfl⟩
  have HIP : Hid (ip ≤ l.length ∧ (∀ j, j < ip → (l[j]!).at' < place) ∧ (ip < l.length → place < (l[ip]!).at')) := Lib.hid (by
    obtain ⟨h1, h2, h3⟩ := insIdx_facts l place
    rw [hip.out] at h1 h2 h3
    refine ⟨h1, h2, fun hl => ?_⟩
    have h4 := h3 hl
    have hb := (HOK.out.blk ip hl).len
    simp only at hb
    have hfr := hfb.out
    unfold freeM at hfr
    rw [decide_eq_true_iff] at hfr
    have h5 := hfr.2.2.2 0 (by have := HM1.out; omega)
    rw [Int.natCast_zero, Int.add_zero, blkOf_none] at h5
    have h6 := h5 ip hl
    simp only at h6
    omega)
  have HNN : Hid (nn ≤ 1024) := Lib.hid (by have := HOK.out.few; simp only [hn.out] at this; exact this)
  rw [hip.out] at HR
  obtain ⟨rfl, rfl, rfl⟩ := HR.out
  have hnn := HNN.out
  clear hr ZERO HR
  have HNL : Hid (nl = nn + 1) := Lib.hid (by rw [← hnl.out, ins_length HIP.out.1, hn.out])
  go_wp2_with fail
  clear hxi
  refine (own13_any cap' A nn c l _ (HS0.out.mono BlkR.mono HB2.out) hn (by omega) hlen).mono ?_
  rintro e w5 ⟨zs0, v0, rfl, hzl, hrz, hb⟩
  have HRZ := Lib.hid (hrz.down HB2.out.size)
  have HZL := Lib.hid hzl
  have HZ0 : Hid (zs0.length = nn) := Lib.hid (by rw [← hn.out, ← HZL.out, List.length_map])
  obtain ⟨A0, c0, rfl⟩ := own_slice hrz.own
  rw [HZ0.out] at HRZ ⊢
  clear hrz hzl
  have HBWM := Lib.hid (HB2.out.trans hb)
  have BM := Lib.hid (BM.out.bel hb)
  have BRM := Lib.hid (BR.out.bel hb)
  clear hb q0 q1 r0 r1 fr0 fr1 HB2 BR
  have q0 := (BM.out.alloc (.cells #[.int .i64 cap', .slice A0 nn c0] 45)).cell 0 (v := .int .i64 cap') rfl
  have HI0 : Hid (PutQ w w5 w5.heap.size (w5.heap.size + 1) cap' (.slice A0 nn c0) [] (.slice none 0 0) ((w5.alloc (.cells #[.int .i64 cap', .slice A0 nn c0] 45)).alloc (.cells #[.int .i64 cap', .slice none 0 0] 45))) := Lib.hid (by
    have k2 := Blk.new (w5.alloc (.cells #[.int .i64 cap', .slice A0 nn c0] 45)) 45 #[.int .i64 cap', .slice none 0 0]
    rw [World.size_alloc] at k2
    exact ⟨((Bel.refl w5).alloc _).alloc _, (Blk.new w5 45 #[.int .i64 cap', .slice A0 nn c0]).alloc _, k2, ⟨by simp, .inl ⟨rfl, rfl⟩⟩, fun z hz => (by cases hz)⟩)
  go_wp2_with fail
  clear q0
  have hg5 : g + 1 < w5.heap.size := BRM.out.lt
  generalize ((w5.alloc (.cells #[.int .i64 cap', .slice A0 nn c0] 45)).alloc (.cells #[.int .i64 cap', .slice none 0 0] 45)) = W6 at *
  obtain ⟨WM, hWM⟩ : ∃ WM, WM = w5 := ⟨_, rfl⟩
  subst hWM
  obtain ⟨Wb, hWb⟩ : ∃ Wb, WM.heap.size = Wb := ⟨_, rfl⟩
  obtain ⟨Pb, hPb⟩ : ∃ Pb, WM.heap.size + 1 = Pb := ⟨_, rfl⟩
  have hWP : Wb + 1 = Pb := by omega
  have hMW : WM.heap.size ≤ Wb := by omega
  have hgWb : g + 1 < Wb := by omega
  have HI1 : Hid (PutQ w WM Wb Pb cap' (.slice A0 nn c0) [] (.slice none 0 0) W6) := Lib.hid (by have := HI0.out; rw [hPb, hWb] at this; exact this)
  simp only [hPb]
  simp only [hWb]
  clear hPb hWb HI0 hg5
  go_loopw [13, 14] (fun dv iv wr => ∃ (i : Nat) (d : Bool) (zs : List (BlkD × Value)) (v : Value), dv = .bool d ∧ iv = .int .i64 i ∧ i ≤ nn + 1 ∧ Hid (d = decide (ip < i)) ∧ Hid (zs.map Prod.fst = outL l ip ⟨id, place, ws⟩ i) ∧ Hid (PutQ w WM Wb Pb cap' (.slice A0 nn c0) zs v wr)) (fun _ iv _ => nn + 1 - (intOf iv).toNat)
  case atStart => exact ⟨0, false, [], _, rfl, rfl, Nat.zero_le _, Lib.hid (by simp), Lib.hid (by unfold outL; rw [if_pos (Nat.zero_le _)]; rfl), HI1⟩
  case round =>
    clear HI1
    obtain ⟨i, d, zs, v, rfl, rfl, hin, HD, HZS, HII⟩ := hrel
    have wq1 := HII.out.was.cell 1 (v := .slice A0 nn c0) rfl
    have HIN := Lib.hid hin
    have HZ : Hid (zs.length ≤ nn + 1) := Lib.hid (by
      have h1 := congrArg List.length HZS.out
      rw [List.length_map] at h1
      rw [h1]
      unfold outL
      split
      · rw [List.length_take, hn.out]; omega
      · rw [List.length_take, ins_length HIP.out.1, hn.out]; omega)
    by_cases hend : i = nn + 1
    · subst hend
      have p0 := HII.out.box.cell 0 (v := .int .i64 cap') rfl
      have p1 := HII.out.box.cell 1 (v := v) rfl
      have BRR := Lib.hid (BRM.out.bel HII.out.bel)
      have r0 := BRR.out.cell 0 (v := .int .i64 0) rfl
      have r1 := BRR.out.cell 1 (v := .slice none 0 0) rfl
      have f0 := BRR.out.frozen 0
      have f1 := BRR.out.frozen 1
      have HLL : Hid (zs.map Prod.fst = ins l ip ⟨id, place, ws⟩) := Lib.hid (by rw [HZS.out, ← hn.out, outL_end _ HIP.out.1])
      have HZN : Hid (zs.length = nl) := Lib.hid (by rw [← List.length_map (f := Prod.fst), HLL.out, hnl.out])
      have HWF : Hid (∀ z ∈ zs, BlkWf z.1) := Lib.hid (fun z hz => by
        have hm1 : z.1 ∈ ins l ip ⟨id, place, ws⟩ := by rw [← HLL.out]; exact List.mem_map_of_mem hz
        unfold ins at hm1
        rcases List.mem_append.1 hm1 with h1 | h1
        · exact sl_bwf HS0.out _ (List.mem_of_mem_take h1)
        · rcases List.mem_cons.1 h1 with h1 | h1
          · rw [h1]
            refine ⟨fun j hj => ?_, hwf1.out, hwf2.out⟩
            obtain ⟨bw, ow, -, hc⟩ := HW0.out.int_cell (by simp only at hj; omega)
            exact (hc j hj).2
          · exact sl_bwf HS0.out _ (List.mem_of_mem_drop h1))
      obtain ⟨AV, cV, rfl⟩ := own_slice HII.out.own
      rw [HZN.out] at HII p1
      have HQ : Hid (Blk ((wr.setCell ⟨g + 1, 0, none⟩ (.int .i64 cap')).setCell ⟨g + 1, 1, none⟩ (.slice AV nl cV)) (g + 1) 45 #[.int .i64 cap', .slice AV nl cV]) := Lib.hid ((BRR.out.set 0 _).set 1 _)
      have HSL : Hid (SlS w.heap.size ((wr.setCell ⟨g + 1, 0, none⟩ (.int .i64 cap')).setCell ⟨g + 1, 1, none⟩ (.slice AV nl cV)) AV cV (ins l ip ⟨id, place, ws⟩)) := Lib.hid (by
        have k1 := own_put (own_put (own_mono HII.out.own HBWM.out.size) BRR.out (by decide) 0 (.int .i64 cap')) (BRR.out.set 0 (.int .i64 cap')) (by decide) 1 (.slice AV nl cV)
        have k2 := fun z hz => own_put (own_put (HII.out.words z hz) BRR.out (by decide) 0 (.int .i64 cap')) (BRR.out.set 0 (.int .i64 cap')) (by decide) 1 (.slice AV nl cV)
        obtain ⟨A9, c9, e9, hs9⟩ := rowY_slS k1 k2 HWF.out
        cases e9
        rw [HLL.out] at hs9
        exact hs9)
      have HBF := Lib.hid (((HBWM.out.trans HII.out.bel).setCell (p := ⟨g + 1, 0, none⟩) (by simp only; omega) (.int .i64 cap')).setCell (p := ⟨g + 1, 1, none⟩) (by simp only; omega) (.slice AV nl cV))
      go_wp2_with fail
      refine bodyPost_ret (v := .tuple #[.agg #[.int .i64 cap', .slice AV nl cV], .int .i64 0]) ?_ rfl ⟨AV, cV, rfl, HSL.out, HBF.out⟩
      have h1 := HQ.out.cell 0 (v := .int .i64 cap') rfl
      have h2 := HQ.out.cell 1 (v := .slice AV nl cV) rfl
      simp [results, Try.results40, go_sem, h1, h2]
    have ei : IntKind.i64.wrap ((i : Int) + 1) = ((i + 1 : Nat) : Int) := by rw [wrap_i64 (by omega) (by omega)]; omega
    have hie : (i : Int) ≤ nn := by omega
    by_cases hlt : i < ip
    · obtain rfl : d = false := by rw [HD.out]; exact decide_eq_false (by omega)
      have hii : i < nn := by have := HIP.out.1; rw [hn.out] at this; omega
      have HOUT := Lib.hid (outL_lt ⟨id, place, ws⟩ hlt HIP.out.1).symm
      have HAT := Lib.hid (HIP.out.2.1 i hlt)
      have HDN : Hid (false = decide (ip < i + 1)) := Lib.hid (decide_eq_false (by omega)).symm
      have hne : ¬ (i : Int) = nn := by omega
      have hi1 : i < nn := by omega
      have hiz : i < zs0.length := by rw [HZ0.out]; exact hi1
      have hi2 : (i : Int) < nn := by omega
      have hi3 : 0 ≤ (i : Int) := by omega
      have HZW := Lib.hid (HRZ.out.words _ (List.getElem_mem hiz))
      obtain ⟨D, cD, Ak, ck, hv0, hz2, d0, d1, d2⟩ := HRZ.out.cells hiz
      have HLI : Hid (l[i]! = zs0[i].1) := Lib.hid (by
        have hil : i < l.length := by rw [hn.out]; exact hi1
        rw [getElem!_pos l i hil]
        have : (zs0.map Prod.fst)[i]? = l[i]? := by rw [HZL.out]
        rw [List.getElem?_map, List.getElem?_eq_getElem hiz, List.getElem?_eq_getElem hil] at this
        simpa using this.symm)
      rw [hz2] at HZW
      have d0 := Lib.hid d0
      have d1 := Lib.hid d1
      have d2 := Lib.hid d2
      rw [HZ0.out] at hv0
      obtain ⟨rfl, rfl⟩ : A0 = some ⟨D, 0, none⟩ ∧ c0 = cD := by cases hv0; exact ⟨rfl, rfl⟩
      clear hv0 hz2
      generalize zs0[i] = Z at *
      rw [HLI.out] at HOUT HAT
      have t0 : decide (place < Z.1.at') = false := decide_eq_false (by have := HAT.out; omega)
      have t1 := (HII.out.bel).cell d1.out
      clear hend hlt hii
      go_wp2_with fail
      have HIX := Lib.hid (HII.out.mono ((Bel.refl wr).drew))
      have SD := HIX.out.s
      have P0 := fun (w' : World) (h : PutSQ WM Wb Pb (.slice (some ⟨D, 0, none⟩) nn c0) v w') => h.c
      have P1 := fun (w' : World) (h : PutSQ WM Wb Pb (.slice (some ⟨D, 0, none⟩) nn c0) v w') => h.f
      have P2 := fun (w' : World) (h : PutSQ WM Wb Pb (.slice (some ⟨D, 0, none⟩) nn c0) v w') => h.wc
      have D0 := fun (w' : World) (h : PutSQ WM Wb Pb (.slice (some ⟨D, 0, none⟩) nn c0) v w') => h.bel.cell d0.out
      have D1 := fun (w' : World) (h : PutSQ WM Wb Pb (.slice (some ⟨D, 0, none⟩) nn c0) v w') => h.bel.cell d1.out
      have D2 := fun (w' : World) (h : PutSQ WM Wb Pb (.slice (some ⟨D, 0, none⟩) nn c0) v w') => h.bel.cell d2.out
      refine wp_region_T (fun w' => PutSQ WM Wb Pb (.slice (some ⟨D, 0, none⟩) nn c0) v w') (fun j => j == 10) (by kernel_rfl) ?_
      refine wpAnyU_take (i := 0) (v := ?v0a) rfl (by kernel_rfl) (by kernel_rfl) (by kernel_rfl) (by kernel_rfl) (fun _ _ _ h => h) ?hy0a SD ?rest0a
      case hy0a => first | (refine Or.inl ⟨by rfl, ?_⟩; (intro w' hSw; go_simp) <;> with_reducible rfl) | (refine Or.inr ⟨by rfl, ?_⟩; with_reducible rfl)
      try simp only [List.getElem_toArray, List.getElem_cons_zero, List.getElem_cons_succ, Act.put, List.setIfInBounds_toArray, List.set_cons_zero, List.set_cons_succ]
      refine wpAnyU_take (i := 1) (v := ?v1a) rfl (by kernel_rfl) (by kernel_rfl) (by kernel_rfl) (by kernel_rfl) (fun _ _ _ h => h) ?hy1a SD ?rest1a
      case hy1a => first | (refine Or.inl ⟨by rfl, ?_⟩; (intro w' hSw; go_simp) <;> with_reducible rfl) | (refine Or.inr ⟨by rfl, ?_⟩; with_reducible rfl)
      try simp only [List.getElem_toArray, List.getElem_cons_zero, List.getElem_cons_succ, Act.put, List.setIfInBounds_toArray, List.set_cons_zero, List.set_cons_succ]
      refine wpAnyU_take (i := 2) (v := ?v2a) rfl (by kernel_rfl) (by kernel_rfl) (by kernel_rfl) (by kernel_rfl) (fun _ _ _ h => h) ?hy2a SD ?rest2a
      case hy2a => first | (refine Or.inl ⟨by rfl, ?_⟩; (intro w' hSw; go_simp) <;> with_reducible rfl) | (refine Or.inr ⟨by rfl, ?_⟩; with_reducible rfl)
      try simp only [List.getElem_toArray, List.getElem_cons_zero, List.getElem_cons_succ, Act.put, List.setIfInBounds_toArray, List.set_cons_zero, List.set_cons_succ]
      refine wpAnyU_take (i := 3) (v := ?v3a) rfl (by kernel_rfl) (by kernel_rfl) (by kernel_rfl) (by kernel_rfl) (fun _ _ _ h => h) ?hy3a SD ?rest3a
      case hy3a => first | (refine Or.inl ⟨by rfl, ?_⟩; (intro w' hSw; go_simp) <;> with_reducible rfl) | (refine Or.inr ⟨by rfl, ?_⟩; with_reducible rfl)
      try simp only [List.getElem_toArray, List.getElem_cons_zero, List.getElem_cons_succ, Act.put, List.setIfInBounds_toArray, List.set_cons_zero, List.set_cons_succ]
      refine wpAnyU_take (i := 4) (v := ?v4a) rfl (by kernel_rfl) (by kernel_rfl) (by kernel_rfl) (by kernel_rfl) (fun _ _ _ h => h) ?hy4a SD ?rest4a
      case hy4a => first | (refine Or.inl ⟨by rfl, ?_⟩; (intro w' hSw; go_simp) <;> with_reducible rfl) | (refine Or.inr ⟨by rfl, ?_⟩; with_reducible rfl)
      try simp only [List.getElem_toArray, List.getElem_cons_zero, List.getElem_cons_succ, Act.put, List.setIfInBounds_toArray, List.set_cons_zero, List.set_cons_succ]
      refine wpAnyU_take (i := 5) (v := ?v5a) rfl (by kernel_rfl) (by kernel_rfl) (by kernel_rfl) (by kernel_rfl) (fun _ _ _ h => h) ?hy5a SD ?rest5a
      case hy5a => first | (refine Or.inl ⟨by rfl, ?_⟩; (intro w' hSw; go_simp) <;> with_reducible rfl) | (refine Or.inr ⟨by rfl, ?_⟩; with_reducible rfl)
      try simp only [List.getElem_toArray, List.getElem_cons_zero, List.getElem_cons_succ, Act.put, List.setIfInBounds_toArray, List.set_cons_zero, List.set_cons_succ]
      refine wpAnyU_take (i := 6) (v := ?v6a) rfl (by kernel_rfl) (by kernel_rfl) (by kernel_rfl) (by kernel_rfl) (fun _ _ _ h => h) ?hy6a SD ?rest6a
      case hy6a => first | (refine Or.inl ⟨by rfl, ?_⟩; (intro w' hSw; go_simp) <;> with_reducible rfl) | (refine Or.inr ⟨by rfl, ?_⟩; with_reducible rfl)
      try simp only [List.getElem_toArray, List.getElem_cons_zero, List.getElem_cons_succ, Act.put, List.setIfInBounds_toArray, List.set_cons_zero, List.set_cons_succ]
      refine wpAnyT_one (i := 7) (by kernel_rfl) rfl (fun K hK => ?_)
      go_simp
      refine hK.out _ _ (fun _ => SD.mono ((Bel.refl wr.drew).alloc _)) ?_
      clear hK K
      try simp only [List.getElem_toArray, List.getElem_cons_zero, List.getElem_cons_succ, Act.put, List.setIfInBounds_toArray, List.set_cons_zero, List.set_cons_succ]
      refine wpAnyT_one (i := 8) (by kernel_rfl) rfl (fun K hK => ?_)
      refine step_append_run (by rfl) _ _ _ (by rfl) (v) (.slice (some ⟨wr.drew.heap.size, 0, none⟩) 1 1) (by rfl) (by rfl) _ (app_blk _ (HIX.out.mono ((Bel.refl wr.drew).alloc _)).own (by have := HZ.out; have := HNN.out; omega) wr.drew.heap.size (fun j u hu => cells_new wr.drew #[.int .i64 Z.1.id, .int .i64 Z.1.at', .slice Ak Z.1.w.length ck] 69 j u hu) (HIX.out.mono ((Bel.refl wr.drew).alloc _)).bel.size) ?_
      rintro v9 w9 ⟨ho9, hg9, g9, c9, hv9⟩
      subst hv9
      have HI9 := Lib.hid ((HIX.out.mono ((Bel.refl wr.drew).alloc (.cells #[.int .i64 Z.1.id, .int .i64 Z.1.at', .slice Ak Z.1.w.length ck] 69))).push (z := (Z.1, .slice Ak Z.1.w.length ck)) (by omega) (by omega) rfl (own_bel (own_bel HZW.out HIX.out.bel) ((Bel.refl wr.drew).alloc (.cells #[.int .i64 Z.1.id, .int .i64 Z.1.at', .slice Ak Z.1.w.length ck] 69))) ho9 hg9)
      have S9 : PutSQ WM Wb Pb (.slice (some ⟨D, 0, none⟩) nn c0) v w9 := by
        have HH := HIX.out.mono ((Bel.refl wr.drew).alloc (.cells #[.int .i64 Z.1.id, .int .i64 Z.1.at', .slice Ak Z.1.w.length ck] 69))
        have k1 := blk_grown HH.was HH.own (by decide) hg9
        have k2 := blk_grown HH.box HH.own (by decide) hg9
        exact ⟨row_low HH.own WM (Nat.le_refl _) HH.bel hg9, k1.cell 1 rfl, k2.cell 1 rfl, k2.frozen 1⟩
      clear ho9 hg9
      refine hK.out _ _ (fun _ => S9) ?_
      clear hK K
      try simp only [List.getElem_toArray, List.getElem_cons_zero, List.getElem_cons_succ, Act.put, List.setIfInBounds_toArray, List.set_cons_zero, List.set_cons_succ]
      refine wpAnyU_take (i := 9) (v := ?v9a) rfl (by kernel_rfl) (by kernel_rfl) (by kernel_rfl) (by kernel_rfl) (fun _ _ _ h => h) ?hy9a S9 ?rest9a
      case hy9a => first | (refine Or.inl ⟨by rfl, ?_⟩; (intro w' hSw; go_simp) <;> with_reducible rfl) | (refine Or.inr ⟨by rfl, ?_⟩; with_reducible rfl)
      try simp only [List.getElem_toArray, List.getElem_cons_zero, List.getElem_cons_succ, Act.put, List.setIfInBounds_toArray, List.set_cons_zero, List.set_cons_succ]
      refine wpAnyT_one (i := 10) (by kernel_rfl) rfl (fun K hK => ?_)
      go_simp
      refine hK.out _ _ (fun h => absurd h (by decide)) ?_
      clear hK K
      try simp only [List.getElem_toArray, List.getElem_cons_zero, List.getElem_cons_succ, Act.put, List.setIfInBounds_toArray, List.set_cons_zero, List.set_cons_succ]
      refine wpAnyT_done (by kernel_rfl) ?_ _
      refine NoPanic.normal ?_
      clear SD S9 P0 P1 P2 D0 D1 D2
      go_wp2
      go_roundw
      case rel => exact ⟨i + 1, false, zs ++ [(Z.1, .slice Ak Z.1.w.length ck)], _, rfl, rfl, by omega, HDN, Lib.hid (by rw [List.map_append, List.map_singleton, HZS.out]; exact HOUT.out), HI9⟩
      case measure => (simp [intOf]) <;> omega
    by_cases heq : i = ip
    · subst heq
      obtain rfl : d = false := by rw [HD.out]; exact decide_eq_false (by omega)
      have HDN : Hid (true = decide (i < i + 1)) := Lib.hid (decide_eq_true (by omega)).symm
      by_cases hl : i = nn
      · have HOUT := Lib.hid (outL_eq_end (l := l) (ix := i) ⟨id, place, ws⟩ (by rw [hn.out]; exact hl)).symm
        subst hl
        clear hend hlt
        go_wp2_with fail
        have HIX := Lib.hid (HII.out.mono ((Bel.refl wr).drew))
        have SD := HIX.out.s
        have P0 := fun (w' : World) (h : PutSQ WM Wb Pb (.slice A0 i c0) v w') => h.c
        have P1 := fun (w' : World) (h : PutSQ WM Wb Pb (.slice A0 i c0) v w') => h.f
        have P2 := fun (w' : World) (h : PutSQ WM Wb Pb (.slice A0 i c0) v w') => h.wc
        refine wp_region_T (fun w' => PutSQ WM Wb Pb (.slice A0 i c0) v w') (fun j => j == 10) (by kernel_rfl) ?_
        refine wpAnyU_take (i := 0) (v := ?v0e) rfl (by kernel_rfl) (by kernel_rfl) (by kernel_rfl) (by kernel_rfl) (fun _ _ _ h => h) ?hy0e SD ?rest0e
        case hy0e => first | (refine Or.inl ⟨by rfl, ?_⟩; (intro w' hSw; go_simp) <;> with_reducible rfl) | (refine Or.inr ⟨by rfl, ?_⟩; with_reducible rfl)
        try simp only [List.getElem_toArray, List.getElem_cons_zero, List.getElem_cons_succ, Act.put, List.setIfInBounds_toArray, List.set_cons_zero, List.set_cons_succ]
        refine wpAnyU_take (i := 1) (v := ?v1e) rfl (by kernel_rfl) (by kernel_rfl) (by kernel_rfl) (by kernel_rfl) (fun _ _ _ h => h) ?hy1e SD ?rest1e
        case hy1e => first | (refine Or.inl ⟨by rfl, ?_⟩; (intro w' hSw; go_simp) <;> with_reducible rfl) | (refine Or.inr ⟨by rfl, ?_⟩; with_reducible rfl)
        try simp only [List.getElem_toArray, List.getElem_cons_zero, List.getElem_cons_succ, Act.put, List.setIfInBounds_toArray, List.set_cons_zero, List.set_cons_succ]
        refine wpAnyU_take (i := 2) (v := ?v2e) rfl (by kernel_rfl) (by kernel_rfl) (by kernel_rfl) (by kernel_rfl) (fun _ _ _ h => h) ?hy2e SD ?rest2e
        case hy2e => first | (refine Or.inl ⟨by rfl, ?_⟩; (intro w' hSw; go_simp) <;> with_reducible rfl) | (refine Or.inr ⟨by rfl, ?_⟩; with_reducible rfl)
        try simp only [List.getElem_toArray, List.getElem_cons_zero, List.getElem_cons_succ, Act.put, List.setIfInBounds_toArray, List.set_cons_zero, List.set_cons_succ]
        refine wpAnyU_take (i := 3) (v := ?v3e) rfl (by kernel_rfl) (by kernel_rfl) (by kernel_rfl) (by kernel_rfl) (fun _ _ _ h => h) ?hy3e SD ?rest3e
        case hy3e => first | (refine Or.inl ⟨by rfl, ?_⟩; (intro w' hSw; go_simp) <;> with_reducible rfl) | (refine Or.inr ⟨by rfl, ?_⟩; with_reducible rfl)
        try simp only [List.getElem_toArray, List.getElem_cons_zero, List.getElem_cons_succ, Act.put, List.setIfInBounds_toArray, List.set_cons_zero, List.set_cons_succ]
        refine wpAnyU_take (i := 4) (v := ?v4e) rfl (by kernel_rfl) (by kernel_rfl) (by kernel_rfl) (by kernel_rfl) (fun _ _ _ h => h) ?hy4e SD ?rest4e
        case hy4e => first | (refine Or.inl ⟨by rfl, ?_⟩; (intro w' hSw; go_simp) <;> with_reducible rfl) | (refine Or.inr ⟨by rfl, ?_⟩; with_reducible rfl)
        try simp only [List.getElem_toArray, List.getElem_cons_zero, List.getElem_cons_succ, Act.put, List.setIfInBounds_toArray, List.set_cons_zero, List.set_cons_succ]
        refine wpAnyT_one (i := 5) (by kernel_rfl) rfl (fun K hK => ?_)
        refine step_append_run (by rfl) _ _ _ (by rfl) (.slice none 0 0) (.slice B m c2) (by rfl) (by rfl) _ (app_words (base := w.heap.size) _ (HW0.out.mono (IntR.mono _) (HBWM.out.trans HIX.out.bel)) hm.out hm4 (HBWM.out.trans HIX.out.bel).size) ?_
        rintro v5 w5 ⟨ho5, hb5, hn5, A5, c5, hv5⟩
        subst hv5
        have HI5 := Lib.hid (HIX.out.mono hb5)
        have S5 := HI5.out.s
        have HO5 := Lib.hid ho5
        clear ho5 hb5 hn5
        refine hK.out _ _ (fun _ => S5) ?_
        clear hK K
        try simp only [List.getElem_toArray, List.getElem_cons_zero, List.getElem_cons_succ, Act.put, List.setIfInBounds_toArray, List.set_cons_zero, List.set_cons_succ]
        refine wpAnyU_take (i := 6) (v := ?v6e) rfl (by kernel_rfl) (by kernel_rfl) (by kernel_rfl) (by kernel_rfl) (fun _ _ _ h => h) ?hy6e S5 ?rest6e
        case hy6e => first | (refine Or.inl ⟨by rfl, ?_⟩; (intro w' hSw; go_simp) <;> with_reducible rfl) | (refine Or.inr ⟨by rfl, ?_⟩; with_reducible rfl)
        try simp only [List.getElem_toArray, List.getElem_cons_zero, List.getElem_cons_succ, Act.put, List.setIfInBounds_toArray, List.set_cons_zero, List.set_cons_succ]
        refine wpAnyT_one (i := 7) (by kernel_rfl) rfl (fun K hK => ?_)
        go_simp
        refine hK.out _ _ (fun _ => S5.mono ((Bel.refl w5).alloc _)) ?_
        clear hK K
        try simp only [List.getElem_toArray, List.getElem_cons_zero, List.getElem_cons_succ, Act.put, List.setIfInBounds_toArray, List.set_cons_zero, List.set_cons_succ]
        refine wpAnyT_one (i := 8) (by kernel_rfl) rfl (fun K hK => ?_)
        refine step_append_run (by rfl) _ _ _ (by rfl) v (.slice (some ⟨w5.heap.size, 0, none⟩) 1 1) (by rfl) (by rfl) _ (app_blk _ (HI5.out.mono ((Bel.refl w5).alloc _)).own (by have := HZ.out; have := HNN.out; omega) w5.heap.size (fun j u hu => cells_new w5 #[.int .i64 id, .int .i64 place, .slice A5 m c5] 69 j u hu) (HI5.out.mono ((Bel.refl w5).alloc _)).bel.size) ?_
        rintro v8 w8 ⟨ho8, hg8, g8, c8, hv8⟩
        subst hv8
        have HI8 := Lib.hid ((HI5.out.mono ((Bel.refl w5).alloc (.cells #[.int .i64 id, .int .i64 place, .slice A5 m c5] 69))).push (z := (⟨id, place, ws⟩, .slice A5 m c5)) (by omega) (by omega) rfl (by have h := own_bel HO5.out ((Bel.refl w5).alloc (.cells #[.int .i64 id, .int .i64 place, .slice A5 m c5] 69)); rw [← hm.out] at h ⊢; exact h) ho8 hg8)
        have S8 : PutSQ WM Wb Pb (.slice A0 i c0) v w8 := by
          have HH := HI5.out.mono ((Bel.refl w5).alloc (.cells #[.int .i64 id, .int .i64 place, .slice A5 m c5] 69))
          have k1 := blk_grown HH.was HH.own (by decide) hg8
          have k2 := blk_grown HH.box HH.own (by decide) hg8
          exact ⟨row_low HH.own WM (Nat.le_refl _) HH.bel hg8, k1.cell 1 rfl, k2.cell 1 rfl, k2.frozen 1⟩
        clear ho8 hg8
        refine hK.out _ _ (fun _ => S8) ?_
        clear hK K
        try simp only [List.getElem_toArray, List.getElem_cons_zero, List.getElem_cons_succ, Act.put, List.setIfInBounds_toArray, List.set_cons_zero, List.set_cons_succ]
        refine wpAnyU_take (i := 9) (v := ?v9e) rfl (by kernel_rfl) (by kernel_rfl) (by kernel_rfl) (by kernel_rfl) (fun _ _ _ h => h) ?hy9e S8 ?rest9e
        case hy9e => first | (refine Or.inl ⟨by rfl, ?_⟩; (intro w' hSw; go_simp) <;> with_reducible rfl) | (refine Or.inr ⟨by rfl, ?_⟩; with_reducible rfl)
        try simp only [List.getElem_toArray, List.getElem_cons_zero, List.getElem_cons_succ, Act.put, List.setIfInBounds_toArray, List.set_cons_zero, List.set_cons_succ]
        refine wpAnyT_one (i := 10) (by kernel_rfl) rfl (fun K hK => ?_)
        go_simp
        refine hK.out _ _ (fun h => absurd h (by decide)) ?_
        clear hK K
        try simp only [List.getElem_toArray, List.getElem_cons_zero, List.getElem_cons_succ, Act.put, List.setIfInBounds_toArray, List.set_cons_zero, List.set_cons_succ]
        refine wpAnyT_done (by kernel_rfl) ?_ _
        refine NoPanic.normal ?_
        clear SD S5 S8 P0 P1 P2
        have wq2 := HI8.out.was.cell 1 (v := .slice A0 i c0) rfl
        clear wq1
        go_wp2
        go_roundw
        case rel => exact ⟨i + 1, true, zs ++ [(⟨id, place, ws⟩, .slice A5 m c5)], _, rfl, rfl, by omega, HDN, Lib.hid (by rw [List.map_append, List.map_singleton, HZS.out]; exact HOUT.out), HI8⟩
        case measure => (simp [intOf]) <;> omega
      · have hii : i < nn := by omega
        have HOUT := Lib.hid (outL_eq (l := l) (ix := i) ⟨id, place, ws⟩ (by rw [hn.out]; exact hii)).symm
        have HAT := Lib.hid (HIP.out.2.2 (by rw [hn.out]; exact hii))
        have hne : ¬ (i : Int) = nn := by omega
        have hi1 : i < nn := by omega
        have hiz : i < zs0.length := by rw [HZ0.out]; exact hi1
        have hi2 : (i : Int) < nn := by omega
        have hi3 : 0 ≤ (i : Int) := by omega
        have HZW := Lib.hid (HRZ.out.words _ (List.getElem_mem hiz))
        obtain ⟨D, cD, Ak, ck, hv0, hz2, d0, d1, d2⟩ := HRZ.out.cells hiz
        have HLI : Hid (l[i]! = zs0[i].1) := Lib.hid (by
          have hil : i < l.length := by rw [hn.out]; exact hi1
          rw [getElem!_pos l i hil]
          have : (zs0.map Prod.fst)[i]? = l[i]? := by rw [HZL.out]
          rw [List.getElem?_map, List.getElem?_eq_getElem hiz, List.getElem?_eq_getElem hil] at this
          simpa using this.symm)
        rw [hz2] at HZW
        have d0 := Lib.hid d0
        have d1 := Lib.hid d1
        have d2 := Lib.hid d2
        rw [HZ0.out] at hv0
        obtain ⟨rfl, rfl⟩ : A0 = some ⟨D, 0, none⟩ ∧ c0 = cD := by cases hv0; exact ⟨rfl, rfl⟩
        clear hv0 hz2
        generalize zs0[i] = Z at *
        rw [HLI.out] at HOUT HAT
        have t0 : decide (place < Z.1.at') = true := decide_eq_true HAT.out
        have t1 := (HII.out.bel).cell d1.out
        clear hend hlt hii hl
        go_wp2_with fail
        have HIX := Lib.hid (HII.out.mono ((Bel.refl wr).drew))
        have SD := HIX.out.s
        have P0 := fun (w' : World) (h : PutSQ WM Wb Pb (.slice (some ⟨D, 0, none⟩) nn c0) v w') => h.c
        have P1 := fun (w' : World) (h : PutSQ WM Wb Pb (.slice (some ⟨D, 0, none⟩) nn c0) v w') => h.f
        have P2 := fun (w' : World) (h : PutSQ WM Wb Pb (.slice (some ⟨D, 0, none⟩) nn c0) v w') => h.wc
        refine wp_region_T (fun w' => PutSQ WM Wb Pb (.slice (some ⟨D, 0, none⟩) nn c0) v w') (fun j => j == 10) (by kernel_rfl) ?_
        refine wpAnyU_take (i := 0) (v := ?v0d) rfl (by kernel_rfl) (by kernel_rfl) (by kernel_rfl) (by kernel_rfl) (fun _ _ _ h => h) ?hy0d SD ?rest0d
        case hy0d => first | (refine Or.inl ⟨by rfl, ?_⟩; (intro w' hSw; go_simp) <;> with_reducible rfl) | (refine Or.inr ⟨by rfl, ?_⟩; with_reducible rfl)
        try simp only [List.getElem_toArray, List.getElem_cons_zero, List.getElem_cons_succ, Act.put, List.setIfInBounds_toArray, List.set_cons_zero, List.set_cons_succ]
        refine wpAnyU_take (i := 1) (v := ?v1d) rfl (by kernel_rfl) (by kernel_rfl) (by kernel_rfl) (by kernel_rfl) (fun _ _ _ h => h) ?hy1d SD ?rest1d
        case hy1d => first | (refine Or.inl ⟨by rfl, ?_⟩; (intro w' hSw; go_simp) <;> with_reducible rfl) | (refine Or.inr ⟨by rfl, ?_⟩; with_reducible rfl)
        try simp only [List.getElem_toArray, List.getElem_cons_zero, List.getElem_cons_succ, Act.put, List.setIfInBounds_toArray, List.set_cons_zero, List.set_cons_succ]
        refine wpAnyU_take (i := 2) (v := ?v2d) rfl (by kernel_rfl) (by kernel_rfl) (by kernel_rfl) (by kernel_rfl) (fun _ _ _ h => h) ?hy2d SD ?rest2d
        case hy2d => first | (refine Or.inl ⟨by rfl, ?_⟩; (intro w' hSw; go_simp) <;> with_reducible rfl) | (refine Or.inr ⟨by rfl, ?_⟩; with_reducible rfl)
        try simp only [List.getElem_toArray, List.getElem_cons_zero, List.getElem_cons_succ, Act.put, List.setIfInBounds_toArray, List.set_cons_zero, List.set_cons_succ]
        refine wpAnyU_take (i := 3) (v := ?v3d) rfl (by kernel_rfl) (by kernel_rfl) (by kernel_rfl) (by kernel_rfl) (fun _ _ _ h => h) ?hy3d SD ?rest3d
        case hy3d => first | (refine Or.inl ⟨by rfl, ?_⟩; (intro w' hSw; go_simp) <;> with_reducible rfl) | (refine Or.inr ⟨by rfl, ?_⟩; with_reducible rfl)
        try simp only [List.getElem_toArray, List.getElem_cons_zero, List.getElem_cons_succ, Act.put, List.setIfInBounds_toArray, List.set_cons_zero, List.set_cons_succ]
        refine wpAnyU_take (i := 4) (v := ?v4d) rfl (by kernel_rfl) (by kernel_rfl) (by kernel_rfl) (by kernel_rfl) (fun _ _ _ h => h) ?hy4d SD ?rest4d
        case hy4d => first | (refine Or.inl ⟨by rfl, ?_⟩; (intro w' hSw; go_simp) <;> with_reducible rfl) | (refine Or.inr ⟨by rfl, ?_⟩; with_reducible rfl)
        try simp only [List.getElem_toArray, List.getElem_cons_zero, List.getElem_cons_succ, Act.put, List.setIfInBounds_toArray, List.set_cons_zero, List.set_cons_succ]
        refine wpAnyT_one (i := 5) (by kernel_rfl) rfl (fun K hK => ?_)
        refine step_append_run (by rfl) _ _ _ (by rfl) (.slice none 0 0) (.slice B m c2) (by rfl) (by rfl) _ (app_words (base := w.heap.size) _ (HW0.out.mono (IntR.mono _) (HBWM.out.trans HIX.out.bel)) hm.out hm4 (HBWM.out.trans HIX.out.bel).size) ?_
        rintro v5 w5 ⟨ho5, hb5, hn5, A5, c5, hv5⟩
        subst hv5
        have HI5 := Lib.hid (HIX.out.mono hb5)
        have S5 := HI5.out.s
        have HO5 := Lib.hid ho5
        clear ho5 hb5 hn5
        refine hK.out _ _ (fun _ => S5) ?_
        clear hK K
        try simp only [List.getElem_toArray, List.getElem_cons_zero, List.getElem_cons_succ, Act.put, List.setIfInBounds_toArray, List.set_cons_zero, List.set_cons_succ]
        refine wpAnyU_take (i := 6) (v := ?v6d) rfl (by kernel_rfl) (by kernel_rfl) (by kernel_rfl) (by kernel_rfl) (fun _ _ _ h => h) ?hy6d S5 ?rest6d
        case hy6d => first | (refine Or.inl ⟨by rfl, ?_⟩; (intro w' hSw; go_simp) <;> with_reducible rfl) | (refine Or.inr ⟨by rfl, ?_⟩; with_reducible rfl)
        try simp only [List.getElem_toArray, List.getElem_cons_zero, List.getElem_cons_succ, Act.put, List.setIfInBounds_toArray, List.set_cons_zero, List.set_cons_succ]
        refine wpAnyT_one (i := 7) (by kernel_rfl) rfl (fun K hK => ?_)
        go_simp
        refine hK.out _ _ (fun _ => S5.mono ((Bel.refl w5).alloc _)) ?_
        clear hK K
        try simp only [List.getElem_toArray, List.getElem_cons_zero, List.getElem_cons_succ, Act.put, List.setIfInBounds_toArray, List.set_cons_zero, List.set_cons_succ]
        refine wpAnyT_one (i := 8) (by kernel_rfl) rfl (fun K hK => ?_)
        refine step_append_run (by rfl) _ _ _ (by rfl) v (.slice (some ⟨w5.heap.size, 0, none⟩) 1 1) (by rfl) (by rfl) _ (app_blk _ (HI5.out.mono ((Bel.refl w5).alloc _)).own (by have := HZ.out; have := HNN.out; omega) w5.heap.size (fun j u hu => cells_new w5 #[.int .i64 id, .int .i64 place, .slice A5 m c5] 69 j u hu) (HI5.out.mono ((Bel.refl w5).alloc _)).bel.size) ?_
        rintro v8 w8 ⟨ho8, hg8, g8, c8, hv8⟩
        subst hv8
        have HI8 := Lib.hid ((HI5.out.mono ((Bel.refl w5).alloc (.cells #[.int .i64 id, .int .i64 place, .slice A5 m c5] 69))).push (z := (⟨id, place, ws⟩, .slice A5 m c5)) (by omega) (by omega) rfl (by have h := own_bel HO5.out ((Bel.refl w5).alloc (.cells #[.int .i64 id, .int .i64 place, .slice A5 m c5] 69)); rw [← hm.out] at h ⊢; exact h) ho8 hg8)
        have S8 : PutSQ WM Wb Pb (.slice (some ⟨D, 0, none⟩) nn c0) v w8 := by
          have HH := HI5.out.mono ((Bel.refl w5).alloc (.cells #[.int .i64 id, .int .i64 place, .slice A5 m c5] 69))
          have k1 := blk_grown HH.was HH.own (by decide) hg8
          have k2 := blk_grown HH.box HH.own (by decide) hg8
          exact ⟨row_low HH.own WM (Nat.le_refl _) HH.bel hg8, k1.cell 1 rfl, k2.cell 1 rfl, k2.frozen 1⟩
        clear ho8 hg8
        refine hK.out _ _ (fun _ => S8) ?_
        clear hK K
        try simp only [List.getElem_toArray, List.getElem_cons_zero, List.getElem_cons_succ, Act.put, List.setIfInBounds_toArray, List.set_cons_zero, List.set_cons_succ]
        refine wpAnyU_take (i := 9) (v := ?v9d) rfl (by kernel_rfl) (by kernel_rfl) (by kernel_rfl) (by kernel_rfl) (fun _ _ _ h => h) ?hy9d S8 ?rest9d
        case hy9d => first | (refine Or.inl ⟨by rfl, ?_⟩; (intro w' hSw; go_simp) <;> with_reducible rfl) | (refine Or.inr ⟨by rfl, ?_⟩; with_reducible rfl)
        try simp only [List.getElem_toArray, List.getElem_cons_zero, List.getElem_cons_succ, Act.put, List.setIfInBounds_toArray, List.set_cons_zero, List.set_cons_succ]
        refine wpAnyT_one (i := 10) (by kernel_rfl) rfl (fun K hK => ?_)
        go_simp
        refine hK.out _ _ (fun h => absurd h (by decide)) ?_
        clear hK K
        try simp only [List.getElem_toArray, List.getElem_cons_zero, List.getElem_cons_succ, Act.put, List.setIfInBounds_toArray, List.set_cons_zero, List.set_cons_succ]
        refine wpAnyT_done (by kernel_rfl) ?_ _
        refine NoPanic.normal ?_
        clear SD S5 S8 P0 P1 P2
        have wq2 := HI8.out.was.cell 1 (v := .slice (some ⟨D, 0, none⟩) nn c0) rfl
        clear wq1 t0 t1
        go_wp2_with fail
        have HZ8 : Hid ((zs ++ [((⟨id, place, ws⟩ : BlkD), Value.slice A5 m c5)]).length ≤ nn + 2) := Lib.hid (by have := HZ.out; rw [List.length_append, List.length_singleton]; omega)
        generalize w8.setCell ⟨Pb, 1, none⟩ (.slice (some ⟨g8, 0, none⟩) (zs.length + 1) c8) = wz at *
        have HIX := Lib.hid (HI8.out.mono ((Bel.refl wz).drew))
        have SD := HIX.out.s
        have P0 := fun (w' : World) (h : PutSQ WM Wb Pb (.slice (some ⟨D, 0, none⟩) nn c0) (.slice (some ⟨g8, 0, none⟩) (zs.length + 1) c8) w') => h.c
        have P1 := fun (w' : World) (h : PutSQ WM Wb Pb (.slice (some ⟨D, 0, none⟩) nn c0) (.slice (some ⟨g8, 0, none⟩) (zs.length + 1) c8) w') => h.f
        have P2 := fun (w' : World) (h : PutSQ WM Wb Pb (.slice (some ⟨D, 0, none⟩) nn c0) (.slice (some ⟨g8, 0, none⟩) (zs.length + 1) c8) w') => h.wc
        have D0 := fun (w' : World) (h : PutSQ WM Wb Pb (.slice (some ⟨D, 0, none⟩) nn c0) (.slice (some ⟨g8, 0, none⟩) (zs.length + 1) c8) w') => h.bel.cell d0.out
        have D1 := fun (w' : World) (h : PutSQ WM Wb Pb (.slice (some ⟨D, 0, none⟩) nn c0) (.slice (some ⟨g8, 0, none⟩) (zs.length + 1) c8) w') => h.bel.cell d1.out
        have D2 := fun (w' : World) (h : PutSQ WM Wb Pb (.slice (some ⟨D, 0, none⟩) nn c0) (.slice (some ⟨g8, 0, none⟩) (zs.length + 1) c8) w') => h.bel.cell d2.out
        refine wp_region_T (fun w' => PutSQ WM Wb Pb (.slice (some ⟨D, 0, none⟩) nn c0) (.slice (some ⟨g8, 0, none⟩) (zs.length + 1) c8) w') (fun j => j == 10) (by kernel_rfl) ?_
        refine wpAnyU_take (i := 0) (v := ?v0b) rfl (by kernel_rfl) (by kernel_rfl) (by kernel_rfl) (by kernel_rfl) (fun _ _ _ h => h) ?hy0b SD ?rest0b
        case hy0b => first | (refine Or.inl ⟨by rfl, ?_⟩; (intro w' hSw; go_simp) <;> with_reducible rfl) | (refine Or.inr ⟨by rfl, ?_⟩; with_reducible rfl)
        try simp only [List.getElem_toArray, List.getElem_cons_zero, List.getElem_cons_succ, Act.put, List.setIfInBounds_toArray, List.set_cons_zero, List.set_cons_succ]
        refine wpAnyU_take (i := 1) (v := ?v1b) rfl (by kernel_rfl) (by kernel_rfl) (by kernel_rfl) (by kernel_rfl) (fun _ _ _ h => h) ?hy1b SD ?rest1b
        case hy1b => first | (refine Or.inl ⟨by rfl, ?_⟩; (intro w' hSw; go_simp) <;> with_reducible rfl) | (refine Or.inr ⟨by rfl, ?_⟩; with_reducible rfl)
        try simp only [List.getElem_toArray, List.getElem_cons_zero, List.getElem_cons_succ, Act.put, List.setIfInBounds_toArray, List.set_cons_zero, List.set_cons_succ]
        refine wpAnyU_take (i := 2) (v := ?v2b) rfl (by kernel_rfl) (by kernel_rfl) (by kernel_rfl) (by kernel_rfl) (fun _ _ _ h => h) ?hy2b SD ?rest2b
        case hy2b => first | (refine Or.inl ⟨by rfl, ?_⟩; (intro w' hSw; go_simp) <;> with_reducible rfl) | (refine Or.inr ⟨by rfl, ?_⟩; with_reducible rfl)
        try simp only [List.getElem_toArray, List.getElem_cons_zero, List.getElem_cons_succ, Act.put, List.setIfInBounds_toArray, List.set_cons_zero, List.set_cons_succ]
        refine wpAnyU_take (i := 3) (v := ?v3b) rfl (by kernel_rfl) (by kernel_rfl) (by kernel_rfl) (by kernel_rfl) (fun _ _ _ h => h) ?hy3b SD ?rest3b
        case hy3b => first | (refine Or.inl ⟨by rfl, ?_⟩; (intro w' hSw; go_simp) <;> with_reducible rfl) | (refine Or.inr ⟨by rfl, ?_⟩; with_reducible rfl)
        try simp only [List.getElem_toArray, List.getElem_cons_zero, List.getElem_cons_succ, Act.put, List.setIfInBounds_toArray, List.set_cons_zero, List.set_cons_succ]
        refine wpAnyU_take (i := 4) (v := ?v4b) rfl (by kernel_rfl) (by kernel_rfl) (by kernel_rfl) (by kernel_rfl) (fun _ _ _ h => h) ?hy4b SD ?rest4b
        case hy4b => first | (refine Or.inl ⟨by rfl, ?_⟩; (intro w' hSw; go_simp) <;> with_reducible rfl) | (refine Or.inr ⟨by rfl, ?_⟩; with_reducible rfl)
        try simp only [List.getElem_toArray, List.getElem_cons_zero, List.getElem_cons_succ, Act.put, List.setIfInBounds_toArray, List.set_cons_zero, List.set_cons_succ]
        refine wpAnyU_take (i := 5) (v := ?v5b) rfl (by kernel_rfl) (by kernel_rfl) (by kernel_rfl) (by kernel_rfl) (fun _ _ _ h => h) ?hy5b SD ?rest5b
        case hy5b => first | (refine Or.inl ⟨by rfl, ?_⟩; (intro w' hSw; go_simp) <;> with_reducible rfl) | (refine Or.inr ⟨by rfl, ?_⟩; with_reducible rfl)
        try simp only [List.getElem_toArray, List.getElem_cons_zero, List.getElem_cons_succ, Act.put, List.setIfInBounds_toArray, List.set_cons_zero, List.set_cons_succ]
        refine wpAnyU_take (i := 6) (v := ?v6b) rfl (by kernel_rfl) (by kernel_rfl) (by kernel_rfl) (by kernel_rfl) (fun _ _ _ h => h) ?hy6b SD ?rest6b
        case hy6b => first | (refine Or.inl ⟨by rfl, ?_⟩; (intro w' hSw; go_simp) <;> with_reducible rfl) | (refine Or.inr ⟨by rfl, ?_⟩; with_reducible rfl)
        try simp only [List.getElem_toArray, List.getElem_cons_zero, List.getElem_cons_succ, Act.put, List.setIfInBounds_toArray, List.set_cons_zero, List.set_cons_succ]
        refine wpAnyT_one (i := 7) (by kernel_rfl) rfl (fun K hK => ?_)
        go_simp
        refine hK.out _ _ (fun _ => SD.mono ((Bel.refl wz.drew).alloc _)) ?_
        clear hK K
        try simp only [List.getElem_toArray, List.getElem_cons_zero, List.getElem_cons_succ, Act.put, List.setIfInBounds_toArray, List.set_cons_zero, List.set_cons_succ]
        refine wpAnyT_one (i := 8) (by kernel_rfl) rfl (fun K hK => ?_)
        refine step_append_run (by rfl) _ _ _ (by rfl) ((.slice (some ⟨g8, 0, none⟩) (zs.length + 1) c8)) (.slice (some ⟨wz.drew.heap.size, 0, none⟩) 1 1) (by rfl) (by rfl) _ (app_blk _ (HIX.out.mono ((Bel.refl wz.drew).alloc _)).own (by have := HZ8.out; have := HNN.out; omega) wz.drew.heap.size (fun j u hu => cells_new wz.drew #[.int .i64 Z.1.id, .int .i64 Z.1.at', .slice Ak Z.1.w.length ck] 69 j u hu) (HIX.out.mono ((Bel.refl wz.drew).alloc _)).bel.size) ?_
        rintro v9 w9 ⟨ho9, hg9, g9, c9, hv9⟩
        subst hv9
        have HI9 := Lib.hid ((HIX.out.mono ((Bel.refl wz.drew).alloc (.cells #[.int .i64 Z.1.id, .int .i64 Z.1.at', .slice Ak Z.1.w.length ck] 69))).push (z := (Z.1, .slice Ak Z.1.w.length ck)) (by omega) (by omega) rfl (own_bel (own_bel HZW.out HIX.out.bel) ((Bel.refl wz.drew).alloc (.cells #[.int .i64 Z.1.id, .int .i64 Z.1.at', .slice Ak Z.1.w.length ck] 69))) ho9 hg9)
        have S9 : PutSQ WM Wb Pb (.slice (some ⟨D, 0, none⟩) nn c0) (.slice (some ⟨g8, 0, none⟩) (zs.length + 1) c8) w9 := by
          have HH := HIX.out.mono ((Bel.refl wz.drew).alloc (.cells #[.int .i64 Z.1.id, .int .i64 Z.1.at', .slice Ak Z.1.w.length ck] 69))
          have k1 := blk_grown HH.was HH.own (by decide) hg9
          have k2 := blk_grown HH.box HH.own (by decide) hg9
          exact ⟨row_low HH.own WM (Nat.le_refl _) HH.bel hg9, k1.cell 1 rfl, k2.cell 1 rfl, k2.frozen 1⟩
        clear ho9 hg9
        refine hK.out _ _ (fun _ => S9) ?_
        clear hK K
        try simp only [List.getElem_toArray, List.getElem_cons_zero, List.getElem_cons_succ, Act.put, List.setIfInBounds_toArray, List.set_cons_zero, List.set_cons_succ]
        refine wpAnyU_take (i := 9) (v := ?v9b) rfl (by kernel_rfl) (by kernel_rfl) (by kernel_rfl) (by kernel_rfl) (fun _ _ _ h => h) ?hy9b S9 ?rest9b
        case hy9b => first | (refine Or.inl ⟨by rfl, ?_⟩; (intro w' hSw; go_simp) <;> with_reducible rfl) | (refine Or.inr ⟨by rfl, ?_⟩; with_reducible rfl)
        try simp only [List.getElem_toArray, List.getElem_cons_zero, List.getElem_cons_succ, Act.put, List.setIfInBounds_toArray, List.set_cons_zero, List.set_cons_succ]
        refine wpAnyT_one (i := 10) (by kernel_rfl) rfl (fun K hK => ?_)
        go_simp
        refine hK.out _ _ (fun h => absurd h (by decide)) ?_
        clear hK K
        try simp only [List.getElem_toArray, List.getElem_cons_zero, List.getElem_cons_succ, Act.put, List.setIfInBounds_toArray, List.set_cons_zero, List.set_cons_succ]
        refine wpAnyT_done (by kernel_rfl) ?_ _
        refine NoPanic.normal ?_
        clear SD S9 P0 P1 P2 D0 D1 D2
        go_wp2
        go_roundw
        case rel => exact ⟨i + 1, true, (zs ++ [(⟨id, place, ws⟩, .slice A5 m c5)]) ++ [(Z.1, .slice Ak Z.1.w.length ck)], _, rfl, rfl, by omega, HDN, Lib.hid (by rw [List.map_append, List.map_append, List.map_singleton, List.map_singleton, HZS.out]; exact HOUT.out), Lib.hid (by have := HI9.out; simp only [List.length_append, List.length_singleton] at this; exact this)⟩
        case measure => (simp [intOf]) <;> omega
    · obtain rfl : d = true := by rw [HD.out]; exact decide_eq_true (by omega)
      have hgt : ip < i := by omega
      have HDN : Hid (true = decide (ip < i + 1)) := Lib.hid (decide_eq_true (by omega)).symm
      by_cases hl : i = nn
      · have HOUT := Lib.hid (outL_gt_end (l := l) (ix := ip) ⟨id, place, ws⟩ hgt (by rw [hn.out]; exact hl)).symm
        subst hl
        clear hend hlt heq
        go_wp2
        go_roundw
        case rel => exact ⟨i + 1, true, zs, v, rfl, rfl, by omega, HDN, Lib.hid (by rw [HZS.out]; exact HOUT.out), HII⟩
        case measure => (simp [intOf]) <;> omega
      · have hii : i < nn := by omega
        have HOUT := Lib.hid (outL_gt (l := l) (ix := ip) ⟨id, place, ws⟩ hgt (by rw [hn.out]; exact hii)).symm
        have hi1 : i < nn := by omega
        have hiz : i < zs0.length := by rw [HZ0.out]; exact hi1
        have hi2 : (i : Int) < nn := by omega
        have hi3 : 0 ≤ (i : Int) := by omega
        have HZW := Lib.hid (HRZ.out.words _ (List.getElem_mem hiz))
        obtain ⟨D, cD, Ak, ck, hv0, hz2, d0, d1, d2⟩ := HRZ.out.cells hiz
        have HLI : Hid (l[i]! = zs0[i].1) := Lib.hid (by
          have hil : i < l.length := by rw [hn.out]; exact hi1
          rw [getElem!_pos l i hil]
          have : (zs0.map Prod.fst)[i]? = l[i]? := by rw [HZL.out]
          rw [List.getElem?_map, List.getElem?_eq_getElem hiz, List.getElem?_eq_getElem hil] at this
          simpa using this.symm)
        rw [hz2] at HZW
        have d0 := Lib.hid d0
        have d1 := Lib.hid d1
        have d2 := Lib.hid d2
        rw [HZ0.out] at hv0
        obtain ⟨rfl, rfl⟩ : A0 = some ⟨D, 0, none⟩ ∧ c0 = cD := by cases hv0; exact ⟨rfl, rfl⟩
        clear hv0 hz2
        generalize zs0[i] = Z at *
        rw [HLI.out] at HOUT
        clear hend hlt heq hii hl hgt
        go_wp2_with fail
        have HIX := Lib.hid (HII.out.mono ((Bel.refl wr).drew))
        have SD := HIX.out.s
        have P0 := fun (w' : World) (h : PutSQ WM Wb Pb (.slice (some ⟨D, 0, none⟩) nn c0) v w') => h.c
        have P1 := fun (w' : World) (h : PutSQ WM Wb Pb (.slice (some ⟨D, 0, none⟩) nn c0) v w') => h.f
        have P2 := fun (w' : World) (h : PutSQ WM Wb Pb (.slice (some ⟨D, 0, none⟩) nn c0) v w') => h.wc
        have D0 := fun (w' : World) (h : PutSQ WM Wb Pb (.slice (some ⟨D, 0, none⟩) nn c0) v w') => h.bel.cell d0.out
        have D1 := fun (w' : World) (h : PutSQ WM Wb Pb (.slice (some ⟨D, 0, none⟩) nn c0) v w') => h.bel.cell d1.out
        have D2 := fun (w' : World) (h : PutSQ WM Wb Pb (.slice (some ⟨D, 0, none⟩) nn c0) v w') => h.bel.cell d2.out
        refine wp_region_T (fun w' => PutSQ WM Wb Pb (.slice (some ⟨D, 0, none⟩) nn c0) v w') (fun j => j == 10) (by kernel_rfl) ?_
        refine wpAnyU_take (i := 0) (v := ?v0c) rfl (by kernel_rfl) (by kernel_rfl) (by kernel_rfl) (by kernel_rfl) (fun _ _ _ h => h) ?hy0c SD ?rest0c
        case hy0c => first | (refine Or.inl ⟨by rfl, ?_⟩; (intro w' hSw; go_simp) <;> with_reducible rfl) | (refine Or.inr ⟨by rfl, ?_⟩; with_reducible rfl)
        try simp only [List.getElem_toArray, List.getElem_cons_zero, List.getElem_cons_succ, Act.put, List.setIfInBounds_toArray, List.set_cons_zero, List.set_cons_succ]
        refine wpAnyU_take (i := 1) (v := ?v1c) rfl (by kernel_rfl) (by kernel_rfl) (by kernel_rfl) (by kernel_rfl) (fun _ _ _ h => h) ?hy1c SD ?rest1c
        case hy1c => first | (refine Or.inl ⟨by rfl, ?_⟩; (intro w' hSw; go_simp) <;> with_reducible rfl) | (refine Or.inr ⟨by rfl, ?_⟩; with_reducible rfl)
        try simp only [List.getElem_toArray, List.getElem_cons_zero, List.getElem_cons_succ, Act.put, List.setIfInBounds_toArray, List.set_cons_zero, List.set_cons_succ]
        refine wpAnyU_take (i := 2) (v := ?v2c) rfl (by kernel_rfl) (by kernel_rfl) (by kernel_rfl) (by kernel_rfl) (fun _ _ _ h => h) ?hy2c SD ?rest2c
        case hy2c => first | (refine Or.inl ⟨by rfl, ?_⟩; (intro w' hSw; go_simp) <;> with_reducible rfl) | (refine Or.inr ⟨by rfl, ?_⟩; with_reducible rfl)
        try simp only [List.getElem_toArray, List.getElem_cons_zero, List.getElem_cons_succ, Act.put, List.setIfInBounds_toArray, List.set_cons_zero, List.set_cons_succ]
        refine wpAnyU_take (i := 3) (v := ?v3c) rfl (by kernel_rfl) (by kernel_rfl) (by kernel_rfl) (by kernel_rfl) (fun _ _ _ h => h) ?hy3c SD ?rest3c
        case hy3c => first | (refine Or.inl ⟨by rfl, ?_⟩; (intro w' hSw; go_simp) <;> with_reducible rfl) | (refine Or.inr ⟨by rfl, ?_⟩; with_reducible rfl)
        try simp only [List.getElem_toArray, List.getElem_cons_zero, List.getElem_cons_succ, Act.put, List.setIfInBounds_toArray, List.set_cons_zero, List.set_cons_succ]
        refine wpAnyU_take (i := 4) (v := ?v4c) rfl (by kernel_rfl) (by kernel_rfl) (by kernel_rfl) (by kernel_rfl) (fun _ _ _ h => h) ?hy4c SD ?rest4c
        case hy4c => first | (refine Or.inl ⟨by rfl, ?_⟩; (intro w' hSw; go_simp) <;> with_reducible rfl) | (refine Or.inr ⟨by rfl, ?_⟩; with_reducible rfl)
        try simp only [List.getElem_toArray, List.getElem_cons_zero, List.getElem_cons_succ, Act.put, List.setIfInBounds_toArray, List.set_cons_zero, List.set_cons_succ]
        refine wpAnyU_take (i := 5) (v := ?v5c) rfl (by kernel_rfl) (by kernel_rfl) (by kernel_rfl) (by kernel_rfl) (fun _ _ _ h => h) ?hy5c SD ?rest5c
        case hy5c => first | (refine Or.inl ⟨by rfl, ?_⟩; (intro w' hSw; go_simp) <;> with_reducible rfl) | (refine Or.inr ⟨by rfl, ?_⟩; with_reducible rfl)
        try simp only [List.getElem_toArray, List.getElem_cons_zero, List.getElem_cons_succ, Act.put, List.setIfInBounds_toArray, List.set_cons_zero, List.set_cons_succ]
        refine wpAnyU_take (i := 6) (v := ?v6c) rfl (by kernel_rfl) (by kernel_rfl) (by kernel_rfl) (by kernel_rfl) (fun _ _ _ h => h) ?hy6c SD ?rest6c
        case hy6c => first | (refine Or.inl ⟨by rfl, ?_⟩; (intro w' hSw; go_simp) <;> with_reducible rfl) | (refine Or.inr ⟨by rfl, ?_⟩; with_reducible rfl)
        try simp only [List.getElem_toArray, List.getElem_cons_zero, List.getElem_cons_succ, Act.put, List.setIfInBounds_toArray, List.set_cons_zero, List.set_cons_succ]
        refine wpAnyT_one (i := 7) (by kernel_rfl) rfl (fun K hK => ?_)
        go_simp
        refine hK.out _ _ (fun _ => SD.mono ((Bel.refl wr.drew).alloc _)) ?_
        clear hK K
        try simp only [List.getElem_toArray, List.getElem_cons_zero, List.getElem_cons_succ, Act.put, List.setIfInBounds_toArray, List.set_cons_zero, List.set_cons_succ]
        refine wpAnyT_one (i := 8) (by kernel_rfl) rfl (fun K hK => ?_)
        refine step_append_run (by rfl) _ _ _ (by rfl) (v) (.slice (some ⟨wr.drew.heap.size, 0, none⟩) 1 1) (by rfl) (by rfl) _ (app_blk _ (HIX.out.mono ((Bel.refl wr.drew).alloc _)).own (by have := HZ.out; have := HNN.out; omega) wr.drew.heap.size (fun j u hu => cells_new wr.drew #[.int .i64 Z.1.id, .int .i64 Z.1.at', .slice Ak Z.1.w.length ck] 69 j u hu) (HIX.out.mono ((Bel.refl wr.drew).alloc _)).bel.size) ?_
        rintro v9 w9 ⟨ho9, hg9, g9, c9, hv9⟩
        subst hv9
        have HI9 := Lib.hid ((HIX.out.mono ((Bel.refl wr.drew).alloc (.cells #[.int .i64 Z.1.id, .int .i64 Z.1.at', .slice Ak Z.1.w.length ck] 69))).push (z := (Z.1, .slice Ak Z.1.w.length ck)) (by omega) (by omega) rfl (own_bel (own_bel HZW.out HIX.out.bel) ((Bel.refl wr.drew).alloc (.cells #[.int .i64 Z.1.id, .int .i64 Z.1.at', .slice Ak Z.1.w.length ck] 69))) ho9 hg9)
        have S9 : PutSQ WM Wb Pb (.slice (some ⟨D, 0, none⟩) nn c0) v w9 := by
          have HH := HIX.out.mono ((Bel.refl wr.drew).alloc (.cells #[.int .i64 Z.1.id, .int .i64 Z.1.at', .slice Ak Z.1.w.length ck] 69))
          have k1 := blk_grown HH.was HH.own (by decide) hg9
          have k2 := blk_grown HH.box HH.own (by decide) hg9
          exact ⟨row_low HH.own WM (Nat.le_refl _) HH.bel hg9, k1.cell 1 rfl, k2.cell 1 rfl, k2.frozen 1⟩
        clear ho9 hg9
        refine hK.out _ _ (fun _ => S9) ?_
        clear hK K
        try simp only [List.getElem_toArray, List.getElem_cons_zero, List.getElem_cons_succ, Act.put, List.setIfInBounds_toArray, List.set_cons_zero, List.set_cons_succ]
        refine wpAnyU_take (i := 9) (v := ?v9c) rfl (by kernel_rfl) (by kernel_rfl) (by kernel_rfl) (by kernel_rfl) (fun _ _ _ h => h) ?hy9c S9 ?rest9c
        case hy9c => first | (refine Or.inl ⟨by rfl, ?_⟩; (intro w' hSw; go_simp) <;> with_reducible rfl) | (refine Or.inr ⟨by rfl, ?_⟩; with_reducible rfl)
        try simp only [List.getElem_toArray, List.getElem_cons_zero, List.getElem_cons_succ, Act.put, List.setIfInBounds_toArray, List.set_cons_zero, List.set_cons_succ]
        refine wpAnyT_one (i := 10) (by kernel_rfl) rfl (fun K hK => ?_)
        go_simp
        refine hK.out _ _ (fun h => absurd h (by decide)) ?_
        clear hK K
        try simp only [List.getElem_toArray, List.getElem_cons_zero, List.getElem_cons_succ, Act.put, List.setIfInBounds_toArray, List.set_cons_zero, List.set_cons_succ]
        refine wpAnyT_done (by kernel_rfl) ?_ _
        refine NoPanic.normal ?_
        clear SD S9 P0 P1 P2 D0 D1 D2
        go_wp2
        go_roundw
        case rel => exact ⟨i + 1, true, zs ++ [(Z.1, .slice Ak Z.1.w.length ck)], _, rfl, rfl, by omega, HDN, Lib.hid (by rw [List.map_append, List.map_singleton, HZS.out]; exact HOUT.out), HI9⟩
        case measure => (simp [intOf]) <;> omega
end Go.Proofs.Yteopeocgbfdofaa
