/- arena.word and arena.Fetch by their contracts. arena.Drop and arena.Patch by their contracts. arena.Patch by its contract. -/
import Derived.Test.YtebdnobgdimdoaaGreatGT
import Derived.Test.YtebdnobgdimdoaaGreatGF
set_option linter.unusedVariables false
set_option linter.unusedSimpArgs false
namespace Go.Proofs.YtebdnobgdimdoaaGreat
open Go.RowKit
def wordP (place : Int) (b : BlkD) : Bool := decide (b.at' ≤ place) && decide (place < IntKind.i64.wrap (b.at' + (b.w.length : Int)))
def wordM (l : List BlkD) (place : Int) : Int × Int := match l.findIdx? (wordP place) with
  | some i => ((i : Int), IntKind.i64.wrap (place - (l[i]!).at'))
  | none => (-1, 0)
theorem wordM_hit {l : List BlkD} {place : Int} {k : Nat} (hk : k < l.length) (h : ∀ j, j < k → wordP place (l[j]!) = false) (hh : wordP place (l[k]!) = true) : wordM l place = ((k : Int), IntKind.i64.wrap (place - (l[k]!).at')) := by
  have e : l.findIdx? (wordP place) = some k := by
    rw [List.findIdx?_eq_some_iff_getElem]
    refine ⟨hk, by rw [← getElem!_pos l k hk]; exact hh, fun j hj => ?_⟩
    have := h j hj
    rw [getElem!_pos l j (by omega)] at this
    simp [this]
  unfold wordM
  rw [e]
theorem wordM_miss {l : List BlkD} {place : Int} (h : ∀ j, j < l.length → wordP place (l[j]!) = false) : wordM l place = (-1, 0) := by
  have e : l.findIdx? (wordP place) = none := by
    rw [List.findIdx?_eq_none_iff]
    intro b hb
    obtain ⟨i, hi, rfl⟩ := List.mem_iff_getElem.1 hb
    have := h i hi
    rwa [getElem!_pos l i hi] at this
  unfold wordM
  rw [e]
/-- Of a memory that may be. -/
theorem Ok.wordP_iff {m : MemD} (h : Ok m) {place : Int} {i : Nat} (hi : i < m.l.length) : wordP place (m.l[i]!) = decide ((m.l[i]!).at' ≤ place ∧ place < (m.l[i]!).at' + ((m.l[i]!).w.length : Int)) := by
  obtain ⟨h1, h2, h3, h4⟩ := h.bounds hi
  unfold wordP
  rw [wrap_i64 (by omega) (by omega), Bool.decide_and]
theorem Ok.word_some {m : MemD} (h : Ok m) {place : Int} {i : Nat} (hb : blkOf m.l place = some i) : wordM m.l place = ((i : Int), place - (m.l[i]!).at') := by
  obtain ⟨hi, h1, h2⟩ := (blkOf_some h).1 hb
  obtain ⟨b1, b2, b3, b4⟩ := h.bounds hi
  have e1 : ∀ j, j < i → wordP place (m.l[j]!) = false := fun j hj => by
    rw [h.wordP_iff (by omega)]
    refine decide_eq_false ?_
    have := h.rise i j hj hi
    omega
  have e2 : wordP place (m.l[i]!) = true := by rw [h.wordP_iff hi, decide_eq_true ⟨h1, h2⟩]
  rw [wordM_hit hi e1 e2, wrap_i64 (by omega) (by omega)]
theorem Ok.word_none {m : MemD} (h : Ok m) {place : Int} (hb : blkOf m.l place = none) : wordM m.l place = (-1, 0) :=
  wordM_miss fun j hj => by rw [h.wordP_iff hj]; exact decide_eq_false (blkOf_none.1 hb j hj)
end Go.Proofs.YtebdnobgdimdoaaGreat
set_option linter.unusedVariables false
set_option linter.unusedSimpArgs false
namespace Go.Proofs.YtebdnobgdimdoaaGreat
open Go.RowKit
def del (l : List BlkD) (i : Nat) : List BlkD := l.take i ++ l.drop (i + 1)
theorem del_length {l : List BlkD} {i : Nat} (hi : i < l.length) : (del l i).length = l.length - 1 := by
  unfold del
  rw [List.length_append, List.length_take, List.length_drop]
  omega
theorem del_get {l : List BlkD} {i : Nat} (hi : i < l.length) (j : Nat) : (del l i)[j]! = if j < i then l[j]! else l[j + 1]! := by
  unfold del
  simp only [List.getElem!_eq_getElem?_getD]
  rw [List.getElem?_append, List.length_take, Nat.min_eq_left (by omega)]
  by_cases h1 : j < i
  · rw [if_pos h1, if_pos h1, List.getElem?_take, if_pos h1]
  · rw [if_neg h1, if_neg h1, List.getElem?_drop, show i + 1 + (j - i) = j + 1 by omega]
def dropM (m : MemD) (id : Int) : MemD × Int := if mayM m = true then (if idxR m.l id < 0 then (⟨0, []⟩, 3) else (⟨m.cap, del m.l (idxR m.l id).toNat⟩, 0)) else (⟨0, []⟩, 1)
def patchM (m : MemD) (place v : Int) : MemD × Int := if mayM m = true then (match blkOf m.l place with | some i => (⟨m.cap, m.l.set i ⟨(m.l[i]!).id, (m.l[i]!).at', (m.l[i]!).w.set (place - (m.l[i]!).at').toNat v⟩⟩, 0) | none => (⟨0, []⟩, 3)) else (⟨0, []⟩, 1)
theorem drop_sl {w0 W : World} {D c : Nat} {l : List BlkD} {A : Nat → Option Addr} {cc : Nat → Nat} (h : OwnB w0 W D c l l.length A cc) (hwf : ∀ i, i < l.length → (Lit.int .i64 (l[i]!).id).wf = true ∧ (Lit.int .i64 (l[i]!).at').wf = true)
    {i : Nat} (hi : i < l.length) {D9 c9 : Nat} (hc1 : l.length - 1 ≤ c9) (hc2 : c9 ≤ maxLen)
    (hcells : ∀ q u, (rowL l A cc 0 i ++ rowL l A cc (i + 1) (l.length - (i + 1)))[q]? = some u → W.cell? ⟨D9, q, none⟩ = some u) : Sl BlkR 3 W (some ⟨D9, 0, none⟩) c9 (del l i) := by
  refine rows_sl (by rw [del_length hi]; exact hc1) hc2 fun j hj => ?_
  rw [del_length hi] at hj
  have e := del_get hi j
  by_cases h1 : j < i
  · rw [if_pos h1] at e
    rw [e]
    obtain ⟨g', e1, -, -, -, e5⟩ := h.own j (by omega) (by omega)
    refine ⟨g', cc j, fun q v hv => hcells _ _ ?_, e5, hwf j (by omega)⟩
    have hq : q < 3 := (List.getElem?_eq_some_iff.1 hv).1
    rw [List.getElem?_append_left (by rw [rowL_len]; omega), rowL_get l A cc 0 i h1 hq, Nat.zero_add, e1]
    exact hv
  · rw [if_neg h1] at e
    rw [e]
    obtain ⟨g', e1, -, -, -, e5⟩ := h.own (j + 1) (by omega) (by omega)
    refine ⟨g', cc (j + 1), fun q v hv => hcells _ _ ?_, e5, hwf (j + 1) (by omega)⟩
    have hq : q < 3 := (List.getElem?_eq_some_iff.1 hv).1
    rw [List.getElem?_append_right (by rw [rowL_len]; omega), rowL_len, show j * 3 + q - i * 3 = (j - i) * 3 + q by omega, rowL_get l A cc (i + 1) _ (by omega) hq, show i + 1 + (j - i) = j + 1 by omega, e1]
    exact hv
/-- 'append(l[:i:i], l[i+1:]...)'. -/
theorem appB_drop (ty : TypeId) {b0 : Nat} {W0 W : World} {D c n : Nat} {l : List BlkD} {A : Nat → Option Addr} {cc : Nat → Nat} (h : RowB b0 W0 D c l A cc) (hb : Bel W0 W) (hn : l.length = n) (hs : n ≤ 4096) {i : Nat} (hi : i < n) (hb0 : b0 ≤ W0.heap.size) :
    ∃ v' w', (Builtin.append_ #[77, 77] ty #[.slice (some ⟨D, 0, none⟩) i i, .slice (if c = i + 1 then some ⟨D, 0, none⟩ else some ⟨D, (i + 1) * 3, none⟩) (n - (i + 1)) (c - (i + 1))]).run Tryz.prog W = .ok v' w' ∧ ∃ g cg, v' = .slice (some ⟨g, 0, none⟩) (i + (n - (i + 1))) cg ∧ b0 ≤ g ∧ g < w'.heap.size ∧ i + (n - (i + 1)) ≤ cg ∧ cg ≤ maxLen ∧ (∀ j u, (rowL l A cc 0 i ++ rowL l A cc (i + 1) (n - (i + 1)))[j]? = some u → w'.cell? ⟨g, j, none⟩ = some u) ∧ Bel W w' := by
  have holds := olds_of (A := A) (cc := cc) h hb (k := i) (by omega)
  have hle := h.le
  obtain ⟨hz1, hz2⟩ := news_if (i := i + 1) (k := n - (i + 1)) h hb (by omega) (p := c = i + 1) (by omega)
  obtain ⟨ad, had⟩ : ∃ ad, (if c = i + 1 then some (⟨D, 0, none⟩ : Addr) else some ⟨D, (i + 1) * 3, none⟩) = some ad := by
    split
    · exact ⟨_, rfl⟩
    · exact ⟨_, rfl⟩
  have hnews := hz2 ad had
  rw [had]
  by_cases h0 : n - (i + 1) = 0
  · obtain ⟨i0, hi0, hzz⟩ := Option.map_eq_some_iff.1 info_Block
    rw [h0]
    have hr := run_append_room_cells (P := Tryz.prog) W 77 ty 144 i0 Tryz.underlying77 hi0 D 0 i i ad 0 (c - (i + 1)) [] (by simp) (by intro j u hu; simp at hu) (by intro u hu; cases hu) (Nat.le_refl _) (by intro j hj; simp at hj) (by intro j hj; simp at hj)
    refine ⟨_, _, hr, D, i, rfl, h.D0, Nat.lt_of_lt_of_le h.lt hb.size, Nat.le_refl _, by simp only [maxLen]; omega, fun j u hu => ?_, Bel.refl _⟩
    rw [show rowL l A cc (i + 1) 0 = [] from rfl, List.append_nil] at hu
    have := holds _ rfl j u hu
    rw [Addr.add_lit, Nat.zero_add] at this
    exact this
  · obtain ⟨v', w', hr, g, cg, h1, h2, h3, h4, h5, h6, h7⟩ := appB_grow ty W (some ⟨D, 0, none⟩) i i (fun h => by cases h) (rowL l A cc 0 i) (rowL_len _ _ _ _ _) holds ad (n - (i + 1)) (c - (i + 1)) (rowL l A cc (i + 1) (n - (i + 1))) (rowL_len _ _ _ _ _) hnews (rowL_one _ _ _ _ _) (by omega) (by omega)
    exact ⟨v', w', hr, g, cg, h1, Nat.le_trans hb0 (Nat.le_trans hb.size h2), h3, h4, h5, h6, h7⟩
theorem idxR_range (l : List BlkD) (id : Int) : idxR l id < 0 ∨ ∃ i : Nat, idxR l id = i ∧ i < l.length := by
  have key : ∀ (zs : List BlkD) (k : Nat), Lib.idxByFrom (fun _ (b : BlkD) => decide (b.id = id)) default zs k < 0 ∨ ∃ i : Nat, Lib.idxByFrom (fun _ (b : BlkD) => decide (b.id = id)) default zs k = ((k + i : Nat) : Int) ∧ i < zs.length := by
    intro zs
    induction zs with
    | nil => intro k; left; simp [Lib.idxByFrom]
    | cons z zs ih =>
      intro k
      simp only [Lib.idxByFrom]
      split
      · right; exact ⟨0, by simp, by simp⟩
      · rcases ih (k + 1) with h | ⟨i, h1, h2⟩
        · left; exact h
        · right; exact ⟨i + 1, by rw [h1]; congr 1; omega, by simpa using h2⟩
  rcases key l 0 with h | ⟨i, h1, h2⟩
  · exact .inl h
  · exact .inr ⟨i, by unfold idxR Lib.idxBy; rw [h1]; simp, h2⟩
/-- The cells of a result that was stored whole. -/
theorem res_two {W : World} {B : Nat} {t : TypeId} {a b : Value} (h : Blk W B t #[a, b]) (x v : Value) :
    ((W.setCell ⟨B, 0, none⟩ x).setCell ⟨B, 1, none⟩ v).cell? ⟨B, 0, none⟩ = some x ∧ ((W.setCell ⟨B, 0, none⟩ x).setCell ⟨B, 1, none⟩ v).cell? ⟨B, 1, none⟩ = some v :=
  ⟨((h.set 0 x).set 1 v).cell 0 rfl, ((h.set 0 x).set 1 v).cell 1 rfl⟩
set_option maxRecDepth 100000 in
set_option maxHeartbeats 4000000 in
theorem Drop_any (cap : Int) (A : Option Addr) (nn c : Nat) (l : List BlkD) (id : Int) (w : World) (h : Sl BlkR 3 w A c l) (hn : Hid (l.length = nn)) (cap' : Int) (l' : List BlkD) (nl : Nat) (e' : Int) (hr : Hid (dropM ⟨cap, l⟩ id = (⟨cap', l'⟩, e'))) (hnl : Hid (l'.length = nl)) :
    Calls Tryz.prog 30 #[.agg #[.int .i64 cap, .slice A nn c], .int .i64 id] w fun e w' => ∃ A' c', e = .returned (.tuple #[.agg #[.int .i64 cap', .slice A' nl c'], .int .i64 e']) ∧ SlS w.heap.size w' A' c' l' ∧ Bel w w' := by
  have HS0 := Lib.hid h
  clear h
  obtain ⟨mb, hmb⟩ : ∃ mb, Hid (mayM ⟨cap, l⟩ = mb) := ⟨_, Lib.hid rfl⟩
  obtain ⟨ix, hix⟩ : ∃ ix, Hid (idxR l id = ix) := ⟨_, Lib.hid rfl⟩
  have bM := (Blk.new w 79 #[.int .i64 cap, .slice A nn c]).alloc (.cells #[.int .i64 0, .slice none 0 0] 79)
  have bR := Blk.new (w.alloc (.cells #[.int .i64 cap, .slice A nn c] 79)) 79 #[.int .i64 0, .slice none 0 0]
  rw [World.size_alloc] at bR
  have HBa := Lib.hid (((Bel.refl w).alloc (.cells #[.int .i64 cap, .slice A nn c] 79)).alloc (.cells #[.int .i64 0, .slice none 0 0] 79))
  have q0 := bM.cell 0 (v := .int .i64 cap) rfl
  have q1 := bM.cell 1 (v := .slice A nn c) rfl
  go_enter Tryz.func30, Tryz.ntmps30
  go_wp2_with fail
  generalize (w.alloc (.cells #[.int .i64 cap, .slice A nn c] 79)).alloc (.cells #[.int .i64 0, .slice none 0 0] 79) = W1 at *
  refine (at_any cap A nn c l id ix _ (HS0.out.mono BlkR.mono HBa.out) hn hix).mono ?_
  rintro e w1 ⟨rfl, hb⟩
  have HB1 := HBa.out.trans hb
  have q0 := hb.cell q0
  have q1 := hb.cell q1
  have bM1 := bM.bel hb
  have bR1 := bR.bel hb
  clear hb bM bR
  go_wp2_with fail
  refine (May_any cap A nn c l mb _ (HS0.out.mono BlkR.mono HB1) hn hmb).mono ?_
  rintro e w2 ⟨rfl, hb⟩
  have HB2 := HB1.trans hb
  have q0 := hb.cell q0
  have q1 := hb.cell q1
  have BM := Lib.hid (bM1.bel hb)
  have BR := Lib.hid (bR1.bel hb)
  clear hb HB1 bM1 bR1
  obtain ⟨g, hg⟩ : ∃ g, w.heap.size = g := ⟨_, rfl⟩
  have hgw : w.heap.size ≤ g := by omega
  rw [hg] at q0 q1 BM BR ⊢
  have r0 : w2.cell? ⟨g + 1, 0, none⟩ = some (.int .i64 0) := BR.out.cell 0 rfl
  have r1 : w2.cell? ⟨g + 1, 1, none⟩ = some (.slice none 0 0) := BR.out.cell 1 rfl
  have fr0 := BR.out.frozen 0
  have fr1 := BR.out.frozen 1
  have fq0 := BM.out.frozen 0
  have fq1 := BM.out.frozen 1
  clear hg
  have ZERO : ∀ k : Int, Hid (dropM ⟨cap, l⟩ id = (⟨0, []⟩, k) → (cap' = 0 ∧ l' = [] ∧ e' = k)) := fun k => Lib.hid (fun e => by
    have := hr.out
    rw [e] at this
    simp only [Prod.mk.injEq, MemD.mk.injEq] at this
    exact ⟨this.1.1.symm, this.1.2.symm, this.2.symm⟩)
  cases mb
  · obtain ⟨rfl, rfl, rfl⟩ := (ZERO 1).out (by unfold dropM; rw [if_neg (by rw [hmb.out]; simp)])
    obtain rfl : nl = 0 := by rw [← hnl.out]; rfl
    obtain ⟨e0, e1⟩ := res_two BR.out (.int .i64 0) (.slice none 0 0)
    have E0 := Lib.hid e0
    have E1 := Lib.hid e1
    have HFIN := Lib.hid ((HB2.setCell (p := ⟨g + 1, 0, none⟩) (by simp only; omega) (.int .i64 0)).setCell (p := ⟨g + 1, 1, none⟩) (by simp only; omega) (.slice none 0 0))
    clear e0 e1 hr ZERO
    go_wp2_with fail
    refine bodyPost_ret (v := .tuple #[.agg #[.int .i64 0, .slice none 0 0], .int .i64 1]) ?_ rfl ⟨none, 0, rfl, SlS.nil _ _ _ _ (by decide), HFIN.out⟩
    have h1 := E0.out
    have h2 := E1.out
    simp [results, Tryz.results30, go_sem, h1, h2]
  · have HOK : Hid (Ok ⟨cap, l⟩) := Lib.hid (mayM_iff.1 hmb.out)
    rcases idxR_range l id with hneg | ⟨i, hie, hil⟩
    · obtain ⟨rfl, rfl, rfl⟩ := (ZERO 3).out (by unfold dropM; rw [if_pos hmb.out, if_pos hneg])
      obtain rfl : nl = 0 := by rw [← hnl.out]; rfl
      rw [hix.out] at hneg
      obtain ⟨e0, e1⟩ := res_two BR.out (.int .i64 0) (.slice none 0 0)
      have E0 := Lib.hid e0
      have E1 := Lib.hid e1
      have HFIN := Lib.hid ((HB2.setCell (p := ⟨g + 1, 0, none⟩) (by simp only; omega) (.int .i64 0)).setCell (p := ⟨g + 1, 1, none⟩) (by simp only; omega) (.slice none 0 0))
      clear e0 e1 hr ZERO
      go_wp2_with fail
      refine bodyPost_ret (v := .tuple #[.agg #[.int .i64 0, .slice none 0 0], .int .i64 3]) ?_ rfl ⟨none, 0, rfl, SlS.nil _ _ _ _ (by decide), HFIN.out⟩
      have h1 := E0.out
      have h2 := E1.out
      simp [results, Tryz.results30, go_sem, h1, h2]
    · have HR : Hid (cap' = cap ∧ l' = del l i ∧ e' = 0) := Lib.hid (by
        have := hr.out
        unfold dropM at this
        rw [if_pos hmb.out, if_neg (by simp only [hie]; omega)] at this
        simp only [hie, Prod.mk.injEq, MemD.mk.injEq, Int.toNat_natCast] at this
        exact ⟨this.1.1.symm, this.1.2.symm, this.2.symm⟩)
      obtain ⟨rfl, rfl, rfl⟩ := HR.out
      rw [hix.out] at hie
      subst hie
      obtain rfl : nl = nn - 1 := by rw [← hnl.out, del_length hil, hn.out]
      have hin : i < nn := by rw [← hn.out]; exact hil
      have hnn : nn ≤ 1024 := by have := HOK.out.few; simp only [hn.out] at this; exact this
      have hneg : ¬ (i : Int) < 0 := by omega
      have i0 : 0 ≤ (i : Int) := by omega
      have HIL := Lib.hid hil
      clear hr ZERO hil
      go_wp2_with fail
      refine (own_any cap' A nn c l w2 (HS0.out.mono BlkR.mono HB2) hn HOK).mono ?_
      rintro e w5 ⟨A5, c5, rfl, hown, hb5⟩
      rcases hown with ⟨rfl, -⟩ | ⟨D5, A', cc, rfl, hO⟩
      · have := HIL.out; simp at this
      have bM5 := BM.out.bel hb5
      have bR5 := BR.out.bel hb5
      have q0 : w5.cell? ⟨g, 0, none⟩ = some (.int .i64 cap') := bM5.cell 0 rfl
      have q1 : w5.cell? ⟨g, 1, none⟩ = some (.slice A nn c) := bM5.cell 1 rfl
      have fq0 := bM5.frozen 0
      have fq1 := bM5.frozen 1
      have hg2 := BR.out.lt
      have HBM6 : Hid (Blk ((w5.setCell ⟨g, 0, none⟩ (.int .i64 cap')).setCell ⟨g, 1, none⟩ (.slice (some ⟨D5, 0, none⟩) nn c5)) g 79 #[.int .i64 cap', .slice (some ⟨D5, 0, none⟩) nn c5]) := Lib.hid ((bM5.set 0 _).set 1 _)
      have HBR6 : Hid (Blk ((w5.setCell ⟨g, 0, none⟩ (.int .i64 cap')).setCell ⟨g, 1, none⟩ (.slice (some ⟨D5, 0, none⟩) nn c5)) (g + 1) 79 #[.int .i64 0, .slice none 0 0]) := Lib.hid ((bR5.other (by simp) _).other (by simp) _)
      have HB6 : Hid (Bel w ((w5.setCell ⟨g, 0, none⟩ (.int .i64 cap')).setCell ⟨g, 1, none⟩ (.slice (some ⟨D5, 0, none⟩) nn c5))) := Lib.hid (((HB2.trans hb5).setCell (p := ⟨g, 0, none⟩) (by simp only; omega) _).setCell (p := ⟨g, 1, none⟩) (by simp only; omega) _)
      have HA6 := Lib.hid (((Abv.refl w2.heap.size w5).set (p := ⟨g, 0, none⟩) (by simp only; omega) (.int .i64 cap')).set (p := ⟨g, 1, none⟩) (by simp only; omega) (.slice (some ⟨D5, 0, none⟩) nn c5))
      have HO6 := Lib.hid (hO.abv HA6.out)
      have HA6s : Hid (w2.heap.size ≤ ((w5.setCell ⟨g, 0, none⟩ (.int .i64 cap')).setCell ⟨g, 1, none⟩ (.slice (some ⟨D5, 0, none⟩) nn c5)).heap.size) := Lib.hid (Nat.le_trans hb5.size HA6.out.size)
      have HWF : Hid (∀ i, i < l.length → (Lit.int .i64 (l[i]!).id).wf = true ∧ (Lit.int .i64 (l[i]!).at').wf = true) := Lib.hid (fun i hi => by
        obtain ⟨b, off, rfl⟩ := HS0.out.addr (by omega)
        obtain ⟨_, _, _, _, _, _, f1, f2⟩ := blk_cells HS0.out i hi
        exact ⟨f1, f2⟩)
      clear r0 r1 fr0 fr1 hb5 hO bM5 bR5
      go_wp2_with fail
      generalize (w5.setCell ⟨g, 0, none⟩ (.int .i64 cap')).setCell ⟨g, 1, none⟩ (.slice (some ⟨D5, 0, none⟩) nn c5) = W6 at *
      have hnc : nn ≤ c5 := by rw [← hn.out]; exact HO6.out.row.le
      have hcm : c5 ≤ maxLen := HO6.out.row.big
      simp only [maxLen] at hcm
      have t1 : (i : Int) ≤ nn := by omega
      have t2 : (nn : Int) ≤ c5 := by omega
      have t3 : (i : Int) ≤ c5 := by omega
      have t4 : (i : Int) + 1 ≤ nn := by omega
      have t5 : 0 ≤ (i : Int) + 1 := by omega
      have ek : IntKind.i64.wrap ((i : Int) + 1) = (i : Int) + 1 := wrap_i64 (by omega) (by omega)
      have SD : Thr ⟨g, 1, none⟩ ⟨g, 1, none⟩ ⟨g, 1, none⟩ (.slice (some ⟨D5, 0, none⟩) nn c5) (.slice (some ⟨D5, 0, none⟩) nn c5) (.slice (some ⟨D5, 0, none⟩) nn c5) W6.drew := by
        have z := ((Bel.refl W6).drew).cell (HBM6.out.cell 1 (v := .slice (some ⟨D5, 0, none⟩) nn c5) rfl)
        exact ⟨z, z, z, HBM6.out.frozen 1⟩
      have P0 := fun (w' : World) (h : Thr ⟨g, 1, none⟩ ⟨g, 1, none⟩ ⟨g, 1, none⟩ (.slice (some ⟨D5, 0, none⟩) nn c5) (.slice (some ⟨D5, 0, none⟩) nn c5) (.slice (some ⟨D5, 0, none⟩) nn c5) w') => h.c1
      have P3 := fun (w' : World) (h : Thr ⟨g, 1, none⟩ ⟨g, 1, none⟩ ⟨g, 1, none⟩ (.slice (some ⟨D5, 0, none⟩) nn c5) (.slice (some ⟨D5, 0, none⟩) nn c5) (.slice (some ⟨D5, 0, none⟩) nn c5) w') => h.f1
      have APP := Lib.hid (fun (W : World) (hb : Bel W6 W) (ty : TypeId) => appB_drop ty HO6.out.row hb hn.out (by omega) hin HA6s.out)
      clear q0 q1 fq0 fq1
      refine wp_region_T (fun w' => Thr ⟨g, 1, none⟩ ⟨g, 1, none⟩ ⟨g, 1, none⟩ (.slice (some ⟨D5, 0, none⟩) nn c5) (.slice (some ⟨D5, 0, none⟩) nn c5) (.slice (some ⟨D5, 0, none⟩) nn c5) w') (fun j => j == 12) (by kernel_rfl) ?_
      refine wpAnyT_take (i := 0) (v := ?v0) rfl (by kernel_rfl) (by kernel_rfl) (by kernel_rfl) (by kernel_rfl) (fun _ _ _ h => h) (Or.inl ⟨by rfl, ?hy0⟩) SD ?rest0
      case hy0 => (intro w' hSw; go_simp) <;> with_reducible rfl
      try simp only [List.getElem_toArray, List.getElem_cons_zero, List.getElem_cons_succ, Act.put, List.setIfInBounds_toArray, List.set_cons_zero, List.set_cons_succ]
      refine wpAnyT_take (i := 1) (v := ?v1) rfl (by kernel_rfl) (by kernel_rfl) (by kernel_rfl) (by kernel_rfl) (fun _ _ _ h => h) (Or.inl ⟨by rfl, ?hy1⟩) SD ?rest1
      case hy1 => (intro w' hSw; go_simp) <;> with_reducible rfl
      try simp only [List.getElem_toArray, List.getElem_cons_zero, List.getElem_cons_succ, Act.put, List.setIfInBounds_toArray, List.set_cons_zero, List.set_cons_succ]
      refine wpAnyT_take (i := 2) (v := ?v2) rfl (by kernel_rfl) (by kernel_rfl) (by kernel_rfl) (by kernel_rfl) (fun _ _ _ h => h) (Or.inl ⟨by rfl, ?hy2⟩) SD ?rest2
      case hy2 => (intro w' hSw; go_simp) <;> with_reducible rfl
      try simp only [List.getElem_toArray, List.getElem_cons_zero, List.getElem_cons_succ, Act.put, List.setIfInBounds_toArray, List.set_cons_zero, List.set_cons_succ]
      refine wpAnyT_take (i := 3) (v := ?v3) rfl (by kernel_rfl) (by kernel_rfl) (by kernel_rfl) (by kernel_rfl) (fun _ _ _ h => h) (Or.inl ⟨by rfl, ?hy3⟩) SD ?rest3
      case hy3 => (intro w' hSw; go_simp) <;> with_reducible rfl
      try simp only [List.getElem_toArray, List.getElem_cons_zero, List.getElem_cons_succ, Act.put, List.setIfInBounds_toArray, List.set_cons_zero, List.set_cons_succ]
      refine wpAnyT_take (i := 4) (v := ?v4) rfl (by kernel_rfl) (by kernel_rfl) (by kernel_rfl) (by kernel_rfl) (fun _ _ _ h => h) (Or.inl ⟨by rfl, ?hy4⟩) SD ?rest4
      case hy4 => (intro w' hSw; go_simp) <;> with_reducible rfl
      try simp only [List.getElem_toArray, List.getElem_cons_zero, List.getElem_cons_succ, Act.put, List.setIfInBounds_toArray, List.set_cons_zero, List.set_cons_succ]
      refine wpAnyT_take (i := 5) (v := ?v5) rfl (by kernel_rfl) (by kernel_rfl) (by kernel_rfl) (by kernel_rfl) (fun _ _ _ h => h) (Or.inl ⟨by rfl, ?hy5⟩) SD ?rest5
      case hy5 => (intro w' hSw; go_simp) <;> with_reducible rfl
      try simp only [List.getElem_toArray, List.getElem_cons_zero, List.getElem_cons_succ, Act.put, List.setIfInBounds_toArray, List.set_cons_zero, List.set_cons_succ]
      refine wpAnyT_take (i := 6) (v := ?v6) rfl (by kernel_rfl) (by kernel_rfl) (by kernel_rfl) (by kernel_rfl) (fun _ _ _ h => h) (Or.inl ⟨by rfl, ?hy6⟩) SD ?rest6
      case hy6 => (intro w' hSw; go_simp) <;> with_reducible rfl
      try simp only [List.getElem_toArray, List.getElem_cons_zero, List.getElem_cons_succ, Act.put, List.setIfInBounds_toArray, List.set_cons_zero, List.set_cons_succ]
      refine wpAnyT_take (i := 7) (v := ?v7) rfl (by kernel_rfl) (by kernel_rfl) (by kernel_rfl) (by kernel_rfl) (fun _ _ _ h => h) (Or.inl ⟨by rfl, ?hy7⟩) SD ?rest7
      case hy7 => (intro w' hSw; go_simp) <;> with_reducible rfl
      try simp only [List.getElem_toArray, List.getElem_cons_zero, List.getElem_cons_succ, Act.put, List.setIfInBounds_toArray, List.set_cons_zero, List.set_cons_succ]
      refine wpAnyT_take (i := 8) (v := ?v8) rfl (by kernel_rfl) (by kernel_rfl) (by kernel_rfl) (by kernel_rfl) (fun _ _ _ h => h) (Or.inl ⟨by rfl, ?hy8⟩) SD ?rest8
      case hy8 => (intro w' hSw; go_simp) <;> with_reducible rfl
      try simp only [List.getElem_toArray, List.getElem_cons_zero, List.getElem_cons_succ, Act.put, List.setIfInBounds_toArray, List.set_cons_zero, List.set_cons_succ]
      refine wpAnyT_take (i := 9) (v := ?v9) rfl (by kernel_rfl) (by kernel_rfl) (by kernel_rfl) (by kernel_rfl) (fun _ _ _ h => h) (Or.inl ⟨by rfl, ?hy9⟩) SD ?rest9
      case hy9 => (intro w' hSw; go_simp) <;> with_reducible rfl
      try simp only [List.getElem_toArray, List.getElem_cons_zero, List.getElem_cons_succ, Act.put, List.setIfInBounds_toArray, List.set_cons_zero, List.set_cons_succ]
      refine wpAnyT_one (i := 10) (by kernel_rfl) rfl (fun K hK => ?_)
      refine step_append_run (by rfl) _ _ _ (by rfl) (.slice (some ⟨D5, 0, none⟩) i i) (.slice (if c5 = i + 1 then some ⟨D5, 0, none⟩ else some ⟨D5, (i + 1) * 3, none⟩) (nn - (i + 1)) (c5 - (i + 1))) (by rfl) (by rfl) _ (APP.out W6.drew (Bel.drew (Bel.refl W6)) _) ?_
      rintro v8 w8 ⟨g8, c8, hv8, h81, h82, h83, h84, h85, hb8⟩
      rw [show i + (nn - (i + 1)) = nn - 1 by omega] at hv8
      subst hv8
      have S8 := SD.bel hb8
      refine hK.out _ _ (fun _ => S8) ?_
      clear hK K
      try simp only [List.getElem_toArray, List.getElem_cons_zero, List.getElem_cons_succ, Act.put, List.setIfInBounds_toArray, List.set_cons_zero, List.set_cons_succ]
      refine wpAnyT_take (i := 11) (v := ?v11) rfl (by kernel_rfl) (by kernel_rfl) (by kernel_rfl) (by kernel_rfl) (fun _ _ _ h => h) (Or.inl ⟨by rfl, ?hy11⟩) S8 ?rest11
      case hy11 => (intro w' hSw; go_simp) <;> with_reducible rfl
      try simp only [List.getElem_toArray, List.getElem_cons_zero, List.getElem_cons_succ, Act.put, List.setIfInBounds_toArray, List.set_cons_zero, List.set_cons_succ]
      refine wpAnyT_one (i := 12) (by kernel_rfl) rfl (fun K hK => ?_)
      go_simp
      refine hK.out _ _ (fun h => absurd h (by decide)) ?_
      clear hK K
      try simp only [List.getElem_toArray, List.getElem_cons_zero, List.getElem_cons_succ, Act.put, List.setIfInBounds_toArray, List.set_cons_zero, List.set_cons_succ]
      refine wpAnyT_done (by kernel_rfl) ?_ _
      refine NoPanic.normal ?_
      have HB8 : Bel W6 w8 := ((Bel.refl W6).drew).trans hb8
      have bM8 := HBM6.out.bel HB8
      have bR8 := HBR6.out.bel HB8
      have c0 : w8.cell? ⟨g, 0, none⟩ = some (.int .i64 cap') := bM8.cell 0 rfl
      have c1 : w8.cell? ⟨g, 1, none⟩ = some (.slice (some ⟨D5, 0, none⟩) nn c5) := bM8.cell 1 rfl
      have r0 : w8.cell? ⟨g + 1, 0, none⟩ = some (.int .i64 0) := bR8.cell 0 rfl
      have r1 : w8.cell? ⟨g + 1, 1, none⟩ = some (.slice none 0 0) := bR8.cell 1 rfl
      have fr0 := bR8.frozen 0
      have fr1 := bR8.frozen 1
      have bR9 := bR8.other (p := ⟨g, 1, none⟩) (by simp) (.slice (some ⟨g8, 0, none⟩) (nn - 1) c8)
      obtain ⟨e0, e1⟩ := res_two bR9 (.int .i64 cap') (.slice (some ⟨g8, 0, none⟩) (nn - 1) c8)
      have hF := (((HB6.out.trans HB8).setCell (p := ⟨g, 1, none⟩) (by simp only; omega) (.slice (some ⟨g8, 0, none⟩) (nn - 1) c8)).setCell (p := ⟨g + 1, 0, none⟩) (by simp only; omega) (.int .i64 cap')).setCell (p := ⟨g + 1, 1, none⟩) (by simp only; omega) (.slice (some ⟨g8, 0, none⟩) (nn - 1) c8)
      have hA8 := (((Abv.refl w2.heap.size w8).set (p := ⟨g, 1, none⟩) (by simp only; omega) (.slice (some ⟨g8, 0, none⟩) (nn - 1) c8)).set (p := ⟨g + 1, 0, none⟩) (by simp only; omega) (.int .i64 cap')).set (p := ⟨g + 1, 1, none⟩) (by simp only; omega) (.slice (some ⟨g8, 0, none⟩) (nn - 1) c8)
      have hsl : SlS w.heap.size _ (some ⟨g8, 0, none⟩) c8 (del l i) := slS_of hA8 HB2.size (fun W' hA8 => drop_sl (HO6.out.abv ((Abv.of HB8).trans hA8)) HWF.out HIL.out (by rw [hn.out]; omega) h84 (fun q u hu => (World.cell?_of_block (a := ⟨g8, q, none⟩) (hA8.block g8 h81 h82)).trans (h85 q u (by rw [hn.out] at hu; exact hu))))
      have E0 := Lib.hid e0
      have E1 := Lib.hid e1
      have HF := Lib.hid hF
      have HSL := Lib.hid hsl
      clear e0 e1 hF hA8 hsl bR9 bR8 bM8 h81 h82 h83 h84 h85 hb8 HB8 SD S8 P0 P3 APP
      generalize (if c5 = i + 1 then some (⟨D5, 0, none⟩ : Addr) else some ⟨D5, (i + 1) * 3, none⟩) = XA
      go_wp2_with fail
      refine bodyPost_ret (v := .tuple #[.agg #[.int .i64 cap', .slice (some ⟨g8, 0, none⟩) (nn - 1) c8], .int .i64 0]) ?_ rfl ⟨_, c8, rfl, HSL.out, HF.out⟩
      have h1 := E0.out
      have h2 := E1.out
      simp [results, Tryz.results30, go_sem, h1, h2]
end Go.Proofs.YtebdnobgdimdoaaGreat
set_option linter.unusedVariables false
set_option linter.unusedSimpArgs false
namespace Go.Proofs.YtebdnobgdimdoaaGreat
open Go.RowKit
/-- A block with one word changed. -/
def setB (b : BlkD) (k : Nat) (v : Int) : BlkD := ⟨b.id, b.at', b.w.set k v⟩
theorem set_get! {l : List BlkD} {i : Nat} (hi : i < l.length) (b : BlkD) (j : Nat) : (l.set i b)[j]! = if j = i then b else l[j]! := by
  simp only [List.getElem!_eq_getElem?_getD]
  rw [List.getElem?_set]
  by_cases e : i = j
  · subst e
    rw [if_pos rfl, if_pos rfl, if_pos hi]
    rfl
  · rw [if_neg e, if_neg (Ne.symm e)]
theorem OwnB.patch {w0 W : World} {D c : Nat} {l : List BlkD} {A : Nat → Option Addr} {cc : Nat → Nat} (h : OwnB w0 W D c l l.length A cc) {i g k : Nat} (hi : i < l.length) (hg : A i = some ⟨g, 0, none⟩) (hgD : g ≠ D) (hk : k < (l[i]!).w.length) {v : Int} (hv : (Lit.int .u64 v).wf = true) :
    OwnB w0 (W.setCell ⟨g, k, none⟩ (.int .u64 v)) D c (l.set i (setB (l[i]!) k v)) (l.set i (setB (l[i]!) k v)).length A cc := by
  have hlen : (l.set i (setB (l[i]!) k v)).length = l.length := List.length_set
  have hget := set_get! hi (setB (l[i]!) k v)
  rw [hlen]
  have hid : ∀ j : Nat, ((l.set i (setB (l[i]!) k v))[j]!).id = (l[j]!).id ∧ ((l.set i (setB (l[i]!) k v))[j]!).at' = (l[j]!).at' ∧ ((l.set i (setB (l[i]!) k v))[j]!).w.length = (l[j]!).w.length := fun j => by
    rw [hget]
    split
    · rename_i e; subst e; exact ⟨rfl, rfl, List.length_set⟩
    · exact ⟨rfl, rfl, rfl⟩
  have hne : ∀ q, (W.setCell ⟨g, k, none⟩ (.int .u64 v)).cell? ⟨D, q, none⟩ = W.cell? ⟨D, q, none⟩ := fun q => World.cell?_of_block (a := ⟨D, q, none⟩) (setCell_heap_ne W _ (Ne.symm hgD))
  refine ⟨⟨h.row.D0, by rw [setCell_size]; exact h.row.lt, by rw [hlen]; exact h.row.le, h.row.big, fun q => by rw [World.frozen?_setCell]; exact h.row.frz q, fun j hj => ?_⟩, fun j hj hlj => ?_, fun j hj hlj => ?_, fun a b hab hb hbl => h.ne a b hab (by omega) hbl⟩
  · rw [hlen] at hj
    obtain ⟨e1, e2, e3⟩ := h.row.cells j hj
    obtain ⟨f1, f2, f3⟩ := hid j
    rw [f1, f2, f3, hne, hne, hne]
    exact ⟨e1, e2, e3⟩
  · omega
  · obtain ⟨g', e1, e2, e3, e4, e5⟩ := h.own j hlj hlj
    refine ⟨g', e1, e2, by rw [setCell_size]; exact e3, e4, ?_⟩
    rw [hget]
    by_cases e : j = i
    · subst e
      rw [if_pos rfl]
      obtain rfl : g' = g := by rw [hg] at e1; cases e1; rfl
      exact e5.set hk hv
    · rw [if_neg e]
      have hgg : g' ≠ g := fun hh => by
        subst hh
        by_cases h1 : i < j
        · exact h.ne i j h1 hlj hlj (by rw [hg, e1])
        · exact h.ne j i (by omega) hi hi (by rw [hg, e1])
      exact e5.other (setCell_heap_ne W _ hgg)
theorem OwnB.slS {N : Nat} {w0 W W9 : World} {D c : Nat} {l : List BlkD} {A : Nat → Option Addr} {cc : Nat → Nat} (h : OwnB w0 W D c l l.length A cc) (hA : Abv w0.heap.size W W9) (hn : N ≤ w0.heap.size) (hwf : ∀ i, i < l.length → (Lit.int .i64 (l[i]!).id).wf = true ∧ (Lit.int .i64 (l[i]!).at').wf = true) : SlS N W9 (some ⟨D, 0, none⟩) c l := slS_of hA hn (fun W' hA => (h.abv hA).sl hwf)
theorem patchM_eq {cap : Int} {l : List BlkD} {place v : Int} {i : Nat} (hm : mayM ⟨cap, l⟩ = true) (hb : blkOf l place = some i) : patchM ⟨cap, l⟩ place v = (⟨cap, l.set i (setB (l[i]!) (place - (l[i]!).at').toNat v)⟩, 0) := by
  unfold patchM
  rw [if_pos hm]
  simp only [hb]
  rfl
end Go.Proofs.YtebdnobgdimdoaaGreat
