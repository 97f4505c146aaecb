/- arena.Put: its walk. -/
import Derived.Test.YtebdnobgdimdoaaGreatGT
import Derived.Test.YtebdnobgdimdoaaGreatGF
set_option linter.unusedVariables false
set_option linter.unusedSimpArgs false
namespace Go.Proofs.YtebdnobgdimdoaaGreat
open Go.RowKit Go.Shelf
attribute [local go_sem] Oper.semAt_some
/-- Put's four boxes. -/
structure PutS (W : World) (g : Nat) (cap : Int) (A : Option Addr) (n c : Nat) (place : Int) (B : Option Addr) (m c2 : Nat) : Prop where
  bm : Blk W g 79 #[.int .i64 cap, .slice A n c]
  bp : Blk W (g + 1) 3 #[.int .i64 place]
  bw : Blk W (g + 2) 74 #[.slice B m c2]
  br : Blk W (g + 3) 79 #[.int .i64 0, .slice none 0 0]
theorem PutS.bel {W W' : World} {g : Nat} {cap : Int} {A : Option Addr} {n c : Nat} {place : Int} {B : Option Addr} {m c2 : Nat} (h : PutS W g cap A n c place B m c2) (hb : Bel W W') : PutS W' g cap A n c place B m c2 := ⟨h.bm.bel hb, h.bp.bel hb, h.bw.bel hb, h.br.bel hb⟩
theorem Blk.kept {W W' : World} {row : Option Nat} {B : Nat} {t : TypeId} {cs : Array Value} (h : Blk W B t cs) (hg : W.grownBy W' row) (hr : ∀ g, row = some g → ∃ o, W.heap[g]? = some o ∧ o.isCells = false) : Blk W' B t cs := by
  refine (hg.block B h.lt (fun e => ?_)).trans h
  obtain ⟨o, ho, hc⟩ := hr B e.symm
  rw [show W.heap[B]? = _ from h] at ho
  cases ho
  cases hc
theorem PutS.kept {W W' : World} {row : Option Nat} {g : Nat} {cap : Int} {A : Option Addr} {n c : Nat} {place : Int} {B : Option Addr} {m c2 : Nat} (h : PutS W g cap A n c place B m c2) (hg : W.grownBy W' row) (hr : ∀ g, row = some g → ∃ o, W.heap[g]? = some o ∧ o.isCells = false) : PutS W' g cap A n c place B m c2 :=
  ⟨h.bm.kept hg hr, h.bp.kept hg hr, h.bw.kept hg hr, h.br.kept hg hr⟩
theorem PutS.other {W : World} {g : Nat} {cap : Int} {A : Option Addr} {n c : Nat} {place : Int} {B : Option Addr} {m c2 : Nat} (h : PutS W g cap A n c place B m c2) {p : Addr} (hp : g + 3 < p.block) (v : Value) : PutS (W.setCell p v) g cap A n c place B m c2 :=
  ⟨h.bm.other (by omega) v, h.bp.other (by omega) v, h.bw.other (by omega) v, h.br.other (by omega) v⟩
theorem fitsL_snoc (place n : Int) (xs : List GapV) (x : GapV) : fitsL place n (vals (xs ++ [x])) = (fitsL place n (vals xs) || decide (x.1.1 ≤ place ∧ place < x.1.2 ∧ n ≤ x.1.2 - place)) := by
  rw [vals_snoc]
  simp [fitsL]
/-- What is returned when nothing is put. -/
theorem put_res {W : World} {g : Nat} {cap : Int} {A : Option Addr} {n c : Nat} {place : Int} {B : Option Addr} {m c2 : Nat} (h : PutS W g cap A n c place B m c2) (x v : Value) :
    ((W.setCell ⟨g + 3, 0, none⟩ x).setCell ⟨g + 3, 1, none⟩ v).cell? ⟨g + 3, 0, none⟩ = some x ∧ ((W.setCell ⟨g + 3, 0, none⟩ x).setCell ⟨g + 3, 1, none⟩ v).cell? ⟨g + 3, 1, none⟩ = some v :=
  ⟨((h.br.set 0 x).set 1 v).cell 0 rfl, ((h.br.set 0 x).set 1 v).cell 1 rfl⟩
set_option maxRecDepth 100000 in
set_option maxHeartbeats 4000000 in
theorem put_in (cap : Int) (A : Option Addr) (nn c : Nat) (l : List BlkD) (id place : Int) (B : Option Addr) (m c2 : Nat) (ws : List Int) (w : World) (h : Sl BlkR 3 w A c l) (hn : Hid (l.length = nn)) (hw : Sl (IntR .u64) 1 w B c2 ws) (hm : Hid (ws.length = m)) (hwf1 : Hid ((Lit.int .i64 id).wf = true)) (hwf2 : Hid ((Lit.int .i64 place).wf = true)) (cap' : Int) (l' : List BlkD) (nl : Nat) (e' : Int) (hr : Hid (putM ⟨cap, l⟩ ⟨id, place, ws⟩ = (⟨cap', l'⟩, e'))) (hnl : Hid (l'.length = nl)) :
    CallsIn Fence.wide 3 Tryz.prog 63 #[.agg #[.int .i64 cap, .slice A nn c], .int .i64 id, .int .i64 place, .slice B m c2] w fun e w' => ∃ A' c', e = .returned (.tuple #[.agg #[.int .i64 cap', .slice A' nl c'], .int .i64 e']) ∧ SlS w.heap.size w' A' c' l' ∧ Bel w w' := by
  have HS0 := Lib.hid h
  have HW0 := Lib.hid hw
  clear h hw
  obtain ⟨mb, hmb⟩ : ∃ mb, Hid (mayM ⟨cap, l⟩ = mb) := ⟨_, Lib.hid rfl⟩
  obtain ⟨ix, hix⟩ : ∃ ix, Hid (idxR l id = ix) := ⟨_, Lib.hid rfl⟩
  refine callsIn_of_wp_marks Tryz.func63 rfl trivial ?_ rfl
  simp only [Tryz.ntmps63, List.size_toArray, List.length_cons, List.length_nil, Nat.reduceAdd, Nat.reduceSub, Array.replicate_succ, Array.replicate_zero, List.push_toArray, List.append_toArray, List.nil_append, List.cons_append]
  gi_wp2_with fail
  refine ⟨trivial, ?_⟩
  have hS1 : PutS ((((w.alloc (.cells #[.int .i64 cap, .slice A nn c] 79)).alloc (.cells #[.int .i64 place] 3)).alloc (.cells #[.slice B m c2] 74)).alloc (.cells #[.int .i64 0, .slice none 0 0] 79)) w.heap.size cap A nn c place B m c2 := by
    refine ⟨(((Blk.new _ _ _).alloc _).alloc _).alloc _, ?_, ?_, ?_⟩
    · have := (((Blk.new (w.alloc (.cells #[.int .i64 cap, .slice A nn c] 79)) 3 #[.int .i64 place]).alloc (.cells #[.slice B m c2] 74))).alloc (.cells #[.int .i64 0, .slice none 0 0] 79)
      simpa using this
    · have := (Blk.new ((w.alloc (.cells #[.int .i64 cap, .slice A nn c] 79)).alloc (.cells #[.int .i64 place] 3)) 74 #[.slice B m c2]).alloc (.cells #[.int .i64 0, .slice none 0 0] 79)
      simpa using this
    · have := Blk.new (((w.alloc (.cells #[.int .i64 cap, .slice A nn c] 79)).alloc (.cells #[.int .i64 place] 3)).alloc (.cells #[.slice B m c2] 74)) 79 #[.int .i64 0, .slice none 0 0]
      simpa using this
  have HBa := Lib.hid (((((Bel.refl w).alloc (.cells #[.int .i64 cap, .slice A nn c] 79)).alloc (.cells #[.int .i64 place] 3)).alloc (.cells #[.slice B m c2] 74)).alloc (.cells #[.int .i64 0, .slice none 0 0] 79))
  generalize (((w.alloc (.cells #[.int .i64 cap, .slice A nn c] 79)).alloc (.cells #[.int .i64 place] 3)).alloc (.cells #[.slice B m c2] 74)).alloc (.cells #[.int .i64 0, .slice none 0 0] 79) = W1 at *
  refine (callsIn_wide.2 (May_any cap A nn c l mb _ (HS0.out.mono BlkR.mono HBa.out) hn hmb)).mono ?_
  rintro e w1 ⟨rfl, hb⟩
  have HB1 := HBa.out.trans hb
  have hS := hS1.bel hb
  obtain ⟨g, hg⟩ : ∃ g, w.heap.size = g := ⟨_, rfl⟩
  have hgw : w.heap.size ≤ g := by omega
  rw [hg] at hS ⊢
  clear hS1 hb hg
  have HSS := Lib.hid hS
  have q0 : w1.cell? ⟨g, 0, none⟩ = some (.int .i64 cap) := hS.bm.cell 0 rfl
  have q1 : w1.cell? ⟨g, 1, none⟩ = some (.slice A nn c) := hS.bm.cell 1 rfl
  have qw : w1.cell? ⟨g + 2, 0, none⟩ = some (.slice B m c2) := hS.bw.cell 0 rfl
  have r0 : w1.cell? ⟨g + 3, 0, none⟩ = some (.int .i64 0) := hS.br.cell 0 rfl
  have r1 : w1.cell? ⟨g + 3, 1, none⟩ = some (.slice none 0 0) := hS.br.cell 1 rfl
  have fr0 := hS.br.frozen 0
  have fr1 := hS.br.frozen 1
  have hlt := hS.br.lt
  have m1 : g < w1.heap.size := by omega
  have m2 : g + 1 < w1.heap.size := by omega
  have m3 : g + 2 < w1.heap.size := by omega
  clear hS
  by_cases hgo : mb = true ∧ 1 ≤ id ∧ 0 < m
  · obtain ⟨rfl, hid1, hm1⟩ := hgo
    have HOK : Hid (Ok ⟨cap, l⟩) := Lib.hid (mayM_iff.1 hmb.out)
    have hid1' : ¬ id < 1 := by omega
    have hm0 : ((m : Int) == 0) = false := by rw [beq_eq_false_iff_ne]; omega
    have hm0' : (m == 0) = false := by rw [beq_eq_false_iff_ne]; omega
    gi_wp2_with fail
    refine ⟨trivial, ?_⟩
    refine (callsIn_wide.2 (at_any cap A nn c l id ix _ (HS0.out.mono BlkR.mono HB1) hn hix)).mono ?_
    rintro e w2 ⟨rfl, hb2⟩
    have HB2 := HB1.trans hb2
    have HSS2 := Lib.hid (HSS.out.bel hb2)
    have q0 := hb2.cell q0
    have q1 := hb2.cell q1
    have hlt2 : g + 3 < w2.heap.size := Nat.lt_of_lt_of_le hlt hb2.size
    have m1' : g < w2.heap.size := by omega
    have n1 : ¬ g = w2.heap.size := by omega
    have n2 : ¬ w2.heap.size = g := by omega
    clear qw r0 r1 fr0 fr1 hlt m1 m2 m3 HB1 HSS hb2
    gi_wp2_with fail
    refine ⟨trivial, ?_⟩
    refine (gaps_in 2 cap A nn c _).mono ?_
    rintro e w' ⟨rfl, rfl⟩
    have bF := (Boxed.new w2 4 (.bool false)).alloc (.cells #[.int .i64 cap, .slice A nn c] 79)
    have hs3 : (w2.alloc (.cells #[.bool false] 4)).heap.size = w2.heap.size + 1 := by simp
    have B0 := cell_fresh (w2.alloc (.cells #[.bool false] 4)) #[.int .i64 cap, .slice A nn c] 79 0 (.int .i64 cap) rfl
    have B1 := cell_fresh (w2.alloc (.cells #[.bool false] 4)) #[.int .i64 cap, .slice A nn c] 79 1 (.slice A nn c) rfl
    have hs4 : ((w2.alloc (.cells #[.bool false] 4)).alloc (.cells #[.int .i64 cap, .slice A nn c] 79)).heap.size = w2.heap.size + 2 := by simp
    have hbb := ((Bel.refl w2).alloc (.cells #[.bool false] 4)).alloc (.cells #[.int .i64 cap, .slice A nn c] 79)
    have HB4 := HB2.trans hbb
    have S4 := HSS2.out.bel hbb
    rw [hs3] at B0 B1
    simp only [hs3]
    generalize (w2.alloc (.cells #[.bool false] 4)).alloc (.cells #[.int .i64 cap, .slice A nn c] 79) = W4 at *
    generalize w2.heap.size = F at *
    clear hs3 q0 q1 HB2 hbb HSS2
    gi_wp2_with fail
    refine wpIn_rangeFunc_ownG (F := Fence.wide) (n := 3) rfl (by omega) (gf := 109) (lb := #[.pointer (some ⟨F + 1, 0, none⟩)]) rfl trivial (enters_of Tryz.func109 (by kernel_rfl) rfl)
      (gaps_stops (3 - 1) (by omega) (F + 1) cap A c nn l w W4 HS0.out hn HOK (by omega) HB4 B0 B1)
      KpG.trans (KpG.turn (by omega)) (Below.refl _ _) (fun _ => rfl)
      (fun pre W => (Boxed W F 4 (.bool (fitsL place m (vals pre))) ∧ PutS W g cap A nn c place B m c2) ∧ Below w.heap.size w W)
      (fun _ _ _ => False)
      (OwnFrom.and (Own.from (fun s A' B' row hs hg hr => ⟨boxed_own F 4 (fun pre => .bool (fitsL place m (vals pre))) s _ _ _ hs.1 hg hr, hs.2.kept hg hr⟩) _) (ownFrom_below (Nat.le_refl _) (by omega)))
      (fun _ _ _ _ _ hs _ _ => hs)
      ⟨⟨bF, S4⟩, HB4.out⟩
      (fun x => { tmps := #[.agg #[.int .i64 cap, .slice A nn c], .int .i64 id, .int .i64 place, .slice B m c2, .pointer (some ⟨g, 0, none⟩), undef, .pointer (some ⟨g + 1, 0, none⟩), .pointer (some ⟨g + 1 + 1, 0, none⟩), .pointer (some ⟨g + 1 + 1 + 1, 0, none⟩), .int .i64 0, .bool (decide (ix < 0)), .pointer (some ⟨F, 0, none⟩), .int .i64 x.1.1, .int .i64 x.1.2, undef, .agg #[.int .i64 cap, .slice A nn c], .bool true, .bool false, .bool false, .int .i64 id, .bool (decide (id < 1)), .bool (decide (id < 1)), .bool (decide (id < 1)), .slice B m c2, .int .i64 m, .bool false, .bool (decide (id < 1)), undef, .agg #[.int .i64 cap, .slice A nn c], .int .i64 id, .int .i64 ix, .bool (decide (ix < 0)), .agg #[.int .i64 cap, .slice A nn c], .func (.func 109) #[] #[.pointer (some ⟨F + 1, 0, none⟩)], .int .i64 x.1.1, .int .i64 x.1.2, undef, undef, undef, undef, undef, undef, undef, undef, undef, undef, undef, undef, undef, undef, undef, undef, undef, undef, undef, undef, undef, undef, undef, undef, undef, undef, undef, undef, undef, undef, undef, undef, undef, undef, undef, undef, undef, undef, undef, undef, undef, undef, undef, undef, undef, undef, undef, undef, undef, undef, undef, undef, undef, undef, undef, undef, undef, undef, undef, undef, undef, undef, undef, undef], defers := [] }) ?assign ?body ?done ?stop
    case assign =>
      intro z x W K hK
      simp only [gapEnc]
      gi_wp2
      exact hK
    case body =>
      rintro z pre x W ⟨⟨hb, hS⟩, hB⟩ hlen
      have hx := x.2
      have HSN := Lib.hid (fitsL_snoc place m pre x)
      have HB := Lib.hid hb
      have HBB := Lib.hid hB
      have HSS := Lib.hid hS
      have cc := hb.cell
      have ff := hb.frozen
      have qp : W.cell? ⟨g + 1, 0, none⟩ = some (.int .i64 place) := hS.bp.cell 0 rfl
      have qw : W.cell? ⟨g + 2, 0, none⟩ = some (.slice B m c2) := hS.bw.cell 0 rfl
      have FIN : ∀ b : Bool, Hid (b = fitsL place m (vals (pre ++ [x])) → KeepsFrom W4.heap.size W (W.setCell ⟨F, 0, none⟩ (.bool b)) ∧ KpG w.heap.size (F + 1) W (W.setCell ⟨F, 0, none⟩ (.bool b)) ∧ (Boxed (W.setCell ⟨F, 0, none⟩ (.bool b)) F 4 (.bool (fitsL place m (vals (pre ++ [x])))) ∧ PutS (W.setCell ⟨F, 0, none⟩ (.bool b)) g cap A nn c place B m c2) ∧ Below w.heap.size w (W.setCell ⟨F, 0, none⟩ (.bool b))) := fun b => Lib.hid (fun e => by
        subst e
        exact ⟨(KeepsOthers.setCell _ _ _).from _, KpG.setCell (by omega) (by omega) _, ⟨HB.out.set _, HSS.out.other (p := ⟨F, 0, none⟩) (by simp only; omega) _⟩, HBB.out.setCell (p := ⟨F, 0, none⟩) (by simp only; omega) _⟩)
      generalize fitsL place m (vals pre) = fb at *
      clear hb hB hS hlen hs4
      cases fb
      · by_cases h1 : x.1.1 ≤ place
        · by_cases h2 : place < x.1.2
          · have e1 : IntKind.i64.wrap (x.1.2 - place) = x.1.2 - place := wrap_i64 (by omega) (by omega)
            by_cases h3 : (m : Int) ≤ x.1.2 - place
            · have FIN := Lib.hid ((FIN true).out (by rw [HSN.out, decide_eq_true ⟨h1, h2, h3⟩]; rfl))
              clear HSN
              gi_wp2
              exact FIN.out
            · have FIN := Lib.hid ((FIN false).out (by rw [HSN.out, decide_eq_false (fun h => h3 h.2.2)]; rfl))
              clear HSN
              gi_wp2
              exact FIN.out
          · have FIN := Lib.hid ((FIN false).out (by rw [HSN.out, decide_eq_false (fun h => h2 h.2.1)]; rfl))
            clear HSN
            gi_wp2
            exact FIN.out
        · have FIN := Lib.hid ((FIN false).out (by rw [HSN.out, decide_eq_false (fun h => h1 h.1)]; rfl))
          clear HSN
          gi_wp2
          exact FIN.out
      · have FIN := Lib.hid ((FIN true).out (by rw [HSN.out]; rfl))
        clear HSN
        gi_wp2
        all_goals first | exact FIN.out | (rename_i h1 h2; first | cases h1 | simp [undef] at h1)
    case done =>
      rintro D ys W hD hys ⟨⟨hb, hS⟩, hB⟩ hK
      rw [hys] at hb
      rename_i K0 hK0
      refine hK0 _ _ ?_
      rw [wpIn_wide]
      have cf := hb.cell
      have q0 : W.cell? ⟨g, 0, none⟩ = some (.int .i64 cap) := hS.bm.cell 0 rfl
      have q1 : W.cell? ⟨g, 1, none⟩ = some (.slice A nn c) := hS.bm.cell 1 rfl
      have fq0 := hS.bm.frozen 0
      have fq1 := hS.bm.frozen 1
      have r0 : W.cell? ⟨g + 3, 0, none⟩ = some (.int .i64 0) := hS.br.cell 0 rfl
      have r1 : W.cell? ⟨g + 3, 1, none⟩ = some (.slice none 0 0) := hS.br.cell 1 rfl
      have fr0 := hS.br.frozen 0
      have fr1 := hS.br.frozen 1
      have HKD := Lib.hid hK
      have HSW := Lib.hid hS
      have HBW := Lib.hid hB
      have hDne : D ≠ g + 3 := by omega
      have hDlt : D < W.heap.size := (Array.getElem?_eq_some_iff.1 hK).1
      clear hK hS hB hb hys
      by_cases hfit : ix < 0 ∧ fitsL place m (gapsL ⟨cap, l⟩) = true
      · obtain ⟨hroom, hft⟩ := hfit
        obtain ⟨hpl0, hpl1⟩ := fits_small HOK.out (by omega) hft
        have HM4 : Hid (0 < m ∧ m ≤ 4096) := Lib.hid ⟨hm1, by omega⟩
        have HR : Hid (cap' = cap ∧ l' = ins l (insIdx l place) ⟨id, place, ws⟩ ∧ e' = 0) := Lib.hid (by
          have := hr.out
          unfold putM at this
          rw [if_pos ⟨hmb.out, hid1, fun e => by rw [show ws = [] from e] at hm; have := hm.out; simp at this; omega⟩] at this
          simp only [hix.out, hm.out] at this
          rw [if_pos ⟨hroom, hft⟩] at this
          simp only [Prod.mk.injEq, MemD.mk.injEq] at this
          exact ⟨this.1.1.symm, this.1.2.symm, this.2.symm⟩)
        obtain ⟨rfl, rfl, rfl⟩ := HR.out
        obtain ⟨hi1, hi2, hi3⟩ := insIdx_facts l place
        obtain ⟨i, hie⟩ : ∃ i, Hid (insIdx l place = i) := ⟨_, Lib.hid rfl⟩
        rw [hie.out] at hi1 hi2 hi3 hnl HR
        have hnl2 : nl = nn + 1 := by rw [← hnl.out, ins_length hi1, hn.out]
        have hnn : nn ≤ 1024 := by have := HOK.out.few; simp only [hn.out] at this; exact this
        rw [hn.out] at hi1 hi3
        have HI2 := Lib.hid hi2
        have HI3 := Lib.hid hi3
        subst hnl2
        rw [hft] at cf
        clear hr hft hi2 hi3
        go_wp2_with fail
        refine (own_any cap' A nn c l W (HS0.out.mono BlkR.mono (Bel.of HBW.out)) hn HOK).mono ?_
        rintro e w5 ⟨A5, c5, rfl, hown, hb5⟩
        have hS5 := HSW.out.bel hb5
        have q0 : w5.cell? ⟨g, 0, none⟩ = some (.int .i64 cap') := hS5.bm.cell 0 rfl
        have q1 : w5.cell? ⟨g, 1, none⟩ = some (.slice A nn c) := hS5.bm.cell 1 rfl
        have fq0 := hS5.bm.frozen 0
        have fq1 := hS5.bm.frozen 1
        have HS6 : Hid (PutS ((w5.setCell ⟨g, 0, none⟩ (.int .i64 cap')).setCell ⟨g, 1, none⟩ (.slice A5 nn c5)) g cap' A5 nn c5 place B m c2) := Lib.hid
          ⟨(hS5.bm.set 0 _).set 1 _, (hS5.bp.other (by simp) _).other (by simp) _, (hS5.bw.other (by simp) _).other (by simp) _, (hS5.br.other (by simp) _).other (by simp) _⟩
        have HK6 : Hid (((w5.setCell ⟨g, 0, none⟩ (.int .i64 cap')).setCell ⟨g, 1, none⟩ (.slice A5 nn c5)).heap[D]? = _) := Lib.hid (((KeepsOthers.setCell w5 ⟨g, 0, none⟩ (.int .i64 cap')).trans (KeepsOthers.setCell _ ⟨g, 1, none⟩ (.slice A5 nn c5))).same D _ ((hb5.out.block D hDlt).trans HKD.out) rfl)
        have HB6 : Hid (Bel w ((w5.setCell ⟨g, 0, none⟩ (.int .i64 cap')).setCell ⟨g, 1, none⟩ (.slice A5 nn c5))) := Lib.hid ((((Bel.of HBW.out).trans hb5).setCell (p := ⟨g, 0, none⟩) (by simp only; omega) _).setCell (p := ⟨g, 1, none⟩) (by simp only; omega) _)
        have HA6 : Hid (Abv W.heap.size w5 ((w5.setCell ⟨g, 0, none⟩ (.int .i64 cap')).setCell ⟨g, 1, none⟩ (.slice A5 nn c5))) := by
          have := HSW.out.br.lt
          exact Lib.hid (((Abv.refl _ w5).set (p := ⟨g, 0, none⟩) (by simp only; omega) _).set (p := ⟨g, 1, none⟩) (by simp only; omega) _)
        have HOWN := Lib.hid hown
        have HA6s : Hid (W.heap.size ≤ ((w5.setCell ⟨g, 0, none⟩ (.int .i64 cap')).setCell ⟨g, 1, none⟩ (.slice A5 nn c5)).heap.size) := Lib.hid (Nat.le_trans hb5.size HA6.out.size)
        have HWF : Hid (∀ i, i < l.length → (Lit.int .i64 (l[i]!).id).wf = true ∧ (Lit.int .i64 (l[i]!).at').wf = true) := Lib.hid (fun i hi => by
          obtain ⟨b, off, rfl⟩ := HS0.out.addr (by omega)
          obtain ⟨_, _, _, _, _, _, f1, f2⟩ := blk_cells HS0.out i hi
          exact ⟨f1, f2⟩)
        clear r0 r1 fr0 fr1 hS5 hb5 hown cf
        go_wp2_with fail
        rcases HOWN.out with ⟨rfl, rfl, rfl⟩ | ⟨D5, A', cc, rfl, hO⟩
        · obtain rfl : nn = 0 := by have := hn.out; simpa using this.symm
          obtain rfl : i = 0 := by omega
          clear HOWN HA6 q0 q1 fq0 fq1
          generalize (w5.setCell ⟨g, 0, none⟩ (.int .i64 cap')).setCell ⟨g, 1, none⟩ (.slice none 0 0) = W6 at *
          go_loopw [14] (fun kv wr => kv = .int .i64 0 ∧ Drw W6 wr) (fun _ _ => 0)
          case atStart => exact ⟨rfl, Drw.refl _⟩
          case round =>
            obtain ⟨rfl, hd⟩ := hrel
            have HD := Lib.hid hd
            have hS := HS6.out.bel hd.bel
            have q1 : wr.cell? ⟨g, 1, none⟩ = some (.slice none 0 0) := hS.bm.cell 1 rfl
            have qp : wr.cell? ⟨g + 1, 0, none⟩ = some (.int .i64 place) := hS.bp.cell 0 rfl
            clear hS hd
            go_wp2_with fail
            go_quiet (fail)
            go_wp2_with fail
            have HBX : Hid (Bel W6 (wr.drewN nq)) := Lib.hid (HD.out.step nq).bel
            generalize wr.drewN nq = W0 at *
            have hS0 := HS6.out.bel HBX.out
            have z1 : W0.cell? ⟨g, 1, none⟩ = some (.slice none 0 0) := hS0.bm.cell 1 rfl
            have S0 : Thr ⟨g, 1, none⟩ ⟨g + 1, 0, none⟩ ⟨g + 2, 0, none⟩ (.slice none 0 0) (.int .i64 place) (.slice B m c2) W0 := ⟨z1, hS0.bp.cell 0 rfl, hS0.bw.cell 0 rfl, hS0.bm.frozen 1⟩
            have SD := S0.bel ((Bel.refl W0).drew)
            have P0 := fun (w' : World) (h : Thr ⟨g, 1, none⟩ ⟨g + 1, 0, none⟩ ⟨g + 2, 0, none⟩ (.slice none 0 0) (.int .i64 place) (.slice B m c2) w') => h.c1
            have P1 := fun (w' : World) (h : Thr ⟨g, 1, none⟩ ⟨g + 1, 0, none⟩ ⟨g + 2, 0, none⟩ (.slice none 0 0) (.int .i64 place) (.slice B m c2) w') => h.c2
            have P2 := fun (w' : World) (h : Thr ⟨g, 1, none⟩ ⟨g + 1, 0, none⟩ ⟨g + 2, 0, none⟩ (.slice none 0 0) (.int .i64 place) (.slice B m c2) w') => h.c3
            have P3 := fun (w' : World) (h : Thr ⟨g, 1, none⟩ ⟨g + 1, 0, none⟩ ⟨g + 2, 0, none⟩ (.slice none 0 0) (.int .i64 place) (.slice B m c2) w') => h.f1
            clear q1 qp hS0 z1
            refine wp_region_T (fun w' => Thr ⟨g, 1, none⟩ ⟨g + 1, 0, none⟩ ⟨g + 2, 0, none⟩ (.slice none 0 0) (.int .i64 place) (.slice B m c2) w') (fun j => j == 18) (by kernel_rfl) ?_
            refine wpAnyT_take (i := 0) (v := ?v0n) rfl (by kernel_rfl) (by kernel_rfl) (by kernel_rfl) (by kernel_rfl) (fun _ _ _ h => h) (Or.inl ⟨by rfl, ?hy0n⟩) SD ?rest0n
            case hy0n => (intro w' hSw; go_simp) <;> with_reducible rfl
            try simp only [List.getElem_toArray, List.getElem_cons_zero, List.getElem_cons_succ, Act.put, List.setIfInBounds_toArray, List.set_cons_zero, List.set_cons_succ]
            refine wpAnyT_take (i := 1) (v := ?v1n) rfl (by kernel_rfl) (by kernel_rfl) (by kernel_rfl) (by kernel_rfl) (fun _ _ _ h => h) (Or.inl ⟨by rfl, ?hy1n⟩) SD ?rest1n
            case hy1n => (intro w' hSw; go_simp) <;> with_reducible rfl
            try simp only [List.getElem_toArray, List.getElem_cons_zero, List.getElem_cons_succ, Act.put, List.setIfInBounds_toArray, List.set_cons_zero, List.set_cons_succ]
            refine wpAnyT_take (i := 2) (v := ?v2n) rfl (by kernel_rfl) (by kernel_rfl) (by kernel_rfl) (by kernel_rfl) (fun _ _ _ h => h) (Or.inl ⟨by rfl, ?hy2n⟩) SD ?rest2n
            case hy2n => (intro w' hSw; go_simp) <;> with_reducible rfl
            try simp only [List.getElem_toArray, List.getElem_cons_zero, List.getElem_cons_succ, Act.put, List.setIfInBounds_toArray, List.set_cons_zero, List.set_cons_succ]
            refine wpAnyT_take (i := 3) (v := ?v3n) rfl (by kernel_rfl) (by kernel_rfl) (by kernel_rfl) (by kernel_rfl) (fun _ _ _ h => h) (Or.inl ⟨by rfl, ?hy3n⟩) SD ?rest3n
            case hy3n => (intro w' hSw; go_simp) <;> with_reducible rfl
            try simp only [List.getElem_toArray, List.getElem_cons_zero, List.getElem_cons_succ, Act.put, List.setIfInBounds_toArray, List.set_cons_zero, List.set_cons_succ]
            refine wpAnyT_take (i := 4) (v := ?v4n) rfl (by kernel_rfl) (by kernel_rfl) (by kernel_rfl) (by kernel_rfl) (fun _ _ _ h => h) (Or.inl ⟨by rfl, ?hy4n⟩) SD ?rest4n
            case hy4n => (intro w' hSw; go_simp) <;> with_reducible rfl
            try simp only [List.getElem_toArray, List.getElem_cons_zero, List.getElem_cons_succ, Act.put, List.setIfInBounds_toArray, List.set_cons_zero, List.set_cons_succ]
            refine wpAnyT_take (i := 5) (v := ?v5n) rfl (by kernel_rfl) (by kernel_rfl) (by kernel_rfl) (by kernel_rfl) (fun _ _ _ h => h) (Or.inl ⟨by rfl, ?hy5n⟩) SD ?rest5n
            case hy5n => (intro w' hSw; go_simp) <;> with_reducible rfl
            try simp only [List.getElem_toArray, List.getElem_cons_zero, List.getElem_cons_succ, Act.put, List.setIfInBounds_toArray, List.set_cons_zero, List.set_cons_succ]
            refine wpAnyT_take (i := 6) (v := ?v6n) rfl (by kernel_rfl) (by kernel_rfl) (by kernel_rfl) (by kernel_rfl) (fun _ _ _ h => h) (Or.inl ⟨by rfl, ?hy6n⟩) SD ?rest6n
            case hy6n => (intro w' hSw; go_simp) <;> with_reducible rfl
            try simp only [List.getElem_toArray, List.getElem_cons_zero, List.getElem_cons_succ, Act.put, List.setIfInBounds_toArray, List.set_cons_zero, List.set_cons_succ]
            refine wpAnyT_take (i := 7) (v := ?v7n) rfl (by kernel_rfl) (by kernel_rfl) (by kernel_rfl) (by kernel_rfl) (fun _ _ _ h => h) (Or.inl ⟨by rfl, ?hy7n⟩) SD ?rest7n
            case hy7n => (intro w' hSw; go_simp) <;> with_reducible rfl
            try simp only [List.getElem_toArray, List.getElem_cons_zero, List.getElem_cons_succ, Act.put, List.setIfInBounds_toArray, List.set_cons_zero, List.set_cons_succ]
            refine wpAnyT_take (i := 11) (v := ?v11n) rfl (by kernel_rfl) (by kernel_rfl) (by kernel_rfl) (by kernel_rfl) (fun _ _ _ h => h) (Or.inl ⟨by rfl, ?hy11n⟩) SD ?rest11n
            case hy11n => (intro w' hSw; go_simp) <;> with_reducible rfl
            try simp only [List.getElem_toArray, List.getElem_cons_zero, List.getElem_cons_succ, Act.put, List.setIfInBounds_toArray, List.set_cons_zero, List.set_cons_succ]
            refine wpAnyT_take (i := 12) (v := ?v12n) rfl (by kernel_rfl) (by kernel_rfl) (by kernel_rfl) (by kernel_rfl) (fun _ _ _ h => h) (Or.inl ⟨by rfl, ?hy12n⟩) SD ?rest12n
            case hy12n => (intro w' hSw; go_simp) <;> with_reducible rfl
            try simp only [List.getElem_toArray, List.getElem_cons_zero, List.getElem_cons_succ, Act.put, List.setIfInBounds_toArray, List.set_cons_zero, List.set_cons_succ]
            refine wpAnyT_take (i := 13) (v := ?v13n) rfl (by kernel_rfl) (by kernel_rfl) (by kernel_rfl) (by kernel_rfl) (fun _ _ _ h => h) (Or.inl ⟨by rfl, ?hy13n⟩) SD ?rest13n
            case hy13n => (intro w' hSw; go_simp) <;> with_reducible rfl
            try simp only [List.getElem_toArray, List.getElem_cons_zero, List.getElem_cons_succ, Act.put, List.setIfInBounds_toArray, List.set_cons_zero, List.set_cons_succ]
            refine wpAnyT_take (i := 14) (v := ?v14n) rfl (by kernel_rfl) (by kernel_rfl) (by kernel_rfl) (by kernel_rfl) (fun _ _ _ h => h) (Or.inl ⟨by rfl, ?hy14n⟩) SD ?rest14n
            case hy14n => (intro w' hSw; go_simp) <;> with_reducible rfl
            try simp only [List.getElem_toArray, List.getElem_cons_zero, List.getElem_cons_succ, Act.put, List.setIfInBounds_toArray, List.set_cons_zero, List.set_cons_succ]
            refine wpAnyT_one (i := 8) (by kernel_rfl) rfl (fun K hK => ?_)
            go_simp
            go_at_call 108
            refine (cloneW_any B m c2 ws _ (HW0.out.mono (IntR.mono _) (HB6.out.trans (HBX.out.trans ((Bel.refl W0).drew)))) hm HM4).mono ?_
            rintro e w6 ⟨g6, c6, rfl, h61, h62, h63, hb6⟩
            have S6 := SD.bel hb6
            dsimp only
            refine hK.out _ _ (fun _ => S6) ?_
            clear hK K
            try simp only [List.getElem_toArray, List.getElem_cons_zero, List.getElem_cons_succ, Act.put, List.setIfInBounds_toArray, List.set_cons_zero, List.set_cons_succ]
            refine wpAnyT_take (i := 9) (v := ?v9n) rfl (by kernel_rfl) (by kernel_rfl) (by kernel_rfl) (by kernel_rfl) (fun _ _ _ h => h) (Or.inl ⟨by rfl, ?hy9n⟩) S6 ?rest9n
            case hy9n => (intro w' hSw; go_simp) <;> with_reducible rfl
            try simp only [List.getElem_toArray, List.getElem_cons_zero, List.getElem_cons_succ, Act.put, List.setIfInBounds_toArray, List.set_cons_zero, List.set_cons_succ]
            refine wpAnyT_one (i := 10) (by kernel_rfl) rfl (fun K hK => ?_)
            go_simp
            refine hK.out _ _ (fun _ => S6.bel ((Bel.refl w6).alloc _)) ?_
            clear hK K
            try simp only [List.getElem_toArray, List.getElem_cons_zero, List.getElem_cons_succ, Act.put, List.setIfInBounds_toArray, List.set_cons_zero, List.set_cons_succ]
            refine wpAnyT_one (i := 15) (by kernel_rfl) rfl (fun K hK => ?_)
            refine step_append_run (by rfl) _ _ _ (by rfl) (.slice (some ⟨w6.heap.size, 0, none⟩) 1 1) (.slice none 0 0) (by rfl) (by rfl) _ (appB_first _ _ w6 ((Bel.refl w6).alloc _) w6.heap.size (Nat.le_refl _) (by simp) _ 1 (bcs ⟨id, place, ws⟩ (some ⟨g6, 0, none⟩) c6) (own_one w6 id place g6 c6 m ws hm.out) (by decide) _ _ _ (fun _ => ⟨rfl, rfl⟩) [] rfl (fun ad e => by cases e) (fun u hu => by cases hu) (by omega)) ?_
            rintro v7 w7 ⟨g7, c7, rfl, h71, h72, h73, h74, h75, hb7⟩
            have S7 := S6.bel hb7
            refine hK.out _ _ (fun _ => S7) ?_
            clear hK K
            try simp only [List.getElem_toArray, List.getElem_cons_zero, List.getElem_cons_succ, Act.put, List.setIfInBounds_toArray, List.set_cons_zero, List.set_cons_succ]
            refine wpAnyT_one (i := 16) (by kernel_rfl) rfl (fun K hK => ?_)
            refine step_append_run (by rfl) _ _ _ (by rfl) (.slice none 0 0) (.slice (some ⟨g7, 0, none⟩) (1 + 0) c7) (by rfl) (by rfl) _ (appB_grow _ _ none 0 0 (fun _ => ⟨rfl, rfl⟩) [] rfl (fun ad e => by cases e) ⟨g7, 0, none⟩ (1 + 0) c7 (bcs ⟨id, place, ws⟩ (some ⟨g6, 0, none⟩) c6 ++ []) rfl (fun j u hu => by rw [Addr.add_lit, Nat.zero_add]; exact h75 j u hu) (by rw [List.append_nil]; exact bcs_one _ _ _) (by omega) (by omega)) ?_
            rintro v8 w8 ⟨g8, c8, hv8, h81, h82, h83, h84, h85, hb8⟩
            rw [show 0 + (1 + 0) = 0 + 1 by omega] at hv8
            subst hv8
            have S8 := S7.bel hb8
            refine hK.out _ _ (fun _ => S8) ?_
            clear hK K
            try simp only [List.getElem_toArray, List.getElem_cons_zero, List.getElem_cons_succ, Act.put, List.setIfInBounds_toArray, List.set_cons_zero, List.set_cons_succ]
            refine wpAnyT_take (i := 17) (v := ?v17n) rfl (by kernel_rfl) (by kernel_rfl) (by kernel_rfl) (by kernel_rfl) (fun _ _ _ h => h) (Or.inl ⟨by rfl, ?hy17n⟩) S8 ?rest17n
            case hy17n => (intro w' hSw; go_simp) <;> with_reducible rfl
            try simp only [List.getElem_toArray, List.getElem_cons_zero, List.getElem_cons_succ, Act.put, List.setIfInBounds_toArray, List.set_cons_zero, List.set_cons_succ]
            refine wpAnyT_one (i := 18) (by kernel_rfl) rfl (fun K hK => ?_)
            go_simp
            refine hK.out _ _ (fun h => absurd h (by decide)) ?_
            clear hK K
            try simp only [List.getElem_toArray, List.getElem_cons_zero, List.getElem_cons_succ, Act.put, List.setIfInBounds_toArray, List.set_cons_zero, List.set_cons_succ]
            refine wpAnyT_done (by kernel_rfl) ?_ _
            refine NoPanic.normal ?_
            have HB8 : Bel W6 w8 := HBX.out.trans (((Bel.refl W0).drew).trans (hb6.trans (hb7.trans hb8)))
            have hS8 := HS6.out.bel HB8
            have c0 : w8.cell? ⟨g, 0, none⟩ = some (.int .i64 cap') := hS8.bm.cell 0 rfl
            have c1 : w8.cell? ⟨g, 1, none⟩ = some (.slice none 0 0) := hS8.bm.cell 1 rfl
            have r0 : w8.cell? ⟨g + 3, 0, none⟩ = some (.int .i64 0) := hS8.br.cell 0 rfl
            have r1 : w8.cell? ⟨g + 3, 1, none⟩ = some (.slice none 0 0) := hS8.br.cell 1 rfl
            have fr0 := hS8.br.frozen 0
            have fr1 := hS8.br.frozen 1
            have hS9 : PutS (w8.setCell ⟨g, 1, none⟩ (.slice (some ⟨g8, 0, none⟩) (0 + 1) c8)) g cap' (some ⟨g8, 0, none⟩) (0 + 1) c8 place B m c2 := ⟨hS8.bm.set 1 _, hS8.bp.other (by simp) _, hS8.bw.other (by simp) _, hS8.br.other (by simp) _⟩
            obtain ⟨e0, e1⟩ := put_res hS9 (.int .i64 cap') (.slice (some ⟨g8, 0, none⟩) (0 + 1) c8)
            have hK8 := ((((KeepsOthers.setCell w8 ⟨g, 1, none⟩ (.slice (some ⟨g8, 0, none⟩) (0 + 1) c8)).trans (KeepsOthers.setCell _ ⟨g + 3, 0, none⟩ (.int .i64 cap'))).trans (KeepsOthers.setCell _ ⟨g + 3, 1, none⟩ (.slice (some ⟨g8, 0, none⟩) (0 + 1) c8)))).same D _ ((HB8.out.block D (Array.getElem?_eq_some_iff.1 HK6.out).1).trans HK6.out) rfl
            have hB9 := (((HB6.out.trans HB8).setCell (p := ⟨g, 1, none⟩) (by simp only; omega) (.slice (some ⟨g8, 0, none⟩) (0 + 1) c8)).setCell (p := ⟨g + 3, 0, none⟩) (by simp only; omega) (.int .i64 cap')).setCell (p := ⟨g + 3, 1, none⟩) (by simp only; omega) (.slice (some ⟨g8, 0, none⟩) (0 + 1) c8)
            have hW3 := HSW.out.br.lt
            have hW6 := HA6s.out
            have hF : Bel w ((((w8.setCell ⟨g, 1, none⟩ (.slice (some ⟨g8, 0, none⟩) (0 + 1) c8)).setCell ⟨g + 3, 0, none⟩ (.int .i64 cap')).setCell ⟨g + 3, 1, none⟩ (.slice (some ⟨g8, 0, none⟩) (0 + 1) c8)).putObj D (.deferred none)) := Bel.of (hB9.out.trans (belowK_b (w := w) (Nat.le_refl _) _ D _ (.deferred none) (by omega) hK8 rfl rfl))
            have hA8 : Abv W.heap.size w8 ((((w8.setCell ⟨g, 1, none⟩ (.slice (some ⟨g8, 0, none⟩) (0 + 1) c8)).setCell ⟨g + 3, 0, none⟩ (.int .i64 cap')).setCell ⟨g + 3, 1, none⟩ (.slice (some ⟨g8, 0, none⟩) (0 + 1) c8)).putObj D (.deferred none)) := ((((Abv.refl _ w8).set (p := ⟨g, 1, none⟩) (by simp only; omega) _).set (p := ⟨g + 3, 0, none⟩) (by simp only; omega) _).set (p := ⟨g + 3, 1, none⟩) (by simp only; omega) _).putObj hDlt _
            have s60 := HBX.out.size
            have s6d := ((Bel.refl W0).drew).size
            have s67 := hb6.size
            have s78 := hb7.size
            have hsl : SlS w.heap.size _ (some ⟨g8, 0, none⟩) c8 [⟨id, place, ws⟩] := slS_of hA8 (by omega) (fun W' hA8 => put_sl0 ⟨id, place, ws⟩ (h63.abv ((Abv.of (hb7.trans hb8)).trans hA8) (by omega) h62) hwf1.out hwf2.out (by omega) h84 (fun q u hu => (World.cell?_of_block (a := ⟨g8, q, none⟩) (hA8.block g8 (by omega) h82)).trans (h85 q u (by simpa using hu))))
            have h1 := cell_kept e0 (grownBy_putObj' _ D (.deferred none)) (fun r e => by cases e; exact ⟨_, hK8, rfl⟩)
            have h2 := cell_kept e1 (grownBy_putObj' _ D (.deferred none)) (fun r e => by cases e; exact ⟨_, hK8, rfl⟩)
            have HK := Lib.hid hK8
            have H1 := Lib.hid h1
            have H2 := Lib.hid h2
            have HF := Lib.hid hF
            have HSL := Lib.hid hsl
            clear hS9 hS8 e0 e1 hK8 hB9 hF hA8 s60 s6d s67 s78 hsl h1 h2 h61 h62 h63 h71 h72 h73 h74 h75 h81 h82 h83 h84 h85 hb6 hb7 hb8 HB8 S0 SD S6 S7 S8 P0 P1 P2 P3
            go_wp2_with fail
            refine ⟨by simp, .inl ⟨_, _, rfl, run_takeDeferred HK.out, ?_⟩⟩
            refine ⟨.tuple #[.agg #[.int .i64 cap', .slice (some ⟨g8, 0, none⟩) (0 + 1) c8], .int .i64 0], ?_, _, c8, rfl, by rw [hie.out]; exact HSL.out, HF.out⟩
            have h1 := H1.out
            have h2 := H2.out
            simp [results, Tryz.f63, go_sem, h1, h2]
        · have HO6 := Lib.hid (hO.abv HA6.out)
          clear hO HOWN HA6 q0 q1 fq0 fq1
          generalize (w5.setCell ⟨g, 0, none⟩ (.int .i64 cap')).setCell ⟨g, 1, none⟩ (.slice (some ⟨D5, 0, none⟩) nn c5) = W6 at *
          have hnc : nn ≤ c5 := by rw [← hn.out]; exact HO6.out.row.le
          have hcm : c5 ≤ maxLen := HO6.out.row.big
          simp only [maxLen] at hcm
          go_loopw [14] (fun kv wr => ∃ k : Nat, kv = .int .i64 k ∧ k ≤ i ∧ Drw W6 wr) (fun kv _ => i - (intOf kv).toNat)
          case atStart => exact ⟨0, rfl, Nat.zero_le _, Drw.refl _⟩
          case round =>
            obtain ⟨k, rfl, hk, hd⟩ := hrel
            have HD := Lib.hid hd
            have hS := HS6.out.bel hd.bel
            have q1 : wr.cell? ⟨g, 1, none⟩ = some (.slice (some ⟨D5, 0, none⟩) nn c5) := hS.bm.cell 1 rfl
            have qp : wr.cell? ⟨g + 1, 0, none⟩ = some (.int .i64 place) := hS.bp.cell 0 rfl
            have k0 : 0 ≤ (k : Int) := by omega
            clear hS hd
            by_cases hkn : k = nn
            · obtain rfl : k = i := by omega
              have t0 : decide ((k : Int) < nn) = false := decide_eq_false (by omega)
              have t0' : decide (k < nn) = false := decide_eq_false (by omega)
              clear hkn
              go_wp2_with fail
              go_quiet (fail)
              go_wp2_with fail
              have hkl : k ≤ l.length := by rw [hn.out]; exact hi1
              have t1 : (k : Int) ≤ nn := by omega
              have t2 : (nn : Int) ≤ c5 := by omega
              have t3 : (k : Int) ≤ c5 := by omega
              have HBX : Hid (Bel W6 (wr.drewN nq)) := Lib.hid (HD.out.step nq).bel
              generalize wr.drewN nq = W0 at *
              have NI : Hid (∀ w', Bel W0.drew w' → ((if c5 = k then some (⟨D5, 0, none⟩ : Addr) else some ⟨D5, k * 3, none⟩) = none → nn - k = 0 ∧ c5 - k = 0) ∧ ∀ ad, (if c5 = k then some (⟨D5, 0, none⟩ : Addr) else some ⟨D5, k * 3, none⟩) = some ad → ∀ j u, (rowL l A' cc k (nn - k))[j]? = some u → w'.cell? (ad.add j) = some u) := Lib.hid (fun w' hb => news_if HO6.out.row (HBX.out.trans (((Bel.refl W0).drew).trans hb)) (by rw [hn.out]; omega) (by omega))
              have hS0 := HS6.out.bel HBX.out
              have z1 : W0.cell? ⟨g, 1, none⟩ = some (.slice (some ⟨D5, 0, none⟩) nn c5) := hS0.bm.cell 1 rfl
              have S0 : Thr ⟨g, 1, none⟩ ⟨g + 1, 0, none⟩ ⟨g + 2, 0, none⟩ (.slice (some ⟨D5, 0, none⟩) nn c5) (.int .i64 place) (.slice B m c2) W0 := ⟨z1, hS0.bp.cell 0 rfl, hS0.bw.cell 0 rfl, hS0.bm.frozen 1⟩
              have SD := S0.bel ((Bel.refl W0).drew)
              have P0 := fun (w' : World) (h : Thr ⟨g, 1, none⟩ ⟨g + 1, 0, none⟩ ⟨g + 2, 0, none⟩ (.slice (some ⟨D5, 0, none⟩) nn c5) (.int .i64 place) (.slice B m c2) w') => h.c1
              have P1 := fun (w' : World) (h : Thr ⟨g, 1, none⟩ ⟨g + 1, 0, none⟩ ⟨g + 2, 0, none⟩ (.slice (some ⟨D5, 0, none⟩) nn c5) (.int .i64 place) (.slice B m c2) w') => h.c2
              have P2 := fun (w' : World) (h : Thr ⟨g, 1, none⟩ ⟨g + 1, 0, none⟩ ⟨g + 2, 0, none⟩ (.slice (some ⟨D5, 0, none⟩) nn c5) (.int .i64 place) (.slice B m c2) w') => h.c3
              have P3 := fun (w' : World) (h : Thr ⟨g, 1, none⟩ ⟨g + 1, 0, none⟩ ⟨g + 2, 0, none⟩ (.slice (some ⟨D5, 0, none⟩) nn c5) (.int .i64 place) (.slice B m c2) w') => h.f1
              clear q1 qp hS0 z1
              refine wp_region_T (fun w' => Thr ⟨g, 1, none⟩ ⟨g + 1, 0, none⟩ ⟨g + 2, 0, none⟩ (.slice (some ⟨D5, 0, none⟩) nn c5) (.int .i64 place) (.slice B m c2) w') (fun j => j == 18) (by kernel_rfl) ?_
              refine wpAnyT_take (i := 0) (v := ?v0a) rfl (by kernel_rfl) (by kernel_rfl) (by kernel_rfl) (by kernel_rfl) (fun _ _ _ h => h) (Or.inl ⟨by rfl, ?hy0a⟩) SD ?rest0a
              case hy0a => (intro w' hSw; go_simp) <;> with_reducible rfl
              try simp only [List.getElem_toArray, List.getElem_cons_zero, List.getElem_cons_succ, Act.put, List.setIfInBounds_toArray, List.set_cons_zero, List.set_cons_succ]
              refine wpAnyT_take (i := 1) (v := ?v1a) rfl (by kernel_rfl) (by kernel_rfl) (by kernel_rfl) (by kernel_rfl) (fun _ _ _ h => h) (Or.inl ⟨by rfl, ?hy1a⟩) SD ?rest1a
              case hy1a => (intro w' hSw; go_simp) <;> with_reducible rfl
              try simp only [List.getElem_toArray, List.getElem_cons_zero, List.getElem_cons_succ, Act.put, List.setIfInBounds_toArray, List.set_cons_zero, List.set_cons_succ]
              refine wpAnyT_take (i := 2) (v := ?v2a) rfl (by kernel_rfl) (by kernel_rfl) (by kernel_rfl) (by kernel_rfl) (fun _ _ _ h => h) (Or.inl ⟨by rfl, ?hy2a⟩) SD ?rest2a
              case hy2a => (intro w' hSw; go_simp) <;> with_reducible rfl
              try simp only [List.getElem_toArray, List.getElem_cons_zero, List.getElem_cons_succ, Act.put, List.setIfInBounds_toArray, List.set_cons_zero, List.set_cons_succ]
              refine wpAnyT_take (i := 3) (v := ?v3a) rfl (by kernel_rfl) (by kernel_rfl) (by kernel_rfl) (by kernel_rfl) (fun _ _ _ h => h) (Or.inl ⟨by rfl, ?hy3a⟩) SD ?rest3a
              case hy3a => (intro w' hSw; go_simp) <;> with_reducible rfl
              try simp only [List.getElem_toArray, List.getElem_cons_zero, List.getElem_cons_succ, Act.put, List.setIfInBounds_toArray, List.set_cons_zero, List.set_cons_succ]
              refine wpAnyT_take (i := 4) (v := ?v4a) rfl (by kernel_rfl) (by kernel_rfl) (by kernel_rfl) (by kernel_rfl) (fun _ _ _ h => h) (Or.inl ⟨by rfl, ?hy4a⟩) SD ?rest4a
              case hy4a => (intro w' hSw; go_simp) <;> with_reducible rfl
              try simp only [List.getElem_toArray, List.getElem_cons_zero, List.getElem_cons_succ, Act.put, List.setIfInBounds_toArray, List.set_cons_zero, List.set_cons_succ]
              refine wpAnyT_take (i := 5) (v := ?v5a) rfl (by kernel_rfl) (by kernel_rfl) (by kernel_rfl) (by kernel_rfl) (fun _ _ _ h => h) (Or.inl ⟨by rfl, ?hy5a⟩) SD ?rest5a
              case hy5a => (intro w' hSw; go_simp) <;> with_reducible rfl
              try simp only [List.getElem_toArray, List.getElem_cons_zero, List.getElem_cons_succ, Act.put, List.setIfInBounds_toArray, List.set_cons_zero, List.set_cons_succ]
              refine wpAnyT_take (i := 6) (v := ?v6a) rfl (by kernel_rfl) (by kernel_rfl) (by kernel_rfl) (by kernel_rfl) (fun _ _ _ h => h) (Or.inl ⟨by rfl, ?hy6a⟩) SD ?rest6a
              case hy6a => (intro w' hSw; go_simp) <;> with_reducible rfl
              try simp only [List.getElem_toArray, List.getElem_cons_zero, List.getElem_cons_succ, Act.put, List.setIfInBounds_toArray, List.set_cons_zero, List.set_cons_succ]
              refine wpAnyT_take (i := 7) (v := ?v7a) rfl (by kernel_rfl) (by kernel_rfl) (by kernel_rfl) (by kernel_rfl) (fun _ _ _ h => h) (Or.inl ⟨by rfl, ?hy7a⟩) SD ?rest7a
              case hy7a => (intro w' hSw; go_simp) <;> with_reducible rfl
              try simp only [List.getElem_toArray, List.getElem_cons_zero, List.getElem_cons_succ, Act.put, List.setIfInBounds_toArray, List.set_cons_zero, List.set_cons_succ]
              refine wpAnyT_take (i := 11) (v := ?v11a) rfl (by kernel_rfl) (by kernel_rfl) (by kernel_rfl) (by kernel_rfl) (fun _ _ _ h => h) (Or.inl ⟨by rfl, ?hy11a⟩) SD ?rest11a
              case hy11a => (intro w' hSw; go_simp) <;> with_reducible rfl
              try simp only [List.getElem_toArray, List.getElem_cons_zero, List.getElem_cons_succ, Act.put, List.setIfInBounds_toArray, List.set_cons_zero, List.set_cons_succ]
              refine wpAnyT_take (i := 12) (v := ?v12a) rfl (by kernel_rfl) (by kernel_rfl) (by kernel_rfl) (by kernel_rfl) (fun _ _ _ h => h) (Or.inl ⟨by rfl, ?hy12a⟩) SD ?rest12a
              case hy12a => (intro w' hSw; go_simp) <;> with_reducible rfl
              try simp only [List.getElem_toArray, List.getElem_cons_zero, List.getElem_cons_succ, Act.put, List.setIfInBounds_toArray, List.set_cons_zero, List.set_cons_succ]
              refine wpAnyT_take (i := 13) (v := ?v13a) rfl (by kernel_rfl) (by kernel_rfl) (by kernel_rfl) (by kernel_rfl) (fun _ _ _ h => h) (Or.inl ⟨by rfl, ?hy13a⟩) SD ?rest13a
              case hy13a => (intro w' hSw; go_simp) <;> with_reducible rfl
              try simp only [List.getElem_toArray, List.getElem_cons_zero, List.getElem_cons_succ, Act.put, List.setIfInBounds_toArray, List.set_cons_zero, List.set_cons_succ]
              refine wpAnyT_take (i := 14) (v := ?v14a) rfl (by kernel_rfl) (by kernel_rfl) (by kernel_rfl) (by kernel_rfl) (fun _ _ _ h => h) (Or.inl ⟨by rfl, ?hy14a⟩) SD ?rest14a
              case hy14a => (intro w' hSw; go_simp) <;> with_reducible rfl
              try simp only [List.getElem_toArray, List.getElem_cons_zero, List.getElem_cons_succ, Act.put, List.setIfInBounds_toArray, List.set_cons_zero, List.set_cons_succ]
              refine wpAnyT_one (i := 8) (by kernel_rfl) rfl (fun K hK => ?_)
              go_simp
              go_at_call 108
              refine (cloneW_any B m c2 ws _ (HW0.out.mono (IntR.mono _) (HB6.out.trans (HBX.out.trans ((Bel.refl W0).drew)))) hm HM4).mono ?_
              rintro e w6 ⟨g6, c6, rfl, h61, h62, h63, hb6⟩
              have S6 := SD.bel hb6
              dsimp only
              refine hK.out _ _ (fun _ => S6) ?_
              clear hK K
              try simp only [List.getElem_toArray, List.getElem_cons_zero, List.getElem_cons_succ, Act.put, List.setIfInBounds_toArray, List.set_cons_zero, List.set_cons_succ]
              refine wpAnyT_take (i := 9) (v := ?v9a) rfl (by kernel_rfl) (by kernel_rfl) (by kernel_rfl) (by kernel_rfl) (fun _ _ _ h => h) (Or.inl ⟨by rfl, ?hy9a⟩) S6 ?rest9a
              case hy9a => (intro w' hSw; go_simp) <;> with_reducible rfl
              try simp only [List.getElem_toArray, List.getElem_cons_zero, List.getElem_cons_succ, Act.put, List.setIfInBounds_toArray, List.set_cons_zero, List.set_cons_succ]
              refine wpAnyT_one (i := 10) (by kernel_rfl) rfl (fun K hK => ?_)
              go_simp
              refine hK.out _ _ (fun _ => S6.bel ((Bel.refl w6).alloc _)) ?_
              clear hK K
              try simp only [List.getElem_toArray, List.getElem_cons_zero, List.getElem_cons_succ, Act.put, List.setIfInBounds_toArray, List.set_cons_zero, List.set_cons_succ]
              refine wpAnyT_one (i := 15) (by kernel_rfl) rfl (fun K hK => ?_)
              refine step_append_run (by rfl) _ _ _ (by rfl) (.slice (some ⟨w6.heap.size, 0, none⟩) 1 1) (.slice (if c5 = k then some ⟨D5, 0, none⟩ else some ⟨D5, k * 3, none⟩) (nn - k) (c5 - k)) (by rfl) (by rfl) _ (appB_first _ _ w6 ((Bel.refl w6).alloc _) w6.heap.size (Nat.le_refl _) (by simp) _ 1 (bcs ⟨id, place, ws⟩ (some ⟨g6, 0, none⟩) c6) (own_one w6 id place g6 c6 m ws hm.out) (by decide) _ _ _ (NI.out _ (Bel.refl _)).1 (rowL l A' cc k (nn - k)) (rowL_len _ _ _ _ _) (NI.out _ (hb6.alloc _)).2 (rowL_one _ _ _ _ _) (by omega)) ?_
              rintro v7 w7 ⟨g7, c7, rfl, h71, h72, h73, h74, h75, hb7⟩
              have S7 := S6.bel hb7
              refine hK.out _ _ (fun _ => S7) ?_
              clear hK K
              try simp only [List.getElem_toArray, List.getElem_cons_zero, List.getElem_cons_succ, Act.put, List.setIfInBounds_toArray, List.set_cons_zero, List.set_cons_succ]
              refine wpAnyT_one (i := 16) (by kernel_rfl) rfl (fun K hK => ?_)
              refine step_append_run (by rfl) _ _ _ (by rfl) (.slice (some ⟨D5, 0, none⟩) k k) (.slice (some ⟨g7, 0, none⟩) (1 + (nn - k)) c7) (by rfl) (by rfl) _ (appB_grow _ _ (some ⟨D5, 0, none⟩) k k (fun h => by cases h) (rowL l A' cc 0 k) (rowL_len _ _ _ _ _) (olds_of HO6.out.row (HBX.out.trans (((Bel.refl W0).drew).trans (hb6.trans hb7))) hkl) ⟨g7, 0, none⟩ (1 + (nn - k)) c7 (bcs ⟨id, place, ws⟩ (some ⟨g6, 0, none⟩) c6 ++ rowL l A' cc k (nn - k)) (by rw [List.length_append, bcs_len, rowL_len]; omega) (fun j u hu => by rw [Addr.add_lit, Nat.zero_add]; exact h75 j u hu) both_one (by omega) (by omega)) ?_
              rintro v8 w8 ⟨g8, c8, hv8, h81, h82, h83, h84, h85, hb8⟩
              rw [show k + (1 + (nn - k)) = nn + 1 by omega] at hv8
              subst hv8
              have S8 := S7.bel hb8
              refine hK.out _ _ (fun _ => S8) ?_
              clear hK K
              try simp only [List.getElem_toArray, List.getElem_cons_zero, List.getElem_cons_succ, Act.put, List.setIfInBounds_toArray, List.set_cons_zero, List.set_cons_succ]
              refine wpAnyT_take (i := 17) (v := ?v17a) rfl (by kernel_rfl) (by kernel_rfl) (by kernel_rfl) (by kernel_rfl) (fun _ _ _ h => h) (Or.inl ⟨by rfl, ?hy17a⟩) S8 ?rest17a
              case hy17a => (intro w' hSw; go_simp) <;> with_reducible rfl
              try simp only [List.getElem_toArray, List.getElem_cons_zero, List.getElem_cons_succ, Act.put, List.setIfInBounds_toArray, List.set_cons_zero, List.set_cons_succ]
              refine wpAnyT_one (i := 18) (by kernel_rfl) rfl (fun K hK => ?_)
              go_simp
              refine hK.out _ _ (fun h => absurd h (by decide)) ?_
              clear hK K
              try simp only [List.getElem_toArray, List.getElem_cons_zero, List.getElem_cons_succ, Act.put, List.setIfInBounds_toArray, List.set_cons_zero, List.set_cons_succ]
              refine wpAnyT_done (by kernel_rfl) ?_ _
              refine NoPanic.normal ?_
              have HB8 : Bel W6 w8 := HBX.out.trans (((Bel.refl W0).drew).trans (hb6.trans (hb7.trans hb8)))
              have hS8 := HS6.out.bel HB8
              have c0 : w8.cell? ⟨g, 0, none⟩ = some (.int .i64 cap') := hS8.bm.cell 0 rfl
              have c1 : w8.cell? ⟨g, 1, none⟩ = some (.slice (some ⟨D5, 0, none⟩) nn c5) := hS8.bm.cell 1 rfl
              have r0 : w8.cell? ⟨g + 3, 0, none⟩ = some (.int .i64 0) := hS8.br.cell 0 rfl
              have r1 : w8.cell? ⟨g + 3, 1, none⟩ = some (.slice none 0 0) := hS8.br.cell 1 rfl
              have fr0 := hS8.br.frozen 0
              have fr1 := hS8.br.frozen 1
              have hS9 : PutS (w8.setCell ⟨g, 1, none⟩ (.slice (some ⟨g8, 0, none⟩) (nn + 1) c8)) g cap' (some ⟨g8, 0, none⟩) (nn + 1) c8 place B m c2 := ⟨hS8.bm.set 1 _, hS8.bp.other (by simp) _, hS8.bw.other (by simp) _, hS8.br.other (by simp) _⟩
              obtain ⟨e0, e1⟩ := put_res hS9 (.int .i64 cap') (.slice (some ⟨g8, 0, none⟩) (nn + 1) c8)
              have hK8 := ((((KeepsOthers.setCell w8 ⟨g, 1, none⟩ (.slice (some ⟨g8, 0, none⟩) (nn + 1) c8)).trans (KeepsOthers.setCell _ ⟨g + 3, 0, none⟩ (.int .i64 cap'))).trans (KeepsOthers.setCell _ ⟨g + 3, 1, none⟩ (.slice (some ⟨g8, 0, none⟩) (nn + 1) c8)))).same D _ ((HB8.out.block D (Array.getElem?_eq_some_iff.1 HK6.out).1).trans HK6.out) rfl
              have hB9 := (((HB6.out.trans HB8).setCell (p := ⟨g, 1, none⟩) (by simp only; omega) (.slice (some ⟨g8, 0, none⟩) (nn + 1) c8)).setCell (p := ⟨g + 3, 0, none⟩) (by simp only; omega) (.int .i64 cap')).setCell (p := ⟨g + 3, 1, none⟩) (by simp only; omega) (.slice (some ⟨g8, 0, none⟩) (nn + 1) c8)
              have hW3 := HSW.out.br.lt
              have hW6 := HA6s.out
              have hF : Bel w ((((w8.setCell ⟨g, 1, none⟩ (.slice (some ⟨g8, 0, none⟩) (nn + 1) c8)).setCell ⟨g + 3, 0, none⟩ (.int .i64 cap')).setCell ⟨g + 3, 1, none⟩ (.slice (some ⟨g8, 0, none⟩) (nn + 1) c8)).putObj D (.deferred none)) := Bel.of (hB9.out.trans (belowK_b (w := w) (Nat.le_refl _) _ D _ (.deferred none) (by omega) hK8 rfl rfl))
              have hA8 : Abv W.heap.size w8 ((((w8.setCell ⟨g, 1, none⟩ (.slice (some ⟨g8, 0, none⟩) (nn + 1) c8)).setCell ⟨g + 3, 0, none⟩ (.int .i64 cap')).setCell ⟨g + 3, 1, none⟩ (.slice (some ⟨g8, 0, none⟩) (nn + 1) c8)).putObj D (.deferred none)) := ((((Abv.refl _ w8).set (p := ⟨g, 1, none⟩) (by simp only; omega) _).set (p := ⟨g + 3, 0, none⟩) (by simp only; omega) _).set (p := ⟨g + 3, 1, none⟩) (by simp only; omega) _).putObj hDlt _
              have s60 := HBX.out.size
              have s6d := ((Bel.refl W0).drew).size
              have s67 := hb6.size
              have s78 := hb7.size
              have hsl : SlS w.heap.size _ (some ⟨g8, 0, none⟩) c8 (ins l k ⟨id, place, ws⟩) := slS_of hA8 (by omega) (fun W' hA8 => put_sl (HO6.out.abv ((Abv.of HB8).trans hA8)) HWF.out hkl ⟨id, place, ws⟩ (h63.abv ((Abv.of (hb7.trans hb8)).trans hA8) (by omega) h62) hwf1.out hwf2.out (by rw [hn.out]; omega) h84 (fun q u hu => (World.cell?_of_block (a := ⟨g8, q, none⟩) (hA8.block g8 (by omega) h82)).trans (h85 q u (by rw [hn.out] at hu; exact hu))))
              have h1 := cell_kept e0 (grownBy_putObj' _ D (.deferred none)) (fun r e => by cases e; exact ⟨_, hK8, rfl⟩)
              have h2 := cell_kept e1 (grownBy_putObj' _ D (.deferred none)) (fun r e => by cases e; exact ⟨_, hK8, rfl⟩)
              have HK := Lib.hid hK8
              have H1 := Lib.hid h1
              have H2 := Lib.hid h2
              have HF := Lib.hid hF
              have HSL := Lib.hid hsl
              clear hS9 hS8 e0 e1 hK8 hB9 hF hA8 s60 s6d s67 s78 hsl h1 h2 h61 h62 h63 h71 h72 h73 h74 h75 h81 h82 h83 h84 h85 hb6 hb7 hb8 HB8 S0 SD S6 S7 S8 P0 P1 P2 P3
              clear NI
              generalize (if c5 = k then some (⟨D5, 0, none⟩ : Addr) else some ⟨D5, k * 3, none⟩) = XA
              go_wp2_with fail
              refine ⟨by simp, .inl ⟨_, _, rfl, run_takeDeferred HK.out, ?_⟩⟩
              refine ⟨.tuple #[.agg #[.int .i64 cap', .slice (some ⟨g8, 0, none⟩) (nn + 1) c8], .int .i64 0], ?_, _, c8, rfl, by rw [hie.out]; exact HSL.out, HF.out⟩
              have h1 := H1.out
              have h2 := H2.out
              simp [results, Tryz.f63, go_sem, h1, h2]
            · have hk1 : k < nn := by omega
              have hk2 : (k : Int) < nn := by omega
              obtain ⟨-, d1, -⟩ := HO6.out.row.cells k (by rw [hn.out]; exact hk1)
              have d1 := HD.out.bel.cell d1
              by_cases hki : k = i
              · subst hki
                have hge := HI3.out (by omega)
                generalize (l[k]!).at' = ak at *
                clear hkn
                go_wp2_with fail
                go_quiet (fail)
                go_wp2_with fail
                have hkl : k ≤ l.length := by rw [hn.out]; exact hi1
                have t1 : (k : Int) ≤ nn := by omega
                have t2 : (nn : Int) ≤ c5 := by omega
                have t3 : (k : Int) ≤ c5 := by omega
                have HBX : Hid (Bel W6 (wr.drewN nq)) := Lib.hid (HD.out.step nq).bel
                generalize wr.drewN nq = W0 at *
                have NI : Hid (∀ w', Bel W0.drew w' → ((if c5 = k then some (⟨D5, 0, none⟩ : Addr) else some ⟨D5, k * 3, none⟩) = none → nn - k = 0 ∧ c5 - k = 0) ∧ ∀ ad, (if c5 = k then some (⟨D5, 0, none⟩ : Addr) else some ⟨D5, k * 3, none⟩) = some ad → ∀ j u, (rowL l A' cc k (nn - k))[j]? = some u → w'.cell? (ad.add j) = some u) := Lib.hid (fun w' hb => news_if HO6.out.row (HBX.out.trans (((Bel.refl W0).drew).trans hb)) (by rw [hn.out]; omega) (by omega))
                have hS0 := HS6.out.bel HBX.out
                have z1 : W0.cell? ⟨g, 1, none⟩ = some (.slice (some ⟨D5, 0, none⟩) nn c5) := hS0.bm.cell 1 rfl
                have S0 : Thr ⟨g, 1, none⟩ ⟨g + 1, 0, none⟩ ⟨g + 2, 0, none⟩ (.slice (some ⟨D5, 0, none⟩) nn c5) (.int .i64 place) (.slice B m c2) W0 := ⟨z1, hS0.bp.cell 0 rfl, hS0.bw.cell 0 rfl, hS0.bm.frozen 1⟩
                have SD := S0.bel ((Bel.refl W0).drew)
                have P0 := fun (w' : World) (h : Thr ⟨g, 1, none⟩ ⟨g + 1, 0, none⟩ ⟨g + 2, 0, none⟩ (.slice (some ⟨D5, 0, none⟩) nn c5) (.int .i64 place) (.slice B m c2) w') => h.c1
                have P1 := fun (w' : World) (h : Thr ⟨g, 1, none⟩ ⟨g + 1, 0, none⟩ ⟨g + 2, 0, none⟩ (.slice (some ⟨D5, 0, none⟩) nn c5) (.int .i64 place) (.slice B m c2) w') => h.c2
                have P2 := fun (w' : World) (h : Thr ⟨g, 1, none⟩ ⟨g + 1, 0, none⟩ ⟨g + 2, 0, none⟩ (.slice (some ⟨D5, 0, none⟩) nn c5) (.int .i64 place) (.slice B m c2) w') => h.c3
                have P3 := fun (w' : World) (h : Thr ⟨g, 1, none⟩ ⟨g + 1, 0, none⟩ ⟨g + 2, 0, none⟩ (.slice (some ⟨D5, 0, none⟩) nn c5) (.int .i64 place) (.slice B m c2) w') => h.f1
                clear q1 qp hS0 z1
                refine wp_region_T (fun w' => Thr ⟨g, 1, none⟩ ⟨g + 1, 0, none⟩ ⟨g + 2, 0, none⟩ (.slice (some ⟨D5, 0, none⟩) nn c5) (.int .i64 place) (.slice B m c2) w') (fun j => j == 18) (by kernel_rfl) ?_
                refine wpAnyT_take (i := 0) (v := ?v0b) rfl (by kernel_rfl) (by kernel_rfl) (by kernel_rfl) (by kernel_rfl) (fun _ _ _ h => h) (Or.inl ⟨by rfl, ?hy0b⟩) SD ?rest0b
                case hy0b => (intro w' hSw; go_simp) <;> with_reducible rfl
                try simp only [List.getElem_toArray, List.getElem_cons_zero, List.getElem_cons_succ, Act.put, List.setIfInBounds_toArray, List.set_cons_zero, List.set_cons_succ]
                refine wpAnyT_take (i := 1) (v := ?v1b) rfl (by kernel_rfl) (by kernel_rfl) (by kernel_rfl) (by kernel_rfl) (fun _ _ _ h => h) (Or.inl ⟨by rfl, ?hy1b⟩) SD ?rest1b
                case hy1b => (intro w' hSw; go_simp) <;> with_reducible rfl
                try simp only [List.getElem_toArray, List.getElem_cons_zero, List.getElem_cons_succ, Act.put, List.setIfInBounds_toArray, List.set_cons_zero, List.set_cons_succ]
                refine wpAnyT_take (i := 2) (v := ?v2b) rfl (by kernel_rfl) (by kernel_rfl) (by kernel_rfl) (by kernel_rfl) (fun _ _ _ h => h) (Or.inl ⟨by rfl, ?hy2b⟩) SD ?rest2b
                case hy2b => (intro w' hSw; go_simp) <;> with_reducible rfl
                try simp only [List.getElem_toArray, List.getElem_cons_zero, List.getElem_cons_succ, Act.put, List.setIfInBounds_toArray, List.set_cons_zero, List.set_cons_succ]
                refine wpAnyT_take (i := 3) (v := ?v3b) rfl (by kernel_rfl) (by kernel_rfl) (by kernel_rfl) (by kernel_rfl) (fun _ _ _ h => h) (Or.inl ⟨by rfl, ?hy3b⟩) SD ?rest3b
                case hy3b => (intro w' hSw; go_simp) <;> with_reducible rfl
                try simp only [List.getElem_toArray, List.getElem_cons_zero, List.getElem_cons_succ, Act.put, List.setIfInBounds_toArray, List.set_cons_zero, List.set_cons_succ]
                refine wpAnyT_take (i := 4) (v := ?v4b) rfl (by kernel_rfl) (by kernel_rfl) (by kernel_rfl) (by kernel_rfl) (fun _ _ _ h => h) (Or.inl ⟨by rfl, ?hy4b⟩) SD ?rest4b
                case hy4b => (intro w' hSw; go_simp) <;> with_reducible rfl
                try simp only [List.getElem_toArray, List.getElem_cons_zero, List.getElem_cons_succ, Act.put, List.setIfInBounds_toArray, List.set_cons_zero, List.set_cons_succ]
                refine wpAnyT_take (i := 5) (v := ?v5b) rfl (by kernel_rfl) (by kernel_rfl) (by kernel_rfl) (by kernel_rfl) (fun _ _ _ h => h) (Or.inl ⟨by rfl, ?hy5b⟩) SD ?rest5b
                case hy5b => (intro w' hSw; go_simp) <;> with_reducible rfl
                try simp only [List.getElem_toArray, List.getElem_cons_zero, List.getElem_cons_succ, Act.put, List.setIfInBounds_toArray, List.set_cons_zero, List.set_cons_succ]
                refine wpAnyT_take (i := 6) (v := ?v6b) rfl (by kernel_rfl) (by kernel_rfl) (by kernel_rfl) (by kernel_rfl) (fun _ _ _ h => h) (Or.inl ⟨by rfl, ?hy6b⟩) SD ?rest6b
                case hy6b => (intro w' hSw; go_simp) <;> with_reducible rfl
                try simp only [List.getElem_toArray, List.getElem_cons_zero, List.getElem_cons_succ, Act.put, List.setIfInBounds_toArray, List.set_cons_zero, List.set_cons_succ]
                refine wpAnyT_take (i := 7) (v := ?v7b) rfl (by kernel_rfl) (by kernel_rfl) (by kernel_rfl) (by kernel_rfl) (fun _ _ _ h => h) (Or.inl ⟨by rfl, ?hy7b⟩) SD ?rest7b
                case hy7b => (intro w' hSw; go_simp) <;> with_reducible rfl
                try simp only [List.getElem_toArray, List.getElem_cons_zero, List.getElem_cons_succ, Act.put, List.setIfInBounds_toArray, List.set_cons_zero, List.set_cons_succ]
                refine wpAnyT_take (i := 11) (v := ?v11b) rfl (by kernel_rfl) (by kernel_rfl) (by kernel_rfl) (by kernel_rfl) (fun _ _ _ h => h) (Or.inl ⟨by rfl, ?hy11b⟩) SD ?rest11b
                case hy11b => (intro w' hSw; go_simp) <;> with_reducible rfl
                try simp only [List.getElem_toArray, List.getElem_cons_zero, List.getElem_cons_succ, Act.put, List.setIfInBounds_toArray, List.set_cons_zero, List.set_cons_succ]
                refine wpAnyT_take (i := 12) (v := ?v12b) rfl (by kernel_rfl) (by kernel_rfl) (by kernel_rfl) (by kernel_rfl) (fun _ _ _ h => h) (Or.inl ⟨by rfl, ?hy12b⟩) SD ?rest12b
                case hy12b => (intro w' hSw; go_simp) <;> with_reducible rfl
                try simp only [List.getElem_toArray, List.getElem_cons_zero, List.getElem_cons_succ, Act.put, List.setIfInBounds_toArray, List.set_cons_zero, List.set_cons_succ]
                refine wpAnyT_take (i := 13) (v := ?v13b) rfl (by kernel_rfl) (by kernel_rfl) (by kernel_rfl) (by kernel_rfl) (fun _ _ _ h => h) (Or.inl ⟨by rfl, ?hy13b⟩) SD ?rest13b
                case hy13b => (intro w' hSw; go_simp) <;> with_reducible rfl
                try simp only [List.getElem_toArray, List.getElem_cons_zero, List.getElem_cons_succ, Act.put, List.setIfInBounds_toArray, List.set_cons_zero, List.set_cons_succ]
                refine wpAnyT_take (i := 14) (v := ?v14b) rfl (by kernel_rfl) (by kernel_rfl) (by kernel_rfl) (by kernel_rfl) (fun _ _ _ h => h) (Or.inl ⟨by rfl, ?hy14b⟩) SD ?rest14b
                case hy14b => (intro w' hSw; go_simp) <;> with_reducible rfl
                try simp only [List.getElem_toArray, List.getElem_cons_zero, List.getElem_cons_succ, Act.put, List.setIfInBounds_toArray, List.set_cons_zero, List.set_cons_succ]
                refine wpAnyT_one (i := 8) (by kernel_rfl) rfl (fun K hK => ?_)
                go_simp
                go_at_call 108
                refine (cloneW_any B m c2 ws _ (HW0.out.mono (IntR.mono _) (HB6.out.trans (HBX.out.trans ((Bel.refl W0).drew)))) hm HM4).mono ?_
                rintro e w6 ⟨g6, c6, rfl, h61, h62, h63, hb6⟩
                have S6 := SD.bel hb6
                dsimp only
                refine hK.out _ _ (fun _ => S6) ?_
                clear hK K
                try simp only [List.getElem_toArray, List.getElem_cons_zero, List.getElem_cons_succ, Act.put, List.setIfInBounds_toArray, List.set_cons_zero, List.set_cons_succ]
                refine wpAnyT_take (i := 9) (v := ?v9b) rfl (by kernel_rfl) (by kernel_rfl) (by kernel_rfl) (by kernel_rfl) (fun _ _ _ h => h) (Or.inl ⟨by rfl, ?hy9b⟩) S6 ?rest9b
                case hy9b => (intro w' hSw; go_simp) <;> with_reducible rfl
                try simp only [List.getElem_toArray, List.getElem_cons_zero, List.getElem_cons_succ, Act.put, List.setIfInBounds_toArray, List.set_cons_zero, List.set_cons_succ]
                refine wpAnyT_one (i := 10) (by kernel_rfl) rfl (fun K hK => ?_)
                go_simp
                refine hK.out _ _ (fun _ => S6.bel ((Bel.refl w6).alloc _)) ?_
                clear hK K
                try simp only [List.getElem_toArray, List.getElem_cons_zero, List.getElem_cons_succ, Act.put, List.setIfInBounds_toArray, List.set_cons_zero, List.set_cons_succ]
                refine wpAnyT_one (i := 15) (by kernel_rfl) rfl (fun K hK => ?_)
                refine step_append_run (by rfl) _ _ _ (by rfl) (.slice (some ⟨w6.heap.size, 0, none⟩) 1 1) (.slice (if c5 = k then some ⟨D5, 0, none⟩ else some ⟨D5, k * 3, none⟩) (nn - k) (c5 - k)) (by rfl) (by rfl) _ (appB_first _ _ w6 ((Bel.refl w6).alloc _) w6.heap.size (Nat.le_refl _) (by simp) _ 1 (bcs ⟨id, place, ws⟩ (some ⟨g6, 0, none⟩) c6) (own_one w6 id place g6 c6 m ws hm.out) (by decide) _ _ _ (NI.out _ (Bel.refl _)).1 (rowL l A' cc k (nn - k)) (rowL_len _ _ _ _ _) (NI.out _ (hb6.alloc _)).2 (rowL_one _ _ _ _ _) (by omega)) ?_
                rintro v7 w7 ⟨g7, c7, rfl, h71, h72, h73, h74, h75, hb7⟩
                have S7 := S6.bel hb7
                refine hK.out _ _ (fun _ => S7) ?_
                clear hK K
                try simp only [List.getElem_toArray, List.getElem_cons_zero, List.getElem_cons_succ, Act.put, List.setIfInBounds_toArray, List.set_cons_zero, List.set_cons_succ]
                refine wpAnyT_one (i := 16) (by kernel_rfl) rfl (fun K hK => ?_)
                refine step_append_run (by rfl) _ _ _ (by rfl) (.slice (some ⟨D5, 0, none⟩) k k) (.slice (some ⟨g7, 0, none⟩) (1 + (nn - k)) c7) (by rfl) (by rfl) _ (appB_grow _ _ (some ⟨D5, 0, none⟩) k k (fun h => by cases h) (rowL l A' cc 0 k) (rowL_len _ _ _ _ _) (olds_of HO6.out.row (HBX.out.trans (((Bel.refl W0).drew).trans (hb6.trans hb7))) hkl) ⟨g7, 0, none⟩ (1 + (nn - k)) c7 (bcs ⟨id, place, ws⟩ (some ⟨g6, 0, none⟩) c6 ++ rowL l A' cc k (nn - k)) (by rw [List.length_append, bcs_len, rowL_len]; omega) (fun j u hu => by rw [Addr.add_lit, Nat.zero_add]; exact h75 j u hu) both_one (by omega) (by omega)) ?_
                rintro v8 w8 ⟨g8, c8, hv8, h81, h82, h83, h84, h85, hb8⟩
                rw [show k + (1 + (nn - k)) = nn + 1 by omega] at hv8
                subst hv8
                have S8 := S7.bel hb8
                refine hK.out _ _ (fun _ => S8) ?_
                clear hK K
                try simp only [List.getElem_toArray, List.getElem_cons_zero, List.getElem_cons_succ, Act.put, List.setIfInBounds_toArray, List.set_cons_zero, List.set_cons_succ]
                refine wpAnyT_take (i := 17) (v := ?v17b) rfl (by kernel_rfl) (by kernel_rfl) (by kernel_rfl) (by kernel_rfl) (fun _ _ _ h => h) (Or.inl ⟨by rfl, ?hy17b⟩) S8 ?rest17b
                case hy17b => (intro w' hSw; go_simp) <;> with_reducible rfl
                try simp only [List.getElem_toArray, List.getElem_cons_zero, List.getElem_cons_succ, Act.put, List.setIfInBounds_toArray, List.set_cons_zero, List.set_cons_succ]
                refine wpAnyT_one (i := 18) (by kernel_rfl) rfl (fun K hK => ?_)
                go_simp
                refine hK.out _ _ (fun h => absurd h (by decide)) ?_
                clear hK K
                try simp only [List.getElem_toArray, List.getElem_cons_zero, List.getElem_cons_succ, Act.put, List.setIfInBounds_toArray, List.set_cons_zero, List.set_cons_succ]
                refine wpAnyT_done (by kernel_rfl) ?_ _
                refine NoPanic.normal ?_
                have HB8 : Bel W6 w8 := HBX.out.trans (((Bel.refl W0).drew).trans (hb6.trans (hb7.trans hb8)))
                have hS8 := HS6.out.bel HB8
                have c0 : w8.cell? ⟨g, 0, none⟩ = some (.int .i64 cap') := hS8.bm.cell 0 rfl
                have c1 : w8.cell? ⟨g, 1, none⟩ = some (.slice (some ⟨D5, 0, none⟩) nn c5) := hS8.bm.cell 1 rfl
                have r0 : w8.cell? ⟨g + 3, 0, none⟩ = some (.int .i64 0) := hS8.br.cell 0 rfl
                have r1 : w8.cell? ⟨g + 3, 1, none⟩ = some (.slice none 0 0) := hS8.br.cell 1 rfl
                have fr0 := hS8.br.frozen 0
                have fr1 := hS8.br.frozen 1
                have hS9 : PutS (w8.setCell ⟨g, 1, none⟩ (.slice (some ⟨g8, 0, none⟩) (nn + 1) c8)) g cap' (some ⟨g8, 0, none⟩) (nn + 1) c8 place B m c2 := ⟨hS8.bm.set 1 _, hS8.bp.other (by simp) _, hS8.bw.other (by simp) _, hS8.br.other (by simp) _⟩
                obtain ⟨e0, e1⟩ := put_res hS9 (.int .i64 cap') (.slice (some ⟨g8, 0, none⟩) (nn + 1) c8)
                have hK8 := ((((KeepsOthers.setCell w8 ⟨g, 1, none⟩ (.slice (some ⟨g8, 0, none⟩) (nn + 1) c8)).trans (KeepsOthers.setCell _ ⟨g + 3, 0, none⟩ (.int .i64 cap'))).trans (KeepsOthers.setCell _ ⟨g + 3, 1, none⟩ (.slice (some ⟨g8, 0, none⟩) (nn + 1) c8)))).same D _ ((HB8.out.block D (Array.getElem?_eq_some_iff.1 HK6.out).1).trans HK6.out) rfl
                have hB9 := (((HB6.out.trans HB8).setCell (p := ⟨g, 1, none⟩) (by simp only; omega) (.slice (some ⟨g8, 0, none⟩) (nn + 1) c8)).setCell (p := ⟨g + 3, 0, none⟩) (by simp only; omega) (.int .i64 cap')).setCell (p := ⟨g + 3, 1, none⟩) (by simp only; omega) (.slice (some ⟨g8, 0, none⟩) (nn + 1) c8)
                have hW3 := HSW.out.br.lt
                have hW6 := HA6s.out
                have hF : Bel w ((((w8.setCell ⟨g, 1, none⟩ (.slice (some ⟨g8, 0, none⟩) (nn + 1) c8)).setCell ⟨g + 3, 0, none⟩ (.int .i64 cap')).setCell ⟨g + 3, 1, none⟩ (.slice (some ⟨g8, 0, none⟩) (nn + 1) c8)).putObj D (.deferred none)) := Bel.of (hB9.out.trans (belowK_b (w := w) (Nat.le_refl _) _ D _ (.deferred none) (by omega) hK8 rfl rfl))
                have hA8 : Abv W.heap.size w8 ((((w8.setCell ⟨g, 1, none⟩ (.slice (some ⟨g8, 0, none⟩) (nn + 1) c8)).setCell ⟨g + 3, 0, none⟩ (.int .i64 cap')).setCell ⟨g + 3, 1, none⟩ (.slice (some ⟨g8, 0, none⟩) (nn + 1) c8)).putObj D (.deferred none)) := ((((Abv.refl _ w8).set (p := ⟨g, 1, none⟩) (by simp only; omega) _).set (p := ⟨g + 3, 0, none⟩) (by simp only; omega) _).set (p := ⟨g + 3, 1, none⟩) (by simp only; omega) _).putObj hDlt _
                have s60 := HBX.out.size
                have s6d := ((Bel.refl W0).drew).size
                have s67 := hb6.size
                have s78 := hb7.size
                have hsl : SlS w.heap.size _ (some ⟨g8, 0, none⟩) c8 (ins l k ⟨id, place, ws⟩) := slS_of hA8 (by omega) (fun W' hA8 => put_sl (HO6.out.abv ((Abv.of HB8).trans hA8)) HWF.out hkl ⟨id, place, ws⟩ (h63.abv ((Abv.of (hb7.trans hb8)).trans hA8) (by omega) h62) hwf1.out hwf2.out (by rw [hn.out]; omega) h84 (fun q u hu => (World.cell?_of_block (a := ⟨g8, q, none⟩) (hA8.block g8 (by omega) h82)).trans (h85 q u (by rw [hn.out] at hu; exact hu))))
                have h1 := cell_kept e0 (grownBy_putObj' _ D (.deferred none)) (fun r e => by cases e; exact ⟨_, hK8, rfl⟩)
                have h2 := cell_kept e1 (grownBy_putObj' _ D (.deferred none)) (fun r e => by cases e; exact ⟨_, hK8, rfl⟩)
                have HK := Lib.hid hK8
                have H1 := Lib.hid h1
                have H2 := Lib.hid h2
                have HF := Lib.hid hF
                have HSL := Lib.hid hsl
                clear hS9 hS8 e0 e1 hK8 hB9 hF hA8 s60 s6d s67 s78 hsl h1 h2 h61 h62 h63 h71 h72 h73 h74 h75 h81 h82 h83 h84 h85 hb6 hb7 hb8 HB8 S0 SD S6 S7 S8 P0 P1 P2 P3
                clear NI
                generalize (if c5 = k then some (⟨D5, 0, none⟩ : Addr) else some ⟨D5, k * 3, none⟩) = XA
                go_wp2_with fail
                refine ⟨by simp, .inl ⟨_, _, rfl, run_takeDeferred HK.out, ?_⟩⟩
                refine ⟨.tuple #[.agg #[.int .i64 cap', .slice (some ⟨g8, 0, none⟩) (nn + 1) c8], .int .i64 0], ?_, _, c8, rfl, by rw [hie.out]; exact HSL.out, HF.out⟩
                have h1 := H1.out
                have h2 := H2.out
                simp [results, Tryz.f63, go_sem, h1, h2]
              · have hlt := HI2.out k (by omega)
                have HEK : Hid (IntKind.i64.wrap ((k : Int) + 1) = (k : Int) + 1) := Lib.hid (wrap_i64 (by omega) (by omega))
                generalize (l[k]!).at' = ak at *
                go_wp2_with fail
                go_quiet (fail)
                have ek := HEK.out
                go_wp2
                go_roundw
                case rel => exact ⟨k + 1, by simp, by omega, by repeat (first | exact HD.out | exact Drw.step HD.out _ | apply Drw.step)⟩
                case measure => simp [intOf]; omega
      · have HR : Hid (cap' = 0 ∧ l' = [] ∧ e' = 4) := Lib.hid (by
          have := hr.out
          unfold putM at this
          rw [if_pos ⟨hmb.out, hid1, fun e => by rw [show ws = [] from e] at hm; have := hm.out; simp at this; omega⟩] at this
          simp only [hix.out, hm.out] at this
          rw [if_neg hfit] at this
          simp only [Prod.mk.injEq, MemD.mk.injEq] at this
          exact ⟨this.1.1.symm, this.1.2.symm, this.2.symm⟩)
        obtain ⟨rfl, rfl, rfl⟩ := HR.out
        obtain rfl : nl = 0 := by rw [← hnl.out]; rfl
        obtain ⟨e0, e1⟩ := put_res HSW.out (.int .i64 0) (.slice none 0 0)
        have hK' := ((KeepsOthers.setCell W ⟨g + 3, 0, none⟩ (.int .i64 0)).trans (KeepsOthers.setCell _ ⟨g + 3, 1, none⟩ (.slice none 0 0))).same D _ HKD.out rfl
        have hB2 := (HBW.out.setCell (p := ⟨g + 3, 0, none⟩) (by simp only; omega) (.int .i64 0)).setCell (p := ⟨g + 3, 1, none⟩) (by simp only; omega) (.slice none 0 0)
        have hF : Bel w ((((W.setCell ⟨g + 3, 0, none⟩ (.int .i64 0)).setCell ⟨g + 3, 1, none⟩ (.slice none 0 0))).putObj D (.deferred none)) := Bel.of (hB2.trans (belowK_b (w := w) (Nat.le_refl _) _ D _ (.deferred none) (by omega) hK' rfl rfl))
        have h1 := cell_kept e0 (grownBy_putObj' _ D (.deferred none)) (fun r e => by cases e; exact ⟨_, hK', rfl⟩)
        have h2 := cell_kept e1 (grownBy_putObj' _ D (.deferred none)) (fun r e => by cases e; exact ⟨_, hK', rfl⟩)
        have HK := Lib.hid hK'
        have H1 := Lib.hid h1
        have H2 := Lib.hid h2
        have HF := Lib.hid hF
        clear hr e0 e1 hK' hB2 hF h1 h2
        by_cases hroom : ix < 0
        · have hff : fitsL place m (gapsL ⟨cap, l⟩) = false := by
            cases hfb : fitsL place m (gapsL ⟨cap, l⟩)
            · rfl
            · exact absurd ⟨hroom, hfb⟩ hfit
          rw [hff] at cf
          clear hfit hff
          go_wp2_with fail
          refine ⟨by simp, .inl ⟨_, _, rfl, run_takeDeferred HK.out, ?_⟩⟩
          refine ⟨.tuple #[.agg #[.int .i64 0, .slice none 0 0], .int .i64 4], ?_, none, 0, rfl, SlS.nil _ _ _ _ (by decide), HF.out⟩
          have h1 := H1.out
          have h2 := H2.out
          simp [results, Tryz.f63, go_sem, h1, h2]
        · clear hfit
          go_wp2_with fail
          refine ⟨by simp, .inl ⟨_, _, rfl, run_takeDeferred HK.out, ?_⟩⟩
          refine ⟨.tuple #[.agg #[.int .i64 0, .slice none 0 0], .int .i64 4], ?_, none, 0, rfl, SlS.nil _ _ _ _ (by decide), HF.out⟩
          have h1 := H1.out
          have h2 := H2.out
          simp [results, Tryz.f63, go_sem, h1, h2]
    case stop =>
      rintro D c pre W _ _ h _
      exact h.elim
  · have HR : Hid (cap' = 0 ∧ l' = [] ∧ e' = 1) := Lib.hid (by
      have := hr.out
      unfold putM at this
      rw [if_neg (by
        rw [hmb.out]
        rintro ⟨h1, h2, h3⟩
        refine hgo ⟨h1, h2, ?_⟩
        rw [← hm.out]
        exact List.length_pos_iff.2 h3)] at this
      simp only [Prod.mk.injEq, MemD.mk.injEq] at this
      exact ⟨this.1.1.symm, this.1.2.symm, this.2.symm⟩)
    obtain ⟨rfl, rfl, rfl⟩ := HR.out
    obtain rfl : nl = 0 := by rw [← hnl.out]; rfl
    obtain ⟨e0, e1⟩ := put_res HSS.out (.int .i64 0) (.slice none 0 0)
    have E0 := Lib.hid e0
    have E1 := Lib.hid e1
    have HFIN := Lib.hid ((HB1.setCell (p := ⟨g + 3, 0, none⟩) (by simp only; omega) (.int .i64 0)).setCell (p := ⟨g + 3, 1, none⟩) (by simp only; omega) (.slice none 0 0))
    clear e0 e1 hr
    cases mb
    · gi_wp2_with fail
      refine ⟨.tuple #[.agg #[.int .i64 0, .slice none 0 0], .int .i64 1], ?_, none, 0, rfl, SlS.nil _ _ _ _ (by decide), HFIN.out⟩
      have h1 := E0.out
      have h2 := E1.out
      simp [results, Tryz.f63, go_sem, h1, h2]
    · by_cases hid1 : id < 1
      · clear hgo
        gi_wp2_with fail
        refine ⟨.tuple #[.agg #[.int .i64 0, .slice none 0 0], .int .i64 1], ?_, none, 0, rfl, SlS.nil _ _ _ _ (by decide), HFIN.out⟩
        have h1 := E0.out
        have h2 := E1.out
        simp [results, Tryz.f63, go_sem, h1, h2]
      · obtain rfl : m = 0 := by
          by_cases hm1 : 0 < m
          · exact absurd ⟨rfl, by omega, hm1⟩ hgo
          · omega
        clear hgo
        gi_wp2_with fail
        refine ⟨.tuple #[.agg #[.int .i64 0, .slice none 0 0], .int .i64 1], ?_, none, 0, rfl, SlS.nil _ _ _ _ (by decide), HFIN.out⟩
        have h1 := E0.out
        have h2 := E1.out
        simp [results, Tryz.f63, go_sem, h1, h2]
theorem Put_any (cap : Int) (A : Option Addr) (nn c : Nat) (l : List BlkD) (id place : Int) (B : Option Addr) (m c2 : Nat) (ws : List Int) (w : World) (h : Sl BlkR 3 w A c l) (hn : Hid (l.length = nn)) (hw : Sl (IntR .u64) 1 w B c2 ws) (hm : Hid (ws.length = m)) (hwf1 : Hid ((Lit.int .i64 id).wf = true)) (hwf2 : Hid ((Lit.int .i64 place).wf = true)) (cap' : Int) (l' : List BlkD) (nl : Nat) (e' : Int) (hr : Hid (putM ⟨cap, l⟩ ⟨id, place, ws⟩ = (⟨cap', l'⟩, e'))) (hnl : Hid (l'.length = nl)) :
    Calls Tryz.prog 63 #[.agg #[.int .i64 cap, .slice A nn c], .int .i64 id, .int .i64 place, .slice B m c2] w fun e w' => ∃ A' c', e = .returned (.tuple #[.agg #[.int .i64 cap', .slice A' nl c'], .int .i64 e']) ∧ SlS w.heap.size w' A' c' l' ∧ Bel w w' := callsIn_wide.1 (put_in cap A nn c l id place B m c2 ws w h hn hw hm hwf1 hwf2 cap' l' nl e' hr hnl)
end Go.Proofs.YtebdnobgdimdoaaGreat
