/- arena.Left by its contract. arena.Find by its contract. -/
import Derived.Test.YteopeocgbfdofaaZArC3
set_option linter.unusedVariables false
set_option linter.unusedSimpArgs false
namespace Go.Proofs.Yteopeocgbfdofaa
open Go.RowKit Go.Shelf
attribute [local go_sem] Oper.semAt_some

theorem KpG.setCell {n₀ Bs b : Nat} {W : World} (h1 : n₀ ≤ b) (h2 : b < Bs) (v : Value) : KpG n₀ Bs W (W.setCell ⟨b, 0, none⟩ v) :=
  ⟨(Below.refl _ _).setCell (p := ⟨b, 0, none⟩) h1 v, fun k o hk ho hb => (Below.heap_setCell _ _ _ k (by simp only; omega)).trans hk⟩
theorem Ok.count {m : MemD} (h : Ok m) : ∀ i, i ≤ m.l.length → (i : Int) ≤ prevEnd m.l i
  | 0, _ => by unfold prevEnd; rw [if_pos rfl]; simp
  | i + 1, hi => by
    have ih := h.count i (by omega)
    have b := h.blk i (by omega)
    have h1 := b.lo
    have h2 := b.len
    rw [prevEnd_succ]
    omega
theorem Ok.few {m : MemD} (h : Ok m) : m.l.length ≤ 1024 := by
  have h1 := h.count m.l.length (Nat.le_refl _)
  have h2 := (h.prev m.l.length (Nat.le_refl _)).2
  have h3 := h.cap1
  omega
theorem gapsUpto_len (m : MemD) : ∀ i, (gapsUpto m i).length ≤ i
  | 0 => by simp [gapsUpto]
  | i + 1 => by
    have ih := gapsUpto_len m i
    rw [gapsUpto, List.length_append]
    unfold gapAt
    split <;> simp <;> omega
theorem gapsL_len {m : MemD} (h : Ok m) : (gapsL m).length ≤ 1025 := by
  have h1 := gapsUpto_len m (m.l.length + 1)
  have h2 := h.few
  unfold gapsL
  omega
theorem leftL_range : ∀ (xs : List GapV), -(1024 * (xs.length : Int)) ≤ leftL (vals xs) ∧ leftL (vals xs) ≤ 1024 * (xs.length : Int)
  | [] => by simp [leftL, vals]
  | x :: xs => by
    have ih := leftL_range xs
    have hx := x.2
    simp only [leftL, vals, List.map_cons, List.sum_cons, List.length_cons] at ih ⊢
    omega
theorem leftL_snoc (xs : List GapV) (x : GapV) : leftL (vals (xs ++ [x])) = leftL (vals xs) + (x.1.2 - x.1.1) := by
  rw [vals_snoc]
  simp [leftL]
end Go.Proofs.Yteopeocgbfdofaa
set_option linter.unusedVariables false
set_option linter.unusedSimpArgs false
namespace Go.Proofs.Yteopeocgbfdofaa
open Go.RowKit Go.Shelf
attribute [local go_sem] Oper.semAt_some

theorem findL_none {n : Int} {gs : List (Int × Int)} (h : ∀ x ∈ gs, x.2 - x.1 < n) : findL n gs = none := by
  unfold findL
  rw [List.find?_eq_none.2 (fun x hx => by have := h x hx; simp only [decide_eq_true_eq]; omega)]
  rfl
theorem findL_some {n : Int} {gs ini : List (Int × Int)} {x : Int × Int} (hp : ini ++ [x] <+: gs) (h : ∀ y ∈ ini, y.2 - y.1 < n) (hx : n ≤ x.2 - x.1) : findL n gs = some x.1 := by
  obtain ⟨t, rfl⟩ := hp
  unfold findL
  rw [List.append_assoc, List.find?_append, List.find?_eq_none.2 (fun y hy => by have := h y hy; simp only [decide_eq_true_eq]; omega)]
  simp [hx]
set_option maxRecDepth 100000 in
set_option maxHeartbeats 4000000 in
theorem find_in (cap : Int) (A : Option Addr) (nn c : Nat) (l : List BlkD) (n : Int) (r : Int) (rb : Bool) (w : World) (h : Sl BlkR 3 w A c l) (hn : Hid (l.length = nn)) (hnw : -9223372036854775808 ≤ n ∧ n ≤ 9223372036854775807) (hr : Hid (findM ⟨cap, l⟩ n = (r, rb))) :
    CallsIn Fence.wide 3 Try.prog 36 #[.agg #[.int .i64 cap, .slice A nn c], .int .i64 n] w fun e w' => e = .returned (.tuple #[.int .i64 r, .bool rb]) ∧ Bel w w' := by
  have HS0 := Lib.hid h
  clear h
  obtain ⟨mb, hmb⟩ : ∃ mb, Hid (mayM ⟨cap, l⟩ = mb) := ⟨_, Lib.hid rfl⟩
  have bM0 := cell_fresh w #[.int .i64 cap, .slice A nn c] 45 0 (.int .i64 cap) rfl
  have bM1 := cell_fresh w #[.int .i64 cap, .slice A nn c] 45 1 (.slice A nn c) rfl
  refine callsIn_of_wp_marks Try.func36 rfl trivial ?_ rfl
  simp only [Try.ntmps36, List.size_toArray, List.length_cons, List.length_nil, Nat.reduceAdd, Nat.reduceSub, Array.replicate_succ, Array.replicate_zero, List.push_toArray, List.append_toArray, List.nil_append, List.cons_append]
  gi_wp2_with fail
  refine ⟨trivial, ?_⟩
  have bN := ((Boxed.new (w.alloc (.cells #[.int .i64 cap, .slice A nn c] 45)) 3 (.int .i64 n)).alloc (.cells #[.int .i64 0] 3)).alloc (.cells #[.bool false] 4)
  have bR := (Boxed.new ((w.alloc (.cells #[.int .i64 cap, .slice A nn c] 45)).alloc (.cells #[.int .i64 n] 3)) 3 (.int .i64 0)).alloc (.cells #[.bool false] 4)
  have bB := Boxed.new (((w.alloc (.cells #[.int .i64 cap, .slice A nn c] 45)).alloc (.cells #[.int .i64 n] 3)).alloc (.cells #[.int .i64 0] 3)) 4 (.bool false)
  have HBa := Lib.hid (((((Bel.refl w).alloc (.cells #[.int .i64 cap, .slice A nn c] 45)).alloc (.cells #[.int .i64 n] 3)).alloc (.cells #[.int .i64 0] 3)).alloc (.cells #[.bool false] 4))
  have hq0 := (((Bel.refl (w.alloc (.cells #[.int .i64 cap, .slice A nn c] 45))).alloc (.cells #[.int .i64 n] 3)).alloc (.cells #[.int .i64 0] 3)).alloc (.cells #[.bool false] 4) |>.cell bM0
  have hq1 := (((Bel.refl (w.alloc (.cells #[.int .i64 cap, .slice A nn c] 45))).alloc (.cells #[.int .i64 n] 3)).alloc (.cells #[.int .i64 0] 3)).alloc (.cells #[.bool false] 4) |>.cell bM1
  simp only [World.size_alloc] at bN bR bB
  generalize (((w.alloc (.cells #[.int .i64 cap, .slice A nn c] 45)).alloc (.cells #[.int .i64 n] 3)).alloc (.cells #[.int .i64 0] 3)).alloc (.cells #[.bool false] 4) = W1 at *
  clear bM0 bM1
  refine (callsIn_wide.2 (May_any cap A nn c l mb _ (HS0.out.mono BlkR.mono HBa.out) hn hmb)).mono ?_
  rintro e w1 ⟨rfl, hb⟩
  have HB1 := HBa.out.trans hb
  have q0 := hb.cell hq0
  have q1 := hb.cell hq1
  have bN1 : Boxed w1 (w.heap.size + 1) 3 (.int .i64 n) := (hb.out.block _ bN.lt).trans bN
  have bR1 : Boxed w1 (w.heap.size + 1 + 1) 3 (.int .i64 0) := (hb.out.block _ bR.lt).trans bR
  have bB1 : Boxed w1 (w.heap.size + 1 + 1 + 1) 4 (.bool false) := (hb.out.block _ bB.lt).trans bB
  obtain ⟨g, hg⟩ : ∃ g, w.heap.size = g := ⟨_, rfl⟩
  have hgw : w.heap.size ≤ g := by omega
  rw [hg] at q0 q1 bN1 bR1 bB1 ⊢
  have cN := bN1.cell
  have cR := bR1.cell
  have fR := bR1.frozen
  have cB := bB1.cell
  have fB := bB1.frozen
  have hlt := bB1.lt
  have m1 : g < w1.heap.size := by omega
  have m2 : g + 1 < w1.heap.size := by omega
  have m3 : g + 1 + 1 < w1.heap.size := by omega
  have n1 : ¬ g = w1.heap.size := by omega
  have n2 : ¬ w1.heap.size = g := by omega
  clear hq0 hq1 bN bR bB hb hg
  have two : ∀ (v : Int) (b : Bool), Boxed ((w1.setCell ⟨g + 1 + 1, 0, none⟩ (.int .i64 v)).setCell ⟨g + 1 + 1 + 1, 0, none⟩ (.bool b)) (g + 1 + 1) 3 (.int .i64 v) ∧ Boxed ((w1.setCell ⟨g + 1 + 1, 0, none⟩ (.int .i64 v)).setCell ⟨g + 1 + 1 + 1, 0, none⟩ (.bool b)) (g + 1 + 1 + 1) 4 (.bool b) ∧ Bel w ((w1.setCell ⟨g + 1 + 1, 0, none⟩ (.int .i64 v)).setCell ⟨g + 1 + 1 + 1, 0, none⟩ (.bool b)) := fun v b =>
    ⟨(bR1.set _).other (by omega) _, (bB1.other (by omega) _).set _, (HB1.setCell (p := ⟨g + 1 + 1, 0, none⟩) (by simp only; omega) _).setCell (p := ⟨g + 1 + 1 + 1, 0, none⟩) (by simp only; omega) _⟩
  by_cases hgo : mb = true ∧ 1 ≤ n
  · obtain ⟨rfl, hn1⟩ := hgo
    have HOK : Hid (Ok ⟨cap, l⟩) := Lib.hid (mayM_iff.1 hmb.out)
    have HR : Hid ((match findL n (gapsL ⟨cap, l⟩) with | some a => (a, true) | none => (0, false)) = (r, rb)) := Lib.hid (by
      have := hr.out
      unfold findM at this
      rwa [if_pos ⟨hmb.out, hn1⟩] at this)
    have hn1' : ¬ n < 1 := by omega
    clear two
    gi_wp2_with fail
    refine ⟨trivial, ?_⟩
    refine (gaps_in 2 cap A nn c _).mono ?_
    rintro e w' ⟨rfl, rfl⟩
    have B0 := cell_fresh w1 #[.int .i64 cap, .slice A nn c] 45 0 (.int .i64 cap) rfl
    have B1 := cell_fresh w1 #[.int .i64 cap, .slice A nn c] 45 1 (.slice A nn c) rfl
    have bN4 := bN1.alloc (.cells #[.int .i64 cap, .slice A nn c] 45)
    have bR4 := bR1.alloc (.cells #[.int .i64 cap, .slice A nn c] 45)
    have bB4 := bB1.alloc (.cells #[.int .i64 cap, .slice A nn c] 45)
    have HB4 := HB1.alloc (.cells #[.int .i64 cap, .slice A nn c] 45)
    have hs4 : (w1.alloc (.cells #[.int .i64 cap, .slice A nn c] 45)).heap.size = w1.heap.size + 1 := by simp
    generalize w1.alloc (.cells #[.int .i64 cap, .slice A nn c] 45) = W4 at *
    generalize w1.heap.size = s at *
    clear q0 q1 cN cR fR cB fB bN1 bR1 bB1 HB1
    gi_wp2_with fail
    refine wpIn_rangeFunc_ownG (F := Fence.wide) (n := 3) rfl (by omega) (gf := 71) (lb := #[.pointer (some ⟨s, 0, none⟩)]) rfl trivial (enters_of Try.func71 (by kernel_rfl) rfl)
      (gaps_stops (3 - 1) (by omega) s cap A c nn l w W4 HS0.out hn HOK (by omega) HB4 B0 B1)
      KpG.trans (KpG.turn (by omega)) (Below.refl _ _) (fun _ => rfl)
      (fun pre W => ((Boxed W (g + 1) 3 (.int .i64 n) ∧ Boxed W (g + 1 + 1) 3 (.int .i64 0) ∧ Boxed W (g + 1 + 1 + 1) 4 (.bool false)) ∧ (∀ y ∈ vals pre, y.2 - y.1 < n)) ∧ Below w.heap.size w W)
      (fun c pre W => (c = .ret ∧ ∃ ini last, pre = ini ++ [last] ∧ (∀ y ∈ vals ini, y.2 - y.1 < n) ∧ n ≤ last.1.2 - last.1.1 ∧ Boxed W (g + 1 + 1) 3 (.int .i64 last.1.1) ∧ Boxed W (g + 1 + 1 + 1) 4 (.bool true)) ∧ Below w.heap.size w W)
      (OwnFrom.and (Own.from (fun s A B row hs hg hr => ⟨⟨boxed_own _ _ (fun _ : Unit => _) () _ _ _ hs.1.1 hg hr, boxed_own _ _ (fun _ : Unit => _) () _ _ _ hs.1.2.1 hg hr, boxed_own _ _ (fun _ : Unit => _) () _ _ _ hs.1.2.2 hg hr⟩, hs.2⟩) _) (ownFrom_below (Nat.le_refl _) (by omega)))
      (fun c => OwnFrom.and (Own.from (fun s A B row hs hg hr => by
        obtain ⟨hc, ini, last, e1, e2, e3, e4, e5⟩ := hs
        exact ⟨hc, ini, last, e1, e2, e3, boxed_own _ _ (fun _ : Unit => _) () _ _ _ e4 hg hr, boxed_own _ _ (fun _ : Unit => _) () _ _ _ e5 hg hr⟩) _) (ownFrom_below (Nat.le_refl _) (by omega)))
      ⟨⟨⟨bN4, bR4, bB4⟩, fun y hy => by simp [vals] at hy⟩, HB4.out⟩
      (fun x => { tmps := #[.agg #[.int .i64 cap, .slice A nn c], .int .i64 n, .pointer (some ⟨g, 0, none⟩), .pointer (some ⟨g + 1, 0, none⟩), .pointer (some ⟨g + 1 + 1, 0, none⟩), .pointer (some ⟨g + 1 + 1 + 1, 0, none⟩), .int .i64 x.1.1, .int .i64 x.1.2, .agg #[.int .i64 cap, .slice A nn c], .bool true, .bool false, .bool false, .int .i64 n, .bool (decide (n < 1)), .bool (decide (n < 1)), .agg #[.int .i64 cap, .slice A nn c], .func (.func 71) #[] #[.pointer (some ⟨s, 0, none⟩)], .int .i64 x.1.1, .int .i64 x.1.2, undef, undef, undef, undef, undef, undef], defers := [] }) ?assign ?body ?done ?stop
    case assign =>
      intro z x W K hK
      simp only [gapEnc]
      gi_wp2
      exact hK
    case body =>
      rintro z pre x W ⟨⟨⟨bn, br, bb⟩, hp⟩, hB⟩ hlen
      have hx := x.2
      have cn := bn.cell
      have cr := br.cell
      have fr := br.frozen
      have cb := bb.cell
      have fb := bb.frozen
      have e1 : IntKind.i64.wrap (x.1.2 - x.1.1) = x.1.2 - x.1.1 := wrap_i64 (by omega) (by omega)
      have HBN := Lib.hid bn
      have HBR := Lib.hid br
      have HBB := Lib.hid bb
      have HP := Lib.hid hp
      have HB := Lib.hid hB
      clear bn br bb hp hB hlen hx
      by_cases hlt : n ≤ x.1.2 - x.1.1
      · gi_wp2
        refine ⟨((KeepsOthers.setCell _ _ _).trans (KeepsOthers.setCell _ _ _)).from _, ⟨rfl, pre, x, rfl, HP.out, hlt, (HBR.out.set _).other (by omega) _, (HBB.out.other (by omega) _).set _⟩, (HB.out.setCell (p := ⟨g + 1 + 1, 0, none⟩) (by simp only; omega) _).setCell (p := ⟨g + 1 + 1 + 1, 0, none⟩) (by simp only; omega) _⟩
      · have HPN : Hid (∀ y ∈ vals (pre ++ [x]), y.2 - y.1 < n) := Lib.hid (by
          intro y hy
          rw [vals_snoc] at hy
          rcases List.mem_append.1 hy with h | h
          · exact HP.out y h
          · simp only [List.mem_singleton] at h; subst h; omega)
        gi_wp2
        exact ⟨KeepsFrom.refl _ _, KpG.refl _ _ _, ⟨⟨HBN.out, HBR.out, HBB.out⟩, fun a b h => HPN.out (a, b) h⟩, HB.out⟩
    case done =>
      rintro D ys W hD hys ⟨⟨⟨bn, br, bb⟩, hp⟩, hB⟩ hK
      have HV : Hid (r = 0 ∧ rb = false) := Lib.hid (by
        have := HR.out
        rw [findL_none (by rw [← hys]; exact hp)] at this
        cases this
        exact ⟨rfl, rfl⟩)
      have cr := br.cell
      have fr := br.frozen
      have cb := bb.cell
      have fb := bb.frozen
      have b1 := (br.set (.int .i64 0)).other (B' := g + 1 + 1 + 1) (by omega) (.bool false)
      have b2 := (bb.other (B' := g + 1 + 1) (by omega) (.int .i64 0)).set (.bool false)
      have hK' := ((KeepsOthers.setCell W ⟨g + 1 + 1, 0, none⟩ (.int .i64 0)).trans (KeepsOthers.setCell _ ⟨g + 1 + 1 + 1, 0, none⟩ (.bool false))).same D _ hK rfl
      have hB2 := (hB.setCell (p := ⟨g + 1 + 1, 0, none⟩) (by simp only; omega) (.int .i64 0)).setCell (p := ⟨g + 1 + 1 + 1, 0, none⟩) (by simp only; omega) (.bool false)
      have h1 := cell_kept b1.cell (grownBy_putObj' _ D (.deferred none)) (fun r e => by cases e; exact ⟨_, hK', rfl⟩)
      have h2 := cell_kept b2.cell (grownBy_putObj' _ D (.deferred none)) (fun r e => by cases e; exact ⟨_, hK', rfl⟩)
      have hF : Bel w _ := Bel.of (hB2.trans (belowK_b (w := w) (Nat.le_refl _) _ D _ (.deferred none) (by omega) hK' rfl rfl))
      have HK := Lib.hid hK'
      have H1 := Lib.hid h1
      have H2 := Lib.hid h2
      have HF := Lib.hid hF
      clear bn br bb hp hB hK hK' b1 b2 hB2 h1 h2 hF hys
      gi_wp2
      refine ⟨by simp, .inl ⟨_, _, rfl, run_takeDeferred HK.out, ?_⟩⟩
      refine ⟨.tuple #[.int .i64 0, .bool false], ?_, by rw [HV.out.1, HV.out.2], HF.out⟩
      have h1 := H1.out
      have h2 := H2.out
      simp [results, Try.f36, go_sem, h1, h2]
    case stop =>
      rintro D c pre W hD hpre ⟨⟨rfl, ini, last, rfl, e2, e3, b1, b2⟩, hB⟩ hK
      have HV : Hid (r = last.1.1 ∧ rb = true) := Lib.hid (by
        have := HR.out
        rw [findL_some (ini := vals ini) (x := last.1) (gs := gapsL ⟨cap, l⟩) (by rw [← vals_snoc]; exact hpre) e2 e3] at this
        cases this
        exact ⟨rfl, rfl⟩)
      have h1 := cell_kept b1.cell (grownBy_putObj' _ D (.deferred none)) (fun r e => by cases e; exact ⟨_, hK, rfl⟩)
      have h2 := cell_kept b2.cell (grownBy_putObj' _ D (.deferred none)) (fun r e => by cases e; exact ⟨_, hK, rfl⟩)
      have hF : Bel w _ := Bel.of (hB.trans (belowK_b (w := w) (Nat.le_refl _) _ D _ (.deferred none) (by omega) hK rfl rfl))
      have HK := Lib.hid hK
      have H1 := Lib.hid h1
      have H2 := Lib.hid h2
      have HF := Lib.hid hF
      clear hB hK b1 b2 h1 h2 hF hpre e2 e3
      gi_wp2
      refine ⟨by simp, .inl ⟨_, _, rfl, run_takeDeferred HK.out, ?_⟩⟩
      refine ⟨.tuple #[.int .i64 last.1.1, .bool true], ?_, by rw [HV.out.1, HV.out.2], HF.out⟩
      have h1 := H1.out
      have h2 := H2.out
      simp [results, Try.f36, go_sem, h1, h2]
  · have HR : Hid (r = 0 ∧ rb = false) := Lib.hid (by
      have := hr.out
      unfold findM at this
      rw [if_neg (by rw [hmb.out]; exact hgo)] at this
      cases this
      exact ⟨rfl, rfl⟩)
    obtain ⟨rfl, rfl⟩ := HR.out
    obtain ⟨t1, t2, t3⟩ := two 0 false
    have h1 := t1.cell
    have h2 := t2.cell
    have H1 := Lib.hid h1
    have H2 := Lib.hid h2
    have H3 := Lib.hid t3
    clear two t1 t2 t3 h1 h2
    cases mb
    · gi_wp2_with fail
      refine ⟨.tuple #[.int .i64 0, .bool false], ?_, rfl, H3.out⟩
      have h1 := H1.out
      have h2 := H2.out
      simp [results, Try.f36, go_sem, h1, h2]
    · have hn1 : n < 1 := by
        by_cases h : 1 ≤ n
        · exact absurd ⟨rfl, h⟩ hgo
        · omega
      clear hgo
      gi_wp2_with fail
      refine ⟨.tuple #[.int .i64 0, .bool false], ?_, rfl, H3.out⟩
      have h1 := H1.out
      have h2 := H2.out
      simp [results, Try.f36, go_sem, h1, h2]
theorem Find_any (cap : Int) (A : Option Addr) (nn c : Nat) (l : List BlkD) (n : Int) (r : Int) (rb : Bool) (w : World) (h : Sl BlkR 3 w A c l) (hn : Hid (l.length = nn)) (hnw : -9223372036854775808 ≤ n ∧ n ≤ 9223372036854775807) (hr : Hid (findM ⟨cap, l⟩ n = (r, rb))) :
    Calls Try.prog 36 #[.agg #[.int .i64 cap, .slice A nn c], .int .i64 n] w fun e w' => e = .returned (.tuple #[.int .i64 r, .bool rb]) ∧ Bel w w' := callsIn_wide.1 (find_in cap A nn c l n r rb w h hn hnw hr)
end Go.Proofs.Yteopeocgbfdofaa
