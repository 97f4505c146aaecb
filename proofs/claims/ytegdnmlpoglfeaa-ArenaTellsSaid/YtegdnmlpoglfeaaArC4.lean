/- arena.Left by its contract. -/
import Derived.Test.YtegdnmlpoglfeaaArC3
set_option linter.unusedVariables false
set_option linter.unusedSimpArgs false
namespace Go.Proofs.Ytegdnmlpoglfeaa
open Go.RowKit Go.Shelf
attribute [local go_sem] Oper.semAt_some

theorem KpG.setCell {n₀ Bs b : Nat} {W : World} (h1 : n₀ ≤ b) (h2 : b < Bs) (v : Value) : KpG n₀ Bs W (W.setCell ⟨b, 0, none⟩ v) :=
  ⟨(Below.refl _ _).setCell (p := ⟨b, 0, none⟩) h1 v, fun k o hk ho hb => (Below.heap_setCell _ _ _ k (by simp only; omega)).trans hk⟩
theorem Ok.count {m : MemD} (h : Ok m) : ∀ i, i ≤ m.l.length → (i : Int) ≤ prevEnd m.l i
  | 0, _ => by unfold prevEnd; rw [if_pos rfl]; simp
  | i + 1, hi => by
    have ih := h.count i (by omega)
    have b := h.blk i (by omega)
    have h1 := b.lo
    have h2 := b.len
    rw [prevEnd_succ]
    omega
theorem Ok.few {m : MemD} (h : Ok m) : m.l.length ≤ 1024 := by
  have h1 := h.count m.l.length (Nat.le_refl _)
  have h2 := (h.prev m.l.length (Nat.le_refl _)).2
  have h3 := h.cap1
  omega
theorem gapsUpto_len (m : MemD) : ∀ i, (gapsUpto m i).length ≤ i
  | 0 => by simp [gapsUpto]
  | i + 1 => by
    have ih := gapsUpto_len m i
    rw [gapsUpto, List.length_append]
    unfold gapAt
    split <;> simp <;> omega
theorem gapsL_len {m : MemD} (h : Ok m) : (gapsL m).length ≤ 1025 := by
  have h1 := gapsUpto_len m (m.l.length + 1)
  have h2 := h.few
  unfold gapsL
  omega
theorem leftL_range : ∀ (xs : List GapV), -(1024 * (xs.length : Int)) ≤ leftL (vals xs) ∧ leftL (vals xs) ≤ 1024 * (xs.length : Int)
  | [] => by simp [leftL, vals]
  | x :: xs => by
    have ih := leftL_range xs
    have hx := x.2
    simp only [leftL, vals, List.map_cons, List.sum_cons, List.length_cons] at ih ⊢
    omega
theorem leftL_snoc (xs : List GapV) (x : GapV) : leftL (vals (xs ++ [x])) = leftL (vals xs) + (x.1.2 - x.1.1) := by
  rw [vals_snoc]
  simp [leftL]
set_option maxRecDepth 100000 in
set_option maxHeartbeats 4000000 in
theorem left_in (cap : Int) (A : Option Addr) (n c : Nat) (l : List BlkD) (r : Int) (w : World) (h : Sl BlkR 3 w A c l) (hn : Hid (l.length = n)) (hr : Hid (leftM ⟨cap, l⟩ = r)) :
    CallsIn Fence.wide 3 Try.prog 12 #[.agg #[.int .i64 cap, .slice A n c]] w fun e w' => e = .returned (.int .i64 r) ∧ Bel w w' := by
  have HS0 := Lib.hid h
  clear h
  obtain ⟨mb, hmb⟩ : ∃ mb, Hid (mayM ⟨cap, l⟩ = mb) := ⟨_, Lib.hid rfl⟩
  have hq0 := cell_fresh w #[.int .i64 cap, .slice A n c] 26 0 (.int .i64 cap) rfl
  have hq1 := cell_fresh w #[.int .i64 cap, .slice A n c] 26 1 (.slice A n c) rfl
  have HBa := Lib.hid ((Bel.refl w).alloc (.cells #[.int .i64 cap, .slice A n c] 26))
  have hsz : w.heap.size < (w.alloc (.cells #[.int .i64 cap, .slice A n c] 26)).heap.size := by simp
  refine callsIn_of_wp_marks Try.func12 rfl trivial ?_ rfl
  simp only [Try.ntmps12, List.size_toArray, List.length_cons, List.length_nil, Nat.reduceAdd, Nat.reduceSub, Array.replicate_succ, Array.replicate_zero, List.push_toArray, List.append_toArray, List.nil_append, List.cons_append]
  gi_wp2_with fail
  refine ⟨trivial, ?_⟩
  generalize w.alloc (.cells #[.int .i64 cap, .slice A n c] 26) = W1 at *
  refine (callsIn_wide.2 (May_any cap A n c l mb _ (HS0.out.mono BlkR.mono HBa.out) hn hmb)).mono ?_
  rintro e w1 ⟨rfl, hb⟩
  have HB1 := HBa.out.trans hb
  have q0 := hb.cell hq0
  have q1 := hb.cell hq1
  have hg1 : w.heap.size < w1.heap.size := Nat.lt_of_lt_of_le hsz hb.size
  have ng : ¬ w.heap.size = w1.heap.size := by omega
  have ng' : ¬ w1.heap.size = w.heap.size := by omega
  clear hq0 hq1 hsz hb
  cases mb
  · have HR : Hid (r = 0) := Lib.hid (by rw [← hr.out]; unfold leftM; rw [if_neg (by rw [hmb.out]; simp)])
    gi_wp2_with fail
    exact ⟨_, results_tmp rfl _ _ _, by rw [HR.out]; rfl, HB1⟩
  · have HOK : Hid (Ok ⟨cap, l⟩) := Lib.hid (mayM_iff.1 hmb.out)
    have HR : Hid (leftL (gapsL ⟨cap, l⟩) = r) := Lib.hid (by rw [← hr.out]; unfold leftM; rw [if_pos hmb.out])
    gi_wp2_with fail
    refine ⟨trivial, ?_⟩
    refine (gaps_in 2 cap A n c _).mono ?_
    rintro e w' ⟨rfl, rfl⟩
    have bN := (Boxed.new w1 3 (.int .i64 0)).alloc (.cells #[.int .i64 cap, .slice A n c] 26)
    have hs3 : (w1.alloc (.cells #[.int .i64 0] 3)).heap.size = w1.heap.size + 1 := by simp
    have B0 := cell_fresh (w1.alloc (.cells #[.int .i64 0] 3)) #[.int .i64 cap, .slice A n c] 26 0 (.int .i64 cap) rfl
    have B1 := cell_fresh (w1.alloc (.cells #[.int .i64 0] 3)) #[.int .i64 cap, .slice A n c] 26 1 (.slice A n c) rfl
    have hs4 : ((w1.alloc (.cells #[.int .i64 0] 3)).alloc (.cells #[.int .i64 cap, .slice A n c] 26)).heap.size = w1.heap.size + 2 := by simp
    have HB4 := (HB1.alloc (.cells #[.int .i64 0] 3)).alloc (.cells #[.int .i64 cap, .slice A n c] 26)
    rw [hs3] at B0 B1
    simp only [hs3]
    generalize (w1.alloc (.cells #[.int .i64 0] 3)).alloc (.cells #[.int .i64 cap, .slice A n c] 26) = W4 at *
    generalize w1.heap.size = g at *
    clear hs3 q0 q1 HB1
    gi_wp2_with fail
    refine wpIn_rangeFunc_ownG (F := Fence.wide) (n := 3) rfl (by omega) (gf := 40) (lb := #[.pointer (some ⟨g + 1, 0, none⟩)]) rfl trivial (enters_of Try.func40 (by kernel_rfl) rfl)
      (gaps_stops (3 - 1) (by omega) (g + 1) cap A c n l w W4 HS0.out hn HOK (by omega) HB4 B0 B1)
      KpG.trans (KpG.turn (by omega)) (Below.refl _ _) (fun _ => rfl)
      (fun pre W => Boxed W g 3 (.int .i64 (leftL (vals pre))) ∧ Below w.heap.size w W)
      (fun _ _ _ => False)
      (OwnFrom.and (Own.from (boxed_own g 3 (fun pre => .int .i64 (leftL (vals pre)))) _) (ownFrom_below (Nat.le_refl _) (by omega)))
      (fun _ _ _ _ _ hs _ _ => hs)
      ⟨bN, HB4.out⟩
      (fun x => { tmps := #[.agg #[.int .i64 cap, .slice A n c], .pointer (some ⟨w.heap.size, 0, none⟩), .int .i64 0, .pointer (some ⟨g, 0, none⟩), .int .i64 x.1.1, .int .i64 x.1.2, .agg #[.int .i64 cap, .slice A n c], .bool true, .bool false, .agg #[.int .i64 cap, .slice A n c], .func (.func 40) #[] #[.pointer (some ⟨g + 1, 0, none⟩)], .int .i64 x.1.1, .int .i64 x.1.2, undef, undef, undef, undef, undef, undef], defers := [] }) ?assign ?body ?done ?stop
    case assign =>
      intro z x W K hK
      simp only [gapEnc]
      gi_wp2
      exact hK
    case body =>
      rintro z pre x W ⟨hb, hB⟩ hlen
      have hx := x.2
      have hlr := leftL_range pre
      have hNN := gapsL_len HOK.out
      have HSN := Lib.hid (leftL_snoc pre x)
      have HB := Lib.hid hb
      have HBB := Lib.hid hB
      have cc := hb.cell
      have ff := hb.frozen
      have e1 : IntKind.i64.wrap (x.1.2 - x.1.1) = x.1.2 - x.1.1 := wrap_i64 (by omega) (by omega)
      have e2 : IntKind.i64.wrap (leftL (vals pre) + (x.1.2 - x.1.1)) = leftL (vals pre) + (x.1.2 - x.1.1) := wrap_i64 (by omega) (by omega)
      have E1 := Lib.hid e1
      generalize leftL (vals pre) = S at *
      clear hb hB hx hlr hNN hlen
      gi_wp2
      refine ⟨(KeepsOthers.setCell _ _ _).from _, KpG.setCell (by omega) (by omega) _, ?_, HBB.out.setCell (p := ⟨g, 0, none⟩) (by simp only; omega) _⟩
      rw [HSN.out]
      exact HB.out.set _
    case done =>
      rintro D ys W hD hys ⟨hb, hB⟩ hK
      have cc := hb.cell
      have HV : Hid (leftL (vals ys) = r) := Lib.hid (by rw [hys]; exact HR.out)
      rw [HV.out] at cc
      have HK := Lib.hid hK
      have hF : Bel w (W.putObj D (.deferred none)) := Bel.of (hB.trans (belowK_b (w := w) (Nat.le_refl _) W D _ _ (by omega) hK rfl rfl))
      have HF := Lib.hid hF
      clear hb hB hK hys hF
      gi_wp2
      refine ⟨by simp, .inl ⟨_, _, rfl, run_takeDeferred HK.out, ?_⟩⟩
      exact ⟨_, results_tmp rfl _ _ _, rfl, HF.out⟩
    case stop =>
      rintro D c pre W _ _ h _
      exact h.elim
theorem Left_any (cap : Int) (A : Option Addr) (n c : Nat) (l : List BlkD) (r : Int) (w : World) (h : Sl BlkR 3 w A c l) (hn : Hid (l.length = n)) (hr : Hid (leftM ⟨cap, l⟩ = r)) :
    Calls Try.prog 12 #[.agg #[.int .i64 cap, .slice A n c]] w fun e w' => e = .returned (.int .i64 r) ∧ Bel w w' := callsIn_wide.1 (left_in cap A n c l r w h hn hr)
end Go.Proofs.Ytegdnmlpoglfeaa
