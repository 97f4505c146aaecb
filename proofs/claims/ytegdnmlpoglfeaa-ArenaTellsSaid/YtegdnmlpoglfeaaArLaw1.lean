/- Words that are made; the chapter's example. -/
import Derived.Test.YtegdnmlpoglfeaaArC10
import Derived.Test.YtegdnmlpoglfeaaArC13
import Derived.Test.YtegdnmlpoglfeaaArRef1
import Derived.Test.YtegdnmlpoglfeaaHeldU
set_option linter.unusedVariables false
set_option linter.unusedSimpArgs false
namespace Go.Proofs.Ytegdnmlpoglfeaa
open Go.RowKit

def zeros (n : Nat) : List Int := List.replicate n 0
theorem zeros_length (n : Nat) : (zeros n).length = n := List.length_replicate
/-- make([]uint64, n). -/
theorem make_words (n : Nat) (hn : n ≤ 4096) (w : World) : (Instr.makeSlice 31 (.int .i64 n) (.int .i64 n)).run Try.prog w = .ok (.slice (some ⟨w.heap.size, 0, none⟩) n n) (w.alloc (.cells (u64s (zeros n)).toArray 40)) := by
  obtain ⟨i, hi, hz⟩ := Option.map_eq_some_iff.1 info_word
  simp only [Prod.mk.injEq] at hz
  obtain ⟨hz0, hz1, hz2⟩ := hz
  have := run_make (P := Try.prog) w 31 40 i (.int .u64 0) Try.underlying31 hi hz0 .i64 .i64 (n : Int) (n : Int) (by omega) (Int.le_refl _) (by rw [hz2]; omega) (by omega)
  rw [this, hz1, Int.toNat_natCast, Nat.mul_one, show (Value.int .u64 0).cells = #[Value.int .u64 0] from rfl]
  have e : madeCells #[Value.int .u64 0] n = (u64s (zeros n)).toArray := by
    apply Array.toList_inj.1
    rw [toList_madeCells_one]
    simp [u64s, zeros]
  rw [e]
theorem zeros_getD (n i : Nat) : (zeros n).getD i 0 = 0 := by
  rw [List.getD_eq_getElem?_getD]
  unfold zeros
  rw [List.getElem?_replicate]
  split <;> rfl
theorem made_own (n : Nat) (hn : n ≤ 4096) (w : World) : OwnW (w.alloc (.cells (u64s (zeros n)).toArray 40)) w.heap.size n (zeros n) := by
  have hb : Blk (w.alloc (.cells (u64s (zeros n)).toArray 40)) w.heap.size 40 (u64s (zeros n)).toArray := Blk.new _ _ _
  refine ⟨by rw [zeros_length]; exact Nat.le_refl _, by simp only [maxLen]; omega, fun i hi => hb.cell i ?_, fun i => hb.frozen i, fun i hi => by rw [zeros_getD]; rfl⟩
  rw [zeros_getD]
  rw [zeros_length] at hi
  simp [u64s, zeros, hi]
theorem made_sl {n : Nat} (hn : n ≤ 4096) (w : World) : Sl (IntR .u64) 1 (w.alloc (.cells (u64s (zeros n)).toArray 40)) (some ⟨w.heap.size, 0, none⟩) n (zeros n) := (made_own n hn w).sl
set_option maxRecDepth 100000 in
set_option maxHeartbeats 4000000 in
theorem awake13 (w : World) : Calls Try.prog 9 #[] w fun e w' => e = .returned (.bool true) ∧ Bel w w' := by
  have hm4 : ∀ w, (Instr.makeSlice 31 (.int .i64 4) (.int .i64 4)).run Try.prog w = .ok (.slice (some ⟨w.heap.size, 0, none⟩) 4 4) (w.alloc (.cells (u64s (zeros 4)).toArray 40)) := make_words 4 (by decide)
  have hm2 : ∀ w, (Instr.makeSlice 31 (.int .i64 2) (.int .i64 2)).run Try.prog w = .ok (.slice (some ⟨w.heap.size, 0, none⟩) 2 2) (w.alloc (.cells (u64s (zeros 2)).toArray 40)) := make_words 2 (by decide)
  go_enter Try.func9, Try.ntmps9
  go_wp2_with fail
  refine (New_any 10 _).mono ?_
  rintro e w1 ⟨rfl, hb⟩
  rw [show newC 10 = 10 from rfl, show newE 10 = 0 from rfl]
  have HB1 := Lib.hid hb
  have hsz : w1.heap.size < (w1.alloc (.cells #[.int .i64 10, .slice none 0 0] 26)).heap.size := by simp
  have HBW := Lib.hid (hb.alloc (.cells #[.int .i64 10, .slice none 0 0] 26))
  have BM := Lib.hid (Blk.new w1 26 #[.int .i64 10, .slice none 0 0])
  have HB0 := hb.size
  clear hb
  go_wp2_with fail
  generalize w1.alloc (.cells #[.int .i64 10, .slice none 0 0] 26) = W at *
  generalize w1.heap.size = g at *
  have q0 : W.cell? ⟨g, 0, none⟩ = some (.int .i64 10) := BM.out.cell 0 rfl
  have q1 : W.cell? ⟨g, 1, none⟩ = some (.slice none 0 0) := BM.out.cell 1 rfl
  have f0 := BM.out.frozen 0
  have f1 := BM.out.frozen 1
  have S0 : Two ⟨g, 0, none⟩ ⟨g, 1, none⟩ (.int .i64 10) (.slice none 0 0) W := ⟨q0, q1⟩
  have SD := S0.bel ((Bel.refl W).drew)
  have P0 := fun (w' : World) (h : Two ⟨g, 0, none⟩ ⟨g, 1, none⟩ (.int .i64 10) (.slice none 0 0) w') => h.c1
  have P1 := fun (w' : World) (h : Two ⟨g, 0, none⟩ ⟨g, 1, none⟩ (.int .i64 10) (.slice none 0 0) w') => h.c2
  refine wp_region_T (fun w' => Two ⟨g, 0, none⟩ ⟨g, 1, none⟩ (.int .i64 10) (.slice none 0 0) w') (fun j => decide (2 ≤ j)) (by kernel_rfl) ?_
  refine wpAnyU_take (i := 0) (v := ?v0a) rfl (by kernel_rfl) (by kernel_rfl) (by kernel_rfl) (by kernel_rfl) (fun _ _ _ h => h) (Or.inl ⟨by rfl, ?hy0a⟩) SD ?rest0a
  case hy0a => (intro w' hSw; go_simp) <;> with_reducible rfl
  try simp only [List.getElem_toArray, List.getElem_cons_zero, List.getElem_cons_succ, Act.put, List.setIfInBounds_toArray, List.set_cons_zero, List.set_cons_succ]
  refine wpAnyT_one (i := 1) (by kernel_rfl) rfl (fun K hK => ?_)
  go_simp
  refine hK.out _ _ (fun _ => (SD.bel ((Bel.refl _).alloc _))) ?_
  clear hK K
  try simp only [List.getElem_toArray, List.getElem_cons_zero, List.getElem_cons_succ, Act.put, List.setIfInBounds_toArray, List.set_cons_zero, List.set_cons_succ]
  refine wpAnyT_one (i := 2) (by kernel_rfl) rfl (fun K hK => ?_)
  go_simp
  go_at_call 11
  refine (Put_any 10 none 0 0 [] 1 0 _ 4 4 (zeros 4) _ (Sl.nil _ _ _) (Lib.hid rfl) ((made_sl (by decide) W).mono (IntR.mono _) ((Bel.refl _).drew)) (Lib.hid (zeros_length 4)) (Lib.hid (by decide)) (Lib.hid (by decide)) 10 [⟨1, 0, zeros 4⟩] 1 0 (Lib.hid (by decide)) (Lib.hid rfl)).mono ?_
  rintro e w3 ⟨A3, c3, rfl, s3, hb3⟩
  have HBW := HBW.out.trans ((((Bel.refl W).alloc _).drew).trans hb3)
  have b3 := BM.out.bel ((((Bel.refl W).alloc _).drew).trans hb3)
  have d0 := b3.cell 0 rfl
  have d1 := b3.cell 1 rfl
  have e0 := b3.frozen 0
  have e1 := b3.frozen 1
  have b32 := (b3.set 0 (.int .i64 10)).set 1 (.slice A3 1 c3)
  have HBW2 := (HBW.setCell (p := ⟨g, 0, none⟩) (by simp only; omega) (.int .i64 10)).setCell (p := ⟨g, 1, none⟩) (by simp only; omega) (.slice A3 1 c3)
  have hzz : g < ((W.alloc (.cells (u64s (zeros 4)).toArray 40)).drew).heap.size := Nat.lt_of_lt_of_le BM.out.lt ((((Bel.refl W).alloc _).drew)).size
  have s32 := s3.abv (((Abv.refl _ w3).set (p := ⟨g, 0, none⟩) hzz (.int .i64 10)).set (p := ⟨g, 1, none⟩) hzz (.slice A3 1 c3))

  refine hK.out _ _ (fun h => absurd h (by decide)) ?_
  clear hK K
  try simp only [List.getElem_toArray, List.getElem_cons_zero, List.getElem_cons_succ, Act.put, List.setIfInBounds_toArray, List.set_cons_zero, List.set_cons_succ]
  refine wpAnyW_take (i := 3) (v := ?v3a) rfl (by kernel_rfl) (by kernel_rfl) (by kernel_rfl) (by kernel_rfl) (fun _ _ _ h => h) (Or.inl ⟨by rfl, ?hy3a⟩) ?rest3a
  case hy3a => (intro w' hSw; go_simp) <;> with_reducible rfl
  try simp only [List.getElem_toArray, List.getElem_cons_zero, List.getElem_cons_succ, Act.put, List.setIfInBounds_toArray, List.set_cons_zero, List.set_cons_succ]
  refine wpAnyW_take (i := 4) (v := ?v4a) rfl (by kernel_rfl) (by kernel_rfl) (by kernel_rfl) (by kernel_rfl) (fun _ _ _ h => h) (Or.inl ⟨by rfl, ?hy4a⟩) ?rest4a
  case hy4a => (intro w' hSw; go_simp) <;> with_reducible rfl
  try simp only [List.getElem_toArray, List.getElem_cons_zero, List.getElem_cons_succ, Act.put, List.setIfInBounds_toArray, List.set_cons_zero, List.set_cons_succ]
  refine wpAnyW_take (i := 5) (v := ?v5a) rfl (by kernel_rfl) (by kernel_rfl) (by kernel_rfl) (by kernel_rfl) (fun _ _ _ h => h) (Or.inl ⟨by rfl, ?hy5a⟩) ?rest5a
  case hy5a => (intro w' hSw; go_simp) <;> with_reducible rfl
  try simp only [List.getElem_toArray, List.getElem_cons_zero, List.getElem_cons_succ, Act.put, List.setIfInBounds_toArray, List.set_cons_zero, List.set_cons_succ]
  refine wpAnyT_one (i := 6) (by kernel_rfl) rfl (fun K hK => ?_)
  go_simp
  refine hK.out _ _ (fun h => absurd h (by decide)) ?_
  clear hK K
  try simp only [List.getElem_toArray, List.getElem_cons_zero, List.getElem_cons_succ, Act.put, List.setIfInBounds_toArray, List.set_cons_zero, List.set_cons_succ]
  refine wpAnyW_take (i := 7) (v := ?v7a) rfl (by kernel_rfl) (by kernel_rfl) (by kernel_rfl) (by kernel_rfl) (fun _ _ _ h => h) (Or.inl ⟨by rfl, ?hy7a⟩) ?rest7a
  case hy7a => (intro w' hSw; go_simp) <;> with_reducible rfl
  try simp only [List.getElem_toArray, List.getElem_cons_zero, List.getElem_cons_succ, Act.put, List.setIfInBounds_toArray, List.set_cons_zero, List.set_cons_succ]
  refine wpAnyT_done (by kernel_rfl) ?_ _
  refine NoPanic.normal ?_
  clear S0 SD P0 P1

  have HS3 := Lib.hid s32.sl
  have BM := Lib.hid b32
  have HBW := Lib.hid HBW2
  clear q0 q1 f0 f1 d0 d1 e0 e1 b3 b32 HBW2 s3 s32 hb3 hzz
  go_wp2_with fail
  generalize (w3.setCell ⟨g, 0, none⟩ (.int .i64 10)).setCell ⟨g, 1, none⟩ (.slice A3 1 c3) = W at *
  have q0 : W.cell? ⟨g, 0, none⟩ = some (.int .i64 10) := BM.out.cell 0 rfl
  have q1 : W.cell? ⟨g, 1, none⟩ = some (.slice A3 1 c3) := BM.out.cell 1 rfl
  have S0 : Two ⟨g, 0, none⟩ ⟨g, 1, none⟩ (.int .i64 10) (.slice A3 1 c3) W := ⟨q0, q1⟩
  have SD := S0.bel ((Bel.refl W).drew)
  have P0 := fun (w' : World) (h : Two ⟨g, 0, none⟩ ⟨g, 1, none⟩ (.int .i64 10) (.slice A3 1 c3) w') => h.c1
  have P1 := fun (w' : World) (h : Two ⟨g, 0, none⟩ ⟨g, 1, none⟩ (.int .i64 10) (.slice A3 1 c3) w') => h.c2
  refine wp_region_T (fun w' => Two ⟨g, 0, none⟩ ⟨g, 1, none⟩ (.int .i64 10) (.slice A3 1 c3) w') (fun j => decide (2 ≤ j)) (by kernel_rfl) ?_
  refine wpAnyU_take (i := 0) (v := ?v0b) rfl (by kernel_rfl) (by kernel_rfl) (by kernel_rfl) (by kernel_rfl) (fun _ _ _ h => h) (Or.inl ⟨by rfl, ?hy0b⟩) SD ?rest0b
  case hy0b => (intro w' hSw; go_simp) <;> with_reducible rfl
  try simp only [List.getElem_toArray, List.getElem_cons_zero, List.getElem_cons_succ, Act.put, List.setIfInBounds_toArray, List.set_cons_zero, List.set_cons_succ]
  refine wpAnyT_one (i := 1) (by kernel_rfl) rfl (fun K hK => ?_)
  go_simp
  refine hK.out _ _ (fun _ => (SD.bel ((Bel.refl _).alloc _))) ?_
  clear hK K
  try simp only [List.getElem_toArray, List.getElem_cons_zero, List.getElem_cons_succ, Act.put, List.setIfInBounds_toArray, List.set_cons_zero, List.set_cons_succ]
  refine wpAnyT_one (i := 2) (by kernel_rfl) rfl (fun K hK => ?_)
  go_simp
  go_at_call 11
  refine (Put_any 10 A3 1 c3 [⟨1, 0, zeros 4⟩] 2 6 _ 2 2 (zeros 2) _ (HS3.out.mono BlkR.mono (((Bel.refl W).alloc _).drew)) (Lib.hid rfl) ((made_sl (by decide) W).mono (IntR.mono _) ((Bel.refl _).drew)) (Lib.hid (zeros_length 2)) (Lib.hid (by decide)) (Lib.hid (by decide)) 10 [⟨1, 0, zeros 4⟩, ⟨2, 6, zeros 2⟩] 2 0 (Lib.hid (by decide)) (Lib.hid rfl)).mono ?_
  rintro e w4 ⟨A4, c4, rfl, s4, hb4⟩
  have HBW := HBW.out.trans ((((Bel.refl W).alloc _).drew).trans hb4)
  have b4 := BM.out.bel ((((Bel.refl W).alloc _).drew).trans hb4)
  have d0 := b4.cell 0 rfl
  have d1 := b4.cell 1 rfl
  have e0 := b4.frozen 0
  have e1 := b4.frozen 1
  have b42 := (b4.set 0 (.int .i64 10)).set 1 (.slice A4 2 c4)
  have HBW2 := (HBW.setCell (p := ⟨g, 0, none⟩) (by simp only; omega) (.int .i64 10)).setCell (p := ⟨g, 1, none⟩) (by simp only; omega) (.slice A4 2 c4)
  have hzz : g < ((W.alloc (.cells (u64s (zeros 2)).toArray 40)).drew).heap.size := Nat.lt_of_lt_of_le BM.out.lt ((((Bel.refl W).alloc _).drew)).size
  have s42 := s4.abv (((Abv.refl _ w4).set (p := ⟨g, 0, none⟩) hzz (.int .i64 10)).set (p := ⟨g, 1, none⟩) hzz (.slice A4 2 c4))

  refine hK.out _ _ (fun h => absurd h (by decide)) ?_
  clear hK K
  try simp only [List.getElem_toArray, List.getElem_cons_zero, List.getElem_cons_succ, Act.put, List.setIfInBounds_toArray, List.set_cons_zero, List.set_cons_succ]
  refine wpAnyW_take (i := 3) (v := ?v3b) rfl (by kernel_rfl) (by kernel_rfl) (by kernel_rfl) (by kernel_rfl) (fun _ _ _ h => h) (Or.inl ⟨by rfl, ?hy3b⟩) ?rest3b
  case hy3b => (intro w' hSw; go_simp) <;> with_reducible rfl
  try simp only [List.getElem_toArray, List.getElem_cons_zero, List.getElem_cons_succ, Act.put, List.setIfInBounds_toArray, List.set_cons_zero, List.set_cons_succ]
  refine wpAnyW_take (i := 4) (v := ?v4b) rfl (by kernel_rfl) (by kernel_rfl) (by kernel_rfl) (by kernel_rfl) (fun _ _ _ h => h) (Or.inl ⟨by rfl, ?hy4b⟩) ?rest4b
  case hy4b => (intro w' hSw; go_simp) <;> with_reducible rfl
  try simp only [List.getElem_toArray, List.getElem_cons_zero, List.getElem_cons_succ, Act.put, List.setIfInBounds_toArray, List.set_cons_zero, List.set_cons_succ]
  refine wpAnyW_take (i := 5) (v := ?v5b) rfl (by kernel_rfl) (by kernel_rfl) (by kernel_rfl) (by kernel_rfl) (fun _ _ _ h => h) (Or.inl ⟨by rfl, ?hy5b⟩) ?rest5b
  case hy5b => (intro w' hSw; go_simp) <;> with_reducible rfl
  try simp only [List.getElem_toArray, List.getElem_cons_zero, List.getElem_cons_succ, Act.put, List.setIfInBounds_toArray, List.set_cons_zero, List.set_cons_succ]
  refine wpAnyT_one (i := 6) (by kernel_rfl) rfl (fun K hK => ?_)
  go_simp
  refine hK.out _ _ (fun h => absurd h (by decide)) ?_
  clear hK K
  try simp only [List.getElem_toArray, List.getElem_cons_zero, List.getElem_cons_succ, Act.put, List.setIfInBounds_toArray, List.set_cons_zero, List.set_cons_succ]
  refine wpAnyW_take (i := 7) (v := ?v7b) rfl (by kernel_rfl) (by kernel_rfl) (by kernel_rfl) (by kernel_rfl) (fun _ _ _ h => h) (Or.inl ⟨by rfl, ?hy7b⟩) ?rest7b
  case hy7b => (intro w' hSw; go_simp) <;> with_reducible rfl
  try simp only [List.getElem_toArray, List.getElem_cons_zero, List.getElem_cons_succ, Act.put, List.setIfInBounds_toArray, List.set_cons_zero, List.set_cons_succ]
  refine wpAnyT_done (by kernel_rfl) ?_ _
  refine NoPanic.normal ?_
  clear S0 SD P0 P1

  have HS4 := Lib.hid s42.sl
  have BM := Lib.hid b42
  have HBW := Lib.hid HBW2
  have q0 := b42.cell 0 (v := .int .i64 10) rfl
  have q1 := b42.cell 1 (v := .slice A4 2 c4) rfl
  clear d0 d1 e0 e1 b4 b42 HBW2 s4 s42 hb4 hzz HS3
  go_wp2_with fail
  generalize (w4.setCell ⟨g, 0, none⟩ (.int .i64 10)).setCell ⟨g, 1, none⟩ (.slice A4 2 c4) = W at *
  refine (Find_any 10 A4 2 c4 [⟨1, 0, zeros 4⟩, ⟨2, 6, zeros 2⟩] 2 4 true _ HS4.out (Lib.hid rfl) (by decide) (Lib.hid (by decide))).mono ?_
  rintro e w5 ⟨rfl, hb5⟩
  have HBW5 := HBW.out.trans hb5
  have q0 := hb5.cell q0
  have q1 := hb5.cell q1
  have HS5 := Lib.hid (HS4.out.mono BlkR.mono hb5)
  clear hb5 HS4
  go_wp2_with fail
  refine (Left_any 10 A4 2 c4 [⟨1, 0, zeros 4⟩, ⟨2, 6, zeros 2⟩] 4 _ HS5.out (Lib.hid rfl) (Lib.hid (by decide))).mono ?_
  rintro e w6 ⟨rfl, hb6⟩
  have HBW6 := HBW5.trans hb6
  have q0 := hb6.cell q0
  have q1 := hb6.cell q1
  have HS6 := Lib.hid (HS5.out.mono BlkR.mono hb6)
  clear hb6 HS5
  go_wp2_with fail
  refine (May_any 10 A4 2 c4 [⟨1, 0, zeros 4⟩, ⟨2, 6, zeros 2⟩] true _ HS6.out (Lib.hid rfl) (Lib.hid (by decide))).mono ?_
  rintro e w7 ⟨rfl, hb7⟩
  go_wp2_with fail
  go_ret
  exact ⟨by first | rfl | simp, HBW6.trans hb7⟩
end Go.Proofs.Ytegdnmlpoglfeaa
