/- The walk of ArenaWhole. -/
import Derived.Test.YtegdnmlpoglfeaaArLaw2
set_option linter.unusedVariables false
set_option linter.unusedSimpArgs false
namespace Go.Proofs.Ytegdnmlpoglfeaa
open Go.RowKit

set_option maxRecDepth 100000 in
set_option maxHeartbeats 8000000 in
theorem ArenaWhole_walk (room : Int) (w : World) (hwf : (Lit.int .i64 room).wf = true) :
    Calls Try.prog 5 #[.int .i64 room] w fun e w' => e = .returned (.bool true) ∧ Bel w w' := by
  by_cases hroom : roomB room = true
  · have hC : newC room = room := if_pos hroom
    have hE : newE room = 0 := if_pos hroom
    have h01 : 0 ≤ room ∧ room ≤ 1024 := of_decide_eq_true hroom
    obtain ⟨hr00, hr1⟩ := h01
    obtain ⟨n, rfl⟩ : ∃ n : Nat, room = n := ⟨room.toNat, by omega⟩
    have HM0 : Hid (mayM ⟨(n : Int), []⟩ = true) := Lib.hid (may_nil hr00 hr1)
    have e1 : IntKind.i64.wrap ((n : Int) + 1) = (n : Int) + 1 := wrap_i64 (by omega) (by omega)
    clear hroom
    by_cases hr0 : (n : Int) = 0
    · obtain rfl : n = 0 := by omega
      have hC : newC 0 = 0 := rfl
      have hE : newE 0 = 0 := rfl
      go_enter Try.func5, Try.ntmps5
      go_wp2_with fail
      refine (awake13 _).mono ?_
      rintro e w1 ⟨rfl, hb1⟩
      go_wp2_with fail
      refine (New_any 0 _).mono ?_
      rintro e w2 ⟨rfl, hb2⟩
      rw [hC, hE]
      have HB2 := hb1.trans hb2
      have bM := Blk.new w2 26 #[.int .i64 0, .slice none 0 0]
      have q0 := bM.cell 0 (v := .int .i64 0) rfl
      have q1 := bM.cell 1 (v := .slice none 0 0) rfl
      have HBW := Lib.hid (HB2.alloc (.cells #[.int .i64 0, .slice none 0 0] 26))
      clear hb1 hb2 bM
      go_wp2_with fail
      refine (Find_any 0 none 0 0 [] 0 0 false _ (Sl.nil _ _ _) (Lib.hid rfl) (by decide) (Lib.hid (find_nil0 (by decide)))).mono ?_
      rintro e w21 ⟨rfl, hb⟩
      have HBW := Lib.hid (HBW.out.trans hb)
      have q0 := hb.cell q0
      have q1 := hb.cell q1
      clear hb
      go_wp2_with fail
      refine (Find_any 0 none 0 0 [] 1 0 false _ (Sl.nil _ _ _) (Lib.hid rfl) (by decide) (Lib.hid (by rw [find_nil (by decide) (by decide) (by decide), if_neg (by decide)]))).mono ?_
      rintro e w22 ⟨rfl, hb⟩
      have HBW := Lib.hid (HBW.out.trans hb)
      have q0 := hb.cell q0
      have q1 := hb.cell q1
      clear hb
      go_wp2_with fail
      refine (Left_any 0 none 0 0 [] 0 _ (Sl.nil _ _ _) (Lib.hid rfl) (Lib.hid (left_nil (by decide) (by decide)))).mono ?_
      rintro e w23 ⟨rfl, hb⟩
      have HBW := Lib.hid (HBW.out.trans hb)
      have q0 := hb.cell q0
      have q1 := hb.cell q1
      clear hb
      go_wp2_with fail
      go_ret
      exact ⟨by first | rfl | simp, HBW.out⟩
    · have hr0 : 0 < (n : Int) := by omega
      have hn4 : n ≤ 4096 := by omega
      have hm : ∀ w, (Instr.makeSlice 31 (.int .i64 (n : Int)) (.int .i64 (n : Int))).run Try.prog w = .ok (.slice (some ⟨w.heap.size, 0, none⟩) n n) (w.alloc (.cells (u64s (zeros n)).toArray 40)) := make_words n hn4
      have t0 : ((n : Int) == 0) = false := by rw [beq_eq_false_iff_ne]; omega
      go_enter Try.func5, Try.ntmps5
      go_wp2_with fail
      refine (awake13 _).mono ?_
      rintro e w1 ⟨rfl, hb1⟩
      go_wp2_with fail
      refine (New_any (n : Int) _).mono ?_
      rintro e w2 ⟨rfl, hb2⟩
      rw [hC, hE]
      have HB2 := hb1.trans hb2
      have bM := Blk.new w2 26 #[.int .i64 (n : Int), .slice none 0 0]
      have q0 := bM.cell 0 (v := .int .i64 (n : Int)) rfl
      have q1 := bM.cell 1 (v := .slice none 0 0) rfl
      have HB3 := HB2.alloc (.cells #[.int .i64 (n : Int), .slice none 0 0] 26)
      clear hb1 hb2
      go_wp2_with fail
      generalize w2.alloc (.cells #[.int .i64 (n : Int), .slice none 0 0] 26) = W at *
      have hg0 := HB2.size
      generalize w2.heap.size = g at *
      refine (Find_any (n : Int) none 0 0 [] (n : Int) 0 true _ (Sl.nil _ _ _) (Lib.hid rfl) (by omega) (Lib.hid (by rw [find_nil hr00 hr1 (by omega), if_pos (Int.le_refl _)]))).mono ?_
      rintro e w3 ⟨rfl, hb⟩
      have HB := HB3.trans hb
      have bM := bM.bel hb
      have q0 := hb.cell q0
      have q1 := hb.cell q1
      clear hb HB3
      go_wp2_with fail
      refine (Find_any (n : Int) none 0 0 [] ((n : Int) + 1) 0 false _ (Sl.nil _ _ _) (Lib.hid rfl) (by omega) (Lib.hid (by rw [find_nil hr00 hr1 (by omega), if_neg (by omega)]))).mono ?_
      rintro e W ⟨rfl, hb⟩
      have HB := HB.trans hb
      have bM := bM.bel hb
      have q0 := hb.cell q0
      have q1 := hb.cell q1
      have HBM := Lib.hid bM
      clear hb bM
      go_wp2_with fail
      have S0 : Two ⟨g, 0, none⟩ ⟨g, 1, none⟩ (.int .i64 (n : Int)) (.slice none 0 0) W := ⟨q0, q1⟩
      have SD := S0.bel ((Bel.refl W).drew)
      have P0 := fun (w' : World) (h : Two ⟨g, 0, none⟩ ⟨g, 1, none⟩ (.int .i64 (n : Int)) (.slice none 0 0) w') => h.c1
      have P1 := fun (w' : World) (h : Two ⟨g, 0, none⟩ ⟨g, 1, none⟩ (.int .i64 (n : Int)) (.slice none 0 0) w') => h.c2
      refine wp_region_T (fun w' => Two ⟨g, 0, none⟩ ⟨g, 1, none⟩ (.int .i64 (n : Int)) (.slice none 0 0) w') (fun j => decide (j ≠ 0 ∧ j ≠ 2 ∧ j ≠ 7)) (by kernel_rfl) ?_
      refine wpAnyW_take (i := 1) (v := ?v1) rfl (by kernel_rfl) (by kernel_rfl) (by kernel_rfl) (by kernel_rfl) (fun _ _ _ h => h) (Or.inl ⟨by rfl, ?hy1⟩) ?rest1
      case hy1 => (intro w' hSw; go_simp) <;> with_reducible rfl
      try simp only [List.getElem_toArray, List.getElem_cons_zero, List.getElem_cons_succ, Act.put, List.setIfInBounds_toArray, List.set_cons_zero, List.set_cons_succ]
      refine wpAnyU_take (i := 0) (v := ?v0) rfl (by kernel_rfl) (by kernel_rfl) (by kernel_rfl) (by kernel_rfl) (fun _ _ _ h => h) (Or.inl ⟨by rfl, ?hy0⟩) SD ?rest0
      case hy0 => (intro w' hSw; go_simp) <;> with_reducible rfl
      try simp only [List.getElem_toArray, List.getElem_cons_zero, List.getElem_cons_succ, Act.put, List.setIfInBounds_toArray, List.set_cons_zero, List.set_cons_succ]
      refine wpAnyT_two (i := 2) (j := 7) (by kernel_rfl) rfl rfl (fun K hK => ?_) (fun K hK => ?_)
      · go_simp
        refine hK.out _ _ (fun _ => (SD.bel ((Bel.refl _).alloc _))) ?_
        clear hK K
        try simp only [List.getElem_toArray, List.getElem_cons_zero, List.getElem_cons_succ, Act.put, List.setIfInBounds_toArray, List.set_cons_zero, List.set_cons_succ]
        refine wpAnyT_two (i := 3) (j := 7) (by kernel_rfl) rfl rfl (fun K hK => ?_) (fun K hK => ?_)
        · go_simp
          go_at_call 11
          refine (Put_any (n : Int) none 0 0 [] 7 0 _ n n (zeros n) _ (Sl.nil _ _ _) (Lib.hid rfl) ((made_sl hn4 W).mono (IntR.mono _) ((Bel.refl _).drew)) (Lib.hid (zeros_length n)) (Lib.hid (by decide)) (Lib.hid (by decide)) (n : Int) [⟨7, 0, zeros n⟩] 1 0 (Lib.hid (put_whole hr0 hr1 (by decide) (by rw [zeros_length]))) (Lib.hid rfl)).mono ?_
          rintro e w3 ⟨A3, c3, rfl, s3, hb3⟩
          have hWc : Bel W w3 := (((Bel.refl W).alloc _).drew).trans hb3
          have HBW := HB.trans hWc
          have BG0 := HBM.out.bel hWc
          have hsz3 := hb3.size
          have hgl := HBM.out.lt
          have bG2 := Blk.new w3 26 #[.int .i64 (n : Int), .slice A3 1 c3]
          have HBW := HBW.alloc (.cells #[.int .i64 (n : Int), .slice A3 1 c3] 26)
          have bg2 := BG0.alloc (.cells #[.int .i64 (n : Int), .slice A3 1 c3] 26)
          have hs3 := s3.bel ((Bel.refl w3).alloc (.cells #[.int .i64 (n : Int), .slice A3 1 c3] 26))
          refine hK.out _ _ (fun h => absurd h (by decide)) ?_
          clear hK K
          try simp only [List.getElem_toArray, List.getElem_cons_zero, List.getElem_cons_succ, Act.put, List.setIfInBounds_toArray, List.set_cons_zero, List.set_cons_succ]
          refine wpAnyW_take (i := 4) (v := ?v4a) rfl (by kernel_rfl) (by kernel_rfl) (by kernel_rfl) (by kernel_rfl) (fun _ _ _ h => h) (Or.inl ⟨by rfl, ?hy4a⟩) ?rest4a
          case hy4a => (intro w' hSw; go_simp) <;> with_reducible rfl
          try simp only [List.getElem_toArray, List.getElem_cons_zero, List.getElem_cons_succ, Act.put, List.setIfInBounds_toArray, List.set_cons_zero, List.set_cons_succ]
          refine wpAnyW_take (i := 5) (v := ?v5a) rfl (by kernel_rfl) (by kernel_rfl) (by kernel_rfl) (by kernel_rfl) (fun _ _ _ h => h) (Or.inl ⟨by rfl, ?hy5a⟩) ?rest5a
          case hy5a => (intro w' hSw; go_simp) <;> with_reducible rfl
          try simp only [List.getElem_toArray, List.getElem_cons_zero, List.getElem_cons_succ, Act.put, List.setIfInBounds_toArray, List.set_cons_zero, List.set_cons_succ]
          refine wpAnyW_take (i := 6) (v := ?v6a) rfl (by kernel_rfl) (by kernel_rfl) (by kernel_rfl) (by kernel_rfl) (fun _ _ _ h => h) (Or.inl ⟨by rfl, ?hy6a⟩) ?rest6a
          case hy6a => (intro w' hSw; go_simp) <;> with_reducible rfl
          try simp only [List.getElem_toArray, List.getElem_cons_zero, List.getElem_cons_succ, Act.put, List.setIfInBounds_toArray, List.set_cons_zero, List.set_cons_succ]
          refine wpAnyT_one (i := 7) (by kernel_rfl) rfl (fun K hK => ?_)
          go_simp
          refine hK.out _ _ (fun _ => ((SD.bel ((Bel.refl _).alloc _)).bel hb3).bel ((Bel.refl _).alloc _)) ?_
          clear hK K
          try simp only [List.getElem_toArray, List.getElem_cons_zero, List.getElem_cons_succ, Act.put, List.setIfInBounds_toArray, List.set_cons_zero, List.set_cons_succ]
          refine wpAnyT_one (i := 8) (by kernel_rfl) rfl (fun K hK => ?_)
          go_simp
          refine hK.out _ _ (fun h => absurd h (by decide)) ?_
          clear hK K
          try simp only [List.getElem_toArray, List.getElem_cons_zero, List.getElem_cons_succ, Act.put, List.setIfInBounds_toArray, List.set_cons_zero, List.set_cons_succ]
          refine wpAnyW_take (i := 9) (v := ?v9a) rfl (by kernel_rfl) (by kernel_rfl) (by kernel_rfl) (by kernel_rfl) (fun _ _ _ h => h) (Or.inl ⟨by rfl, ?hy9a⟩) ?rest9a
          case hy9a => (intro w' hSw; go_simp) <;> with_reducible rfl
          try simp only [List.getElem_toArray, List.getElem_cons_zero, List.getElem_cons_succ, Act.put, List.setIfInBounds_toArray, List.set_cons_zero, List.set_cons_succ]
          refine wpAnyT_done (by kernel_rfl) ?_ _
          refine NoPanic.normal ?_
          have HS := Lib.hid hs3.sl
          have HBW := Lib.hid HBW
          have q0 := bg2.cell 0 (v := .int .i64 (n : Int)) rfl
          have q1 := bg2.cell 1 (v := .slice none 0 0) rfl
          have p0 := bG2.cell 0 (v := .int .i64 (n : Int)) rfl
          have p1 := bG2.cell 1 (v := .slice A3 1 c3) rfl
          clear hs3 bg2 bG2 BG0 hWc s3 hb3 S0 SD P0 P1
          go_wp2_with fail
          refine (Find_any (n : Int) A3 1 c3 [⟨7, 0, zeros n⟩] 1 0 false _ HS.out (Lib.hid rfl) (by decide) (Lib.hid (find_whole hr0 hr1 (by decide) (by rw [zeros_length])))).mono ?_
          rintro e w21 ⟨rfl, hb⟩
          have HBW := Lib.hid (HBW.out.trans hb)
          have q0 := hb.cell q0
          have q1 := hb.cell q1
          have p0 := hb.cell p0
          have p1 := hb.cell p1
          have HS := Lib.hid (HS.out.mono BlkR.mono hb)
          clear hb
          go_wp2_with fail
          refine (Fetch_any (n : Int) A3 1 c3 [⟨7, 0, zeros n⟩] ((n : Int) - 1) 0 7 true _ HS.out (Lib.hid rfl) (Lib.hid (by rw [fetch_whole hr0 hr1 (by decide) (by rw [zeros_length]) (by omega) (by omega), zeros_getD]))).mono ?_
          rintro e w22 ⟨rfl, hb⟩
          have HBW := Lib.hid (HBW.out.trans hb)
          have q0 := hb.cell q0
          have q1 := hb.cell q1
          have p0 := hb.cell p0
          have p1 := hb.cell p1
          have HS := Lib.hid (HS.out.mono BlkR.mono hb)
          clear hb
          go_wp2_with fail
          refine (Fetch_any (n : Int) A3 1 c3 [⟨7, 0, zeros n⟩] (n : Int) 0 0 false _ HS.out (Lib.hid rfl) (Lib.hid (fetch_whole_out hr0 hr1 (by decide) (by rw [zeros_length]) (Int.le_refl _)))).mono ?_
          rintro e w23 ⟨rfl, hb⟩
          have HBW := Lib.hid (HBW.out.trans hb)
          have q0 := hb.cell q0
          have q1 := hb.cell q1
          have p0 := hb.cell p0
          have p1 := hb.cell p1
          have HS := Lib.hid (HS.out.mono BlkR.mono hb)
          clear hb
          go_wp2_with fail
          refine (Left_any (n : Int) none 0 0 [] (n : Int) _ (Sl.nil _ _ _) (Lib.hid rfl) (Lib.hid (left_nil hr00 hr1))).mono ?_
          rintro e w24 ⟨rfl, hb⟩
          have HBW := Lib.hid (HBW.out.trans hb)
          have q0 := hb.cell q0
          have q1 := hb.cell q1
          have p0 := hb.cell p0
          have p1 := hb.cell p1
          have HS := Lib.hid (HS.out.mono BlkR.mono hb)
          clear hb
          go_wp2_with fail
          refine (Left_any (n : Int) A3 1 c3 [⟨7, 0, zeros n⟩] 0 _ HS.out (Lib.hid rfl) (Lib.hid (left_whole hr0 hr1 (by decide) (by rw [zeros_length])))).mono ?_
          rintro e w25 ⟨rfl, hb⟩
          have HBW := Lib.hid (HBW.out.trans hb)
          have q0 := hb.cell q0
          have q1 := hb.cell q1
          have p0 := hb.cell p0
          have p1 := hb.cell p1
          have HS := Lib.hid (HS.out.mono BlkR.mono hb)
          clear hb
          go_wp2_with fail
          go_ret
          exact ⟨by first | rfl | simp, HBW.out⟩
        · go_simp
          refine hK.out _ _ (fun _ => ((SD.bel ((Bel.refl _).alloc _)).bel ((Bel.refl _).alloc _))) ?_
          clear hK K
          try simp only [List.getElem_toArray, List.getElem_cons_zero, List.getElem_cons_succ, Act.put, List.setIfInBounds_toArray, List.set_cons_zero, List.set_cons_succ]
          refine wpAnyT_one (i := 3) (by kernel_rfl) rfl (fun K hK => ?_)
          go_simp
          go_at_call 11
          refine (Put_any (n : Int) none 0 0 [] 7 0 _ n n (zeros n) _ (Sl.nil _ _ _) (Lib.hid rfl) ((made_sl hn4 W).mono (IntR.mono _) (((Bel.refl _).alloc (.cells #[.int .i64 0, .slice none 0 0] 26)).drew)) (Lib.hid (zeros_length n)) (Lib.hid (by decide)) (Lib.hid (by decide)) (n : Int) [⟨7, 0, zeros n⟩] 1 0 (Lib.hid (put_whole hr0 hr1 (by decide) (by rw [zeros_length]))) (Lib.hid rfl)).mono ?_
          rintro e w3 ⟨A3, c3, rfl, s3, hb3⟩
          have hWc : Bel W w3 := ((((Bel.refl W).alloc _).alloc _).drew).trans hb3
          have HBW := HB.trans hWc
          have BG0 := HBM.out.bel hWc
          have hsz3 := hb3.size
          have hgl := HBM.out.lt
          have bG : Blk w3 (W.heap.size + 1) 26 #[.int .i64 0, .slice none 0 0] := by
            have := ((Blk.new (W.alloc (.cells (u64s (zeros n)).toArray 40)) 26 #[.int .i64 0, .slice none 0 0]).bel ((Bel.refl _).drew)).bel hb3
            simpa using this
          have d0 := bG.cell 0 (v := .int .i64 0) rfl
          have d1 := bG.cell 1 (v := .slice none 0 0) rfl
          have z0 := bG.frozen 0
          have z1 := bG.frozen 1
          have bG2 := (bG.set 0 (.int .i64 (n : Int))).set 1 (.slice A3 1 c3)
          have HBW := (HBW.setCell (p := ⟨W.heap.size + 1, 0, none⟩) (by have := HB.size; simp only; omega) (.int .i64 (n : Int))).setCell (p := ⟨W.heap.size + 1, 1, none⟩) (by have := HB.size; simp only; omega) (.slice A3 1 c3)
          have bg2 := (BG0.other (p := ⟨W.heap.size + 1, 0, none⟩) (by simp only; omega) (.int .i64 (n : Int))).other (p := ⟨W.heap.size + 1, 1, none⟩) (by simp only; omega) (.slice A3 1 c3)
          have hs3 := s3.abv (((Abv.refl _ w3).set (p := ⟨W.heap.size + 1, 0, none⟩) (by simp; try omega) (.int .i64 (n : Int))).set (p := ⟨W.heap.size + 1, 1, none⟩) (by simp; try omega) (.slice A3 1 c3))

          refine hK.out _ _ (fun h => absurd h (by decide)) ?_
          clear hK K
          try simp only [List.getElem_toArray, List.getElem_cons_zero, List.getElem_cons_succ, Act.put, List.setIfInBounds_toArray, List.set_cons_zero, List.set_cons_succ]
          refine wpAnyW_take (i := 4) (v := ?v4b) rfl (by kernel_rfl) (by kernel_rfl) (by kernel_rfl) (by kernel_rfl) (fun _ _ _ h => h) (Or.inl ⟨by rfl, ?hy4b⟩) ?rest4b
          case hy4b => (intro w' hSw; go_simp) <;> with_reducible rfl
          try simp only [List.getElem_toArray, List.getElem_cons_zero, List.getElem_cons_succ, Act.put, List.setIfInBounds_toArray, List.set_cons_zero, List.set_cons_succ]
          refine wpAnyW_take (i := 5) (v := ?v5b) rfl (by kernel_rfl) (by kernel_rfl) (by kernel_rfl) (by kernel_rfl) (fun _ _ _ h => h) (Or.inl ⟨by rfl, ?hy5b⟩) ?rest5b
          case hy5b => (intro w' hSw; go_simp) <;> with_reducible rfl
          try simp only [List.getElem_toArray, List.getElem_cons_zero, List.getElem_cons_succ, Act.put, List.setIfInBounds_toArray, List.set_cons_zero, List.set_cons_succ]
          refine wpAnyW_take (i := 6) (v := ?v6b) rfl (by kernel_rfl) (by kernel_rfl) (by kernel_rfl) (by kernel_rfl) (fun _ _ _ h => h) (Or.inl ⟨by rfl, ?hy6b⟩) ?rest6b
          case hy6b => (intro w' hSw; go_simp) <;> with_reducible rfl
          try simp only [List.getElem_toArray, List.getElem_cons_zero, List.getElem_cons_succ, Act.put, List.setIfInBounds_toArray, List.set_cons_zero, List.set_cons_succ]
          refine wpAnyT_one (i := 8) (by kernel_rfl) rfl (fun K hK => ?_)
          go_simp
          refine hK.out _ _ (fun h => absurd h (by decide)) ?_
          clear hK K
          try simp only [List.getElem_toArray, List.getElem_cons_zero, List.getElem_cons_succ, Act.put, List.setIfInBounds_toArray, List.set_cons_zero, List.set_cons_succ]
          refine wpAnyW_take (i := 9) (v := ?v9b) rfl (by kernel_rfl) (by kernel_rfl) (by kernel_rfl) (by kernel_rfl) (fun _ _ _ h => h) (Or.inl ⟨by rfl, ?hy9b⟩) ?rest9b
          case hy9b => (intro w' hSw; go_simp) <;> with_reducible rfl
          try simp only [List.getElem_toArray, List.getElem_cons_zero, List.getElem_cons_succ, Act.put, List.setIfInBounds_toArray, List.set_cons_zero, List.set_cons_succ]
          refine wpAnyT_done (by kernel_rfl) ?_ _
          refine NoPanic.normal ?_
          clear q0 q1
          have HS := Lib.hid hs3.sl
          have HBW := Lib.hid HBW
          have q0 := bg2.cell 0 (v := .int .i64 (n : Int)) rfl
          have q1 := bg2.cell 1 (v := .slice none 0 0) rfl
          have p0 := bG2.cell 0 (v := .int .i64 (n : Int)) rfl
          have p1 := bG2.cell 1 (v := .slice A3 1 c3) rfl
          clear d0 d1 z0 z1 bG
          clear hs3 bg2 bG2 BG0 hWc s3 hb3 S0 SD P0 P1
          go_wp2_with fail
          refine (Find_any (n : Int) A3 1 c3 [⟨7, 0, zeros n⟩] 1 0 false _ HS.out (Lib.hid rfl) (by decide) (Lib.hid (find_whole hr0 hr1 (by decide) (by rw [zeros_length])))).mono ?_
          rintro e w21 ⟨rfl, hb⟩
          have HBW := Lib.hid (HBW.out.trans hb)
          have q0 := hb.cell q0
          have q1 := hb.cell q1
          have p0 := hb.cell p0
          have p1 := hb.cell p1
          have HS := Lib.hid (HS.out.mono BlkR.mono hb)
          clear hb
          go_wp2_with fail
          refine (Fetch_any (n : Int) A3 1 c3 [⟨7, 0, zeros n⟩] ((n : Int) - 1) 0 7 true _ HS.out (Lib.hid rfl) (Lib.hid (by rw [fetch_whole hr0 hr1 (by decide) (by rw [zeros_length]) (by omega) (by omega), zeros_getD]))).mono ?_
          rintro e w22 ⟨rfl, hb⟩
          have HBW := Lib.hid (HBW.out.trans hb)
          have q0 := hb.cell q0
          have q1 := hb.cell q1
          have p0 := hb.cell p0
          have p1 := hb.cell p1
          have HS := Lib.hid (HS.out.mono BlkR.mono hb)
          clear hb
          go_wp2_with fail
          refine (Fetch_any (n : Int) A3 1 c3 [⟨7, 0, zeros n⟩] (n : Int) 0 0 false _ HS.out (Lib.hid rfl) (Lib.hid (fetch_whole_out hr0 hr1 (by decide) (by rw [zeros_length]) (Int.le_refl _)))).mono ?_
          rintro e w23 ⟨rfl, hb⟩
          have HBW := Lib.hid (HBW.out.trans hb)
          have q0 := hb.cell q0
          have q1 := hb.cell q1
          have p0 := hb.cell p0
          have p1 := hb.cell p1
          have HS := Lib.hid (HS.out.mono BlkR.mono hb)
          clear hb
          go_wp2_with fail
          refine (Left_any (n : Int) none 0 0 [] (n : Int) _ (Sl.nil _ _ _) (Lib.hid rfl) (Lib.hid (left_nil hr00 hr1))).mono ?_
          rintro e w24 ⟨rfl, hb⟩
          have HBW := Lib.hid (HBW.out.trans hb)
          have q0 := hb.cell q0
          have q1 := hb.cell q1
          have p0 := hb.cell p0
          have p1 := hb.cell p1
          have HS := Lib.hid (HS.out.mono BlkR.mono hb)
          clear hb
          go_wp2_with fail
          refine (Left_any (n : Int) A3 1 c3 [⟨7, 0, zeros n⟩] 0 _ HS.out (Lib.hid rfl) (Lib.hid (left_whole hr0 hr1 (by decide) (by rw [zeros_length])))).mono ?_
          rintro e w25 ⟨rfl, hb⟩
          have HBW := Lib.hid (HBW.out.trans hb)
          have q0 := hb.cell q0
          have q1 := hb.cell q1
          have p0 := hb.cell p0
          have p1 := hb.cell p1
          have HS := Lib.hid (HS.out.mono BlkR.mono hb)
          clear hb
          go_wp2_with fail
          go_ret
          exact ⟨by first | rfl | simp, HBW.out⟩
      · go_simp
        refine hK.out _ _ (fun _ => (SD.bel ((Bel.refl _).alloc _))) ?_
        clear hK K
        try simp only [List.getElem_toArray, List.getElem_cons_zero, List.getElem_cons_succ, Act.put, List.setIfInBounds_toArray, List.set_cons_zero, List.set_cons_succ]
        refine wpAnyT_one (i := 2) (by kernel_rfl) rfl (fun K hK => ?_)
        go_simp
        refine hK.out _ _ (fun _ => ((SD.bel ((Bel.refl _).alloc _)).bel ((Bel.refl _).alloc _))) ?_
        clear hK K
        try simp only [List.getElem_toArray, List.getElem_cons_zero, List.getElem_cons_succ, Act.put, List.setIfInBounds_toArray, List.set_cons_zero, List.set_cons_succ]
        refine wpAnyT_one (i := 3) (by kernel_rfl) rfl (fun K hK => ?_)
        go_simp
        go_at_call 11
        refine (Put_any (n : Int) none 0 0 [] 7 0 _ n n (zeros n) _ (Sl.nil _ _ _) (Lib.hid rfl) (by have := (made_sl hn4 (W.alloc (.cells #[.int .i64 0, .slice none 0 0] 26))).mono (IntR.mono _) ((Bel.refl _).drew); simpa using this) (Lib.hid (zeros_length n)) (Lib.hid (by decide)) (Lib.hid (by decide)) (n : Int) [⟨7, 0, zeros n⟩] 1 0 (Lib.hid (put_whole hr0 hr1 (by decide) (by rw [zeros_length]))) (Lib.hid rfl)).mono ?_
        rintro e w3 ⟨A3, c3, rfl, s3, hb3⟩
        have hWc : Bel W w3 := ((((Bel.refl W).alloc _).alloc _).drew).trans hb3
        have HBW := HB.trans hWc
        have BG0 := HBM.out.bel hWc
        have hsz3 := hb3.size
        have hgl := HBM.out.lt
        have bG : Blk w3 (W.heap.size) 26 #[.int .i64 0, .slice none 0 0] := by
          have := (((Blk.new W 26 #[.int .i64 0, .slice none 0 0]).alloc (.cells (u64s (zeros n)).toArray 40)).bel ((Bel.refl _).drew)).bel hb3
          simpa using this
        have d0 := bG.cell 0 (v := .int .i64 0) rfl
        have d1 := bG.cell 1 (v := .slice none 0 0) rfl
        have z0 := bG.frozen 0
        have z1 := bG.frozen 1
        have bG2 := (bG.set 0 (.int .i64 (n : Int))).set 1 (.slice A3 1 c3)
        have HBW := (HBW.setCell (p := ⟨W.heap.size, 0, none⟩) (by have := HB.size; simp only; omega) (.int .i64 (n : Int))).setCell (p := ⟨W.heap.size, 1, none⟩) (by have := HB.size; simp only; omega) (.slice A3 1 c3)
        have bg2 := (BG0.other (p := ⟨W.heap.size, 0, none⟩) (by simp only; omega) (.int .i64 (n : Int))).other (p := ⟨W.heap.size, 1, none⟩) (by simp only; omega) (.slice A3 1 c3)
        have hs3 := s3.abv (((Abv.refl _ w3).set (p := ⟨W.heap.size, 0, none⟩) (by simp; try omega) (.int .i64 (n : Int))).set (p := ⟨W.heap.size, 1, none⟩) (by simp; try omega) (.slice A3 1 c3))

        refine hK.out _ _ (fun h => absurd h (by decide)) ?_
        clear hK K
        try simp only [List.getElem_toArray, List.getElem_cons_zero, List.getElem_cons_succ, Act.put, List.setIfInBounds_toArray, List.set_cons_zero, List.set_cons_succ]
        refine wpAnyW_take (i := 4) (v := ?v4c) rfl (by kernel_rfl) (by kernel_rfl) (by kernel_rfl) (by kernel_rfl) (fun _ _ _ h => h) (Or.inl ⟨by rfl, ?hy4c⟩) ?rest4c
        case hy4c => (intro w' hSw; go_simp) <;> with_reducible rfl
        try simp only [List.getElem_toArray, List.getElem_cons_zero, List.getElem_cons_succ, Act.put, List.setIfInBounds_toArray, List.set_cons_zero, List.set_cons_succ]
        refine wpAnyW_take (i := 5) (v := ?v5c) rfl (by kernel_rfl) (by kernel_rfl) (by kernel_rfl) (by kernel_rfl) (fun _ _ _ h => h) (Or.inl ⟨by rfl, ?hy5c⟩) ?rest5c
        case hy5c => (intro w' hSw; go_simp) <;> with_reducible rfl
        try simp only [List.getElem_toArray, List.getElem_cons_zero, List.getElem_cons_succ, Act.put, List.setIfInBounds_toArray, List.set_cons_zero, List.set_cons_succ]
        refine wpAnyW_take (i := 6) (v := ?v6c) rfl (by kernel_rfl) (by kernel_rfl) (by kernel_rfl) (by kernel_rfl) (fun _ _ _ h => h) (Or.inl ⟨by rfl, ?hy6c⟩) ?rest6c
        case hy6c => (intro w' hSw; go_simp) <;> with_reducible rfl
        try simp only [List.getElem_toArray, List.getElem_cons_zero, List.getElem_cons_succ, Act.put, List.setIfInBounds_toArray, List.set_cons_zero, List.set_cons_succ]
        refine wpAnyT_one (i := 8) (by kernel_rfl) rfl (fun K hK => ?_)
        go_simp
        refine hK.out _ _ (fun h => absurd h (by decide)) ?_
        clear hK K
        try simp only [List.getElem_toArray, List.getElem_cons_zero, List.getElem_cons_succ, Act.put, List.setIfInBounds_toArray, List.set_cons_zero, List.set_cons_succ]
        refine wpAnyW_take (i := 9) (v := ?v9c) rfl (by kernel_rfl) (by kernel_rfl) (by kernel_rfl) (by kernel_rfl) (fun _ _ _ h => h) (Or.inl ⟨by rfl, ?hy9c⟩) ?rest9c
        case hy9c => (intro w' hSw; go_simp) <;> with_reducible rfl
        try simp only [List.getElem_toArray, List.getElem_cons_zero, List.getElem_cons_succ, Act.put, List.setIfInBounds_toArray, List.set_cons_zero, List.set_cons_succ]
        refine wpAnyT_done (by kernel_rfl) ?_ _
        refine NoPanic.normal ?_
        clear q0 q1
        have HS := Lib.hid hs3.sl
        have HBW := Lib.hid HBW
        have q0 := bg2.cell 0 (v := .int .i64 (n : Int)) rfl
        have q1 := bg2.cell 1 (v := .slice none 0 0) rfl
        have p0 := bG2.cell 0 (v := .int .i64 (n : Int)) rfl
        have p1 := bG2.cell 1 (v := .slice A3 1 c3) rfl
        clear d0 d1 z0 z1 bG
        clear hs3 bg2 bG2 BG0 hWc s3 hb3 S0 SD P0 P1
        go_wp2_with fail
        refine (Find_any (n : Int) A3 1 c3 [⟨7, 0, zeros n⟩] 1 0 false _ HS.out (Lib.hid rfl) (by decide) (Lib.hid (find_whole hr0 hr1 (by decide) (by rw [zeros_length])))).mono ?_
        rintro e w21 ⟨rfl, hb⟩
        have HBW := Lib.hid (HBW.out.trans hb)
        have q0 := hb.cell q0
        have q1 := hb.cell q1
        have p0 := hb.cell p0
        have p1 := hb.cell p1
        have HS := Lib.hid (HS.out.mono BlkR.mono hb)
        clear hb
        go_wp2_with fail
        refine (Fetch_any (n : Int) A3 1 c3 [⟨7, 0, zeros n⟩] ((n : Int) - 1) 0 7 true _ HS.out (Lib.hid rfl) (Lib.hid (by rw [fetch_whole hr0 hr1 (by decide) (by rw [zeros_length]) (by omega) (by omega), zeros_getD]))).mono ?_
        rintro e w22 ⟨rfl, hb⟩
        have HBW := Lib.hid (HBW.out.trans hb)
        have q0 := hb.cell q0
        have q1 := hb.cell q1
        have p0 := hb.cell p0
        have p1 := hb.cell p1
        have HS := Lib.hid (HS.out.mono BlkR.mono hb)
        clear hb
        go_wp2_with fail
        refine (Fetch_any (n : Int) A3 1 c3 [⟨7, 0, zeros n⟩] (n : Int) 0 0 false _ HS.out (Lib.hid rfl) (Lib.hid (fetch_whole_out hr0 hr1 (by decide) (by rw [zeros_length]) (Int.le_refl _)))).mono ?_
        rintro e w23 ⟨rfl, hb⟩
        have HBW := Lib.hid (HBW.out.trans hb)
        have q0 := hb.cell q0
        have q1 := hb.cell q1
        have p0 := hb.cell p0
        have p1 := hb.cell p1
        have HS := Lib.hid (HS.out.mono BlkR.mono hb)
        clear hb
        go_wp2_with fail
        refine (Left_any (n : Int) none 0 0 [] (n : Int) _ (Sl.nil _ _ _) (Lib.hid rfl) (Lib.hid (left_nil hr00 hr1))).mono ?_
        rintro e w24 ⟨rfl, hb⟩
        have HBW := Lib.hid (HBW.out.trans hb)
        have q0 := hb.cell q0
        have q1 := hb.cell q1
        have p0 := hb.cell p0
        have p1 := hb.cell p1
        have HS := Lib.hid (HS.out.mono BlkR.mono hb)
        clear hb
        go_wp2_with fail
        refine (Left_any (n : Int) A3 1 c3 [⟨7, 0, zeros n⟩] 0 _ HS.out (Lib.hid rfl) (Lib.hid (left_whole hr0 hr1 (by decide) (by rw [zeros_length])))).mono ?_
        rintro e w25 ⟨rfl, hb⟩
        have HBW := Lib.hid (HBW.out.trans hb)
        have q0 := hb.cell q0
        have q1 := hb.cell q1
        have p0 := hb.cell p0
        have p1 := hb.cell p1
        have HS := Lib.hid (HS.out.mono BlkR.mono hb)
        clear hb
        go_wp2_with fail
        go_ret
        exact ⟨by first | rfl | simp, HBW.out⟩
  · have hC : newC room = 0 := if_neg hroom
    have hE : newE room = 1 := if_neg hroom
    have hrange : room < 0 ∨ 1024 < room := by
      by_cases h : 0 ≤ room ∧ room ≤ 1024
      · exact absurd (decide_eq_true h) hroom
      · omega
    clear hroom
    have key : ∀ b : Bool, (decide (room < 0) || decide (1024 < room)) = true := fun _ => by
      rcases hrange with h | h <;> simp [h]
    by_cases hneg : room < 0
    · clear key hrange
      go_enter Try.func5, Try.ntmps5
      go_wp2_with fail
      refine (awake13 _).mono ?_
      rintro e w1 ⟨rfl, hb1⟩
      go_wp2_with fail
      refine (New_any room _).mono ?_
      rintro e w2 ⟨rfl, hb2⟩
      rw [hC, hE]
      have HB2 := hb1.trans hb2
      have q0 := cell_fresh w2 #[.int .i64 0, .slice none 0 0] 26 0 (.int .i64 0) rfl
      go_wp2_with fail
      go_ret
      exact ⟨by first | rfl | simp, HB2.alloc _⟩
    · have hgt : 1024 < room := by omega
      have hneg' : ¬ room < 0 := hneg
      clear key hrange
      go_enter Try.func5, Try.ntmps5
      go_wp2_with fail
      refine (awake13 _).mono ?_
      rintro e w1 ⟨rfl, hb1⟩
      go_wp2_with fail
      refine (New_any room _).mono ?_
      rintro e w2 ⟨rfl, hb2⟩
      rw [hC, hE]
      have HB2 := hb1.trans hb2
      have q0 := cell_fresh w2 #[.int .i64 0, .slice none 0 0] 26 0 (.int .i64 0) rfl
      go_wp2_with fail
      go_ret
      exact ⟨by first | rfl | simp, HB2.alloc _⟩
end Go.Proofs.Ytegdnmlpoglfeaa
