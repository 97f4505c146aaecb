/- verify's jump: the closure that goes one way. verify's jump. All steps of the verifier by their contracts; verify.Shapes and verify.Verify without any condition on the steps. -/
import Derived.Test.YtebdnobgdimdoaaGreatGL
import Derived.Test.YtebdnobgdimdoaaGreatGF
import Derived.Test.YtebdnobgdimdoaaGreatGK
set_option linter.unusedVariables false
set_option linter.unusedSimpArgs false
namespace Go.Proofs.YtebdnobgdimdoaaGreat
open Go.RowKit
theorem cutS_ok (c : Int) {own b : Bd} (h : bdOk own) (k : bdOk b) {p q : Nat} {bb : Bool} (e : cutS c own.1 own.2 b.1 b.2 = (p, q, bb)) : bb = true → bdOk (p, q) := by
  obtain ⟨h1, h2⟩ := h
  obtain ⟨k1, k2⟩ := k
  rintro rfl
  unfold cutS nmin nmax at e
  repeat' split at e
  all_goals
    (simp only [Prod.mk.injEq, Bool.false_eq_true, and_false, and_true] at e) <;> (obtain ⟨rfl, rfl⟩ := e; constructor <;> first | omega | (dsimp only; omega))
set_option maxHeartbeats 4000000 in
set_option maxRecDepth 100000 in
theorem way_any (v : VE) (N : Nat) (W : World) (k : Nat) (safe : Bool) (ins : InsD) (h : Wk v N W k safe ins) (cond : Int) (j : Nat) (own b : Bd) (hown : bdOk own) (hbb : bdOk b) (s : ShD) (hs : shOk s) (dst : Int) (g5 g6 gw g4 gi : Nat) (C5 : W.cell? ⟨g5, 0, none⟩ = some (cV own)) (C6 : W.cell? ⟨g6, 0, none⟩ = some (cV b)) (BW : Bk W gw 111 #[.pointer (some ⟨v.g, 0, none⟩)]) (B4 : Bk W g4 69 (shC s)) (II : Array Value) (BI : Bk W gi 95 II) (hII : II[2]? = some (.int .i64 dst)) (n1 : gw ≠ v.g ∧ gw ≠ v.Bi ∧ gw ≠ v.Bs) (n2 : g4 ≠ v.g ∧ g4 ≠ v.Bi ∧ g4 ≠ v.Bs) (n3 : gi ≠ v.g ∧ gi ≠ v.Bi ∧ gi ≠ v.Bs) (r : Option InsD) (hr : Hid (vWay ins j s dst (cutS cond own.1 own.2 b.1 b.2) = r)) :
    Calls Tryz.prog 128 #[.int .i64 cond, .int .i64 j, .pointer (some ⟨g5, 0, none⟩), .pointer (some ⟨g6, 0, none⟩), .pointer (some ⟨gw, 0, none⟩), .pointer (some ⟨g4, 0, none⟩), .pointer (some ⟨gi, 0, none⟩)] W fun e w' => e = .returned (.tuple #[]) ∧ Wk v N w' k (safe && r.isSome) (if safe = true then r.getD ins else ins) ∧ Fr v N W w' := by
  have H := Lib.hid h
  clear h
  have hre := hr.out
  unfold vWay at hre
  obtain ⟨p, q, bb, hcut⟩ : ∃ p q bb, cutS cond own.1 own.2 b.1 b.2 = (p, q, bb) := ⟨_, _, _, rfl⟩
  rw [hcut] at hre
  dsimp only at hre
  have hpq0 := cutS_ok cond hown hbb hcut
  unfold cV at C5 C6
  go_enter Tryz.func128, Tryz.ntmps128
  go_wp2_with fail
  refine (cut_at cond own.1 own.2 b.1 b.2 p q bb _ hcut hown.1 hown.2 hbb.1 hbb.2).mono ?_
  rintro e w1 ⟨rfl, hb1⟩
  have H1 := Lib.hid (H.out.bel hb1)
  have CW1 := (BW.bel hb1).cell 0 (v := .pointer (some ⟨v.g, 0, none⟩)) rfl
  have S1 : Bk w1 gw 111 #[.pointer (some ⟨v.g, 0, none⟩)] ∧ Bk w1 g4 69 (shC s) ∧ Bk w1 gi 95 II := ⟨BW.bel hb1, B4.bel hb1, BI.bel hb1⟩
  clear C5 C6 BW B4 BI
  cases bb
  · rw [if_neg (by decide)] at hre
    subst hre
    have HW := H1
    have HF := Lib.hid (Fr.bel (v := v) hb1 H.out.nw)
    clear hb1 S1 CW1
    cases safe
    all_goals
      go_wp2_with fail
      go_end0
      exact ⟨rfl, by simpa using HW.out, HF.out⟩
  · have hpq := hpq0 rfl
    rw [if_pos rfl] at hre
    have c6 := H1.out.w.cell 6 (v := .bool safe) rfl
    cases safe
    · have HW := H1
      have HF := Lib.hid (Fr.bel (v := v) hb1 H.out.nw)
      clear hb1 S1
      go_wp2_with fail
      go_end0
      exact ⟨rfl, by simpa using HW.out, HF.out⟩
    · go_wp2_with fail
      clear c6
      have SD : Bk w1.drew gw 111 #[.pointer (some ⟨v.g, 0, none⟩)] ∧ Bk w1.drew g4 69 (shC s) ∧ Bk w1.drew gi 95 II := ⟨S1.1.bel (Bel.refl w1).drew, S1.2.1.bel (Bel.refl w1).drew, S1.2.2.bel (Bel.refl w1).drew⟩
      have L2 := fun (w' : World) (hb : Bk w' gw 111 #[.pointer (some ⟨v.g, 0, none⟩)] ∧ Bk w' g4 69 (shC s) ∧ Bk w' gi 95 II) => hb.2.1.load
      have MW := fun (w' : World) (hb : Bk w' gw 111 #[.pointer (some ⟨v.g, 0, none⟩)] ∧ Bk w' g4 69 (shC s) ∧ Bk w' gi 95 II) => hb.1.cell 0 (v := .pointer (some ⟨v.g, 0, none⟩)) rfl
      have MI := fun (w' : World) (hb : Bk w' gw 111 #[.pointer (some ⟨v.g, 0, none⟩)] ∧ Bk w' g4 69 (shC s) ∧ Bk w' gi 95 II) => hb.2.2.cell 2 hII
      clear CW1 S1
      refine wp_region_T (fun w' => Bk w' gw 111 #[.pointer (some ⟨v.g, 0, none⟩)] ∧ Bk w' g4 69 (shC s) ∧ Bk w' gi 95 II) (fun _ => false) (by kernel_rfl) ?_
      refine wpAnyU_take (i := 0) (v := ?v0) rfl (by kernel_rfl) (by kernel_rfl) (by kernel_rfl) (by kernel_rfl) (fun _ _ _ h => h) ?hy0 SD ?rest0
      case hy0 => first | (refine Or.inl ⟨by rfl, ?_⟩; (intro w' hSw; go_simp) <;> with_reducible rfl) | (refine Or.inr ⟨by rfl, ?_⟩; with_reducible rfl)
      try simp only [List.getElem_toArray, List.getElem_cons_zero, List.getElem_cons_succ, Act.put, List.setIfInBounds_toArray, List.set_cons_zero, List.set_cons_succ]
      refine wpAnyU_take (i := 1) (v := ?v1) rfl (by kernel_rfl) (by kernel_rfl) (by kernel_rfl) (by kernel_rfl) (fun _ _ _ h => h) ?hy1 SD ?rest1
      case hy1 => first | (refine Or.inl ⟨by rfl, ?_⟩; (intro w' hSw; go_simp) <;> with_reducible rfl) | (refine Or.inr ⟨by rfl, ?_⟩; with_reducible rfl)
      try simp only [List.getElem_toArray, List.getElem_cons_zero, List.getElem_cons_succ, Act.put, List.setIfInBounds_toArray, List.set_cons_zero, List.set_cons_succ]
      refine wpAnyU_take (i := 2) rfl (by kernel_rfl) (by kernel_rfl) (by kernel_rfl) (by kernel_rfl) (fun _ _ _ h => h) (yields_loadV (by rfl) rfl (by rfl) L2) SD ?rest2
      try simp only [List.getElem_toArray, List.getElem_cons_zero, List.getElem_cons_succ, Act.put, List.setIfInBounds_toArray, List.set_cons_zero, List.set_cons_succ]
      refine wpAnyU_take (i := 3) (v := ?v3) rfl (by kernel_rfl) (by kernel_rfl) (by kernel_rfl) (by kernel_rfl) (fun _ _ _ h => h) ?hy3 SD ?rest3
      case hy3 => first | (refine Or.inl ⟨by rfl, ?_⟩; (intro w' hSw; go_simp) <;> with_reducible rfl) | (refine Or.inr ⟨by rfl, ?_⟩; with_reducible rfl)
      try simp only [List.getElem_toArray, List.getElem_cons_zero, List.getElem_cons_succ, Act.put, List.setIfInBounds_toArray, List.set_cons_zero, List.set_cons_succ]
      refine wpAnyU_take (i := 4) (v := ?v4) rfl (by kernel_rfl) (by kernel_rfl) (by kernel_rfl) (by kernel_rfl) (fun _ _ _ h => h) ?hy4 SD ?rest4
      case hy4 => first | (refine Or.inl ⟨by rfl, ?_⟩; (intro w' hSw; go_simp) <;> with_reducible rfl) | (refine Or.inr ⟨by rfl, ?_⟩; with_reducible rfl)
      try simp only [List.getElem_toArray, List.getElem_cons_zero, List.getElem_cons_succ, Act.put, List.setIfInBounds_toArray, List.set_cons_zero, List.set_cons_succ]
      refine wpAnyU_take (i := 5) (v := ?v5) rfl (by kernel_rfl) (by kernel_rfl) (by kernel_rfl) (by kernel_rfl) (fun _ _ _ h => h) ?hy5 SD ?rest5
      case hy5 => first | (refine Or.inl ⟨by rfl, ?_⟩; (intro w' hSw; go_simp) <;> with_reducible rfl) | (refine Or.inr ⟨by rfl, ?_⟩; with_reducible rfl)
      try simp only [List.getElem_toArray, List.getElem_cons_zero, List.getElem_cons_succ, Act.put, List.setIfInBounds_toArray, List.set_cons_zero, List.set_cons_succ]
      refine wpAnyT_one (i := 6) (by kernel_rfl) rfl (fun K hK => ?_)
      go_simp
      go_at_call 121
      refine (shput_any s (shPut s dst (p, q)) hs dst (p, q) hpq (Lib.hid rfl) _).mono ?_
      rintro en w5 ⟨rfl, hb5⟩
      have S5 : Bk w5 gw 111 #[.pointer (some ⟨v.g, 0, none⟩)] ∧ Bk w5 g4 69 (shC s) ∧ Bk w5 gi 95 II := ⟨SD.1.bel hb5, SD.2.1.bel hb5, SD.2.2.bel hb5⟩
      have HB5 := Lib.hid ((hb1.drew).trans hb5)
      dsimp only
      refine hK.out _ _ (fun _ => S5) ?_
      clear hK K
      try simp only [List.getElem_toArray, List.getElem_cons_zero, List.getElem_cons_succ, Act.put, List.setIfInBounds_toArray, List.set_cons_zero, List.set_cons_succ]
      refine wpAnyT_one (i := 7) (by kernel_rfl) rfl (fun K hK => ?_)
      go_simp
      go_at_call 47
      refine (wto_any v N _ k true ins (H.out.bel HB5.out) j (shPut s dst (p, q)) (shPut_ok hs hpq) r (Lib.hid hre)).mono ?_
      rintro en w6 ⟨rfl, hw6, hf6⟩
      have HW := Lib.hid hw6
      have S6 : Bk w6 gw 111 #[.pointer (some ⟨v.g, 0, none⟩)] ∧ Bk w6 g4 69 (shC s) ∧ Bk w6 gi 95 II := ⟨hf6.bk S5.1 n1.1 n1.2.1 n1.2.2, hf6.bk S5.2.1 n2.1 n2.2.1 n2.2.2, hf6.bk S5.2.2 n3.1 n3.2.1 n3.2.2⟩
      have HF := Lib.hid ((Fr.bel HB5.out H.out.nw).trans hf6)
      dsimp only
      refine hK.out _ _ (fun _ => S6) ?_
      clear hK K
      try simp only [List.getElem_toArray, List.getElem_cons_zero, List.getElem_cons_succ, Act.put, List.setIfInBounds_toArray, List.set_cons_zero, List.set_cons_succ]
      refine wpAnyT_done (by kernel_rfl) ?_ _
      refine NoPanic.normal ?_
      clear SD MW MI L2
      go_wp2_with fail
      go_end0
      exact ⟨rfl, by simpa using HW.out, HF.out⟩
end Go.Proofs.YtebdnobgdimdoaaGreat
set_option linter.unusedVariables false
set_option linter.unusedSimpArgs false
namespace Go.Proofs.YtebdnobgdimdoaaGreat
open Go.RowKit
theorem minsertD (w : World) (E : Array MapEntry) (n : Nat) (a b : Int) (hf : Instr.findNow (.int .i64) (.int .i64 a) E.toList 0 = some none) : (Instr.mapUpdate 202 (.map (some w.heap.size)) (.int .i64 a) (.int .i64 b)).run Tryz.prog (w.alloc (.map E n)).drew = .ok () (w.alloc (.map (E.push { key := .int .i64 a, val := .int .i64 b, born := n }) (n + 1))).drew := minsert w.drew E n a b hf
theorem findNow_idx (k : Int) : ∀ (l : List MapEntry) (i : Nat) (o : Option (Nat × Value)) (x : MapEntry), Instr.findNow (.int .i64) (.int .i64 k) l i = some o → Instr.findNow (.int .i64) (.int .i64 k) (l ++ [x]) i = (match o with
    | some r => some (some r)
    | none => Instr.findNow (.int .i64) (.int .i64 k) [x] (i + l.length))
  | [], i, o, x, h => by
    simp only [Instr.findNow, Option.some.injEq] at h
    subst h
    rfl
  | e :: l, i, o, x, h => by
    rw [List.cons_append]
    unfold Instr.findNow at h ⊢
    cases hs : Instr.sameNow (.int .i64) (.int .i64 k) e.key with
    | none => rw [hs] at h; cases h
    | some b =>
      rw [hs] at h
      cases b with
      | true =>
        simp only [Option.some.injEq] at h
        subst h
        rfl
      | false =>
        simp only at h ⊢
        rw [findNow_idx k l (i + 1) o x h]
        cases o with
        | some r => rfl
        | none => simp only [List.length_cons]; rw [show i + 1 + l.length = i + (l.length + 1) by omega]; rfl
theorem findNow_push_new {E : Array MapEntry} (a : Int) (b : Int) (n : Nat) (h : Instr.findNow (.int .i64) (.int .i64 a) E.toList 0 = some none) : ∃ j, Instr.findNow (.int .i64) (.int .i64 a) (E.push { key := .int .i64 a, val := .int .i64 b, born := n }).toList 0 = some (some (j, .int .i64 b)) := by
  rw [Array.toList_push, findNow_idx a _ _ _ _ h]
  refine ⟨0 + E.toList.length, ?_⟩
  simp [Instr.findNow, Instr.sameNow]
theorem findNow_push_none {E : Array MapEntry} {a c : Int} (hac : (a == c) = false) (b : Int) (n : Nat) (h : Instr.findNow (.int .i64) (.int .i64 a) E.toList 0 = some none) : Instr.findNow (.int .i64) (.int .i64 a) (E.push { key := .int .i64 c, val := .int .i64 b, born := n }).toList 0 = some none := by
  rw [Array.toList_push, findNow_idx a _ _ _ _ h]
  simp [Instr.findNow, Instr.sameNow, hac]
theorem findNow_push_some {E : Array MapEntry} {a : Int} {j : Nat} {v : Value} (b : Int) (n : Nat) (c : Int) (h : Instr.findNow (.int .i64) (.int .i64 a) E.toList 0 = some (some (j, v))) : Instr.findNow (.int .i64) (.int .i64 a) (E.push { key := .int .i64 c, val := .int .i64 b, born := n }).toList 0 = some (some (j, v)) := by
  rw [Array.toList_push, findNow_idx a _ _ _ _ h]
set_option maxHeartbeats 4000000 in
set_option maxRecDepth 100000 in
theorem jump_any (p : List FnD) (ls : List SchD) (v : VE) (N : Nat) (W : World) (k : Nat) (ins : InsD) (h : Wk v N W k true ins) (hk : k < ins.length) (s : ShD) (hsk : Hid (sh0 ins[k] = s)) (op fn dst src : Int) (reg : Bool) (off imm : Int) (him : U32 imm) (hm : Hid (mayB op fn dst src reg off imm = true)) (hop : op = 1) (r : Option InsD) (hr : Hid (vStep p v.fn ls k ⟨op, fn, dst, src, reg, off, imm⟩ s ins = r)) :
    Calls Tryz.prog 83 #[.pointer (some ⟨v.g, 0, none⟩), .agg #[.int .i64 op, .int .i64 fn, .int .i64 dst, .int .i64 src, .bool reg, .int .i64 off, .int .u32 imm]] W fun e w' => e = .returned (.tuple #[]) ∧ (∃ ins', Wk v N w' k r.isSome ins' ∧ (∀ x, r = some x → ins' = x)) ∧ Fr v N W w' := by
  subst hop
  have hs : shOk s := by
    rw [← hsk.out]
    cases e : ins[k] with
    | none => intro i b hb; cases hb
    | some u => exact h.ok _ (List.getElem_mem hk) u e
  have hre := hr.out
  unfold vStep at hre
  have hmp := of_decide_eq_true hm.out
  obtain ⟨-, ⟨hd0, hd1⟩, ⟨hs0, hs1⟩, ⟨hf0, hf1⟩, ⟨ho0, ho1⟩, -⟩ := hmp
  have ho2 : off ≤ 65535 := by split at ho1 <;> omega
  have H := Lib.hid (h.bel (((Bel.refl W).alloc (.cells #[.pointer (some ⟨v.g, 0, none⟩)] 111)).alloc (.cells #[.int .i64 1, .int .i64 fn, .int .i64 dst, .int .i64 src, .bool reg, .int .i64 off, .int .u32 imm] 95)))
  have HF := Lib.hid (Fr.bel (v := v) (((Bel.refl W).alloc (.cells #[.pointer (some ⟨v.g, 0, none⟩)] 111)).alloc (.cells #[.int .i64 1, .int .i64 fn, .int .i64 dst, .int .i64 src, .bool reg, .int .i64 off, .int .u32 imm] 95)) h.nw)
  have B0 := (Bk.new W 111 #[.pointer (some ⟨v.g, 0, none⟩)]).alloc (.cells #[.int .i64 1, .int .i64 fn, .int .i64 dst, .int .i64 src, .bool reg, .int .i64 off, .int .u32 imm] 95)
  have B1 := Bk.new (W.alloc (.cells #[.pointer (some ⟨v.g, 0, none⟩)] 111)) 95 #[.int .i64 1, .int .i64 fn, .int .i64 dst, .int .i64 src, .bool reg, .int .i64 off, .int .u32 imm]
  rw [World.size_alloc] at B1
  have SZ : ((W.alloc (.cells #[.pointer (some ⟨v.g, 0, none⟩)] 111)).alloc (.cells #[.int .i64 1, .int .i64 fn, .int .i64 dst, .int .i64 src, .bool reg, .int .i64 off, .int .u32 imm] 95)).heap.size = W.heap.size + 2 := by rw [World.size_alloc, World.size_alloc]
  have g1 := h.w.lt
  have g2 := h.i.lt
  have g3 := h.s.lt
  clear h hr
  rw [if_neg (by show ¬ ((1 : Int) = 0); decide)] at hre
  rw [if_pos rfl] at hre
  obtain ⟨q, rfl⟩ : ∃ q : Nat, off = q := ⟨off.toNat, by omega⟩
  rw [show ((q : Int)).toNat = q by omega] at hre
  have hk64 : k < 64 := by have := H.out.len; have := H.out.small; omega
  have et : IntKind.i64.wrap ((k : Int) + q) = k + q := wrap_i64 (by omega) (by omega)
  have et1 : IntKind.i64.wrap ((k : Int) + q + 1) = k + q + 1 := wrap_i64 (by omega) (by omega)
  have ek : IntKind.i64.wrap ((k : Int) + 1) = k + 1 := wrap_i64 (by omega) (by omega)
  have hf4 : fn ≤ 4 := by
    rw [if_neg (by decide)] at hf1
    split at hf1 <;> omega
  have c1 := B1.cell 1 (v := .int .i64 fn) rfl
  clear hs0 hs1 ho1 ho0 ho2 hf1
  by_cases h0 : fn = 0
  · subst h0
    rw [if_pos rfl] at hre
    go_enter Tryz.func83, Tryz.ntmps83
    go_wp2_with fail
    generalize (W.alloc (.cells #[.pointer (some ⟨v.g, 0, none⟩)] 111)).alloc (.cells #[.int .i64 1, .int .i64 0, .int .i64 dst, .int .i64 src, .bool reg, .int .i64 q, .int .u32 imm] 95) = W0 at *
    obtain ⟨gr, hgr⟩ : ∃ gr, W.heap.size = gr := ⟨_, rfl⟩
    rw [hgr] at B0 B1 g1 g2 g3 SZ
    simp only [hgr]
    have HGR := Lib.hid hgr
    clear hgr
    have n1 : gr ≠ v.g ∧ gr ≠ v.Bi ∧ gr ≠ v.Bs := ⟨by omega, by omega, by omega⟩
    have n2 : gr + 1 ≠ v.g ∧ gr + 1 ≠ v.Bi ∧ gr + 1 ≠ v.Bs := ⟨by omega, by omega, by omega⟩
    go_wp2_with fail
    have HD := H.out.bel (Bel.refl W0).drew
    have FD := HF.out.trans (Fr.bel (Bel.refl W0).drew H.out.nw)
    have SE : Bk W0.drew gr 111 #[.pointer (some ⟨v.g, 0, none⟩)] ∧ Bk W0.drew (gr + 1) 95 #[.int .i64 1, .int .i64 0, .int .i64 dst, .int .i64 src, .bool reg, .int .i64 q, .int .u32 imm] ∧ (∃ sf, Bk W0.drew v.g 113 (v.cells k sf)) := ⟨B0.bel (Bel.refl W0).drew, B1.bel (Bel.refl W0).drew, ⟨true, HD.w⟩⟩
    have PW := fun (w' : World) (hb : Bk w' gr 111 #[.pointer (some ⟨v.g, 0, none⟩)] ∧ Bk w' (gr + 1) 95 #[.int .i64 1, .int .i64 0, .int .i64 dst, .int .i64 src, .bool reg, .int .i64 q, .int .u32 imm] ∧ (∃ sf, Bk w' v.g 113 (v.cells k sf))) => hb.1.cell 0 (v := .pointer (some ⟨v.g, 0, none⟩)) rfl
    have P0 := fun (w' : World) (hb : Bk w' gr 111 #[.pointer (some ⟨v.g, 0, none⟩)] ∧ Bk w' (gr + 1) 95 #[.int .i64 1, .int .i64 0, .int .i64 dst, .int .i64 src, .bool reg, .int .i64 q, .int .u32 imm] ∧ (∃ sf, Bk w' v.g 113 (v.cells k sf))) => hb.2.1.cell 0 (v := .int .i64 1) rfl
    have P1 := fun (w' : World) (hb : Bk w' gr 111 #[.pointer (some ⟨v.g, 0, none⟩)] ∧ Bk w' (gr + 1) 95 #[.int .i64 1, .int .i64 0, .int .i64 dst, .int .i64 src, .bool reg, .int .i64 q, .int .u32 imm] ∧ (∃ sf, Bk w' v.g 113 (v.cells k sf))) => hb.2.1.cell 1 (v := .int .i64 0) rfl
    have P2 := fun (w' : World) (hb : Bk w' gr 111 #[.pointer (some ⟨v.g, 0, none⟩)] ∧ Bk w' (gr + 1) 95 #[.int .i64 1, .int .i64 0, .int .i64 dst, .int .i64 src, .bool reg, .int .i64 q, .int .u32 imm] ∧ (∃ sf, Bk w' v.g 113 (v.cells k sf))) => hb.2.1.cell 2 (v := .int .i64 dst) rfl
    have P3 := fun (w' : World) (hb : Bk w' gr 111 #[.pointer (some ⟨v.g, 0, none⟩)] ∧ Bk w' (gr + 1) 95 #[.int .i64 1, .int .i64 0, .int .i64 dst, .int .i64 src, .bool reg, .int .i64 q, .int .u32 imm] ∧ (∃ sf, Bk w' v.g 113 (v.cells k sf))) => hb.2.1.cell 3 (v := .int .i64 src) rfl
    have P4 := fun (w' : World) (hb : Bk w' gr 111 #[.pointer (some ⟨v.g, 0, none⟩)] ∧ Bk w' (gr + 1) 95 #[.int .i64 1, .int .i64 0, .int .i64 dst, .int .i64 src, .bool reg, .int .i64 q, .int .u32 imm] ∧ (∃ sf, Bk w' v.g 113 (v.cells k sf))) => hb.2.1.cell 4 (v := .bool reg) rfl
    have P5 := fun (w' : World) (hb : Bk w' gr 111 #[.pointer (some ⟨v.g, 0, none⟩)] ∧ Bk w' (gr + 1) 95 #[.int .i64 1, .int .i64 0, .int .i64 dst, .int .i64 src, .bool reg, .int .i64 q, .int .u32 imm] ∧ (∃ sf, Bk w' v.g 113 (v.cells k sf))) => hb.2.1.cell 5 (v := .int .i64 q) rfl
    have P6 := fun (w' : World) (hb : Bk w' gr 111 #[.pointer (some ⟨v.g, 0, none⟩)] ∧ Bk w' (gr + 1) 95 #[.int .i64 1, .int .i64 0, .int .i64 dst, .int .i64 src, .bool reg, .int .i64 q, .int .u32 imm] ∧ (∃ sf, Bk w' v.g 113 (v.cells k sf))) => hb.2.1.cell 6 (v := .int .u32 imm) rfl
    have M5 : ∀ (w' : World), (Bk w' gr 111 #[.pointer (some ⟨v.g, 0, none⟩)] ∧ Bk w' (gr + 1) 95 #[.int .i64 1, .int .i64 0, .int .i64 dst, .int .i64 src, .bool reg, .int .i64 q, .int .u32 imm] ∧ (∃ sf, Bk w' v.g 113 (v.cells k sf))) → w'.cell? ⟨v.g, 5, none⟩ = some (.int .i64 k) := fun w' hb => by
      obtain ⟨-, -, ⟨sf, hb⟩⟩ := hb
      exact hb.cell 5 rfl
    clear c1
    refine wp_region_T (fun w' => Bk w' gr 111 #[.pointer (some ⟨v.g, 0, none⟩)] ∧ Bk w' (gr + 1) 95 #[.int .i64 1, .int .i64 0, .int .i64 dst, .int .i64 src, .bool reg, .int .i64 q, .int .u32 imm] ∧ (∃ sf, Bk w' v.g 113 (v.cells k sf))) (fun _ => false) (by kernel_rfl) ?_
    refine wpAnyU_take (i := 0) (v := ?v0a) rfl (by kernel_rfl) (by kernel_rfl) (by kernel_rfl) (by kernel_rfl) (fun _ _ _ h => h) ?hy0a SE ?rest0a
    case hy0a => first | (refine Or.inl ⟨by rfl, ?_⟩; (intro w' hSw; go_simp) <;> with_reducible rfl) | (refine Or.inr ⟨by rfl, ?_⟩; with_reducible rfl)
    try simp only [List.getElem_toArray, List.getElem_cons_zero, List.getElem_cons_succ, Act.put, List.setIfInBounds_toArray, List.set_cons_zero, List.set_cons_succ]
    refine wpAnyU_take (i := 1) (v := ?v1a) rfl (by kernel_rfl) (by kernel_rfl) (by kernel_rfl) (by kernel_rfl) (fun _ _ _ h => h) ?hy1a SE ?rest1a
    case hy1a => first | (refine Or.inl ⟨by rfl, ?_⟩; (intro w' hSw; go_simp) <;> with_reducible rfl) | (refine Or.inr ⟨by rfl, ?_⟩; with_reducible rfl)
    try simp only [List.getElem_toArray, List.getElem_cons_zero, List.getElem_cons_succ, Act.put, List.setIfInBounds_toArray, List.set_cons_zero, List.set_cons_succ]
    refine wpAnyU_take (i := 2) (v := ?v2a) rfl (by kernel_rfl) (by kernel_rfl) (by kernel_rfl) (by kernel_rfl) (fun _ _ _ h => h) ?hy2a SE ?rest2a
    case hy2a => first | (refine Or.inl ⟨by rfl, ?_⟩; (intro w' hSw; go_simp) <;> with_reducible rfl) | (refine Or.inr ⟨by rfl, ?_⟩; with_reducible rfl)
    try simp only [List.getElem_toArray, List.getElem_cons_zero, List.getElem_cons_succ, Act.put, List.setIfInBounds_toArray, List.set_cons_zero, List.set_cons_succ]
    refine wpAnyU_take (i := 3) (v := ?v3a) rfl (by kernel_rfl) (by kernel_rfl) (by kernel_rfl) (by kernel_rfl) (fun _ _ _ h => h) ?hy3a SE ?rest3a
    case hy3a => first | (refine Or.inl ⟨by rfl, ?_⟩; (intro w' hSw; go_simp) <;> with_reducible rfl) | (refine Or.inr ⟨by rfl, ?_⟩; with_reducible rfl)
    try simp only [List.getElem_toArray, List.getElem_cons_zero, List.getElem_cons_succ, Act.put, List.setIfInBounds_toArray, List.set_cons_zero, List.set_cons_succ]
    refine wpAnyU_take (i := 4) (v := ?v4a) rfl (by kernel_rfl) (by kernel_rfl) (by kernel_rfl) (by kernel_rfl) (fun _ _ _ h => h) ?hy4a SE ?rest4a
    case hy4a => first | (refine Or.inl ⟨by rfl, ?_⟩; (intro w' hSw; go_simp) <;> with_reducible rfl) | (refine Or.inr ⟨by rfl, ?_⟩; with_reducible rfl)
    try simp only [List.getElem_toArray, List.getElem_cons_zero, List.getElem_cons_succ, Act.put, List.setIfInBounds_toArray, List.set_cons_zero, List.set_cons_succ]
    refine wpAnyU_take (i := 5) (v := ?v5a) rfl (by kernel_rfl) (by kernel_rfl) (by kernel_rfl) (by kernel_rfl) (fun _ _ _ h => h) ?hy5a SE ?rest5a
    case hy5a => first | (refine Or.inl ⟨by rfl, ?_⟩; (intro w' hSw; go_simp) <;> with_reducible rfl) | (refine Or.inr ⟨by rfl, ?_⟩; with_reducible rfl)
    try simp only [List.getElem_toArray, List.getElem_cons_zero, List.getElem_cons_succ, Act.put, List.setIfInBounds_toArray, List.set_cons_zero, List.set_cons_succ]
    refine wpAnyU_take (i := 6) (v := ?v6a) rfl (by kernel_rfl) (by kernel_rfl) (by kernel_rfl) (by kernel_rfl) (fun _ _ _ h => h) ?hy6a SE ?rest6a
    case hy6a => first | (refine Or.inl ⟨by rfl, ?_⟩; (intro w' hSw; go_simp) <;> with_reducible rfl) | (refine Or.inr ⟨by rfl, ?_⟩; with_reducible rfl)
    try simp only [List.getElem_toArray, List.getElem_cons_zero, List.getElem_cons_succ, Act.put, List.setIfInBounds_toArray, List.set_cons_zero, List.set_cons_succ]
    refine wpAnyU_take (i := 7) (v := ?v7a) rfl (by kernel_rfl) (by kernel_rfl) (by kernel_rfl) (by kernel_rfl) (fun _ _ _ h => h) ?hy7a SE ?rest7a
    case hy7a => first | (refine Or.inl ⟨by rfl, ?_⟩; (intro w' hSw; go_simp) <;> with_reducible rfl) | (refine Or.inr ⟨by rfl, ?_⟩; with_reducible rfl)
    try simp only [List.getElem_toArray, List.getElem_cons_zero, List.getElem_cons_succ, Act.put, List.setIfInBounds_toArray, List.set_cons_zero, List.set_cons_succ]
    refine wpAnyU_take (i := 8) (v := ?v8a) rfl (by kernel_rfl) (by kernel_rfl) (by kernel_rfl) (by kernel_rfl) (fun _ _ _ h => h) ?hy8a SE ?rest8a
    case hy8a => first | (refine Or.inl ⟨by rfl, ?_⟩; (intro w' hSw; go_simp) <;> with_reducible rfl) | (refine Or.inr ⟨by rfl, ?_⟩; with_reducible rfl)
    try simp only [List.getElem_toArray, List.getElem_cons_zero, List.getElem_cons_succ, Act.put, List.setIfInBounds_toArray, List.set_cons_zero, List.set_cons_succ]
    refine wpAnyU_take (i := 9) (v := ?v9a) rfl (by kernel_rfl) (by kernel_rfl) (by kernel_rfl) (by kernel_rfl) (fun _ _ _ h => h) ?hy9a SE ?rest9a
    case hy9a => first | (refine Or.inl ⟨by rfl, ?_⟩; (intro w' hSw; go_simp) <;> with_reducible rfl) | (refine Or.inr ⟨by rfl, ?_⟩; with_reducible rfl)
    try simp only [List.getElem_toArray, List.getElem_cons_zero, List.getElem_cons_succ, Act.put, List.setIfInBounds_toArray, List.set_cons_zero, List.set_cons_succ]
    refine wpAnyT_one (i := 10) (by kernel_rfl) rfl (fun K hK => ?_)
    go_simp
    go_at_call 127
    refine (here_any v N _ k true ins HD hk s hsk).mono ?_
    rintro en w5 ⟨rfl, hb5⟩
    have S5 : Bk w5 gr 111 #[.pointer (some ⟨v.g, 0, none⟩)] ∧ Bk w5 (gr + 1) 95 #[.int .i64 1, .int .i64 0, .int .i64 dst, .int .i64 src, .bool reg, .int .i64 q, .int .u32 imm] ∧ (∃ sf, Bk w5 v.g 113 (v.cells k sf)) := ⟨SE.1.bel hb5, SE.2.1.bel hb5, ⟨true, (HD.bel hb5).w⟩⟩
    dsimp only
    refine hK.out _ _ (fun _ => S5) ?_
    clear hK K
    try simp only [List.getElem_toArray, List.getElem_cons_zero, List.getElem_cons_succ, Act.put, List.setIfInBounds_toArray, List.set_cons_zero, List.set_cons_succ]
    refine wpAnyT_one (i := 11) (by kernel_rfl) rfl (fun K hK => ?_)
    go_simp
    go_at_call 47
    refine (wto_any v N _ k true ins (HD.bel hb5) (k + q + 1) s hs r (Lib.hid hre)).mono ?_
    rintro en w6 ⟨rfl, hw6, hf6⟩
    have S6 : Bk w6 gr 111 #[.pointer (some ⟨v.g, 0, none⟩)] ∧ Bk w6 (gr + 1) 95 #[.int .i64 1, .int .i64 0, .int .i64 dst, .int .i64 src, .bool reg, .int .i64 q, .int .u32 imm] ∧ (∃ sf, Bk w6 v.g 113 (v.cells k sf)) := ⟨hf6.bk S5.1 n1.1 n1.2.1 n1.2.2, hf6.bk S5.2.1 n2.1 n2.2.1 n2.2.2, ⟨_, hw6.w⟩⟩
    have HW := Lib.hid hw6
    have HE := Lib.hid ((FD.trans (Fr.bel hb5 HD.nw)).trans hf6)
    dsimp only
    refine hK.out _ _ (fun _ => S6) ?_
    clear hK K
    try simp only [List.getElem_toArray, List.getElem_cons_zero, List.getElem_cons_succ, Act.put, List.setIfInBounds_toArray, List.set_cons_zero, List.set_cons_succ]
    refine wpAnyT_done (by kernel_rfl) ?_ _
    refine NoPanic.normal ?_
    clear SE S5 S6 HD FD hw6 hf6 hb5 PW P0 P1 P2 P3 P4 P5 P6 M5
    go_wp2_with fail
    (try simp only [Exit.inBlock, Exit.then]); refine bodyPost_ret (results_none rfl _ _ _) rfl ?_
    have hw := HW.out
    cases r with
    | none => exact ⟨rfl, ⟨ins, by simpa using hw, fun y e => by cases e⟩, HE.out⟩
    | some y => exact ⟨rfl, ⟨y, by simpa using hw, fun z e => by cases e; rfl⟩, HE.out⟩
  · have e0 : (fn == 0) = false := by simp [h0]
    rw [if_neg h0] at hre
    obtain ⟨ow, hw⟩ : ∃ ow, Hid (shGet s dst = ow) := ⟨_, Lib.hid rfl⟩
    obtain ⟨o, ho⟩ : ∃ o, Hid (shWord s ⟨1, fn, dst, src, reg, q, imm⟩ = o) := ⟨_, Lib.hid rfl⟩
    have HRE := Lib.hid hre
    clear hre
    go_enter Tryz.func83, Tryz.ntmps83
    go_wp2_with fail
    generalize (W.alloc (.cells #[.pointer (some ⟨v.g, 0, none⟩)] 111)).alloc (.cells #[.int .i64 1, .int .i64 fn, .int .i64 dst, .int .i64 src, .bool reg, .int .i64 q, .int .u32 imm] 95) = W0 at *
    obtain ⟨gr, hgr⟩ : ∃ gr, W.heap.size = gr := ⟨_, rfl⟩
    rw [hgr] at B0 B1 g1 g2 g3 SZ
    simp only [hgr]
    have HGR := Lib.hid hgr
    clear hgr
    have n1 : gr ≠ v.g ∧ gr ≠ v.Bi ∧ gr ≠ v.Bs := ⟨by omega, by omega, by omega⟩
    have n2 : gr + 1 ≠ v.g ∧ gr + 1 ≠ v.Bi ∧ gr + 1 ≠ v.Bs := ⟨by omega, by omega, by omega⟩
    go_wp2_with fail
    have HD := H.out.bel (Bel.refl W0).drew
    have FD := HF.out.trans (Fr.bel (Bel.refl W0).drew H.out.nw)
    have SE : Bk W0.drew gr 111 #[.pointer (some ⟨v.g, 0, none⟩)] ∧ Bk W0.drew (gr + 1) 95 #[.int .i64 1, .int .i64 fn, .int .i64 dst, .int .i64 src, .bool reg, .int .i64 q, .int .u32 imm] ∧ (∃ sf, Bk W0.drew v.g 113 (v.cells k sf)) := ⟨B0.bel (Bel.refl W0).drew, B1.bel (Bel.refl W0).drew, ⟨true, HD.w⟩⟩
    have hz := shC_zero
    have PW := fun (w' : World) (hb : Bk w' gr 111 #[.pointer (some ⟨v.g, 0, none⟩)] ∧ Bk w' (gr + 1) 95 #[.int .i64 1, .int .i64 fn, .int .i64 dst, .int .i64 src, .bool reg, .int .i64 q, .int .u32 imm] ∧ (∃ sf, Bk w' v.g 113 (v.cells k sf))) => hb.1.cell 0 (v := .pointer (some ⟨v.g, 0, none⟩)) rfl
    have P0 := fun (w' : World) (hb : Bk w' gr 111 #[.pointer (some ⟨v.g, 0, none⟩)] ∧ Bk w' (gr + 1) 95 #[.int .i64 1, .int .i64 fn, .int .i64 dst, .int .i64 src, .bool reg, .int .i64 q, .int .u32 imm] ∧ (∃ sf, Bk w' v.g 113 (v.cells k sf))) => hb.2.1.cell 0 (v := .int .i64 1) rfl
    have P1 := fun (w' : World) (hb : Bk w' gr 111 #[.pointer (some ⟨v.g, 0, none⟩)] ∧ Bk w' (gr + 1) 95 #[.int .i64 1, .int .i64 fn, .int .i64 dst, .int .i64 src, .bool reg, .int .i64 q, .int .u32 imm] ∧ (∃ sf, Bk w' v.g 113 (v.cells k sf))) => hb.2.1.cell 1 (v := .int .i64 fn) rfl
    have P2 := fun (w' : World) (hb : Bk w' gr 111 #[.pointer (some ⟨v.g, 0, none⟩)] ∧ Bk w' (gr + 1) 95 #[.int .i64 1, .int .i64 fn, .int .i64 dst, .int .i64 src, .bool reg, .int .i64 q, .int .u32 imm] ∧ (∃ sf, Bk w' v.g 113 (v.cells k sf))) => hb.2.1.cell 2 (v := .int .i64 dst) rfl
    have P3 := fun (w' : World) (hb : Bk w' gr 111 #[.pointer (some ⟨v.g, 0, none⟩)] ∧ Bk w' (gr + 1) 95 #[.int .i64 1, .int .i64 fn, .int .i64 dst, .int .i64 src, .bool reg, .int .i64 q, .int .u32 imm] ∧ (∃ sf, Bk w' v.g 113 (v.cells k sf))) => hb.2.1.cell 3 (v := .int .i64 src) rfl
    have P4 := fun (w' : World) (hb : Bk w' gr 111 #[.pointer (some ⟨v.g, 0, none⟩)] ∧ Bk w' (gr + 1) 95 #[.int .i64 1, .int .i64 fn, .int .i64 dst, .int .i64 src, .bool reg, .int .i64 q, .int .u32 imm] ∧ (∃ sf, Bk w' v.g 113 (v.cells k sf))) => hb.2.1.cell 4 (v := .bool reg) rfl
    have P5 := fun (w' : World) (hb : Bk w' gr 111 #[.pointer (some ⟨v.g, 0, none⟩)] ∧ Bk w' (gr + 1) 95 #[.int .i64 1, .int .i64 fn, .int .i64 dst, .int .i64 src, .bool reg, .int .i64 q, .int .u32 imm] ∧ (∃ sf, Bk w' v.g 113 (v.cells k sf))) => hb.2.1.cell 5 (v := .int .i64 q) rfl
    have P6 := fun (w' : World) (hb : Bk w' gr 111 #[.pointer (some ⟨v.g, 0, none⟩)] ∧ Bk w' (gr + 1) 95 #[.int .i64 1, .int .i64 fn, .int .i64 dst, .int .i64 src, .bool reg, .int .i64 q, .int .u32 imm] ∧ (∃ sf, Bk w' v.g 113 (v.cells k sf))) => hb.2.1.cell 6 (v := .int .u32 imm) rfl
    have M5 : ∀ (w' : World), (Bk w' gr 111 #[.pointer (some ⟨v.g, 0, none⟩)] ∧ Bk w' (gr + 1) 95 #[.int .i64 1, .int .i64 fn, .int .i64 dst, .int .i64 src, .bool reg, .int .i64 q, .int .u32 imm] ∧ (∃ sf, Bk w' v.g 113 (v.cells k sf))) → w'.cell? ⟨v.g, 5, none⟩ = some (.int .i64 k) := fun w' hb => by
      obtain ⟨-, -, ⟨sf, hb⟩⟩ := hb
      exact hb.cell 5 rfl
    clear c1
    refine wp_region_T (fun w' => Bk w' gr 111 #[.pointer (some ⟨v.g, 0, none⟩)] ∧ Bk w' (gr + 1) 95 #[.int .i64 1, .int .i64 fn, .int .i64 dst, .int .i64 src, .bool reg, .int .i64 q, .int .u32 imm] ∧ (∃ sf, Bk w' v.g 113 (v.cells k sf))) (fun _ => false) (by kernel_rfl) ?_
    refine wpAnyU_take (i := 0) (v := ?v0b) rfl (by kernel_rfl) (by kernel_rfl) (by kernel_rfl) (by kernel_rfl) (fun _ _ _ h => h) ?hy0b SE ?rest0b
    case hy0b => first | (refine Or.inl ⟨by rfl, ?_⟩; (intro w' hSw; go_simp) <;> with_reducible rfl) | (refine Or.inr ⟨by rfl, ?_⟩; with_reducible rfl)
    try simp only [List.getElem_toArray, List.getElem_cons_zero, List.getElem_cons_succ, Act.put, List.setIfInBounds_toArray, List.set_cons_zero, List.set_cons_succ]
    refine wpAnyU_take (i := 2) (v := ?v2b) rfl (by kernel_rfl) (by kernel_rfl) (by kernel_rfl) (by kernel_rfl) (fun _ _ _ h => h) ?hy2b SE ?rest2b
    case hy2b => first | (refine Or.inl ⟨by rfl, ?_⟩; (intro w' hSw; go_simp) <;> with_reducible rfl) | (refine Or.inr ⟨by rfl, ?_⟩; with_reducible rfl)
    try simp only [List.getElem_toArray, List.getElem_cons_zero, List.getElem_cons_succ, Act.put, List.setIfInBounds_toArray, List.set_cons_zero, List.set_cons_succ]
    refine wpAnyU_take (i := 3) (v := ?v3b) rfl (by kernel_rfl) (by kernel_rfl) (by kernel_rfl) (by kernel_rfl) (fun _ _ _ h => h) ?hy3b SE ?rest3b
    case hy3b => first | (refine Or.inl ⟨by rfl, ?_⟩; (intro w' hSw; go_simp) <;> with_reducible rfl) | (refine Or.inr ⟨by rfl, ?_⟩; with_reducible rfl)
    try simp only [List.getElem_toArray, List.getElem_cons_zero, List.getElem_cons_succ, Act.put, List.setIfInBounds_toArray, List.set_cons_zero, List.set_cons_succ]
    refine wpAnyU_take (i := 4) (v := ?v4b) rfl (by kernel_rfl) (by kernel_rfl) (by kernel_rfl) (by kernel_rfl) (fun _ _ _ h => h) ?hy4b SE ?rest4b
    case hy4b => first | (refine Or.inl ⟨by rfl, ?_⟩; (intro w' hSw; go_simp) <;> with_reducible rfl) | (refine Or.inr ⟨by rfl, ?_⟩; with_reducible rfl)
    try simp only [List.getElem_toArray, List.getElem_cons_zero, List.getElem_cons_succ, Act.put, List.setIfInBounds_toArray, List.set_cons_zero, List.set_cons_succ]
    refine wpAnyU_take (i := 6) (v := ?v6b) rfl (by kernel_rfl) (by kernel_rfl) (by kernel_rfl) (by kernel_rfl) (fun _ _ _ h => h) ?hy6b SE ?rest6b
    case hy6b => first | (refine Or.inl ⟨by rfl, ?_⟩; (intro w' hSw; go_simp) <;> with_reducible rfl) | (refine Or.inr ⟨by rfl, ?_⟩; with_reducible rfl)
    try simp only [List.getElem_toArray, List.getElem_cons_zero, List.getElem_cons_succ, Act.put, List.setIfInBounds_toArray, List.set_cons_zero, List.set_cons_succ]
    refine wpAnyU_take (i := 7) (v := ?v7b) rfl (by kernel_rfl) (by kernel_rfl) (by kernel_rfl) (by kernel_rfl) (fun _ _ _ h => h) ?hy7b SE ?rest7b
    case hy7b => first | (refine Or.inl ⟨by rfl, ?_⟩; (intro w' hSw; go_simp) <;> with_reducible rfl) | (refine Or.inr ⟨by rfl, ?_⟩; with_reducible rfl)
    try simp only [List.getElem_toArray, List.getElem_cons_zero, List.getElem_cons_succ, Act.put, List.setIfInBounds_toArray, List.set_cons_zero, List.set_cons_succ]
    refine wpAnyT_listed (l' := #[true, false, true, true, true, false, true, true, false, false, false, false, false, false, false]) (by kernel_rfl) ?_
    refine wpAnyT_inv (fun l a w' => ∃ (b1 b5 b8 b9 b10 b11 : Bool) (x4 x5 x6 x24 x28 x31 : Value) (g4 g5 g6 : Nat), l = #[true, b1, true, true, true, b5, true, true, b8, b9, b10, b11, false, false, false] ∧ a = ({ tmps := #[.pointer (some ⟨v.g, 0, none⟩), .agg #[.int .i64 1, .int .i64 fn, .int .i64 dst, .int .i64 src, .bool reg, .int .i64 q, .int .u32 imm], .pointer (some ⟨gr, 0, none⟩), .pointer (some ⟨gr + 1, 0, none⟩), x4, x5, x6, undef, .pointer (some ⟨gr + 1, 1, none⟩), .int .i64 fn, .bool false, undef, undef, undef, undef, undef, undef, undef, undef, undef, undef, undef, undef, .pointer (some ⟨v.g, 0, none⟩), x24, .pointer (some ⟨v.g, 0, none⟩), .pointer (some ⟨gr + 1, 2, none⟩), .int .i64 dst, x28, .pointer (some ⟨v.g, 0, none⟩), .agg #[.int .i64 1, .int .i64 fn, .int .i64 dst, .int .i64 src, .bool reg, .int .i64 q, .int .u32 imm], x31, undef, undef, undef, undef, undef, undef, undef, undef, undef, undef, undef, undef, undef, undef, undef, undef, undef, undef, undef, undef, undef, undef, undef, undef, undef], defers := [] } : Act) ∧ ((b5 = true → b1 = true) ∧ (b8 = true → b5 = true)) ∧ Hid (Wk v N w' k ((!b5 || ow.isSome) && (!b8 || o.isSome)) ins ∧ Fr v N W w' ∧ (Bk w' gr 111 #[.pointer (some ⟨v.g, 0, none⟩)] ∧ Bk w' (gr + 1) 95 #[.int .i64 1, .int .i64 fn, .int .i64 dst, .int .i64 src, .bool reg, .int .i64 q, .int .u32 imm] ∧ (∃ sf, Bk w' v.g 113 (v.cells k sf))) ∧ gr + 2 ≤ w'.heap.size) ∧ Hid ((b1 = true → x24 = .agg (shC s)) ∧ (b5 = true → x28 = .complex .f64 (fl (rB ow).1) (fl (rB ow).2)) ∧ (b8 = true → x31 = .complex .f64 (fl (rB o).1) (fl (rB o).2))) ∧ Hid ((b9 = true → x4 = .pointer (some ⟨g4, 0, none⟩) ∧ gr + 2 ≤ g4 ∧ Bk w' g4 69 (shC (fun _ => none))) ∧ (b10 = true → x5 = .pointer (some ⟨g5, 0, none⟩) ∧ gr + 2 ≤ g5 ∧ Bk w' g5 66 #[.complex .f64 0 0]) ∧ (b11 = true → x6 = .pointer (some ⟨g6, 0, none⟩) ∧ gr + 2 ≤ g6 ∧ Bk w' g6 66 #[.complex .f64 0 0]) ∧ (b10 = true → b11 = true → g5 ≠ g6))) ?inv _ _ _ _ (Nat.le_of_ble_eq_true (by kernel_rfl)) ⟨false, false, false, false, false, false, undef, undef, undef, undef, undef, undef, 0, 0, 0, rfl, rfl, ⟨fun h => (by cases h), fun h => (by cases h)⟩, Lib.hid ⟨HD, FD, SE, (by rw [World.size_drew, SZ]; exact Nat.le_refl _)⟩, Lib.hid ⟨fun h => (by cases h), fun h => (by cases h), fun h => (by cases h)⟩, Lib.hid ⟨fun h => (by cases h), fun h => (by cases h), fun h => (by cases h), fun h => (by cases h)⟩⟩
    case inv =>
      clear HD FD SE PW P0 P1 P2 P3 P4 P5 P6 M5
      rintro fuel l a w1 hfu ⟨b1, b5, b8, b9, b10, b11, x4, x5, x6, x24, x28, x31, g4, g5, g6, rfl, rfl, ⟨HO1, HO2⟩, HF3, HV, HP⟩
      by_cases hall : (b1 && b5 && b8 && b9 && b10 && b11) = true
      · left
        simp only [Bool.and_eq_true] at hall
        obtain ⟨⟨⟨⟨⟨rfl, rfl⟩, rfl⟩, rfl⟩, rfl⟩, rfl⟩ := hall
        obtain ⟨f, rfl⟩ : ∃ f, fuel = f + 3 := ⟨fuel - 3, by have : undone #[true, true, true, true, true, true, true, true, true, true, true, true, false, false, false] = 3 := by kernel_rfl
                                                             omega⟩
        clear hfu HO1 HO2
        obtain ⟨rfl, hg4, D4⟩ := HP.out.1 rfl
        obtain ⟨rfl, hg5, D5⟩ := HP.out.2.1 rfl
        obtain ⟨rfl, hg6, D6⟩ := HP.out.2.2.1 rfl
        have h56 := HP.out.2.2.2 rfl rfl
        obtain rfl := HV.out.1 rfl
        obtain rfl := HV.out.2.1 rfl
        obtain rfl := HV.out.2.2 rfl
        have h45 : g4 ≠ g5 := fun e => by
          have h := D4.out; rw [e, D5.out] at h
          simp at h
        have h46 : g4 ≠ g6 := fun e => by
          have h := D4.out; rw [e, D6.out] at h
          simp at h
        clear HP HV
        have HST := D4.store (shC_size _) s
        have WR : ∀ g, g ≠ g4 → (w1.setRow g4 (shC s)).heap[g]? = w1.heap[g]? := fun g hg => setRow_other w1 g4 g (shC s) hg
        have E4 := D4.row (shC s)
        have E5 : Bk (w1.setRow g4 (shC s)) g5 66 #[.complex .f64 0 0] := ⟨(WR g5 (Ne.symm h45)).trans D5.out⟩
        have E6 : Bk (w1.setRow g4 (shC s)) g6 66 #[.complex .f64 0 0] := ⟨(WR g6 (Ne.symm h46)).trans D6.out⟩
        have q1 : gr ≠ g4 ∧ gr + 1 ≠ g4 ∧ gr ≠ g5 ∧ gr + 1 ≠ g5 ∧ gr ≠ g6 ∧ gr + 1 ≠ g6 := by omega
        have q2 : v.g ≠ g4 ∧ v.g ≠ g5 ∧ v.g ≠ g6 ∧ v.Bi ≠ g4 ∧ v.Bi ≠ g5 ∧ v.Bi ≠ g6 ∧ v.Bs ≠ g4 ∧ v.Bs ≠ g5 ∧ v.Bs ≠ g6 := by omega
        have T1 : Bk (w1.setRow g4 (shC s)) gr 111 #[.pointer (some ⟨v.g, 0, none⟩)] ∧ Bk (w1.setRow g4 (shC s)) (gr + 1) 95 #[.int .i64 1, .int .i64 fn, .int .i64 dst, .int .i64 src, .bool reg, .int .i64 q, .int .u32 imm] ∧ (∃ sf, Bk (w1.setRow g4 (shC s)) v.g 113 (v.cells k sf)) := ⟨⟨(WR _ q1.1).trans HF3.out.2.2.1.1.out⟩, ⟨(WR _ q1.2.1).trans HF3.out.2.2.1.2.1.out⟩, ⟨_, ⟨(WR _ q2.1).trans HF3.out.1.w.out⟩⟩⟩
        have c5 := E5.cell 0 (v := .complex .f64 0 0) rfl
        have f5 := E5.frozen 0
        have F5 := E5.set 0 (.complex .f64 (fl (rB ow).1) (fl (rB ow).2))
        have F6 := E6.other (p := ⟨g5, 0, none⟩) (Ne.symm h56) (.complex .f64 (fl (rB ow).1) (fl (rB ow).2))
        have F4 := E4.other (p := ⟨g5, 0, none⟩) h45 (.complex .f64 (fl (rB ow).1) (fl (rB ow).2))
        have T2 : Bk ((w1.setRow g4 (shC s)).setCell ⟨g5, 0, none⟩ (.complex .f64 (fl (rB ow).1) (fl (rB ow).2))) gr 111 #[.pointer (some ⟨v.g, 0, none⟩)] ∧ Bk ((w1.setRow g4 (shC s)).setCell ⟨g5, 0, none⟩ (.complex .f64 (fl (rB ow).1) (fl (rB ow).2))) (gr + 1) 95 #[.int .i64 1, .int .i64 fn, .int .i64 dst, .int .i64 src, .bool reg, .int .i64 q, .int .u32 imm] ∧ (∃ sf, Bk ((w1.setRow g4 (shC s)).setCell ⟨g5, 0, none⟩ (.complex .f64 (fl (rB ow).1) (fl (rB ow).2))) v.g 113 (v.cells k sf)) := ⟨T1.1.other (p := ⟨g5, 0, none⟩) q1.2.2.1 _, T1.2.1.other (p := ⟨g5, 0, none⟩) q1.2.2.2.1 _, (T1.2.2).imp fun sf h => h.other (p := ⟨g5, 0, none⟩) q2.2.1 _⟩
        have c6 := F6.cell 0 (v := .complex .f64 0 0) rfl
        have f6 := F6.frozen 0
        have hs5 : (store ⟨g5, 0, none⟩ (.complex .f64 (fl (rB ow).1) (fl (rB ow).2))).run Tryz.prog (w1.setRow g4 (shC s)) = .ok () ((w1.setRow g4 (shC s)).setCell ⟨g5, 0, none⟩ (.complex .f64 (fl (rB ow).1) (fl (rB ow).2))) := by rw [run_store _ _ _ _ _ rfl]; simp [c5, f5]
        have hs6 : (store ⟨g6, 0, none⟩ (.complex .f64 (fl (rB o).1) (fl (rB o).2))).run Tryz.prog ((w1.setRow g4 (shC s)).setCell ⟨g5, 0, none⟩ (.complex .f64 (fl (rB ow).1) (fl (rB ow).2))) = .ok () (((w1.setRow g4 (shC s)).setCell ⟨g5, 0, none⟩ (.complex .f64 (fl (rB ow).1) (fl (rB ow).2))).setCell ⟨g6, 0, none⟩ (.complex .f64 (fl (rB o).1) (fl (rB o).2))) := by rw [run_store _ _ _ _ _ rfl]; simp [c6, f6]
        have G6 := F6.set 0 (.complex .f64 (fl (rB o).1) (fl (rB o).2))
        have G5 := F5.other (p := ⟨g6, 0, none⟩) h56 (.complex .f64 (fl (rB o).1) (fl (rB o).2))
        have G4 := F4.other (p := ⟨g6, 0, none⟩) h46 (.complex .f64 (fl (rB o).1) (fl (rB o).2))
        have T3 : Bk (((w1.setRow g4 (shC s)).setCell ⟨g5, 0, none⟩ (.complex .f64 (fl (rB ow).1) (fl (rB ow).2))).setCell ⟨g6, 0, none⟩ (.complex .f64 (fl (rB o).1) (fl (rB o).2))) gr 111 #[.pointer (some ⟨v.g, 0, none⟩)] ∧ Bk (((w1.setRow g4 (shC s)).setCell ⟨g5, 0, none⟩ (.complex .f64 (fl (rB ow).1) (fl (rB ow).2))).setCell ⟨g6, 0, none⟩ (.complex .f64 (fl (rB o).1) (fl (rB o).2))) (gr + 1) 95 #[.int .i64 1, .int .i64 fn, .int .i64 dst, .int .i64 src, .bool reg, .int .i64 q, .int .u32 imm] ∧ (∃ sf, Bk (((w1.setRow g4 (shC s)).setCell ⟨g5, 0, none⟩ (.complex .f64 (fl (rB ow).1) (fl (rB ow).2))).setCell ⟨g6, 0, none⟩ (.complex .f64 (fl (rB o).1) (fl (rB o).2))) v.g 113 (v.cells k sf)) := ⟨T2.1.other (p := ⟨g6, 0, none⟩) q1.2.2.2.2.1 _, T2.2.1.other (p := ⟨g6, 0, none⟩) q1.2.2.2.2.2 _, (T2.2.2).imp fun sf h => h.other (p := ⟨g6, 0, none⟩) q2.2.2.1 _⟩
        have WB : ∀ g, g ≠ g4 → g ≠ g5 → g ≠ g6 → (((w1.setRow g4 (shC s)).setCell ⟨g5, 0, none⟩ (.complex .f64 (fl (rB ow).1) (fl (rB ow).2))).setCell ⟨g6, 0, none⟩ (.complex .f64 (fl (rB o).1) (fl (rB o).2))).heap[g]? = w1.heap[g]? := fun g a b c => by
          rw [heap_setCell_other _ ⟨g6, 0, none⟩ g _ c, heap_setCell_other _ ⟨g5, 0, none⟩ g _ b, WR g a]
        have WS : (((w1.setRow g4 (shC s)).setCell ⟨g5, 0, none⟩ (.complex .f64 (fl (rB ow).1) (fl (rB ow).2))).setCell ⟨g6, 0, none⟩ (.complex .f64 (fl (rB o).1) (fl (rB o).2))).heap.size = w1.heap.size := by rw [World.size_setCell, World.size_setCell, size_setRow]
        have HW3 : Wk v N (((w1.setRow g4 (shC s)).setCell ⟨g5, 0, none⟩ (.complex .f64 (fl (rB ow).1) (fl (rB ow).2))).setCell ⟨g6, 0, none⟩ (.complex .f64 (fl (rB o).1) (fl (rB o).2))) k ((!true || ow.isSome) && (!true || o.isSome)) ins := ⟨⟨(WB _ q2.1 q2.2.1 q2.2.2.1).trans HF3.out.1.w.out⟩, ⟨(WB _ q2.2.2.2.1 q2.2.2.2.2.1 q2.2.2.2.2.2.1).trans HF3.out.1.i.out⟩, ⟨(WB _ q2.2.2.2.2.2.2.1 q2.2.2.2.2.2.2.2.1 q2.2.2.2.2.2.2.2.2).trans HF3.out.1.s.out⟩, HF3.out.1.ok, HF3.out.1.len, HF3.out.1.small, HF3.out.1.gi, HF3.out.1.gs, HF3.out.1.is, HF3.out.1.ng, HF3.out.1.ni, HF3.out.1.ns, by rw [WS]; exact HF3.out.1.nw⟩
        have hNgr : N ≤ gr := by have := HW3.ng; omega
        have HF4 : Hid (Fr v N W (((w1.setRow g4 (shC s)).setCell ⟨g5, 0, none⟩ (.complex .f64 (fl (rB ow).1) (fl (rB ow).2))).setCell ⟨g6, 0, none⟩ (.complex .f64 (fl (rB o).1) (fl (rB o).2)))) := Lib.hid ⟨HF3.out.2.1.below.trans (((below_setRow (Below.refl N w1) (g := g4) (by omega) (shC s)).setCell (p := ⟨g5, 0, none⟩) (by dsimp only; omega) _).setCell (p := ⟨g6, 0, none⟩) (by dsimp only; omega) _), fun j hj a b c => (WB j (by have := HGR.out; omega) (by have := HGR.out; omega) (by have := HGR.out; omega)).trans (HF3.out.2.1.other j hj a b c)⟩
        have HB := Lib.hid (And.intro T3.1 (And.intro T3.2.1 (And.intro G4 (And.intro G5 G6))))
        refine wpAnyT_one (i := 12) (by kernel_rfl) rfl (fun K hK => ?_)
        refine wpT_storeV rfl rfl (by rfl) (by rfl) HST ?_
        refine hK.out _ _ (fun _ => T1) ?_
        clear hK K
        refine wpAnyT_one (i := 13) (by kernel_rfl) rfl (fun K hK => ?_)
        try simp only [List.getElem_toArray, List.getElem_cons_zero, List.getElem_cons_succ, Act.put, List.setIfInBounds_toArray, List.set_cons_zero, List.set_cons_succ]
        go_simp
        refine hK.out _ _ (fun _ => T2) ?_
        clear hK K
        refine wpAnyT_one (i := 14) (by kernel_rfl) rfl (fun K hK => ?_)
        go_simp
        refine hK.out _ _ (fun _ => T3) ?_
        clear hK K
        refine wpAnyT_done (by kernel_rfl) ?_ _
        refine NoPanic.normal ?_
        clear hs5 hs6 c5 f5 c6 f6 T1 T2 T3 F5 F6 F4 E4 E5 E6 D4 D5 D6 HST WR WB WS q1 q2 HF3 G4 G5 G6
        obtain ⟨W3, hW3⟩ : ∃ W3, (((w1.setRow g4 (shC s)).setCell ⟨g5, 0, none⟩ (.complex .f64 (fl (rB ow).1) (fl (rB ow).2))).setCell ⟨g6, 0, none⟩ (.complex .f64 (fl (rB o).1) (fl (rB o).2))) = W3 := ⟨_, rfl⟩
        rw [hW3] at HW3 HF4 HB ⊢
        clear hW3
        have HW3 := Lib.hid HW3
        go_wp2_with fail
        have n4 : g4 ≠ v.g ∧ g4 ≠ v.Bi ∧ g4 ≠ v.Bs := ⟨by omega, by omega, by omega⟩
        have n5 : g5 ≠ v.g ∧ g5 ≠ v.Bi ∧ g5 ≠ v.Bs := ⟨by omega, by omega, by omega⟩
        have n6 : g6 ≠ v.g ∧ g6 ≠ v.Bi ∧ g6 ≠ v.Bs := ⟨by omega, by omega, by omega⟩
        have okw : bdOk (rB ow) := by
          cases ow with
          | none => exact ⟨by decide, by decide⟩
          | some b => exact shGet_ok hs hw.out
        have oko : bdOk (rB o) := by
          cases o with
          | none => exact ⟨by decide, by decide⟩
          | some b => exact shWord_ok hs him ho.out
        obtain ⟨r1, hr1⟩ : ∃ r1, Hid (vWay ins (k + q + 1) s dst (cutS fn (rB ow).1 (rB ow).2 (rB o).1 (rB o).2) = r1) := ⟨_, Lib.hid rfl⟩
        have HD := HW3.out.bel (Bel.refl W3).drew
        have SE : Bk W3.drew gr 111 #[.pointer (some ⟨v.g, 0, none⟩)] ∧ Bk W3.drew (gr + 1) 95 #[.int .i64 1, .int .i64 fn, .int .i64 dst, .int .i64 src, .bool reg, .int .i64 q, .int .u32 imm] ∧ (∃ sf, Bk W3.drew v.g 113 (v.cells k sf)) ∧ Bk W3.drew g4 69 (shC s) ∧ Bk W3.drew g5 66 #[.complex .f64 (fl (rB ow).1) (fl (rB ow).2)] ∧ Bk W3.drew g6 66 #[.complex .f64 (fl (rB o).1) (fl (rB o).2)] := ⟨HB.out.1.bel (Bel.refl W3).drew, HB.out.2.1.bel (Bel.refl W3).drew, ⟨_, HD.w⟩, HB.out.2.2.1.bel (Bel.refl W3).drew, HB.out.2.2.2.1.bel (Bel.refl W3).drew, HB.out.2.2.2.2.bel (Bel.refl W3).drew⟩
        have PW := fun (w' : World) (hb : Bk w' gr 111 #[.pointer (some ⟨v.g, 0, none⟩)] ∧ Bk w' (gr + 1) 95 #[.int .i64 1, .int .i64 fn, .int .i64 dst, .int .i64 src, .bool reg, .int .i64 q, .int .u32 imm] ∧ (∃ sf, Bk w' v.g 113 (v.cells k sf)) ∧ Bk w' g4 69 (shC s) ∧ Bk w' g5 66 #[.complex .f64 (fl (rB ow).1) (fl (rB ow).2)] ∧ Bk w' g6 66 #[.complex .f64 (fl (rB o).1) (fl (rB o).2)]) => hb.1.cell 0 (v := .pointer (some ⟨v.g, 0, none⟩)) rfl
        have P1 := fun (w' : World) (hb : Bk w' gr 111 #[.pointer (some ⟨v.g, 0, none⟩)] ∧ Bk w' (gr + 1) 95 #[.int .i64 1, .int .i64 fn, .int .i64 dst, .int .i64 src, .bool reg, .int .i64 q, .int .u32 imm] ∧ (∃ sf, Bk w' v.g 113 (v.cells k sf)) ∧ Bk w' g4 69 (shC s) ∧ Bk w' g5 66 #[.complex .f64 (fl (rB ow).1) (fl (rB ow).2)] ∧ Bk w' g6 66 #[.complex .f64 (fl (rB o).1) (fl (rB o).2)]) => hb.2.1.cell 1 (v := .int .i64 fn) rfl
        have P5 := fun (w' : World) (hb : Bk w' gr 111 #[.pointer (some ⟨v.g, 0, none⟩)] ∧ Bk w' (gr + 1) 95 #[.int .i64 1, .int .i64 fn, .int .i64 dst, .int .i64 src, .bool reg, .int .i64 q, .int .u32 imm] ∧ (∃ sf, Bk w' v.g 113 (v.cells k sf)) ∧ Bk w' g4 69 (shC s) ∧ Bk w' g5 66 #[.complex .f64 (fl (rB ow).1) (fl (rB ow).2)] ∧ Bk w' g6 66 #[.complex .f64 (fl (rB o).1) (fl (rB o).2)]) => hb.2.1.cell 5 (v := .int .i64 q) rfl
        have M5 : ∀ (w' : World), (Bk w' gr 111 #[.pointer (some ⟨v.g, 0, none⟩)] ∧ Bk w' (gr + 1) 95 #[.int .i64 1, .int .i64 fn, .int .i64 dst, .int .i64 src, .bool reg, .int .i64 q, .int .u32 imm] ∧ (∃ sf, Bk w' v.g 113 (v.cells k sf)) ∧ Bk w' g4 69 (shC s) ∧ Bk w' g5 66 #[.complex .f64 (fl (rB ow).1) (fl (rB ow).2)] ∧ Bk w' g6 66 #[.complex .f64 (fl (rB o).1) (fl (rB o).2)]) → w'.cell? ⟨v.g, 5, none⟩ = some (.int .i64 k) := fun w' hb => by
          obtain ⟨-, -, ⟨sf, hb⟩, -⟩ := hb
          exact hb.cell 5 rfl
        refine wp_region_T (fun w' => Bk w' gr 111 #[.pointer (some ⟨v.g, 0, none⟩)] ∧ Bk w' (gr + 1) 95 #[.int .i64 1, .int .i64 fn, .int .i64 dst, .int .i64 src, .bool reg, .int .i64 q, .int .u32 imm] ∧ (∃ sf, Bk w' v.g 113 (v.cells k sf)) ∧ Bk w' g4 69 (shC s) ∧ Bk w' g5 66 #[.complex .f64 (fl (rB ow).1) (fl (rB ow).2)] ∧ Bk w' g6 66 #[.complex .f64 (fl (rB o).1) (fl (rB o).2)]) (fun _ => false) (by kernel_rfl) ?_
        refine wpAnyU_take (i := 0) (v := ?v0c) rfl (by kernel_rfl) (by kernel_rfl) (by kernel_rfl) (by kernel_rfl) (fun _ _ _ h => h) ?hy0c SE ?rest0c
        case hy0c => first | (refine Or.inl ⟨by rfl, ?_⟩; (intro w' hSw; go_simp) <;> with_reducible rfl) | (refine Or.inr ⟨by rfl, ?_⟩; with_reducible rfl)
        try simp only [List.getElem_toArray, List.getElem_cons_zero, List.getElem_cons_succ, Act.put, List.setIfInBounds_toArray, List.set_cons_zero, List.set_cons_succ]
        refine wpAnyU_take (i := 1) (v := ?v1c) rfl (by kernel_rfl) (by kernel_rfl) (by kernel_rfl) (by kernel_rfl) (fun _ _ _ h => h) ?hy1c SE ?rest1c
        case hy1c => first | (refine Or.inl ⟨by rfl, ?_⟩; (intro w' hSw; go_simp) <;> with_reducible rfl) | (refine Or.inr ⟨by rfl, ?_⟩; with_reducible rfl)
        try simp only [List.getElem_toArray, List.getElem_cons_zero, List.getElem_cons_succ, Act.put, List.setIfInBounds_toArray, List.set_cons_zero, List.set_cons_succ]
        refine wpAnyU_take (i := 2) (v := ?v2c) rfl (by kernel_rfl) (by kernel_rfl) (by kernel_rfl) (by kernel_rfl) (fun _ _ _ h => h) ?hy2c SE ?rest2c
        case hy2c => first | (refine Or.inl ⟨by rfl, ?_⟩; (intro w' hSw; go_simp) <;> with_reducible rfl) | (refine Or.inr ⟨by rfl, ?_⟩; with_reducible rfl)
        try simp only [List.getElem_toArray, List.getElem_cons_zero, List.getElem_cons_succ, Act.put, List.setIfInBounds_toArray, List.set_cons_zero, List.set_cons_succ]
        refine wpAnyU_take (i := 3) (v := ?v3c) rfl (by kernel_rfl) (by kernel_rfl) (by kernel_rfl) (by kernel_rfl) (fun _ _ _ h => h) ?hy3c SE ?rest3c
        case hy3c => first | (refine Or.inl ⟨by rfl, ?_⟩; (intro w' hSw; go_simp) <;> with_reducible rfl) | (refine Or.inr ⟨by rfl, ?_⟩; with_reducible rfl)
        try simp only [List.getElem_toArray, List.getElem_cons_zero, List.getElem_cons_succ, Act.put, List.setIfInBounds_toArray, List.set_cons_zero, List.set_cons_succ]
        refine wpAnyU_take (i := 4) (v := ?v4c) rfl (by kernel_rfl) (by kernel_rfl) (by kernel_rfl) (by kernel_rfl) (fun _ _ _ h => h) ?hy4c SE ?rest4c
        case hy4c => first | (refine Or.inl ⟨by rfl, ?_⟩; (intro w' hSw; go_simp) <;> with_reducible rfl) | (refine Or.inr ⟨by rfl, ?_⟩; with_reducible rfl)
        try simp only [List.getElem_toArray, List.getElem_cons_zero, List.getElem_cons_succ, Act.put, List.setIfInBounds_toArray, List.set_cons_zero, List.set_cons_succ]
        refine wpAnyU_take (i := 5) (v := ?v5c) rfl (by kernel_rfl) (by kernel_rfl) (by kernel_rfl) (by kernel_rfl) (fun _ _ _ h => h) ?hy5c SE ?rest5c
        case hy5c => first | (refine Or.inl ⟨by rfl, ?_⟩; (intro w' hSw; go_simp) <;> with_reducible rfl) | (refine Or.inr ⟨by rfl, ?_⟩; with_reducible rfl)
        try simp only [List.getElem_toArray, List.getElem_cons_zero, List.getElem_cons_succ, Act.put, List.setIfInBounds_toArray, List.set_cons_zero, List.set_cons_succ]
        refine wpAnyU_take (i := 6) (v := ?v6c) rfl (by kernel_rfl) (by kernel_rfl) (by kernel_rfl) (by kernel_rfl) (fun _ _ _ h => h) ?hy6c SE ?rest6c
        case hy6c => first | (refine Or.inl ⟨by rfl, ?_⟩; (intro w' hSw; go_simp) <;> with_reducible rfl) | (refine Or.inr ⟨by rfl, ?_⟩; with_reducible rfl)
        try simp only [List.getElem_toArray, List.getElem_cons_zero, List.getElem_cons_succ, Act.put, List.setIfInBounds_toArray, List.set_cons_zero, List.set_cons_succ]
        refine wpAnyU_take (i := 7) (v := ?v7c) rfl (by kernel_rfl) (by kernel_rfl) (by kernel_rfl) (by kernel_rfl) (fun _ _ _ h => h) ?hy7c SE ?rest7c
        case hy7c => first | (refine Or.inl ⟨by rfl, ?_⟩; (intro w' hSw; go_simp) <;> with_reducible rfl) | (refine Or.inr ⟨by rfl, ?_⟩; with_reducible rfl)
        try simp only [List.getElem_toArray, List.getElem_cons_zero, List.getElem_cons_succ, Act.put, List.setIfInBounds_toArray, List.set_cons_zero, List.set_cons_succ]
        refine wpAnyU_take (i := 8) (v := ?v8c) rfl (by kernel_rfl) (by kernel_rfl) (by kernel_rfl) (by kernel_rfl) (fun _ _ _ h => h) ?hy8c SE ?rest8c
        case hy8c => first | (refine Or.inl ⟨by rfl, ?_⟩; (intro w' hSw; go_simp) <;> with_reducible rfl) | (refine Or.inr ⟨by rfl, ?_⟩; with_reducible rfl)
        try simp only [List.getElem_toArray, List.getElem_cons_zero, List.getElem_cons_succ, Act.put, List.setIfInBounds_toArray, List.set_cons_zero, List.set_cons_succ]
        refine wpAnyU_take (i := 9) (v := ?v9c) rfl (by kernel_rfl) (by kernel_rfl) (by kernel_rfl) (by kernel_rfl) (fun _ _ _ h => h) ?hy9c SE ?rest9c
        case hy9c => first | (refine Or.inl ⟨by rfl, ?_⟩; (intro w' hSw; go_simp) <;> with_reducible rfl) | (refine Or.inr ⟨by rfl, ?_⟩; with_reducible rfl)
        try simp only [List.getElem_toArray, List.getElem_cons_zero, List.getElem_cons_succ, Act.put, List.setIfInBounds_toArray, List.set_cons_zero, List.set_cons_succ]
        refine wpAnyU_take (i := 10) (v := ?v10c) rfl (by kernel_rfl) (by kernel_rfl) (by kernel_rfl) (by kernel_rfl) (fun _ _ _ h => h) ?hy10c SE ?rest10c
        case hy10c => first | (refine Or.inl ⟨by rfl, ?_⟩; (intro w' hSw; go_simp) <;> with_reducible rfl) | (refine Or.inr ⟨by rfl, ?_⟩; with_reducible rfl)
        try simp only [List.getElem_toArray, List.getElem_cons_zero, List.getElem_cons_succ, Act.put, List.setIfInBounds_toArray, List.set_cons_zero, List.set_cons_succ]
        refine wpAnyT_one (i := 11) (by kernel_rfl) rfl (fun K hK => ?_)
        go_simp
        go_at_call 128
        refine (way_any v N _ k _ ins HD fn (k + q + 1) (rB ow) (rB o) okw oko s hs dst g5 g6 gr g4 (gr + 1) (SE.2.2.2.2.1.cell 0 rfl) (SE.2.2.2.2.2.cell 0 rfl) SE.1 SE.2.2.2.1 _ SE.2.1 rfl n1 n4 n2 r1 hr1).mono ?_
        rintro en w6 ⟨rfl, hw6, hf6⟩
        have S6 : Bk w6 gr 111 #[.pointer (some ⟨v.g, 0, none⟩)] ∧ Bk w6 (gr + 1) 95 #[.int .i64 1, .int .i64 fn, .int .i64 dst, .int .i64 src, .bool reg, .int .i64 q, .int .u32 imm] ∧ (∃ sf, Bk w6 v.g 113 (v.cells k sf)) ∧ Bk w6 g4 69 (shC s) ∧ Bk w6 g5 66 #[.complex .f64 (fl (rB ow).1) (fl (rB ow).2)] ∧ Bk w6 g6 66 #[.complex .f64 (fl (rB o).1) (fl (rB o).2)] := ⟨hf6.bk SE.1 n1.1 n1.2.1 n1.2.2, hf6.bk SE.2.1 n2.1 n2.2.1 n2.2.2, ⟨_, hw6.w⟩, hf6.bk SE.2.2.2.1 n4.1 n4.2.1 n4.2.2, hf6.bk SE.2.2.2.2.1 n5.1 n5.2.1 n5.2.2, hf6.bk SE.2.2.2.2.2 n6.1 n6.2.1 n6.2.2⟩
        have H6 := Lib.hid hw6
        have F6 := Lib.hid ((HF4.out.trans (Fr.bel (Bel.refl W3).drew HW3.out.nw)).trans hf6)
        dsimp only
        refine hK.out _ _ (fun _ => S6) ?_
        clear hK K
        try simp only [List.getElem_toArray, List.getElem_cons_zero, List.getElem_cons_succ, Act.put, List.setIfInBounds_toArray, List.set_cons_zero, List.set_cons_succ]
        refine wpAnyT_done (by kernel_rfl) ?_ _
        refine NoPanic.normal ?_
        clear SE HD hw6 hf6 HW3 HF4 HB
        have S6 := Lib.hid S6
        clear PW P1 P5 M5
        go_wp2_with fail
        have HD := H6.out.bel (Bel.refl w6).drew
        have SE : Bk w6.drew gr 111 #[.pointer (some ⟨v.g, 0, none⟩)] ∧ Bk w6.drew (gr + 1) 95 #[.int .i64 1, .int .i64 fn, .int .i64 dst, .int .i64 src, .bool reg, .int .i64 q, .int .u32 imm] ∧ (∃ sf, Bk w6.drew v.g 113 (v.cells k sf)) ∧ Bk w6.drew g4 69 (shC s) ∧ Bk w6.drew g5 66 #[.complex .f64 (fl (rB ow).1) (fl (rB ow).2)] ∧ Bk w6.drew g6 66 #[.complex .f64 (fl (rB o).1) (fl (rB o).2)] := ⟨S6.out.1.bel (Bel.refl w6).drew, S6.out.2.1.bel (Bel.refl w6).drew, ⟨_, HD.w⟩, S6.out.2.2.2.1.bel (Bel.refl w6).drew, S6.out.2.2.2.2.1.bel (Bel.refl w6).drew, S6.out.2.2.2.2.2.bel (Bel.refl w6).drew⟩
        have hmm := @run_makeMap Tryz.prog
        have PW := fun (w' : World) (hb : Bk w' gr 111 #[.pointer (some ⟨v.g, 0, none⟩)] ∧ Bk w' (gr + 1) 95 #[.int .i64 1, .int .i64 fn, .int .i64 dst, .int .i64 src, .bool reg, .int .i64 q, .int .u32 imm] ∧ (∃ sf, Bk w' v.g 113 (v.cells k sf)) ∧ Bk w' g4 69 (shC s) ∧ Bk w' g5 66 #[.complex .f64 (fl (rB ow).1) (fl (rB ow).2)] ∧ Bk w' g6 66 #[.complex .f64 (fl (rB o).1) (fl (rB o).2)]) => hb.1.cell 0 (v := .pointer (some ⟨v.g, 0, none⟩)) rfl
        have P1 := fun (w' : World) (hb : Bk w' gr 111 #[.pointer (some ⟨v.g, 0, none⟩)] ∧ Bk w' (gr + 1) 95 #[.int .i64 1, .int .i64 fn, .int .i64 dst, .int .i64 src, .bool reg, .int .i64 q, .int .u32 imm] ∧ (∃ sf, Bk w' v.g 113 (v.cells k sf)) ∧ Bk w' g4 69 (shC s) ∧ Bk w' g5 66 #[.complex .f64 (fl (rB ow).1) (fl (rB ow).2)] ∧ Bk w' g6 66 #[.complex .f64 (fl (rB o).1) (fl (rB o).2)]) => hb.2.1.cell 1 (v := .int .i64 fn) rfl
        have P5 := fun (w' : World) (hb : Bk w' gr 111 #[.pointer (some ⟨v.g, 0, none⟩)] ∧ Bk w' (gr + 1) 95 #[.int .i64 1, .int .i64 fn, .int .i64 dst, .int .i64 src, .bool reg, .int .i64 q, .int .u32 imm] ∧ (∃ sf, Bk w' v.g 113 (v.cells k sf)) ∧ Bk w' g4 69 (shC s) ∧ Bk w' g5 66 #[.complex .f64 (fl (rB ow).1) (fl (rB ow).2)] ∧ Bk w' g6 66 #[.complex .f64 (fl (rB o).1) (fl (rB o).2)]) => hb.2.1.cell 5 (v := .int .i64 q) rfl
        have M5 : ∀ (w' : World), (Bk w' gr 111 #[.pointer (some ⟨v.g, 0, none⟩)] ∧ Bk w' (gr + 1) 95 #[.int .i64 1, .int .i64 fn, .int .i64 dst, .int .i64 src, .bool reg, .int .i64 q, .int .u32 imm] ∧ (∃ sf, Bk w' v.g 113 (v.cells k sf)) ∧ Bk w' g4 69 (shC s) ∧ Bk w' g5 66 #[.complex .f64 (fl (rB ow).1) (fl (rB ow).2)] ∧ Bk w' g6 66 #[.complex .f64 (fl (rB o).1) (fl (rB o).2)]) → w'.cell? ⟨v.g, 5, none⟩ = some (.int .i64 k) := fun w' hb => by
          obtain ⟨-, -, ⟨sf, hb⟩, -⟩ := hb
          exact hb.cell 5 rfl
        refine wp_region_T (fun w' => Bk w' gr 111 #[.pointer (some ⟨v.g, 0, none⟩)] ∧ Bk w' (gr + 1) 95 #[.int .i64 1, .int .i64 fn, .int .i64 dst, .int .i64 src, .bool reg, .int .i64 q, .int .u32 imm] ∧ (∃ sf, Bk w' v.g 113 (v.cells k sf)) ∧ Bk w' g4 69 (shC s) ∧ Bk w' g5 66 #[.complex .f64 (fl (rB ow).1) (fl (rB ow).2)] ∧ Bk w' g6 66 #[.complex .f64 (fl (rB o).1) (fl (rB o).2)]) (fun _ => false) (by kernel_rfl) ?_
        refine wpAnyU_take (i := 0) (v := ?v0d) rfl (by kernel_rfl) (by kernel_rfl) (by kernel_rfl) (by kernel_rfl) (fun _ _ _ h => h) ?hy0d SE ?rest0d
        case hy0d => first | (refine Or.inl ⟨by rfl, ?_⟩; (intro w' hSw; go_simp) <;> with_reducible rfl) | (refine Or.inr ⟨by rfl, ?_⟩; with_reducible rfl)
        try simp only [List.getElem_toArray, List.getElem_cons_zero, List.getElem_cons_succ, Act.put, List.setIfInBounds_toArray, List.set_cons_zero, List.set_cons_succ]
        refine wpAnyU_take (i := 7) (v := ?v7d) rfl (by kernel_rfl) (by kernel_rfl) (by kernel_rfl) (by kernel_rfl) (fun _ _ _ h => h) ?hy7d SE ?rest7d
        case hy7d => first | (refine Or.inl ⟨by rfl, ?_⟩; (intro w' hSw; go_simp) <;> with_reducible rfl) | (refine Or.inr ⟨by rfl, ?_⟩; with_reducible rfl)
        try simp only [List.getElem_toArray, List.getElem_cons_zero, List.getElem_cons_succ, Act.put, List.setIfInBounds_toArray, List.set_cons_zero, List.set_cons_succ]
        refine wpAnyU_take (i := 8) (v := ?v8d) rfl (by kernel_rfl) (by kernel_rfl) (by kernel_rfl) (by kernel_rfl) (fun _ _ _ h => h) ?hy8d SE ?rest8d
        case hy8d => first | (refine Or.inl ⟨by rfl, ?_⟩; (intro w' hSw; go_simp) <;> with_reducible rfl) | (refine Or.inr ⟨by rfl, ?_⟩; with_reducible rfl)
        try simp only [List.getElem_toArray, List.getElem_cons_zero, List.getElem_cons_succ, Act.put, List.setIfInBounds_toArray, List.set_cons_zero, List.set_cons_succ]
        refine wpAnyU_take (i := 10) (v := ?v10d) rfl (by kernel_rfl) (by kernel_rfl) (by kernel_rfl) (by kernel_rfl) (fun _ _ _ h => h) ?hy10d SE ?rest10d
        case hy10d => first | (refine Or.inl ⟨by rfl, ?_⟩; (intro w' hSw; go_simp) <;> with_reducible rfl) | (refine Or.inr ⟨by rfl, ?_⟩; with_reducible rfl)
        try simp only [List.getElem_toArray, List.getElem_cons_zero, List.getElem_cons_succ, Act.put, List.setIfInBounds_toArray, List.set_cons_zero, List.set_cons_succ]
        refine wpAnyU_take (i := 11) (v := ?v11d) rfl (by kernel_rfl) (by kernel_rfl) (by kernel_rfl) (by kernel_rfl) (fun _ _ _ h => h) ?hy11d SE ?rest11d
        case hy11d => first | (refine Or.inl ⟨by rfl, ?_⟩; (intro w' hSw; go_simp) <;> with_reducible rfl) | (refine Or.inr ⟨by rfl, ?_⟩; with_reducible rfl)
        try simp only [List.getElem_toArray, List.getElem_cons_zero, List.getElem_cons_succ, Act.put, List.setIfInBounds_toArray, List.set_cons_zero, List.set_cons_succ]
        refine wpAnyU_take (i := 12) (v := ?v12d) rfl (by kernel_rfl) (by kernel_rfl) (by kernel_rfl) (by kernel_rfl) (fun _ _ _ h => h) ?hy12d SE ?rest12d
        case hy12d => first | (refine Or.inl ⟨by rfl, ?_⟩; (intro w' hSw; go_simp) <;> with_reducible rfl) | (refine Or.inr ⟨by rfl, ?_⟩; with_reducible rfl)
        try simp only [List.getElem_toArray, List.getElem_cons_zero, List.getElem_cons_succ, Act.put, List.setIfInBounds_toArray, List.set_cons_zero, List.set_cons_succ]
        refine wpAnyU_take (i := 13) (v := ?v13d) rfl (by kernel_rfl) (by kernel_rfl) (by kernel_rfl) (by kernel_rfl) (fun _ _ _ h => h) ?hy13d SE ?rest13d
        case hy13d => first | (refine Or.inl ⟨by rfl, ?_⟩; (intro w' hSw; go_simp) <;> with_reducible rfl) | (refine Or.inr ⟨by rfl, ?_⟩; with_reducible rfl)
        try simp only [List.getElem_toArray, List.getElem_cons_zero, List.getElem_cons_succ, Act.put, List.setIfInBounds_toArray, List.set_cons_zero, List.set_cons_succ]
        refine wpAnyU_take (i := 14) (v := ?v14d) rfl (by kernel_rfl) (by kernel_rfl) (by kernel_rfl) (by kernel_rfl) (fun _ _ _ h => h) ?hy14d SE ?rest14d
        case hy14d => first | (refine Or.inl ⟨by rfl, ?_⟩; (intro w' hSw; go_simp) <;> with_reducible rfl) | (refine Or.inr ⟨by rfl, ?_⟩; with_reducible rfl)
        try simp only [List.getElem_toArray, List.getElem_cons_zero, List.getElem_cons_succ, Act.put, List.setIfInBounds_toArray, List.set_cons_zero, List.set_cons_succ]
        refine wpAnyT_one (i := 1) (by kernel_rfl) rfl (fun K hK => ?_)
        go_simp
        have HBA := (Bel.refl w6.drew).alloc (.map #[] 0)
        have SM : Bk (w6.drew.alloc (.map #[] 0)) gr 111 #[.pointer (some ⟨v.g, 0, none⟩)] ∧ Bk (w6.drew.alloc (.map #[] 0)) (gr + 1) 95 #[.int .i64 1, .int .i64 fn, .int .i64 dst, .int .i64 src, .bool reg, .int .i64 q, .int .u32 imm] ∧ (∃ sf, Bk (w6.drew.alloc (.map #[] 0)) v.g 113 (v.cells k sf)) ∧ Bk (w6.drew.alloc (.map #[] 0)) g4 69 (shC s) ∧ Bk (w6.drew.alloc (.map #[] 0)) g5 66 #[.complex .f64 (fl (rB ow).1) (fl (rB ow).2)] ∧ Bk (w6.drew.alloc (.map #[] 0)) g6 66 #[.complex .f64 (fl (rB o).1) (fl (rB o).2)] := ⟨SE.1.bel HBA, SE.2.1.bel HBA, ⟨_, (HD.bel HBA).w⟩, SE.2.2.2.1.bel HBA, SE.2.2.2.2.1.bel HBA, SE.2.2.2.2.2.bel HBA⟩

        refine hK.out _ _ (fun _ => SM) ?_
        clear hK K
        try simp only [List.getElem_toArray, List.getElem_cons_zero, List.getElem_cons_succ, Act.put, List.setIfInBounds_toArray, List.set_cons_zero, List.set_cons_succ]
        refine wpAnyT_listed (l' := #[true, true, false, false, false, false, false, true, true, false, true, true, true, true, true, false]) (by kernel_rfl) ?_
        refine wpAnyT_named ?_
        intro A hA
        have SMA : ∀ ob, Bk (w6.alloc ob).drew gr 111 #[.pointer (some ⟨v.g, 0, none⟩)] ∧ Bk (w6.alloc ob).drew (gr + 1) 95 #[.int .i64 1, .int .i64 fn, .int .i64 dst, .int .i64 src, .bool reg, .int .i64 q, .int .u32 imm] ∧ (∃ sf, Bk (w6.alloc ob).drew v.g 113 (v.cells k sf)) ∧ Bk (w6.alloc ob).drew g4 69 (shC s) ∧ Bk (w6.alloc ob).drew g5 66 #[.complex .f64 (fl (rB ow).1) (fl (rB ow).2)] ∧ Bk (w6.alloc ob).drew g6 66 #[.complex .f64 (fl (rB o).1) (fl (rB o).2)] := fun ob => ⟨S6.out.1.bel (((Bel.refl w6).alloc ob).drew), S6.out.2.1.bel (((Bel.refl w6).alloc ob).drew), ⟨_, (H6.out.bel (((Bel.refl w6).alloc ob).drew)).w⟩, S6.out.2.2.2.1.bel (((Bel.refl w6).alloc ob).drew), S6.out.2.2.2.2.1.bel (((Bel.refl w6).alloc ob).drew), S6.out.2.2.2.2.2.bel (((Bel.refl w6).alloc ob).drew)⟩
        clear SE HD HBA SM
        refine wpAnyT_inv (fun l a w' => ∃ (b2 b3 b4 b5 : Bool) (E : Array MapEntry) (n : Nat), l = #[true, true, b2, b3, b4, b5, false, true, true, false, true, true, true, true, true, false] ∧ a = A ∧ w' = (w6.alloc (.map E n)).drew ∧ Hid ((b2 = false → Instr.findNow (.int .i64) (.int .i64 1) E.toList 0 = some none) ∧ (b2 = true → ∃ j, Instr.findNow (.int .i64) (.int .i64 1) E.toList 0 = some (some (j, .int .i64 2))) ∧ (b3 = false → Instr.findNow (.int .i64) (.int .i64 2) E.toList 0 = some none) ∧ (b3 = true → ∃ j, Instr.findNow (.int .i64) (.int .i64 2) E.toList 0 = some (some (j, .int .i64 1))) ∧ (b4 = false → Instr.findNow (.int .i64) (.int .i64 3) E.toList 0 = some none) ∧ (b4 = true → ∃ j, Instr.findNow (.int .i64) (.int .i64 3) E.toList 0 = some (some (j, .int .i64 4))) ∧ (b5 = false → Instr.findNow (.int .i64) (.int .i64 4) E.toList 0 = some none) ∧ (b5 = true → ∃ j, Instr.findNow (.int .i64) (.int .i64 4) E.toList 0 = some (some (j, .int .i64 3))))) ?inv6 _ _ _ _ (Nat.le_of_ble_eq_true (by kernel_rfl)) ⟨false, false, false, false, #[], 0, rfl, rfl, rfl, Lib.hid ⟨fun _ => rfl, fun h => (by cases h), fun _ => rfl, fun h => (by cases h), fun _ => rfl, fun h => (by cases h), fun _ => rfl, fun h => (by cases h)⟩⟩
        case inv6 =>
          rintro fuel l a w1 hfu ⟨b2, b3, b4, b5, E, n, rfl, rfl, rfl, HE⟩
          by_cases hall : (b2 && b3 && b4 && b5) = true
          · left
            simp only [Bool.and_eq_true] at hall
            obtain ⟨⟨⟨rfl, rfl⟩, rfl⟩, rfl⟩ := hall
            obtain ⟨f, rfl⟩ : ∃ f, fuel = f + 3 := ⟨fuel - 3, by have : undone #[true, true, true, true, true, true, false, true, true, false, true, true, true, true, true, false] = 3 := by kernel_rfl
                                                                 omega⟩
            clear hfu
            have HBM := ((Bel.refl w6).alloc (.map E n)).drew
            have HL : (Instr.lookup 202 (.map (some w6.heap.size)) (.int .i64 fn) false).run Tryz.prog (w6.alloc (.map E n)).drew = .ok (.int .i64 (vElse fn)) (w6.alloc (.map E n)).drew := by
              have hb : (w6.alloc (.map E n)).drew.heap[w6.heap.size]? = some (.map E n) := heap_alloc_last w6 _
              rcases (show fn = 1 ∨ fn = 2 ∨ fn = 3 ∨ fn = 4 by omega) with rfl | rfl | rfl | rfl
              · obtain ⟨j, hj⟩ := HE.out.2.1 rfl
                exact mlook_one hb _ _ hj
              · obtain ⟨j, hj⟩ := HE.out.2.2.2.1 rfl
                exact mlook_one hb _ _ hj
              · obtain ⟨j, hj⟩ := HE.out.2.2.2.2.2.1 rfl
                exact mlook_one hb _ _ hj
              · obtain ⟨j, hj⟩ := HE.out.2.2.2.2.2.2.2 rfl
                exact mlook_one hb _ _ hj
            have SM := SMA (.map E n)
            have HD2 := H6.out.bel HBM
            obtain ⟨r2, hr2⟩ : ∃ r2, Hid (vWay (if ((!true || ow.isSome) && (!true || o.isSome)) = true then r1.getD ins else ins) (k + 1) s dst (cutS (vElse fn) (rB ow).1 (rB ow).2 (rB o).1 (rB o).2) = r2) := ⟨_, Lib.hid rfl⟩
            clear HE SMA
            subst hA
            refine wpAnyU_take (i := 6) (v := ?v6e) rfl (by kernel_rfl) (by kernel_rfl) (by kernel_rfl) (by kernel_rfl) (fun _ _ _ h => h) ?hy6e SM ?rest6e
            case hy6e => first | (refine Or.inl ⟨by rfl, ?_⟩; (intro w' hSw; go_simp) <;> with_reducible rfl) | (refine Or.inr ⟨by rfl, ?_⟩; with_reducible rfl)
            try simp only [List.getElem_toArray, List.getElem_cons_zero, List.getElem_cons_succ, Act.put, List.setIfInBounds_toArray, List.set_cons_zero, List.set_cons_succ]
            refine wpAnyT_one (i := 9) (by kernel_rfl) rfl (fun K hK => ?_)
            go_simp
            refine hK.out _ _ (fun _ => SM) ?_
            clear hK K
            try simp only [List.getElem_toArray, List.getElem_cons_zero, List.getElem_cons_succ, Act.put, List.setIfInBounds_toArray, List.set_cons_zero, List.set_cons_succ]
            refine wpAnyT_one (i := 15) (by kernel_rfl) rfl (fun K hK => ?_)
            go_simp
            go_at_call 128
            refine (way_any v N _ k _ _ HD2 (vElse fn) (k + 1) (rB ow) (rB o) okw oko s hs dst g5 g6 gr g4 (gr + 1) (SM.2.2.2.2.1.cell 0 rfl) (SM.2.2.2.2.2.cell 0 rfl) SM.1 SM.2.2.2.1 _ SM.2.1 rfl n1 n4 n2 r2 hr2).mono ?_
            rintro en w7 ⟨rfl, hw7, hf7⟩
            have S7 : Bk w7 gr 111 #[.pointer (some ⟨v.g, 0, none⟩)] ∧ Bk w7 (gr + 1) 95 #[.int .i64 1, .int .i64 fn, .int .i64 dst, .int .i64 src, .bool reg, .int .i64 q, .int .u32 imm] ∧ (∃ sf, Bk w7 v.g 113 (v.cells k sf)) ∧ Bk w7 g4 69 (shC s) ∧ Bk w7 g5 66 #[.complex .f64 (fl (rB ow).1) (fl (rB ow).2)] ∧ Bk w7 g6 66 #[.complex .f64 (fl (rB o).1) (fl (rB o).2)] := ⟨hf7.bk SM.1 n1.1 n1.2.1 n1.2.2, hf7.bk SM.2.1 n2.1 n2.2.1 n2.2.2, ⟨_, hw7.w⟩, hf7.bk SM.2.2.2.1 n4.1 n4.2.1 n4.2.2, hf7.bk SM.2.2.2.2.1 n5.1 n5.2.1 n5.2.2, hf7.bk SM.2.2.2.2.2 n6.1 n6.2.1 n6.2.2⟩
            have HW := Lib.hid hw7
            have HE7 := Lib.hid ((F6.out.trans (Fr.bel HBM H6.out.nw)).trans hf7)
            dsimp only
            refine hK.out _ _ (fun _ => S7) ?_
            clear hK K
            try simp only [List.getElem_toArray, List.getElem_cons_zero, List.getElem_cons_succ, Act.put, List.setIfInBounds_toArray, List.set_cons_zero, List.set_cons_succ]
            refine wpAnyT_done (by kernel_rfl) ?_ _
            refine NoPanic.normal ?_
            clear SM S7 HD2 HBM hw7 hf7 PW P1 P5 M5 HL
            go_wp2_with fail
            go_end0
            refine ⟨rfl, ?_, HE7.out⟩
            have hre := HRE.out
            have hw7 := HW.out
            rw [hw.out, ho.out] at hre
            cases ow with
            | none =>
              obtain rfl : r = none := hre.symm
              exact ⟨ins, by simpa using hw7, fun y e => by cases e⟩
            | some own =>
              cases o with
              | none =>
                obtain rfl : r = none := hre.symm
                exact ⟨ins, by simpa using hw7, fun y e => by cases e⟩
              | some b =>
                have h1 := hr1.out
                have h2 := hr2.out
                simp only [rB, Option.getD_some] at h1 h2
                simp only [Option.bind_some, h1] at hre
                cases r1 with
                | none =>
                  obtain rfl : r = none := hre.symm
                  exact ⟨_, by simpa using hw7, fun y e => by cases e⟩
                | some ins1 =>
                  simp only [Option.bind_some] at hre
                  simp at h2
                  rw [h2] at hre
                  subst hre
                  cases r2 with
                  | none => exact ⟨_, by simpa using hw7, fun y e => by cases e⟩
                  | some y => exact ⟨y, by simpa using hw7, fun z e => by cases e; rfl⟩
          · right
            refine ⟨?_, fun i hi => ?_⟩
            · clear HE hfu
              cases b2 with
              | false => exact ready_ne 2 (by kernel_rfl)
              | true =>
                cases b3 with
                | false => exact ready_ne 3 (by kernel_rfl)
                | true =>
                  cases b4 with
                  | false => exact ready_ne 4 (by kernel_rfl)
                  | true =>
                    cases b5 with
                    | false => exact ready_ne 5 (by kernel_rfl)
                    | true => exact absurd rfl hall
            · have hlt := ready_lt hi
              have hlt : i < 16 := hlt
              clear PW P1 P5 M5
              rcases (show i = 0 ∨ i = 1 ∨ i = 2 ∨ i = 3 ∨ i = 4 ∨ i = 5 ∨ i = 6 ∨ i = 7 ∨ i = 8 ∨ i = 9 ∨ i = 10 ∨ i = 11 ∨ i = 12 ∨ i = 13 ∨ i = 14 ∨ i = 15 by omega) with rfl | rfl | rfl | rfl | rfl | rfl | rfl | rfl | rfl | rfl | rfl | rfl | rfl | rfl | rfl | rfl
              · exact (not_ready hi (by kernel_rfl)).elim
              · exact (not_ready hi (by kernel_rfl)).elim
              · obtain rfl : b2 = false := by simpa using ready_new hi
                refine wpOp_shut rfl (fun K hK => ?_)
                have hins := minsertD w6 E n 1 2 (HE.out.1 rfl)
                have SM : Bk (w6.alloc (.map (E.push { key := .int .i64 1, val := .int .i64 2, born := n }) (n + 1))).drew gr 111 #[.pointer (some ⟨v.g, 0, none⟩)] ∧ Bk (w6.alloc (.map (E.push { key := .int .i64 1, val := .int .i64 2, born := n }) (n + 1))).drew (gr + 1) 95 #[.int .i64 1, .int .i64 fn, .int .i64 dst, .int .i64 src, .bool reg, .int .i64 q, .int .u32 imm] ∧ (∃ sf, Bk (w6.alloc (.map (E.push { key := .int .i64 1, val := .int .i64 2, born := n }) (n + 1))).drew v.g 113 (v.cells k sf)) ∧ Bk (w6.alloc (.map (E.push { key := .int .i64 1, val := .int .i64 2, born := n }) (n + 1))).drew g4 69 (shC s) ∧ Bk (w6.alloc (.map (E.push { key := .int .i64 1, val := .int .i64 2, born := n }) (n + 1))).drew g5 66 #[.complex .f64 (fl (rB ow).1) (fl (rB ow).2)] ∧ Bk (w6.alloc (.map (E.push { key := .int .i64 1, val := .int .i64 2, born := n }) (n + 1))).drew g6 66 #[.complex .f64 (fl (rB o).1) (fl (rB o).2)] := SMA _
                subst hA
                go_simp
                refine hK.out _ _ ⟨fun _ => SM, true, b3, b4, b5, E.push { key := .int .i64 1, val := .int .i64 2, born := n }, n + 1, rfl, rfl, rfl, Lib.hid ⟨fun h => (by cases h), fun _ => findNow_push_new _ 2 n (HE.out.1 rfl), fun h => findNow_push_none (a := 2) (c := 1) (by decide) _ _ (HE.out.2.2.1 h), fun h => (HE.out.2.2.2.1 h).imp fun j hj => findNow_push_some _ _ _ hj, fun h => findNow_push_none (a := 3) (c := 1) (by decide) _ _ (HE.out.2.2.2.2.1 h), fun h => (HE.out.2.2.2.2.2.1 h).imp fun j hj => findNow_push_some _ _ _ hj, fun h => findNow_push_none (a := 4) (c := 1) (by decide) _ _ (HE.out.2.2.2.2.2.2.1 h), fun h => (HE.out.2.2.2.2.2.2.2 h).imp fun j hj => findNow_push_some _ _ _ hj⟩⟩
              · obtain rfl : b3 = false := by simpa using ready_new hi
                refine wpOp_shut rfl (fun K hK => ?_)
                have hins := minsertD w6 E n 2 1 (HE.out.2.2.1 rfl)
                have SM : Bk (w6.alloc (.map (E.push { key := .int .i64 2, val := .int .i64 1, born := n }) (n + 1))).drew gr 111 #[.pointer (some ⟨v.g, 0, none⟩)] ∧ Bk (w6.alloc (.map (E.push { key := .int .i64 2, val := .int .i64 1, born := n }) (n + 1))).drew (gr + 1) 95 #[.int .i64 1, .int .i64 fn, .int .i64 dst, .int .i64 src, .bool reg, .int .i64 q, .int .u32 imm] ∧ (∃ sf, Bk (w6.alloc (.map (E.push { key := .int .i64 2, val := .int .i64 1, born := n }) (n + 1))).drew v.g 113 (v.cells k sf)) ∧ Bk (w6.alloc (.map (E.push { key := .int .i64 2, val := .int .i64 1, born := n }) (n + 1))).drew g4 69 (shC s) ∧ Bk (w6.alloc (.map (E.push { key := .int .i64 2, val := .int .i64 1, born := n }) (n + 1))).drew g5 66 #[.complex .f64 (fl (rB ow).1) (fl (rB ow).2)] ∧ Bk (w6.alloc (.map (E.push { key := .int .i64 2, val := .int .i64 1, born := n }) (n + 1))).drew g6 66 #[.complex .f64 (fl (rB o).1) (fl (rB o).2)] := SMA _
                subst hA
                go_simp
                refine hK.out _ _ ⟨fun _ => SM, b2, true, b4, b5, E.push { key := .int .i64 2, val := .int .i64 1, born := n }, n + 1, rfl, rfl, rfl, Lib.hid ⟨fun h => findNow_push_none (a := 1) (c := 2) (by decide) _ _ (HE.out.1 h), fun h => (HE.out.2.1 h).imp fun j hj => findNow_push_some _ _ _ hj, fun h => (by cases h), fun _ => findNow_push_new _ 1 n (HE.out.2.2.1 rfl), fun h => findNow_push_none (a := 3) (c := 2) (by decide) _ _ (HE.out.2.2.2.2.1 h), fun h => (HE.out.2.2.2.2.2.1 h).imp fun j hj => findNow_push_some _ _ _ hj, fun h => findNow_push_none (a := 4) (c := 2) (by decide) _ _ (HE.out.2.2.2.2.2.2.1 h), fun h => (HE.out.2.2.2.2.2.2.2 h).imp fun j hj => findNow_push_some _ _ _ hj⟩⟩
              · obtain rfl : b4 = false := by simpa using ready_new hi
                refine wpOp_shut rfl (fun K hK => ?_)
                have hins := minsertD w6 E n 3 4 (HE.out.2.2.2.2.1 rfl)
                have SM : Bk (w6.alloc (.map (E.push { key := .int .i64 3, val := .int .i64 4, born := n }) (n + 1))).drew gr 111 #[.pointer (some ⟨v.g, 0, none⟩)] ∧ Bk (w6.alloc (.map (E.push { key := .int .i64 3, val := .int .i64 4, born := n }) (n + 1))).drew (gr + 1) 95 #[.int .i64 1, .int .i64 fn, .int .i64 dst, .int .i64 src, .bool reg, .int .i64 q, .int .u32 imm] ∧ (∃ sf, Bk (w6.alloc (.map (E.push { key := .int .i64 3, val := .int .i64 4, born := n }) (n + 1))).drew v.g 113 (v.cells k sf)) ∧ Bk (w6.alloc (.map (E.push { key := .int .i64 3, val := .int .i64 4, born := n }) (n + 1))).drew g4 69 (shC s) ∧ Bk (w6.alloc (.map (E.push { key := .int .i64 3, val := .int .i64 4, born := n }) (n + 1))).drew g5 66 #[.complex .f64 (fl (rB ow).1) (fl (rB ow).2)] ∧ Bk (w6.alloc (.map (E.push { key := .int .i64 3, val := .int .i64 4, born := n }) (n + 1))).drew g6 66 #[.complex .f64 (fl (rB o).1) (fl (rB o).2)] := SMA _
                subst hA
                go_simp
                refine hK.out _ _ ⟨fun _ => SM, b2, b3, true, b5, E.push { key := .int .i64 3, val := .int .i64 4, born := n }, n + 1, rfl, rfl, rfl, Lib.hid ⟨fun h => findNow_push_none (a := 1) (c := 3) (by decide) _ _ (HE.out.1 h), fun h => (HE.out.2.1 h).imp fun j hj => findNow_push_some _ _ _ hj, fun h => findNow_push_none (a := 2) (c := 3) (by decide) _ _ (HE.out.2.2.1 h), fun h => (HE.out.2.2.2.1 h).imp fun j hj => findNow_push_some _ _ _ hj, fun h => (by cases h), fun _ => findNow_push_new _ 4 n (HE.out.2.2.2.2.1 rfl), fun h => findNow_push_none (a := 4) (c := 3) (by decide) _ _ (HE.out.2.2.2.2.2.2.1 h), fun h => (HE.out.2.2.2.2.2.2.2 h).imp fun j hj => findNow_push_some _ _ _ hj⟩⟩
              · obtain rfl : b5 = false := by simpa using ready_new hi
                refine wpOp_shut rfl (fun K hK => ?_)
                have hins := minsertD w6 E n 4 3 (HE.out.2.2.2.2.2.2.1 rfl)
                have SM : Bk (w6.alloc (.map (E.push { key := .int .i64 4, val := .int .i64 3, born := n }) (n + 1))).drew gr 111 #[.pointer (some ⟨v.g, 0, none⟩)] ∧ Bk (w6.alloc (.map (E.push { key := .int .i64 4, val := .int .i64 3, born := n }) (n + 1))).drew (gr + 1) 95 #[.int .i64 1, .int .i64 fn, .int .i64 dst, .int .i64 src, .bool reg, .int .i64 q, .int .u32 imm] ∧ (∃ sf, Bk (w6.alloc (.map (E.push { key := .int .i64 4, val := .int .i64 3, born := n }) (n + 1))).drew v.g 113 (v.cells k sf)) ∧ Bk (w6.alloc (.map (E.push { key := .int .i64 4, val := .int .i64 3, born := n }) (n + 1))).drew g4 69 (shC s) ∧ Bk (w6.alloc (.map (E.push { key := .int .i64 4, val := .int .i64 3, born := n }) (n + 1))).drew g5 66 #[.complex .f64 (fl (rB ow).1) (fl (rB ow).2)] ∧ Bk (w6.alloc (.map (E.push { key := .int .i64 4, val := .int .i64 3, born := n }) (n + 1))).drew g6 66 #[.complex .f64 (fl (rB o).1) (fl (rB o).2)] := SMA _
                subst hA
                go_simp
                refine hK.out _ _ ⟨fun _ => SM, b2, b3, b4, true, E.push { key := .int .i64 4, val := .int .i64 3, born := n }, n + 1, rfl, rfl, rfl, Lib.hid ⟨fun h => findNow_push_none (a := 1) (c := 4) (by decide) _ _ (HE.out.1 h), fun h => (HE.out.2.1 h).imp fun j hj => findNow_push_some _ _ _ hj, fun h => findNow_push_none (a := 2) (c := 4) (by decide) _ _ (HE.out.2.2.1 h), fun h => (HE.out.2.2.2.1 h).imp fun j hj => findNow_push_some _ _ _ hj, fun h => findNow_push_none (a := 3) (c := 4) (by decide) _ _ (HE.out.2.2.2.2.1 h), fun h => (HE.out.2.2.2.2.2.1 h).imp fun j hj => findNow_push_some _ _ _ hj, fun h => (by cases h), fun _ => findNow_push_new _ 3 n (HE.out.2.2.2.2.2.2.1 rfl)⟩⟩
              · exfalso
                have h2 : b2 = true := by simpa using ready_dep hi 2 (by kernel_rfl)
                have h3 : b3 = true := by simpa using ready_dep hi 3 (by kernel_rfl)
                have h4 : b4 = true := by simpa using ready_dep hi 4 (by kernel_rfl)
                have h5 : b5 = true := by simpa using ready_dep hi 5 (by kernel_rfl)
                exact hall (by rw [h2, h3, h4, h5]; rfl)
              · exact (not_ready hi (by kernel_rfl)).elim
              · exact (not_ready hi (by kernel_rfl)).elim
              · have h : false = true := ready_dep hi 6 (by kernel_rfl)
                cases h
              · exact (not_ready hi (by kernel_rfl)).elim
              · exact (not_ready hi (by kernel_rfl)).elim
              · exact (not_ready hi (by kernel_rfl)).elim
              · exact (not_ready hi (by kernel_rfl)).elim
              · exact (not_ready hi (by kernel_rfl)).elim
              · have h : false = true := ready_dep hi 9 (by kernel_rfl)
                cases h
      · right
        refine ⟨?_, fun i hi => ?_⟩
        · clear HF3 HP HV hfu
          cases b1 with
          | false => exact ready_ne 1 (by kernel_rfl)
          | true =>
            cases b5 with
            | false => exact ready_ne 5 (by kernel_rfl)
            | true =>
              cases b8 with
              | false => exact ready_ne 8 (by kernel_rfl)
              | true =>
                cases b9 with
                | false => exact ready_ne 9 (by kernel_rfl)
                | true =>
                  cases b10 with
                  | false => exact ready_ne 10 (by kernel_rfl)
                  | true =>
                    cases b11 with
                    | false => exact ready_ne 11 (by kernel_rfl)
                    | true => exact absurd rfl hall
        · have hlt := ready_lt hi
          have hlt : i < 15 := hlt
          rcases (show i = 0 ∨ i = 1 ∨ i = 2 ∨ i = 3 ∨ i = 4 ∨ i = 5 ∨ i = 6 ∨ i = 7 ∨ i = 8 ∨ i = 9 ∨ i = 10 ∨ i = 11 ∨ i = 12 ∨ i = 13 ∨ i = 14 by omega) with rfl | rfl | rfl | rfl | rfl | rfl | rfl | rfl | rfl | rfl | rfl | rfl | rfl | rfl | rfl
          · exact (not_ready hi (by kernel_rfl)).elim
          · obtain rfl : b1 = false := by simpa using ready_new hi
            have h5 : b5 = false := by cases b5 with | false => rfl | true => exact absurd (HO1 rfl) (by decide)
            have h8 : b8 = false := by cases b8 with | false => rfl | true => exact absurd (HO2 rfl) (by rw [h5]; decide)
            subst h5 h8
            refine wpOp_shut rfl (fun K hK => ?_)
            go_simp
            go_at_call 127
            refine (here_any v N _ k _ ins HF3.out.1 hk s hsk).mono ?_
            rintro en w5 ⟨rfl, hb5⟩
            have S5 : Bk w5 gr 111 #[.pointer (some ⟨v.g, 0, none⟩)] ∧ Bk w5 (gr + 1) 95 #[.int .i64 1, .int .i64 fn, .int .i64 dst, .int .i64 src, .bool reg, .int .i64 q, .int .u32 imm] ∧ (∃ sf, Bk w5 v.g 113 (v.cells k sf)) := ⟨HF3.out.2.2.1.1.bel hb5, HF3.out.2.2.1.2.1.bel hb5, ⟨_, (HF3.out.1.bel hb5).w⟩⟩
            dsimp only
            refine hK.out _ _ ⟨fun _ => S5, true, false, false, b9, b10, b11, x4, x5, x6, .agg (shC s), x28, x31, g4, g5, g6, rfl, rfl, ⟨fun _ => rfl, fun h => by cases h⟩, Lib.hid ⟨HF3.out.1.bel hb5, HF3.out.2.1.trans (Fr.bel hb5 HF3.out.1.nw), S5, Nat.le_trans HF3.out.2.2.2 hb5.size⟩, Lib.hid ⟨fun _ => rfl, HV.out.2.1, HV.out.2.2⟩, Lib.hid ⟨fun h => ⟨(HP.out.1 h).1, (HP.out.1 h).2.1, (HP.out.1 h).2.2.bel hb5⟩, fun h => ⟨(HP.out.2.1 h).1, (HP.out.2.1 h).2.1, (HP.out.2.1 h).2.2.bel hb5⟩, fun h => ⟨(HP.out.2.2.1 h).1, (HP.out.2.2.1 h).2.1, (HP.out.2.2.1 h).2.2.bel hb5⟩, HP.out.2.2.2⟩⟩
          · exact (not_ready hi (by kernel_rfl)).elim
          · exact (not_ready hi (by kernel_rfl)).elim
          · exact (not_ready hi (by kernel_rfl)).elim
          · obtain rfl : b5 = false := by simpa using ready_new hi
            have h1 : b1 = true := by simpa using ready_dep hi 1 (by kernel_rfl)
            have h8 : b8 = false := by cases b8 with | false => rfl | true => exact absurd (HO2 rfl) (by decide)
            subst h1 h8
            refine wpOp_shut rfl (fun K hK => ?_)
            go_simp
            go_at_call 124
            refine (wget_any v N _ k true ins HF3.out.1 hk s hsk dst ow hw).mono ?_
            rintro en w5 ⟨rfl, hw5, hf5⟩
            have S5 : Bk w5 gr 111 #[.pointer (some ⟨v.g, 0, none⟩)] ∧ Bk w5 (gr + 1) 95 #[.int .i64 1, .int .i64 fn, .int .i64 dst, .int .i64 src, .bool reg, .int .i64 q, .int .u32 imm] ∧ (∃ sf, Bk w5 v.g 113 (v.cells k sf)) := ⟨hf5.bk HF3.out.2.2.1.1 n1.1 n1.2.1 n1.2.2, hf5.bk HF3.out.2.2.1.2.1 n2.1 n2.2.1 n2.2.2, ⟨_, hw5.w⟩⟩
            dsimp only
            refine hK.out _ _ ⟨fun _ => S5, true, true, false, b9, b10, b11, x4, x5, x6, x24, .complex .f64 (fl (rB ow).1) (fl (rB ow).2), x31, g4, g5, g6, rfl, rfl, ⟨fun _ => rfl, fun h => by cases h⟩, Lib.hid ⟨by simpa using hw5, HF3.out.2.1.trans hf5, S5, Nat.le_trans HF3.out.2.2.2 hf5.size⟩, Lib.hid ⟨HV.out.1, fun _ => rfl, HV.out.2.2⟩, Lib.hid ⟨fun h => ⟨(HP.out.1 h).1, (HP.out.1 h).2.1, hf5.bk (HP.out.1 h).2.2 (by have := (HP.out.1 h).2.1; omega) (by have := (HP.out.1 h).2.1; omega) (by have := (HP.out.1 h).2.1; omega)⟩, fun h => ⟨(HP.out.2.1 h).1, (HP.out.2.1 h).2.1, hf5.bk (HP.out.2.1 h).2.2 (by have := (HP.out.2.1 h).2.1; omega) (by have := (HP.out.2.1 h).2.1; omega) (by have := (HP.out.2.1 h).2.1; omega)⟩, fun h => ⟨(HP.out.2.2.1 h).1, (HP.out.2.2.1 h).2.1, hf5.bk (HP.out.2.2.1 h).2.2 (by have := (HP.out.2.2.1 h).2.1; omega) (by have := (HP.out.2.2.1 h).2.1; omega) (by have := (HP.out.2.2.1 h).2.1; omega)⟩, HP.out.2.2.2⟩⟩
          · exact (not_ready hi (by kernel_rfl)).elim
          · exact (not_ready hi (by kernel_rfl)).elim
          · obtain rfl : b8 = false := by simpa using ready_new hi
            have h5 : b5 = true := by simpa using ready_dep hi 5 (by kernel_rfl)
            have h1 : b1 = true := HO1 h5
            subst h1 h5
            refine wpOp_shut rfl (fun K hK => ?_)
            go_simp
            go_at_call 123
            refine (wword_any v N _ k ow.isSome ins (by simpa using HF3.out.1) hk s hsk 1 fn dst src reg q imm him hm o ho).mono ?_
            rintro en w5 ⟨rfl, hw5, hf5⟩
            have S5 : Bk w5 gr 111 #[.pointer (some ⟨v.g, 0, none⟩)] ∧ Bk w5 (gr + 1) 95 #[.int .i64 1, .int .i64 fn, .int .i64 dst, .int .i64 src, .bool reg, .int .i64 q, .int .u32 imm] ∧ (∃ sf, Bk w5 v.g 113 (v.cells k sf)) := ⟨hf5.bk HF3.out.2.2.1.1 n1.1 n1.2.1 n1.2.2, hf5.bk HF3.out.2.2.1.2.1 n2.1 n2.2.1 n2.2.2, ⟨_, hw5.w⟩⟩
            dsimp only
            refine hK.out _ _ ⟨fun _ => S5, true, true, true, b9, b10, b11, x4, x5, x6, x24, x28, .complex .f64 (fl (rB o).1) (fl (rB o).2), g4, g5, g6, rfl, rfl, ⟨fun _ => rfl, fun _ => rfl⟩, Lib.hid ⟨by simpa using hw5, HF3.out.2.1.trans hf5, S5, Nat.le_trans HF3.out.2.2.2 hf5.size⟩, Lib.hid ⟨HV.out.1, HV.out.2.1, fun _ => rfl⟩, Lib.hid ⟨fun h => ⟨(HP.out.1 h).1, (HP.out.1 h).2.1, hf5.bk (HP.out.1 h).2.2 (by have := (HP.out.1 h).2.1; omega) (by have := (HP.out.1 h).2.1; omega) (by have := (HP.out.1 h).2.1; omega)⟩, fun h => ⟨(HP.out.2.1 h).1, (HP.out.2.1 h).2.1, hf5.bk (HP.out.2.1 h).2.2 (by have := (HP.out.2.1 h).2.1; omega) (by have := (HP.out.2.1 h).2.1; omega) (by have := (HP.out.2.1 h).2.1; omega)⟩, fun h => ⟨(HP.out.2.2.1 h).1, (HP.out.2.2.1 h).2.1, hf5.bk (HP.out.2.2.1 h).2.2 (by have := (HP.out.2.2.1 h).2.1; omega) (by have := (HP.out.2.2.1 h).2.1; omega) (by have := (HP.out.2.2.1 h).2.1; omega)⟩, HP.out.2.2.2⟩⟩
          · obtain rfl : b9 = false := by simpa using ready_new hi
            refine wpOp_shut rfl (fun K hK => ?_)
            go_simp
            rw [← hz]
            have HBA := (Bel.refl w1).alloc (.cells (shC (fun _ => none)) 69)
            have S5 : Bk (w1.alloc (.cells (shC (fun _ => none)) 69)) gr 111 #[.pointer (some ⟨v.g, 0, none⟩)] ∧ Bk (w1.alloc (.cells (shC (fun _ => none)) 69)) (gr + 1) 95 #[.int .i64 1, .int .i64 fn, .int .i64 dst, .int .i64 src, .bool reg, .int .i64 q, .int .u32 imm] ∧ (∃ sf, Bk (w1.alloc (.cells (shC (fun _ => none)) 69)) v.g 113 (v.cells k sf)) := ⟨HF3.out.2.2.1.1.bel HBA, HF3.out.2.2.1.2.1.bel HBA, ⟨_, (HF3.out.1.bel HBA).w⟩⟩
            refine hK.out _ _ ⟨fun _ => S5, b1, b5, b8, true, b10, b11, .pointer (some ⟨w1.heap.size, 0, none⟩), x5, x6, x24, x28, x31, w1.heap.size, g5, g6, rfl, rfl, ⟨HO1, HO2⟩, Lib.hid ⟨HF3.out.1.bel HBA, HF3.out.2.1.trans (Fr.bel HBA HF3.out.1.nw), S5, Nat.le_trans HF3.out.2.2.2 HBA.size⟩, HV, Lib.hid ⟨fun _ => ⟨rfl, HF3.out.2.2.2, Bk.new w1 69 (shC (fun _ => none))⟩, fun h => ⟨(HP.out.2.1 h).1, (HP.out.2.1 h).2.1, (HP.out.2.1 h).2.2.bel HBA⟩, fun h => ⟨(HP.out.2.2.1 h).1, (HP.out.2.2.1 h).2.1, (HP.out.2.2.1 h).2.2.bel HBA⟩, HP.out.2.2.2⟩⟩
          · obtain rfl : b10 = false := by simpa using ready_new hi
            refine wpOp_shut rfl (fun K hK => ?_)
            go_simp
            have HBA := (Bel.refl w1).alloc (.cells #[.complex .f64 0 0] 66)
            have S5 : Bk (w1.alloc (.cells #[.complex .f64 0 0] 66)) gr 111 #[.pointer (some ⟨v.g, 0, none⟩)] ∧ Bk (w1.alloc (.cells #[.complex .f64 0 0] 66)) (gr + 1) 95 #[.int .i64 1, .int .i64 fn, .int .i64 dst, .int .i64 src, .bool reg, .int .i64 q, .int .u32 imm] ∧ (∃ sf, Bk (w1.alloc (.cells #[.complex .f64 0 0] 66)) v.g 113 (v.cells k sf)) := ⟨HF3.out.2.2.1.1.bel HBA, HF3.out.2.2.1.2.1.bel HBA, ⟨_, (HF3.out.1.bel HBA).w⟩⟩
            refine hK.out _ _ ⟨fun _ => S5, b1, b5, b8, b9, true, b11, x4, .pointer (some ⟨w1.heap.size, 0, none⟩), x6, x24, x28, x31, g4, w1.heap.size, g6, rfl, rfl, ⟨HO1, HO2⟩, Lib.hid ⟨HF3.out.1.bel HBA, HF3.out.2.1.trans (Fr.bel HBA HF3.out.1.nw), S5, Nat.le_trans HF3.out.2.2.2 HBA.size⟩, HV, Lib.hid ⟨fun h => ⟨(HP.out.1 h).1, (HP.out.1 h).2.1, (HP.out.1 h).2.2.bel HBA⟩, fun _ => ⟨rfl, HF3.out.2.2.2, Bk.new w1 66 #[.complex .f64 0 0]⟩, fun h => ⟨(HP.out.2.2.1 h).1, (HP.out.2.2.1 h).2.1, (HP.out.2.2.1 h).2.2.bel HBA⟩, fun _ h => Nat.ne_of_gt (HP.out.2.2.1 h).2.2.lt⟩⟩
          · obtain rfl : b11 = false := by simpa using ready_new hi
            refine wpOp_shut rfl (fun K hK => ?_)
            go_simp
            have HBA := (Bel.refl w1).alloc (.cells #[.complex .f64 0 0] 66)
            have S5 : Bk (w1.alloc (.cells #[.complex .f64 0 0] 66)) gr 111 #[.pointer (some ⟨v.g, 0, none⟩)] ∧ Bk (w1.alloc (.cells #[.complex .f64 0 0] 66)) (gr + 1) 95 #[.int .i64 1, .int .i64 fn, .int .i64 dst, .int .i64 src, .bool reg, .int .i64 q, .int .u32 imm] ∧ (∃ sf, Bk (w1.alloc (.cells #[.complex .f64 0 0] 66)) v.g 113 (v.cells k sf)) := ⟨HF3.out.2.2.1.1.bel HBA, HF3.out.2.2.1.2.1.bel HBA, ⟨_, (HF3.out.1.bel HBA).w⟩⟩
            refine hK.out _ _ ⟨fun _ => S5, b1, b5, b8, b9, b10, true, x4, x5, .pointer (some ⟨w1.heap.size, 0, none⟩), x24, x28, x31, g4, g5, w1.heap.size, rfl, rfl, ⟨HO1, HO2⟩, Lib.hid ⟨HF3.out.1.bel HBA, HF3.out.2.1.trans (Fr.bel HBA HF3.out.1.nw), S5, Nat.le_trans HF3.out.2.2.2 HBA.size⟩, HV, Lib.hid ⟨fun h => ⟨(HP.out.1 h).1, (HP.out.1 h).2.1, (HP.out.1 h).2.2.bel HBA⟩, fun h => ⟨(HP.out.2.1 h).1, (HP.out.2.1 h).2.1, (HP.out.2.1 h).2.2.bel HBA⟩, fun _ => ⟨rfl, HF3.out.2.2.2, Bk.new w1 66 #[.complex .f64 0 0]⟩, fun h _ => Nat.ne_of_lt (HP.out.2.1 h).2.2.lt⟩⟩
          · exfalso
            have h1 : b1 = true := by simpa using ready_dep hi 1 (by kernel_rfl)
            have h8 : b8 = true := by simpa using ready_dep hi 8 (by kernel_rfl)
            have h5 : b5 = true := HO2 h8
            have h9 : b9 = true := by simpa using ready_dep hi 9 (by kernel_rfl)
            have h10 : b10 = true := by simpa using ready_dep hi 10 (by kernel_rfl)
            have h11 : b11 = true := by simpa using ready_dep hi 11 (by kernel_rfl)
            exact hall (by rw [h1, h5, h8, h9, h10, h11]; rfl)
          · have h : false = true := ready_dep hi 12 (by kernel_rfl)
            cases h
          · have h : false = true := ready_dep hi 13 (by kernel_rfl)
            cases h
end Go.Proofs.YtebdnobgdimdoaaGreat
set_option linter.unusedVariables false
set_option linter.unusedSimpArgs false
namespace Go.Proofs.YtebdnobgdimdoaaGreat
open Go.RowKit
theorem step_jump : StepOk 1 := fun p ls v N w0 W k ins h _ _ _ _ _ _ _ _ _ hk s hsk fn dst src reg off imm him hm r hr => jump_any p ls v N W k ins h hk s hsk 1 fn dst src reg off imm him hm rfl r hr
theorem step_help : StepOk 5 := fun p ls v N w0 W k ins h h1 h2 h3 h4 h5 h6 h7 h8 h9 hk s hsk fn dst src reg off imm him hm r hr => help_any p ls v N w0 W k ins h h1 h2 h3 h4 h5 h6 h7 h8 h9 hk s hsk 5 fn dst src reg off imm him hm rfl r hr
theorem step_call : StepOk 6 := fun p ls v N w0 W k ins h h1 h2 h3 h4 h5 h6 h7 h8 h9 hk s hsk fn dst src reg off imm him hm r hr => call_any p ls v N w0 W k ins h h1 h2 h3 h4 h5 h6 h7 h8 h9 hk s hsk 6 fn dst src reg off imm him hm rfl r hr
theorem step_all {op : Int} (h0 : 0 ≤ op) (h8 : op < 8) : StepOk op := by
  rcases (show op = 0 ∨ op = 1 ∨ op = 2 ∨ op = 3 ∨ op = 4 ∨ op = 5 ∨ op = 6 ∨ op = 7 by omega) with rfl | rfl | rfl | rfl | rfl | rfl | rfl | rfl
  · exact step_alu
  · exact step_jump
  · exact step_ctx
  · exact step_load
  · exact step_store
  · exact step_help
  · exact step_call
  · exact step_exit
theorem prog_ok {p : List FnD} (h : progMay p = true) (j : Nat) (hj : j < p.length) : crsMay ((p.map FnD.code).getD j []) = true := by
  rw [List.getD_eq_getElem?_getD, List.getElem?_map, List.getElem?_eq_getElem hj]
  exact (fn_fine h hj).1
theorem steps_all (p : List FnD) (ls : List SchD) (fn : Nat) : StepsFor p ls fn := fun hp k ins s h1 h2 h3 => by
  rw [show ((fn : Int)).toNat = fn by omega] at h2 ⊢
  by_cases hj : fn < p.length
  · obtain ⟨-, -, hok⟩ := crsMay_facts (prog_ok hp fn hj)
    have := hok k h2
    have := of_decide_eq_true (p := mayP _ _ _ _ _ _ _) this
    unfold mayP at this
    exact step_all this.1.1 this.1.2
  · rw [List.getD_eq_getElem?_getD, List.getElem?_map, List.getElem?_eq_none (by omega)] at h2
    simp at h2
/-- verify.Verify. -/
theorem verify_all (A : Option Addr) (c n : Nat) (p : List FnD) (Q : Option Addr) (nl cQ : Nat) (ls : List SchD) (w : World) (hp : Sl FnR 2 w A c p) (hn : p.length = n) (hls : Sl SchR 4 w Q cQ ls) (hnl : ls.length = nl) (m er : Int) (hr : Hid (verifyV p ls = (m, er))) :
    Calls Tryz.prog 11 #[.agg #[.slice A n c], .slice Q nl cQ] w fun e w' => e = .returned (.tuple #[.int .i64 m, .int .i64 er]) ∧ Bel w w' :=
  verify_any A c n p Q nl cQ ls w (Lib.hid hp) (Lib.hid hn) (Lib.hid hls) (Lib.hid hnl) m er hr (Lib.hid fun fn _ _ => steps_all p ls fn)
end Go.Proofs.YtebdnobgdimdoaaGreat
