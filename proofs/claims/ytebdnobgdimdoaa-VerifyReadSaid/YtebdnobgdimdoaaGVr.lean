/- VerifyRead: plain laws. A program, and schemas, read, among the texts of chapter 11. VerifyRead: its walk. -/
import Derived.Test.YtebdnobgdimdoaaZVa
import Derived.Test.YtebdnobgdimdoaaPg17
set_option linter.unusedVariables false
set_option linter.unusedSimpArgs false
namespace Go.Proofs.Ytebdnobgdimdoaa
open Go.RowKit

/-- The first function's code is replaced by one in a row of its own. -/
theorem OwnR.code {w : World} {z0 : FnD × Value} {zs : List (FnD × Value)} {D cD n : Nat} {X X2 : World} {x : InstD} {v' : Value} (h : OwnR w (z0 :: zs) (.slice (some ⟨D, 0, none⟩) n cD) X) (hn : n = zs.length + 1) (hb : Bel X X2) {m : Nat} (hm : m = z0.1.code.length + 1)
    (ho : X2.ownsRow X.heap.size 32 7 v' m (x.cells ++ z0.1.code.flatMap InstD.cells)) :
    OwnR w ((⟨z0.1.args, x :: z0.1.code⟩, v') :: zs) (.slice (some ⟨D, 0, none⟩) n cD) (X2.setCell ⟨D, 1, none⟩ v') := by
  subst hn hm
  have hown := own_bel h.own hb
  obtain ⟨curD, hD0, hDb⟩ : ∃ cur, X2.heap[D]? = some (.cells cur 34 (0, 0)) ∧ w.heap.size ≤ D := by
    rcases hown.2 with ⟨e, _⟩ | ⟨g', cap, cur, e, h1, h2, _⟩
    · cases e
    · simp only [Value.slice.injEq, Option.some.injEq, Addr.mk.injEq, and_true, true_and] at e
      obtain ⟨rfl, -⟩ := e
      exact ⟨cur, h2, h1⟩
  refine ⟨(h.bel.trans hb).setCell (p := ⟨D, 1, none⟩) hDb v', ?_, ?_, ?_⟩
  · have h1 := own_setIn hown 1 v'
    have e : (((z0 :: zs).flatMap fnc).set 1 v') = (((⟨z0.1.args, x :: z0.1.code⟩, v') : FnD × Value) :: zs).flatMap fnc := by
      simp [fnc]
    rw [e] at h1
    exact h1
  · intro z hz
    rcases List.mem_cons.1 hz with rfl | hz
    · have h2 : X2.ownsRow w.heap.size 32 7 v' (z0.1.code.length + 1) (x.cells ++ z0.1.code.flatMap InstD.cells) := own_mono ho h.bel.size
      exact ownsRow_setCell_other h2 (own_not h2 hD0 (by decide)) v'
    · have h2 := own_bel (h.codes z (List.mem_cons_of_mem _ hz)) hb
      exact ownsRow_setCell_other h2 (own_not h2 hD0 (by decide)) v'
  · have ha := List.pairwise_cons.1 h.apart
    refine List.pairwise_cons.2 ⟨fun r hr hne e => ?_, ha.2⟩
    cases hk : r.2.ownBlock with
    | none => exact hne (e.trans hk)
    | some k =>
      have h1 := own_ltN (h.codes r (List.mem_cons_of_mem _ hr)) hk
      have h2 := ho.lt k (e.trans hk)
      omega
/-- A program whose first instruction reads a register is not accepted. -/
def readsB (x : InstD) (n : Int) : Prop := (x.op = 0 ∧ x.fn ≠ 0 ∧ x.dst = n) ∨ (x.op = 0 ∧ x.reg = true ∧ x.src = n) ∨ (x.op = 4 ∧ x.dst = n)
theorem shNew0 (n : Int) : shGet (shNew 0) n = none := by
  unfold shGet shNew
  split
  · rw [if_neg (by omega)]
  · rfl
theorem read_step {p : List FnD} {ls : List SchD} {x : InstD} {n : Int} (h : readsB x n) (ins : InsD) : vStep p 0 ls 0 x (shNew 0) ins = none := by
  rcases h with ⟨h1, h2, rfl⟩ | ⟨h1, h2, rfl⟩ | ⟨h1, rfl⟩
  · unfold vStep
    rw [if_pos h1, if_neg h2, shNew0]
    cases shWord (shNew 0) x <;> rfl
  · unfold vStep
    rw [if_pos h1]
    unfold shWord
    rw [if_pos h2, shNew0]
    rfl
  · unfold vStep
    rw [h1, if_neg (by decide), if_neg (by decide), if_neg (by decide), if_neg (by decide), if_pos rfl, shNew0]
    rfl
theorem read_upto {p : List FnD} {ls : List SchD} {x : InstD} {l : List InstD} {n : Int} (h : readsB x n) : ∀ k, vUpto p 0 ls (x :: l) 0 (k + 1) = none
  | 0 => by
    rw [vUpto, vUpto]
    simp only [Option.bind_some, List.length_cons, List.replicate_succ, List.set_cons_zero, List.getD_cons_zero]
    exact read_step h _
  | k + 1 => by
    rw [vUpto, read_upto h k]
    rfl
theorem read_args {a : Int} {x : InstD} {l : List InstD} {L : List FnD} (h : progMay (⟨a, x :: l⟩ :: L) = true) : a = 0 := by
  unfold progMay at h
  simp only [Bool.and_eq_true, decide_eq_true_eq, List.map_cons, List.getD_cons_zero] at h
  exact h.1.2
theorem read_err {a : Int} {x : InstD} {l : List InstD} {L : List FnD} {ls : List SchD} {n : Int} (h : readsB x n) : verErr (⟨a, x :: l⟩ :: L) ls 1 ≠ 0 := by
  rw [verErr, verErr, if_neg (by simp)]
  have e : (vShapes (⟨a, x :: l⟩ :: L) ((0 : Nat) : Int) ls).2 ≠ 0 := by
    unfold vShapes
    split
    · rename_i hp
      obtain rfl := read_args hp.1
      rw [if_pos (by simp)]
      have q := read_upto (p := ⟨0, x :: l⟩ :: L) (ls := ls) (l := l) h l.length
      simp only [List.map_cons, Int.toNat_natCast, List.getD_cons_zero, List.length_cons, Int.toNat_zero] at q ⊢
      rw [q]
      decide
    · decide
  rw [if_pos e]
  exact e
theorem read_bad {a : Int} {x : InstD} {l : List InstD} {L : List FnD} {ls : List SchD} {n : Int} (h : readsB x n) : ∃ er, verifyV (⟨a, x :: l⟩ :: L) ls = (0, er) ∧ er ≠ 0 := by
  obtain ⟨er, he⟩ : ∃ er, verErr (⟨a, x :: l⟩ :: L) ls 1 = er := ⟨_, rfl⟩
  have h1 : er ≠ 0 := by rw [← he]; exact read_err h
  refine ⟨er, ?_, h1⟩
  unfold verifyV
  rw [verErr_stay he h1 _ (Nat.le_max_left _ _), if_pos h1]
theorem read_steps {a : Int} {x : InstD} {l : List InstD} {L : List FnD} {ls : List SchD} {n : Int} (h : readsB x n) (fn : Nat) (hfn : fn < max 1 (⟨a, x :: l⟩ :: L : List FnD).length) (he : verErr (⟨a, x :: l⟩ :: L) ls fn = 0) : StepsFor (⟨a, x :: l⟩ :: L) ls fn := by
  cases fn with
  | zero =>
    intro hp k ins s h1 h2 h3
    obtain rfl := read_args hp
    cases k with
    | zero =>
      show StepOk x.op
      rcases h with ⟨h1, _⟩ | ⟨h1, _⟩ | ⟨h1, _⟩
      · rw [h1]; exact step_alu
      · rw [h1]; exact step_alu
      · rw [h1]; exact step_store
    | succ k =>
      have q := read_upto (p := ⟨0, x :: l⟩ :: L) (ls := ls) (l := l) h k
      have h1' : vUpto (⟨0, x :: l⟩ :: L) 0 ls (x :: l) 0 (k + 1) = some ins := h1
      rw [q] at h1'
      cases h1'
  | succ fn => exact absurd (verErr_stay (e := verErr (⟨a, x :: l⟩ :: L) ls 1) rfl (read_err h) (fn + 1) (by omega)) (fun e => read_err h (e.symm.trans he))
/-- The three instructions. -/
def rdA (n : Int) : InstD := ⟨0, 1, n, 0, false, 0, 1⟩
def rdB (n : Int) : InstD := ⟨0, 0, 6, n, true, 0, 0⟩
def rdC (n : Int) : InstD := ⟨4, 0, n, 0, false, 0, 0⟩
theorem rdA_r (n : Int) : readsB (rdA n) n := .inl ⟨rfl, by simp [rdA], rfl⟩
theorem rdB_r (n : Int) : readsB (rdB n) n := .inr (.inl ⟨rfl, rfl, rfl⟩)
theorem rdC_r (n : Int) : readsB (rdC n) n := .inr (.inr ⟨rfl, rfl⟩)
theorem lit_i64 {n : Int} (h0 : 0 ≤ n) (h7 : n ≤ 7) : I64 n := by constructor <;> omega
theorem rdA_wf {n : Int} (h0 : 0 ≤ n) (h7 : n ≤ 7) : (rdA n).Wf := ⟨(by constructor <;> decide : I64 0), (by constructor <;> decide : I64 1), lit_i64 h0 h7, (by constructor <;> decide : I64 0), (by constructor <;> decide : I64 0), (by constructor <;> decide : U32 1)⟩
theorem rdB_wf {n : Int} (h0 : 0 ≤ n) (h7 : n ≤ 7) : (rdB n).Wf := ⟨(by constructor <;> decide : I64 0), (by constructor <;> decide : I64 0), (by constructor <;> decide : I64 6), lit_i64 h0 h7, (by constructor <;> decide : I64 0), (by constructor <;> decide : U32 0)⟩
theorem rdC_wf {n : Int} (h0 : 0 ≤ n) (h7 : n ≤ 7) : (rdC n).Wf := ⟨(by constructor <;> decide : I64 4), (by constructor <;> decide : I64 0), lit_i64 h0 h7, (by constructor <;> decide : I64 0), (by constructor <;> decide : I64 0), (by constructor <;> decide : U32 0)⟩
end Go.Proofs.Ytebdnobgdimdoaa
set_option linter.unusedVariables false
set_option linter.unusedSimpArgs false
namespace Go.Proofs.Ytebdnobgdimdoaa
open Go.RowKit

def ProgR (w : World) (cs : List Value) (L : List FnD) : Prop := ∃ A c, cs = [.slice A L.length c] ∧ Sl FnR 2 w A c L
theorem cells_Fn : Try.prog.cellsOf 34 = 2 := by kernel_rfl
theorem cells_Prog : Try.prog.cellsOf 24 = 1 := by kernel_rfl
theorem cells_insts : Try.prog.cellsOf 29 = 1 := by kernel_rfl
theorem cells_fns : Try.prog.cellsOf 22 = 1 := by kernel_rfl
theorem cells_Schema : Try.prog.cellsOf 40 = 4 := by kernel_rfl
section
variable {H : Type} {enc : TypeId × Value → H} {w : World} {base : Nat} {spare : Nat → Bool} {held : Bool}
theorem open_Fn {n : Nat} {cs : List Value} {y : DataW H × List MemPlace} (h : DataW.trod enc Try.prog w base spare held n 34 cs = some y) : ∃ x : FnD, FnR w cs x := by
  obtain ⟨m, hl, hf⟩ := trod_field Try.underlying34 h
  rw [cells_Fn] at hl
  match cs, hl with
  | [v0, v1], _ =>
  obtain ⟨y0, h0⟩ := hf 0 3 0 1 rfl cells_int
  obtain ⟨y1, h1⟩ := hf 1 29 1 1 rfl cells_insts
  obtain ⟨a0, e0, _, w0⟩ := DataW.trod_int Try.underlying3 h0
  obtain ⟨A, c, l, e1, hs⟩ := open_sl (R := InstR) (sz := 7) Try.underlying29 cells_Inst (by decide) (fun n cs y hl hy => open_Inst hy) h1
  simp at e0 e1
  subst e0 e1
  exact ⟨⟨a0, l⟩, A, c, rfl, hs, w0⟩
theorem open_Prog {n : Nat} {cs : List Value} {y : DataW H × List MemPlace} (h : DataW.trod enc Try.prog w base spare held n 24 cs = some y) : ∃ L : List FnD, ProgR w cs L := by
  obtain ⟨m, hl, hf⟩ := trod_field Try.underlying24 h
  rw [cells_Prog] at hl
  match cs, hl with
  | [v0], _ =>
  obtain ⟨y0, h0⟩ := hf 0 22 0 1 rfl cells_fns
  obtain ⟨A, c, L, e0, hs⟩ := open_sl (R := FnR) (sz := 2) Try.underlying22 cells_Fn (by decide) (fun n cs y hl hy => open_Fn hy) h0
  simp at e0
  subst e0
  exact ⟨L, A, c, rfl, hs⟩
theorem open_Schema {n : Nat} {cs : List Value} {y : DataW H × List MemPlace} (h : DataW.trod enc Try.prog w base spare held n 40 cs = some y) : ∃ x : SchD, SchR w cs x := by
  obtain ⟨m, hl, hf⟩ := trod_field Try.underlying40 h
  rw [cells_Schema] at hl
  match cs, hl with
  | [v0, v1, v2, v3], _ =>
  obtain ⟨y0, h0⟩ := hf 0 3 0 1 rfl cells_int
  obtain ⟨y1, h1⟩ := hf 1 3 1 1 rfl cells_int
  obtain ⟨y2, h2⟩ := hf 2 3 2 1 rfl cells_int
  obtain ⟨y3, h3⟩ := hf 3 3 3 1 rfl cells_int
  obtain ⟨a0, e0, _, w0⟩ := DataW.trod_int Try.underlying3 h0
  obtain ⟨a1, e1, _, w1⟩ := DataW.trod_int Try.underlying3 h1
  obtain ⟨a2, e2, _, w2⟩ := DataW.trod_int Try.underlying3 h2
  obtain ⟨a3, e3, _, w3⟩ := DataW.trod_int Try.underlying3 h3
  simp at e0 e1 e2 e3
  subst e0 e1 e2 e3
  exact ⟨⟨a0, a1, a2, a3⟩, rfl, w0, w1, w2, w3⟩
end
end Go.Proofs.Ytebdnobgdimdoaa
set_option linter.unusedVariables false
set_option linter.unusedSimpArgs false
namespace Go.Proofs.Ytebdnobgdimdoaa
open Go.RowKit

theorem OwnR.put0 {w : World} {z0 : FnD × Value} {zs : List (FnD × Value)} {v : Value} {X : World} {y : InstD} {l : List InstD} (h : OwnR w (z0 :: zs) v X) (hc : z0.1.code = y :: l) :
    ∃ D cD G cG, v = .slice (some ⟨D, 0, none⟩) (zs.length + 1) cD ∧ z0.2 = .slice (some ⟨G, 0, none⟩) (l.length + 1) cG ∧ X.cell? ⟨D, 1, none⟩ = some (.slice (some ⟨G, 0, none⟩) (l.length + 1) cG) ∧ (∀ j, X.frozen? ⟨G, j, none⟩ = false) ∧ (∀ j, j < 7 → ∃ u, X.cell? ⟨G, j, none⟩ = some u) ∧
      ∀ (x : InstD) (q : Nat) (cs : Array Value), Blk X q 24 cs → OwnR w ((⟨z0.1.args, x :: l⟩, z0.2) :: zs) v (set7 X G 0 x) ∧ Blk (set7 X G 0 x) q 24 cs := by
  have hcd := h.codes z0 List.mem_cons_self
  rw [hc] at hcd
  obtain ⟨G, cG, hv2⟩ : ∃ G cG, z0.2 = .slice (some ⟨G, 0, none⟩) (l.length + 1) cG := own_form hcd
  obtain ⟨D, cD, hv1⟩ : ∃ D cD, v = .slice (some ⟨D, 0, none⟩) (zs.length + 1) cD := own_form h.own
  subst hv1
  rw [hv2] at hcd
  obtain ⟨curG, hG0, hGb⟩ : ∃ cur, X.heap[G]? = some (.cells cur 32 (0, 0)) ∧ w.heap.size ≤ G := by
    rcases hcd.2 with ⟨e, _⟩ | ⟨g', cap, cur, e, h1, h2, _⟩
    · cases e
    · simp only [Value.slice.injEq, Option.some.injEq, Addr.mk.injEq, and_true, true_and] at e
      obtain ⟨rfl, -⟩ := e
      exact ⟨cur, h2, h1⟩
  refine ⟨D, cD, G, cG, rfl, hv2, ?_, fun j => by simp [World.frozen?, hG0], ?_, ?_⟩
  · rcases own_openP h.own with ⟨e, _⟩ | ⟨g, c, e, -, -, -, -, -, hcl⟩
    · cases e
    · simp only [Value.slice.injEq, Option.some.injEq, Addr.mk.injEq, and_true, true_and] at e
      obtain ⟨rfl, -⟩ := e
      refine hcl 1 _ ?_
      simp [fnc, hv2]
  · intro j hj
    rcases own_openP hcd with ⟨e, _⟩ | ⟨g, c, e, -, -, -, -, -, hcl⟩
    · cases e
    · simp only [Value.slice.injEq, Option.some.injEq, Addr.mk.injEq, and_true, true_and] at e
      obtain ⟨rfl, -⟩ := e
      have hl : j < ((y :: l).flatMap InstD.cells).length := by rw [flat7, List.length_cons]; omega
      exact ⟨_, hcl j _ (List.getElem?_eq_getElem hl)⟩
  · intro x q cs hq
    have hb2 := bel_set7 h.bel hGb 0 x
    have ha := List.pairwise_cons.1 h.apart
    refine ⟨⟨hb2, ?_, ?_, ?_⟩, blk_set7 hq (blk_not hq hG0 (by decide)) 0 x⟩
    · exact own_set7_other h.own (own_not h.own hG0 (by decide)) 0 x
    · intro z hz
      rcases List.mem_cons.1 hz with rfl | hz
      · have h1 := own_set7 hcd 0 x
        have e2 := lset7_flat x (y :: l) 0 (by simp)
        rw [Nat.zero_mul] at e2
        rw [e2, List.set_cons_zero] at h1
        simp only
        rw [hv2]
        exact h1
      · refine own_set7_other (h.codes z (List.mem_cons_of_mem _ hz)) (fun e => ?_) 0 x
        exact ha.1 z hz (by rw [hv2]; simp [Value.ownBlock]) (by rw [e, hv2]; rfl)
    · exact List.pairwise_cons.2 ⟨fun r hr => ha.1 r hr, ha.2⟩
theorem set7_store {X : World} {G : Nat} (x : InstD) (PC : ∀ j, j < 7 → ∃ u, X.cell? ⟨G, j, none⟩ = some u) (PF : ∀ j, X.frozen? ⟨G, j, none⟩ = false) : (storeVar 32 ⟨G, 0, none⟩ (.agg x.cells.toArray)).run Try.prog X = .ok () (set7 X G 0 x) :=
  run_storeVar_mid X G 0 32 x.cells.toArray (fun j hj => by
    obtain ⟨u, hu⟩ := PC j hj
    rw [Nat.zero_add, hu]
    exact ⟨rfl, PF j⟩) (by kernel_rfl) (by simp [InstD.cells, Value.oneCell'])
/-- 'append' of a code onto one instruction in a new row. -/
theorem app_code (ty : TypeId) {X X1 : World} {s b lk c0 : Nat} {A0 : Option Addr} {l : List InstD} {x : InstD} (ho : X1.ownsRow s 32 7 (.slice (some ⟨s, 0, none⟩) 1 1) 1 x.cells) (hs : s = X.heap.size) (hba : Bel X X1) (h : X.ownsRow b 32 7 (.slice A0 lk c0) lk (l.flatMap InstD.cells)) (hm : l.length = lk) (hx : lk ≤ 4096) :
    ∃ v' w', (Builtin.append_ #[29, 29] ty #[.slice (some ⟨s, 0, none⟩) 1 1, .slice A0 lk c0]).run Try.prog X1 = .ok v' w' ∧ w'.ownsRow s 32 7 v' (1 + lk) (x.cells ++ l.flatMap InstD.cells) ∧ Bel X w' ∧ ∃ A' c', v' = .slice A' (1 + lk) c' := by
  obtain ⟨i0, hi, hzz⟩ := Option.map_eq_some_iff.1 info_inst
  simp only [Prod.mk.injEq] at hzz
  obtain ⟨hz0, hz1, hz2⟩ := hzz
  have h1 := own_bel h hba
  rcases own_openP h1 with ⟨e, h0⟩ | ⟨g, c, e, hg1, hg2, hc1, hc2, hfz, hcl⟩
  · obtain ⟨rfl, -, rfl⟩ : A0 = none ∧ lk = 0 ∧ c0 = 0 := by simpa using e
    subst h0
    obtain rfl : l = [] := List.eq_nil_of_length_eq_zero hm
    refine ⟨.slice (some ⟨s, 0, none⟩) 1 1, _, ?_, by simpa using ho, hba, _, 1, rfl⟩
    simp [Builtin.append_, run_underlying Try.underlying29, sizeOf, typeInfo, hi, Builtin.lenOf, Builtin.firstCells, storeCells]
  · obtain ⟨rfl, rfl⟩ : A0 = some ⟨g, 0, none⟩ ∧ c0 = c := by simpa using e
    obtain ⟨v', w', hr, h2, h3, _, h5⟩ := run_append_own_at (P := Try.prog) _ s _ ty 32 i0 _ 7 56 Try.underlying29 hi hz0 hz1 hz2 rfl (by decide) _ 1 x.cells ho ⟨g, 0, none⟩ lk c0 (l.flatMap InstD.cells) (by rw [flat7, hm]) (fun j u hu => by rw [Addr.add_lit, Nat.zero_add]; exact hcl j u hu) (insts_one l) (by simp only [maxLen]; omega) (by omega) (by rw [hs]; exact hba.size)
    exact ⟨v', w', hr, h2, hba.grown h3 (fun k hk => by simp [Value.ownBlock] at hk; omega), own_slice h2⟩
theorem new_row (X : World) (x : InstD) : (X.alloc (.cells x.cells.toArray 32)).drew.ownsRow X.heap.size 32 7 (.slice (some ⟨X.heap.size, 0, none⟩) 1 1) 1 x.cells :=
  own_bel ⟨rfl, .inr ⟨X.heap.size, 1, x.cells.toArray, rfl, Nat.le_refl _, Blk.new X _ _, Nat.le_refl _, by decide, rfl, rfl⟩⟩ ((Bel.refl _).drew)
theorem OwnR.slD {w : World} {zs : List (FnD × Value)} {A : Option Addr} {n cD : Nat} {X : World} (h : OwnR w zs (.slice A n cD) X) (hw : ∀ f ∈ zs.map Prod.fst, FnWf f) : Sl FnR 2 X A cD (zs.map Prod.fst) := by
  obtain ⟨A', c', es, hs⟩ := h.sl hw
  simp only [Value.slice.injEq] at es
  obtain ⟨rfl, -, rfl⟩ := es
  exact hs
theorem OwnR.notD {w : World} {zs : List (FnD × Value)} {D n cD q : Nat} {X : World} {cs : Array Value} (h : OwnR w zs (.slice (some ⟨D, 0, none⟩) n cD) X) (hq : Blk X q 24 cs) : q ≠ D := by
  rcases h.own.2 with ⟨e, _⟩ | ⟨g', cap, cur, e, h1, h2, _⟩
  · cases e
  · obtain ⟨rfl, -⟩ : D = g' ∧ cD = cap := by simp at e; exact ⟨e.1, e.2.2⟩
    exact blk_not hq h2 (by decide)

set_option maxHeartbeats 8000000 in
set_option maxRecDepth 100000 in
theorem VerifyRead_walk (C : Array Value) (LL : List FnD) (Q : Option Addr) (cQ : Nat) (ls : List SchD) (r : Int) (W : World) (hp : ProgR W C.toList LL) (hls : Sl SchR 4 W Q cQ ls) (hr : (Lit.int .i64 r).wf = true) :
    Calls Try.prog 3 #[.agg C, .slice Q ls.length cQ, .int .i64 r] W fun e w' => e = .returned (.bool true) ∧ Bel W w' := by
  obtain ⟨A, c, hC, hsl⟩ := hp
  obtain rfl : C = #[.slice A LL.length c] := by cases C; simpa using hC
  clear hC hr
  obtain ⟨n, hn0⟩ : ∃ n, LL.length = n := ⟨_, rfl⟩
  have hn := Lib.hid hn0
  rw [hn0]
  obtain ⟨nl, hnl0⟩ : ∃ n, ls.length = n := ⟨_, rfl⟩
  have hnl := Lib.hid hnl0
  rw [hnl0]
  have HBa := Lib.hid ((Bel.refl W).alloc (.cells #[.slice A n c] 24))
  have HS := Lib.hid (hsl.mono FnR.mono HBa.out)
  have HLQ := Lib.hid (hls.mono SchR.mono HBa.out)
  have K0 := Lib.hid (Blk.new W 24 #[.slice A n c])
  obtain ⟨fv, hfv⟩ : ∃ fv, Hid (fewB LL = fv) := ⟨_, Lib.hid rfl⟩
  clear hsl hn0 hls hnl0
  go_enter Try.func3, Try.ntmps3
  go_wp2_with fail
  generalize W.alloc (.cells #[.slice A n c] 24) = W1 at *
  generalize W.heap.size = g at *
  refine (awake11 _).mono ?_
  rintro e w1 ⟨rfl, hb⟩
  have HB1 := Lib.hid hb
  clear hb
  have q1 := (K0.out.bel HB1.out).cell 0 rfl
  go_wp2_with fail
  refine (refFew_any A c n LL fv _ (HS.out.mono FnR.mono HB1.out) hn hfv).mono ?_
  rintro e w2 ⟨rfl, hb⟩
  have HB := Lib.hid (HB1.out.trans hb)
  clear hb q1 HB1
  cases fv
  · go_wp2_with fail
    go_ret
    exact ⟨by first | rfl | simp, HBa.out.trans HB.out⟩
  have q2 := (K0.out.bel HB.out).cell 0 (v := .slice A n c) rfl
  by_cases i0 : r < 0
  · go_wp2_with fail
    go_ret
    exact ⟨by first | rfl | simp, HBa.out.trans HB.out⟩
  by_cases i1 : 7 < r
  · have t1 : decide (r < 0) = false := decide_eq_false (by omega)
    have t2 : decide (7 < r) = true := decide_eq_true i1
    clear i0 i1
    go_wp2_with fail
    go_ret
    exact ⟨by first | rfl | simp, HBa.out.trans HB.out⟩
  have t1 : decide (r < 0) = false := decide_eq_false (by omega)
  have t2 : decide (7 < r) = false := decide_eq_false (by omega)
  have r0 : 0 ≤ r := by omega
  have r1 : r ≤ 7 := by omega
  clear i0 i1
  cases LL with
  | nil =>
    obtain rfl : 0 = n := hn.out
    go_wp2_with fail
    go_ret
    exact ⟨by first | rfl | simp, HBa.out.trans HB.out⟩
  | cons f0 L =>
  obtain ⟨a0, l0⟩ := f0
  have hmn : L.length + 1 = n := by have := hn.out; simpa using this
  have n0 : ((n : Int) == 0) = false := by simp; omega
  have n1 : ¬ n = 0 := by omega
  have np : 0 < n := by omega
  have np2 : (0 : Int) < n := by omega
  go_wp2_with fail
  have HFEW := Lib.hid (few_facts hfv.out)
  have hn12 : n ≤ 12 := by rw [← hn.out]; exact HFEW.out.1
  obtain ⟨lk, hlk⟩ : ∃ lk, Hid (l0.length = lk) := ⟨_, Lib.hid rfl⟩
  have hlk80 : lk ≤ 80 := by rw [← hlk.out]; exact HFEW.out.2 ⟨a0, l0⟩ List.mem_cons_self
  have HBz := HB
  clear HB
  have HLS := Lib.hid (HLQ.out.mono SchR.mono HBz.out)
  have HS2 := Lib.hid (HS.out.mono FnR.mono HBz.out)
  have hwf0 := Lib.hid (sl_wf HS2.out)
  refine (own_any _ c n (⟨a0, l0⟩ :: L) _ HS2.out hn (by omega) (Lib.hid (fun f hf => Nat.le_trans (HFEW.out.2 f hf) (by decide)))).mono ?_
  rintro e w3 ⟨zs0, v, rfl, hzs0, ho⟩
  obtain ⟨z0, zs, rfl⟩ : ∃ z0 zs, zs0 = z0 :: zs := by
    cases zs0 with
    | nil => simp at hzs0
    | cons z0 zs => exact ⟨z0, zs, rfl⟩
  obtain ⟨z0f, z0v⟩ := z0
  simp only [List.map_cons, List.cons.injEq] at hzs0
  obtain ⟨rfl, hzs1⟩ := hzs0
  have hzs := Lib.hid hzs1
  have hzl : zs.length + 1 = n := by rw [← hmn, ← hzs1, List.length_map]
  clear hzs1
  obtain ⟨D, cD, hv⟩ : ∃ D cD, v = .slice (some ⟨D, 0, none⟩) n cD := by
    have h1 := ho.own
    rw [show ((⟨a0, l0⟩, z0v) :: zs : List (FnD × Value)).length = zs.length + 1 from rfl] at h1
    rw [← hzl]
    exact own_form h1
  subst hv
  obtain ⟨A0, c0, hz0⟩ : ∃ A0 c0, z0v = .slice A0 lk c0 := by
    rw [← hlk.out]
    exact own_slice (ho.codes (⟨a0, l0⟩, z0v) List.mem_cons_self)
  subst hz0
  have hwl : ∀ (x : InstD) (vv : Value), x.Wf → ∀ f ∈ List.map Prod.fst (((⟨a0, x :: l0⟩, vv) :: zs) : List (FnD × Value)), FnWf f := by
    intro x vv hx f hf
    rw [List.map_cons, hzs.out] at hf
    rcases List.mem_cons.1 hf with rfl | hf
    · have h1 := hwf0.out ⟨a0, l0⟩ List.mem_cons_self
      refine ⟨fun i hi => ?_, h1.2⟩
      rcases List.mem_cons.1 hi with rfl | hi
      · exact hx
      · exact h1.1 i hi
    · exact hwf0.out f (List.mem_cons_of_mem _ hf)
  have PDH : Hid (∀ X : World, OwnR w2 ((⟨a0, l0⟩, .slice A0 lk c0) :: zs) (.slice (some ⟨D, 0, none⟩) n cD) X → X.cell? ⟨D, 1, none⟩ = some (.slice A0 lk c0)) := Lib.hid (by
    intro X h
    rcases own_openP h.own with ⟨e, _⟩ | ⟨g, c, e, -, -, -, -, -, hcl⟩
    · cases e
    · obtain ⟨rfl, -⟩ : D = g ∧ cD = c := by simp at e; exact ⟨e.1, e.2.2⟩
      exact hcl 1 _ (by simp [fnc]))
  have PFH : Hid (∀ X : World, OwnR w2 ((⟨a0, l0⟩, .slice A0 lk c0) :: zs) (.slice (some ⟨D, 0, none⟩) n cD) X → X.frozen? ⟨D, 1, none⟩ = false) := Lib.hid (by
    intro X h
    rcases own_openP h.own with ⟨e, _⟩ | ⟨g, c, e, -, -, -, -, hfz, -⟩
    · cases e
    · obtain ⟨rfl, -⟩ : D = g ∧ cD = c := by simp at e; exact ⟨e.1, e.2.2⟩
      exact hfz 1)
  have KQ := Lib.hid (Blk.new w3 24 #[.slice (some ⟨D, 0, none⟩) n cD])
  go_wp2_with fail
  have hwl := Lib.hid hwl
  have hmn := Lib.hid hmn
  have hzl := Lib.hid hzl
  have HX := Lib.hid (ho.mono ((Bel.refl w3).alloc (.cells #[.slice (some ⟨D, 0, none⟩) n cD] 24)))
  generalize w3.alloc (.cells #[.slice (some ⟨D, 0, none⟩) n cD] 24) = Wq at *
  generalize w3.heap.size = q at *
  have HC : Hid (Wq.ownsRow w2.heap.size 32 7 (.slice A0 lk c0) lk (l0.flatMap InstD.cells)) := Lib.hid (by have := HX.out.codes _ List.mem_cons_self; rwa [hlk.out] at this)
  have SD := (Bel.refl Wq).drew
  have PQ := fun (w' : World) (h : Bel Wq w') => h.cell (KQ.out.cell 0 (v := .slice (some ⟨D, 0, none⟩) n cD) rfl)
  have PD := fun (w' : World) (h : Bel Wq w') => h.cell (PDH.out Wq HX.out)
  have FD := fun (w' : World) (h : Bel Wq w') => (h.frozen (PDH.out Wq HX.out)).trans (PFH.out Wq HX.out)
  refine wp_region_T (fun w' => Bel Wq w') (fun j => j == 13 || j == 12) (by kernel_rfl) ?_
  refine wpAnyU_take (i := 0) (v := ?v0) rfl (by kernel_rfl) (by kernel_rfl) (by kernel_rfl) (by kernel_rfl) (fun _ _ _ h => h) ?hy0 SD ?rest0
  case hy0 => first | (refine Or.inl ⟨by rfl, ?_⟩; (intro w' hSw; go_simp) <;> with_reducible rfl) | (refine Or.inr ⟨by rfl, ?_⟩; with_reducible rfl)
  try simp only [List.getElem_toArray, List.getElem_cons_zero, List.getElem_cons_succ, Act.put, List.setIfInBounds_toArray, List.set_cons_zero, List.set_cons_succ]
  refine wpAnyU_take (i := 1) (v := ?v1) rfl (by kernel_rfl) (by kernel_rfl) (by kernel_rfl) (by kernel_rfl) (fun _ _ _ h => h) ?hy1 SD ?rest1
  case hy1 => first | (refine Or.inl ⟨by rfl, ?_⟩; (intro w' hSw; go_simp) <;> with_reducible rfl) | (refine Or.inr ⟨by rfl, ?_⟩; with_reducible rfl)
  try simp only [List.getElem_toArray, List.getElem_cons_zero, List.getElem_cons_succ, Act.put, List.setIfInBounds_toArray, List.set_cons_zero, List.set_cons_succ]
  refine wpAnyU_take (i := 2) (v := ?v2) rfl (by kernel_rfl) (by kernel_rfl) (by kernel_rfl) (by kernel_rfl) (fun _ _ _ h => h) ?hy2 SD ?rest2
  case hy2 => first | (refine Or.inl ⟨by rfl, ?_⟩; (intro w' hSw; go_simp) <;> with_reducible rfl) | (refine Or.inr ⟨by rfl, ?_⟩; with_reducible rfl)
  try simp only [List.getElem_toArray, List.getElem_cons_zero, List.getElem_cons_succ, Act.put, List.setIfInBounds_toArray, List.set_cons_zero, List.set_cons_succ]
  refine wpAnyU_take (i := 3) (v := ?v3) rfl (by kernel_rfl) (by kernel_rfl) (by kernel_rfl) (by kernel_rfl) (fun _ _ _ h => h) ?hy3 SD ?rest3
  case hy3 => first | (refine Or.inl ⟨by rfl, ?_⟩; (intro w' hSw; go_simp) <;> with_reducible rfl) | (refine Or.inr ⟨by rfl, ?_⟩; with_reducible rfl)
  try simp only [List.getElem_toArray, List.getElem_cons_zero, List.getElem_cons_succ, Act.put, List.setIfInBounds_toArray, List.set_cons_zero, List.set_cons_succ]
  refine wpAnyU_take (i := 5) (v := ?v5) rfl (by kernel_rfl) (by kernel_rfl) (by kernel_rfl) (by kernel_rfl) (fun _ _ _ h => h) ?hy5 SD ?rest5
  case hy5 => first | (refine Or.inl ⟨by rfl, ?_⟩; (intro w' hSw; go_simp) <;> with_reducible rfl) | (refine Or.inr ⟨by rfl, ?_⟩; with_reducible rfl)
  try simp only [List.getElem_toArray, List.getElem_cons_zero, List.getElem_cons_succ, Act.put, List.setIfInBounds_toArray, List.set_cons_zero, List.set_cons_succ]
  refine wpAnyU_take (i := 6) (v := ?v6) rfl (by kernel_rfl) (by kernel_rfl) (by kernel_rfl) (by kernel_rfl) (fun _ _ _ h => h) ?hy6 SD ?rest6
  case hy6 => first | (refine Or.inl ⟨by rfl, ?_⟩; (intro w' hSw; go_simp) <;> with_reducible rfl) | (refine Or.inr ⟨by rfl, ?_⟩; with_reducible rfl)
  try simp only [List.getElem_toArray, List.getElem_cons_zero, List.getElem_cons_succ, Act.put, List.setIfInBounds_toArray, List.set_cons_zero, List.set_cons_succ]
  refine wpAnyU_take (i := 7) (v := ?v7) rfl (by kernel_rfl) (by kernel_rfl) (by kernel_rfl) (by kernel_rfl) (fun _ _ _ h => h) ?hy7 SD ?rest7
  case hy7 => first | (refine Or.inl ⟨by rfl, ?_⟩; (intro w' hSw; go_simp) <;> with_reducible rfl) | (refine Or.inr ⟨by rfl, ?_⟩; with_reducible rfl)
  try simp only [List.getElem_toArray, List.getElem_cons_zero, List.getElem_cons_succ, Act.put, List.setIfInBounds_toArray, List.set_cons_zero, List.set_cons_succ]
  refine wpAnyU_take (i := 8) (v := ?v8) rfl (by kernel_rfl) (by kernel_rfl) (by kernel_rfl) (by kernel_rfl) (fun _ _ _ h => h) ?hy8 SD ?rest8
  case hy8 => first | (refine Or.inl ⟨by rfl, ?_⟩; (intro w' hSw; go_simp) <;> with_reducible rfl) | (refine Or.inr ⟨by rfl, ?_⟩; with_reducible rfl)
  try simp only [List.getElem_toArray, List.getElem_cons_zero, List.getElem_cons_succ, Act.put, List.setIfInBounds_toArray, List.set_cons_zero, List.set_cons_succ]
  refine wpAnyU_take (i := 9) (v := ?v9) rfl (by kernel_rfl) (by kernel_rfl) (by kernel_rfl) (by kernel_rfl) (fun _ _ _ h => h) ?hy9 SD ?rest9
  case hy9 => first | (refine Or.inl ⟨by rfl, ?_⟩; (intro w' hSw; go_simp) <;> with_reducible rfl) | (refine Or.inr ⟨by rfl, ?_⟩; with_reducible rfl)
  try simp only [List.getElem_toArray, List.getElem_cons_zero, List.getElem_cons_succ, Act.put, List.setIfInBounds_toArray, List.set_cons_zero, List.set_cons_succ]
  refine wpAnyT_one (i := 4) (by kernel_rfl) rfl (fun K hK => ?_)
  go_simp
  refine hK.out _ _ (fun _ => ((Bel.refl Wq).alloc _).drew) ?_
  clear hK K
  try simp only [List.getElem_toArray, List.getElem_cons_zero, List.getElem_cons_succ, Act.put, List.setIfInBounds_toArray, List.set_cons_zero, List.set_cons_succ]
  refine wpAnyT_one (i := 10) (by kernel_rfl) rfl (fun K hK => ?_)
  refine step_append_run (by rfl) _ _ _ (by rfl) (.slice (some ⟨Wq.heap.size, 0, none⟩) 1 1) (.slice A0 lk c0) (by rfl) (by rfl) _ (app_code _ (new_row Wq (rdA r)) rfl (((Bel.refl Wq).alloc _).drew) HC.out hlk.out (by omega)) ?_
  rintro v' wa ⟨hoa, hba, A5, c5, hv5⟩
  subst hv5
  have HOA := Lib.hid hoa
  have HBA := Lib.hid hba
  have PDa := PD _ hba
  have FDa := FD _ hba
  clear hoa hba
  refine hK.out _ _ (fun _ => HBA.out) ?_
  clear hK K
  try simp only [List.getElem_toArray, List.getElem_cons_zero, List.getElem_cons_succ, Act.put, List.setIfInBounds_toArray, List.set_cons_zero, List.set_cons_succ]
  refine wpAnyU_take (i := 11) (v := ?v11) rfl (by kernel_rfl) (by kernel_rfl) (by kernel_rfl) (by kernel_rfl) (fun _ _ _ h => h) ?hy11 HBA.out ?rest11
  case hy11 => first | (refine Or.inl ⟨by rfl, ?_⟩; (intro w' hSw; go_simp) <;> with_reducible rfl) | (refine Or.inr ⟨by rfl, ?_⟩; with_reducible rfl)
  try simp only [List.getElem_toArray, List.getElem_cons_zero, List.getElem_cons_succ, Act.put, List.setIfInBounds_toArray, List.set_cons_zero, List.set_cons_succ]
  refine wpAnyW_take (i := 12) (v := ?v12) rfl (by kernel_rfl) (by kernel_rfl) (by kernel_rfl) (by kernel_rfl) (fun _ _ _ h => h) (Or.inl ⟨by rfl, ?hy12⟩) ?rest12
  case hy12 => (intro w' hSw; go_simp) <;> with_reducible rfl
  try simp only [List.getElem_toArray, List.getElem_cons_zero, List.getElem_cons_succ, Act.put, List.setIfInBounds_toArray, List.set_cons_zero, List.set_cons_succ]
  refine wpAnyT_one (i := 13) (by kernel_rfl) rfl (fun K hK => ?_)
  go_simp
  refine hK.out _ _ (fun h => absurd h (by decide)) ?_
  clear hK K
  try simp only [List.getElem_toArray, List.getElem_cons_zero, List.getElem_cons_succ, Act.put, List.setIfInBounds_toArray, List.set_cons_zero, List.set_cons_succ]
  refine wpAnyT_done (by kernel_rfl) ?_ _
  refine NoPanic.normal ?_
  have O1 := HX.out.code hzl.out.symm HBA.out (m := 1 + lk) (by simp only; rw [hlk.out]; omega) HOA.out
  have K1 := (KQ.out.bel HBA.out).other (p := ⟨D, 1, none⟩) (HX.out.notD KQ.out) (.slice A5 (1 + lk) c5)
  have OW := Lib.hid O1
  have K2 := Lib.hid K1
  clear SD PQ PD FD PDa FDa HC HX HOA O1 K1 KQ PDH PFH
  have KQ := K2
  clear K2
  generalize wa.setCell ⟨D, 1, none⟩ (.slice A5 (1 + lk) c5) = W6 at *
  obtain ⟨er7, hv7, hne7⟩ := read_bad (a := a0) (l := l0) (L := L) (ls := ls) (rdA_r r)
  have NE7 : (er7 == 0) = false := by simpa using hne7
  have NF7 : (er7 != 0) = true := by simpa using hne7
  have HV := Lib.hid hv7
  clear hv7 hne7
  have HSL := Lib.hid (OW.out.slD (hwl.out (rdA r) _ (rdA_wf r0 r1)))
  have qb := KQ.out.cell 0 (v := .slice (some ⟨D, 0, none⟩) n cD) rfl
  go_wp2_with (fail)
  skip
  refine (verify_any _ cD n (⟨a0, rdA r :: l0⟩ :: L) Q nl cQ ls _ (Lib.hid (by rw [← hzs.out]; exact HSL.out)) (Lib.hid (by simp; exact hmn.out)) (Lib.hid (HLS.out.mono SchR.mono OW.out.bel)) hnl 0 er7 HV (Lib.hid (fun fn h1 h2 => read_steps (rdA_r r) fn h1 h2))).mono ?_
  rintro e w7 ⟨rfl, hb⟩
  have OX := Lib.hid (OW.out.mono hb)
  have KX := Lib.hid (KQ.out.bel hb)
  clear hb OW KQ qb HV HSL
  have OW := OX
  have KQ := KX
  clear OX KX
  obtain ⟨D8, cD8, G, cG, hv, hz, PD, PF, PC, PX⟩ := OW.out.put0 (y := rdA r) (l := l0) rfl
  obtain ⟨e1, e2⟩ : D = D8 ∧ cD = cD8 := by simp at hv; exact ⟨hv.1, hv.2.2⟩
  subst e1
  subst e2
  have PXH := Lib.hid PX
  have qb := KQ.out.cell 0 (v := .slice (some ⟨D, 0, none⟩) n cD) rfl
  obtain ⟨lz, hlz⟩ : ∃ lz, l0.length + 1 = lz := ⟨_, rfl⟩
  rw [hlz] at PD
  have lz0 : 0 < lz := by omega
  have lz1 : (0 : Int) < lz := by omega
  have lz2 : ¬ lz = 0 := by omega
  clear hlz
  have HST : (storeVar 32 ⟨G, 0, none⟩ (.agg (rdB r).cells.toArray)).run Try.prog w7 = .ok () (set7 w7 G 0 (rdB r)) := set7_store (rdB r) PC PF
  obtain ⟨OX, KX⟩ := PXH.out (rdB r) q _ KQ.out
  generalize set7 w7 G 0 (rdB r) = WS at OX KX HST
  clear PX PF PC PXH hv hz OW KQ
  have OW := Lib.hid OX
  have KQ := Lib.hid KX
  clear OX KX
  have qs := KQ.out.cell 0 (v := .slice (some ⟨D, 0, none⟩) n cD) rfl
  obtain ⟨er8, hv8, hne8⟩ := read_bad (a := a0) (l := l0) (L := L) (ls := ls) (rdB_r r)
  have NE8 : (er8 == 0) = false := by simpa using hne8
  have NF8 : (er8 != 0) = true := by simpa using hne8
  have HV := Lib.hid hv8
  clear hv8 hne8
  have HSL := Lib.hid (OW.out.slD (hwl.out (rdB r) _ (rdB_wf r0 r1)))
  skip
  go_wp2_with (refine at_storeV (by rfl) (by rfl) HST ?_)
  clear HST PD qs lz0 lz1 lz2
  refine (verify_any _ cD n (⟨a0, rdB r :: l0⟩ :: L) Q nl cQ ls _ (Lib.hid (by rw [← hzs.out]; exact HSL.out)) (Lib.hid (by simp; exact hmn.out)) (Lib.hid (HLS.out.mono SchR.mono OW.out.bel)) hnl 0 er8 HV (Lib.hid (fun fn h1 h2 => read_steps (rdB_r r) fn h1 h2))).mono ?_
  rintro e w8 ⟨rfl, hb⟩
  have OX := Lib.hid (OW.out.mono hb)
  have KX := Lib.hid (KQ.out.bel hb)
  clear hb OW KQ qb HV HSL
  have OW := OX
  have KQ := KX
  clear OX KX
  obtain ⟨D9, cD9, G, cG, hv, hz, PD, PF, PC, PX⟩ := OW.out.put0 (y := rdB r) (l := l0) rfl
  obtain ⟨e1, e2⟩ : D = D9 ∧ cD = cD9 := by simp at hv; exact ⟨hv.1, hv.2.2⟩
  subst e1
  subst e2
  have PXH := Lib.hid PX
  have qb := KQ.out.cell 0 (v := .slice (some ⟨D, 0, none⟩) n cD) rfl
  obtain ⟨lz, hlz⟩ : ∃ lz, l0.length + 1 = lz := ⟨_, rfl⟩
  rw [hlz] at PD
  have lz0 : 0 < lz := by omega
  have lz1 : (0 : Int) < lz := by omega
  have lz2 : ¬ lz = 0 := by omega
  clear hlz
  have HST : (storeVar 32 ⟨G, 0, none⟩ (.agg (rdC r).cells.toArray)).run Try.prog w8 = .ok () (set7 w8 G 0 (rdC r)) := set7_store (rdC r) PC PF
  obtain ⟨OX, KX⟩ := PXH.out (rdC r) q _ KQ.out
  generalize set7 w8 G 0 (rdC r) = WS at OX KX HST
  clear PX PF PC PXH hv hz OW KQ
  have OW := Lib.hid OX
  have KQ := Lib.hid KX
  clear OX KX
  have qs := KQ.out.cell 0 (v := .slice (some ⟨D, 0, none⟩) n cD) rfl
  obtain ⟨er9, hv9, hne9⟩ := read_bad (a := a0) (l := l0) (L := L) (ls := ls) (rdC_r r)
  have NE9 : (er9 == 0) = false := by simpa using hne9
  have NF9 : (er9 != 0) = true := by simpa using hne9
  have HV := Lib.hid hv9
  clear hv9 hne9
  have HSL := Lib.hid (OW.out.slD (hwl.out (rdC r) _ (rdC_wf r0 r1)))
  skip
  go_wp2_with (refine at_storeV (by rfl) (by rfl) HST ?_)
  clear HST PD qs lz0 lz1 lz2
  refine (verify_any _ cD n (⟨a0, rdC r :: l0⟩ :: L) Q nl cQ ls _ (Lib.hid (by rw [← hzs.out]; exact HSL.out)) (Lib.hid (by simp; exact hmn.out)) (Lib.hid (HLS.out.mono SchR.mono OW.out.bel)) hnl 0 er9 HV (Lib.hid (fun fn h1 h2 => read_steps (rdC_r r) fn h1 h2))).mono ?_
  rintro e w9 ⟨rfl, hb⟩
  have OX := Lib.hid (OW.out.mono hb)
  have KX := Lib.hid (KQ.out.bel hb)
  clear hb OW KQ qb HV HSL
  have OW := OX
  have KQ := KX
  clear OX KX
  go_wp2_with fail
  go_ret
  exact ⟨by first | rfl | simp, HBa.out.trans (HBz.out.trans OW.out.bel)⟩
end Go.Proofs.Ytebdnobgdimdoaa
