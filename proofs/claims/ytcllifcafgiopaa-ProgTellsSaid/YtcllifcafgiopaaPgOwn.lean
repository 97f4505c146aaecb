/- What Own gives: read as a program; one function more; one instruction changed. -/
import Derived.Test.YtcllifcafgiopaaPg17
set_option linter.unusedVariables false
set_option linter.unusedSimpArgs false
namespace Go.Proofs.Ytcllifcafgiopaa
open Go.RowKit

def FnWf (f : FnD) : Prop := (∀ i ∈ f.code, i.Wf) ∧ (Lit.int .i64 f.args).wf = true
theorem few_facts {L : List FnD} (h : fewB L = true) : L.length ≤ 12 ∧ ∀ f ∈ L, f.code.length ≤ 80 := by
  unfold fewB at h
  rw [Bool.and_eq_true, List.all_eq_true] at h
  exact ⟨of_decide_eq_true h.1, fun f hf => of_decide_eq_true (h.2 f hf)⟩
theorem sl_wf {w : World} {A : Option Addr} {c : Nat} {L : List FnD} (h : Sl FnR 2 w A c L) : ∀ f ∈ L, FnWf f := by
  intro f hf
  obtain ⟨j, hj, rfl⟩ := List.mem_iff_getElem.1 hf
  obtain ⟨b, off, cs, -, -, ⟨A', c', -, hs, hw⟩, -⟩ := h.get j hj
  refine ⟨fun i hi => ?_, hw⟩
  obtain ⟨k, hk, rfl⟩ := List.mem_iff_getElem.1 hi
  obtain ⟨b', off', cs', -, -, ⟨-, hh⟩, -⟩ := hs.get k hk
  exact hh
theorem codes_wf {w : World} {A : Option Addr} {c : Nat} {l : List InstD} (h : Sl InstR 7 w A c l) : ∀ i ∈ l, i.Wf := by
  intro i hi
  obtain ⟨k, hk, rfl⟩ := List.mem_iff_getElem.1 hi
  obtain ⟨b', off', cs', -, -, ⟨-, hh⟩, -⟩ := h.get k hk
  exact hh
theorem fnR_own {X : World} {base : Nat} {z : FnD × Value} (h : X.ownsRow base 43 7 z.2 z.1.code.length (z.1.code.flatMap InstD.cells)) (hw : FnWf z.1) : FnR X (fnc z) z.1 := by
  obtain ⟨A', c', e, hs⟩ := sl_of_rows (R := InstR) InstD.cells (fun _ => rfl) id h (fun i hi => ⟨rfl, hw.1 i hi⟩)
  rw [List.map_id] at hs
  exact ⟨A', c', by rw [← e]; rfl, hs, hw.2⟩
theorem fns_of_own {X : World} {base : Nat} {v : Value} {zs : List (FnD × Value)} (h : X.ownsRow base 38 2 v zs.length (zs.flatMap fnc)) (hz : ∀ z ∈ zs, FnR X (fnc z) z.1) : ∃ A c, v = .slice A zs.length c ∧ Sl FnR 2 X A c (zs.map Prod.fst) :=
  sl_of_rows (R := FnR) fnc (fun _ => rfl) Prod.fst h hz
theorem OwnR.mono {w : World} {zs : List (FnD × Value)} {v : Value} {X Y : World} (h : OwnR w zs v X) (hb : Bel X Y) : OwnR w zs v Y :=
  ⟨h.bel.trans hb, own_bel h.own hb, fun z hz => own_bel (h.codes z hz) hb, h.apart⟩
theorem OwnR.sl {w : World} {zs : List (FnD × Value)} {v : Value} {X : World} (h : OwnR w zs v X) (hw : ∀ f ∈ zs.map Prod.fst, FnWf f) : ∃ A c, v = .slice A zs.length c ∧ Sl FnR 2 X A c (zs.map Prod.fst) :=
  fns_of_own h.own fun z hz => fnR_own (h.codes z hz) (hw _ (List.mem_map_of_mem hz))
theorem blk_not {X : World} {q : Nat} {cs cur : Array Value} {t1 t2 : TypeId} {g : Nat} (h : Blk X q t1 cs) (hg : X.heap[g]? = some (.cells cur t2 (0, 0))) (ht : t1 ≠ t2) : q ≠ g := by
  rintro rfl
  have e : X.heap[q]? = some (.cells cs t1 (0, 0)) := h
  rw [hg] at e
  simp only [Option.some.injEq, Obj.cells.injEq] at e
  exact ht e.2.1.symm
/-- One function more, behind. -/
theorem OwnR.push {w : World} {zs : List (FnD × Value)} {v v' : Value} {X Y : World} {f : FnD} {B : Option Addr} {cf q n : Nat} {A0 : Value} (h : OwnR w zs v X) (hq : Blk X q 24 #[A0]) (hwq : w.heap.size ≤ q) (hw : ∀ f ∈ zs.map Prod.fst, FnWf f) (hf : Sl InstR 7 w B cf f.code) (hfw : (Lit.int .i64 f.args).wf = true)
    (ho : Y.ownsRow w.heap.size 38 2 v' n (zs.flatMap fnc ++ [.int .i64 f.args, .slice B f.code.length cf])) (hn : n = zs.length + 1) (hg : X.grownBy Y v.ownBlock) :
    (∃ A' c', v' = .slice A' n c' ∧ Sl FnR 2 (Y.setCell ⟨q, 0, none⟩ v') A' c' (zs.map Prod.fst ++ [f])) ∧ Bel w (Y.setCell ⟨q, 0, none⟩ v') ∧ Blk (Y.setCell ⟨q, 0, none⟩ v') q 24 #[v'] := by
  subst hn
  have hqY : Blk Y q 24 #[A0] := blk_grown hq h.own (by decide) hg
  have hbY : Bel w Y := row_low h.own w (Nat.le_refl _) h.bel hg
  have hb2 : Bel w (Y.setCell ⟨q, 0, none⟩ v') := hbY.setCell (p := ⟨q, 0, none⟩) hwq v'
  have hq0 : Y.heap[q]? = some (.cells #[A0] 24 (0, 0)) := hqY
  refine ⟨?_, hb2, Blk.set (cs := #[A0]) hqY 0 v'⟩
  have key := fns_of_own (X := Y.setCell ⟨q, 0, none⟩ v') (base := w.heap.size) (v := v') (zs := zs ++ [(f, .slice B f.code.length cf)]) (by
    rw [List.length_append, List.flatMap_append, List.flatMap_singleton]
    exact ownsRow_setCell_other ho (own_not ho hq0 (by decide)) v') (by
    intro z hz
    rcases List.mem_append.1 hz with hz | hz
    · have h1 := own_grown (h.codes z hz) h.own (by decide) hg
      exact fnR_own (ownsRow_setCell_other h1 (own_not h1 hq0 (by decide)) v') (hw _ (List.mem_map_of_mem hz))
    · obtain rfl := List.mem_singleton.1 hz
      exact ⟨B, cf, rfl, hf.mono InstR.mono hb2, hfw⟩)
  rw [List.length_append, List.map_append] at key
  exact key
/-- A cell of a row of one's own is changed. -/
theorem own_setIn {X : World} {b s n c g : Nat} {t : TypeId} {xs : List Value} (h : X.ownsRow b t s (.slice (some ⟨g, 0, none⟩) n c) n xs) (j : Nat) (u : Value) : (X.setCell ⟨g, j, none⟩ u).ownsRow b t s (.slice (some ⟨g, 0, none⟩) n c) n (xs.set j u) := by
  refine ⟨by rw [List.length_set]; exact h.1, ?_⟩
  rcases h.2 with ⟨e, _⟩ | ⟨g', cap, cur, e, h1, h2, h3, h4, h5, h6⟩
  · cases e
  · simp only [Value.slice.injEq, Option.some.injEq, Addr.mk.injEq, and_true, true_and] at e
    obtain ⟨rfl, rfl⟩ := e
    refine .inr ⟨g, c, cur.setIfInBounds j u, rfl, h1, Blk.set (cs := cur) h2 j u, h3, h4, by rw [Array.size_setIfInBounds]; exact h5, ?_⟩
    rw [Array.toList_setIfInBounds, ← h6, List.take_set]
def set7 (X : World) (g o : Nat) (x : InstD) : World := ((((((X.setCell ⟨g, o, none⟩ (.int .i64 x.op)).setCell ⟨g, o + 1, none⟩ (.int .i64 x.fn)).setCell ⟨g, o + 2, none⟩ (.int .i64 x.dst)).setCell ⟨g, o + 3, none⟩ (.int .i64 x.src)).setCell ⟨g, o + 4, none⟩ (.bool x.reg)).setCell ⟨g, o + 5, none⟩ (.int .i64 x.off)).setCell ⟨g, o + 6, none⟩ (.int .u32 x.imm)
def lset7 (l : List Value) (o : Nat) (x : InstD) : List Value := ((((((l.set o (.int .i64 x.op)).set (o + 1) (.int .i64 x.fn)).set (o + 2) (.int .i64 x.dst)).set (o + 3) (.int .i64 x.src)).set (o + 4) (.bool x.reg)).set (o + 5) (.int .i64 x.off)).set (o + 6) (.int .u32 x.imm)
theorem lset7_app (a l : List Value) (o : Nat) (x : InstD) : lset7 (a ++ l) (a.length + o) x = a ++ lset7 l o x := by
  unfold lset7
  have e : ∀ k, a.length + o + k = a.length + (o + k) := fun k => Nat.add_assoc ..
  have s : ∀ (l : List Value) (k : Nat) (v : Value), (a ++ l).set (a.length + k) v = a ++ l.set k v := fun l k v => by
    rw [List.set_append_right _ _ (Nat.le_add_right _ _), Nat.add_sub_cancel_left]
  rw [e, e, e, e, e, e, s, s, s, s, s, s, s]
theorem lset7_flat (x : InstD) : ∀ (l : List InstD) (k : Nat), k < l.length → lset7 (l.flatMap InstD.cells) (k * 7) x = (l.set k x).flatMap InstD.cells
  | [], k, h => by simp at h
  | a :: l, 0, _ => by
    rw [List.flatMap_cons, List.set_cons_zero, List.flatMap_cons]
    rfl
  | a :: l, k + 1, h => by
    rw [List.flatMap_cons, List.set_cons_succ, List.flatMap_cons, ← lset7_flat x l k (by simpa using h), ← lset7_app]
    congr 1
    simp only [InstD.cells, List.length_cons, List.length_nil]
    omega
theorem own_set7 {X : World} {b n c g : Nat} {t : TypeId} {xs : List Value} (h : X.ownsRow b t 7 (.slice (some ⟨g, 0, none⟩) n c) n xs) (o : Nat) (x : InstD) : (set7 X g o x).ownsRow b t 7 (.slice (some ⟨g, 0, none⟩) n c) n (lset7 xs o x) :=
  own_setIn (own_setIn (own_setIn (own_setIn (own_setIn (own_setIn (own_setIn h _ _) _ _) _ _) _ _) _ _) _ _) _ _
theorem own_set7_other {X : World} {b s n g : Nat} {t : TypeId} {v : Value} {xs : List Value} (h : X.ownsRow b t s v n xs) (hg : v.ownBlock ≠ some g) (o : Nat) (x : InstD) : (set7 X g o x).ownsRow b t s v n xs := by
  have s : ∀ {Y : World} (hY : Y.ownsRow b t s v n xs) (k : Nat) (u : Value), (Y.setCell ⟨g, k, none⟩ u).ownsRow b t s v n xs := fun hY k u => ownsRow_setCell_other hY hg u
  exact s (s (s (s (s (s (s h _ _) _ _) _ _) _ _) _ _) _ _) _ _
theorem bel_set7 {w X : World} {g : Nat} (h : Bel w X) (hg : w.heap.size ≤ g) (o : Nat) (x : InstD) : Bel w (set7 X g o x) := by
  have s : ∀ {Y : World} (hY : Bel w Y) (k : Nat) (u : Value), Bel w (Y.setCell ⟨g, k, none⟩ u) := fun hY k u => hY.setCell (p := ⟨g, k, none⟩) hg u
  exact s (s (s (s (s (s (s h _ _) _ _) _ _) _ _) _ _) _ _) _ _
theorem blk_set7 {X : World} {q g : Nat} {t : TypeId} {cs : Array Value} (h : Blk X q t cs) (hg : q ≠ g) (o : Nat) (x : InstD) : Blk (set7 X g o x) q t cs := by
  have s : ∀ {Y : World} (hY : Blk Y q t cs) (k : Nat) (u : Value), Blk (Y.setCell ⟨g, k, none⟩ u) q t cs := fun hY k u => hY.other (p := ⟨g, k, none⟩) hg u
  exact s (s (s (s (s (s (s h _ _) _ _) _ _) _ _) _ _) _ _) _ _
theorem flat_same {zs : List (FnD × Value)} {i : Nat} (hi : i < zs.length) {z : FnD × Value} (he : fnc z = fnc zs[i]) : (zs.set i z).flatMap fnc = zs.flatMap fnc := by
  rw [List.flatMap_def, List.flatMap_def, List.map_set, he, ← List.getElem_map fnc (h := by rw [List.length_map]; exact hi), List.set_getElem_self]
/-- What a code's row tells, and what a store of an instruction makes of it. -/
theorem OwnR.put {w : World} {zs : List (FnD × Value)} {v : Value} {X : World} (h : OwnR w zs v X) (hw : ∀ f ∈ zs.map Prod.fst, FnWf f) {i : Nat} (hi : i < zs.length) {k : Nat} (hk : k < (zs[i]).1.code.length) :
    ∃ D cD G cG, v = .slice (some ⟨D, 0, none⟩) zs.length cD ∧ X.cell? ⟨D, i * 2 + 1, none⟩ = some (.slice (some ⟨G, 0, none⟩) (zs[i]).1.code.length cG) ∧ (∀ j, X.frozen? ⟨G, j, none⟩ = false) ∧ w.heap.size ≤ G ∧ (∀ j, j < (zs[i]).1.code.length * 7 → ∃ u, X.cell? ⟨G, j, none⟩ = some u) ∧
      ∀ (x : InstD) (q : Nat) (cs : Array Value), x.Wf → Blk X q 24 cs → Sl FnR 2 (set7 X G (k * 7) x) (some ⟨D, 0, none⟩) cD ((zs.map Prod.fst).set i ⟨(zs[i]).1.args, (zs[i]).1.code.set k x⟩) ∧ Bel w (set7 X G (k * 7) x) ∧ Blk (set7 X G (k * 7) x) q 24 cs := by
  have hmem : zs[i] ∈ zs := List.getElem_mem hi
  have hc := h.codes _ hmem
  obtain ⟨G, cG, hv2⟩ : ∃ G cG, (zs[i]).2 = .slice (some ⟨G, 0, none⟩) (zs[i]).1.code.length cG := by
    obtain ⟨m, hm⟩ : ∃ m, (zs[i]).1.code.length = m + 1 := ⟨(zs[i]).1.code.length - 1, by omega⟩
    rw [hm] at hc ⊢
    exact own_form hc
  obtain ⟨D, cD, hv1⟩ : ∃ D cD, v = .slice (some ⟨D, 0, none⟩) zs.length cD := by
    have ho := h.own
    obtain ⟨m, hm⟩ : ∃ m, zs.length = m + 1 := ⟨zs.length - 1, by omega⟩
    rw [hm] at ho ⊢
    exact own_form ho
  subst hv1
  rw [hv2] at hc
  obtain ⟨curG, hG0, hGb⟩ : ∃ cur, X.heap[G]? = some (.cells cur 43 (0, 0)) ∧ w.heap.size ≤ G := by
    rcases hc.2 with ⟨e, _⟩ | ⟨g', cap, cur, e, h1, h2, _⟩
    · cases e
    · simp only [Value.slice.injEq, Option.some.injEq, Addr.mk.injEq, and_true, true_and] at e
      obtain ⟨rfl, rfl⟩ := e
      exact ⟨cur, h2, h1⟩
  refine ⟨D, cD, G, cG, rfl, ?_, fun j => by simp [World.frozen?, hG0], hGb, ?_, ?_⟩
  · rcases own_openP h.own with ⟨e, _⟩ | ⟨g, c, e, -, -, -, -, -, hcl⟩
    · cases e
    · simp only [Value.slice.injEq, Option.some.injEq, Addr.mk.injEq, and_true, true_and] at e
      obtain ⟨rfl, rfl⟩ := e
      refine hcl (i * 2 + 1) _ ?_
      rw [flat_getP fnc 2 (fun _ => rfl) zs i 1 hi (by decide)]
      simp [fnc, hv2]
  · intro j hj
    rcases own_openP hc with ⟨e, _⟩ | ⟨g, c, e, -, -, -, -, -, hcl⟩
    · cases e
    · simp only [Value.slice.injEq, Option.some.injEq, Addr.mk.injEq, and_true, true_and] at e
      obtain ⟨rfl, rfl⟩ := e
      have hl : j < ((zs[i]).1.code.flatMap InstD.cells).length := by rw [flat7]; exact hj
      exact ⟨_, hcl j _ (List.getElem?_eq_getElem hl)⟩
  · intro x q cs hx hq
    have hb2 := bel_set7 h.bel hGb (k * 7) x
    refine ⟨?_, hb2, blk_set7 hq (blk_not hq hG0 (by decide)) (k * 7) x⟩
    have hrow := own_set7 hc (k * 7) x
    rw [lset7_flat x _ k hk] at hrow
    have key := fns_of_own (X := set7 X G (k * 7) x) (base := w.heap.size) (v := .slice (some ⟨D, 0, none⟩) zs.length cD) (zs := zs.set i (⟨(zs[i]).1.args, (zs[i]).1.code.set k x⟩, (zs[i]).2)) (by
      rw [List.length_set, flat_same hi (by simp only [fnc])]
      exact own_set7_other h.own (own_not h.own hG0 (by decide)) (k * 7) x) (by
      intro z hz
      obtain ⟨j, hj, rfl⟩ := List.mem_iff_getElem.1 hz
      rw [List.length_set] at hj
      by_cases hij : i = j
      · subst hij
        rw [List.getElem_set_self]
        have hwf := hw _ (List.mem_map_of_mem hmem)
        refine fnR_own (base := w.heap.size) ?_ ⟨fun y hy => ?_, hwf.2⟩
        · simp only
          rw [hv2, List.length_set]
          exact hrow
        · simp only at hy
          rcases List.mem_or_eq_of_mem_set hy with hy | rfl
          · exact hwf.1 y hy
          · exact hx
      · rw [List.getElem_set_ne hij]
        have hmj : zs[j] ∈ zs := List.getElem_mem hj
        refine fnR_own (own_set7_other (h.codes _ hmj) (fun e => ?_) (k * 7) x) (hw _ (List.mem_map_of_mem hmj))
        have hp := List.pairwise_iff_getElem.1 h.apart
        rcases Nat.lt_or_gt_of_ne hij with hlt | hlt
        · exact hp i j hi hj hlt (by rw [hv2]; simp [Value.ownBlock]) (by rw [e, hv2]; rfl)
        · exact hp j i hj hi hlt (by rw [e]; simp) (by rw [e, hv2]; rfl))
    obtain ⟨A', c', e, hs⟩ := key
    rw [List.length_set] at e
    simp only [Value.slice.injEq, true_and] at e
    obtain ⟨rfl, rfl⟩ := e
    rw [List.map_set] at hs
    exact hs
end Go.Proofs.Ytcllifcafgiopaa
