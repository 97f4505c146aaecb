/- What prog.Get makes of bytes: plain; how its program lies in memory meanwhile. -/
import Derived.Test.YtcllifcafgiopaaPg8
import Derived.Test.YtcllifcafgiopaaHeldU
set_option linter.unusedVariables false
set_option linter.unusedSimpArgs false
namespace Go.Proofs.Ytcllifcafgiopaa
open Go.RowKit

def rdFns : Nat → List FnD → List Int → Bool → List FnD × List Int × Bool
  | 0, acc, l, bad => (acc, l, bad)
  | n + 1, acc, l, bad => if bad = true then (acc, l, bad) else rdFns n (acc ++ [(rdF l bad).1]) (rdF l bad).2.1 (rdF l bad).2.2
/-- Behind the head. -/
def getP2 (l : List Int) (bad : Bool) : List FnD × List Int × Bool := rdFns (rdX l bad).toNat [] (tkR l bad 1) (tkB l bad 1)
def getP (bs : List Int) : List FnD × Int :=
  if rdX bs false = 88 ∧ rdX (tkR bs false 1) (tkB bs false 1) = 86 then
    let r := getP2 (tkR (tkR bs false 1) (tkB bs false 1) 1) (tkB (tkR bs false 1) (tkB bs false 1) 1)
    if r.2.2 = false ∧ r.2.1 = [] ∧ progMay r.1 = true then (r.1, 0) else ([], 7)
  else ([], 7)
theorem flat_getP {α : Type} (f : α → List Value) (k : Nat) (hk : ∀ x, (f x).length = k) : ∀ (zs : List α) (i j : Nat) (hi : i < zs.length), j < k → (zs.flatMap f)[i * k + j]? = (f zs[i])[j]?
  | [], i, j, hi, _ => by simp at hi
  | z :: zs, 0, j, hi, hj => by
    rw [List.flatMap_cons, Nat.zero_mul, Nat.zero_add, List.getElem?_append_left (by rw [hk]; exact hj)]
    rfl
  | z :: zs, i + 1, j, hi, hj => by
    rw [List.flatMap_cons, List.getElem?_append_right (by rw [hk, Nat.succ_mul]; omega), hk]
    have := flat_getP f k hk zs i j (by simpa using hi) hj
    rw [show (i + 1) * k + j - k = i * k + j by rw [Nat.succ_mul]; omega, this]
    rfl
theorem flat_lenP {α : Type} (f : α → List Value) (k : Nat) (hk : ∀ x, (f x).length = k) : ∀ (zs : List α), (zs.flatMap f).length = zs.length * k
  | [] => by simp
  | z :: zs => by
    rw [List.flatMap_cons, List.length_append, hk, flat_lenP f k hk zs, List.length_cons, Nat.succ_mul, Nat.add_comm]
/-- What a row of the call's own tells, cell by cell. -/
theorem own_openP {w : World} {b : Nat} {e : TypeId} {s : Nat} {v : Value} {n : Nat} {xs : List Value} (h : w.ownsRow b e s v n xs) :
    (v = .slice none 0 0 ∧ n = 0) ∨ ∃ g c, v = .slice (some ⟨g, 0, none⟩) n c ∧ b ≤ g ∧ g < w.heap.size ∧ n ≤ c ∧ c ≤ maxLen ∧ (∀ i, w.frozen? ⟨g, i, none⟩ = false) ∧ ∀ j u, xs[j]? = some u → w.cell? ⟨g, j, none⟩ = some u := by
  obtain ⟨h1, h2⟩ := h
  rcases h2 with ⟨rfl, h2⟩ | ⟨g, cap, cur, rfl, hb, hh, hc, hm, hs, ht⟩
  · exact .inl ⟨rfl, h2⟩
  · refine .inr ⟨g, cap, rfl, hb, (Array.getElem?_eq_some_iff.1 hh).1, hc, hm, fun i => by simp [World.frozen?, hh], fun j u hj => ?_⟩
    rw [← ht, List.getElem?_take] at hj
    split at hj
    · rw [Array.getElem?_toList] at hj
      simp [World.cell?, hh, hj]
    · cases hj


/-- Elements of some cells in a row of one's own, as a slice. -/
theorem sl_of_rows {S T : Type} {R : World → List Value → T → Prop} {sz : Nat} (f : S → List Value) (hf : ∀ z, (f z).length = sz) (gg : S → T) {W : World} {base : Nat} {e : TypeId} {v : Value} {zs : List S} (h : W.ownsRow base e sz v zs.length (zs.flatMap f)) (hR : ∀ z ∈ zs, R W (f z) (gg z)) :
    ∃ A c, v = .slice A zs.length c ∧ Sl R sz W A c (zs.map gg) := by
  rcases own_openP h with ⟨rfl, h0⟩ | ⟨g, c, rfl, hg1, hg2, hc1, hc2, hfz, hcl⟩
  · have e : zs = [] := List.eq_nil_of_length_eq_zero h0
    subst e
    exact ⟨none, 0, rfl, Sl.nil _ _ _⟩
  · refine ⟨some ⟨g, 0, none⟩, c, rfl, by rw [List.length_map]; exact hc1, hc2, fun i hi => ?_⟩
    rw [List.length_map] at hi
    refine ⟨g, 0, f zs[i], rfl, hf _, by rw [List.getElem_map]; exact hR _ (List.getElem_mem hi), fun j u hu => ?_⟩
    have hj : j < sz := by rw [← hf zs[i]]; exact (List.getElem?_eq_some_iff.1 hu).1
    rw [Nat.zero_add]
    exact hcl _ _ (by rw [flat_getP f sz hf zs i j hi hj]; exact hu)
theorem own_slice {W : World} {base : Nat} {e : TypeId} {s : Nat} {v : Value} {n : Nat} {xs : List Value} (h : W.ownsRow base e s v n xs) : ∃ A c, v = .slice A n c := by
  rcases h.2 with ⟨rfl, rfl⟩ | ⟨g, cap, cur, rfl, _⟩
  · exact ⟨none, 0, rfl⟩
  · exact ⟨_, cap, rfl⟩
/-- A row of one kind is left by what is done to a row of another. -/
theorem own_grown {X Y : World} {b1 b2 s1 s2 n1 n2 : Nat} {t1 t2 : TypeId} {v1 v2 : Value} {xs1 xs2 : List Value} (h1 : X.ownsRow b1 t1 s1 v1 n1 xs1) (h2 : X.ownsRow b2 t2 s2 v2 n2 xs2) (ht : t1 ≠ t2) (hg : X.grownBy Y v2.ownBlock) : Y.ownsRow b1 t1 s1 v1 n1 xs1 :=
  ⟨h1.1, h1.2.imp id fun ⟨g, cap, cur, e1, e2, e3, r⟩ => ⟨g, cap, cur, e1, e2, (hg.block g (Array.getElem?_eq_some_iff.1 e3).1 (fun e => by
    rcases h2.2 with ⟨rfl, _⟩ | ⟨g', cap', cur', rfl, _, e4, _⟩
    · cases e
    · have : g = g' := by simpa [Value.ownBlock] using e
      subst this
      rw [e3] at e4
      simp only [Option.some.injEq, Obj.cells.injEq] at e4
      exact ht e4.2.1)).trans e3, r⟩⟩
theorem own_set {X : World} {b s n : Nat} {t : TypeId} {v : Value} {xs : List Value} (h : X.ownsRow b t s v n xs) {p : Addr} (hp : p.block < b) (u : Value) : (X.setCell p u).ownsRow b t s v n xs :=
  ⟨h.1, h.2.imp id fun ⟨g, cap, cur, e1, e2, e3, r⟩ => ⟨g, cap, cur, e1, e2, (setCell_heap_ne X u (by omega)).trans e3, r⟩⟩
def fnc (z : FnD × Value) : List Value := [.int .i64 z.1.args, z.2]
theorem info_fn : (Try.prog.info? 38).map (fun i => (i.zero, i.size, i.bytes)) = some (some (.agg #[.int .i64 0, .slice none 0 0]), 2, 32) := by kernel_rfl
/-- What a round of Get's loop knows. -/
structure GetI (w : World) (R G Pb base : Nat) (zs : List (FnD × Value)) (l : List Int) (bad : Bool) (v : Value) (X : World) : Prop where
  rd : RdS w X G l bad
  res : Blk X R 24 #[.slice none 0 0]
  box : Blk X Pb 24 #[v]
  own : X.ownsRow base 38 2 v zs.length (zs.flatMap fnc)
  codes : ∀ z ∈ zs, X.ownsRow base 43 7 z.2 z.1.code.length (z.1.code.flatMap InstD.cells)
theorem GetI.bel {w : World} {R G Pb base : Nat} {zs : List (FnD × Value)} {l : List Int} {bad : Bool} {v : Value} {X Y : World} (h : GetI w R G Pb base zs l bad v X) (hb : Bel X Y) : GetI w R G Pb base zs l bad v Y :=
  ⟨h.rd.bel hb, h.res.bel hb, h.box.bel hb, own_bel h.own hb, fun z hz => own_bel (h.codes z hz) hb⟩
theorem GetI.read {w : World} {R G Pb base : Nat} {zs : List (FnD × Value)} {l l' : List Int} {bad bad' : Bool} {v : Value} {X Y : World} (h : GetI w R G Pb base zs l bad v X) (hRG : R ≠ G) (hPG : Pb ≠ G) (hGb : G < base) (hr : RdS w Y G l' bad') (hb : But G X Y) : GetI w R G Pb base zs l' bad' v Y :=
  ⟨hr, hb.blk h.res hRG, hb.blk h.box hPG, own_but (W := X) h.own hGb hb, fun z hz => own_but (W := X) (h.codes z hz) hGb hb⟩
theorem blk_grown {X Y : World} {k b s n : Nat} {u t : TypeId} {cs : Array Value} {v : Value} {xs : List Value} (h : Blk X k u cs) (ho : X.ownsRow b t s v n xs) (hu : u ≠ t) (hg : X.grownBy Y v.ownBlock) : Blk Y k u cs := (K8.grown ho hg).blk k u cs h hu
theorem GetI.push {w : World} {R G Pb base : Nat} {zs : List (FnD × Value)} {l : List Int} {bad : Bool} {v v' : Value} {X Y : World} {z : FnD × Value} {n : Nat} (h : GetI w R G Pb base zs l bad v X) (hP : Pb < base) (hRP : R ≠ Pb) (hGP : G ≠ Pb) (hn : n = zs.length + 1) (hz : X.ownsRow base 43 7 z.2 z.1.code.length (z.1.code.flatMap InstD.cells)) (hw : w.heap.size ≤ Pb) (ho : Y.ownsRow base 38 2 v' n (zs.flatMap fnc ++ fnc z)) (hg : X.grownBy Y v.ownBlock) : GetI w R G Pb base (zs ++ [z]) l bad v' (Y.setCell ⟨Pb, 0, none⟩ v') := by
  subst hn
  obtain ⟨A, c, hb1, hs1, hbe, hG0⟩ := h.rd
  refine ⟨⟨A, c, (blk_grown hb1 h.own (by decide) hg).other (p := ⟨Pb, 0, none⟩) hGP v', hs1, (row_low h.own w (by omega) hbe hg).setCell (p := ⟨Pb, 0, none⟩) hw v', hG0⟩, (blk_grown h.res h.own (by decide) hg).other (p := ⟨Pb, 0, none⟩) hRP v', Blk.set (cs := #[v]) (blk_grown h.box h.own (by decide) hg) 0 v', ?_, ?_⟩
  · rw [List.length_append, List.flatMap_append, List.flatMap_singleton]
    exact own_set ho hP v'
  · intro y hy
    refine own_set ?_ hP v'
    rcases List.mem_append.1 hy with hy | hy
    · exact own_grown (h.codes y hy) h.own (by decide) hg
    · simp only [List.mem_cons, List.not_mem_nil, or_false] at hy
      subst hy
      exact own_grown hz h.own (by decide) hg
/-! ### What is read is well formed -/
theorem getR_wf {l : List Int} (h : ∀ x ∈ l, 0 ≤ x ∧ x < 256) : (getR l).1.Wf := by
  have hz : InstD.zero.Wf := by
    unfold InstD.zero
    exact ⟨⟨by decide, by decide⟩, ⟨by decide, by decide⟩, ⟨by decide, by decide⟩, ⟨by decide, by decide⟩, ⟨by decide, by decide⟩, ⟨by decide, by decide⟩⟩
  unfold getR
  split
  · rename_i hl
    split
    · rename_i hm
      show (getI l).Wf
      obtain ⟨⟨o0, o1⟩, ⟨d0, d1⟩, ⟨s0, s1⟩, ⟨f0, f1⟩, ⟨g0, g1⟩, -⟩ := may_facts hm
      refine ⟨⟨by omega, by omega⟩, ⟨by omega, by omega⟩, ⟨by omega, by omega⟩, ⟨by omega, by omega⟩, ⟨by omega, by omega⟩, ?_⟩
      match l, hl with
      | [b0, b1, b2, b3, b4, b5, b6, b7], _ =>
        have h4 := h b4 (by simp)
        have h5 := h b5 (by simp)
        have h6 := h b6 (by simp)
        have h7 := h b7 (by simp)
        simp only [getI, beN, List.getD_cons_zero, List.getD_cons_succ, Nat.add_zero, Nat.zero_add, Nat.reduceAdd]
        exact ⟨by omega, by omega⟩
    · exact hz
  · exact hz
theorem tkL_mem {l : List Int} (h : ∀ x ∈ l, 0 ≤ x ∧ x < 256) (bad : Bool) (n : Nat) : ∀ x ∈ tkL l bad n, 0 ≤ x ∧ x < 256 := by
  intro x hx
  unfold tkL at hx
  split at hx
  · rw [List.eq_of_mem_replicate hx]
    exact ⟨by decide, by decide⟩
  · exact h x (List.mem_of_mem_take hx)
theorem tkR_mem {l : List Int} (h : ∀ x ∈ l, 0 ≤ x ∧ x < 256) (bad : Bool) (n : Nat) : ∀ x ∈ tkR l bad n, 0 ≤ x ∧ x < 256 := by
  intro x hx
  unfold tkR at hx
  split at hx
  · exact h x hx
  · exact h x (List.mem_of_mem_drop hx)
theorem rdX_mem {l : List Int} (h : ∀ x ∈ l, 0 ≤ x ∧ x < 256) (bad : Bool) : 0 ≤ rdX l bad ∧ rdX l bad < 256 := by
  refine tkL_mem h bad 1 _ ?_
  unfold rdX
  have hl := tkL_len l bad 1
  rw [List.getD_eq_getElem?_getD, List.getElem?_eq_getElem (by omega)]
  exact List.getElem_mem _
theorem rdCode_wf : ∀ (n : Nat) (acc : List InstD) (l : List Int) (bad : Bool), (∀ x ∈ l, 0 ≤ x ∧ x < 256) → (∀ i ∈ acc, i.Wf) → (∀ i ∈ (rdCode n acc l bad).1, i.Wf) ∧ (∀ x ∈ (rdCode n acc l bad).2.1, 0 ≤ x ∧ x < 256)
  | 0, acc, l, bad, h1, h2 => ⟨h2, h1⟩
  | n + 1, acc, l, bad, h1, h2 => by
    unfold rdCode
    split
    · exact ⟨h2, h1⟩
    · refine rdCode_wf n _ _ _ (tkR_mem h1 bad 8) fun i hi => ?_
      rcases List.mem_append.1 hi with hi | hi
      · exact h2 i hi
      · simp only [List.mem_cons, List.not_mem_nil, or_false] at hi
        subst hi
        exact getR_wf (tkL_mem h1 bad 8)
theorem rdF_wf {l : List Int} (h : ∀ x ∈ l, 0 ≤ x ∧ x < 256) (bad : Bool) : (0 ≤ (rdF l bad).1.args ∧ (rdF l bad).1.args < 256) ∧ (∀ i ∈ (rdF l bad).1.code, i.Wf) ∧ (∀ x ∈ (rdF l bad).2.1, 0 ≤ x ∧ x < 256) := by
  have hc := rdCode_wf (rdX (tkR l bad 1) (tkB l bad 1)).toNat [] (tkR (tkR l bad 1) (tkB l bad 1) 1) (tkB (tkR l bad 1) (tkB l bad 1) 1) (tkR_mem (tkR_mem h bad 1) _ 1) (fun i hi => by cases hi)
  exact ⟨rdX_mem h bad, hc.1, hc.2⟩
end Go.Proofs.Ytcllifcafgiopaa
