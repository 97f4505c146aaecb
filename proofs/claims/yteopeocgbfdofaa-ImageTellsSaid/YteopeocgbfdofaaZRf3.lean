/- The document's Own (chapter 13): the same memory, of its own. -/
import Derived.Test.YteopeocgbfdofaaGRf
import Derived.Test.YteopeocgbfdofaaGHe
set_option linter.unusedVariables false
set_option linter.unusedSimpArgs false
namespace Go.Proofs.Yteopeocgbfdofaa
open Go.RowKit

theorem own_bel {w w' : World} {b : Nat} {e : TypeId} {s : Nat} {v : Value} {n : Nat} {xs : List Value} (h : w.ownsRow b e s v n xs) (hb : Bel w w') : w'.ownsRow b e s v n xs :=
  ⟨h.1, h.2.imp id fun ⟨g, cap, cur, h1, h2, h3, r⟩ => ⟨g, cap, cur, h1, h2, (hb.out.block g (Array.getElem?_eq_some_iff.1 h3).1).trans h3, r⟩⟩
/-- Whatever is no row of elements of a type is as it was. -/
structure K8 (t : TypeId) (W W' : World) : Prop where
  size : W.heap.size ≤ W'.heap.size
  blk : ∀ k u cs, Blk W k u cs → u ≠ t → Blk W' k u cs
theorem K8.grown {t : TypeId} {W W' : World} {base s : Nat} {v : Value} {n : Nat} {xs : List Value} (h : W.ownsRow base t s v n xs) (hg : W.grownBy W' v.ownBlock) : K8 t W W' :=
  ⟨hg.size, fun k u cs hb hu => (hg.block k hb.lt (fun e => by
    rcases h.2 with ⟨rfl, _⟩ | ⟨g, cap, cur, rfl, h2, h3, _⟩
    · cases e
    · have e2 : k = g := by simpa [Value.ownBlock] using e
      subst e2
      rw [show W.heap[k]? = _ from hb] at h3
      simp only [Option.some.injEq, Obj.cells.injEq] at h3
      exact hu h3.2.1)).trans hb⟩
theorem row_low {W W' : World} {base : Nat} {t : TypeId} {s : Nat} {v : Value} {n : Nat} {xs : List Value} (h : W.ownsRow base t s v n xs) (w0 : World) (hb : w0.heap.size ≤ base) (HB : Bel w0 W) (hg : W.grownBy W' v.ownBlock) : Bel w0 W' :=
  HB.grown hg (fun k hk => Nat.le_trans hb (h.lt k hk).1)
theorem cells_new (W : World) (cs : Array Value) (t : TypeId) : ∀ j u, cs.toList[j]? = some u → (W.alloc (.cells cs t)).cell? ((⟨W.heap.size, 0, none⟩ : Addr).add j) = some u := by
  intro j u hu
  rw [Addr.add_lit, Nat.zero_add]
  exact (Blk.new W t cs).cell j (by simpa using hu)
theorem own_form {w : World} {base : Nat} {e : TypeId} {size : Nat} {v : Value} {n : Nat} {xs : List Value} (h : w.ownsRow base e size v (n + 1) xs) : ∃ g c, v = .slice (some ⟨g, 0, none⟩) (n + 1) c := by
  rcases h.2 with ⟨_, h0⟩ | ⟨g, cap, cur, e, _⟩
  · omega
  · exact ⟨g, cap, e⟩
/-- Elements of some cells in a row of one's own, as a slice. -/
theorem sl_of_rows {S T : Type} {R : World → List Value → T → Prop} {sz : Nat} (f : S → List Value) (hf : ∀ z, (f z).length = sz) (gg : S → T) {W : World} {base : Nat} {e : TypeId} {v : Value} {zs : List S} (h : W.ownsRow base e sz v zs.length (zs.flatMap f)) (hR : ∀ z ∈ zs, R W (f z) (gg z)) :
    ∃ A c, v = .slice A zs.length c ∧ Sl R sz W A c (zs.map gg) := by
  rcases own_openK h with ⟨rfl, h0⟩ | ⟨g, c, rfl, hg1, hg2, hc1, hc2, hfz, hcl⟩
  · have e : zs = [] := List.eq_nil_of_length_eq_zero h0
    subst e
    exact ⟨none, 0, rfl, Sl.nil _ _ _⟩
  · refine ⟨some ⟨g, 0, none⟩, c, rfl, by rw [List.length_map]; exact hc1, hc2, fun i hi => ?_⟩
    rw [List.length_map] at hi
    refine ⟨g, 0, f zs[i], rfl, hf _, by rw [List.getElem_map]; exact hR _ (List.getElem_mem hi), fun j u hu => ?_⟩
    have hj : j < sz := by rw [← hf zs[i]]; exact (List.getElem?_eq_some_iff.1 hu).1
    rw [Nat.zero_add]
    exact hcl _ _ (by rw [flat_get f sz hf zs i j hi hj]; exact hu)
theorem own_slice {W : World} {base : Nat} {e : TypeId} {s : Nat} {v : Value} {n : Nat} {xs : List Value} (h : W.ownsRow base e s v n xs) : ∃ A c, v = .slice A n c := by
  rcases h.2 with ⟨rfl, rfl⟩ | ⟨g, cap, cur, rfl, _⟩
  · exact ⟨none, 0, rfl⟩
  · exact ⟨_, cap, rfl⟩
/-- A row of one kind is left by what is done to a row of another. -/
theorem own_grown {X Y : World} {b1 b2 s1 s2 n1 n2 : Nat} {t1 t2 : TypeId} {v1 v2 : Value} {xs1 xs2 : List Value} (h1 : X.ownsRow b1 t1 s1 v1 n1 xs1) (h2 : X.ownsRow b2 t2 s2 v2 n2 xs2) (ht : t1 ≠ t2) (hg : X.grownBy Y v2.ownBlock) : Y.ownsRow b1 t1 s1 v1 n1 xs1 :=
  ⟨h1.1, h1.2.imp id fun ⟨g, cap, cur, e1, e2, e3, r⟩ => ⟨g, cap, cur, e1, e2, (hg.block g (Array.getElem?_eq_some_iff.1 e3).1 (fun e => by
    rcases h2.2 with ⟨rfl, _⟩ | ⟨g', cap', cur', rfl, _, e4, _⟩
    · cases e
    · have : g = g' := by simpa [Value.ownBlock] using e
      subst this
      rw [e3] at e4
      simp only [Option.some.injEq, Obj.cells.injEq] at e4
      exact ht e4.2.1)).trans e3, r⟩⟩
theorem own_set {X : World} {b s n : Nat} {t : TypeId} {v : Value} {xs : List Value} (h : X.ownsRow b t s v n xs) {p : Addr} (hp : p.block < b) (u : Value) : (X.setCell p u).ownsRow b t s v n xs :=
  ⟨h.1, h.2.imp id fun ⟨g, cap, cur, e1, e2, e3, r⟩ => ⟨g, cap, cur, e1, e2, (setCell_heap_ne X u (by omega)).trans e3, r⟩⟩
theorem blk_grown {X Y : World} {k b s n : Nat} {u t : TypeId} {cs : Array Value} {v : Value} {xs : List Value} (h : Blk X k u cs) (ho : X.ownsRow b t s v n xs) (hu : u ≠ t) (hg : X.grownBy Y v.ownBlock) : Blk Y k u cs := (K8.grown ho hg).blk k u cs h hu
theorem own_not {X : World} {b s n : Nat} {t t2 : TypeId} {v : Value} {xs : List Value} (h : X.ownsRow b t s v n xs) {D : Nat} {cur : Array Value} (hD : X.heap[D]? = some (.cells cur t2 (0, 0))) (ht : t ≠ t2) : v.ownBlock ≠ some D := by
  intro e
  rcases h.2 with ⟨rfl, _⟩ | ⟨g, cap, cur', rfl, _, hh, _⟩
  · cases e
  · have : g = D := by simpa [Value.ownBlock] using e
    subst this
    rw [hh] at hD
    simp only [Option.some.injEq, Obj.cells.injEq] at hD
    exact ht hD.2.1
theorem own_ltN {X : World} {b s n : Nat} {t : TypeId} {v : Value} {xs : List Value} (h : X.ownsRow b t s v n xs) {k : Nat} (hk : v.ownBlock = some k) : k < X.heap.size := by
  rcases h.2 with ⟨rfl, _⟩ | ⟨g, cap, cur, rfl, _, hh, _⟩
  · simp [Value.ownBlock] at hk
  · have : g = k := by simpa [Value.ownBlock] using hk
    subst this
    exact (Array.getElem?_eq_some_iff.1 hh).1
/-- A cell of a block of another kind is written. -/
theorem own_put {X : World} {b s n : Nat} {t u : TypeId} {v : Value} {xs : List Value} (h : X.ownsRow b t s v n xs) {P : Nat} {cs : Array Value} (hP : Blk X P u cs) (ht : t ≠ u) (k : Nat) (x : Value) : (X.setCell ⟨P, k, none⟩ x).ownsRow b t s v n xs :=
  ownsRow_setCell_other h (own_not h (show X.heap[P]? = some (.cells cs u (0, 0)) from hP) ht) x
/-- The cells of a block. -/
def bz (z : BlkD × Value) : List Value := [.int .i64 z.1.id, .int .i64 z.1.at', z.2]
theorem bz_len (z : BlkD × Value) : (bz z).length = 3 := rfl
/-- The words lie in blocks of their own. -/
def ApartZ (zs : List (BlkD × Value)) : Prop := zs.Pairwise fun a b => a.2.ownBlock ≠ none → a.2.ownBlock ≠ b.2.ownBlock
/-- Blocks, and their words, in rows of one's own from N on. -/
structure RowZ (N : Nat) (zs : List (BlkD × Value)) (v : Value) (X : World) : Prop where
  own : X.ownsRow N 69 3 v zs.length (zs.flatMap bz)
  words : ∀ z ∈ zs, X.ownsRow N 37 1 z.2 z.1.w.length (u64s z.1.w)
  apart : ApartZ zs
theorem ApartZ.push {N : Nat} {zs : List (BlkD × Value)} {z : BlkD × Value} {X : World} (h : ApartZ zs) (hc : ∀ y ∈ zs, X.ownsRow N 37 1 y.2 y.1.w.length (u64s y.1.w)) (hz : z.2.ownBlock = none ∨ z.2.ownBlock = some X.heap.size) : ApartZ (zs ++ [z]) := by
  unfold ApartZ at h ⊢
  rw [List.pairwise_append]
  refine ⟨h, List.pairwise_singleton _ _, fun a ha b hb hne e => ?_⟩
  obtain rfl := List.mem_singleton.1 hb
  rcases hz with hz | hz
  · exact hne (e.trans hz)
  · have := own_ltN (hc a ha) (e.trans hz)
    omega
theorem RowZ.nil (N : Nat) (X : World) : RowZ N [] (.slice none 0 0) X := ⟨⟨by simp, .inl ⟨rfl, rfl⟩⟩, fun z hz => (by cases hz), List.Pairwise.nil⟩
theorem RowZ.bel {N : Nat} {zs : List (BlkD × Value)} {v : Value} {X Y : World} (h : RowZ N zs v X) (hb : Bel X Y) : RowZ N zs v Y := ⟨own_bel h.own hb, fun z hz => own_bel (h.words z hz) hb, h.apart⟩
theorem RowZ.mem {N : Nat} {zs : List (BlkD × Value)} {v : Value} {X : World} (h : RowZ N zs v X) {P : Nat} {cs : Array Value} (hP : Blk X P 45 cs) (k : Nat) (x : Value) : RowZ N zs v (X.setCell ⟨P, k, none⟩ x) :=
  ⟨own_put h.own hP (by decide) k x, fun z hz => own_put (h.words z hz) hP (by decide) k x, h.apart⟩
theorem RowZ.down {N M : Nat} {zs : List (BlkD × Value)} {v : Value} {X : World} (h : RowZ N zs v X) (hm : M ≤ N) : RowZ M zs v X := ⟨own_mono h.own hm, fun z hz => own_mono (h.words z hz) hm, h.apart⟩
theorem RowZ.push {N : Nat} {zs : List (BlkD × Value)} {v v' : Value} {X Y : World} {z : BlkD × Value} {n : Nat} (h : RowZ N zs v X) (hz : X.ownsRow N 37 1 z.2 z.1.w.length (u64s z.1.w)) (ha : ApartZ (zs ++ [z])) (hn : n = zs.length + 1) (ho : Y.ownsRow N 69 3 v' n (zs.flatMap bz ++ bz z)) (hg : X.grownBy Y v.ownBlock) : RowZ N (zs ++ [z]) v' Y := by
  subst hn
  refine ⟨?_, fun y hy => ?_, ha⟩
  · rw [List.length_append, List.flatMap_append, List.flatMap_singleton]
    exact ho
  · rcases List.mem_append.1 hy with hy | hy
    · exact own_grown (h.words y hy) h.own (by decide) hg
    · obtain rfl := List.mem_singleton.1 hy
      exact own_grown hz h.own (by decide) hg
def BlkWf (b : BlkD) : Prop := (∀ i, i < b.w.length → (Lit.int .u64 (b.w.getD i 0)).wf = true) ∧ (Lit.int .i64 b.id).wf = true ∧ (Lit.int .i64 b.at').wf = true
theorem own_ints {X : World} {N : Nat} {v : Value} {n : Nat} {ws : List Int} (h : X.ownsRow N 37 1 v n (u64s ws)) (hn : ws.length = n) (hw : ∀ i, i < ws.length → (Lit.int .u64 (ws.getD i 0)).wf = true) : ∃ A c, v = .slice A n c ∧ Sl (IntR .u64) 1 X A c ws := by
  subst hn
  rcases own_openK h with ⟨rfl, h0⟩ | ⟨g, c, rfl, hg1, hg2, hc1, hc2, hfz, hcl⟩
  · obtain rfl : ws = [] := List.eq_nil_of_length_eq_zero h0
    exact ⟨none, 0, rfl, Sl.nil _ _ _⟩
  · refine ⟨some ⟨g, 0, none⟩, c, rfl, OwnW.sl ⟨hc1, hc2, fun i hi => hcl i _ ?_, hfz, hw⟩⟩
    simp [u64s, List.getElem?_eq_getElem hi, List.getD_eq_getElem?_getD]
theorem RowZ.sl {N : Nat} {zs : List (BlkD × Value)} {v : Value} {X : World} (h : RowZ N zs v X) (hw : ∀ z ∈ zs, BlkWf z.1) : ∃ A c, v = .slice A zs.length c ∧ Sl BlkR 3 X A c (zs.map Prod.fst) := by
  refine sl_of_rows (R := BlkR) bz bz_len Prod.fst h.own fun z hz => ?_
  obtain ⟨A, c, e, hs⟩ := own_ints (h.words z hz) rfl (hw z hz).1
  exact ⟨A, c, by unfold bz; rw [e], hs, (hw z hz).2.1, (hw z hz).2.2⟩
theorem own_abv {N : Nat} {X Y : World} {e : TypeId} {s : Nat} {v : Value} {n : Nat} {xs : List Value} (h : X.ownsRow N e s v n xs) (hb : Abv N X Y) : Y.ownsRow N e s v n xs :=
  ⟨h.1, h.2.imp id fun ⟨g, cap, cur, h1, h2, h3, r⟩ => ⟨g, cap, cur, h1, h2, (hb.block g h2 (Array.getElem?_eq_some_iff.1 h3).1).trans h3, r⟩⟩
theorem RowZ.abv {N : Nat} {zs : List (BlkD × Value)} {v : Value} {X Y : World} (h : RowZ N zs v X) (hb : Abv N X Y) : RowZ N zs v Y := ⟨own_abv h.own hb, fun z hz => own_abv (h.words z hz) hb, h.apart⟩
theorem RowZ.slS {N : Nat} {zs : List (BlkD × Value)} {v : Value} {X : World} (h : RowZ N zs v X) (hw : ∀ z ∈ zs, BlkWf z.1) : ∃ A c, v = .slice A zs.length c ∧ SlS N X A c (zs.map Prod.fst) := by
  obtain ⟨A, c, e, -⟩ := h.sl hw
  refine ⟨A, c, e, fun Y hb => ?_⟩
  obtain ⟨A', c', e', hs⟩ := (h.abv hb).sl hw
  rw [e] at e'
  cases e'
  exact hs
theorem sl_bwf {w : World} {A : Option Addr} {c : Nat} {l : List BlkD} (h : Sl BlkR 3 w A c l) : ∀ b ∈ l, BlkWf b := by
  intro b hb
  obtain ⟨j, hj, rfl⟩ := List.mem_iff_getElem.1 hb
  obtain ⟨b', off, cs, -, -, ⟨A', c', -, hs, h1, h2⟩, -⟩ := h.get j hj
  refine ⟨fun i hi => ?_, h1, h2⟩
  obtain ⟨bw, ow, -, hc⟩ := hs.int_cell (by omega)
  exact (hc i hi).2
/-- 'append' of words onto nothing. -/
theorem app_words (ty : TypeId) {X : World} {A : Option Addr} {m c base : Nat} {l : List Int} (h : Sl (IntR .u64) 1 X A c l) (hm : l.length = m) (hx : m ≤ 4096) (hb : base ≤ X.heap.size) :
    ∃ v' w', (Builtin.append_ #[27, 27] ty #[.slice none 0 0, .slice A m c]).run Try.prog X = .ok v' w' ∧ w'.ownsRow base 37 1 v' m (u64s l) ∧ Bel X w' ∧ (v'.ownBlock = none ∨ v'.ownBlock = some X.heap.size) ∧ ∃ A' c', v' = .slice A' m c' := by
  obtain ⟨i0, hi, hzz⟩ := Option.map_eq_some_iff.1 info_word
  simp only [Prod.mk.injEq] at hzz
  obtain ⟨hz0, hz1, hz2⟩ := hzz
  have ho : X.ownsRow base 37 1 (.slice none 0 0) 0 [] := ⟨by simp, .inl ⟨rfl, rfl⟩⟩
  have hl1 : (u64s l).length = m * 1 := by simp [u64s, hm]
  cases A with
  | none =>
    have h0 : m = 0 := by
      rcases Nat.eq_zero_or_pos m with h0 | h0
      · exact h0
      · obtain ⟨b, o, e⟩ := h.addr (by rw [hm]; exact h0)
        cases e
    subst h0
    have hl : l = [] := List.eq_nil_of_length_eq_zero hm
    subst hl
    refine ⟨.slice none 0 0, X, ?_, ho, Bel.refl _, .inl rfl, none, 0, rfl⟩
    simp [Builtin.append_, run_underlying Try.underlying27, sizeOf, typeInfo, hi, Builtin.lenOf, Builtin.firstCells]
  | some a =>
    have hcells : ∀ j u, (u64s l)[j]? = some u → X.cell? (a.add j) = some u := by
      intro j u hu
      have hj : j < l.length := by
        have := (List.getElem?_eq_some_iff.1 hu).1
        simpa [u64s] using this
      obtain ⟨b, o, e, hc⟩ := h.int_cell (by omega)
      cases e
      have e1 : (u64s l)[j]? = some (.int .u64 (l.getD j 0)) := by
        simp [u64s, List.getElem?_eq_getElem hj, List.getD_eq_getElem?_getD]
      rw [e1] at hu
      rw [← Option.some.inj hu, Addr.add_lit]
      exact (hc j hj).1
    obtain ⟨v', w', hr, h2, h3, _, h5⟩ := run_append_own_at (P := Try.prog) X base _ ty 37 i0 _ 1 8 Try.underlying27 hi hz0 hz1 hz2 rfl (by decide) (.slice none 0 0) 0 [] ho a m c (u64s l) hl1 hcells (u64s_one l) (by simp only [maxLen]; omega) (by omega) hb
    rw [Nat.zero_add, List.nil_append] at h2
    exact ⟨v', w', hr, h2, (Bel.refl X).grown h3 (fun k hk => by simp [Value.ownBlock] at hk), h5, own_slice h2⟩
theorem blk3_one (id a : Int) (A : Option Addr) (m c : Nat) : ∀ u ∈ [Value.int .i64 id, .int .i64 a, .slice A m c], u.oneCell' = true := by
  intro u hu
  simp only [List.mem_cons, List.not_mem_nil, or_false] at hu
  rcases hu with rfl | rfl | rfl <;> rfl
/-- 'append' of a block. -/
theorem app_blk (ty : TypeId) {X : World} {base n : Nat} {v : Value} {xs : List Value} (ho : X.ownsRow base 69 3 v n xs) (hn : n ≤ 4096) (g : Nat) {id a : Int} {A : Option Addr} {m c : Nat} (hnews : ∀ j u, [Value.int .i64 id, .int .i64 a, .slice A m c][j]? = some u → X.cell? ((⟨g, 0, none⟩ : Addr).add j) = some u) (hb : base ≤ X.heap.size) :
    ∃ v' w', (Builtin.append_ #[43, 43] ty #[v, .slice (some ⟨g, 0, none⟩) 1 1]).run Try.prog X = .ok v' w' ∧ w'.ownsRow base 69 3 v' (n + 1) (xs ++ [Value.int .i64 id, .int .i64 a, .slice A m c]) ∧ X.grownBy w' v.ownBlock ∧ ∃ g' c', v' = .slice (some ⟨g', 0, none⟩) (n + 1) c' := by
  obtain ⟨i0, hi, hzz⟩ := Option.map_eq_some_iff.1 info_Block
  simp only [Prod.mk.injEq] at hzz
  obtain ⟨hz0, hz1, hz2⟩ := hzz
  obtain ⟨v', w', hr, h2, h3, _, h5⟩ := run_append_own_at (P := Try.prog) X base _ ty 69 i0 _ 3 40 Try.underlying43 hi hz0 hz1 hz2 rfl (by decide) v n xs ho ⟨g, 0, none⟩ 1 1 [Value.int .i64 id, .int .i64 a, .slice A m c] rfl hnews (blk3_one id a A m c) (by simp only [maxLen]; omega) (by omega) hb
  exact ⟨v', w', hr, h2, h3, own_form h2⟩
/-- What a round of Own's loop knows. -/
structure OwnQ (w : World) (g R Pb : Nat) (cap : Int) (sv : Value) (zs : List (BlkD × Value)) (v : Value) (X : World) : Prop where
  bel : Bel w X
  mb : Blk X g 45 #[.int .i64 cap, sv]
  res : Blk X R 45 #[.int .i64 0, .slice none 0 0]
  box : Blk X Pb 45 #[.int .i64 cap, v]
  row : RowZ w.heap.size zs v X
theorem OwnQ.mono {w : World} {g R Pb : Nat} {cap : Int} {sv : Value} {zs : List (BlkD × Value)} {v : Value} {X Y : World} (h : OwnQ w g R Pb cap sv zs v X) (hb : Bel X Y) : OwnQ w g R Pb cap sv zs v Y :=
  ⟨h.bel.trans hb, h.mb.bel hb, h.res.bel hb, h.box.bel hb, h.row.bel hb⟩
theorem OwnQ.push {w : World} {g R Pb : Nat} {cap : Int} {sv : Value} {zs : List (BlkD × Value)} {v v' : Value} {X Y : World} {z : BlkD × Value} {n : Nat} (h : OwnQ w g R Pb cap sv zs v X) (hgP : g ≠ Pb) (hRP : R ≠ Pb) (hwP : w.heap.size ≤ Pb) (hn : n = zs.length + 1) (hz : X.ownsRow w.heap.size 37 1 z.2 z.1.w.length (u64s z.1.w)) (ha : ApartZ (zs ++ [z])) (ho : Y.ownsRow w.heap.size 69 3 v' n (zs.flatMap bz ++ bz z)) (hg : X.grownBy Y v.ownBlock) : OwnQ w g R Pb cap sv (zs ++ [z]) v' (Y.setCell ⟨Pb, 1, none⟩ v') := by
  have hbx := blk_grown h.box h.row.own (by decide) hg
  exact ⟨(row_low h.row.own w (Nat.le_refl _) h.bel hg).setCell (p := ⟨Pb, 1, none⟩) hwP v', (blk_grown h.mb h.row.own (by decide) hg).other (p := ⟨Pb, 1, none⟩) hgP v', (blk_grown h.res h.row.own (by decide) hg).other (p := ⟨Pb, 1, none⟩) hRP v', Blk.set (cs := #[.int .i64 cap, v]) hbx 1 v', (h.row.push hz ha hn ho hg).mem hbx 1 v'⟩
/-- What the region reads. -/
structure OwnSQ (w : World) (g Pb : Nat) (sv v : Value) (X : World) : Prop where
  bel : Bel w X
  mb : X.cell? ⟨g, 1, none⟩ = some sv
  c : X.cell? ⟨Pb, 1, none⟩ = some v
  f : X.frozen? ⟨Pb, 1, none⟩ = false
theorem OwnQ.s {w : World} {g R Pb : Nat} {cap : Int} {sv : Value} {zs : List (BlkD × Value)} {v : Value} {X : World} (h : OwnQ w g R Pb cap sv zs v X) : OwnSQ w g Pb sv v X := ⟨h.bel, h.mb.cell 1 rfl, h.box.cell 1 rfl, h.box.frozen 1⟩
theorem OwnSQ.mono {w : World} {g Pb : Nat} {sv v : Value} {X Y : World} (h : OwnSQ w g Pb sv v X) (hb : Bel X Y) : OwnSQ w g Pb sv v Y := ⟨h.bel.trans hb, hb.cell h.mb, hb.cell h.c, (hb.frozen h.c).trans h.f⟩
set_option maxHeartbeats 8000000 in
set_option maxRecDepth 100000 in
theorem own13_any (cap : Int) (A : Option Addr) (n c : Nat) (L : List BlkD) (w : World) (hL : Sl BlkR 3 w A c L) (hn : Hid (L.length = n)) (hs : n ≤ 4000) (hsm : Hid (∀ i, i < L.length → (L[i]!).w.length ≤ 4000)) :
    Calls Try.prog 60 #[.agg #[.int .i64 cap, .slice A n c]] w fun e w' => ∃ zs v, e = .returned (.agg #[.int .i64 cap, v]) ∧ zs.map Prod.fst = L ∧ RowZ w.heap.size zs v w' ∧ Bel w w' := by
  have HL := Lib.hid hL
  have HI0 : Hid (OwnQ w w.heap.size (w.heap.size + 1) (w.heap.size + 1 + 1) cap (.slice A n c) [] (.slice none 0 0) (((w.alloc (.cells #[.int .i64 cap, .slice A n c] 45)).alloc (.cells #[.int .i64 0, .slice none 0 0] 45)).alloc (.cells #[.int .i64 cap, .slice none 0 0] 45))) := Lib.hid (by
    have k1 := Blk.new (w.alloc (.cells #[.int .i64 cap, .slice A n c] 45)) 45 #[.int .i64 0, .slice none 0 0]
    have k2 := Blk.new ((w.alloc (.cells #[.int .i64 cap, .slice A n c] 45)).alloc (.cells #[.int .i64 0, .slice none 0 0] 45)) 45 #[.int .i64 cap, .slice none 0 0]
    rw [World.size_alloc] at k1
    rw [World.size_alloc, World.size_alloc] at k2
    refine ⟨(((Bel.refl w).alloc _).alloc _).alloc _, ((Blk.new w 45 #[.int .i64 cap, .slice A n c]).alloc _).alloc _, k1.alloc _, k2, RowZ.nil _ _⟩)
  have q0 := (Blk.new w 45 #[.int .i64 cap, .slice A n c]).cell 0 (v := .int .i64 cap) rfl
  clear hL
  go_enter Try.func60, Try.ntmps60
  go_wp2_with fail
  clear q0
  generalize (((w.alloc (.cells #[.int .i64 cap, .slice A n c] 45)).alloc (.cells #[.int .i64 0, .slice none 0 0] 45)).alloc (.cells #[.int .i64 cap, .slice none 0 0] 45)) = W1 at *
  obtain ⟨g, hg⟩ : ∃ g, w.heap.size = g := ⟨_, rfl⟩
  obtain ⟨R, hR⟩ : ∃ R, w.heap.size + 1 = R := ⟨_, rfl⟩
  obtain ⟨Pb, hPb⟩ : ∃ Pb, w.heap.size + 1 + 1 = Pb := ⟨_, rfl⟩
  have hgR : g + 1 = R := by omega
  have hRP : R + 1 = Pb := by omega
  have hwP : w.heap.size ≤ Pb := by omega
  have hwR : w.heap.size ≤ R := by omega
  rw [hPb] at HI0
  rw [hR] at HI0
  simp only [hPb]
  simp only [hR]
  have HI1 : Hid (OwnQ w g R Pb cap (.slice A n c) [] (.slice none 0 0) W1) := Lib.hid (by have := HI0.out; rw [← hg]; exact this)
  simp only [hg]
  clear hPb hR HI0
  have hwg : w.heap.size ≤ g := by omega
  clear hg
  go_loopw [4] (fun iv wr => ∃ (i : Nat) (zs : List (BlkD × Value)) (v : Value), iv = .int .i64 i ∧ i ≤ n ∧ Hid (zs.map Prod.fst = L.take i) ∧ Hid (OwnQ w g R Pb cap (.slice A n c) zs v wr)) (fun iv _ => n - (intOf iv).toNat)
  case atStart => exact ⟨0, [], _, rfl, by omega, Lib.hid (by simp), HI1⟩
  case round =>
    clear HI1
    obtain ⟨i, zs, v, rfl, hin, HZS, HII⟩ := hrel
    have q1 := HII.out.mb.cell 1 (v := .slice A n c) rfl
    have HZ : Hid (zs.length = i) := Lib.hid (by
      have := congrArg List.length HZS.out
      rw [List.length_map, List.length_take, hn.out] at this
      omega)
    by_cases hend : i = n
    · subst hend
      have p0 := HII.out.box.cell 0 (v := .int .i64 cap) rfl
      have p1 := HII.out.box.cell 1 (v := v) rfl
      have r0 := HII.out.res.cell 0 (v := .int .i64 0) rfl
      have r1 := HII.out.res.cell 1 (v := .slice none 0 0) rfl
      have f0 := HII.out.res.frozen 0
      have f1 := HII.out.res.frozen 1
      obtain ⟨AV, cV, rfl⟩ := own_slice HII.out.row.own
      have HQ : Hid (Blk ((wr.setCell ⟨R, 0, none⟩ (.int .i64 cap)).setCell ⟨R, 1, none⟩ (.slice AV zs.length cV)) R 45 #[.int .i64 cap, .slice AV zs.length cV]) := Lib.hid ((HII.out.res.set 0 _).set 1 _)
      have HD := Lib.hid ((HII.out.row.mem HII.out.res 0 (.int .i64 cap)).mem (HII.out.res.set 0 (.int .i64 cap)) 1 (.slice AV zs.length cV))
      have HBF := Lib.hid ((HII.out.bel.setCell (p := ⟨R, 0, none⟩) hwR (.int .i64 cap)).setCell (p := ⟨R, 1, none⟩) hwR (.slice AV zs.length cV))
      have HE : Hid (zs.map Prod.fst = L) := Lib.hid (by rw [HZS.out, List.take_of_length_le (by rw [hn.out]; exact Nat.le_refl _)])
      go_wp2_with fail
      refine bodyPost_ret (v := .agg #[.int .i64 cap, .slice AV zs.length cV]) ?_ rfl ⟨zs, _, rfl, HE.out, HD.out, HBF.out⟩
      have h1 := HQ.out.cell 0 (v := .int .i64 cap) rfl
      have h2 := HQ.out.cell 1 (v := .slice AV zs.length cV) rfl
      simp [results, Try.results60, go_sem, h1, h2]
    · have hi1 : i < n := by omega
      have hiL : i < L.length := by rw [hn.out]; exact hi1
      have hi2 : (i : Int) < n := by omega
      have hi3 : ¬ (i : Int) < 0 := by omega
      have hi4 : ¬ (n : Int) ≤ i := by omega
      have ei : IntKind.i64.wrap ((i : Int) + 1) = ((i + 1 : Nat) : Int) := by rw [wrap_i64 (by omega) (by omega)]; omega
      obtain ⟨b, o, rfl⟩ := HL.out.addr (by omega)
      obtain ⟨Ak, ck, d0, d1, d2, hsk, -, -⟩ := blk_cells HL.out i hiL
      obtain ⟨lk, HLK⟩ : ∃ lk, Hid ((L[i]!).w.length = lk) := ⟨_, Lib.hid rfl⟩
      have hlk : lk ≤ 4096 := by
        have := hsm.out i hiL
        rw [HLK.out] at this
        omega
      rw [HLK.out] at d2
      have HSK := Lib.hid hsk
      have HTK : Hid (zs.map Prod.fst ++ [L[i]!] = L.take (i + 1)) := Lib.hid (by rw [HZS.out, List.take_succ_eq_append_getElem hiL, getElem!_pos L i hiL])
      clear hsk hend
      generalize L[i]! = B at *
      go_wp2_with fail
      have HIX := Lib.hid (HII.out.mono ((Bel.refl wr).drew))
      have SD := HIX.out.s
      have P0 := fun (w' : World) (h : OwnSQ w g Pb (.slice (some ⟨b, o, none⟩) n c) v w') => h.c
      have P1 := fun (w' : World) (h : OwnSQ w g Pb (.slice (some ⟨b, o, none⟩) n c) v w') => h.f
      have P2 := fun (w' : World) (h : OwnSQ w g Pb (.slice (some ⟨b, o, none⟩) n c) v w') => h.mb
      have D0 := fun (w' : World) (h : OwnSQ w g Pb (.slice (some ⟨b, o, none⟩) n c) v w') => h.bel.cell d0
      have D1 := fun (w' : World) (h : OwnSQ w g Pb (.slice (some ⟨b, o, none⟩) n c) v w') => h.bel.cell d1
      have D2 := fun (w' : World) (h : OwnSQ w g Pb (.slice (some ⟨b, o, none⟩) n c) v w') => h.bel.cell d2
      clear d0 d1 d2
      refine wp_region_T (fun w' => OwnSQ w g Pb (.slice (some ⟨b, o, none⟩) n c) v w') (fun j => j == 25) (by kernel_rfl) ?_
      refine wpAnyU_take (i := 0) (v := ?v0) rfl (by kernel_rfl) (by kernel_rfl) (by kernel_rfl) (by kernel_rfl) (fun _ _ _ h => h) ?hy0 SD ?rest0
      case hy0 => first | (refine Or.inl ⟨by rfl, ?_⟩; (intro w' hSw; go_simp) <;> with_reducible rfl) | (refine Or.inr ⟨by rfl, ?_⟩; with_reducible rfl)
      try simp only [List.getElem_toArray, List.getElem_cons_zero, List.getElem_cons_succ, Act.put, List.setIfInBounds_toArray, List.set_cons_zero, List.set_cons_succ]
      refine wpAnyU_take (i := 1) (v := ?v1) rfl (by kernel_rfl) (by kernel_rfl) (by kernel_rfl) (by kernel_rfl) (fun _ _ _ h => h) ?hy1 SD ?rest1
      case hy1 => first | (refine Or.inl ⟨by rfl, ?_⟩; (intro w' hSw; go_simp) <;> with_reducible rfl) | (refine Or.inr ⟨by rfl, ?_⟩; with_reducible rfl)
      try simp only [List.getElem_toArray, List.getElem_cons_zero, List.getElem_cons_succ, Act.put, List.setIfInBounds_toArray, List.set_cons_zero, List.set_cons_succ]
      refine wpAnyU_take (i := 2) (v := ?v2) rfl (by kernel_rfl) (by kernel_rfl) (by kernel_rfl) (by kernel_rfl) (fun _ _ _ h => h) ?hy2 SD ?rest2
      case hy2 => first | (refine Or.inl ⟨by rfl, ?_⟩; (intro w' hSw; go_simp) <;> with_reducible rfl) | (refine Or.inr ⟨by rfl, ?_⟩; with_reducible rfl)
      try simp only [List.getElem_toArray, List.getElem_cons_zero, List.getElem_cons_succ, Act.put, List.setIfInBounds_toArray, List.set_cons_zero, List.set_cons_succ]
      refine wpAnyU_take (i := 3) (v := ?v3) rfl (by kernel_rfl) (by kernel_rfl) (by kernel_rfl) (by kernel_rfl) (fun _ _ _ h => h) ?hy3 SD ?rest3
      case hy3 => first | (refine Or.inl ⟨by rfl, ?_⟩; (intro w' hSw; go_simp) <;> with_reducible rfl) | (refine Or.inr ⟨by rfl, ?_⟩; with_reducible rfl)
      try simp only [List.getElem_toArray, List.getElem_cons_zero, List.getElem_cons_succ, Act.put, List.setIfInBounds_toArray, List.set_cons_zero, List.set_cons_succ]
      refine wpAnyU_take (i := 4) (v := ?v4) rfl (by kernel_rfl) (by kernel_rfl) (by kernel_rfl) (by kernel_rfl) (fun _ _ _ h => h) ?hy4 SD ?rest4
      case hy4 => first | (refine Or.inl ⟨by rfl, ?_⟩; (intro w' hSw; go_simp) <;> with_reducible rfl) | (refine Or.inr ⟨by rfl, ?_⟩; with_reducible rfl)
      try simp only [List.getElem_toArray, List.getElem_cons_zero, List.getElem_cons_succ, Act.put, List.setIfInBounds_toArray, List.set_cons_zero, List.set_cons_succ]
      refine wpAnyU_take (i := 5) (v := ?v5) rfl (by kernel_rfl) (by kernel_rfl) (by kernel_rfl) (by kernel_rfl) (fun _ _ _ h => h) ?hy5 SD ?rest5
      case hy5 => first | (refine Or.inl ⟨by rfl, ?_⟩; (intro w' hSw; go_simp) <;> with_reducible rfl) | (refine Or.inr ⟨by rfl, ?_⟩; with_reducible rfl)
      try simp only [List.getElem_toArray, List.getElem_cons_zero, List.getElem_cons_succ, Act.put, List.setIfInBounds_toArray, List.set_cons_zero, List.set_cons_succ]
      refine wpAnyU_take (i := 6) (v := ?v6) rfl (by kernel_rfl) (by kernel_rfl) (by kernel_rfl) (by kernel_rfl) (fun _ _ _ h => h) ?hy6 SD ?rest6
      case hy6 => first | (refine Or.inl ⟨by rfl, ?_⟩; (intro w' hSw; go_simp) <;> with_reducible rfl) | (refine Or.inr ⟨by rfl, ?_⟩; with_reducible rfl)
      try simp only [List.getElem_toArray, List.getElem_cons_zero, List.getElem_cons_succ, Act.put, List.setIfInBounds_toArray, List.set_cons_zero, List.set_cons_succ]
      refine wpAnyU_take (i := 7) (v := ?v7) rfl (by kernel_rfl) (by kernel_rfl) (by kernel_rfl) (by kernel_rfl) (fun _ _ _ h => h) ?hy7 SD ?rest7
      case hy7 => first | (refine Or.inl ⟨by rfl, ?_⟩; (intro w' hSw; go_simp) <;> with_reducible rfl) | (refine Or.inr ⟨by rfl, ?_⟩; with_reducible rfl)
      try simp only [List.getElem_toArray, List.getElem_cons_zero, List.getElem_cons_succ, Act.put, List.setIfInBounds_toArray, List.set_cons_zero, List.set_cons_succ]
      refine wpAnyU_take (i := 8) (v := ?v8) rfl (by kernel_rfl) (by kernel_rfl) (by kernel_rfl) (by kernel_rfl) (fun _ _ _ h => h) ?hy8 SD ?rest8
      case hy8 => first | (refine Or.inl ⟨by rfl, ?_⟩; (intro w' hSw; go_simp) <;> with_reducible rfl) | (refine Or.inr ⟨by rfl, ?_⟩; with_reducible rfl)
      try simp only [List.getElem_toArray, List.getElem_cons_zero, List.getElem_cons_succ, Act.put, List.setIfInBounds_toArray, List.set_cons_zero, List.set_cons_succ]
      refine wpAnyU_take (i := 9) (v := ?v9) rfl (by kernel_rfl) (by kernel_rfl) (by kernel_rfl) (by kernel_rfl) (fun _ _ _ h => h) ?hy9 SD ?rest9
      case hy9 => first | (refine Or.inl ⟨by rfl, ?_⟩; (intro w' hSw; go_simp) <;> with_reducible rfl) | (refine Or.inr ⟨by rfl, ?_⟩; with_reducible rfl)
      try simp only [List.getElem_toArray, List.getElem_cons_zero, List.getElem_cons_succ, Act.put, List.setIfInBounds_toArray, List.set_cons_zero, List.set_cons_succ]
      refine wpAnyU_take (i := 10) (v := ?v10) rfl (by kernel_rfl) (by kernel_rfl) (by kernel_rfl) (by kernel_rfl) (fun _ _ _ h => h) ?hy10 SD ?rest10
      case hy10 => first | (refine Or.inl ⟨by rfl, ?_⟩; (intro w' hSw; go_simp) <;> with_reducible rfl) | (refine Or.inr ⟨by rfl, ?_⟩; with_reducible rfl)
      try simp only [List.getElem_toArray, List.getElem_cons_zero, List.getElem_cons_succ, Act.put, List.setIfInBounds_toArray, List.set_cons_zero, List.set_cons_succ]
      refine wpAnyU_take (i := 11) (v := ?v11) rfl (by kernel_rfl) (by kernel_rfl) (by kernel_rfl) (by kernel_rfl) (fun _ _ _ h => h) ?hy11 SD ?rest11
      case hy11 => first | (refine Or.inl ⟨by rfl, ?_⟩; (intro w' hSw; go_simp) <;> with_reducible rfl) | (refine Or.inr ⟨by rfl, ?_⟩; with_reducible rfl)
      try simp only [List.getElem_toArray, List.getElem_cons_zero, List.getElem_cons_succ, Act.put, List.setIfInBounds_toArray, List.set_cons_zero, List.set_cons_succ]
      refine wpAnyU_take (i := 12) (v := ?v12) rfl (by kernel_rfl) (by kernel_rfl) (by kernel_rfl) (by kernel_rfl) (fun _ _ _ h => h) ?hy12 SD ?rest12
      case hy12 => first | (refine Or.inl ⟨by rfl, ?_⟩; (intro w' hSw; go_simp) <;> with_reducible rfl) | (refine Or.inr ⟨by rfl, ?_⟩; with_reducible rfl)
      try simp only [List.getElem_toArray, List.getElem_cons_zero, List.getElem_cons_succ, Act.put, List.setIfInBounds_toArray, List.set_cons_zero, List.set_cons_succ]
      refine wpAnyU_take (i := 13) (v := ?v13) rfl (by kernel_rfl) (by kernel_rfl) (by kernel_rfl) (by kernel_rfl) (fun _ _ _ h => h) ?hy13 SD ?rest13
      case hy13 => first | (refine Or.inl ⟨by rfl, ?_⟩; (intro w' hSw; go_simp) <;> with_reducible rfl) | (refine Or.inr ⟨by rfl, ?_⟩; with_reducible rfl)
      try simp only [List.getElem_toArray, List.getElem_cons_zero, List.getElem_cons_succ, Act.put, List.setIfInBounds_toArray, List.set_cons_zero, List.set_cons_succ]
      refine wpAnyU_take (i := 14) (v := ?v14) rfl (by kernel_rfl) (by kernel_rfl) (by kernel_rfl) (by kernel_rfl) (fun _ _ _ h => h) ?hy14 SD ?rest14
      case hy14 => first | (refine Or.inl ⟨by rfl, ?_⟩; (intro w' hSw; go_simp) <;> with_reducible rfl) | (refine Or.inr ⟨by rfl, ?_⟩; with_reducible rfl)
      try simp only [List.getElem_toArray, List.getElem_cons_zero, List.getElem_cons_succ, Act.put, List.setIfInBounds_toArray, List.set_cons_zero, List.set_cons_succ]
      refine wpAnyU_take (i := 15) (v := ?v15) rfl (by kernel_rfl) (by kernel_rfl) (by kernel_rfl) (by kernel_rfl) (fun _ _ _ h => h) ?hy15 SD ?rest15
      case hy15 => first | (refine Or.inl ⟨by rfl, ?_⟩; (intro w' hSw; go_simp) <;> with_reducible rfl) | (refine Or.inr ⟨by rfl, ?_⟩; with_reducible rfl)
      try simp only [List.getElem_toArray, List.getElem_cons_zero, List.getElem_cons_succ, Act.put, List.setIfInBounds_toArray, List.set_cons_zero, List.set_cons_succ]
      refine wpAnyU_take (i := 16) (v := ?v16) rfl (by kernel_rfl) (by kernel_rfl) (by kernel_rfl) (by kernel_rfl) (fun _ _ _ h => h) ?hy16 SD ?rest16
      case hy16 => first | (refine Or.inl ⟨by rfl, ?_⟩; (intro w' hSw; go_simp) <;> with_reducible rfl) | (refine Or.inr ⟨by rfl, ?_⟩; with_reducible rfl)
      try simp only [List.getElem_toArray, List.getElem_cons_zero, List.getElem_cons_succ, Act.put, List.setIfInBounds_toArray, List.set_cons_zero, List.set_cons_succ]
      refine wpAnyU_take (i := 17) (v := ?v17) rfl (by kernel_rfl) (by kernel_rfl) (by kernel_rfl) (by kernel_rfl) (fun _ _ _ h => h) ?hy17 SD ?rest17
      case hy17 => first | (refine Or.inl ⟨by rfl, ?_⟩; (intro w' hSw; go_simp) <;> with_reducible rfl) | (refine Or.inr ⟨by rfl, ?_⟩; with_reducible rfl)
      try simp only [List.getElem_toArray, List.getElem_cons_zero, List.getElem_cons_succ, Act.put, List.setIfInBounds_toArray, List.set_cons_zero, List.set_cons_succ]
      refine wpAnyU_take (i := 18) (v := ?v18) rfl (by kernel_rfl) (by kernel_rfl) (by kernel_rfl) (by kernel_rfl) (fun _ _ _ h => h) ?hy18 SD ?rest18
      case hy18 => first | (refine Or.inl ⟨by rfl, ?_⟩; (intro w' hSw; go_simp) <;> with_reducible rfl) | (refine Or.inr ⟨by rfl, ?_⟩; with_reducible rfl)
      try simp only [List.getElem_toArray, List.getElem_cons_zero, List.getElem_cons_succ, Act.put, List.setIfInBounds_toArray, List.set_cons_zero, List.set_cons_succ]
      refine wpAnyU_take (i := 19) (v := ?v19) rfl (by kernel_rfl) (by kernel_rfl) (by kernel_rfl) (by kernel_rfl) (fun _ _ _ h => h) ?hy19 SD ?rest19
      case hy19 => first | (refine Or.inl ⟨by rfl, ?_⟩; (intro w' hSw; go_simp) <;> with_reducible rfl) | (refine Or.inr ⟨by rfl, ?_⟩; with_reducible rfl)
      try simp only [List.getElem_toArray, List.getElem_cons_zero, List.getElem_cons_succ, Act.put, List.setIfInBounds_toArray, List.set_cons_zero, List.set_cons_succ]
      refine wpAnyT_one (i := 20) (by kernel_rfl) rfl (fun K hK => ?_)
      refine step_append_run (by rfl) _ _ _ (by rfl) (.slice none 0 0) (.slice Ak lk ck) (by rfl) (by rfl) _ (app_words (base := w.heap.size) _ (HSK.out.mono (IntR.mono _) HIX.out.bel) HLK.out hlk HIX.out.bel.size) ?_
      rintro v5 w5 ⟨ho5, hb5, hn5, A5, c5, hv5⟩
      subst hv5
      have HI5 := Lib.hid (HIX.out.mono hb5)
      have S5 := HI5.out.s
      have HAP := Lib.hid (HIX.out.row.apart.push (z := (B, .slice A5 lk c5)) HIX.out.row.words hn5)
      have HO5 := Lib.hid ho5
      clear ho5 hb5 hn5
      refine hK.out _ _ (fun _ => S5) ?_
      clear hK K
      try simp only [List.getElem_toArray, List.getElem_cons_zero, List.getElem_cons_succ, Act.put, List.setIfInBounds_toArray, List.set_cons_zero, List.set_cons_succ]
      refine wpAnyU_take (i := 21) (v := ?v21) rfl (by kernel_rfl) (by kernel_rfl) (by kernel_rfl) (by kernel_rfl) (fun _ _ _ h => h) ?hy21 S5 ?rest21
      case hy21 => first | (refine Or.inl ⟨by rfl, ?_⟩; (intro w' hSw; go_simp) <;> with_reducible rfl) | (refine Or.inr ⟨by rfl, ?_⟩; with_reducible rfl)
      try simp only [List.getElem_toArray, List.getElem_cons_zero, List.getElem_cons_succ, Act.put, List.setIfInBounds_toArray, List.set_cons_zero, List.set_cons_succ]
      refine wpAnyT_one (i := 22) (by kernel_rfl) rfl (fun K hK => ?_)
      go_simp
      refine hK.out _ _ (fun _ => S5.mono ((Bel.refl w5).alloc _)) ?_
      clear hK K
      try simp only [List.getElem_toArray, List.getElem_cons_zero, List.getElem_cons_succ, Act.put, List.setIfInBounds_toArray, List.set_cons_zero, List.set_cons_succ]
      refine wpAnyT_one (i := 23) (by kernel_rfl) rfl (fun K hK => ?_)
      refine step_append_run (by rfl) _ _ _ (by rfl) v (.slice (some ⟨w5.heap.size, 0, none⟩) 1 1) (by rfl) (by rfl) _ (app_blk _ (HI5.out.mono ((Bel.refl w5).alloc _)).row.own (by rw [HZ.out]; omega) w5.heap.size (fun j u hu => cells_new w5 #[.int .i64 B.id, .int .i64 B.at', .slice A5 lk c5] 69 j u hu) (HI5.out.mono ((Bel.refl w5).alloc _)).bel.size) ?_
      rintro v8 w8 ⟨ho8, hg8, g8, c8, hv8⟩
      subst hv8
      have HI8 := Lib.hid ((HI5.out.mono ((Bel.refl w5).alloc (.cells #[.int .i64 B.id, .int .i64 B.at', .slice A5 lk c5] 69))).push (z := (B, .slice A5 lk c5)) (by omega) (by omega) hwP rfl (by rw [HLK.out]; exact own_bel HO5.out ((Bel.refl w5).alloc _)) HAP.out ho8 hg8)
      have S8 : OwnSQ w g Pb (.slice (some ⟨b, o, none⟩) n c) v w8 := by
        have HH := HI5.out.mono ((Bel.refl w5).alloc (.cells #[.int .i64 B.id, .int .i64 B.at', .slice A5 lk c5] 69))
        have k1 := blk_grown HH.mb HH.row.own (by decide) hg8
        have k2 := blk_grown HH.box HH.row.own (by decide) hg8
        exact ⟨row_low HH.row.own w (Nat.le_refl _) HH.bel hg8, k1.cell 1 rfl, k2.cell 1 rfl, k2.frozen 1⟩
      clear ho8 hg8
      refine hK.out _ _ (fun _ => S8) ?_
      clear hK K
      try simp only [List.getElem_toArray, List.getElem_cons_zero, List.getElem_cons_succ, Act.put, List.setIfInBounds_toArray, List.set_cons_zero, List.set_cons_succ]
      refine wpAnyU_take (i := 24) (v := ?v24) rfl (by kernel_rfl) (by kernel_rfl) (by kernel_rfl) (by kernel_rfl) (fun _ _ _ h => h) ?hy24 S8 ?rest24
      case hy24 => first | (refine Or.inl ⟨by rfl, ?_⟩; (intro w' hSw; go_simp) <;> with_reducible rfl) | (refine Or.inr ⟨by rfl, ?_⟩; with_reducible rfl)
      try simp only [List.getElem_toArray, List.getElem_cons_zero, List.getElem_cons_succ, Act.put, List.setIfInBounds_toArray, List.set_cons_zero, List.set_cons_succ]
      refine wpAnyT_one (i := 25) (by kernel_rfl) rfl (fun K hK => ?_)
      go_simp
      refine hK.out _ _ (fun h => absurd h (by decide)) ?_
      clear hK K
      try simp only [List.getElem_toArray, List.getElem_cons_zero, List.getElem_cons_succ, Act.put, List.setIfInBounds_toArray, List.set_cons_zero, List.set_cons_succ]
      refine wpAnyT_done (by kernel_rfl) ?_ _
      refine NoPanic.normal ?_
      clear SD S5 S8 P0 P1 P2 D0 D1 D2
      go_wp2
      go_roundw
      case rel => exact ⟨i + 1, zs ++ [(B, .slice A5 lk c5)], _, rfl, by omega, Lib.hid (by rw [List.map_append, List.map_singleton]; exact HTK.out), HI8⟩
      case measure => simp [intOf]; omega
end Go.Proofs.Yteopeocgbfdofaa
