/- The document's Own: the same program, of its own. -/
import Derived.Test.YtcllifcafgiopaaPgSwP
import Derived.Test.YtcllifcafgiopaaHeldU
set_option linter.unusedVariables false
set_option linter.unusedSimpArgs false
namespace Go.Proofs.Ytcllifcafgiopaa
open Go.RowKit

/-- 'append' of instructions onto nothing. -/
theorem app_insts (ty : TypeId) {X : World} {A : Option Addr} {m c base : Nat} {l : List InstD} (h : Sl InstR 7 X A c l) (hm : l.length = m) (hx : m ≤ 4096) (hb : base ≤ X.heap.size) :
    ∃ v' w', (Builtin.append_ #[36, 36] ty #[.slice none 0 0, .slice A m c]).run Try.prog X = .ok v' w' ∧ w'.ownsRow base 43 7 v' m (l.flatMap InstD.cells) ∧ Bel X w' ∧ (v'.ownBlock = none ∨ v'.ownBlock = some X.heap.size) ∧ ∃ A' c', v' = .slice A' m c' := by
  obtain ⟨i0, hi, hzz⟩ := Option.map_eq_some_iff.1 info_inst
  simp only [Prod.mk.injEq] at hzz
  obtain ⟨hz0, hz1, hz2⟩ := hzz
  have ho : X.ownsRow base 43 7 (.slice none 0 0) 0 [] := ⟨by simp, .inl ⟨rfl, rfl⟩⟩
  cases A with
  | none =>
    have h0 : m = 0 := by
      rcases Nat.eq_zero_or_pos m with h0 | h0
      · exact h0
      · obtain ⟨b, o, e⟩ := h.addr (by rw [hm]; exact h0)
        cases e
    subst h0
    have hl : l = [] := List.eq_nil_of_length_eq_zero hm
    subst hl
    refine ⟨.slice none 0 0, X, ?_, ho, Bel.refl _, .inl rfl, none, 0, rfl⟩
    simp [Builtin.append_, run_underlying Try.underlying36, sizeOf, typeInfo, hi, Builtin.lenOf, Builtin.firstCells]
  | some a =>
    have hcells : ∀ j u, (l.flatMap InstD.cells)[j]? = some u → X.cell? (a.add j) = some u := by
      intro j u hu
      by_cases h0 : 0 < l.length
      · obtain ⟨b, o, e⟩ := h.addr h0
        cases e
        exact insts_row h j u hu
      · have hl : l = [] := List.eq_nil_of_length_eq_zero (by omega)
        subst hl
        simp at hu
    obtain ⟨v', w', hr, h2, h3, _, h5⟩ := run_append_own_at (P := Try.prog) X base _ ty 43 i0 _ 7 56 Try.underlying36 hi hz0 hz1 hz2 rfl (by decide) (.slice none 0 0) 0 [] ho a m c (l.flatMap InstD.cells) (by rw [flat7, hm]) hcells (insts_one l) (by simp only [maxLen]; omega) (by omega) hb
    rw [Nat.zero_add, List.nil_append] at h2
    exact ⟨v', w', hr, h2, (Bel.refl X).grown h3 (fun k hk => by simp [Value.ownBlock] at hk), h5, own_slice h2⟩
/-- The codes lie in blocks of their own. -/
def Apart (zs : List (FnD × Value)) : Prop := zs.Pairwise fun a b => a.2.ownBlock ≠ none → a.2.ownBlock ≠ b.2.ownBlock
theorem own_ltN {X : World} {b s n : Nat} {t : TypeId} {v : Value} {xs : List Value} (h : X.ownsRow b t s v n xs) {k : Nat} (hk : v.ownBlock = some k) : k < X.heap.size := by
  rcases h.2 with ⟨rfl, _⟩ | ⟨g, cap, cur, rfl, _, hh, _⟩
  · simp [Value.ownBlock] at hk
  · have : g = k := by simpa [Value.ownBlock] using hk
    subst this
    exact (Array.getElem?_eq_some_iff.1 hh).1
theorem Apart.push {zs : List (FnD × Value)} {z : FnD × Value} {X : World} {base : Nat} (h : Apart zs) (hc : ∀ y ∈ zs, X.ownsRow base 43 7 y.2 y.1.code.length (y.1.code.flatMap InstD.cells)) (hz : z.2.ownBlock = none ∨ z.2.ownBlock = some X.heap.size) : Apart (zs ++ [z]) := by
  unfold Apart at h ⊢
  rw [List.pairwise_append]
  refine ⟨h, List.pairwise_singleton _ _, fun a ha b hb hne e => ?_⟩
  obtain rfl := List.mem_singleton.1 hb
  rcases hz with hz | hz
  · exact hne (e.trans hz)
  · have := own_ltN (hc a ha) (e.trans hz)
    omega
/-- What a round of Own's loop knows. -/
structure OwnI (w : World) (g R Pb base : Nat) (pv : Value) (zs : List (FnD × Value)) (v : Value) (X : World) : Prop where
  bel : Bel w X
  pb : Blk X g 24 #[pv]
  res : Blk X R 24 #[.slice none 0 0]
  box : Blk X Pb 24 #[v]
  own : X.ownsRow base 38 2 v zs.length (zs.flatMap fnc)
  codes : ∀ z ∈ zs, X.ownsRow base 43 7 z.2 z.1.code.length (z.1.code.flatMap InstD.cells)
  apart : Apart zs
theorem OwnI.mono {w : World} {g R Pb base : Nat} {pv : Value} {zs : List (FnD × Value)} {v : Value} {X Y : World} (h : OwnI w g R Pb base pv zs v X) (hb : Bel X Y) : OwnI w g R Pb base pv zs v Y :=
  ⟨h.bel.trans hb, h.pb.bel hb, h.res.bel hb, h.box.bel hb, own_bel h.own hb, fun z hz => own_bel (h.codes z hz) hb, h.apart⟩
theorem OwnI.push {w : World} {g R Pb base : Nat} {pv : Value} {zs : List (FnD × Value)} {v v' : Value} {X Y : World} {z : FnD × Value} {n : Nat} (h : OwnI w g R Pb base pv zs v X) (hP : Pb < base) (hgP : g ≠ Pb) (hRP : R ≠ Pb) (hwP : w.heap.size ≤ Pb) (hn : n = zs.length + 1) (hz : X.ownsRow base 43 7 z.2 z.1.code.length (z.1.code.flatMap InstD.cells)) (ha : Apart (zs ++ [z])) (ho : Y.ownsRow base 38 2 v' n (zs.flatMap fnc ++ fnc z)) (hg : X.grownBy Y v.ownBlock) : OwnI w g R Pb base pv (zs ++ [z]) v' (Y.setCell ⟨Pb, 0, none⟩ v') := by
  subst hn
  refine ⟨(row_low h.own w (by omega) h.bel hg).setCell (p := ⟨Pb, 0, none⟩) hwP v', (blk_grown h.pb h.own (by decide) hg).other (p := ⟨Pb, 0, none⟩) hgP v', (blk_grown h.res h.own (by decide) hg).other (p := ⟨Pb, 0, none⟩) hRP v', Blk.set (cs := #[v]) (blk_grown h.box h.own (by decide) hg) 0 v', ?_, ?_, ha⟩
  · rw [List.length_append, List.flatMap_append, List.flatMap_singleton]
    exact own_set ho hP v'
  · intro y hy
    rcases List.mem_append.1 hy with hy | hy
    · exact own_set (own_grown (h.codes y hy) h.own (by decide) hg) hP v'
    · obtain rfl := List.mem_singleton.1 hy
      exact own_set (own_grown hz h.own (by decide) hg) hP v'
/-- What Own tells. -/
structure OwnR (w : World) (zs : List (FnD × Value)) (v : Value) (X : World) : Prop where
  bel : Bel w X
  own : X.ownsRow w.heap.size 38 2 v zs.length (zs.flatMap fnc)
  codes : ∀ z ∈ zs, X.ownsRow w.heap.size 43 7 z.2 z.1.code.length (z.1.code.flatMap InstD.cells)
  apart : Apart zs
theorem OwnI.done {w : World} {g R Pb base : Nat} {pv : Value} {zs : List (FnD × Value)} {v : Value} {X : World} (h : OwnI w g R Pb base pv zs v X) (hb : w.heap.size ≤ base) (hR : R < base) (hwR : w.heap.size ≤ R) (u : Value) : OwnR w zs v (X.setCell ⟨R, 0, none⟩ u) :=
  ⟨h.bel.setCell (p := ⟨R, 0, none⟩) hwR u, own_mono (own_set h.own hR u) hb, fun z hz => own_mono (own_set (h.codes z hz) hR u) hb, h.apart⟩
/-- What the region reads. -/
structure OwnS (w : World) (g Pb : Nat) (pv v : Value) (X : World) : Prop where
  bel : Bel w X
  pb : X.cell? ⟨g, 0, none⟩ = some pv
  fz : Fz Pb v X
theorem OwnI.s {w : World} {g R Pb base : Nat} {pv : Value} {zs : List (FnD × Value)} {v : Value} {X : World} (h : OwnI w g R Pb base pv zs v X) : OwnS w g Pb pv v X := ⟨h.bel, h.pb.cell 0 rfl, h.box.cell 0 rfl, h.box.frozen 0⟩
theorem OwnS.mono {w : World} {g Pb : Nat} {pv v : Value} {X Y : World} (h : OwnS w g Pb pv v X) (hb : Bel X Y) : OwnS w g Pb pv v Y := ⟨h.bel.trans hb, hb.cell h.pb, h.fz.bel hb⟩
set_option maxHeartbeats 8000000 in
set_option maxRecDepth 100000 in
theorem own_any (A : Option Addr) (c n : Nat) (L : List FnD) (w : World) (hL : Sl FnR 2 w A c L) (hn : Hid (L.length = n)) (hs : n ≤ 4000) (hsm : Hid (∀ f ∈ L, f.code.length ≤ 4000)) :
    Calls Try.prog 17 #[.agg #[.slice A n c]] w fun e w' => ∃ zs v, e = .returned (.agg #[v]) ∧ zs.map Prod.fst = L ∧ OwnR w zs v w' := by
  have HL := Lib.hid hL
  have HI0 : Hid (OwnI w w.heap.size (w.heap.size + 1) (w.heap.size + 1 + 1) (w.heap.size + 1 + 1 + 1) (.slice A n c) [] (.slice none 0 0) (((w.alloc (.cells #[.slice A n c] 24)).alloc (.cells #[.slice none 0 0] 24)).alloc (.cells #[.slice none 0 0] 24))) := Lib.hid (by
    have k1 := Blk.new (w.alloc (.cells #[.slice A n c] 24)) 24 #[.slice none 0 0]
    have k2 := Blk.new ((w.alloc (.cells #[.slice A n c] 24)).alloc (.cells #[.slice none 0 0] 24)) 24 #[.slice none 0 0]
    rw [World.size_alloc] at k1
    rw [World.size_alloc, World.size_alloc] at k2
    exact ⟨(((Bel.refl w).alloc _).alloc _).alloc _, ((Blk.new w 24 #[.slice A n c]).alloc _).alloc _, k1.alloc _, k2, ⟨by simp, .inl ⟨rfl, rfl⟩⟩, fun z hz => (by cases hz), List.Pairwise.nil⟩)
  have hbw0 : w.heap.size + 1 + 1 + 1 ≤ (((w.alloc (.cells #[.slice A n c] 24)).alloc (.cells #[.slice none 0 0] 24)).alloc (.cells #[.slice none 0 0] 24)).heap.size := by simp
  clear hL
  go_enter Try.func17, Try.ntmps17
  go_wp2_with fail
  generalize ((w.alloc (.cells #[.slice A n c] 24)).alloc (.cells #[.slice none 0 0] 24)).alloc (.cells #[.slice none 0 0] 24) = W1 at *
  obtain ⟨g, hg⟩ : ∃ g, w.heap.size = g := ⟨_, rfl⟩
  obtain ⟨R, hR⟩ : ∃ R, w.heap.size + 1 = R := ⟨_, rfl⟩
  obtain ⟨Pb, hPb⟩ : ∃ Pb, w.heap.size + 1 + 1 = Pb := ⟨_, rfl⟩
  have hgR : g + 1 = R := by omega
  have hRP : R + 1 = Pb := by omega
  have hwP : w.heap.size ≤ Pb := by omega
  have hwR : w.heap.size ≤ R := by omega
  rw [hPb] at HI0 hbw0
  rw [hR] at HI0
  simp only [hPb]
  simp only [hR]
  rw [hg] at HI0
  simp only [hg]
  clear hPb hR
  have hwg : w.heap.size ≤ g := by omega
  clear hg
  have hPb : Pb < Pb + 1 := by omega
  go_loopw [4] (fun iv wr => ∃ (i : Nat) (zs : List (FnD × Value)) (v : Value), iv = .int .i64 i ∧ i ≤ n ∧ zs.map Prod.fst = L.take i ∧ OwnI w g R Pb (Pb + 1) (.slice A n c) zs v wr ∧ Pb + 1 ≤ wr.heap.size) (fun iv _ => n - (intOf iv).toNat)
  case atStart => exact ⟨0, [], _, rfl, by omega, by simp, HI0.out, hbw0⟩
  case round =>
    clear HI0 hbw0
    obtain ⟨i, zs, v, rfl, hin, hzs, hi, hbw⟩ := hrel
    have HII := Lib.hid hi
    have HZS := Lib.hid hzs
    have q1 := hi.pb.cell 0 (v := .slice A n c) rfl
    have HZ : Hid (zs.length = i) := Lib.hid (by
      have := congrArg List.length hzs
      rw [List.length_map, List.length_take, hn.out] at this
      omega)
    clear hi hzs
    by_cases hend : i = n
    · subst hend
      have p0 := HII.out.box.cell 0 (v := v) rfl
      have r0 := HII.out.res.cell 0 (v := .slice none 0 0) rfl
      have f0 := HII.out.res.frozen 0
      obtain ⟨AV, cV, rfl⟩ := own_slice HII.out.own
      have E1 : Hid ((wr.setCell ⟨R, 0, none⟩ (.slice AV zs.length cV)).cell? ⟨R, 0, none⟩ = some (.slice AV zs.length cV)) := Lib.hid ((Blk.set (cs := #[.slice none 0 0]) HII.out.res 0 (.slice AV zs.length cV)).cell 0 rfl)
      have HD := Lib.hid (HII.out.done (by omega) (by omega) hwR (.slice AV zs.length cV))
      have HE : Hid (zs.map Prod.fst = L) := Lib.hid (by rw [HZS.out, List.take_of_length_le (by rw [hn.out]; exact Nat.le_refl _)])
      go_wp2_with fail
      refine bodyPost_ret (v := .agg #[.slice AV zs.length cV]) ?_ rfl ⟨zs, _, rfl, HE.out, HD.out⟩
      have h1 := E1.out
      simp [results, Try.results17, go_sem, h1]
    · have hi1 : i < n := by omega
      have hiL : i < L.length := by rw [hn.out]; exact hi1
      have hi2 : (i : Int) < n := by omega
      have hi3 : ¬ (i : Int) < 0 := by omega
      have hi4 : ¬ (n : Int) ≤ i := by omega
      have ei : IntKind.i64.wrap ((i : Int) + 1) = ((i + 1 : Nat) : Int) := by rw [wrap_i64 (by omega) (by omega)]; omega
      obtain ⟨b, o, rfl⟩ := HL.out.addr (by omega)
      obtain ⟨Ak, ck, d0, d1, hsk⟩ := fn_cells HL.out i hiL
      obtain ⟨lk, HLK⟩ : ∃ lk, Hid ((L[i]).code.length = lk) := ⟨_, Lib.hid rfl⟩
      have hlk : lk ≤ 4096 := by
        have := hsm.out _ (List.getElem_mem hiL)
        rw [HLK.out] at this
        omega
      rw [HLK.out] at d1
      have HSK := Lib.hid hsk
      have HTK : Hid ((zs ++ [(L[i], Value.slice none 0 0)]).map Prod.fst = L.take (i + 1)) := Lib.hid (by rw [List.map_append, HZS.out, List.map_singleton, List.take_succ_eq_append_getElem hiL])
      clear hsk hend
      go_wp2_with fail
      have HIX := Lib.hid (HII.out.mono ((Bel.refl wr).drew))
      have SD := HIX.out.s
      have hbX : Pb + 1 ≤ wr.drew.heap.size := Nat.le_trans hbw ((Bel.refl wr).drew).size
      have P0 := fun (w' : World) (h : OwnS w g Pb (.slice (some ⟨b, o, none⟩) n c) v w') => h.fz.c
      have P1 := fun (w' : World) (h : OwnS w g Pb (.slice (some ⟨b, o, none⟩) n c) v w') => h.fz.f
      have P2 := fun (w' : World) (h : OwnS w g Pb (.slice (some ⟨b, o, none⟩) n c) v w') => h.pb
      have D0 := fun (w' : World) (h : OwnS w g Pb (.slice (some ⟨b, o, none⟩) n c) v w') => h.bel.cell d0
      have D1 := fun (w' : World) (h : OwnS w g Pb (.slice (some ⟨b, o, none⟩) n c) v w') => h.bel.cell d1
      clear d0 d1
      refine wp_region_T (fun w' => OwnS w g Pb (.slice (some ⟨b, o, none⟩) n c) v w') (fun j => j == 19) (by kernel_rfl) ?_
      refine wpAnyU_take (i := 0) (v := ?v0) rfl (by kernel_rfl) (by kernel_rfl) (by kernel_rfl) (by kernel_rfl) (fun _ _ _ h => h) ?hy0 SD ?rest0
      case hy0 => first | (refine Or.inl ⟨by rfl, ?_⟩; (intro w' hSw; go_simp) <;> with_reducible rfl) | (refine Or.inr ⟨by rfl, ?_⟩; with_reducible rfl)
      try simp only [List.getElem_toArray, List.getElem_cons_zero, List.getElem_cons_succ, Act.put, List.setIfInBounds_toArray, List.set_cons_zero, List.set_cons_succ]
      refine wpAnyU_take (i := 1) (v := ?v1) rfl (by kernel_rfl) (by kernel_rfl) (by kernel_rfl) (by kernel_rfl) (fun _ _ _ h => h) ?hy1 SD ?rest1
      case hy1 => first | (refine Or.inl ⟨by rfl, ?_⟩; (intro w' hSw; go_simp) <;> with_reducible rfl) | (refine Or.inr ⟨by rfl, ?_⟩; with_reducible rfl)
      try simp only [List.getElem_toArray, List.getElem_cons_zero, List.getElem_cons_succ, Act.put, List.setIfInBounds_toArray, List.set_cons_zero, List.set_cons_succ]
      refine wpAnyU_take (i := 2) (v := ?v2) rfl (by kernel_rfl) (by kernel_rfl) (by kernel_rfl) (by kernel_rfl) (fun _ _ _ h => h) ?hy2 SD ?rest2
      case hy2 => first | (refine Or.inl ⟨by rfl, ?_⟩; (intro w' hSw; go_simp) <;> with_reducible rfl) | (refine Or.inr ⟨by rfl, ?_⟩; with_reducible rfl)
      try simp only [List.getElem_toArray, List.getElem_cons_zero, List.getElem_cons_succ, Act.put, List.setIfInBounds_toArray, List.set_cons_zero, List.set_cons_succ]
      refine wpAnyU_take (i := 3) (v := ?v3) rfl (by kernel_rfl) (by kernel_rfl) (by kernel_rfl) (by kernel_rfl) (fun _ _ _ h => h) ?hy3 SD ?rest3
      case hy3 => first | (refine Or.inl ⟨by rfl, ?_⟩; (intro w' hSw; go_simp) <;> with_reducible rfl) | (refine Or.inr ⟨by rfl, ?_⟩; with_reducible rfl)
      try simp only [List.getElem_toArray, List.getElem_cons_zero, List.getElem_cons_succ, Act.put, List.setIfInBounds_toArray, List.set_cons_zero, List.set_cons_succ]
      refine wpAnyU_take (i := 4) (v := ?v4) rfl (by kernel_rfl) (by kernel_rfl) (by kernel_rfl) (by kernel_rfl) (fun _ _ _ h => h) ?hy4 SD ?rest4
      case hy4 => first | (refine Or.inl ⟨by rfl, ?_⟩; (intro w' hSw; go_simp) <;> with_reducible rfl) | (refine Or.inr ⟨by rfl, ?_⟩; with_reducible rfl)
      try simp only [List.getElem_toArray, List.getElem_cons_zero, List.getElem_cons_succ, Act.put, List.setIfInBounds_toArray, List.set_cons_zero, List.set_cons_succ]
      refine wpAnyU_take (i := 5) (v := ?v5) rfl (by kernel_rfl) (by kernel_rfl) (by kernel_rfl) (by kernel_rfl) (fun _ _ _ h => h) ?hy5 SD ?rest5
      case hy5 => first | (refine Or.inl ⟨by rfl, ?_⟩; (intro w' hSw; go_simp) <;> with_reducible rfl) | (refine Or.inr ⟨by rfl, ?_⟩; with_reducible rfl)
      try simp only [List.getElem_toArray, List.getElem_cons_zero, List.getElem_cons_succ, Act.put, List.setIfInBounds_toArray, List.set_cons_zero, List.set_cons_succ]
      refine wpAnyU_take (i := 6) (v := ?v6) rfl (by kernel_rfl) (by kernel_rfl) (by kernel_rfl) (by kernel_rfl) (fun _ _ _ h => h) ?hy6 SD ?rest6
      case hy6 => first | (refine Or.inl ⟨by rfl, ?_⟩; (intro w' hSw; go_simp) <;> with_reducible rfl) | (refine Or.inr ⟨by rfl, ?_⟩; with_reducible rfl)
      try simp only [List.getElem_toArray, List.getElem_cons_zero, List.getElem_cons_succ, Act.put, List.setIfInBounds_toArray, List.set_cons_zero, List.set_cons_succ]
      refine wpAnyU_take (i := 7) (v := ?v7) rfl (by kernel_rfl) (by kernel_rfl) (by kernel_rfl) (by kernel_rfl) (fun _ _ _ h => h) ?hy7 SD ?rest7
      case hy7 => first | (refine Or.inl ⟨by rfl, ?_⟩; (intro w' hSw; go_simp) <;> with_reducible rfl) | (refine Or.inr ⟨by rfl, ?_⟩; with_reducible rfl)
      try simp only [List.getElem_toArray, List.getElem_cons_zero, List.getElem_cons_succ, Act.put, List.setIfInBounds_toArray, List.set_cons_zero, List.set_cons_succ]
      refine wpAnyU_take (i := 8) (v := ?v8) rfl (by kernel_rfl) (by kernel_rfl) (by kernel_rfl) (by kernel_rfl) (fun _ _ _ h => h) ?hy8 SD ?rest8
      case hy8 => first | (refine Or.inl ⟨by rfl, ?_⟩; (intro w' hSw; go_simp) <;> with_reducible rfl) | (refine Or.inr ⟨by rfl, ?_⟩; with_reducible rfl)
      try simp only [List.getElem_toArray, List.getElem_cons_zero, List.getElem_cons_succ, Act.put, List.setIfInBounds_toArray, List.set_cons_zero, List.set_cons_succ]
      refine wpAnyU_take (i := 9) (v := ?v9) rfl (by kernel_rfl) (by kernel_rfl) (by kernel_rfl) (by kernel_rfl) (fun _ _ _ h => h) ?hy9 SD ?rest9
      case hy9 => first | (refine Or.inl ⟨by rfl, ?_⟩; (intro w' hSw; go_simp) <;> with_reducible rfl) | (refine Or.inr ⟨by rfl, ?_⟩; with_reducible rfl)
      try simp only [List.getElem_toArray, List.getElem_cons_zero, List.getElem_cons_succ, Act.put, List.setIfInBounds_toArray, List.set_cons_zero, List.set_cons_succ]
      refine wpAnyU_take (i := 10) (v := ?v10) rfl (by kernel_rfl) (by kernel_rfl) (by kernel_rfl) (by kernel_rfl) (fun _ _ _ h => h) ?hy10 SD ?rest10
      case hy10 => first | (refine Or.inl ⟨by rfl, ?_⟩; (intro w' hSw; go_simp) <;> with_reducible rfl) | (refine Or.inr ⟨by rfl, ?_⟩; with_reducible rfl)
      try simp only [List.getElem_toArray, List.getElem_cons_zero, List.getElem_cons_succ, Act.put, List.setIfInBounds_toArray, List.set_cons_zero, List.set_cons_succ]
      refine wpAnyU_take (i := 11) (v := ?v11) rfl (by kernel_rfl) (by kernel_rfl) (by kernel_rfl) (by kernel_rfl) (fun _ _ _ h => h) ?hy11 SD ?rest11
      case hy11 => first | (refine Or.inl ⟨by rfl, ?_⟩; (intro w' hSw; go_simp) <;> with_reducible rfl) | (refine Or.inr ⟨by rfl, ?_⟩; with_reducible rfl)
      try simp only [List.getElem_toArray, List.getElem_cons_zero, List.getElem_cons_succ, Act.put, List.setIfInBounds_toArray, List.set_cons_zero, List.set_cons_succ]
      refine wpAnyU_take (i := 12) (v := ?v12) rfl (by kernel_rfl) (by kernel_rfl) (by kernel_rfl) (by kernel_rfl) (fun _ _ _ h => h) ?hy12 SD ?rest12
      case hy12 => first | (refine Or.inl ⟨by rfl, ?_⟩; (intro w' hSw; go_simp) <;> with_reducible rfl) | (refine Or.inr ⟨by rfl, ?_⟩; with_reducible rfl)
      try simp only [List.getElem_toArray, List.getElem_cons_zero, List.getElem_cons_succ, Act.put, List.setIfInBounds_toArray, List.set_cons_zero, List.set_cons_succ]
      refine wpAnyU_take (i := 13) (v := ?v13) rfl (by kernel_rfl) (by kernel_rfl) (by kernel_rfl) (by kernel_rfl) (fun _ _ _ h => h) ?hy13 SD ?rest13
      case hy13 => first | (refine Or.inl ⟨by rfl, ?_⟩; (intro w' hSw; go_simp) <;> with_reducible rfl) | (refine Or.inr ⟨by rfl, ?_⟩; with_reducible rfl)
      try simp only [List.getElem_toArray, List.getElem_cons_zero, List.getElem_cons_succ, Act.put, List.setIfInBounds_toArray, List.set_cons_zero, List.set_cons_succ]
      refine wpAnyT_one (i := 14) (by kernel_rfl) rfl (fun K hK => ?_)
      refine step_append_run (by rfl) _ _ _ (by rfl) (.slice none 0 0) (.slice Ak lk ck) (by rfl) (by rfl) _ (app_insts (base := Pb + 1) _ (HSK.out.mono InstR.mono HIX.out.bel) HLK.out hlk hbX) ?_
      rintro v5 w5 ⟨ho5, hb5, hn5, A5, c5, hv5⟩
      subst hv5
      have HI5 := Lib.hid (HIX.out.mono hb5)
      have S5 := HI5.out.s
      have HAP := Lib.hid (HIX.out.apart.push (z := (L[i], .slice A5 lk c5)) HIX.out.codes hn5)
      have HO5 := Lib.hid ho5
      have hb5w := Nat.le_trans hbX hb5.size
      clear ho5 hb5 hn5
      refine hK.out _ _ (fun _ => S5) ?_
      clear hK K
      try simp only [List.getElem_toArray, List.getElem_cons_zero, List.getElem_cons_succ, Act.put, List.setIfInBounds_toArray, List.set_cons_zero, List.set_cons_succ]
      refine wpAnyU_take (i := 15) (v := ?v15) rfl (by kernel_rfl) (by kernel_rfl) (by kernel_rfl) (by kernel_rfl) (fun _ _ _ h => h) ?hy15 S5 ?rest15
      case hy15 => first | (refine Or.inl ⟨by rfl, ?_⟩; (intro w' hSw; go_simp) <;> with_reducible rfl) | (refine Or.inr ⟨by rfl, ?_⟩; with_reducible rfl)
      try simp only [List.getElem_toArray, List.getElem_cons_zero, List.getElem_cons_succ, Act.put, List.setIfInBounds_toArray, List.set_cons_zero, List.set_cons_succ]
      refine wpAnyT_one (i := 16) (by kernel_rfl) rfl (fun K hK => ?_)
      go_simp
      refine hK.out _ _ (fun _ => S5.mono ((Bel.refl w5).alloc _)) ?_
      clear hK K
      try simp only [List.getElem_toArray, List.getElem_cons_zero, List.getElem_cons_succ, Act.put, List.setIfInBounds_toArray, List.set_cons_zero, List.set_cons_succ]
      refine wpAnyT_one (i := 17) (by kernel_rfl) rfl (fun K hK => ?_)
      refine step_append_run (by rfl) _ _ _ (by rfl) v (.slice (some ⟨w5.heap.size, 0, none⟩) 1 1) (by rfl) (by rfl) _ (app_fn _ (HI5.out.mono ((Bel.refl w5).alloc _)).own (by rw [HZ.out]; omega) w5.heap.size rfl (fun j u hu => cells_new w5 #[.int .i64 (L[i]).args, .slice A5 lk c5] 38 j u hu) (Nat.le_trans hb5w ((Bel.refl w5).alloc (.cells #[.int .i64 (L[i]).args, .slice A5 lk c5] 38)).size)) ?_
      rintro v8 w8 ⟨ho8, hg8, g8, c8, hv8⟩
      subst hv8
      have HI8 := Lib.hid ((HI5.out.mono ((Bel.refl w5).alloc (.cells #[.int .i64 (L[i]).args, .slice A5 lk c5] 38))).push (z := (L[i], .slice A5 lk c5)) hPb (by omega) (by omega) hwP rfl (by rw [HLK.out]; exact own_bel HO5.out ((Bel.refl w5).alloc _)) HAP.out ho8 hg8)
      have hb8w : Pb + 1 ≤ w8.heap.size := Nat.le_trans hb5w (Nat.le_trans ((Bel.refl w5).alloc (.cells #[.int .i64 (L[i]).args, .slice A5 lk c5] 38)).size hg8.size)
      have S8 : OwnS w g Pb (.slice (some ⟨b, o, none⟩) n c) v w8 := by
        have HH := HI5.out.mono ((Bel.refl w5).alloc (.cells #[.int .i64 (L[i]).args, .slice A5 lk c5] 38))
        have k1 := blk_grown HH.pb HH.own (by decide) hg8
        have k2 := blk_grown HH.box HH.own (by decide) hg8
        exact ⟨row_low HH.own w (by omega) HH.bel hg8, k1.cell 0 rfl, k2.cell 0 rfl, k2.frozen 0⟩
      clear ho8 hg8
      refine hK.out _ _ (fun _ => S8) ?_
      clear hK K
      try simp only [List.getElem_toArray, List.getElem_cons_zero, List.getElem_cons_succ, Act.put, List.setIfInBounds_toArray, List.set_cons_zero, List.set_cons_succ]
      refine wpAnyU_take (i := 18) (v := ?v18) rfl (by kernel_rfl) (by kernel_rfl) (by kernel_rfl) (by kernel_rfl) (fun _ _ _ h => h) ?hy18 S8 ?rest18
      case hy18 => first | (refine Or.inl ⟨by rfl, ?_⟩; (intro w' hSw; go_simp) <;> with_reducible rfl) | (refine Or.inr ⟨by rfl, ?_⟩; with_reducible rfl)
      try simp only [List.getElem_toArray, List.getElem_cons_zero, List.getElem_cons_succ, Act.put, List.setIfInBounds_toArray, List.set_cons_zero, List.set_cons_succ]
      refine wpAnyT_one (i := 19) (by kernel_rfl) rfl (fun K hK => ?_)
      go_simp
      refine hK.out _ _ (fun h => absurd h (by decide)) ?_
      clear hK K
      try simp only [List.getElem_toArray, List.getElem_cons_zero, List.getElem_cons_succ, Act.put, List.setIfInBounds_toArray, List.set_cons_zero, List.set_cons_succ]
      refine wpAnyT_done (by kernel_rfl) ?_ _
      refine NoPanic.normal ?_
      clear SD S5 S8 P0 P1 P2 D0 D1
      go_wp2
      go_roundw
      case rel => exact ⟨i + 1, zs ++ [(L[i], .slice A5 lk c5)], _, rfl, by omega, by have := HTK.out; rw [List.map_append, List.map_singleton] at this ⊢; exact this, HI8.out, by rw [setCell_size]; exact hb8w⟩
      case measure => simp [intOf]; omega
end Go.Proofs.Ytcllifcafgiopaa
