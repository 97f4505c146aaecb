/- prog's reader: part, of a function. -/
import Derived.Test.YtcllifcafgiopaaPg7
import Derived.Deep.AppendLies
set_option linter.unusedVariables false
set_option linter.unusedSimpArgs false
namespace Go.Proofs.Ytcllifcafgiopaa
open Go.RowKit

def rdI (l : List Int) (bad : Bool) : InstD × List Int × Bool := ((getR (tkL l bad 8)).1, tkR l bad 8, rdB l bad (getR (tkL l bad 8)).2)
def rdCode : Nat → List InstD → List Int → Bool → List InstD × List Int × Bool
  | 0, acc, l, bad => (acc, l, bad)
  | n + 1, acc, l, bad => if bad = true then (acc, l, bad) else rdCode n (acc ++ [(rdI l bad).1]) (rdI l bad).2.1 (rdI l bad).2.2
def rdF (l : List Int) (bad : Bool) : FnD × List Int × Bool :=
  let r := rdCode (rdX (tkR l bad 1) (tkB l bad 1)).toNat [] (tkR (tkR l bad 1) (tkB l bad 1) 1) (tkB (tkR l bad 1) (tkB l bad 1) 1)
  (⟨rdX l bad, r.1⟩, r.2.1, r.2.2)
theorem info_inst : (Try.prog.info? 43).map (fun i => (i.zero, i.size, i.bytes)) = some (some (.agg #[.int .i64 0, .int .i64 0, .int .i64 0, .int .i64 0, .bool false, .int .i64 0, .int .u32 0]), 7, 56) := by kernel_rfl
theorem inst_one (i : InstD) : ∀ u ∈ i.cells, u.oneCell' = true := by
  intro u hu
  simp only [InstD.cells, List.mem_cons, List.not_mem_nil, or_false] at hu
  rcases hu with rfl | rfl | rfl | rfl | rfl | rfl | rfl <;> rfl
theorem cells_new (W : World) (cs : Array Value) (t : TypeId) : ∀ j u, cs.toList[j]? = some u → (W.alloc (.cells cs t)).cell? ((⟨W.heap.size, 0, none⟩ : Addr).add j) = some u := by
  intro j u hu
  rw [Addr.add_lit, Nat.zero_add]
  exact (Blk.new W t cs).cell j (by simpa using hu)
theorem own_form {w : World} {base : Nat} {e : TypeId} {size : Nat} {v : Value} {n : Nat} {xs : List Value} (h : w.ownsRow base e size v (n + 1) xs) : ∃ g c, v = .slice (some ⟨g, 0, none⟩) (n + 1) c := by
  rcases h.2 with ⟨_, h0⟩ | ⟨g, cap, cur, e, _⟩
  · omega
  · exact ⟨g, cap, e⟩
theorem flat7 : ∀ l : List InstD, (l.flatMap InstD.cells).length = l.length * 7
  | [] => rfl
  | i :: l => by
    rw [List.flatMap_cons, List.length_append, flat7 l, List.length_cons]
    simp only [InstD.cells, List.length_cons, List.length_nil]
    omega
theorem own_but {W X Y : World} {G b : Nat} {e : TypeId} {s : Nat} {v : Value} {n : Nat} {xs : List Value} (h : X.ownsRow b e s v n xs) (hg : G < b) (hb : But G X Y) : Y.ownsRow b e s v n xs :=
  ⟨h.1, h.2.imp id fun ⟨g, cap, cur, h1, h2, h3, r⟩ => ⟨g, cap, cur, h1, h2, (hb.same g (Array.getElem?_eq_some_iff.1 h3).1 (by omega)).trans h3, r⟩⟩
/-- What a round of part's loop knows. -/
structure FnI (w0 W : World) (G F : Nat) (a : Int) (acc : List InstD) (l : List Int) (bad : Bool) (v : Value) (X : World) : Prop where
  rd : RdS w0 X G l bad
  box : Blk X F 38 #[.int .i64 a, v]
  own : X.ownsRow W.heap.size 43 7 v acc.length (acc.flatMap InstD.cells)
  but : But G W X
theorem FnI.bel {w0 W : World} {G F : Nat} {a : Int} {acc : List InstD} {l : List Int} {bad : Bool} {v : Value} {X Y : World} (h : FnI w0 W G F a acc l bad v X) (hb : Bel X Y) : FnI w0 W G F a acc l bad v Y :=
  ⟨h.rd.bel hb, h.box.bel hb, own_bel h.own hb, h.but.bel hb⟩
theorem FnI.read {w0 W : World} {G F : Nat} {a : Int} {acc : List InstD} {l l' : List Int} {bad bad' : Bool} {v : Value} {X Y : World} (h : FnI w0 W G F a acc l bad v X) (hGF : F ≠ G) (hGW : G < W.heap.size) (hr : RdS w0 Y G l' bad') (hb : But G X Y) : FnI w0 W G F a acc l' bad' v Y :=
  ⟨hr, hb.blk h.box hGF, own_but (W := W) h.own hGW hb, h.but.trans hb⟩
theorem FnI.ne {w0 W : World} {G F : Nat} {a : Int} {acc : List InstD} {l : List Int} {bad : Bool} {v : Value} {X : World} (h : FnI w0 W G F a acc l bad v X) : some F ≠ v.ownBlock := fun e => by
  rcases h.own.2 with ⟨rfl, _⟩ | ⟨g, cap, cur, rfl, h2, h3, _⟩
  · cases e
  · have e2 : F = g := by simpa [Value.ownBlock] using e
    subst e2
    have hb := h.box
    rw [show X.heap[F]? = _ from hb] at h3
    simp only [Option.some.injEq, Obj.cells.injEq] at h3
    exact absurd h3.2.1 (by decide)
theorem FnI.grown {w0 W : World} {G F : Nat} {a : Int} {acc : List InstD} {l : List Int} {bad : Bool} {v : Value} {X Y : World} (h : FnI w0 W G F a acc l bad v X) (hg : X.grownBy Y v.ownBlock) : Blk Y F 38 #[.int .i64 a, v] := (hg.block F h.box.lt h.ne).trans h.box
theorem FnI.row {w0 W : World} {G F : Nat} {a : Int} {acc : List InstD} {l : List Int} {bad : Bool} {v v' : Value} {X : World} (h : FnI w0 W G F a acc l bad v X) (hr : v'.ownBlock = v.ownBlock ∨ v'.ownBlock = some X.heap.size) : v'.ownBlock ≠ some F := fun e => by
  rcases hr with hr | hr
  · exact h.ne (by rw [← hr, e])
  · rw [hr] at e
    have := h.box.lt
    have : X.heap.size = F := by simpa using e
    omega
theorem FnI.push {w0 W : World} {G F : Nat} {a : Int} {acc : List InstD} {l : List Int} {bad : Bool} {v v' : Value} {X Y : World} {I : InstD} {n : Nat} (h : FnI w0 W G F a acc l bad v X) (hGW : G < W.heap.size) (hWF : W.heap.size ≤ F) (hn : n = acc.length + 1) (ho : Y.ownsRow W.heap.size 43 7 v' n (acc.flatMap InstD.cells ++ I.cells)) (hg : X.grownBy Y v.ownBlock) (hrow : v'.ownBlock ≠ some F) : FnI w0 W G F a (acc ++ [I]) l bad v' (Y.setCell ⟨F, 1, none⟩ v') := by
  subst hn
  have hlow : ∀ k, k < W.heap.size → some k ≠ v.ownBlock := fun k hk e => by
    have := (h.own.lt k e.symm).1
    omega
  have hFne : some F ≠ v.ownBlock := fun e => by
    rcases h.own.2 with ⟨rfl, _⟩ | ⟨g, cap, cur, rfl, h2, h3, _⟩
    · cases e
    · have e2 : F = g := by simpa [Value.ownBlock] using e
      subst e2
      have hb := h.box
      rw [show X.heap[F]? = _ from hb] at h3
      simp only [Option.some.injEq, Obj.cells.injEq] at h3
      exact absurd h3.2.1 (by decide)
  have hsame : ∀ k, k < W.heap.size → (Y.setCell ⟨F, 1, none⟩ v').heap[k]? = X.heap[k]? := fun k hk =>
    (setCell_heap_ne Y v' (by simp only; omega)).trans (hg.block k (Nat.lt_of_lt_of_le hk h.but.size) (hlow k hk))
  obtain ⟨A, c, hb1, hs1, hbe, hG0⟩ := h.rd
  refine ⟨⟨A, c, (hsame G hGW).trans hb1, hs1, ?_, hG0⟩, ?_, ?_, ?_⟩
  · exact (hbe.grown hg (fun k hk => by have := (h.own.lt k hk).1; omega)).setCell (p := ⟨F, 1, none⟩) (by simp only; omega) v'
  · exact Blk.set (cs := #[.int .i64 a, v]) ((hg.block F h.box.lt hFne).trans h.box) 1 v'
  · rw [List.length_append, List.flatMap_append, List.flatMap_singleton]
    refine ⟨ho.1, ho.2.imp id fun ⟨g, cap, cur, h1, h2, h3, r⟩ => ⟨g, cap, cur, h1, h2, (setCell_heap_ne Y v' (fun e => ?_)).trans h3, r⟩⟩
    subst h1
    simp only at e
    exact hrow (by rw [e]; rfl)
  · refine ⟨?_, fun k hk hkG => (hsame k hk).trans (h.but.same k hk hkG)⟩
    rw [setCell_size]
    exact Nat.le_trans h.but.size hg.size
set_option maxHeartbeats 8000000 in
set_option maxRecDepth 100000 in
theorem part_fn (G : Nat) (l : List Int) (bad : Bool) (w0 W : World) (hr : RdS w0 W G l bad) (a : Int) (code : List InstD) (l' : List Int) (bad' : Bool) (hg : Hid (rdF l bad = (⟨a, code⟩, l', bad'))) :
    Calls Try.prog 24 #[.pointer (some ⟨G, 0, none⟩), .iface 38 (.agg #[.int .i64 0, .slice none 0 0])] W fun en W' => ∃ v, en = .returned (.iface 38 (.agg #[.int .i64 a, v])) ∧ W'.ownsRow W.heap.size 43 7 v code.length (code.flatMap InstD.cells) ∧ RdS w0 W' G l' bad' ∧ But G W W' := by
  have HR := Lib.hid hr
  have hGW : G < W.heap.size := by
    obtain ⟨A, c, hb, -, -, -⟩ := hr
    exact hb.lt
  have y1 := asFn_Inst (.agg #[.int .i64 0, .slice none 0 0])
  have y2 := asFn_Fn (.agg #[.int .i64 0, .slice none 0 0])
  clear hr
  go_enter Try.func24, Try.ntmps24
  go_wp2_with fail
  refine (take_any G 1 l bad w0 W HR.out (Lib.hid ⟨by decide, by decide⟩)).mono ?_
  rintro e w1 ⟨A, c, rfl, hs, hr1, hb⟩
  have hA := rdX_range HR.out
  have HA : Hid (rdX l bad = a) := Lib.hid (by have := hg.out; unfold rdF at this; simp only [Prod.mk.injEq, FnD.mk.injEq] at this; exact this.1.1)
  rw [HA.out] at hA
  have ex : IntKind.i64.wrap a = a := wrap_i64 (by omega) (by omega)
  obtain ⟨b, o, rfl, hc⟩ := hs.int_cell (by rw [tkL_len]; decide)
  have d0 := (hc 0 (by rw [tkL_len]; decide)).1
  rw [show (tkL l bad 1).getD 0 0 = a from HA.out, Nat.add_zero] at d0
  have hbx := (Bel.refl w1).alloc (.cells #[.int .i64 a, .slice none 0 0] 38)
  have HR1 := Lib.hid (hr1.bel hbx)
  have HBT := Lib.hid (hb.bel hbx)
  have HBF := Lib.hid (Blk.new w1 38 #[.int .i64 a, .slice none 0 0])
  have hWF := hb.size
  clear hs hc hr1 hb hbx
  go_wp2_with fail
  generalize w1.alloc (.cells #[.int .i64 a, .slice none 0 0] 38) = W1 at *
  generalize w1.heap.size = F at *
  have hFG : F ≠ G := by omega
  refine (take_any G 1 _ _ w0 _ HR1.out (Lib.hid ⟨by decide, by decide⟩)).mono ?_
  rintro e w2 ⟨A, c, rfl, hs, hr2, hb⟩
  have hN := rdX_range HR1.out
  obtain ⟨n, hn⟩ : ∃ n : Nat, Hid (rdX (tkR l bad 1) (tkB l bad 1) = n) := ⟨(rdX (tkR l bad 1) (tkB l bad 1)).toNat, Lib.hid (by omega)⟩
  rw [hn.out] at hN
  have ex : IntKind.i64.wrap (n : Int) = n := wrap_i64 (by omega) (by omega)
  have hN2 : n < 256 := by omega
  obtain ⟨b, o, rfl, hc⟩ := hs.int_cell (by rw [tkL_len]; decide)
  have d0 := (hc 0 (by rw [tkL_len]; decide)).1
  rw [show (tkL (tkR l bad 1) (tkB l bad 1) 1).getD 0 0 = (n : Int) from hn.out, Nat.add_zero] at d0
  have HI : Hid (FnI w0 W G F a [] (tkR (tkR l bad 1) (tkB l bad 1) 1) (tkB (tkR l bad 1) (tkB l bad 1) 1) (.slice none 0 0) w2) := Lib.hid ⟨hr2, hb.blk HBF.out hFG, World.ownsRow_nil _ _ _ _, HBT.out.trans hb⟩
  have HRC : Hid (rdCode n [] (tkR (tkR l bad 1) (tkB l bad 1) 1) (tkB (tkR l bad 1) (tkB l bad 1) 1) = (code, l', bad')) := Lib.hid (by
    have := hg.out
    unfold rdF at this
    rw [hn.out, Int.toNat_natCast] at this
    simp only [Prod.mk.injEq, FnD.mk.injEq] at this
    obtain ⟨⟨-, h1⟩, h2, h3⟩ := this
    rw [← h1, ← h2, ← h3])
  clear hs hc hr2 hb
  go_wp2_with fail
  clear d0
  go_loopw [8] (fun rv wr => ∃ (r : Nat) (acc : List InstD) (l1 : List Int) (b1 : Bool) (v : Value), rv = .int .i64 r ∧ acc.length + r = n ∧ rdCode r acc l1 b1 = (code, l', bad') ∧ FnI w0 W G F a acc l1 b1 v wr) (fun rv _ => (intOf rv).toNat)
  case atStart => exact ⟨n, [], _, _, _, rfl, by simp, HRC.out, HI.out⟩
  case round =>
    clear HI HRC HR1 HBT HBF HR
    obtain ⟨r, acc, l1, b1, v, rfl, hlen, hrc, hi⟩ := hrel
    have HII := Lib.hid hi
    obtain ⟨A1, c1, hbg, -, -, -⟩ := hi.rd
    have q1 := hbg.cell 1 (v := .bool b1) rfl
    have p0 := hi.box.cell 0 (v := .int .i64 a) rfl
    have p1 := hi.box.cell 1 (v := v) rfl
    clear hi hbg
    by_cases hend : r = 0 ∨ b1 = true
    · have HE : Hid (acc = code ∧ l1 = l' ∧ b1 = bad') := Lib.hid (by
        cases r with
        | zero => simp only [rdCode, Prod.mk.injEq] at hrc; exact hrc
        | succ r =>
          have hb1 : b1 = true := hend.resolve_left (by omega)
          simp only [rdCode, hb1, if_true, Prod.mk.injEq] at hrc
          rw [hb1]
          exact hrc)
      obtain ⟨rfl, rfl, rfl⟩ := HE.out
      have HFIN : Hid (wr.ownsRow W.heap.size 43 7 v acc.length (acc.flatMap InstD.cells) ∧ RdS w0 wr G l1 b1 ∧ But G W wr) := Lib.hid ⟨HII.out.own, HII.out.rd, HII.out.but⟩
      by_cases hr0 : r = 0
      · subst hr0
        clear hend hrc
        go_wp2_with fail
        go_ret
        exact ⟨_, rfl, HFIN.out.1, HFIN.out.2.1, HFIN.out.2.2⟩
      · obtain rfl : b1 = true := hend.resolve_left hr0
        have hr1 : (0 : Int) < r := by omega
        clear hend hrc
        go_wp2_with fail
        go_ret
        exact ⟨_, rfl, HFIN.out.1, HFIN.out.2.1, HFIN.out.2.2⟩
    · obtain rfl : b1 = false := by
        cases b1
        · rfl
        · exact absurd (.inr rfl) hend
      have hr0 : r ≠ 0 := fun h => hend (.inl h)
      have hr1 : (0 : Int) < r := by omega
      obtain ⟨r', hr'⟩ : ∃ r', r = r' + 1 := ⟨r - 1, by omega⟩
      have er : IntKind.i64.wrap ((r : Int) - 1) = (r' : Int) := by rw [wrap_i64 (by omega) (by omega)]; omega
      obtain ⟨⟨op, fn, dst, src, reg, off, imm⟩, hI⟩ : ∃ I, (getR (tkL l1 false 8)).1 = I := ⟨_, rfl⟩
      obtain ⟨e, he⟩ : ∃ e, (getR (tkL l1 false 8)).2 = e := ⟨_, rfl⟩
      obtain ⟨b2, hb2⟩ : ∃ b2, Hid (rdB l1 false e = b2) := ⟨_, Lib.hid rfl⟩
      have HG : Hid (getR (tkL l1 false 8) = (⟨op, fn, dst, src, reg, off, imm⟩, e)) := Lib.hid (by rw [← hI, ← he])
      have HRC2 : Hid (rdCode r' (acc ++ [⟨op, fn, dst, src, reg, off, imm⟩]) (tkR l1 false 8) b2 = (code, l', bad')) := Lib.hid (by
        rw [hr'] at hrc
        simp only [rdCode, Bool.false_eq_true, if_false, rdI, hI, he, hb2.out] at hrc
        exact hrc)
      have hr'n : acc.length + 1 + r' = n := by omega
      have HR'N := Lib.hid hr'n
      have hrr : r' < r := by omega
      have z1 := asInst_Inst (.agg #[.int .i64 op, .int .i64 fn, .int .i64 dst, .int .i64 src, .bool reg, .int .i64 off, .int .u32 imm])
      clear hend hrc hI he hr0 hr' hr'n
      go_wp2_with fail
      refine (part_inst G l1 false w0 wr HII.out.rd op fn dst src reg off imm e b2 HG hb2).mono ?_
      rintro en w5 ⟨rfl, hr5, hb5⟩
      have HI5 := Lib.hid ((HII.out.read hFG hGW hr5 hb5).bel (((Bel.refl w5).alloc (.cells #[.int .i64 op, .int .i64 fn, .int .i64 dst, .int .i64 src, .bool reg, .int .i64 off, .int .u32 imm] 43)).alloc (.cells #[.int .i64 op, .int .i64 fn, .int .i64 dst, .int .i64 src, .bool reg, .int .i64 off, .int .u32 imm] 43)))
      have HI4 := Lib.hid (HII.out.read hFG hGW hr5 hb5)
      have p0 := HI4.out.box.cell 0 (v := .int .i64 a) rfl
      have p1 := HI4.out.box.cell 1 (v := v) rfl
      have pf := HI4.out.box.frozen 1
      have hFl := HI4.out.box.lt
      clear hr5 hb5 q1
      have nF : ¬ F = w5.heap.size := by omega
      have nF' : ¬ w5.heap.size = F := by omega
      have nF2 : ¬ F = w5.heap.size + 1 := by omega
      have HNEW : Hid (∀ j u, (InstD.cells ⟨op, fn, dst, src, reg, off, imm⟩)[j]? = some u → ((w5.alloc (.cells #[.int .i64 op, .int .i64 fn, .int .i64 dst, .int .i64 src, .bool reg, .int .i64 off, .int .u32 imm] 43)).alloc (.cells #[.int .i64 op, .int .i64 fn, .int .i64 dst, .int .i64 src, .bool reg, .int .i64 off, .int .u32 imm] 43)).cell? ((⟨w5.heap.size + 1, 0, none⟩ : Addr).add j) = some u) := Lib.hid (by
        have := cells_new (w5.alloc (.cells #[.int .i64 op, .int .i64 fn, .int .i64 dst, .int .i64 src, .bool reg, .int .i64 off, .int .u32 imm] 43)) #[.int .i64 op, .int .i64 fn, .int .i64 dst, .int .i64 src, .bool reg, .int .i64 off, .int .u32 imm] 43
        rw [World.size_alloc] at this
        exact this)
      have HWS := Lib.hid (Nat.le_trans HI5.out.but.size (Nat.le_refl _))
      have hal : acc.length ≤ 255 := by omega
      go_wp2_with (first | (show wpList _ _ _ ({ dst := _, op := .call { callee := .builtin .append, args := _, argTypes := _ }, type := _, pos := _, after := _, guard := none } :: _) _ _; refine at_append W.heap.size 43 (.agg #[.int .i64 0, .int .i64 0, .int .i64 0, .int .i64 0, .bool false, .int .i64 0, .int .u32 0]) 7 56 Try.underlying36 info_inst rfl (by decide) v acc.length (acc.flatMap InstD.cells) (by rfl) HI5.out.own ⟨w5.heap.size + 1, 0, none⟩ 1 1 (InstD.cells ⟨op, fn, dst, src, reg, off, imm⟩) (by rfl) (by rfl) HNEW.out (inst_one _) (by simp only [maxLen]; omega) (by omega) HWS.out (bare _) (bare_size _ _) (bare_bel _) rfl ?_; intro v1 w1' own1 hgr1 HB1 hrow1; obtain ⟨gv, cv, hv1⟩ := own_form own1; subst hv1; have hbF := HI5.out.grown hgr1; have g1 := hbF.cell 1 (v := v) rfl; have gf := hbF.frozen 1; have HRW := Lib.hid (HI5.out.row hrow1); clear hrow1))
      have HNX := Lib.hid (HI5.out.push hGW hWF rfl own1 hgr1 HRW.out)
      clear own1 hgr1 HB1 hbF
      go_wp2
      go_roundw
      case rel => exact ⟨r', acc ++ [⟨op, fn, dst, src, reg, off, imm⟩], _, _, _, by simp, by rw [List.length_append]; exact HR'N.out, HRC2.out, HNX.out⟩
      case measure => simp [intOf]; omega
end Go.Proofs.Ytcllifcafgiopaa
