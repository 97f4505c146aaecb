/- The walk of InstFields. -/
import Derived.Test.YtajjodbfbmigkaaInstLawBack
set_option linter.unusedVariables false
set_option linter.unusedSimpArgs false
namespace Go.Proofs.Ytajjodbfbmigkaa
open Go.RowKit
theorem put8_at (op fn dst src : Int) (reg : Bool) (off imm : Int) (w : World) (hi : U32 imm) (l : List Int) (e : Int) (n : Nat) (hr : Hid (putR (⟨op, fn, dst, src, reg, off, imm⟩ : InstD) = (l, e))) (hn : Hid (l.length = n)) :
    Calls Try.prog 10 #[.agg #[.int .i64 op, .int .i64 fn, .int .i64 dst, .int .i64 src, .bool reg, .int .i64 off, .int .u32 imm]] w fun e' w' => ∃ A cap, e' = .returned (.tuple #[.slice A n cap, .int .i64 e]) ∧ Sl (IntR .u8) 1 w' A cap l ∧ Bel w w' := by
  have := put_at op fn dst src reg off imm w hi l e hr
  unfold BytesOut at this
  simp only [hn.out] at this
  exact this
/-- 'append([]T(nil), x...)', one cell an element. -/
theorem at_append_nil {P : Program} {ops : Array Oper} {rest : List Oper} {a : Act} {W : World} {Q : Exit → Act → World → Prop} {dst : Option Tmp} {tt : TypeId} {pos : String} {after : Array Edge} {s x : Operand} {t t' : TypeId}
    (e : TypeId) (z : Value) (bytes : Nat) (ht : P.underlying t = some (.slice e)) (hinfo : (P.info? e).map (fun i => (i.zero, i.size, i.bytes)) = some (some z, 1, bytes)) (hzs : z.cells.size = 1)
    (hs : a.eval s = .slice none 0 0) (ad : Addr) (m c : Nat) (news : List Value) (hx : a.eval x = .slice (some ad) m c) (hl : news.length = m) (hnews : ∀ j u, news[j]? = some u → W.cell? (ad.add j) = some u) (h1 : ∀ u ∈ news, u.oneCell' = true)
    (h63 : m ≤ maxLen) (hbytes : m * bytes ≤ 140737488355328) (htt : t' = t)
    (h : ∀ v' w', w'.ownsRow W.heap.size e 1 v' m news → Bel W w' → wpList P ops Q rest (a.put dst v') w') :
    wpList P ops Q ({ dst := dst, op := .call { callee := .builtin .append, args := #[s, x], argTypes := #[t, t'] }, type := tt, pos := pos, after := after, guard := none } :: rest) a W :=
  at_append W.heap.size e z 1 bytes ht hinfo hzs (by decide) (.slice none 0 0) 0 [] hs ⟨by simp, .inl ⟨rfl, rfl⟩⟩ ad m c news hx (by omega) hnews h1 (by omega) (by rw [Nat.zero_add]; exact hbytes) (Nat.le_refl _) W (Nat.le_refl _) (Bel.refl _) htt
    fun v' w' o1 g1 b1 _ => h v' w' (by rw [Nat.zero_add, List.nil_append] at o1; exact o1) b1
theorem ownsRow_nil (w : World) (b : Nat) (e : TypeId) (s : Nat) : w.ownsRow b e s (.slice none 0 0) 0 [] := ⟨by simp, .inl ⟨rfl, rfl⟩⟩
theorem u8s_one (l : List Int) : ∀ u ∈ u8s l, u.oneCell' = true := by
  intro u hu
  obtain ⟨x, _, rfl⟩ := List.mem_map.1 hu
  rfl
theorem u8s_get (l : List Int) (i : Nat) (h : i < l.length) : ((u8s l)[i]?) = some (.int .u8 (l.getD i 0)) := by
  simp [u8s, List.getElem?_eq_getElem h, List.getD_eq_getElem?_getD]
theorem cells_u8 {w : World} {g o n : Nat} {l : List Int} (hn : l.length = n) (h : ∀ i, i < n → w.cell? ⟨g, o + i, none⟩ = some (.int .u8 (l.getD i 0))) : ∀ j u, (u8s l)[j]? = some u → w.cell? ((⟨g, o, none⟩ : Addr).add j) = some u := by
  intro j u hu
  have hadd : (⟨g, o, none⟩ : Addr).add j = ⟨g, o + j, none⟩ := by unfold Addr.add; split <;> simp_all
  rw [hadd]
  have hj : j < l.length := by
    have := (List.getElem?_eq_some_iff.1 hu).1
    simpa [u8s] using this
  rw [u8s_get l j hj] at hu
  rw [← Option.some.inj hu]
  exact h j (by omega)
theorem own_open {w : World} {b : Nat} {e : TypeId} {v : Value} {n : Nat} {xs : List Value} (h : w.ownsRow b e 1 v n xs) (hn : 0 < n) :
    ∃ g c, v = .slice (some ⟨g, 0, none⟩) n c ∧ b ≤ g ∧ n ≤ c ∧ c ≤ maxLen ∧ (∀ i, w.frozen? ⟨g, i, none⟩ = false) ∧ ∀ i, i < n → w.cell? ⟨g, i, none⟩ = xs[i]? := by
  obtain ⟨h1, h2⟩ := h
  rcases h2 with ⟨rfl, h2⟩ | ⟨g, cap, cur, rfl, hb, hh, hc, hm, hs, ht⟩
  · omega
  · refine ⟨g, cap, rfl, hb, hc, hm, fun i => by simp [World.frozen?, hh], fun i hi => ?_⟩
    rw [← ht, List.getElem?_take, if_pos (by omega)]
    simp [World.cell?, hh]
theorem sl_set {w : World} {g n c : Nat} {l : List Int} {x : Int} (hc : l.length ≤ c) (hm : c ≤ maxLen) (hcells : ∀ i, i < l.length → w.cell? ⟨g, i, none⟩ = (u8s l)[i]?) (hb : ∀ y ∈ l, 0 ≤ y ∧ y < 256) (hx : 0 ≤ x ∧ x < 256) (hn : n < l.length) :
    Sl (IntR .u8) 1 (w.setCell ⟨g, n, none⟩ (.int .u8 x)) (some ⟨g, 0, none⟩) c (l.set n x) := by
  refine ⟨by simpa using hc, hm, fun i hi => ?_⟩
  have hi' : i < l.length := by simpa using hi
  refine ⟨g, 0, [.int .u8 (l.set n x)[i]], rfl, rfl, ⟨rfl, ?_⟩, fun j v hv => ?_⟩
  · rcases List.mem_or_eq_of_mem_set (List.getElem_mem hi) with h | h
    · exact wf_u8 (hb _ h)
    · rw [h]; exact wf_u8 hx
  · cases j with
    | zero =>
      simp at hv
      subst hv
      by_cases hin : i = n
      · subst hin
        have := World.cell?_setCell_same (w := w) (a := ⟨g, i, none⟩) (v := .int .u8 x) (h := (hcells i hi').trans (u8s_get l i hi'))
        simpa using this
      · have hne : (⟨g, n, none⟩ : Addr) ≠ ⟨g, i, none⟩ := fun h => hin (by cases h; rfl)
        have := World.cell?_setCell_other (w := w) (a := ⟨g, n, none⟩) (b := ⟨g, i, none⟩) (v := .int .u8 x) (h := hne)
        rw [hcells i hi', u8s_get l i hi'] at this
        have hin' : ¬ n = i := fun h => hin h.symm
        simpa [List.getElem_set, hin', List.getD_eq_getElem?_getD, List.getElem?_eq_getElem hi'] using this
    | succ j => simp at hv
theorem sl_set' {w : World} {g n c : Nat} {l : List Int} {x : Int} (h8 : Hid (l.length = 8)) (hc : 8 ≤ c) (hm : c ≤ maxLen) (hcells : ∀ i, i < 8 → w.cell? ⟨g, i, none⟩ = (u8s l)[i]?) (hb : Hid (∀ y ∈ l, 0 ≤ y ∧ y < 256)) (hx : Hid (0 ≤ x ∧ x < 256)) (hn : n < 8) :
    Hid (Sl (IntR .u8) 1 (w.setCell ⟨g, n, none⟩ (.int .u8 x)) (some ⟨g, 0, none⟩) c (l.set n x)) :=
  Lib.hid (sl_set (by rw [h8.out]; exact hc) hm (by rw [h8.out]; exact hcells) hb.out hx.out (by rw [h8.out]; exact hn))
theorem xor_ne {x b : Int} (h1 : 0 ≤ x) (h2 : x < 256) (h3 : 0 ≤ b) (h4 : b < 256) (h : b ≠ 0) : bits .xor .u8 x b ≠ x ∧ 0 ≤ bits .xor .u8 x b ∧ bits .xor .u8 x b < 256 := by
  rw [u8_xor x b h1 h2 h3 h4]
  have := @Nat.xor_lt_two_pow x.toNat b.toNat 8 (by omega) (by omega)
  refine ⟨fun he => h ?_, by omega, by omega⟩
  have h5 : x.toNat ^^^ b.toNat = x.toNat := by omega
  have h6 : x.toNat ^^^ (x.toNat ^^^ b.toNat) = x.toNat ^^^ x.toNat := by rw [h5]
  rw [← Nat.xor_assoc, Nat.xor_self, Nat.zero_xor] at h6
  omega
/-- What a byte's change does to an instruction. -/
theorem change_law {l : List Int} {n : Nat} {x : Int} (hl : l.length = 8) (hn : n < 8) (hb : ∀ y ∈ l, 0 ≤ y ∧ y < 256) (h1 : 0 ≤ x) (h2 : x < 256) (hx : x ≠ l.getD n 0) (m1 : (getI l).may = true) (m2 : (getI (l.set n x)).may = true) :
    getI (l.set n x) ≠ getI l ∧ (n < 4 → (getI (l.set n x)).imm = (getI l).imm) ∧ (4 ≤ n → (getI (l.set n x)).imm ≠ (getI l).imm) ∧ (n = 2 ∨ n = 3 → (getI (l.set n x)).off ≠ (getI l).off) ∧ (¬ (n = 2 ∨ n = 3) → (getI (l.set n x)).off = (getI l).off) := by
  have hb' : ∀ y ∈ l.set n x, 0 ≤ y ∧ y < 256 := by
    intro y hy
    rcases List.mem_or_eq_of_mem_set hy with h | rfl
    · exact hb y h
    · exact ⟨h1, h2⟩
  refine ⟨fun he => hx ?_, ?_⟩
  · have e1 := put_get hl hb m1
    have e2 := put_get (by simpa using hl) hb' m2
    rw [he, e1] at e2
    have : (l.set n x).getD n 0 = l.getD n 0 := by rw [← e2]
    rw [← this]
    simp [List.getD_eq_getElem?_getD, hl, hn]
  · match l, hl with
    | [b0, b1, b2, b3, b4, b5, b6, b7], _ =>
      have k0 := hb b0 (by simp)
      have k1 := hb b1 (by simp)
      have k2 := hb b2 (by simp)
      have k3 := hb b3 (by simp)
      have k4 := hb b4 (by simp)
      have k5 := hb b5 (by simp)
      have k6 := hb b6 (by simp)
      have k7 := hb b7 (by simp)
      clear hb hb' m1 m2
      have : n = 0 ∨ n = 1 ∨ n = 2 ∨ n = 3 ∨ n = 4 ∨ n = 5 ∨ n = 6 ∨ n = 7 := by omega
      rcases this with rfl | rfl | rfl | rfl | rfl | rfl | rfl | rfl <;>
        simp [getI, beN, List.getD_cons_zero, List.getD_cons_succ] at * <;> omega
set_option maxHeartbeats 4000000 in
set_option maxRecDepth 100000 in
theorem InstFields_walk (C0 : Array Value) (a0 : InstD) (pos by0 : Int) (w : World) (r0 : InstR w C0.toList a0) (hp : (Lit.int .i64 pos).wf = true) (hy : (Lit.int .u8 by0).wf = true) :
    Calls Try.prog 8 #[.agg C0, .int .i64 pos, .int .u8 by0] w fun e w' => e = .returned (.bool true) ∧ Bel w w' := by
  obtain ⟨hcs, hwf⟩ := r0
  obtain ⟨op, fn, dst, src, reg, off, imm⟩ := a0
  obtain rfl : C0 = #[.int .i64 op, .int .i64 fn, .int .i64 dst, .int .i64 src, .bool reg, .int .i64 off, .int .u32 imm] := inst_arr hcs
  clear hcs
  have u0 : U32 imm := hwf.imm
  have HB := Bel.refl (w.alloc (.cells #[.int .i64 op, .int .i64 fn, .int .i64 dst, .int .i64 src, .bool reg, .int .i64 off, .int .u32 imm] 24))
  obtain ⟨y1, y2⟩ := u8_of_wf hy
  clear hp hy
  by_cases m0 : InstD.may ⟨op, fn, dst, src, reg, off, imm⟩ = true
  · have R0 : Hid (putR ⟨op, fn, dst, src, reg, off, imm⟩ = (InstD.put ⟨op, fn, dst, src, reg, off, imm⟩, 0)) := Lib.hid (if_pos m0)
    have n0 : Hid ((InstD.put ⟨op, fn, dst, src, reg, off, imm⟩).length = 8) := Lib.hid rfl
    have hl0 := Lib.hid (get_put m0 u0)
    have HM := Lib.hid m0
    have hB := Lib.hid (put_range m0 u0)
    generalize InstD.put ⟨op, fn, dst, src, reg, off, imm⟩ = l0 at *
    clear m0 hwf
    by_cases t0 : pos < 0
    · go_enter Try.func8, Try.ntmps8
      go_wp2_with fail
      refine (awake_any _).mono ?_
      rintro e w1 ⟨rfl, hb⟩
      have HB := HB.trans hb
      obtain ⟨p0, p1, p2, p3, p4, p5, p6⟩ := box7 HB
      have ne : w.heap.size < w1.heap.size := World.block_lt_of_cell? _ _ p0
      have ne1 : ¬ w.heap.size = w1.heap.size := by omega
      have ne2 : ¬ w1.heap.size = w.heap.size := by omega
      clear hb
      go_wp2_with fail
      refine (put8_at op fn dst src reg off imm _ u0 _ _ _ R0 n0).mono ?_
      rintro e w2 ⟨A0, c0, rfl, s0, hb⟩
      have HB := HB.trans hb
      have Hs0 := Lib.hid s0
      clear s0
      obtain ⟨p0, p1, p2, p3, p4, p5, p6⟩ := box7 HB
      have ne : w.heap.size < w2.heap.size := World.block_lt_of_cell? _ _ p0
      have ne1 : ¬ w.heap.size = w2.heap.size := by omega
      have ne2 : ¬ w2.heap.size = w.heap.size := by omega
      clear hb
      go_wp2
      go_ret
      exact ⟨by first | (simp; done) | (simp; omega), HB.un⟩
    · by_cases t1 : 8 ≤ pos
      · go_enter Try.func8, Try.ntmps8
        go_wp2_with fail
        refine (awake_any _).mono ?_
        rintro e w1 ⟨rfl, hb⟩
        have HB := HB.trans hb
        obtain ⟨p0, p1, p2, p3, p4, p5, p6⟩ := box7 HB
        have ne : w.heap.size < w1.heap.size := World.block_lt_of_cell? _ _ p0
        have ne1 : ¬ w.heap.size = w1.heap.size := by omega
        have ne2 : ¬ w1.heap.size = w.heap.size := by omega
        clear hb
        go_wp2_with fail
        refine (put8_at op fn dst src reg off imm _ u0 _ _ _ R0 n0).mono ?_
        rintro e w2 ⟨A0, c0, rfl, s0, hb⟩
        have HB := HB.trans hb
        have Hs0 := Lib.hid s0
        clear s0
        obtain ⟨p0, p1, p2, p3, p4, p5, p6⟩ := box7 HB
        have ne : w.heap.size < w2.heap.size := World.block_lt_of_cell? _ _ p0
        have ne1 : ¬ w.heap.size = w2.heap.size := by omega
        have ne2 : ¬ w2.heap.size = w.heap.size := by omega
        clear hb
        go_wp2
        go_ret
        exact ⟨by first | (simp; done) | (simp; omega), HB.un⟩
      · by_cases t2 : by0 = 0
        · subst t2
          go_enter Try.func8, Try.ntmps8
          go_wp2_with fail
          refine (awake_any _).mono ?_
          rintro e w1 ⟨rfl, hb⟩
          have HB := HB.trans hb
          obtain ⟨p0, p1, p2, p3, p4, p5, p6⟩ := box7 HB
          have ne : w.heap.size < w1.heap.size := World.block_lt_of_cell? _ _ p0
          have ne1 : ¬ w.heap.size = w1.heap.size := by omega
          have ne2 : ¬ w1.heap.size = w.heap.size := by omega
          clear hb
          go_wp2_with fail
          refine (put8_at op fn dst src reg off imm _ u0 _ _ _ R0 n0).mono ?_
          rintro e w2 ⟨A0, c0, rfl, s0, hb⟩
          have HB := HB.trans hb
          have Hs0 := Lib.hid s0
          clear s0
          obtain ⟨p0, p1, p2, p3, p4, p5, p6⟩ := box7 HB
          have ne : w.heap.size < w2.heap.size := World.block_lt_of_cell? _ _ p0
          have ne1 : ¬ w.heap.size = w2.heap.size := by omega
          have ne2 : ¬ w2.heap.size = w.heap.size := by omega
          clear hb
          go_wp2
          go_ret
          exact ⟨by first | (simp; done) | (simp; omega), HB.un⟩
        · have t2' : (by0 == 0) = false := by simpa using t2
          obtain ⟨n, rfl⟩ : ∃ n : Nat, pos = n := ⟨pos.toNat, by omega⟩
          have hn8 : n < 8 := by omega
          have t1' : (n : Int) < 8 := by omega
          clear t1
          obtain ⟨x0, hx0⟩ : ∃ x0, Hid (x0 = l0.getD n 0) := ⟨_, Lib.hid rfl⟩
          have x0r : 0 ≤ x0 ∧ x0 < 256 := by rw [hx0.out, List.getD_eq_getElem?_getD, List.getElem?_eq_getElem (by rw [n0.out]; exact hn8)]; exact hB.out _ (List.getElem_mem _)
          obtain ⟨xn, x1, x2⟩ := xor_ne x0r.1 x0r.2 y1 y2 t2
          have hXr : Hid (0 ≤ bits .xor .u8 x0 by0 ∧ bits .xor .u8 x0 by0 < 256) := Lib.hid ⟨x1, x2⟩
          have hlen : Hid ((l0.set n (bits .xor .u8 x0 by0)).length = 8) := Lib.hid (by rw [List.length_set]; exact n0.out)
          by_cases hg : (getR (l0.set n (bits .xor .u8 x0 by0))).2 = 0
          · obtain ⟨-, z2, z3⟩ := getR_ok hg
            have law := change_law n0.out hn8 hB.out x1 x2 (by rw [← hx0.out]; exact xn) (by rw [hl0.out]; exact HM.out) z2
            rw [hl0.out] at law
            have G1 := Lib.hid z3
            clear hg z2 z3 x0r xn x1 x2 t2
            generalize getI (l0.set n (bits .xor .u8 x0 by0)) = K at *
            obtain ⟨kop, kfn, kdst, ksrc, kreg, koff, kimm⟩ := K
            obtain ⟨k1, k2, k3, k4, k5⟩ := law
            simp only at k2 k3 k4 k5
            have EQ := inst_neq _ _ _ (Lib.hid (decide_eq_false k1))
            simp only at EQ
            have K2 := Lib.hid k2
            have K3 := Lib.hid k3
            have K4 := Lib.hid k4
            have K5 := Lib.hid k5
            clear k1 k2 k3 k4 k5
            go_enter Try.func8, Try.ntmps8
            go_wp2_with fail
            refine (awake_any _).mono ?_
            rintro e w1 ⟨rfl, hb⟩
            have HB := HB.trans hb
            obtain ⟨p0, p1, p2, p3, p4, p5, p6⟩ := box7 HB
            have ne : w.heap.size < w1.heap.size := World.block_lt_of_cell? _ _ p0
            have ne1 : ¬ w.heap.size = w1.heap.size := by omega
            have ne2 : ¬ w1.heap.size = w.heap.size := by omega
            clear hb
            go_wp2_with fail
            refine (put8_at op fn dst src reg off imm _ u0 _ _ _ R0 n0).mono ?_
            rintro e w2 ⟨A0, c0, rfl, s0, hb⟩
            have HB := HB.trans hb
            have Hs0 := Lib.hid s0
            clear s0
            obtain ⟨p0, p1, p2, p3, p4, p5, p6⟩ := box7 HB
            have ne : w.heap.size < w2.heap.size := World.block_lt_of_cell? _ _ p0
            have ne1 : ¬ w.heap.size = w2.heap.size := by omega
            have ne2 : ¬ w2.heap.size = w.heap.size := by omega
            clear hb
            obtain ⟨g0, o0, rfl, hc⟩ := Hs0.out.int_cell (by have := n0.out; omega)
            have HC : Hid (∀ j u, (u8s l0)[j]? = some u → w2.cell? ((⟨g0, o0, none⟩ : Addr).add j) = some u) := Lib.hid (cells_u8 n0.out fun i hi => (hc i (by rw [n0.out]; exact hi)).1)
            clear hc
            go_wp2_with (refine at_append_nil 5 (.int .u8 0) 1 Try.underlying25 info_u8 rfl (by rfl) ⟨g0, o0, none⟩ 8 c0 (u8s l0) (by rfl) (by simp [u8s, n0.out]) HC.out (u8s_one _) (by decide) (by decide) rfl ?_; intro v1 w3 own1 hb; have HB := HB.trans hb; obtain ⟨g, c1, rfl, hgge, hc1, hm1, fz, cl1⟩ := own_open own1 (by decide); have cn := cl1 n hn8; have fn0 := fz n; rw [u8s_get _ _ (by rw [n0.out]; exact hn8), ← hx0.out] at cn; have HS1 := sl_set' n0 hc1 hm1 cl1 hB hXr hn8; clear own1 cl1 hb fz; have HBs := HB.setCell (p := ⟨g, n, none⟩) (by have := HB.size; simp at this ⊢; omega) (.int .u8 (bits .xor .u8 x0 by0)); obtain ⟨p0, p1, p2, p3, p4, p5, p6⟩ := box7 HBs)
            refine (get_at (some ⟨g, 0, none⟩) 8 c1 _ _ HS1.out hlen _ _ G1).mono ?_
            rintro e w4 ⟨rfl, hb⟩
            have HB := HBs.trans hb
            obtain ⟨p0, p1, p2, p3, p4, p5, p6⟩ := box7 HB
            have ne : w.heap.size < w4.heap.size := World.block_lt_of_cell? _ _ p0
            have ne1 : ¬ w.heap.size = w4.heap.size := by omega
            have ne2 : ¬ w4.heap.size = w.heap.size := by omega
            clear hb HBs HS1 cn fn0
            by_cases b1 : n = 2
            · subst b1
              have kk := K2.out (by omega)
              subst kk
              have ko : (koff != off) = true := by simpa using K4.out (by omega)
              go_wp2_with fail
              go_ret
              exact ⟨by first | (simp; done) | (simp; omega), by repeat (first | exact HB.un | apply Bel.alloc | apply Bel.drewN)⟩
            · by_cases b2 : n = 3
              · subst b2
                have kk := K2.out (by omega)
                subst kk
                have ko : (koff != off) = true := by simpa using K4.out (by omega)
                go_wp2_with fail
                go_ret
                exact ⟨by first | (simp; done) | (simp; omega), by repeat (first | exact HB.un | apply Bel.alloc | apply Bel.drewN)⟩
              · have kk := K5.out (by omega)
                subst kk
                have b1' : ((n : Int) == 2) = false := by rw [beq_eq_false_iff_ne]; omega
                have b2' : ((n : Int) == 3) = false := by rw [beq_eq_false_iff_ne]; omega
                by_cases b3 : n < 4
                · have kk := K2.out b3
                  subst kk
                  have b3' : (n : Int) < 4 := by omega
                  go_wp2_with fail
                  go_ret
                  exact ⟨by first | (simp; done) | (simp; omega), by repeat (first | exact HB.un | apply Bel.alloc | apply Bel.drewN)⟩
                · have ko : (kimm == imm) = false := by simpa using K3.out (by omega)
                  have b3' : ¬ (n : Int) < 4 := by omega
                  go_wp2_with fail
                  go_ret
                  exact ⟨by first | (simp; done) | (simp; omega), by repeat (first | exact HB.un | apply Bel.alloc | apply Bel.drewN)⟩
          · have G1 : Hid (getR (l0.set n (bits .xor .u8 x0 by0)) = (InstD.zero, 7)) := Lib.hid (getR_two hg)
            clear hg x0r xn x1 x2 t2
            go_enter Try.func8, Try.ntmps8
            go_wp2_with fail
            refine (awake_any _).mono ?_
            rintro e w1 ⟨rfl, hb⟩
            have HB := HB.trans hb
            obtain ⟨p0, p1, p2, p3, p4, p5, p6⟩ := box7 HB
            have ne : w.heap.size < w1.heap.size := World.block_lt_of_cell? _ _ p0
            have ne1 : ¬ w.heap.size = w1.heap.size := by omega
            have ne2 : ¬ w1.heap.size = w.heap.size := by omega
            clear hb
            go_wp2_with fail
            refine (put8_at op fn dst src reg off imm _ u0 _ _ _ R0 n0).mono ?_
            rintro e w2 ⟨A0, c0, rfl, s0, hb⟩
            have HB := HB.trans hb
            have Hs0 := Lib.hid s0
            clear s0
            obtain ⟨p0, p1, p2, p3, p4, p5, p6⟩ := box7 HB
            have ne : w.heap.size < w2.heap.size := World.block_lt_of_cell? _ _ p0
            have ne1 : ¬ w.heap.size = w2.heap.size := by omega
            have ne2 : ¬ w2.heap.size = w.heap.size := by omega
            clear hb
            obtain ⟨g0, o0, rfl, hc⟩ := Hs0.out.int_cell (by have := n0.out; omega)
            have HC : Hid (∀ j u, (u8s l0)[j]? = some u → w2.cell? ((⟨g0, o0, none⟩ : Addr).add j) = some u) := Lib.hid (cells_u8 n0.out fun i hi => (hc i (by rw [n0.out]; exact hi)).1)
            clear hc
            go_wp2_with (refine at_append_nil 5 (.int .u8 0) 1 Try.underlying25 info_u8 rfl (by rfl) ⟨g0, o0, none⟩ 8 c0 (u8s l0) (by rfl) (by simp [u8s, n0.out]) HC.out (u8s_one _) (by decide) (by decide) rfl ?_; intro v1 w3 own1 hb; have HB := HB.trans hb; obtain ⟨g, c1, rfl, hgge, hc1, hm1, fz, cl1⟩ := own_open own1 (by decide); have cn := cl1 n hn8; have fn0 := fz n; rw [u8s_get _ _ (by rw [n0.out]; exact hn8), ← hx0.out] at cn; have HS1 := sl_set' n0 hc1 hm1 cl1 hB hXr hn8; clear own1 cl1 hb fz; have HBs := HB.setCell (p := ⟨g, n, none⟩) (by have := HB.size; simp at this ⊢; omega) (.int .u8 (bits .xor .u8 x0 by0)); obtain ⟨p0, p1, p2, p3, p4, p5, p6⟩ := box7 HBs)
            refine (get_at (some ⟨g, 0, none⟩) 8 c1 _ _ HS1.out hlen _ _ G1).mono ?_
            rintro e w4 ⟨rfl, hb⟩
            have HB := HBs.trans hb
            obtain ⟨p0, p1, p2, p3, p4, p5, p6⟩ := box7 HB
            have ne : w.heap.size < w4.heap.size := World.block_lt_of_cell? _ _ p0
            have ne1 : ¬ w.heap.size = w4.heap.size := by omega
            have ne2 : ¬ w4.heap.size = w.heap.size := by omega
            clear hb HBs HS1 cn fn0
            go_wp2_with fail
            go_ret
            exact ⟨by first | (simp; done) | (simp; omega), by repeat (first | exact HB.un | apply Bel.alloc | apply Bel.drewN)⟩
  · have R0 : Hid (putR ⟨op, fn, dst, src, reg, off, imm⟩ = ([], 1)) := Lib.hid (if_neg m0)
    have n0 : Hid (([] : List Int).length = 0) := Lib.hid rfl
    clear m0 hwf
    go_enter Try.func8, Try.ntmps8
    go_wp2_with fail
    refine (awake_any _).mono ?_
    rintro e w1 ⟨rfl, hb⟩
    have HB := HB.trans hb
    obtain ⟨p0, p1, p2, p3, p4, p5, p6⟩ := box7 HB
    have ne : w.heap.size < w1.heap.size := World.block_lt_of_cell? _ _ p0
    have ne1 : ¬ w.heap.size = w1.heap.size := by omega
    have ne2 : ¬ w1.heap.size = w.heap.size := by omega
    clear hb
    go_wp2_with fail
    refine (put8_at op fn dst src reg off imm _ u0 _ _ _ R0 n0).mono ?_
    rintro e w2 ⟨A0, c0, rfl, s0, hb⟩
    have HB := HB.trans hb
    have Hs0 := Lib.hid s0
    clear s0
    obtain ⟨p0, p1, p2, p3, p4, p5, p6⟩ := box7 HB
    have ne : w.heap.size < w2.heap.size := World.block_lt_of_cell? _ _ p0
    have ne1 : ¬ w.heap.size = w2.heap.size := by omega
    have ne2 : ¬ w2.heap.size = w.heap.size := by omega
    clear hb
    go_wp2
    go_ret
    exact ⟨by first | (simp; done) | (simp; omega), HB.un⟩
end Go.Proofs.Ytajjodbfbmigkaa
