/- image.code by its contract. image.Size, image.door, image.join. -/
import Derived.Test.YtebdnobgdimdoaaGreatGO
set_option linter.unusedVariables false
set_option linter.unusedSimpArgs false
namespace Go.Proofs.YtebdnobgdimdoaaGreat
open Go.RowKit
theorem info_u64 : (Tryz.prog.info? 133).map (fun i => (i.zero, i.size, i.bytes)) = some (some (.int .u64 0), 1, 8) := by kernel_rfl
theorem own_sliceI {W : World} {base : Nat} {e : TypeId} {s : Nat} {v : Value} {n : Nat} {xs : List Value} (h : W.ownsRow base e s v n xs) : ∃ A c, v = .slice A n c := by
  rcases h.2 with ⟨rfl, rfl⟩ | ⟨g, cap, cur, rfl, _⟩
  · exact ⟨none, 0, rfl⟩
  · exact ⟨_, cap, rfl⟩
theorem own_belI {w w' : World} {b : Nat} {e : TypeId} {s : Nat} {v : Value} {n : Nat} {xs : List Value} (h : w.ownsRow b e s v n xs) (hb : Bel w w') : w'.ownsRow b e s v n xs :=
  ⟨h.1, h.2.imp id fun ⟨g, cap, cur, h1, h2, h3, r⟩ => ⟨g, cap, cur, h1, h2, (hb.out.block g (Array.getElem?_eq_some_iff.1 h3).1).trans h3, r⟩⟩
theorem sl_ownI {W : World} {base : Nat} {e : TypeId} {v : Value} {l : List Int} (h : W.ownsRow base e 1 v l.length (l.map (Value.int .u64))) (hw : ∀ x ∈ l, (Lit.int .u64 x).wf = true) : ∃ A c, v = .slice A l.length c ∧ Sl (IntR .u64) 1 W A c l := by
  rcases h.2 with ⟨rfl, h0⟩ | ⟨g, cap, cur, rfl, hb, hh, hc, hm, hs, ht⟩
  · have : l = [] := List.eq_nil_of_length_eq_zero h0
    subst this
    exact ⟨none, 0, rfl, Sl.nil _ _ _⟩
  · refine ⟨_, cap, rfl, hc, hm, fun i hi => ⟨g, 0, [.int .u64 l[i]], rfl, rfl, ⟨rfl, hw _ (List.getElem_mem hi)⟩, fun j v hv => ?_⟩⟩
    obtain rfl : j = 0 := by
      have := (List.getElem?_eq_some_iff.1 hv).1
      simpa using this
    simp only [List.getElem?_cons_zero, Option.some.injEq] at hv
    subst hv
    have e : (l.map (Value.int .u64))[i]? = some (.int .u64 l[i]) := by rw [List.getElem?_map, List.getElem?_eq_getElem hi]; rfl
    rw [← ht, List.getElem?_take, if_pos (by omega), Array.getElem?_toList] at e
    simp [World.cell?, hh, e]
theorem off_rng {i : InstD} (h : i.okB = true) : 0 ≤ i.off ∧ i.off ≤ 65535 := by
  obtain ⟨_, _, _, _, ⟨e1, e2⟩, _⟩ := of_decide_eq_true h
  exact ⟨e1, by split at e2 <;> omega⟩
theorem wrap_u64N' {x : Int} (h0 : 0 ≤ x) (h1 : x < 18446744073709551616) : IntKind.u64.wrap x = x := wrap_u64 h0 h1
theorem Blk0.cell1 {W : World} {B : Nat} {t : TypeId} {v : Value} (h : W.heap[B]? = some (.cells #[v] t (0, 0))) : W.cell? ⟨B, 0, none⟩ = some v := by simp [World.cell?, h]
/-- A block of one cell. -/
structure One (W : World) (B : Nat) (t : TypeId) (v : Value) : Prop where mk :: (out : W.heap[B]? = some (.cells #[v] t (0, 0)))
theorem One.bel {W W' : World} {B : Nat} {t : TypeId} {v : Value} (h : One W B t v) (hb : Bel W W') : One W' B t v := ⟨(hb.out.block B (Array.getElem?_eq_some_iff.1 h.out).1).trans h.out⟩
theorem One.alloc {W : World} {B : Nat} {t : TypeId} {v : Value} (h : One W B t v) (o : Obj) : One (W.alloc o) B t v := h.bel ((Bel.refl W).alloc o)
theorem One.new (W : World) (t : TypeId) (v : Value) : One (W.alloc (.cells #[v] t)) W.heap.size t v := ⟨(Go.MapKept.heap_alloc W _).1⟩
theorem One.cell1 {W : World} {B : Nat} {t : TypeId} {v u : Value} (h : One W B t v) (e : v = u) : W.cell? ⟨B, 0, none⟩ = some u := by rw [← e]; exact Blk0.cell1 h.out
set_option maxHeartbeats 8000000 in
set_option maxRecDepth 100000 in
theorem code_any (A : Option Addr) (c n : Nat) (L : List FnD) (j : Nat) (base at' : Int) (w : World) (hL : Sl FnR 2 w A c L) (hn : Hid (L.length = n)) (hn8 : n ≤ 8) (hjL : j < L.length) (l : List InstD) (hl : Hid ((L[j]).code = l)) (hok : Hid (∀ k, k < l.length → (l[k]!).okB = true)) (m : Nat) (HLM : Hid (l.length = m)) (hm64 : m ≤ 64) (hbs : 0 ≤ base ∧ base ≤ 2000) (ha : 0 ≤ at' ∧ at' ≤ 4000) (r : Option (List Int)) (hr : Hid (imgCode n l base at' l.length = r)) :
    Calls Tryz.prog 60 #[.agg #[.slice A n c], .int .i64 j, .int .i64 base, .int .i64 at'] w fun e w' => ((r = none ∧ e = .returned (.tuple #[.slice none 0 0, .int .i64 8])) ∨ ∃ ws A' c', r = some ws ∧ ws.length = m ∧ e = .returned (.tuple #[.slice A' m c', .int .i64 0]) ∧ w'.ownsRow w.heap.size 133 1 (.slice A' m c') m (ws.map (Value.int .u64))) ∧ Bel w w' := by
  have hjn : j < n := by rw [← hn.out]; exact hjL
  obtain ⟨b, o, rfl⟩ := hL.addr (by omega)
  obtain ⟨Al, cl, -, d1, hsl⟩ := fn_cells hL j hjL
  rw [hl.out] at d1 hsl
  rw [HLM.out] at d1
  have HSL := Lib.hid hsl
  have j2 : (j : Int) < n := by omega
  have j0 : 0 ≤ (j : Int) := by omega
  have b0 := World.block_lt_of_cell? _ _ d1
  simp only at b0
  have b1 : b < w.heap.size + 1 := by omega
  have b2 : b < w.heap.size + 1 + 1 := by omega
  have HIM : Hid (∀ i ∈ l, U32 i.imm) := Lib.hid (fun i hi => by
    obtain ⟨k, hk, rfl⟩ := List.mem_iff_getElem.1 hi
    obtain ⟨_, _, _, _, _, ⟨_, hw⟩, _⟩ := hsl.get k hk
    exact hw.imm)
  have hsz4 : ((((w.alloc (.cells #[.slice (some ⟨b, o, none⟩) n c] 24)).alloc (.cells #[.int .i64 base] 3)).alloc (.cells #[.int .i64 at'] 3)).alloc (.cells #[.slice Al m cl] 71)).heap.size = w.heap.size + 1 + 1 + 1 + 1 := by simp
  obtain ⟨W4, hW4⟩ : ∃ W4, (((w.alloc (.cells #[.slice (some ⟨b, o, none⟩) n c] 24)).alloc (.cells #[.int .i64 base] 3)).alloc (.cells #[.int .i64 at'] 3)).alloc (.cells #[.slice Al m cl] 71) = W4 := ⟨_, rfl⟩
  rw [hW4] at hsz4
  have HW4 := Lib.hid hW4
  have HB4 : Hid (Bel w W4) := Lib.hid (by
    rw [← hW4]
    exact ((((Bel.refl w).alloc _).alloc _).alloc _).alloc _)
  have K4 : Hid (One W4 w.heap.size 24 (.slice (some ⟨b, o, none⟩) n c) ∧ One W4 (w.heap.size + 1) 3 (.int .i64 base) ∧ One W4 (w.heap.size + 1 + 1) 3 (.int .i64 at') ∧ One W4 (w.heap.size + 1 + 1 + 1) 71 (.slice Al m cl)) := Lib.hid (by
    rw [← hW4]
    have k1 := One.new (w.alloc (.cells #[.slice (some ⟨b, o, none⟩) n c] 24)) 3 (.int .i64 base)
    have k2 := One.new ((w.alloc (.cells #[.slice (some ⟨b, o, none⟩) n c] 24)).alloc (.cells #[.int .i64 base] 3)) 3 (.int .i64 at')
    have k3 := One.new (((w.alloc (.cells #[.slice (some ⟨b, o, none⟩) n c] 24)).alloc (.cells #[.int .i64 base] 3)).alloc (.cells #[.int .i64 at'] 3)) 71 (.slice Al m cl)
    rw [World.size_alloc] at k1
    rw [World.size_alloc, World.size_alloc] at k2
    rw [World.size_alloc, World.size_alloc, World.size_alloc] at k3
    exact ⟨(((One.new w _ _).alloc _).alloc _).alloc _, (k1.alloc _).alloc _, k2.alloc _, k3⟩)
  have hi1 : ∀ f : Value, (Instr.mapUpdate 181 (.map (some (w.heap.size + 1 + 1 + 1 + 1))) (.int .i64 1) f).run Tryz.prog (W4.alloc (.map #[] 0)) = .ok () (W4.alloc (.map (ents1 f) 1)) := fun f => by
    have := insert_first W4 f
    rwa [hsz4] at this
  have hi2 : ∀ f g : Value, (Instr.mapUpdate 181 (.map (some (w.heap.size + 1 + 1 + 1 + 1))) (.int .i64 6) g).run Tryz.prog (W4.alloc (.map (ents1 f) 1)) = .ok () (W4.alloc (.map (ents2 f g) 2)) := fun f g => by
    have := insert_second W4 f g
    rwa [hsz4] at this
  have HM4 : ∀ f g : Value, (W4.alloc (.map (ents2 f g) 2)).heap[w.heap.size + 1 + 1 + 1 + 1]? = some (.map (ents2 f g) 2) := fun f g => by
    have := (Go.MapKept.heap_alloc W4 (.map (ents2 f g) 2)).1
    rwa [hsz4] at this
  have HM4 := Lib.hid HM4
  have HSZ4 := Lib.hid hsz4
  clear hsz4 hW4
  rw [← HW4.out] at hi1 hi2
  have hmm := @run_makeMap Tryz.prog
  have hmf : ∀ (fn : Fn) (first cap : Array Value) (w : World), (Instr.makeFunc fn first cap).run Tryz.prog w = .ok (.func fn first cap) w := fun _ _ _ _ => rfl
  go_enter Tryz.func60, Tryz.ntmps60
  go_wp2_with fail
  have HB5 := Lib.hid (HB4.out.alloc (.map (ents2 (.func (.func 106) #[] #[.pointer (some ⟨w.heap.size + 1 + 1, 0, none⟩), .pointer (some ⟨w.heap.size + 1 + 1 + 1, 0, none⟩)]) (.func (.func 107) #[] #[.pointer (some ⟨w.heap.size + 1, 0, none⟩), .pointer (some ⟨w.heap.size, 0, none⟩)])) 2))
  have K5 := Lib.hid (And.intro (K4.out.1.alloc (.map (ents2 (.func (.func 106) #[] #[.pointer (some ⟨w.heap.size + 1 + 1, 0, none⟩), .pointer (some ⟨w.heap.size + 1 + 1 + 1, 0, none⟩)]) (.func (.func 107) #[] #[.pointer (some ⟨w.heap.size + 1, 0, none⟩), .pointer (some ⟨w.heap.size, 0, none⟩)])) 2)) (And.intro (K4.out.2.1.alloc (.map (ents2 (.func (.func 106) #[] #[.pointer (some ⟨w.heap.size + 1 + 1, 0, none⟩), .pointer (some ⟨w.heap.size + 1 + 1 + 1, 0, none⟩)]) (.func (.func 107) #[] #[.pointer (some ⟨w.heap.size + 1, 0, none⟩), .pointer (some ⟨w.heap.size, 0, none⟩)])) 2)) (And.intro (K4.out.2.2.1.alloc (.map (ents2 (.func (.func 106) #[] #[.pointer (some ⟨w.heap.size + 1 + 1, 0, none⟩), .pointer (some ⟨w.heap.size + 1 + 1 + 1, 0, none⟩)]) (.func (.func 107) #[] #[.pointer (some ⟨w.heap.size + 1, 0, none⟩), .pointer (some ⟨w.heap.size, 0, none⟩)])) 2)) (K4.out.2.2.2.alloc (.map (ents2 (.func (.func 106) #[] #[.pointer (some ⟨w.heap.size + 1 + 1, 0, none⟩), .pointer (some ⟨w.heap.size + 1 + 1 + 1, 0, none⟩)]) (.func (.func 107) #[] #[.pointer (some ⟨w.heap.size + 1, 0, none⟩), .pointer (some ⟨w.heap.size, 0, none⟩)])) 2)))))
  have HM5 := Lib.hid (HM4.out (.func (.func 106) #[] #[.pointer (some ⟨w.heap.size + 1 + 1, 0, none⟩), .pointer (some ⟨w.heap.size + 1 + 1 + 1, 0, none⟩)]) (.func (.func 107) #[] #[.pointer (some ⟨w.heap.size + 1, 0, none⟩), .pointer (some ⟨w.heap.size, 0, none⟩)]))
  simp only [HW4.out]
  clear hi1 hi2 HM4 HW4 HSZ4 K4 HB4 b0 b1 b2 d1
  generalize W4.alloc (.map (ents2 (.func (.func 106) #[] #[.pointer (some ⟨w.heap.size + 1 + 1, 0, none⟩), .pointer (some ⟨w.heap.size + 1 + 1 + 1, 0, none⟩)]) (.func (.func 107) #[] #[.pointer (some ⟨w.heap.size + 1, 0, none⟩), .pointer (some ⟨w.heap.size, 0, none⟩)])) 2) = W5 at *
  obtain ⟨g, hgw⟩ : ∃ g, w.heap.size = g := ⟨_, rfl⟩
  rw [hgw] at K5 HM5
  simp only [hgw]
  obtain ⟨KP, KB, KA, KL⟩ := K5.out
  have KP := Lib.hid KP
  have KB := Lib.hid KB
  have KA := Lib.hid KA
  have KL := Lib.hid KL
  clear K5
  obtain ⟨base0, hb0⟩ : ∃ base0, W5.heap.size = base0 := ⟨_, rfl⟩
  have hg0 : g ≤ base0 := by rw [← hb0, ← hgw]; exact HB5.out.size
  have HST : Hid (W5.ownsRow base0 133 1 (.slice none 0 0) 0 (([] : List Int).map (Value.int .u64))) := Lib.hid ⟨by simp, .inl ⟨rfl, rfl⟩⟩
  go_loopw [10, 33] (fun ov kv wr => ∃ (k : Nat) (ws : List Int) (AO : Option Addr) (cO : Nat), kv = .int .i64 k ∧ k ≤ m ∧ ov = .slice AO k cO ∧ Hid (imgCode n l base at' k = some ws) ∧ Hid (ws.length = k) ∧ Hid (wr.ownsRow base0 133 1 (.slice AO k cO) k (ws.map (Value.int .u64))) ∧ Hid (Bel W5 wr) ∧ base0 ≤ wr.heap.size) (fun _ kv _ => m - (intOf kv).toNat)
  case atStart => exact ⟨0, [], none, 0, rfl, Nat.zero_le _, rfl, Lib.hid rfl, Lib.hid rfl, HST, Lib.hid (Bel.refl _), Nat.le_of_eq hb0.symm⟩
  case round =>
    clear HST
    obtain ⟨k, ws, AO, cO, rfl, hkm, rfl, HWS, HWL, HOW, HBr, hsz⟩ := hrel
    by_cases hke : k = m
    · subst hke
      have HRS : Hid (r = some ws) := Lib.hid (by rw [← hr.out, HLM.out, HWS.out])
      have HBE := Lib.hid (HB5.out.trans HBr.out)
      have HOE := Lib.hid (own_mono HOW.out (show w.heap.size ≤ base0 by omega))
      go_wp2_with fail
      go_ret2
      exact ⟨.inr ⟨ws, AO, cO, HRS.out, HWL.out, rfl, HOE.out⟩, HBE.out⟩
    · have hk1 : k < m := by omega
      have hk2 : (k : Int) < m := by omega
      have k0 : 0 ≤ (k : Int) := by omega
      have ek : IntKind.i64.wrap ((k : Int) + 1) = (k : Int) + 1 := wrap_i64 (by omega) (by omega)
      have hkl : k < l.length := by rw [HLM.out]; exact hk1
      have hsr := HSL.out.mono InstR.mono (HB5.out.trans HBr.out)
      obtain ⟨bl, ol, hAl⟩ := hsr.addr (by omega)
      subst hAl
      have hic := inst_cells hsr k hkl
      have hxw : (l[k]).Wf := by
        obtain ⟨_, _, _, _, _, ⟨-, hxw⟩, -⟩ := hsr.get k hkl
        exact hxw
      have HOK := Lib.hid (hok.out k hkl)
      obtain ⟨x, HX⟩ : ∃ x, Hid (l[k]! = x) := ⟨_, Lib.hid rfl⟩
      have hx2 : l[k] = x := by rw [← getElem!_pos l k hkl]; exact HX.out
      rw [hx2] at hxw
      rw [HX.out] at hic HOK
      have HXW := Lib.hid hxw
      obtain ⟨op, fn, dst, src, reg, off, imm⟩ := x
      have HOF : Hid (0 ≤ off ∧ off ≤ 65535) := Lib.hid (off_rng HOK.out)
      have c0 := hic 0 (.int .i64 op) rfl
      have c1 := hic 1 (.int .i64 fn) rfl
      have c2 := hic 2 (.int .i64 dst) rfl
      have c3 := hic 3 (.int .i64 src) rfl
      have c4 := hic 4 (.bool reg) rfl
      have c5 := hic 5 (.int .i64 off) rfl
      have c6 := hic 6 (.int .u32 imm) rfl
      rw [Nat.add_zero] at c0
      clear hic hsr hke hx2 hxw
      by_cases h1 : op = 1
      · subst h1
        have hlk := look_jump ((((HBr.out.alloc (.cells #[.int .i64 1, .int .i64 fn, .int .i64 dst, .int .i64 src, .bool reg, .int .i64 off, .int .u32 imm] 95)).out.block _ (Array.getElem?_eq_some_iff.1 HM5.out).1)).trans HM5.out)
        go_wp2_with fail
        refine (clo1 k 1 fn dst src reg off imm (g + 1 + 1) (g + 1 + 1 + 1) at' (some ⟨bl, ol, none⟩) m cl _ ((KA.out.bel (HBr.out.alloc _)).cell1 rfl) ((KL.out.bel (HBr.out.alloc _)).cell1 rfl) (by omega) HOF.out (by omega)).mono ?_
        rintro e wB ⟨rfl, hbB⟩
        have HBB := Lib.hid hbB
        clear hbB
        obtain ⟨ok, hok1⟩ : ∃ ok, decide ((k : Int) + off + 1 < m) = ok := ⟨_, rfl⟩
        have HGO0 : Hid (goTo n m base at' k ⟨1, fn, dst, src, reg, off, imm⟩ = (at' + k + off + 1, ok)) := Lib.hid (by
          unfold goTo
          simp [← hok1])
        rw [hok1]
        clear hok1
        cases ok
        · have HRN : Hid (r = none) := Lib.hid (by
            rw [← hr.out]
            refine imgCode_none (k := k + 1) ?_ _ (by omega)
            rw [imgCode, HWS.out, HLM.out, HX.out]
            simp only [Option.bind_some, HGO0.out]
            rfl)
          have HBE := Lib.hid (HB5.out.trans ((HBr.out.alloc (.cells #[.int .i64 1, .int .i64 fn, .int .i64 dst, .int .i64 src, .bool reg, .int .i64 off, .int .u32 imm] 95)).trans HBB.out))
          go_wp2_with fail
          go_ret2
          exact ⟨.inl ⟨HRN.out, rfl⟩, HBE.out⟩
        · have HGO := HGO0
          have HW := Lib.hid (HBB.out)
          obtain ⟨v, ev, hv⟩ : ∃ v ev, Hid (wput 1 fn dst src reg off imm (at' + k + off + 1) = (v, ev)) := ⟨_, _, Lib.hid rfl⟩
          have HV : Hid (0 ≤ v ∧ v < 18446744073709551616) := Lib.hid (by
            have := wput_rng ⟨1, fn, dst, src, reg, off, imm⟩ (at' + k + off + 1) HXW.out.imm
            unfold wputD at this
            simp only [hv.out] at this
            exact this)
          have HN : Hid (imgCode n l base at' (k + 1) = some (ws ++ [v])) := Lib.hid (by
            rw [imgCode, HWS.out, HLM.out, HX.out]
            have : goTo n m base at' k ⟨1, fn, dst, src, reg, off, imm⟩ = (at' + k + off + 1, true) := HGO.out
            simp only [Option.bind_some, this, if_true, wputD, hv.out])
          have x0 := HW.out.cell (cell_fresh wr #[.int .i64 1, .int .i64 fn, .int .i64 dst, .int .i64 src, .bool reg, .int .i64 off, .int .u32 imm] 95 0 _ rfl)
          have x1 := HW.out.cell (cell_fresh wr #[.int .i64 1, .int .i64 fn, .int .i64 dst, .int .i64 src, .bool reg, .int .i64 off, .int .u32 imm] 95 1 _ rfl)
          have x2 := HW.out.cell (cell_fresh wr #[.int .i64 1, .int .i64 fn, .int .i64 dst, .int .i64 src, .bool reg, .int .i64 off, .int .u32 imm] 95 2 _ rfl)
          have x3 := HW.out.cell (cell_fresh wr #[.int .i64 1, .int .i64 fn, .int .i64 dst, .int .i64 src, .bool reg, .int .i64 off, .int .u32 imm] 95 3 _ rfl)
          have x4 := HW.out.cell (cell_fresh wr #[.int .i64 1, .int .i64 fn, .int .i64 dst, .int .i64 src, .bool reg, .int .i64 off, .int .u32 imm] 95 4 _ rfl)
          have x5 := HW.out.cell (cell_fresh wr #[.int .i64 1, .int .i64 fn, .int .i64 dst, .int .i64 src, .bool reg, .int .i64 off, .int .u32 imm] 95 5 _ rfl)
          have x6 := HW.out.cell (cell_fresh wr #[.int .i64 1, .int .i64 fn, .int .i64 dst, .int .i64 src, .bool reg, .int .i64 off, .int .u32 imm] 95 6 _ rfl)
          go_wp2_with fail
          refine (put_at 1 fn dst src reg off imm (at' + k + off + 1) v ev _ HXW.out.imm hv).mono ?_
          rintro e wC ⟨rfl, hbC⟩
          have hC0 := ((Bel.refl wr).alloc (.cells #[.int .i64 1, .int .i64 fn, .int .i64 dst, .int .i64 src, .bool reg, .int .i64 off, .int .u32 imm] 95)).trans (HW.out.trans hbC)
          have HC1 := Lib.hid (hC0.alloc (.cells #[.int .u64 v] 133))
          have HOC := Lib.hid (own_belI HOW.out HC1.out)
          have HNEW : Hid (∀ j u, [Value.int .u64 v][j]? = some u → (wC.alloc (.cells #[.int .u64 v] 133)).cell? ((⟨wC.heap.size, 0, none⟩ : Addr).add j) = some u) := Lib.hid (cell_one_new _ _ _)
          have hszC : base0 ≤ (wC.alloc (.cells #[.int .u64 v] 133)).heap.size := Nat.le_trans hsz HC1.out.size
          have HBC := Lib.hid (HBr.out.trans HC1.out)
          clear hbC hC0 x0 x1 x2 x3 x4 x5 x6 HW
          go_wp2_with (show wpList _ _ _ ({ dst := _, op := .call { callee := .builtin .append, args := _, argTypes := _ }, type := _, pos := _, after := _, guard := none } :: _) _ _; refine at_append base0 133 (.int .u64 0) 1 8 Tryz.underlying74 info_u64 rfl (by decide) (.slice AO k cO) k (ws.map (Value.int .u64)) (by rfl) HOC.out ⟨wC.heap.size, 0, none⟩ 1 1 [.int .u64 v] (by rfl) rfl HNEW.out (by simp [Value.oneCell']) (by simp only [maxLen]; omega) (by omega) hszC W5 (Nat.le_of_eq hb0) HBC.out rfl ?_; intro v8 w8 o8 g8 b8 at8; have HB8 := Lib.hid b8; have hs8 := Nat.le_trans hszC g8.size; obtain ⟨A8, c8, rfl⟩ := own_sliceI o8; have HO8 := Lib.hid o8; clear o8 g8 b8 at8)
          go_wp2
          go_roundw
          case rel => exact ⟨k + 1, ws ++ [v], A8, c8, by simp, by omega, rfl, HN, Lib.hid (by rw [List.length_append, HWL.out]; rfl), Lib.hid (by rw [List.map_append]; exact HO8.out), HB8, hs8⟩
          case measure => simp [intOf]; omega
      by_cases h6 : op = 6
      · subst h6
        have hlk := look_call ((((HBr.out.alloc (.cells #[.int .i64 6, .int .i64 fn, .int .i64 dst, .int .i64 src, .bool reg, .int .i64 off, .int .u32 imm] 95)).out.block _ (Array.getElem?_eq_some_iff.1 HM5.out).1)).trans HM5.out)
        go_wp2_with fail
        refine (clo2 k 6 fn dst src reg off imm (g + 1) g base (some ⟨b, o, none⟩) n c _ ((KB.out.bel (HBr.out.alloc _)).cell1 rfl) ((KP.out.bel (HBr.out.alloc _)).cell1 rfl) HXW.out.imm (by omega) (by omega)).mono ?_
        rintro e wB ⟨rfl, hbB⟩
        have HBB := Lib.hid hbB
        clear hbB
        obtain ⟨ok, hok1⟩ : ∃ ok, decide (imm < n) = ok := ⟨_, rfl⟩
        have HGO0 : Hid (goTo n m base at' k ⟨6, fn, dst, src, reg, off, imm⟩ = (base + imm, ok)) := Lib.hid (by
          unfold goTo
          simp [← hok1])
        rw [hok1]
        clear hok1
        cases ok
        · have HRN : Hid (r = none) := Lib.hid (by
            rw [← hr.out]
            refine imgCode_none (k := k + 1) ?_ _ (by omega)
            rw [imgCode, HWS.out, HLM.out, HX.out]
            simp only [Option.bind_some, HGO0.out]
            rfl)
          have HBE := Lib.hid (HB5.out.trans ((HBr.out.alloc (.cells #[.int .i64 6, .int .i64 fn, .int .i64 dst, .int .i64 src, .bool reg, .int .i64 off, .int .u32 imm] 95)).trans HBB.out))
          go_wp2_with fail
          go_ret2
          exact ⟨.inl ⟨HRN.out, rfl⟩, HBE.out⟩
        · have HGO := HGO0
          have HW := Lib.hid (HBB.out)
          obtain ⟨v, ev, hv⟩ : ∃ v ev, Hid (wput 6 fn dst src reg off imm (base + imm) = (v, ev)) := ⟨_, _, Lib.hid rfl⟩
          have HV : Hid (0 ≤ v ∧ v < 18446744073709551616) := Lib.hid (by
            have := wput_rng ⟨6, fn, dst, src, reg, off, imm⟩ (base + imm) HXW.out.imm
            unfold wputD at this
            simp only [hv.out] at this
            exact this)
          have HN : Hid (imgCode n l base at' (k + 1) = some (ws ++ [v])) := Lib.hid (by
            rw [imgCode, HWS.out, HLM.out, HX.out]
            have : goTo n m base at' k ⟨6, fn, dst, src, reg, off, imm⟩ = (base + imm, true) := HGO.out
            simp only [Option.bind_some, this, if_true, wputD, hv.out])
          have x0 := HW.out.cell (cell_fresh wr #[.int .i64 6, .int .i64 fn, .int .i64 dst, .int .i64 src, .bool reg, .int .i64 off, .int .u32 imm] 95 0 _ rfl)
          have x1 := HW.out.cell (cell_fresh wr #[.int .i64 6, .int .i64 fn, .int .i64 dst, .int .i64 src, .bool reg, .int .i64 off, .int .u32 imm] 95 1 _ rfl)
          have x2 := HW.out.cell (cell_fresh wr #[.int .i64 6, .int .i64 fn, .int .i64 dst, .int .i64 src, .bool reg, .int .i64 off, .int .u32 imm] 95 2 _ rfl)
          have x3 := HW.out.cell (cell_fresh wr #[.int .i64 6, .int .i64 fn, .int .i64 dst, .int .i64 src, .bool reg, .int .i64 off, .int .u32 imm] 95 3 _ rfl)
          have x4 := HW.out.cell (cell_fresh wr #[.int .i64 6, .int .i64 fn, .int .i64 dst, .int .i64 src, .bool reg, .int .i64 off, .int .u32 imm] 95 4 _ rfl)
          have x5 := HW.out.cell (cell_fresh wr #[.int .i64 6, .int .i64 fn, .int .i64 dst, .int .i64 src, .bool reg, .int .i64 off, .int .u32 imm] 95 5 _ rfl)
          have x6 := HW.out.cell (cell_fresh wr #[.int .i64 6, .int .i64 fn, .int .i64 dst, .int .i64 src, .bool reg, .int .i64 off, .int .u32 imm] 95 6 _ rfl)
          go_wp2_with fail
          refine (put_at 6 fn dst src reg off imm (base + imm) v ev _ HXW.out.imm hv).mono ?_
          rintro e wC ⟨rfl, hbC⟩
          have hC0 := ((Bel.refl wr).alloc (.cells #[.int .i64 6, .int .i64 fn, .int .i64 dst, .int .i64 src, .bool reg, .int .i64 off, .int .u32 imm] 95)).trans (HW.out.trans hbC)
          have HC1 := Lib.hid (hC0.alloc (.cells #[.int .u64 v] 133))
          have HOC := Lib.hid (own_belI HOW.out HC1.out)
          have HNEW : Hid (∀ j u, [Value.int .u64 v][j]? = some u → (wC.alloc (.cells #[.int .u64 v] 133)).cell? ((⟨wC.heap.size, 0, none⟩ : Addr).add j) = some u) := Lib.hid (cell_one_new _ _ _)
          have hszC : base0 ≤ (wC.alloc (.cells #[.int .u64 v] 133)).heap.size := Nat.le_trans hsz HC1.out.size
          have HBC := Lib.hid (HBr.out.trans HC1.out)
          clear hbC hC0 x0 x1 x2 x3 x4 x5 x6 HW
          go_wp2_with (show wpList _ _ _ ({ dst := _, op := .call { callee := .builtin .append, args := _, argTypes := _ }, type := _, pos := _, after := _, guard := none } :: _) _ _; refine at_append base0 133 (.int .u64 0) 1 8 Tryz.underlying74 info_u64 rfl (by decide) (.slice AO k cO) k (ws.map (Value.int .u64)) (by rfl) HOC.out ⟨wC.heap.size, 0, none⟩ 1 1 [.int .u64 v] (by rfl) rfl HNEW.out (by simp [Value.oneCell']) (by simp only [maxLen]; omega) (by omega) hszC W5 (Nat.le_of_eq hb0) HBC.out rfl ?_; intro v8 w8 o8 g8 b8 at8; have HB8 := Lib.hid b8; have hs8 := Nat.le_trans hszC g8.size; obtain ⟨A8, c8, rfl⟩ := own_sliceI o8; have HO8 := Lib.hid o8; clear o8 g8 b8 at8)
          go_wp2
          go_roundw
          case rel => exact ⟨k + 1, ws ++ [v], A8, c8, by simp, by omega, rfl, HN, Lib.hid (by rw [List.length_append, HWL.out]; rfl), Lib.hid (by rw [List.map_append]; exact HO8.out), HB8, hs8⟩
          case measure => simp [intOf]; omega
      have hlk := look_none ((((HBr.out.alloc (.cells #[.int .i64 op, .int .i64 fn, .int .i64 dst, .int .i64 src, .bool reg, .int .i64 off, .int .u32 imm] 95)).out.block _ (Array.getElem?_eq_some_iff.1 HM5.out).1)).trans HM5.out) h1 h6
      have HGO : Hid (goTo n m base at' k ⟨op, fn, dst, src, reg, off, imm⟩ = (0, true)) := Lib.hid (by
        unfold goTo
        rw [if_neg h1, if_neg h6])
      clear h1 h6
      have HW := Lib.hid (Bel.refl (wr.alloc (.cells #[.int .i64 op, .int .i64 fn, .int .i64 dst, .int .i64 src, .bool reg, .int .i64 off, .int .u32 imm] 95)))
      obtain ⟨v, ev, hv⟩ : ∃ v ev, Hid (wput op fn dst src reg off imm (0) = (v, ev)) := ⟨_, _, Lib.hid rfl⟩
      have HV : Hid (0 ≤ v ∧ v < 18446744073709551616) := Lib.hid (by
        have := wput_rng ⟨op, fn, dst, src, reg, off, imm⟩ (0) HXW.out.imm
        unfold wputD at this
        simp only [hv.out] at this
        exact this)
      have HN : Hid (imgCode n l base at' (k + 1) = some (ws ++ [v])) := Lib.hid (by
        rw [imgCode, HWS.out, HLM.out, HX.out]
        have : goTo n m base at' k ⟨op, fn, dst, src, reg, off, imm⟩ = (0, true) := HGO.out
        simp only [Option.bind_some, this, if_true, wputD, hv.out])
      have x0 := HW.out.cell (cell_fresh wr #[.int .i64 op, .int .i64 fn, .int .i64 dst, .int .i64 src, .bool reg, .int .i64 off, .int .u32 imm] 95 0 _ rfl)
      have x1 := HW.out.cell (cell_fresh wr #[.int .i64 op, .int .i64 fn, .int .i64 dst, .int .i64 src, .bool reg, .int .i64 off, .int .u32 imm] 95 1 _ rfl)
      have x2 := HW.out.cell (cell_fresh wr #[.int .i64 op, .int .i64 fn, .int .i64 dst, .int .i64 src, .bool reg, .int .i64 off, .int .u32 imm] 95 2 _ rfl)
      have x3 := HW.out.cell (cell_fresh wr #[.int .i64 op, .int .i64 fn, .int .i64 dst, .int .i64 src, .bool reg, .int .i64 off, .int .u32 imm] 95 3 _ rfl)
      have x4 := HW.out.cell (cell_fresh wr #[.int .i64 op, .int .i64 fn, .int .i64 dst, .int .i64 src, .bool reg, .int .i64 off, .int .u32 imm] 95 4 _ rfl)
      have x5 := HW.out.cell (cell_fresh wr #[.int .i64 op, .int .i64 fn, .int .i64 dst, .int .i64 src, .bool reg, .int .i64 off, .int .u32 imm] 95 5 _ rfl)
      have x6 := HW.out.cell (cell_fresh wr #[.int .i64 op, .int .i64 fn, .int .i64 dst, .int .i64 src, .bool reg, .int .i64 off, .int .u32 imm] 95 6 _ rfl)
      go_wp2_with fail
      refine (put_at op fn dst src reg off imm (0) v ev _ HXW.out.imm hv).mono ?_
      rintro e wC ⟨rfl, hbC⟩
      have hC0 := ((Bel.refl wr).alloc (.cells #[.int .i64 op, .int .i64 fn, .int .i64 dst, .int .i64 src, .bool reg, .int .i64 off, .int .u32 imm] 95)).trans (HW.out.trans hbC)
      have HC1 := Lib.hid (hC0.alloc (.cells #[.int .u64 v] 133))
      have HOC := Lib.hid (own_belI HOW.out HC1.out)
      have HNEW : Hid (∀ j u, [Value.int .u64 v][j]? = some u → (wC.alloc (.cells #[.int .u64 v] 133)).cell? ((⟨wC.heap.size, 0, none⟩ : Addr).add j) = some u) := Lib.hid (cell_one_new _ _ _)
      have hszC : base0 ≤ (wC.alloc (.cells #[.int .u64 v] 133)).heap.size := Nat.le_trans hsz HC1.out.size
      have HBC := Lib.hid (HBr.out.trans HC1.out)
      clear hbC hC0 x0 x1 x2 x3 x4 x5 x6 HW
      go_wp2_with (show wpList _ _ _ ({ dst := _, op := .call { callee := .builtin .append, args := _, argTypes := _ }, type := _, pos := _, after := _, guard := none } :: _) _ _; refine at_append base0 133 (.int .u64 0) 1 8 Tryz.underlying74 info_u64 rfl (by decide) (.slice AO k cO) k (ws.map (Value.int .u64)) (by rfl) HOC.out ⟨wC.heap.size, 0, none⟩ 1 1 [.int .u64 v] (by rfl) rfl HNEW.out (by simp [Value.oneCell']) (by simp only [maxLen]; omega) (by omega) hszC W5 (Nat.le_of_eq hb0) HBC.out rfl ?_; intro v8 w8 o8 g8 b8 at8; have HB8 := Lib.hid b8; have hs8 := Nat.le_trans hszC g8.size; obtain ⟨A8, c8, rfl⟩ := own_sliceI o8; have HO8 := Lib.hid o8; clear o8 g8 b8 at8)
      go_wp2
      go_roundw
      case rel => exact ⟨k + 1, ws ++ [v], A8, c8, by simp, by omega, rfl, HN, Lib.hid (by rw [List.length_append, HWL.out]; rfl), Lib.hid (by rw [List.map_append]; exact HO8.out), HB8, hs8⟩
      case measure => simp [intOf]; omega
end Go.Proofs.YtebdnobgdimdoaaGreat
set_option linter.unusedVariables false
set_option linter.unusedSimpArgs false
namespace Go.Proofs.YtebdnobgdimdoaaGreat
open Go.RowKit
theorem flat_getPI {α : Type} (f : α → List Value) (k : Nat) (hk : ∀ x, (f x).length = k) : ∀ (zs : List α) (i j : Nat) (hi : i < zs.length), j < k → (zs.flatMap f)[i * k + j]? = (f zs[i])[j]?
  | [], i, j, hi, _ => by simp at hi
  | z :: zs, 0, j, hi, hj => by
    rw [List.flatMap_cons, Nat.zero_mul, Nat.zero_add, List.getElem?_append_left (by rw [hk]; exact hj)]
    rfl
  | z :: zs, i + 1, j, hi, hj => by
    rw [List.flatMap_cons, List.getElem?_append_right (by rw [hk, Nat.succ_mul]; omega), hk]
    have := flat_getPI f k hk zs i j (by simpa using hi) hj
    rw [show (i + 1) * k + j - k = i * k + j by rw [Nat.succ_mul]; omega, this]
    rfl
theorem flat_lenPI {α : Type} (f : α → List Value) (k : Nat) (hk : ∀ x, (f x).length = k) : ∀ (zs : List α), (zs.flatMap f).length = zs.length * k
  | [] => by simp
  | z :: zs => by
    rw [List.flatMap_cons, List.length_append, hk, flat_lenPI f k hk zs, List.length_cons, Nat.succ_mul, Nat.add_comm]
theorem own_openPI {w : World} {b : Nat} {e : TypeId} {s : Nat} {v : Value} {n : Nat} {xs : List Value} (h : w.ownsRow b e s v n xs) :
    (v = .slice none 0 0 ∧ n = 0) ∨ ∃ g c, v = .slice (some ⟨g, 0, none⟩) n c ∧ b ≤ g ∧ g < w.heap.size ∧ n ≤ c ∧ c ≤ maxLen ∧ (∀ i, w.frozen? ⟨g, i, none⟩ = false) ∧ ∀ j u, xs[j]? = some u → w.cell? ⟨g, j, none⟩ = some u := by
  obtain ⟨h1, h2⟩ := h
  rcases h2 with ⟨rfl, h2⟩ | ⟨g, cap, cur, rfl, hb, hh, hc, hm, hs, ht⟩
  · exact .inl ⟨rfl, h2⟩
  · refine .inr ⟨g, cap, rfl, hb, (Array.getElem?_eq_some_iff.1 hh).1, hc, hm, fun i => by simp [World.frozen?, hh], fun j u hj => ?_⟩
    rw [← ht, List.getElem?_take] at hj
    split at hj
    · rw [Array.getElem?_toList] at hj
      simp [World.cell?, hh, hj]
    · cases hj
theorem sl_of_rowsI {S T : Type} {R : World → List Value → T → Prop} {sz : Nat} (f : S → List Value) (hf : ∀ z, (f z).length = sz) (gg : S → T) {W : World} {base : Nat} {e : TypeId} {v : Value} {zs : List S} (h : W.ownsRow base e sz v zs.length (zs.flatMap f)) (hR : ∀ z ∈ zs, R W (f z) (gg z)) :
    ∃ A c, v = .slice A zs.length c ∧ Sl R sz W A c (zs.map gg) := by
  rcases own_openPI h with ⟨rfl, h0⟩ | ⟨g, c, rfl, hg1, hg2, hc1, hc2, hfz, hcl⟩
  · have e : zs = [] := List.eq_nil_of_length_eq_zero h0
    subst e
    exact ⟨none, 0, rfl, Sl.nil _ _ _⟩
  · refine ⟨some ⟨g, 0, none⟩, c, rfl, by rw [List.length_map]; exact hc1, hc2, fun i hi => ?_⟩
    rw [List.length_map] at hi
    refine ⟨g, 0, f zs[i], rfl, hf _, by rw [List.getElem_map]; exact hR _ (List.getElem_mem hi), fun j u hu => ?_⟩
    have hj : j < sz := by rw [← hf zs[i]]; exact (List.getElem?_eq_some_iff.1 hu).1
    rw [Nat.zero_add]
    exact hcl _ _ (by rw [flat_getPI f sz hf zs i j hi hj]; exact hu)
theorem own_grownI {X Y : World} {b1 b2 s1 s2 n1 n2 : Nat} {t1 t2 : TypeId} {v1 v2 : Value} {xs1 xs2 : List Value} (h1 : X.ownsRow b1 t1 s1 v1 n1 xs1) (h2 : X.ownsRow b2 t2 s2 v2 n2 xs2) (ht : t1 ≠ t2) (hg : X.grownBy Y v2.ownBlock) : Y.ownsRow b1 t1 s1 v1 n1 xs1 :=
  ⟨h1.1, h1.2.imp id fun ⟨g, cap, cur, e1, e2, e3, r⟩ => ⟨g, cap, cur, e1, e2, (hg.block g (Array.getElem?_eq_some_iff.1 e3).1 (fun e => by
    rcases h2.2 with ⟨rfl, _⟩ | ⟨g', cap', cur', rfl, _, e4, _⟩
    · cases e
    · have : g = g' := by simpa [Value.ownBlock] using e
      subst this
      rw [e3] at e4
      simp only [Option.some.injEq, Obj.cells.injEq] at e4
      exact ht e4.2.1)).trans e3, r⟩⟩
theorem row_lowI {W W' : World} {base : Nat} {t : TypeId} {s : Nat} {v : Value} {n : Nat} {xs : List Value} (h : W.ownsRow base t s v n xs) (w0 : World) (hb : w0.heap.size ≤ base) (HB : Bel w0 W) (hg : W.grownBy W' v.ownBlock) : Bel w0 W' :=
  HB.grown hg (fun k hk => Nat.le_trans hb (h.lt k hk).1)
theorem own_formI {w : World} {base : Nat} {e : TypeId} {size : Nat} {v : Value} {n : Nat} {xs : List Value} (h : w.ownsRow base e size v (n + 1) xs) : ∃ g c, v = .slice (some ⟨g, 0, none⟩) (n + 1) c := by
  rcases h.2 with ⟨_, h0⟩ | ⟨g, cap, cur, e, _⟩
  · omega
  · exact ⟨g, cap, e⟩
/-- How many instructions the first functions have. -/
def sz (L : List FnD) : Nat → Nat
  | 0 => 0
  | k + 1 => sz L k + ((L.map FnD.code)[k]!).length
def imgSize (L : List FnD) : Nat := if progMay L = true then L.length + sz L L.length else 0
theorem code_nth {L : List FnD} {k : Nat} (hk : k < L.length) : (L.map FnD.code)[k]! = (L[k]).code := by
  rw [getElem!_pos _ k (by rw [List.length_map]; exact hk), List.getElem_map]
theorem sz_le {L : List FnD} (h : ∀ f ∈ L, f.code.length ≤ 64) : ∀ k, k ≤ L.length → sz L k ≤ 64 * k
  | 0, _ => Nat.le_refl _
  | k + 1, hk => by
    have := sz_le h k (by omega)
    have h2 := h _ (List.getElem_mem (show k < L.length by omega))
    rw [sz, code_nth (by omega)]
    omega
structure Fine (L : List FnD) : Prop where
  n0 : 0 < L.length
  n8 : L.length ≤ 8
  c0 : ∀ f ∈ L, 0 < f.code.length
  c64 : ∀ f ∈ L, f.code.length ≤ 64
  ok : ∀ j (hj : j < L.length) k, k < (L[j]).code.length → ((L[j]).code[k]!).okB = true
theorem fine_of {L : List FnD} (h : progMay L = true) : Fine L := by
  unfold progMay at h
  simp only [Bool.and_eq_true, decide_eq_true_iff, List.all_eq_true] at h
  obtain ⟨⟨⟨h0, h1⟩, h2⟩, h3⟩ := h
  have hf : ∀ f ∈ L, 0 < f.code.length ∧ f.code.length ≤ 64 ∧ ∀ k, k < f.code.length → (f.code[k]!).okB = true := fun f hf => by
    have := h3 f hf
    unfold fnFine at this
    simp only [Bool.and_eq_true, decide_eq_true_iff] at this
    exact crsMay_facts this.2
  exact ⟨h0, h1, fun f hm => (hf f hm).1, fun f hm => (hf f hm).2.1, fun j hj k hk => (hf _ (List.getElem_mem hj)).2.2 k hk⟩
set_option maxHeartbeats 4000000 in
set_option maxRecDepth 100000 in
theorem size_any (A : Option Addr) (c n : Nat) (L : List FnD) (w : World) (hL : Sl FnR 2 w A c L) (hn : Hid (L.length = n)) (r : Nat) (hr : Hid (imgSize L = r)) :
    Calls Tryz.prog 25 #[.agg #[.slice A n c]] w fun e w' => e = .returned (.int .i64 r) ∧ Bel w w' := by
  have HBa := Lib.hid ((Bel.refl w).alloc (.cells #[.slice A n c] 24))
  have HS := Lib.hid (hL.mono FnR.mono HBa.out)
  have K0 := Lib.hid (One.new w 24 (.slice A n c))
  obtain ⟨mb, hmb⟩ : ∃ mb, Hid (progMay L = mb) := ⟨_, Lib.hid rfl⟩
  clear hL
  go_enter Tryz.func25, Tryz.ntmps25
  go_wp2_with fail
  generalize w.alloc (.cells #[.slice A n c] 24) = W0 at *
  generalize w.heap.size = g at *
  refine (progmay_any A c n L mb _ HS.out hn hmb).mono ?_
  rintro e W1 ⟨rfl, hb⟩
  have HB1 := Lib.hid (HBa.out.trans hb)
  have HS1 := Lib.hid (HS.out.mono FnR.mono hb)
  have q0 := (K0.out.bel hb).cell1 rfl
  clear hb
  cases mb
  · have hr0 : r = 0 := by
      rw [← hr.out]
      unfold imgSize
      rw [if_neg (by rw [hmb.out]; simp)]
    subst hr0
    go_wp2_with fail
    go_ret
    exact ⟨rfl, HB1.out⟩
  have HFI := Lib.hid (fine_of hmb.out)
  have hn8 : n ≤ 8 := by rw [← hn.out]; exact HFI.out.n8
  have hn0 : 0 < n := by rw [← hn.out]; exact HFI.out.n0
  have HSZ := Lib.hid (sz_le HFI.out.c64)
  have HR : Hid (n + sz L n = r) := Lib.hid (by
    rw [← hr.out]
    unfold imgSize
    rw [if_pos hmb.out, hn.out])
  obtain ⟨b, o, rfl⟩ := HS1.out.addr (by rw [hn.out]; exact hn0)
  go_wp2_with fail
  go_loopw [3, 15] (fun nv kv wr => ∃ k s : Nat, kv = .int .i64 k ∧ k ≤ n ∧ nv = .int .i64 s ∧ Hid (n + sz L k = s) ∧ Hid (Bel W1 wr)) (fun _ kv _ => n - (intOf kv).toNat)
  case atStart => exact ⟨0, n, rfl, Nat.zero_le _, rfl, Lib.hid rfl, Lib.hid (Bel.refl _)⟩
  case round =>
    obtain ⟨k, s, rfl, hkn, rfl, hs, hbr⟩ := hrel
    by_cases hke : k = n
    · subst hke
      have hrs : s = r := by rw [← hs.out, HR.out]
      subst hrs
      go_wp2_with fail
      go_ret
      exact ⟨rfl, HB1.out.trans hbr.out⟩
    · have hk1 : k < n := by omega
      have hk2 : (k : Int) < n := by omega
      have k0 : 0 ≤ (k : Int) := by omega
      have ek : IntKind.i64.wrap ((k : Int) + 1) = (k : Int) + 1 := wrap_i64 (by omega) (by omega)
      have hkL : k < L.length := by rw [hn.out]; exact hk1
      obtain ⟨Ak, ck, d0, d1, hsk⟩ := fn_cells (HS1.out.mono FnR.mono hbr.out) k hkL
      obtain ⟨m, hm⟩ : ∃ m, Hid ((L[k]).code.length = m) := ⟨_, Lib.hid rfl⟩
      rw [hm.out] at d1
      have hm64 : m ≤ 64 := by rw [← hm.out]; exact HFI.out.c64 _ (List.getElem_mem hkL)
      have hs2 : s ≤ 1000 := by
        have := HSZ.out k (by rw [hn.out]; exact hkn)
        have := hs.out
        omega
      have es : IntKind.i64.wrap ((s : Int) + (m : Int)) = (s : Int) + m := wrap_i64 (by omega) (by omega)
      have HN : Hid (n + sz L (k + 1) = s + m) := Lib.hid (by
        rw [sz, code_nth hkL, hm.out, ← hs.out]
        omega)
      clear hsk hke
      go_wp2
      go_roundw
      case rel => exact ⟨k + 1, s + m, by simp, by omega, by simp, HN, Lib.hid (by repeat (first | exact hbr.out | refine Bel.alloc ?_ _))⟩
      case measure => simp [intOf]; omega
set_option maxHeartbeats 1000000 in
theorem door_any (t v : Int) (ev : Int) (w : World) (hv : Hid (wput 1 0 0 0 false 0 0 t = (v, ev))) : Calls Tryz.prog 61 #[.int .i64 t] w fun e w' => e = .returned (.int .u64 v) ∧ Bel w w' := by
  go_enter Tryz.func61, Tryz.ntmps61
  go_wp2_with fail
  refine (put_at 1 0 0 0 false 0 0 t v ev _ (u32_lit 0 (by decide)) hv).mono ?_
  rintro e w1 ⟨rfl, hb⟩
  have HB := Lib.hid hb
  clear hb
  go_wp2_with fail
  go_ret
  exact ⟨rfl, HB.out⟩
/-- A slice of words, as an element. -/
def WsR (w : World) (cs : List Value) (ws : List Int) : Prop := ∃ A c, cs = [.slice A ws.length c] ∧ Sl (IntR .u64) 1 w A c ws
theorem WsR.mono : Mono WsR := fun w w' cs x hb ⟨A, c, e, hs⟩ => ⟨A, c, e, hs.mono (IntR.mono _) hb⟩
theorem ws_cells {w : World} {b off c : Nat} {l : List Int} (h : Sl (IntR .u64) 1 w (some ⟨b, off, none⟩) c l) : ∀ j u, (l.map (Value.int .u64))[j]? = some u → w.cell? ((⟨b, off, none⟩ : Addr).add j) = some u := by
  intro j u hu
  have hj : j < l.length := by
    have := (List.getElem?_eq_some_iff.1 hu).1
    simpa using this
  obtain ⟨b', off', hA, hcl⟩ := h.int_cell (by omega)
  simp at hA; obtain ⟨rfl, rfl⟩ := hA
  rw [List.getElem?_map, List.getElem?_eq_getElem hj] at hu
  have := (hcl j hj).1
  rw [List.getD_eq_getElem?_getD, List.getElem?_eq_getElem hj] at this
  rw [Go.WideShapes.add_plain, this]
  exact hu
theorem u64s_oneI (l : List Int) : ∀ u ∈ l.map (Value.int .u64), u.oneCell' = true := by
  intro u hu
  obtain ⟨x, _, rfl⟩ := List.mem_map.1 hu
  rfl
theorem flat_take (ps : List (List Int)) {k : Nat} (hk : k < ps.length) : (ps.take (k + 1)).flatten = (ps.take k).flatten ++ ps[k] := by
  rw [List.take_succ_eq_append_getElem hk, List.flatten_append]
  simp
theorem flat_take_le (ps : List (List Int)) (k : Nat) : ((ps.take k).flatten).length ≤ ps.flatten.length := by
  have h : ps.flatten = (ps.take k).flatten ++ (ps.drop k).flatten := by rw [← List.flatten_append, List.take_append_drop]
  rw [h, List.length_append]
  omega
set_option maxHeartbeats 4000000 in
set_option maxRecDepth 100000 in
theorem imjoin_any (P : Option Addr) (c n : Nat) (ps : List (List Int)) (w : World) (hP : Sl WsR 1 w P c ps) (hn : Hid (ps.length = n)) (hne : Hid (∀ p ∈ ps, 0 < p.length)) (hT : Hid (ps.flatten.length ≤ 5000)) (hw : Hid (∀ p ∈ ps, ∀ x ∈ p, 0 ≤ x ∧ x < 18446744073709551616)) (m : Nat) (hm : Hid (ps.flatten.length = m)) :
    Calls Tryz.prog 62 #[.slice P n c] w fun e w' => ∃ A' c', e = .returned (.slice A' m c') ∧ Sl (IntR .u64) 1 w' A' c' ps.flatten ∧ Bel w w' := by
  have HP := Lib.hid hP
  have hnn : n ≤ 9223372036854775807 := by rw [← hn.out]; have := hP.le; have := hP.big; simp only [maxLen] at this; omega
  have HST : Hid (w.ownsRow w.heap.size 133 1 (.slice none 0 0) 0 (([] : List Int).map (Value.int .u64))) := Lib.hid ⟨by simp, .inl ⟨rfl, rfl⟩⟩
  clear hP
  go_enter Tryz.func62, Tryz.ntmps62
  go_wp2_with fail
  obtain ⟨base0, hb0⟩ : ∃ base0, w.heap.size = base0 := ⟨_, rfl⟩
  rw [hb0] at HST
  go_loopw [3, 8] (fun ov kv wr => ∃ (k q : Nat) (AO : Option Addr) (cO : Nat), kv = .int .i64 k ∧ k ≤ n ∧ ov = .slice AO q cO ∧ Hid (((ps.take k).flatten).length = q) ∧ Hid (wr.ownsRow base0 133 1 (.slice AO q cO) q (((ps.take k).flatten).map (Value.int .u64))) ∧ Hid (Bel w wr) ∧ base0 ≤ wr.heap.size) (fun _ kv _ => n - (intOf kv).toNat)
  case atStart => exact ⟨0, 0, none, 0, rfl, Nat.zero_le _, rfl, Lib.hid rfl, HST, Lib.hid (Bel.refl _), Nat.le_of_eq hb0.symm⟩
  case round =>
    clear HST
    obtain ⟨k, q, AO, cO, rfl, hkn, rfl, hq, HOW, HBr, hsz⟩ := hrel
    by_cases hke : k = n
    · subst hke
      have hall : (ps.take k) = ps := List.take_of_length_le (by rw [hn.out]; exact Nat.le_refl _)
      have hqm : q = m := by rw [← hq.out, hall, hm.out]
      subst hqm
      have hown := HOW.out
      rw [hall] at hown
      obtain ⟨AE, cE, e1, hs⟩ := sl_ownI (l := ps.flatten) (by rw [hm.out]; exact hown) (fun x hx => by
        obtain ⟨p, hp, hxp⟩ := List.mem_flatten.1 hx
        exact wf_u64R (hw.out p hp x hxp))
      rw [hm.out] at e1
      simp only [Value.slice.injEq, true_and] at e1
      obtain ⟨rfl, rfl⟩ := e1
      have HSE := Lib.hid hs
      clear hs hown hall
      go_wp2_with fail
      go_ret
      exact ⟨AO, cO, rfl, HSE.out, HBr.out⟩
    · have hk1 : k < n := by omega
      have hk2 : (k : Int) < n := by omega
      have k0 : 0 ≤ (k : Int) := by omega
      have ek : IntKind.i64.wrap ((k : Int) + 1) = (k : Int) + 1 := wrap_i64 (by omega) (by omega)
      have hkL : k < ps.length := by rw [hn.out]; exact hk1
      have hmem : ps[k] ∈ ps := List.getElem_mem hkL
      obtain ⟨b, off, d1, Ap, cp, mp, hb1, hmp, HSP⟩ : ∃ b off, ∃ _ : P = some ⟨b, off, none⟩, ∃ Ap cp mp, wr.cell? ⟨b, off + k, none⟩ = some (.slice Ap mp cp) ∧ Hid ((ps[k]).length = mp) ∧ Hid (Sl (IntR .u64) 1 wr Ap cp ps[k]) := by
        obtain ⟨b, off, cs, e1, e2, ⟨Ap, cp, e3, e4⟩, e5⟩ := (HP.out.mono WsR.mono HBr.out).get k hkL
        have := e5 0 _ (by rw [e3]; rfl)
        rw [Nat.mul_one, Nat.add_zero] at this
        exact ⟨b, off, e1, Ap, cp, _, this, Lib.hid rfl, Lib.hid e4⟩
      subst d1
      have hmp0 : 0 < mp := by rw [← hmp.out]; exact hne.out _ hmem
      obtain ⟨bp, op, hAp⟩ := HSP.out.addr (by rw [hmp.out]; exact hmp0)
      subst hAp
      have hq5 : q + mp ≤ 5000 := by
        have h1 := flat_take_le ps (k + 1)
        rw [flat_take ps hkL, List.length_append, hq.out, hmp.out] at h1
        have := hT.out
        omega
      have HC := Lib.hid (ws_cells HSP.out)
      have HCL : Hid (((ps[k]).map (Value.int .u64)).length = mp * 1) := Lib.hid (by rw [List.length_map, hmp.out, Nat.mul_one])
      have HTK := Lib.hid (flat_take ps hkL)
      clear hke
      go_wp2_with (show wpList _ _ _ ({ dst := _, op := .call { callee := .builtin .append, args := _, argTypes := _ }, type := _, pos := _, after := _, guard := none } :: _) _ _; refine at_append base0 133 (.int .u64 0) 1 8 Tryz.underlying74 info_u64 rfl (by decide) (.slice AO q cO) q (((ps.take k).flatten).map (Value.int .u64)) (by rfl) HOW.out ⟨bp, op, none⟩ mp cp ((ps[k]).map (Value.int .u64)) (by rfl) HCL.out HC.out (u64s_oneI _) (by simp only [maxLen]; omega) (by omega) hsz w (Nat.le_of_eq hb0) HBr.out rfl ?_; intro v8 w8 o8 g8 b8 at8; have HB8 := Lib.hid b8; have hs8 := Nat.le_trans hsz g8.size; obtain ⟨A8, c8, rfl⟩ := own_sliceI o8; have HO8 := Lib.hid o8; clear o8 g8 b8 at8)
      go_wp2
      go_roundw
      case rel => exact ⟨k + 1, q + mp, A8, c8, by simp, by omega, rfl, Lib.hid (by rw [HTK.out, List.length_append, hq.out, hmp.out]), Lib.hid (by rw [HTK.out, List.map_append]; exact HO8.out), HB8, hs8⟩
      case measure => simp [intOf]; omega
end Go.Proofs.YtebdnobgdimdoaaGreat
