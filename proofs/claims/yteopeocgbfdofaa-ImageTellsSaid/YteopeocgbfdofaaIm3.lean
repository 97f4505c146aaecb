/- image.code by its contract. -/
import Derived.Test.YteopeocgbfdofaaIm2
set_option linter.unusedVariables false
set_option linter.unusedSimpArgs false
namespace Go.Proofs.Yteopeocgbfdofaa
open Go.RowKit

theorem info_u64 : (Try.prog.info? 37).map (fun i => (i.zero, i.size, i.bytes)) = some (some (.int .u64 0), 1, 8) := by kernel_rfl
theorem own_sliceI {W : World} {base : Nat} {e : TypeId} {s : Nat} {v : Value} {n : Nat} {xs : List Value} (h : W.ownsRow base e s v n xs) : ∃ A c, v = .slice A n c := by
  rcases h.2 with ⟨rfl, rfl⟩ | ⟨g, cap, cur, rfl, _⟩
  · exact ⟨none, 0, rfl⟩
  · exact ⟨_, cap, rfl⟩
theorem own_belI {w w' : World} {b : Nat} {e : TypeId} {s : Nat} {v : Value} {n : Nat} {xs : List Value} (h : w.ownsRow b e s v n xs) (hb : Bel w w') : w'.ownsRow b e s v n xs :=
  ⟨h.1, h.2.imp id fun ⟨g, cap, cur, h1, h2, h3, r⟩ => ⟨g, cap, cur, h1, h2, (hb.out.block g (Array.getElem?_eq_some_iff.1 h3).1).trans h3, r⟩⟩
theorem sl_ownI {W : World} {base : Nat} {e : TypeId} {v : Value} {l : List Int} (h : W.ownsRow base e 1 v l.length (l.map (Value.int .u64))) (hw : ∀ x ∈ l, (Lit.int .u64 x).wf = true) : ∃ A c, v = .slice A l.length c ∧ Sl (IntR .u64) 1 W A c l := by
  rcases h.2 with ⟨rfl, h0⟩ | ⟨g, cap, cur, rfl, hb, hh, hc, hm, hs, ht⟩
  · have : l = [] := List.eq_nil_of_length_eq_zero h0
    subst this
    exact ⟨none, 0, rfl, Sl.nil _ _ _⟩
  · refine ⟨_, cap, rfl, hc, hm, fun i hi => ⟨g, 0, [.int .u64 l[i]], rfl, rfl, ⟨rfl, hw _ (List.getElem_mem hi)⟩, fun j v hv => ?_⟩⟩
    obtain rfl : j = 0 := by
      have := (List.getElem?_eq_some_iff.1 hv).1
      simpa using this
    simp only [List.getElem?_cons_zero, Option.some.injEq] at hv
    subst hv
    have e : (l.map (Value.int .u64))[i]? = some (.int .u64 l[i]) := by rw [List.getElem?_map, List.getElem?_eq_getElem hi]; rfl
    rw [← ht, List.getElem?_take, if_pos (by omega), Array.getElem?_toList] at e
    simp [World.cell?, hh, e]
theorem off_rng {i : InstD} (h : i.okB = true) : 0 ≤ i.off ∧ i.off ≤ 65535 := by
  obtain ⟨_, _, _, _, ⟨e1, e2⟩, _⟩ := of_decide_eq_true h
  exact ⟨e1, by split at e2 <;> omega⟩
theorem wrap_u64N' {x : Int} (h0 : 0 ≤ x) (h1 : x < 18446744073709551616) : IntKind.u64.wrap x = x := wrap_u64 h0 h1

theorem Blk0.cell1 {W : World} {B : Nat} {t : TypeId} {v : Value} (h : W.heap[B]? = some (.cells #[v] t (0, 0))) : W.cell? ⟨B, 0, none⟩ = some v := by simp [World.cell?, h]
/-- A block of one cell. -/
structure One (W : World) (B : Nat) (t : TypeId) (v : Value) : Prop where mk :: (out : W.heap[B]? = some (.cells #[v] t (0, 0)))
theorem One.bel {W W' : World} {B : Nat} {t : TypeId} {v : Value} (h : One W B t v) (hb : Bel W W') : One W' B t v := ⟨(hb.out.block B (Array.getElem?_eq_some_iff.1 h.out).1).trans h.out⟩
theorem One.alloc {W : World} {B : Nat} {t : TypeId} {v : Value} (h : One W B t v) (o : Obj) : One (W.alloc o) B t v := h.bel ((Bel.refl W).alloc o)
theorem One.new (W : World) (t : TypeId) (v : Value) : One (W.alloc (.cells #[v] t)) W.heap.size t v := ⟨(Go.MapKept.heap_alloc W _).1⟩
theorem One.cell1 {W : World} {B : Nat} {t : TypeId} {v u : Value} (h : One W B t v) (e : v = u) : W.cell? ⟨B, 0, none⟩ = some u := by rw [← e]; exact Blk0.cell1 h.out
set_option maxHeartbeats 8000000 in
set_option maxRecDepth 100000 in
theorem code_any (A : Option Addr) (c n : Nat) (L : List FnD) (j : Nat) (base at' : Int) (w : World) (hL : Sl FnR 2 w A c L) (hn : Hid (L.length = n)) (hn8 : n ≤ 8) (hjL : j < L.length) (l : List InstD) (hl : Hid ((L[j]).code = l)) (hok : Hid (∀ k, k < l.length → (l[k]!).okB = true)) (m : Nat) (HLM : Hid (l.length = m)) (hm64 : m ≤ 64) (hbs : 0 ≤ base ∧ base ≤ 2000) (ha : 0 ≤ at' ∧ at' ≤ 4000) (r : Option (List Int)) (hr : Hid (imgCode n l base at' l.length = r)) :
    Calls Try.prog 26 #[.agg #[.slice A n c], .int .i64 j, .int .i64 base, .int .i64 at'] w fun e w' => ((r = none ∧ e = .returned (.tuple #[.slice none 0 0, .int .i64 8])) ∨ ∃ ws A' c', r = some ws ∧ ws.length = m ∧ e = .returned (.tuple #[.slice A' m c', .int .i64 0]) ∧ w'.ownsRow w.heap.size 37 1 (.slice A' m c') m (ws.map (Value.int .u64))) ∧ Bel w w' := by
  have hjn : j < n := by rw [← hn.out]; exact hjL
  obtain ⟨b, o, rfl⟩ := hL.addr (by omega)
  obtain ⟨Al, cl, -, d1, hsl⟩ := fn_cells hL j hjL
  rw [hl.out] at d1 hsl
  rw [HLM.out] at d1
  have HSL := Lib.hid hsl
  have j2 : (j : Int) < n := by omega
  have j0 : 0 ≤ (j : Int) := by omega
  have b0 := World.block_lt_of_cell? _ _ d1
  simp only at b0
  have b1 : b < w.heap.size + 1 := by omega
  have b2 : b < w.heap.size + 1 + 1 := by omega
  have HIM : Hid (∀ i ∈ l, U32 i.imm) := Lib.hid (fun i hi => by
    obtain ⟨k, hk, rfl⟩ := List.mem_iff_getElem.1 hi
    obtain ⟨_, _, _, _, _, ⟨_, hw⟩, _⟩ := hsl.get k hk
    exact hw.imm)
  have hsz4 : ((((w.alloc (.cells #[.slice (some ⟨b, o, none⟩) n c] 24)).alloc (.cells #[.int .i64 base] 3)).alloc (.cells #[.int .i64 at'] 3)).alloc (.cells #[.slice Al m cl] 38)).heap.size = w.heap.size + 1 + 1 + 1 + 1 := by simp
  obtain ⟨W4, hW4⟩ : ∃ W4, (((w.alloc (.cells #[.slice (some ⟨b, o, none⟩) n c] 24)).alloc (.cells #[.int .i64 base] 3)).alloc (.cells #[.int .i64 at'] 3)).alloc (.cells #[.slice Al m cl] 38) = W4 := ⟨_, rfl⟩
  rw [hW4] at hsz4
  have HW4 := Lib.hid hW4
  have HB4 : Hid (Bel w W4) := Lib.hid (by
    rw [← hW4]
    exact ((((Bel.refl w).alloc _).alloc _).alloc _).alloc _)
  have K4 : Hid (One W4 w.heap.size 24 (.slice (some ⟨b, o, none⟩) n c) ∧ One W4 (w.heap.size + 1) 3 (.int .i64 base) ∧ One W4 (w.heap.size + 1 + 1) 3 (.int .i64 at') ∧ One W4 (w.heap.size + 1 + 1 + 1) 38 (.slice Al m cl)) := Lib.hid (by
    rw [← hW4]
    have k1 := One.new (w.alloc (.cells #[.slice (some ⟨b, o, none⟩) n c] 24)) 3 (.int .i64 base)
    have k2 := One.new ((w.alloc (.cells #[.slice (some ⟨b, o, none⟩) n c] 24)).alloc (.cells #[.int .i64 base] 3)) 3 (.int .i64 at')
    have k3 := One.new (((w.alloc (.cells #[.slice (some ⟨b, o, none⟩) n c] 24)).alloc (.cells #[.int .i64 base] 3)).alloc (.cells #[.int .i64 at'] 3)) 38 (.slice Al m cl)
    rw [World.size_alloc] at k1
    rw [World.size_alloc, World.size_alloc] at k2
    rw [World.size_alloc, World.size_alloc, World.size_alloc] at k3
    exact ⟨(((One.new w _ _).alloc _).alloc _).alloc _, (k1.alloc _).alloc _, k2.alloc _, k3⟩)
  have hi1 : ∀ f : Value, (Instr.mapUpdate 81 (.map (some (w.heap.size + 1 + 1 + 1 + 1))) (.int .i64 1) f).run Try.prog (W4.alloc (.map #[] 0)) = .ok () (W4.alloc (.map (ents1 f) 1)) := fun f => by
    have := insert_first W4 f
    rwa [hsz4] at this
  have hi2 : ∀ f g : Value, (Instr.mapUpdate 81 (.map (some (w.heap.size + 1 + 1 + 1 + 1))) (.int .i64 6) g).run Try.prog (W4.alloc (.map (ents1 f) 1)) = .ok () (W4.alloc (.map (ents2 f g) 2)) := fun f g => by
    have := insert_second W4 f g
    rwa [hsz4] at this
  have HM4 : ∀ f g : Value, (W4.alloc (.map (ents2 f g) 2)).heap[w.heap.size + 1 + 1 + 1 + 1]? = some (.map (ents2 f g) 2) := fun f g => by
    have := (Go.MapKept.heap_alloc W4 (.map (ents2 f g) 2)).1
    rwa [hsz4] at this
  have HM4 := Lib.hid HM4
  have HSZ4 := Lib.hid hsz4
  clear hsz4 hW4
  rw [← HW4.out] at hi1 hi2
  have hmm := @run_makeMap Try.prog
  have hmf : ∀ (fn : Fn) (first cap : Array Value) (w : World), (Instr.makeFunc fn first cap).run Try.prog w = .ok (.func fn first cap) w := fun _ _ _ _ => rfl
  go_enter Try.func26, Try.ntmps26
  go_wp2_with fail
  have HB5 := Lib.hid (HB4.out.alloc (.map (ents2 (.func (.func 47) #[] #[.pointer (some ⟨w.heap.size + 1 + 1, 0, none⟩), .pointer (some ⟨w.heap.size + 1 + 1 + 1, 0, none⟩)]) (.func (.func 48) #[] #[.pointer (some ⟨w.heap.size + 1, 0, none⟩), .pointer (some ⟨w.heap.size, 0, none⟩)])) 2))
  have K5 := Lib.hid (And.intro (K4.out.1.alloc (.map (ents2 (.func (.func 47) #[] #[.pointer (some ⟨w.heap.size + 1 + 1, 0, none⟩), .pointer (some ⟨w.heap.size + 1 + 1 + 1, 0, none⟩)]) (.func (.func 48) #[] #[.pointer (some ⟨w.heap.size + 1, 0, none⟩), .pointer (some ⟨w.heap.size, 0, none⟩)])) 2)) (And.intro (K4.out.2.1.alloc (.map (ents2 (.func (.func 47) #[] #[.pointer (some ⟨w.heap.size + 1 + 1, 0, none⟩), .pointer (some ⟨w.heap.size + 1 + 1 + 1, 0, none⟩)]) (.func (.func 48) #[] #[.pointer (some ⟨w.heap.size + 1, 0, none⟩), .pointer (some ⟨w.heap.size, 0, none⟩)])) 2)) (And.intro (K4.out.2.2.1.alloc (.map (ents2 (.func (.func 47) #[] #[.pointer (some ⟨w.heap.size + 1 + 1, 0, none⟩), .pointer (some ⟨w.heap.size + 1 + 1 + 1, 0, none⟩)]) (.func (.func 48) #[] #[.pointer (some ⟨w.heap.size + 1, 0, none⟩), .pointer (some ⟨w.heap.size, 0, none⟩)])) 2)) (K4.out.2.2.2.alloc (.map (ents2 (.func (.func 47) #[] #[.pointer (some ⟨w.heap.size + 1 + 1, 0, none⟩), .pointer (some ⟨w.heap.size + 1 + 1 + 1, 0, none⟩)]) (.func (.func 48) #[] #[.pointer (some ⟨w.heap.size + 1, 0, none⟩), .pointer (some ⟨w.heap.size, 0, none⟩)])) 2)))))
  have HM5 := Lib.hid (HM4.out (.func (.func 47) #[] #[.pointer (some ⟨w.heap.size + 1 + 1, 0, none⟩), .pointer (some ⟨w.heap.size + 1 + 1 + 1, 0, none⟩)]) (.func (.func 48) #[] #[.pointer (some ⟨w.heap.size + 1, 0, none⟩), .pointer (some ⟨w.heap.size, 0, none⟩)]))
  simp only [HW4.out]
  clear hi1 hi2 HM4 HW4 HSZ4 K4 HB4 b0 b1 b2 d1
  generalize W4.alloc (.map (ents2 (.func (.func 47) #[] #[.pointer (some ⟨w.heap.size + 1 + 1, 0, none⟩), .pointer (some ⟨w.heap.size + 1 + 1 + 1, 0, none⟩)]) (.func (.func 48) #[] #[.pointer (some ⟨w.heap.size + 1, 0, none⟩), .pointer (some ⟨w.heap.size, 0, none⟩)])) 2) = W5 at *
  obtain ⟨g, hgw⟩ : ∃ g, w.heap.size = g := ⟨_, rfl⟩
  rw [hgw] at K5 HM5
  simp only [hgw]
  obtain ⟨KP, KB, KA, KL⟩ := K5.out
  have KP := Lib.hid KP
  have KB := Lib.hid KB
  have KA := Lib.hid KA
  have KL := Lib.hid KL
  clear K5
  obtain ⟨base0, hb0⟩ : ∃ base0, W5.heap.size = base0 := ⟨_, rfl⟩
  have hg0 : g ≤ base0 := by rw [← hb0, ← hgw]; exact HB5.out.size
  have HST : Hid (W5.ownsRow base0 37 1 (.slice none 0 0) 0 (([] : List Int).map (Value.int .u64))) := Lib.hid ⟨by simp, .inl ⟨rfl, rfl⟩⟩
  go_loopw [10, 33] (fun ov kv wr => ∃ (k : Nat) (ws : List Int) (AO : Option Addr) (cO : Nat), kv = .int .i64 k ∧ k ≤ m ∧ ov = .slice AO k cO ∧ Hid (imgCode n l base at' k = some ws) ∧ Hid (ws.length = k) ∧ Hid (wr.ownsRow base0 37 1 (.slice AO k cO) k (ws.map (Value.int .u64))) ∧ Hid (Bel W5 wr) ∧ base0 ≤ wr.heap.size) (fun _ kv _ => m - (intOf kv).toNat)
  case atStart => exact ⟨0, [], none, 0, rfl, Nat.zero_le _, rfl, Lib.hid rfl, Lib.hid rfl, HST, Lib.hid (Bel.refl _), Nat.le_of_eq hb0.symm⟩
  case round =>
    clear HST
    obtain ⟨k, ws, AO, cO, rfl, hkm, rfl, HWS, HWL, HOW, HBr, hsz⟩ := hrel
    by_cases hke : k = m
    · subst hke
      have HRS : Hid (r = some ws) := Lib.hid (by rw [← hr.out, HLM.out, HWS.out])
      have HBE := Lib.hid (HB5.out.trans HBr.out)
      have HOE := Lib.hid (own_mono HOW.out (show w.heap.size ≤ base0 by omega))
      go_wp2_with fail
      go_ret2
      exact ⟨.inr ⟨ws, AO, cO, HRS.out, HWL.out, rfl, HOE.out⟩, HBE.out⟩
    · have hk1 : k < m := by omega
      have hk2 : (k : Int) < m := by omega
      have k0 : 0 ≤ (k : Int) := by omega
      have ek : IntKind.i64.wrap ((k : Int) + 1) = (k : Int) + 1 := wrap_i64 (by omega) (by omega)
      have hkl : k < l.length := by rw [HLM.out]; exact hk1
      have hsr := HSL.out.mono InstR.mono (HB5.out.trans HBr.out)
      obtain ⟨bl, ol, hAl⟩ := hsr.addr (by omega)
      subst hAl
      have hic := inst_cells hsr k hkl
      have hxw : (l[k]).Wf := by
        obtain ⟨_, _, _, _, _, ⟨-, hxw⟩, -⟩ := hsr.get k hkl
        exact hxw
      have HOK := Lib.hid (hok.out k hkl)
      obtain ⟨x, HX⟩ : ∃ x, Hid (l[k]! = x) := ⟨_, Lib.hid rfl⟩
      have hx2 : l[k] = x := by rw [← getElem!_pos l k hkl]; exact HX.out
      rw [hx2] at hxw
      rw [HX.out] at hic HOK
      have HXW := Lib.hid hxw
      obtain ⟨op, fn, dst, src, reg, off, imm⟩ := x
      have HOF : Hid (0 ≤ off ∧ off ≤ 65535) := Lib.hid (off_rng HOK.out)
      have c0 := hic 0 (.int .i64 op) rfl
      have c1 := hic 1 (.int .i64 fn) rfl
      have c2 := hic 2 (.int .i64 dst) rfl
      have c3 := hic 3 (.int .i64 src) rfl
      have c4 := hic 4 (.bool reg) rfl
      have c5 := hic 5 (.int .i64 off) rfl
      have c6 := hic 6 (.int .u32 imm) rfl
      rw [Nat.add_zero] at c0
      clear hic hsr hke hx2 hxw
      by_cases h1 : op = 1
      · subst h1
        have hlk := look_jump ((((HBr.out.alloc (.cells #[.int .i64 1, .int .i64 fn, .int .i64 dst, .int .i64 src, .bool reg, .int .i64 off, .int .u32 imm] 34)).out.block _ (Array.getElem?_eq_some_iff.1 HM5.out).1)).trans HM5.out)
        go_wp2_with fail
        refine (clo1 k 1 fn dst src reg off imm (g + 1 + 1) (g + 1 + 1 + 1) at' (some ⟨bl, ol, none⟩) m cl _ ((KA.out.bel (HBr.out.alloc _)).cell1 rfl) ((KL.out.bel (HBr.out.alloc _)).cell1 rfl) (by omega) HOF.out (by omega)).mono ?_
        rintro e wB ⟨rfl, hbB⟩
        have HBB := Lib.hid hbB
        clear hbB
        obtain ⟨ok, hok1⟩ : ∃ ok, decide ((k : Int) + off + 1 < m) = ok := ⟨_, rfl⟩
        have HGO0 : Hid (goTo n m base at' k ⟨1, fn, dst, src, reg, off, imm⟩ = (at' + k + off + 1, ok)) := Lib.hid (by
          unfold goTo
          simp [← hok1])
        rw [hok1]
        clear hok1
        cases ok
        · have HRN : Hid (r = none) := Lib.hid (by
            rw [← hr.out]
            refine imgCode_none (k := k + 1) ?_ _ (by omega)
            rw [imgCode, HWS.out, HLM.out, HX.out]
            simp only [Option.bind_some, HGO0.out]
            rfl)
          have HBE := Lib.hid (HB5.out.trans ((HBr.out.alloc (.cells #[.int .i64 1, .int .i64 fn, .int .i64 dst, .int .i64 src, .bool reg, .int .i64 off, .int .u32 imm] 34)).trans HBB.out))
          go_wp2_with fail
          go_ret2
          exact ⟨.inl ⟨HRN.out, rfl⟩, HBE.out⟩
        · have HGO := HGO0
          have HW := Lib.hid (HBB.out)
          obtain ⟨v, ev, hv⟩ : ∃ v ev, Hid (wput 1 fn dst src reg off imm (at' + k + off + 1) = (v, ev)) := ⟨_, _, Lib.hid rfl⟩
          have HV : Hid (0 ≤ v ∧ v < 18446744073709551616) := Lib.hid (by
            have := wput_rng ⟨1, fn, dst, src, reg, off, imm⟩ (at' + k + off + 1) HXW.out.imm
            unfold wputD at this
            simp only [hv.out] at this
            exact this)
          have HN : Hid (imgCode n l base at' (k + 1) = some (ws ++ [v])) := Lib.hid (by
            rw [imgCode, HWS.out, HLM.out, HX.out]
            have : goTo n m base at' k ⟨1, fn, dst, src, reg, off, imm⟩ = (at' + k + off + 1, true) := HGO.out
            simp only [Option.bind_some, this, if_true, wputD, hv.out])
          have x0 := HW.out.cell (cell_fresh wr #[.int .i64 1, .int .i64 fn, .int .i64 dst, .int .i64 src, .bool reg, .int .i64 off, .int .u32 imm] 34 0 _ rfl)
          have x1 := HW.out.cell (cell_fresh wr #[.int .i64 1, .int .i64 fn, .int .i64 dst, .int .i64 src, .bool reg, .int .i64 off, .int .u32 imm] 34 1 _ rfl)
          have x2 := HW.out.cell (cell_fresh wr #[.int .i64 1, .int .i64 fn, .int .i64 dst, .int .i64 src, .bool reg, .int .i64 off, .int .u32 imm] 34 2 _ rfl)
          have x3 := HW.out.cell (cell_fresh wr #[.int .i64 1, .int .i64 fn, .int .i64 dst, .int .i64 src, .bool reg, .int .i64 off, .int .u32 imm] 34 3 _ rfl)
          have x4 := HW.out.cell (cell_fresh wr #[.int .i64 1, .int .i64 fn, .int .i64 dst, .int .i64 src, .bool reg, .int .i64 off, .int .u32 imm] 34 4 _ rfl)
          have x5 := HW.out.cell (cell_fresh wr #[.int .i64 1, .int .i64 fn, .int .i64 dst, .int .i64 src, .bool reg, .int .i64 off, .int .u32 imm] 34 5 _ rfl)
          have x6 := HW.out.cell (cell_fresh wr #[.int .i64 1, .int .i64 fn, .int .i64 dst, .int .i64 src, .bool reg, .int .i64 off, .int .u32 imm] 34 6 _ rfl)
          go_wp2_with fail
          refine (put_at 1 fn dst src reg off imm (at' + k + off + 1) v ev _ HXW.out.imm hv).mono ?_
          rintro e wC ⟨rfl, hbC⟩
          have hC0 := ((Bel.refl wr).alloc (.cells #[.int .i64 1, .int .i64 fn, .int .i64 dst, .int .i64 src, .bool reg, .int .i64 off, .int .u32 imm] 34)).trans (HW.out.trans hbC)
          have HC1 := Lib.hid (hC0.alloc (.cells #[.int .u64 v] 37))
          have HOC := Lib.hid (own_belI HOW.out HC1.out)
          have HNEW : Hid (∀ j u, [Value.int .u64 v][j]? = some u → (wC.alloc (.cells #[.int .u64 v] 37)).cell? ((⟨wC.heap.size, 0, none⟩ : Addr).add j) = some u) := Lib.hid (cell_one_new _ _ _)
          have hszC : base0 ≤ (wC.alloc (.cells #[.int .u64 v] 37)).heap.size := Nat.le_trans hsz HC1.out.size
          have HBC := Lib.hid (HBr.out.trans HC1.out)
          clear hbC hC0 x0 x1 x2 x3 x4 x5 x6 HW
          go_wp2_with (show wpList _ _ _ ({ dst := _, op := .call { callee := .builtin .append, args := _, argTypes := _ }, type := _, pos := _, after := _, guard := none } :: _) _ _; refine at_append base0 37 (.int .u64 0) 1 8 Try.underlying27 info_u64 rfl (by decide) (.slice AO k cO) k (ws.map (Value.int .u64)) (by rfl) HOC.out ⟨wC.heap.size, 0, none⟩ 1 1 [.int .u64 v] (by rfl) rfl HNEW.out (by simp [Value.oneCell']) (by simp only [maxLen]; omega) (by omega) hszC W5 (Nat.le_of_eq hb0) HBC.out rfl ?_; intro v8 w8 o8 g8 b8 at8; have HB8 := Lib.hid b8; have hs8 := Nat.le_trans hszC g8.size; obtain ⟨A8, c8, rfl⟩ := own_sliceI o8; have HO8 := Lib.hid o8; clear o8 g8 b8 at8)
          go_wp2
          go_roundw
          case rel => exact ⟨k + 1, ws ++ [v], A8, c8, by simp, by omega, rfl, HN, Lib.hid (by rw [List.length_append, HWL.out]; rfl), Lib.hid (by rw [List.map_append]; exact HO8.out), HB8, hs8⟩
          case measure => simp [intOf]; omega
      by_cases h6 : op = 6
      · subst h6
        have hlk := look_call ((((HBr.out.alloc (.cells #[.int .i64 6, .int .i64 fn, .int .i64 dst, .int .i64 src, .bool reg, .int .i64 off, .int .u32 imm] 34)).out.block _ (Array.getElem?_eq_some_iff.1 HM5.out).1)).trans HM5.out)
        go_wp2_with fail
        refine (clo2 k 6 fn dst src reg off imm (g + 1) g base (some ⟨b, o, none⟩) n c _ ((KB.out.bel (HBr.out.alloc _)).cell1 rfl) ((KP.out.bel (HBr.out.alloc _)).cell1 rfl) HXW.out.imm (by omega) (by omega)).mono ?_
        rintro e wB ⟨rfl, hbB⟩
        have HBB := Lib.hid hbB
        clear hbB
        obtain ⟨ok, hok1⟩ : ∃ ok, decide (imm < n) = ok := ⟨_, rfl⟩
        have HGO0 : Hid (goTo n m base at' k ⟨6, fn, dst, src, reg, off, imm⟩ = (base + imm, ok)) := Lib.hid (by
          unfold goTo
          simp [← hok1])
        rw [hok1]
        clear hok1
        cases ok
        · have HRN : Hid (r = none) := Lib.hid (by
            rw [← hr.out]
            refine imgCode_none (k := k + 1) ?_ _ (by omega)
            rw [imgCode, HWS.out, HLM.out, HX.out]
            simp only [Option.bind_some, HGO0.out]
            rfl)
          have HBE := Lib.hid (HB5.out.trans ((HBr.out.alloc (.cells #[.int .i64 6, .int .i64 fn, .int .i64 dst, .int .i64 src, .bool reg, .int .i64 off, .int .u32 imm] 34)).trans HBB.out))
          go_wp2_with fail
          go_ret2
          exact ⟨.inl ⟨HRN.out, rfl⟩, HBE.out⟩
        · have HGO := HGO0
          have HW := Lib.hid (HBB.out)
          obtain ⟨v, ev, hv⟩ : ∃ v ev, Hid (wput 6 fn dst src reg off imm (base + imm) = (v, ev)) := ⟨_, _, Lib.hid rfl⟩
          have HV : Hid (0 ≤ v ∧ v < 18446744073709551616) := Lib.hid (by
            have := wput_rng ⟨6, fn, dst, src, reg, off, imm⟩ (base + imm) HXW.out.imm
            unfold wputD at this
            simp only [hv.out] at this
            exact this)
          have HN : Hid (imgCode n l base at' (k + 1) = some (ws ++ [v])) := Lib.hid (by
            rw [imgCode, HWS.out, HLM.out, HX.out]
            have : goTo n m base at' k ⟨6, fn, dst, src, reg, off, imm⟩ = (base + imm, true) := HGO.out
            simp only [Option.bind_some, this, if_true, wputD, hv.out])
          have x0 := HW.out.cell (cell_fresh wr #[.int .i64 6, .int .i64 fn, .int .i64 dst, .int .i64 src, .bool reg, .int .i64 off, .int .u32 imm] 34 0 _ rfl)
          have x1 := HW.out.cell (cell_fresh wr #[.int .i64 6, .int .i64 fn, .int .i64 dst, .int .i64 src, .bool reg, .int .i64 off, .int .u32 imm] 34 1 _ rfl)
          have x2 := HW.out.cell (cell_fresh wr #[.int .i64 6, .int .i64 fn, .int .i64 dst, .int .i64 src, .bool reg, .int .i64 off, .int .u32 imm] 34 2 _ rfl)
          have x3 := HW.out.cell (cell_fresh wr #[.int .i64 6, .int .i64 fn, .int .i64 dst, .int .i64 src, .bool reg, .int .i64 off, .int .u32 imm] 34 3 _ rfl)
          have x4 := HW.out.cell (cell_fresh wr #[.int .i64 6, .int .i64 fn, .int .i64 dst, .int .i64 src, .bool reg, .int .i64 off, .int .u32 imm] 34 4 _ rfl)
          have x5 := HW.out.cell (cell_fresh wr #[.int .i64 6, .int .i64 fn, .int .i64 dst, .int .i64 src, .bool reg, .int .i64 off, .int .u32 imm] 34 5 _ rfl)
          have x6 := HW.out.cell (cell_fresh wr #[.int .i64 6, .int .i64 fn, .int .i64 dst, .int .i64 src, .bool reg, .int .i64 off, .int .u32 imm] 34 6 _ rfl)
          go_wp2_with fail
          refine (put_at 6 fn dst src reg off imm (base + imm) v ev _ HXW.out.imm hv).mono ?_
          rintro e wC ⟨rfl, hbC⟩
          have hC0 := ((Bel.refl wr).alloc (.cells #[.int .i64 6, .int .i64 fn, .int .i64 dst, .int .i64 src, .bool reg, .int .i64 off, .int .u32 imm] 34)).trans (HW.out.trans hbC)
          have HC1 := Lib.hid (hC0.alloc (.cells #[.int .u64 v] 37))
          have HOC := Lib.hid (own_belI HOW.out HC1.out)
          have HNEW : Hid (∀ j u, [Value.int .u64 v][j]? = some u → (wC.alloc (.cells #[.int .u64 v] 37)).cell? ((⟨wC.heap.size, 0, none⟩ : Addr).add j) = some u) := Lib.hid (cell_one_new _ _ _)
          have hszC : base0 ≤ (wC.alloc (.cells #[.int .u64 v] 37)).heap.size := Nat.le_trans hsz HC1.out.size
          have HBC := Lib.hid (HBr.out.trans HC1.out)
          clear hbC hC0 x0 x1 x2 x3 x4 x5 x6 HW
          go_wp2_with (show wpList _ _ _ ({ dst := _, op := .call { callee := .builtin .append, args := _, argTypes := _ }, type := _, pos := _, after := _, guard := none } :: _) _ _; refine at_append base0 37 (.int .u64 0) 1 8 Try.underlying27 info_u64 rfl (by decide) (.slice AO k cO) k (ws.map (Value.int .u64)) (by rfl) HOC.out ⟨wC.heap.size, 0, none⟩ 1 1 [.int .u64 v] (by rfl) rfl HNEW.out (by simp [Value.oneCell']) (by simp only [maxLen]; omega) (by omega) hszC W5 (Nat.le_of_eq hb0) HBC.out rfl ?_; intro v8 w8 o8 g8 b8 at8; have HB8 := Lib.hid b8; have hs8 := Nat.le_trans hszC g8.size; obtain ⟨A8, c8, rfl⟩ := own_sliceI o8; have HO8 := Lib.hid o8; clear o8 g8 b8 at8)
          go_wp2
          go_roundw
          case rel => exact ⟨k + 1, ws ++ [v], A8, c8, by simp, by omega, rfl, HN, Lib.hid (by rw [List.length_append, HWL.out]; rfl), Lib.hid (by rw [List.map_append]; exact HO8.out), HB8, hs8⟩
          case measure => simp [intOf]; omega
      have hlk := look_none ((((HBr.out.alloc (.cells #[.int .i64 op, .int .i64 fn, .int .i64 dst, .int .i64 src, .bool reg, .int .i64 off, .int .u32 imm] 34)).out.block _ (Array.getElem?_eq_some_iff.1 HM5.out).1)).trans HM5.out) h1 h6
      have HGO : Hid (goTo n m base at' k ⟨op, fn, dst, src, reg, off, imm⟩ = (0, true)) := Lib.hid (by
        unfold goTo
        rw [if_neg h1, if_neg h6])
      clear h1 h6
      have HW := Lib.hid (Bel.refl (wr.alloc (.cells #[.int .i64 op, .int .i64 fn, .int .i64 dst, .int .i64 src, .bool reg, .int .i64 off, .int .u32 imm] 34)))
      obtain ⟨v, ev, hv⟩ : ∃ v ev, Hid (wput op fn dst src reg off imm (0) = (v, ev)) := ⟨_, _, Lib.hid rfl⟩
      have HV : Hid (0 ≤ v ∧ v < 18446744073709551616) := Lib.hid (by
        have := wput_rng ⟨op, fn, dst, src, reg, off, imm⟩ (0) HXW.out.imm
        unfold wputD at this
        simp only [hv.out] at this
        exact this)
      have HN : Hid (imgCode n l base at' (k + 1) = some (ws ++ [v])) := Lib.hid (by
        rw [imgCode, HWS.out, HLM.out, HX.out]
        have : goTo n m base at' k ⟨op, fn, dst, src, reg, off, imm⟩ = (0, true) := HGO.out
        simp only [Option.bind_some, this, if_true, wputD, hv.out])
      have x0 := HW.out.cell (cell_fresh wr #[.int .i64 op, .int .i64 fn, .int .i64 dst, .int .i64 src, .bool reg, .int .i64 off, .int .u32 imm] 34 0 _ rfl)
      have x1 := HW.out.cell (cell_fresh wr #[.int .i64 op, .int .i64 fn, .int .i64 dst, .int .i64 src, .bool reg, .int .i64 off, .int .u32 imm] 34 1 _ rfl)
      have x2 := HW.out.cell (cell_fresh wr #[.int .i64 op, .int .i64 fn, .int .i64 dst, .int .i64 src, .bool reg, .int .i64 off, .int .u32 imm] 34 2 _ rfl)
      have x3 := HW.out.cell (cell_fresh wr #[.int .i64 op, .int .i64 fn, .int .i64 dst, .int .i64 src, .bool reg, .int .i64 off, .int .u32 imm] 34 3 _ rfl)
      have x4 := HW.out.cell (cell_fresh wr #[.int .i64 op, .int .i64 fn, .int .i64 dst, .int .i64 src, .bool reg, .int .i64 off, .int .u32 imm] 34 4 _ rfl)
      have x5 := HW.out.cell (cell_fresh wr #[.int .i64 op, .int .i64 fn, .int .i64 dst, .int .i64 src, .bool reg, .int .i64 off, .int .u32 imm] 34 5 _ rfl)
      have x6 := HW.out.cell (cell_fresh wr #[.int .i64 op, .int .i64 fn, .int .i64 dst, .int .i64 src, .bool reg, .int .i64 off, .int .u32 imm] 34 6 _ rfl)
      go_wp2_with fail
      refine (put_at op fn dst src reg off imm (0) v ev _ HXW.out.imm hv).mono ?_
      rintro e wC ⟨rfl, hbC⟩
      have hC0 := ((Bel.refl wr).alloc (.cells #[.int .i64 op, .int .i64 fn, .int .i64 dst, .int .i64 src, .bool reg, .int .i64 off, .int .u32 imm] 34)).trans (HW.out.trans hbC)
      have HC1 := Lib.hid (hC0.alloc (.cells #[.int .u64 v] 37))
      have HOC := Lib.hid (own_belI HOW.out HC1.out)
      have HNEW : Hid (∀ j u, [Value.int .u64 v][j]? = some u → (wC.alloc (.cells #[.int .u64 v] 37)).cell? ((⟨wC.heap.size, 0, none⟩ : Addr).add j) = some u) := Lib.hid (cell_one_new _ _ _)
      have hszC : base0 ≤ (wC.alloc (.cells #[.int .u64 v] 37)).heap.size := Nat.le_trans hsz HC1.out.size
      have HBC := Lib.hid (HBr.out.trans HC1.out)
      clear hbC hC0 x0 x1 x2 x3 x4 x5 x6 HW
      go_wp2_with (show wpList _ _ _ ({ dst := _, op := .call { callee := .builtin .append, args := _, argTypes := _ }, type := _, pos := _, after := _, guard := none } :: _) _ _; refine at_append base0 37 (.int .u64 0) 1 8 Try.underlying27 info_u64 rfl (by decide) (.slice AO k cO) k (ws.map (Value.int .u64)) (by rfl) HOC.out ⟨wC.heap.size, 0, none⟩ 1 1 [.int .u64 v] (by rfl) rfl HNEW.out (by simp [Value.oneCell']) (by simp only [maxLen]; omega) (by omega) hszC W5 (Nat.le_of_eq hb0) HBC.out rfl ?_; intro v8 w8 o8 g8 b8 at8; have HB8 := Lib.hid b8; have hs8 := Nat.le_trans hszC g8.size; obtain ⟨A8, c8, rfl⟩ := own_sliceI o8; have HO8 := Lib.hid o8; clear o8 g8 b8 at8)
      go_wp2
      go_roundw
      case rel => exact ⟨k + 1, ws ++ [v], A8, c8, by simp, by omega, rfl, HN, Lib.hid (by rw [List.length_append, HWL.out]; rfl), Lib.hid (by rw [List.map_append]; exact HO8.out), HB8, hs8⟩
      case measure => simp [intOf]; omega
end Go.Proofs.Yteopeocgbfdofaa
