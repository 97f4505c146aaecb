/- image.Size, image.door, image.join. -/
import Derived.Test.YteopeocgbfdofaaIm3
set_option linter.unusedVariables false
set_option linter.unusedSimpArgs false
namespace Go.Proofs.Yteopeocgbfdofaa
open Go.RowKit

theorem flat_getPI {α : Type} (f : α → List Value) (k : Nat) (hk : ∀ x, (f x).length = k) : ∀ (zs : List α) (i j : Nat) (hi : i < zs.length), j < k → (zs.flatMap f)[i * k + j]? = (f zs[i])[j]?
  | [], i, j, hi, _ => by simp at hi
  | z :: zs, 0, j, hi, hj => by
    rw [List.flatMap_cons, Nat.zero_mul, Nat.zero_add, List.getElem?_append_left (by rw [hk]; exact hj)]
    rfl
  | z :: zs, i + 1, j, hi, hj => by
    rw [List.flatMap_cons, List.getElem?_append_right (by rw [hk, Nat.succ_mul]; omega), hk]
    have := flat_getPI f k hk zs i j (by simpa using hi) hj
    rw [show (i + 1) * k + j - k = i * k + j by rw [Nat.succ_mul]; omega, this]
    rfl
theorem flat_lenPI {α : Type} (f : α → List Value) (k : Nat) (hk : ∀ x, (f x).length = k) : ∀ (zs : List α), (zs.flatMap f).length = zs.length * k
  | [] => by simp
  | z :: zs => by
    rw [List.flatMap_cons, List.length_append, hk, flat_lenPI f k hk zs, List.length_cons, Nat.succ_mul, Nat.add_comm]
theorem own_openPI {w : World} {b : Nat} {e : TypeId} {s : Nat} {v : Value} {n : Nat} {xs : List Value} (h : w.ownsRow b e s v n xs) :
    (v = .slice none 0 0 ∧ n = 0) ∨ ∃ g c, v = .slice (some ⟨g, 0, none⟩) n c ∧ b ≤ g ∧ g < w.heap.size ∧ n ≤ c ∧ c ≤ maxLen ∧ (∀ i, w.frozen? ⟨g, i, none⟩ = false) ∧ ∀ j u, xs[j]? = some u → w.cell? ⟨g, j, none⟩ = some u := by
  obtain ⟨h1, h2⟩ := h
  rcases h2 with ⟨rfl, h2⟩ | ⟨g, cap, cur, rfl, hb, hh, hc, hm, hs, ht⟩
  · exact .inl ⟨rfl, h2⟩
  · refine .inr ⟨g, cap, rfl, hb, (Array.getElem?_eq_some_iff.1 hh).1, hc, hm, fun i => by simp [World.frozen?, hh], fun j u hj => ?_⟩
    rw [← ht, List.getElem?_take] at hj
    split at hj
    · rw [Array.getElem?_toList] at hj
      simp [World.cell?, hh, hj]
    · cases hj


theorem sl_of_rowsI {S T : Type} {R : World → List Value → T → Prop} {sz : Nat} (f : S → List Value) (hf : ∀ z, (f z).length = sz) (gg : S → T) {W : World} {base : Nat} {e : TypeId} {v : Value} {zs : List S} (h : W.ownsRow base e sz v zs.length (zs.flatMap f)) (hR : ∀ z ∈ zs, R W (f z) (gg z)) :
    ∃ A c, v = .slice A zs.length c ∧ Sl R sz W A c (zs.map gg) := by
  rcases own_openPI h with ⟨rfl, h0⟩ | ⟨g, c, rfl, hg1, hg2, hc1, hc2, hfz, hcl⟩
  · have e : zs = [] := List.eq_nil_of_length_eq_zero h0
    subst e
    exact ⟨none, 0, rfl, Sl.nil _ _ _⟩
  · refine ⟨some ⟨g, 0, none⟩, c, rfl, by rw [List.length_map]; exact hc1, hc2, fun i hi => ?_⟩
    rw [List.length_map] at hi
    refine ⟨g, 0, f zs[i], rfl, hf _, by rw [List.getElem_map]; exact hR _ (List.getElem_mem hi), fun j u hu => ?_⟩
    have hj : j < sz := by rw [← hf zs[i]]; exact (List.getElem?_eq_some_iff.1 hu).1
    rw [Nat.zero_add]
    exact hcl _ _ (by rw [flat_getPI f sz hf zs i j hi hj]; exact hu)
theorem own_grownI {X Y : World} {b1 b2 s1 s2 n1 n2 : Nat} {t1 t2 : TypeId} {v1 v2 : Value} {xs1 xs2 : List Value} (h1 : X.ownsRow b1 t1 s1 v1 n1 xs1) (h2 : X.ownsRow b2 t2 s2 v2 n2 xs2) (ht : t1 ≠ t2) (hg : X.grownBy Y v2.ownBlock) : Y.ownsRow b1 t1 s1 v1 n1 xs1 :=
  ⟨h1.1, h1.2.imp id fun ⟨g, cap, cur, e1, e2, e3, r⟩ => ⟨g, cap, cur, e1, e2, (hg.block g (Array.getElem?_eq_some_iff.1 e3).1 (fun e => by
    rcases h2.2 with ⟨rfl, _⟩ | ⟨g', cap', cur', rfl, _, e4, _⟩
    · cases e
    · have : g = g' := by simpa [Value.ownBlock] using e
      subst this
      rw [e3] at e4
      simp only [Option.some.injEq, Obj.cells.injEq] at e4
      exact ht e4.2.1)).trans e3, r⟩⟩
theorem row_lowI {W W' : World} {base : Nat} {t : TypeId} {s : Nat} {v : Value} {n : Nat} {xs : List Value} (h : W.ownsRow base t s v n xs) (w0 : World) (hb : w0.heap.size ≤ base) (HB : Bel w0 W) (hg : W.grownBy W' v.ownBlock) : Bel w0 W' :=
  HB.grown hg (fun k hk => Nat.le_trans hb (h.lt k hk).1)
theorem own_formI {w : World} {base : Nat} {e : TypeId} {size : Nat} {v : Value} {n : Nat} {xs : List Value} (h : w.ownsRow base e size v (n + 1) xs) : ∃ g c, v = .slice (some ⟨g, 0, none⟩) (n + 1) c := by
  rcases h.2 with ⟨_, h0⟩ | ⟨g, cap, cur, e, _⟩
  · omega
  · exact ⟨g, cap, e⟩

/-- How many instructions the first functions have. -/
def sz (L : List FnD) : Nat → Nat
  | 0 => 0
  | k + 1 => sz L k + ((L.map FnD.code)[k]!).length
def imgSize (L : List FnD) : Nat := if progMay L = true then L.length + sz L L.length else 0
theorem code_nth {L : List FnD} {k : Nat} (hk : k < L.length) : (L.map FnD.code)[k]! = (L[k]).code := by
  rw [getElem!_pos _ k (by rw [List.length_map]; exact hk), List.getElem_map]
theorem sz_le {L : List FnD} (h : ∀ f ∈ L, f.code.length ≤ 64) : ∀ k, k ≤ L.length → sz L k ≤ 64 * k
  | 0, _ => Nat.le_refl _
  | k + 1, hk => by
    have := sz_le h k (by omega)
    have h2 := h _ (List.getElem_mem (show k < L.length by omega))
    rw [sz, code_nth (by omega)]
    omega
structure Fine (L : List FnD) : Prop where
  n0 : 0 < L.length
  n8 : L.length ≤ 8
  c0 : ∀ f ∈ L, 0 < f.code.length
  c64 : ∀ f ∈ L, f.code.length ≤ 64
  ok : ∀ j (hj : j < L.length) k, k < (L[j]).code.length → ((L[j]).code[k]!).okB = true
theorem fine_of {L : List FnD} (h : progMay L = true) : Fine L := by
  unfold progMay at h
  simp only [Bool.and_eq_true, decide_eq_true_iff, List.all_eq_true] at h
  obtain ⟨⟨⟨h0, h1⟩, h2⟩, h3⟩ := h
  have hf : ∀ f ∈ L, 0 < f.code.length ∧ f.code.length ≤ 64 ∧ ∀ k, k < f.code.length → (f.code[k]!).okB = true := fun f hf => by
    have := h3 f hf
    unfold fnFine at this
    simp only [Bool.and_eq_true, decide_eq_true_iff] at this
    exact crsMay_facts this.2
  exact ⟨h0, h1, fun f hm => (hf f hm).1, fun f hm => (hf f hm).2.1, fun j hj k hk => (hf _ (List.getElem_mem hj)).2.2 k hk⟩
set_option maxHeartbeats 4000000 in
set_option maxRecDepth 100000 in
theorem size_any (A : Option Addr) (c n : Nat) (L : List FnD) (w : World) (hL : Sl FnR 2 w A c L) (hn : Hid (L.length = n)) (r : Nat) (hr : Hid (imgSize L = r)) :
    Calls Try.prog 10 #[.agg #[.slice A n c]] w fun e w' => e = .returned (.int .i64 r) ∧ Bel w w' := by
  have HBa := Lib.hid ((Bel.refl w).alloc (.cells #[.slice A n c] 24))
  have HS := Lib.hid (hL.mono FnR.mono HBa.out)
  have K0 := Lib.hid (One.new w 24 (.slice A n c))
  obtain ⟨mb, hmb⟩ : ∃ mb, Hid (progMay L = mb) := ⟨_, Lib.hid rfl⟩
  clear hL
  go_enter Try.func10, Try.ntmps10
  go_wp2_with fail
  generalize w.alloc (.cells #[.slice A n c] 24) = W0 at *
  generalize w.heap.size = g at *
  refine (progmay_any A c n L mb _ HS.out hn hmb).mono ?_
  rintro e W1 ⟨rfl, hb⟩
  have HB1 := Lib.hid (HBa.out.trans hb)
  have HS1 := Lib.hid (HS.out.mono FnR.mono hb)
  have q0 := (K0.out.bel hb).cell1 rfl
  clear hb
  cases mb
  · have hr0 : r = 0 := by
      rw [← hr.out]
      unfold imgSize
      rw [if_neg (by rw [hmb.out]; simp)]
    subst hr0
    go_wp2_with fail
    go_ret
    exact ⟨rfl, HB1.out⟩
  have HFI := Lib.hid (fine_of hmb.out)
  have hn8 : n ≤ 8 := by rw [← hn.out]; exact HFI.out.n8
  have hn0 : 0 < n := by rw [← hn.out]; exact HFI.out.n0
  have HSZ := Lib.hid (sz_le HFI.out.c64)
  have HR : Hid (n + sz L n = r) := Lib.hid (by
    rw [← hr.out]
    unfold imgSize
    rw [if_pos hmb.out, hn.out])
  obtain ⟨b, o, rfl⟩ := HS1.out.addr (by rw [hn.out]; exact hn0)
  go_wp2_with fail
  go_loopw [3, 15] (fun nv kv wr => ∃ k s : Nat, kv = .int .i64 k ∧ k ≤ n ∧ nv = .int .i64 s ∧ Hid (n + sz L k = s) ∧ Hid (Bel W1 wr)) (fun _ kv _ => n - (intOf kv).toNat)
  case atStart => exact ⟨0, n, rfl, Nat.zero_le _, rfl, Lib.hid rfl, Lib.hid (Bel.refl _)⟩
  case round =>
    obtain ⟨k, s, rfl, hkn, rfl, hs, hbr⟩ := hrel
    by_cases hke : k = n
    · subst hke
      have hrs : s = r := by rw [← hs.out, HR.out]
      subst hrs
      go_wp2_with fail
      go_ret
      exact ⟨rfl, HB1.out.trans hbr.out⟩
    · have hk1 : k < n := by omega
      have hk2 : (k : Int) < n := by omega
      have k0 : 0 ≤ (k : Int) := by omega
      have ek : IntKind.i64.wrap ((k : Int) + 1) = (k : Int) + 1 := wrap_i64 (by omega) (by omega)
      have hkL : k < L.length := by rw [hn.out]; exact hk1
      obtain ⟨Ak, ck, d0, d1, hsk⟩ := fn_cells (HS1.out.mono FnR.mono hbr.out) k hkL
      obtain ⟨m, hm⟩ : ∃ m, Hid ((L[k]).code.length = m) := ⟨_, Lib.hid rfl⟩
      rw [hm.out] at d1
      have hm64 : m ≤ 64 := by rw [← hm.out]; exact HFI.out.c64 _ (List.getElem_mem hkL)
      have hs2 : s ≤ 1000 := by
        have := HSZ.out k (by rw [hn.out]; exact hkn)
        have := hs.out
        omega
      have es : IntKind.i64.wrap ((s : Int) + (m : Int)) = (s : Int) + m := wrap_i64 (by omega) (by omega)
      have HN : Hid (n + sz L (k + 1) = s + m) := Lib.hid (by
        rw [sz, code_nth hkL, hm.out, ← hs.out]
        omega)
      clear hsk hke
      go_wp2
      go_roundw
      case rel => exact ⟨k + 1, s + m, by simp, by omega, by simp, HN, Lib.hid (by repeat (first | exact hbr.out | refine Bel.alloc ?_ _))⟩
      case measure => simp [intOf]; omega
set_option maxHeartbeats 1000000 in
theorem door_any (t v : Int) (ev : Int) (w : World) (hv : Hid (wput 1 0 0 0 false 0 0 t = (v, ev))) : Calls Try.prog 27 #[.int .i64 t] w fun e w' => e = .returned (.int .u64 v) ∧ Bel w w' := by
  go_enter Try.func27, Try.ntmps27
  go_wp2_with fail
  refine (put_at 1 0 0 0 false 0 0 t v ev _ (u32_lit 0 (by decide)) hv).mono ?_
  rintro e w1 ⟨rfl, hb⟩
  have HB := Lib.hid hb
  clear hb
  go_wp2_with fail
  go_ret
  exact ⟨rfl, HB.out⟩
/-- A slice of words, as an element. -/
def WsR (w : World) (cs : List Value) (ws : List Int) : Prop := ∃ A c, cs = [.slice A ws.length c] ∧ Sl (IntR .u64) 1 w A c ws
theorem WsR.mono : Mono WsR := fun w w' cs x hb ⟨A, c, e, hs⟩ => ⟨A, c, e, hs.mono (IntR.mono _) hb⟩
theorem ws_cells {w : World} {b off c : Nat} {l : List Int} (h : Sl (IntR .u64) 1 w (some ⟨b, off, none⟩) c l) : ∀ j u, (l.map (Value.int .u64))[j]? = some u → w.cell? ((⟨b, off, none⟩ : Addr).add j) = some u := by
  intro j u hu
  have hj : j < l.length := by
    have := (List.getElem?_eq_some_iff.1 hu).1
    simpa using this
  obtain ⟨b', off', hA, hcl⟩ := h.int_cell (by omega)
  simp at hA; obtain ⟨rfl, rfl⟩ := hA
  rw [List.getElem?_map, List.getElem?_eq_getElem hj] at hu
  have := (hcl j hj).1
  rw [List.getD_eq_getElem?_getD, List.getElem?_eq_getElem hj] at this
  rw [Go.WideShapes.add_plain, this]
  exact hu
theorem u64s_oneI (l : List Int) : ∀ u ∈ l.map (Value.int .u64), u.oneCell' = true := by
  intro u hu
  obtain ⟨x, _, rfl⟩ := List.mem_map.1 hu
  rfl
theorem flat_take (ps : List (List Int)) {k : Nat} (hk : k < ps.length) : (ps.take (k + 1)).flatten = (ps.take k).flatten ++ ps[k] := by
  rw [List.take_succ_eq_append_getElem hk, List.flatten_append]
  simp
theorem flat_take_le (ps : List (List Int)) (k : Nat) : ((ps.take k).flatten).length ≤ ps.flatten.length := by
  have h : ps.flatten = (ps.take k).flatten ++ (ps.drop k).flatten := by rw [← List.flatten_append, List.take_append_drop]
  rw [h, List.length_append]
  omega
set_option maxHeartbeats 4000000 in
set_option maxRecDepth 100000 in
theorem join_any (P : Option Addr) (c n : Nat) (ps : List (List Int)) (w : World) (hP : Sl WsR 1 w P c ps) (hn : Hid (ps.length = n)) (hne : Hid (∀ p ∈ ps, 0 < p.length)) (hT : Hid (ps.flatten.length ≤ 5000)) (hw : Hid (∀ p ∈ ps, ∀ x ∈ p, 0 ≤ x ∧ x < 18446744073709551616)) (m : Nat) (hm : Hid (ps.flatten.length = m)) :
    Calls Try.prog 28 #[.slice P n c] w fun e w' => ∃ A' c', e = .returned (.slice A' m c') ∧ Sl (IntR .u64) 1 w' A' c' ps.flatten ∧ Bel w w' := by
  have HP := Lib.hid hP
  have hnn : n ≤ 9223372036854775807 := by rw [← hn.out]; have := hP.le; have := hP.big; simp only [maxLen] at this; omega
  have HST : Hid (w.ownsRow w.heap.size 37 1 (.slice none 0 0) 0 (([] : List Int).map (Value.int .u64))) := Lib.hid ⟨by simp, .inl ⟨rfl, rfl⟩⟩
  clear hP
  go_enter Try.func28, Try.ntmps28
  go_wp2_with fail
  obtain ⟨base0, hb0⟩ : ∃ base0, w.heap.size = base0 := ⟨_, rfl⟩
  rw [hb0] at HST
  go_loopw [3, 8] (fun ov kv wr => ∃ (k q : Nat) (AO : Option Addr) (cO : Nat), kv = .int .i64 k ∧ k ≤ n ∧ ov = .slice AO q cO ∧ Hid (((ps.take k).flatten).length = q) ∧ Hid (wr.ownsRow base0 37 1 (.slice AO q cO) q (((ps.take k).flatten).map (Value.int .u64))) ∧ Hid (Bel w wr) ∧ base0 ≤ wr.heap.size) (fun _ kv _ => n - (intOf kv).toNat)
  case atStart => exact ⟨0, 0, none, 0, rfl, Nat.zero_le _, rfl, Lib.hid rfl, HST, Lib.hid (Bel.refl _), Nat.le_of_eq hb0.symm⟩
  case round =>
    clear HST
    obtain ⟨k, q, AO, cO, rfl, hkn, rfl, hq, HOW, HBr, hsz⟩ := hrel
    by_cases hke : k = n
    · subst hke
      have hall : (ps.take k) = ps := List.take_of_length_le (by rw [hn.out]; exact Nat.le_refl _)
      have hqm : q = m := by rw [← hq.out, hall, hm.out]
      subst hqm
      have hown := HOW.out
      rw [hall] at hown
      obtain ⟨AE, cE, e1, hs⟩ := sl_ownI (l := ps.flatten) (by rw [hm.out]; exact hown) (fun x hx => by
        obtain ⟨p, hp, hxp⟩ := List.mem_flatten.1 hx
        exact wf_u64R (hw.out p hp x hxp))
      rw [hm.out] at e1
      simp only [Value.slice.injEq, true_and] at e1
      obtain ⟨rfl, rfl⟩ := e1
      have HSE := Lib.hid hs
      clear hs hown hall
      go_wp2_with fail
      go_ret
      exact ⟨AO, cO, rfl, HSE.out, HBr.out⟩
    · have hk1 : k < n := by omega
      have hk2 : (k : Int) < n := by omega
      have k0 : 0 ≤ (k : Int) := by omega
      have ek : IntKind.i64.wrap ((k : Int) + 1) = (k : Int) + 1 := wrap_i64 (by omega) (by omega)
      have hkL : k < ps.length := by rw [hn.out]; exact hk1
      have hmem : ps[k] ∈ ps := List.getElem_mem hkL
      obtain ⟨b, off, d1, Ap, cp, mp, hb1, hmp, HSP⟩ : ∃ b off, ∃ _ : P = some ⟨b, off, none⟩, ∃ Ap cp mp, wr.cell? ⟨b, off + k, none⟩ = some (.slice Ap mp cp) ∧ Hid ((ps[k]).length = mp) ∧ Hid (Sl (IntR .u64) 1 wr Ap cp ps[k]) := by
        obtain ⟨b, off, cs, e1, e2, ⟨Ap, cp, e3, e4⟩, e5⟩ := (HP.out.mono WsR.mono HBr.out).get k hkL
        have := e5 0 _ (by rw [e3]; rfl)
        rw [Nat.mul_one, Nat.add_zero] at this
        exact ⟨b, off, e1, Ap, cp, _, this, Lib.hid rfl, Lib.hid e4⟩
      subst d1
      have hmp0 : 0 < mp := by rw [← hmp.out]; exact hne.out _ hmem
      obtain ⟨bp, op, hAp⟩ := HSP.out.addr (by rw [hmp.out]; exact hmp0)
      subst hAp
      have hq5 : q + mp ≤ 5000 := by
        have h1 := flat_take_le ps (k + 1)
        rw [flat_take ps hkL, List.length_append, hq.out, hmp.out] at h1
        have := hT.out
        omega
      have HC := Lib.hid (ws_cells HSP.out)
      have HCL : Hid (((ps[k]).map (Value.int .u64)).length = mp * 1) := Lib.hid (by rw [List.length_map, hmp.out, Nat.mul_one])
      have HTK := Lib.hid (flat_take ps hkL)
      clear hke
      go_wp2_with (show wpList _ _ _ ({ dst := _, op := .call { callee := .builtin .append, args := _, argTypes := _ }, type := _, pos := _, after := _, guard := none } :: _) _ _; refine at_append base0 37 (.int .u64 0) 1 8 Try.underlying27 info_u64 rfl (by decide) (.slice AO q cO) q (((ps.take k).flatten).map (Value.int .u64)) (by rfl) HOW.out ⟨bp, op, none⟩ mp cp ((ps[k]).map (Value.int .u64)) (by rfl) HCL.out HC.out (u64s_oneI _) (by simp only [maxLen]; omega) (by omega) hsz w (Nat.le_of_eq hb0) HBr.out rfl ?_; intro v8 w8 o8 g8 b8 at8; have HB8 := Lib.hid b8; have hs8 := Nat.le_trans hsz g8.size; obtain ⟨A8, c8, rfl⟩ := own_sliceI o8; have HO8 := Lib.hid o8; clear o8 g8 b8 at8)
      go_wp2
      go_roundw
      case rel => exact ⟨k + 1, q + mp, A8, c8, by simp, by omega, rfl, Lib.hid (by rw [HTK.out, List.length_append, hq.out, hmp.out]), Lib.hid (by rw [HTK.out, List.map_append]; exact HO8.out), HB8, hs8⟩
      case measure => simp [intOf]; omega
end Go.Proofs.Yteopeocgbfdofaa
