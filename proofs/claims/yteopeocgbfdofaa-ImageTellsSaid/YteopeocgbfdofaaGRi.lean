/- The document's Door, Size and word of chapter 14 by their contracts. The document's code of chapter 14 by its contract. The document's Make of chapter 14 by its contract. image.Part by its contract. The document's Part and Long of chapter 14 by their contracts. -/
import Derived.Test.YteopeocgbfdofaaIm5
import Derived.Test.YteopeocgbfdofaaPg2
import Derived.Test.YteopeocgbfdofaaRfPut
set_option linter.unusedVariables false
set_option linter.unusedSimpArgs false
namespace Go.Proofs.Yteopeocgbfdofaa
open Go.RowKit

theorem rdoor_any (t v : Int) (ev : Int) (w : World) (hv : Hid (wput 1 0 0 0 false 0 0 t = (v, ev))) : Calls Try.prog 34 #[.int .i64 t] w fun e w' => e = .returned (.int .u64 v) ∧ Bel w w' := by
  go_enter Try.func34, Try.ntmps34
  go_wp2_with fail
  refine (refput_any 1 0 0 0 false 0 0 t _ (u32_lit 0 (by decide))).mono ?_
  rw [hv.out]
  rintro e w1 ⟨rfl, hb⟩
  go_wp2_with fail
  go_ret
  exact ⟨rfl, hb⟩
set_option maxHeartbeats 4000000 in
set_option maxRecDepth 100000 in
theorem rsize_any (A : Option Addr) (c n : Nat) (L : List FnD) (w : World) (hL : Sl FnR 2 w A c L) (hn : Hid (L.length = n)) (r : Nat) (hr : Hid (imgSize L = r)) :
    Calls Try.prog 23 #[.agg #[.slice A n c]] w fun e w' => e = .returned (.int .i64 r) ∧ Bel w w' := by
  have HBa := Lib.hid ((Bel.refl w).alloc (.cells #[.slice A n c] 24))
  have HS := Lib.hid (hL.mono FnR.mono HBa.out)
  have K0 := Lib.hid (One.new w 24 (.slice A n c))
  obtain ⟨mb, hmb⟩ : ∃ mb, Hid (progMay L = mb) := ⟨_, Lib.hid rfl⟩
  clear hL
  go_enter Try.func23, Try.ntmps23
  go_wp2_with fail
  generalize w.alloc (.cells #[.slice A n c] 24) = W0 at *
  generalize w.heap.size = g at *
  refine (refProgMay_any A c n L mb _ HS.out hn hmb).mono ?_
  rintro e W1 ⟨rfl, hb⟩
  have HB1 := Lib.hid (HBa.out.trans hb)
  have HS1 := Lib.hid (HS.out.mono FnR.mono hb)
  have K1 := Lib.hid (K0.out.bel hb)
  have q0 := K1.out.cell1 rfl
  clear hb
  cases mb
  · have hr0 : r = 0 := by
      rw [← hr.out]
      unfold imgSize
      rw [if_neg (by rw [hmb.out]; simp)]
    subst hr0
    go_wp2_with fail
    go_loopw [3, 5] (fun nv kv wr => kv = .int .i64 0 ∧ nv = .int .i64 0 ∧ Hid (Bel W1 wr)) (fun _ kv _ => 0)
    case atStart => exact ⟨rfl, rfl, Lib.hid (Bel.refl _)⟩
    case round =>
      obtain ⟨rfl, rfl, hbr⟩ := hrel
      have q1 := (K1.out.bel hbr.out).cell1 rfl
      by_cases hn0 : 0 < n
      · have hn1 : (0 : Int) < n := by omega
        go_wp2_with fail
        go_ret
        exact ⟨rfl, HB1.out.trans hbr.out⟩
      · obtain rfl : n = 0 := by omega
        go_wp2_with fail
        go_ret
        exact ⟨rfl, HB1.out.trans hbr.out⟩
  have HFI := Lib.hid (fine_of hmb.out)
  have hn8 : n ≤ 8 := by rw [← hn.out]; exact HFI.out.n8
  have hn0 : 0 < n := by rw [← hn.out]; exact HFI.out.n0
  have HSZ := Lib.hid (sz_le HFI.out.c64)
  have HR : Hid (n + sz L n = r) := Lib.hid (by
    rw [← hr.out]
    unfold imgSize
    rw [if_pos hmb.out, hn.out])
  obtain ⟨b, o, rfl⟩ := HS1.out.addr (by rw [hn.out]; exact hn0)
  go_wp2_with fail
  go_loopw [3, 5] (fun nv kv wr => ∃ k s : Nat, kv = .int .i64 k ∧ k ≤ n ∧ nv = .int .i64 s ∧ Hid (k + sz L k = s) ∧ Hid (Bel W1 wr)) (fun _ kv _ => n - (intOf kv).toNat)
  case atStart => exact ⟨0, 0, rfl, Nat.zero_le _, rfl, Lib.hid rfl, Lib.hid (Bel.refl _)⟩
  case round =>
    obtain ⟨k, s, rfl, hkn, rfl, hs, hbr⟩ := hrel
    have q1 := (K1.out.bel hbr.out).cell1 rfl
    clear q0
    by_cases hke : k = n
    · subst hke
      have hrs : s = r := by rw [← hs.out, HR.out]
      subst hrs
      go_wp2_with fail
      go_ret
      exact ⟨rfl, HB1.out.trans hbr.out⟩
    · have hk1 : k < n := by omega
      have hk2 : (k : Int) < n := by omega
      have k0 : 0 ≤ (k : Int) := by omega
      have ek : IntKind.i64.wrap ((k : Int) + 1) = (k : Int) + 1 := wrap_i64 (by omega) (by omega)
      have hkL : k < L.length := by rw [hn.out]; exact hk1
      obtain ⟨Ak, ck, d0, d1, hsk⟩ := fn_cells (HS1.out.mono FnR.mono hbr.out) k hkL
      obtain ⟨m, hm⟩ : ∃ m, Hid ((L[k]).code.length = m) := ⟨_, Lib.hid rfl⟩
      rw [hm.out] at d1
      have hm64 : m ≤ 64 := by rw [← hm.out]; exact HFI.out.c64 _ (List.getElem_mem hkL)
      have hs2 : s ≤ 1000 := by
        have := HSZ.out k (by rw [hn.out]; exact hkn)
        have := hs.out
        omega
      have e1 : IntKind.i64.wrap ((s : Int) + 1) = (s : Int) + 1 := wrap_i64 (by omega) (by omega)
      have es : IntKind.i64.wrap ((s : Int) + 1 + (m : Int)) = (s : Int) + 1 + m := wrap_i64 (by omega) (by omega)
      have HN : Hid (k + 1 + sz L (k + 1) = s + 1 + m) := Lib.hid (by
        rw [sz, code_nth hkL, hm.out, ← hs.out]
        omega)
      clear hsk hke
      go_wp2
      go_roundw
      case rel => exact ⟨k + 1, s + 1 + m, by simp, by omega, by simp, HN, Lib.hid (by repeat (first | exact hbr.out | refine Bel.alloc ?_ _))⟩
      case measure => simp [intOf]; omega

/-- What the document's word answers. -/
def word14 (n m : Nat) (base at' : Int) (k : Nat) (i : InstD) : Int × Bool :=
  if (goTo n m base at' k i).2 = true then ((wputD i (goTo n m base at' k i).1).1, true) else (0, false)
set_option maxHeartbeats 4000000 in
set_option maxRecDepth 100000 in
theorem rword_any (A : Option Addr) (c n : Nat) (L : List FnD) (j k : Nat) (base at' : Int) (w : World) (hL : Sl FnR 2 w A c L) (hn : Hid (L.length = n)) (hn8 : n ≤ 8) (hjL : j < L.length) (l : List InstD) (hl : Hid ((L[j]).code = l)) (hok : Hid (∀ k, k < l.length → (l[k]!).okB = true)) (m : Nat) (HLM : Hid (l.length = m)) (hm64 : m ≤ 64) (hk1 : k < m) (hbs : 0 ≤ base ∧ base ≤ 2000) (ha : 0 ≤ at' ∧ at' ≤ 4000) (v : Int) (rb : Bool) (hr : Hid (word14 n m base at' k l[k]! = (v, rb))) :
    Calls Try.prog 55 #[.agg #[.slice A n c], .int .i64 j, .int .i64 k, .int .i64 base, .int .i64 at'] w fun e w' => e = .returned (.tuple #[.int .u64 v, .bool rb]) ∧ Bel w w' := by
  have HBa := Lib.hid ((Bel.refl w).alloc (.cells #[.slice A n c] 24))
  have hS := hL.mono FnR.mono HBa.out
  have K0 := Lib.hid (One.new w 24 (.slice A n c))
  have hjn : j < n := by rw [← hn.out]; exact hjL
  obtain ⟨b, o, rfl⟩ := hL.addr (by omega)
  obtain ⟨Al, cl, -, d1, hsl⟩ := fn_cells hS j hjL
  rw [hl.out] at d1 hsl
  rw [HLM.out] at d1
  have j2 : (j : Int) < n := by omega
  have j0 : 0 ≤ (j : Int) := by omega
  have hk2 : (k : Int) < m := by omega
  have k0 : 0 ≤ (k : Int) := by omega
  have hkl : k < l.length := by rw [HLM.out]; exact hk1
  obtain ⟨bl, ol, hAl⟩ := hsl.addr (by omega)
  subst hAl
  have hic := inst_cells hsl k hkl
  have hxw : (l[k]).Wf := by
    obtain ⟨_, _, _, _, _, ⟨-, hxw⟩, -⟩ := hsl.get k hkl
    exact hxw
  have HOK := Lib.hid (hok.out k hkl)
  obtain ⟨x, HX⟩ : ∃ x, Hid (l[k]! = x) := ⟨_, Lib.hid rfl⟩
  have hx2 : l[k] = x := by rw [← getElem!_pos l k hkl]; exact HX.out
  rw [hx2] at hxw
  rw [HX.out] at hic HOK hr
  have HXW := Lib.hid hxw
  obtain ⟨op, fn, dst, src, reg, off, imm⟩ := x
  have HOF : 0 ≤ off ∧ off ≤ 65535 := off_rng HOK.out
  have him := HXW.out.imm
  have i0 : 0 ≤ imm := him.lo
  have i1 : imm < 4294967296 := him.hi
  have c0 := hic 0 (.int .i64 op) rfl
  have c1 := hic 1 (.int .i64 fn) rfl
  have c2 := hic 2 (.int .i64 dst) rfl
  have c3 := hic 3 (.int .i64 src) rfl
  have c4 := hic 4 (.bool reg) rfl
  have c5 := hic 5 (.int .i64 off) rfl
  have c6 := hic 6 (.int .u32 imm) rfl
  rw [Nat.add_zero] at c0
  have q0 := K0.out.cell1 rfl
  have b0 := World.block_lt_of_cell? _ _ d1
  simp only [World.size_alloc] at b0
  clear hic hx2 hxw hsl hL hS
  have hre := hr.out
  unfold word14 goTo at hre
  have et : IntKind.i64.wrap ((k : Int) + off) = k + off := wrap_i64 (by omega) (by omega)
  have et1 : IntKind.i64.wrap ((k : Int) + off + 1) = k + off + 1 := wrap_i64 (by omega) (by omega)
  have ea : IntKind.i64.wrap (at' + ((k : Int) + off + 1)) = at' + k + off + 1 := by rw [wrap_i64 (by omega) (by omega)]; omega
  have em : IntKind.i64.wrap imm = imm := wrap_i64 (by omega) (by omega)
  have eb : IntKind.i64.wrap (base + imm) = base + imm := wrap_i64 (by omega) (by omega)
  go_enter Try.func55, Try.ntmps55
  by_cases h1 : op = 1
  · subst h1
    simp only [if_true] at hre
    by_cases h2 : (m : Int) ≤ k + off + 1
    · rw [if_neg (by simp; omega)] at hre
      obtain ⟨rfl, rfl⟩ := Prod.mk.inj hre
      clear hre
      go_wp2_with fail
      go_ret2
      exact ⟨rfl, HBa.out.alloc _⟩
    · rw [if_pos (by simp; omega)] at hre
      obtain ⟨rfl, rfl⟩ := Prod.mk.inj hre
      clear hre
      go_wp2_with fail
      refine (refput_any _ _ _ _ _ _ _ _ _ HXW.out.imm).mono ?_
      rintro e w1 ⟨rfl, hb⟩
      have HBE := Lib.hid ((HBa.out.alloc _).trans hb)
      clear hb
      go_wp2_with fail
      go_ret2
      exact ⟨rfl, HBE.out⟩
  by_cases h6 : op = 6
  · subst h6
    have hre : (if decide (imm < n) = true then ((wputD ⟨6, fn, dst, src, reg, off, imm⟩ (base + imm)).1, true) else (0, false)) = (v, rb) := by
      have h61 : ¬ (6 : Int) = 1 := by decide
      simp only [h61, if_false, if_true] at hre
      exact hre
    by_cases h2 : (n : Int) ≤ imm
    · rw [if_neg (by simp; omega)] at hre
      obtain ⟨rfl, rfl⟩ := Prod.mk.inj hre
      clear hre
      go_wp2_with fail
      go_ret2
      exact ⟨rfl, HBa.out.alloc _⟩
    · rw [if_pos (by simp; omega)] at hre
      obtain ⟨rfl, rfl⟩ := Prod.mk.inj hre
      clear hre
      go_wp2_with fail
      refine (refput_any _ _ _ _ _ _ _ _ _ HXW.out.imm).mono ?_
      rintro e w1 ⟨rfl, hb⟩
      have HBE := Lib.hid ((HBa.out.alloc _).trans hb)
      clear hb
      go_wp2_with fail
      go_ret2
      exact ⟨rfl, HBE.out⟩
  rw [if_neg h1, if_neg h6] at hre
  simp only [if_true] at hre
  obtain ⟨rfl, rfl⟩ := Prod.mk.inj hre
  clear hre
  go_wp2_with fail
  refine (refput_any _ _ _ _ _ _ _ _ _ HXW.out.imm).mono ?_
  rintro e w1 ⟨rfl, hb⟩
  have HBE := Lib.hid ((HBa.out.alloc _).trans hb)
  clear hb
  go_wp2_with fail
  go_ret2
  exact ⟨rfl, HBE.out⟩
end Go.Proofs.Yteopeocgbfdofaa
set_option linter.unusedVariables false
set_option linter.unusedSimpArgs false
namespace Go.Proofs.Yteopeocgbfdofaa
open Go.RowKit

theorem imgCode_step {n : Nat} {l : List InstD} {base at' : Int} {k : Nat} {ws : List Int} {v : Int} (h : imgCode n l base at' k = some ws) (hr : word14 n l.length base at' k l[k]! = (v, true)) : imgCode n l base at' (k + 1) = some (ws ++ [v]) := by
  rw [imgCode, h]
  unfold word14 at hr
  by_cases e : (goTo n l.length base at' k l[k]!).2 = true
  · rw [if_pos e] at hr
    obtain ⟨rfl, -⟩ := Prod.mk.inj hr
    simp only [Option.bind_some, if_pos e]
  · rw [if_neg e] at hr
    exact absurd (Prod.mk.inj hr).2 (by decide)
theorem imgCode_halt {n : Nat} {l : List InstD} {base at' : Int} {k : Nat} {ws : List Int} {v : Int} (h : imgCode n l base at' k = some ws) (hr : word14 n l.length base at' k l[k]! = (v, false)) : imgCode n l base at' (k + 1) = none := by
  rw [imgCode, h]
  unfold word14 at hr
  by_cases e : (goTo n l.length base at' k l[k]!).2 = true
  · rw [if_pos e] at hr
    exact absurd (Prod.mk.inj hr).2 (by decide)
  · simp only [Option.bind_some, if_neg e]
set_option maxHeartbeats 8000000 in
set_option maxRecDepth 100000 in
theorem rcode_any (A : Option Addr) (c n : Nat) (L : List FnD) (j : Nat) (base at' : Int) (w : World) (hL : Sl FnR 2 w A c L) (hn : Hid (L.length = n)) (hn8 : n ≤ 8) (hjL : j < L.length) (l : List InstD) (hl : Hid ((L[j]).code = l)) (hok : Hid (∀ k, k < l.length → (l[k]!).okB = true)) (m : Nat) (HLM : Hid (l.length = m)) (hm64 : m ≤ 64) (hbs : 0 ≤ base ∧ base ≤ 2000) (ha : 0 ≤ at' ∧ at' ≤ 4000) (r : Option (List Int)) (hr : Hid (imgCode n l base at' l.length = r)) :
    Calls Try.prog 35 #[.agg #[.slice A n c], .int .i64 j, .int .i64 base, .int .i64 at'] w fun e w' => ((r = none ∧ e = .returned (.tuple #[.slice none 0 0, .int .i64 8])) ∨ ∃ ws A' c', r = some ws ∧ ws.length = m ∧ e = .returned (.tuple #[.slice A' m c', .int .i64 0]) ∧ w'.ownsRow w.heap.size 37 1 (.slice A' m c') m (ws.map (Value.int .u64))) ∧ Bel w w' := by
  have HBa := Lib.hid ((Bel.refl w).alloc (.cells #[.slice A n c] 24))
  have HS := Lib.hid (hL.mono FnR.mono HBa.out)
  have K0 := Lib.hid (One.new w 24 (.slice A n c))
  have hjn : j < n := by rw [← hn.out]; exact hjL
  have j2 : (j : Int) < n := by omega
  have j0 : 0 ≤ (j : Int) := by omega
  obtain ⟨b, o, rfl⟩ := hL.addr (by omega)
  clear hL
  go_enter Try.func35, Try.ntmps35
  go_wp2_with fail
  have hws : w.heap.size ≤ (w.alloc (.cells #[.slice (some ⟨b, o, none⟩) n c] 24)).heap.size := HBa.out.size
  generalize w.alloc (.cells #[.slice (some ⟨b, o, none⟩) n c] 24) = W5 at *
  obtain ⟨g, hgw⟩ : ∃ g, w.heap.size = g := ⟨_, rfl⟩
  rw [hgw] at K0
  simp only [hgw]
  obtain ⟨base0, hb0⟩ : ∃ base0, W5.heap.size = base0 := ⟨_, rfl⟩
  have hwg : w.heap.size ≤ base0 := by rw [← hb0]; exact hws
  have HST : Hid (W5.ownsRow base0 37 1 (.slice none 0 0) 0 (([] : List Int).map (Value.int .u64))) := Lib.hid ⟨by simp, .inl ⟨rfl, rfl⟩⟩
  have HHL := hl
  clear hws
  go_loopw [10, 11] (fun ov kv wr => ∃ (k : Nat) (ws : List Int) (AO : Option Addr) (cO : Nat), kv = .int .i64 k ∧ k ≤ m ∧ ov = .slice AO k cO ∧ Hid (imgCode n l base at' k = some ws) ∧ Hid (ws.length = k) ∧ Hid (wr.ownsRow base0 37 1 (.slice AO k cO) k (ws.map (Value.int .u64))) ∧ Hid (Bel W5 wr) ∧ base0 ≤ wr.heap.size) (fun _ kv _ => m - (intOf kv).toNat)
  case atStart => exact ⟨0, [], none, 0, rfl, Nat.zero_le _, rfl, Lib.hid rfl, Lib.hid rfl, HST, Lib.hid (Bel.refl _), Nat.le_of_eq hb0.symm⟩
  case round =>
    clear HST
    obtain ⟨k, ws, AO, cO, rfl, hkm, rfl, HWS, HWL, HOW, HBr, hsz⟩ := hrel
    have hsr := HS.out.mono FnR.mono HBr.out
    obtain ⟨Al, cl, -, d1, -⟩ := fn_cells hsr j hjL
    rw [hl.out, HLM.out] at d1
    have q0 := (K0.out.bel HBr.out).cell1 rfl
    have HSR := Lib.hid hsr
    clear hsr
    by_cases hke : k = m
    · subst hke
      have HRS : Hid (r = some ws) := Lib.hid (by rw [← hr.out, HLM.out, HWS.out])
      have HBE := Lib.hid (HBa.out.trans HBr.out)
      have HOE := Lib.hid (own_mono HOW.out (show w.heap.size ≤ base0 by omega))
      go_wp2_with fail
      go_ret2
      exact ⟨.inr ⟨ws, AO, cO, HRS.out, HWL.out, rfl, HOE.out⟩, HBE.out⟩
    · have hk1 : k < m := by omega
      have hk2 : (k : Int) < m := by omega
      have k0 : 0 ≤ (k : Int) := by omega
      have ek : IntKind.i64.wrap ((k : Int) + 1) = (k : Int) + 1 := wrap_i64 (by omega) (by omega)
      obtain ⟨v, rb, hv⟩ : ∃ v rb, Hid (word14 n m base at' k l[k]! = (v, rb)) := ⟨_, _, Lib.hid rfl⟩
      clear hke
      go_wp2_with fail
      refine (rword_any (some ⟨b, o, none⟩) c n L j k base at' _ HSR.out hn hn8 hjL l hl hok m HLM hm64 hk1 hbs ha v rb hv).mono ?_
      rintro e wB ⟨rfl, hbB⟩
      cases rb
      · have HRN : Hid (r = none) := Lib.hid (by
          rw [← hr.out]
          exact imgCode_none (imgCode_halt HWS.out (by rw [HLM.out]; exact hv.out)) _ (by rw [HLM.out]; omega))
        have HBE := Lib.hid (HBa.out.trans (HBr.out.trans hbB))
        clear hbB
        go_wp2_with fail
        go_ret2
        exact ⟨.inl ⟨HRN.out, rfl⟩, HBE.out⟩
      · have HN := Lib.hid (imgCode_step HWS.out (v := v) (by rw [HLM.out]; exact hv.out))
        have hC := hbB.alloc (.cells #[.int .u64 v] 37)
        have HOC := Lib.hid (own_belI HOW.out hC)
        have HNEW : Hid (∀ j u, [Value.int .u64 v][j]? = some u → (wB.alloc (.cells #[.int .u64 v] 37)).cell? ((⟨wB.heap.size, 0, none⟩ : Addr).add j) = some u) := Lib.hid (cell_one_new _ _ _)
        have hszC : base0 ≤ (wB.alloc (.cells #[.int .u64 v] 37)).heap.size := Nat.le_trans hsz hC.size
        have HBC := Lib.hid (HBr.out.trans hC)
        clear hbB hC
        go_wp2_with (show wpList _ _ _ ({ dst := _, op := .call { callee := .builtin .append, args := _, argTypes := _ }, type := _, pos := _, after := _, guard := none } :: _) _ _; refine at_append base0 37 (.int .u64 0) 1 8 Try.underlying27 info_u64 rfl (by decide) (.slice AO k cO) k (ws.map (Value.int .u64)) (by rfl) HOC.out ⟨wB.heap.size, 0, none⟩ 1 1 [.int .u64 v] (by rfl) rfl HNEW.out (by simp [Value.oneCell']) (by simp only [maxLen]; omega) (by omega) hszC W5 (Nat.le_of_eq hb0) HBC.out rfl ?_; intro v8 w8 o8 g8 b8 at8; have HB8 := Lib.hid b8; have hs8 := Nat.le_trans hszC g8.size; obtain ⟨A8, c8, rfl⟩ := own_sliceI o8; have HO8 := Lib.hid o8; clear o8 g8 b8 at8)
        go_wp2
        go_roundw
        case rel => exact ⟨k + 1, ws ++ [v], A8, c8, by simp, by omega, rfl, HN, Lib.hid (by rw [List.length_append, HWL.out]; rfl), Lib.hid (by rw [List.map_append]; exact HO8.out), HB8, hs8⟩
        case measure => simp [intOf]; omega
end Go.Proofs.Yteopeocgbfdofaa
set_option linter.unusedVariables false
set_option linter.unusedSimpArgs false
namespace Go.Proofs.Yteopeocgbfdofaa
open Go.RowKit

set_option maxHeartbeats 8000000 in
set_option maxRecDepth 100000 in
theorem rmake_any (A : Option Addr) (c n : Nat) (L : List FnD) (base : Int) (w : World) (hL : Sl FnR 2 w A c L) (hn : Hid (L.length = n)) (ws : List Int) (er : Int) (m : Nat) (hr : Hid (imgMake L base = (ws, er))) (hm : Hid (ws.length = m)) :
    Calls Try.prog 15 #[.agg #[.slice A n c], .int .i64 base] w fun e w' => ∃ A' c', e = .returned (.tuple #[.slice A' m c', .int .i64 er]) ∧ Sl (IntR .u64) 1 w' A' c' ws ∧ Bel w w' := by
  have HBa := Lib.hid ((Bel.refl w).alloc (.cells #[.slice A n c] 24))
  have HS := Lib.hid (hL.mono FnR.mono HBa.out)
  have K0 := Lib.hid (One.new w 24 (.slice A n c))
  obtain ⟨mb, hmb⟩ : ∃ mb, Hid (progMay L = mb) := ⟨_, Lib.hid rfl⟩
  have HIMM := Lib.hid (sl_imm hL)
  have HRE := hr.out
  unfold imgMake at HRE
  clear hL
  go_enter Try.func15, Try.ntmps15
  go_wp2_with fail
  generalize w.alloc (.cells #[.slice A n c] 24) = W0 at *
  generalize w.heap.size = g at *
  refine (refProgMay_any A c n L mb _ HS.out hn hmb).mono ?_
  rintro e W1 ⟨rfl, hb⟩
  have HB1 := Lib.hid (HBa.out.trans hb)
  have HS1 := Lib.hid (HS.out.mono FnR.mono hb)
  have K1 := Lib.hid (K0.out.bel hb)
  have q0 := K1.out.cell1 rfl
  clear hb
  cases mb
  · rw [if_neg (by rw [hmb.out]; simp)] at HRE
    obtain ⟨rfl, rfl⟩ := Prod.mk.inj HRE
    obtain rfl : m = 0 := hm.out.symm
    clear HRE
    go_wp2_with fail
    go_ret2
    exact ⟨none, 0, rfl, Sl.nil _ _ _, HB1.out⟩
  by_cases hb0 : base < 0
  · rw [if_neg (by omega)] at HRE
    obtain ⟨rfl, rfl⟩ := Prod.mk.inj HRE
    obtain rfl : m = 0 := hm.out.symm
    clear HRE
    go_wp2_with fail
    go_ret2
    exact ⟨none, 0, rfl, Sl.nil _ _ _, HB1.out⟩
  by_cases hbh : 1024 < base
  · rw [if_neg (by omega)] at HRE
    obtain ⟨rfl, rfl⟩ := Prod.mk.inj HRE
    obtain rfl : m = 0 := hm.out.symm
    clear HRE
    go_wp2_with fail
    go_ret2
    exact ⟨none, 0, rfl, Sl.nil _ _ _, HB1.out⟩
  obtain ⟨r, hrs⟩ : ∃ r, Hid (imgSize L = r) := ⟨_, Lib.hid rfl⟩
  have HFI := Lib.hid (fine_of hmb.out)
  have hn8 : n ≤ 8 := by rw [← hn.out]; exact HFI.out.n8
  have hn0 : 0 < n := by rw [← hn.out]; exact HFI.out.n0
  have HSZL := Lib.hid (sz_le HFI.out.c64)
  have hr520 : r ≤ 520 := by
    rw [← hrs.out]
    unfold imgSize
    rw [if_pos hmb.out, hn.out]
    have := HSZL.out n (by rw [hn.out]; exact Nat.le_refl _)
    omega
  have er1 : IntKind.i64.wrap (base + (r : Int)) = base + (r : Int) := wrap_i64 (by omega) (by omega)
  go_wp2_with fail
  refine (rsize_any A c n L _ HS1.out hn r hrs).mono ?_
  rintro e W2 ⟨rfl, hb⟩
  have HB2 := Lib.hid (HB1.out.trans hb)
  have HS2 := Lib.hid (HS1.out.mono FnR.mono hb)
  have K2 := Lib.hid (K1.out.bel hb)
  have q2 := K2.out.cell1 rfl
  clear hb q0
  by_cases hbt : 1024 < base + (r : Int)
  · rw [if_neg (by rw [hrs.out]; omega)] at HRE
    obtain ⟨rfl, rfl⟩ := Prod.mk.inj HRE
    obtain rfl : m = 0 := hm.out.symm
    clear HRE
    go_wp2_with fail
    go_ret2
    exact ⟨none, 0, rfl, Sl.nil _ _ _, HB2.out⟩
  rw [if_pos ⟨hmb.out, by omega, by rw [hrs.out]; omega⟩, hn.out] at HRE
  have hb1 : 0 ≤ base := by omega
  have hb2 : base ≤ 1024 := by omega
  have en : IntKind.i64.wrap (base + (n : Int)) = base + n := wrap_i64 (by omega) (by omega)
  have HRE2 := Lib.hid HRE
  clear HRE
  obtain ⟨b, o, rfl⟩ := HS2.out.addr (by rw [hn.out]; exact hn0)
  go_wp2_with fail
  obtain ⟨base0, hbz⟩ : ∃ base0, W2.heap.size = base0 := ⟨_, rfl⟩
  have hwb : W2.heap.size ≤ base0 := Nat.le_of_eq hbz
  have HST : Hid (W2.ownsRow base0 37 1 (.slice none 0 0) 0 ((mkDoors L base 0).map (Value.int .u64))) := Lib.hid ⟨by simp [mkDoors], .inl ⟨rfl, rfl⟩⟩
  have HAT0 : Hid (atOf L base 0 = base + n) := Lib.hid (by unfold atOf; rw [hn.out]; simp [sz])
  clear hbh er1 hbt hb0
  go_loopw [7, 8, 9] (fun ov av kv wr => ∃ (k : Nat) (t : Int) (AO : Option Addr) (cO : Nat), kv = .int .i64 k ∧ k ≤ n ∧ ov = .slice AO k cO ∧ av = .int .i64 t ∧ Hid (atOf L base k = t) ∧ Hid (wr.ownsRow base0 37 1 (.slice AO k cO) k ((mkDoors L base k).map (Value.int .u64))) ∧ Hid (Bel W2 wr) ∧ base0 ≤ wr.heap.size) (fun _ _ kv _ => n - (intOf kv).toNat)
  case atStart => exact ⟨0, base + n, none, 0, rfl, Nat.zero_le _, rfl, rfl, HAT0, HST, Lib.hid (Bel.refl _), Nat.le_of_eq hbz.symm⟩
  case round =>
    clear HST
    obtain ⟨k, t, AO, cO, rfl, hkn, rfl, rfl, hat, HOW, HBr, hsz⟩ := hrel
    have q3 := (K2.out.bel HBr.out).cell1 rfl
    clear q2
    by_cases hke : k = n
    · subst hke
      have HOW1 := HOW
      have HCS0 : Hid (mkCodes L base 0 = some ([] : List (List Int))) := Lib.hid rfl
      have HOS : Hid (wr.ownsRow base0 37 1 (.slice AO k cO) k ((mkDoors L base k ++ ([] : List (List Int)).flatten).map (Value.int .u64))) := Lib.hid (by simpa using HOW.out)
      have hsz1 := hsz
      have HW1 := HBr
      have hq0 : k + ([] : List (List Int)).flatten.length = k := by simp
      have HWX : Hid (∃ W1', W1' = wr) := Lib.hid ⟨_, rfl⟩
      clear hat HOW
      go_wp2_with fail
      go_loopw [7, 8, 10] (fun ov av kv wr => ∃ (j q : Nat) (t : Int) (AO : Option Addr) (cO : Nat) (cs : List (List Int)), kv = .int .i64 j ∧ j ≤ k ∧ ov = .slice AO q cO ∧ av = .int .i64 t ∧ Hid (atOf L base j = t) ∧ Hid (mkCodes L base j = some cs) ∧ Hid (k + cs.flatten.length = q) ∧ Hid (wr.ownsRow base0 37 1 (.slice AO q cO) q ((mkDoors L base k ++ cs.flatten).map (Value.int .u64))) ∧ Hid (Bel W2 wr) ∧ base0 ≤ wr.heap.size) (fun _ _ kv _ => k - (intOf kv).toNat)
      case atStart => exact ⟨0, k, base + k, AO, cO, [], rfl, Nat.zero_le _, rfl, rfl, HAT0, HCS0, Lib.hid hq0, HOS, HW1, hsz1⟩
      case round =>
        clear HOS HCS0 hq0 HW1 hsz1 HWX HBr hsz q3 HOW1 hkn
        obtain ⟨j, q, t, AO, cO, cs, rfl, hjn, rfl, rfl, hat, HMC, hq, HOW, HBr, hsz⟩ := hrel
        have q3 := (K2.out.bel HBr.out).cell1 rfl
        have HBE := Lib.hid (HB2.out.trans HBr.out)
        obtain ⟨a1, a2, a3, a4⟩ := mkCodes_all HIMM.out j _ (by rw [hn.out]; exact hjn) HMC.out
        have hszj := HSZL.out j (by rw [hn.out]; exact hjn)
        have hq5 : q ≤ 520 := by rw [← hq.out, a2]; omega
        by_cases hje : j = k
        · subst hje
          have hre := HRE2.out
          rw [HMC.out] at hre
          obtain ⟨hws, rfl⟩ := Prod.mk.inj hre
          have hown := HOW.out
          rw [hws] at hown
          have hqm : q = m := by rw [← hm.out, ← hws, List.length_append, mkDoors_len, hq.out]
          subst hqm
          obtain ⟨AE, cE, e1, hs⟩ := sl_ownI (l := ws) (by rw [hm.out]; exact hown) (fun x hx => by
            rw [← hws] at hx
            rcases List.mem_append.1 hx with h | h
            · exact wf_u64R (mkDoors_rng L base j x h)
            · obtain ⟨p, hp, hxp⟩ := List.mem_flatten.1 h
              exact wf_u64R (a4 p hp x hxp))
          rw [hm.out] at e1
          simp only [Value.slice.injEq, true_and] at e1
          obtain ⟨rfl, rfl⟩ := e1
          have HSE := Lib.hid hs
          clear hs hown hre hws a1 a2 a3 a4 HRE2
          go_wp2_with fail
          go_ret2
          exact ⟨AO, cO, rfl, HSE.out, HBE.out⟩
        · have hk1 : j < k := by omega
          have hk2 : (j : Int) < k := by omega
          have k0 : 0 ≤ (j : Int) := by omega
          have ek : IntKind.i64.wrap ((j : Int) + 1) = (j : Int) + 1 := wrap_i64 (by omega) (by omega)
          have hkL : j < L.length := by rw [hn.out]; exact hk1
          obtain ⟨l, hl⟩ : ∃ l, Hid ((L[j]).code = l) := ⟨_, Lib.hid rfl⟩
          obtain ⟨ml, hml⟩ : ∃ ml, Hid (l.length = ml) := ⟨_, Lib.hid rfl⟩
          have h64 := HFI.out.c64 _ (List.getElem_mem hkL)
          have hc0 := HFI.out.c0 _ (List.getElem_mem hkL)
          have hok := HFI.out.ok j hkL
          have him := HIMM.out _ (List.getElem_mem hkL)
          rw [hl.out] at h64 hok hc0 him
          rw [hml.out] at h64 hc0
          have HOK := Lib.hid hok
          have HIM := Lib.hid him
          have ht : 0 ≤ t ∧ t ≤ 2000 := by
            have h1 := hat.out
            unfold atOf at h1
            rw [hn.out] at h1
            omega
          have et : IntKind.i64.wrap (t + (ml : Int)) = t + ml := wrap_i64 (by omega) (by omega)
          have HAT : Hid (atOf L base (j + 1) = t + ml) := Lib.hid (by
            rw [← hat.out]
            unfold atOf
            rw [sz, code_nth hkL, hl.out, hml.out]
            omega)
          obtain ⟨rk, hrk⟩ : ∃ rk, Hid (imgCode k l base t l.length = rk) := ⟨_, Lib.hid rfl⟩
          have HSTEP : Hid (mkCodes L base (j + 1) = rk.bind fun c => some (cs ++ [c])) := Lib.hid (by
            rw [mkCodes, HMC.out, code_nth hkL, hl.out, hn.out, hat.out, hrk.out]
            rfl)
          have HSF := Lib.hid (HS2.out.mono FnR.mono HBr.out)
          clear hok him hje a1 a2 a3 a4 hszj
          go_wp2_with fail
          refine (rcode_any _ c k L j base t _ HSF.out hn hn8 hkL l hl HOK ml hml h64 ⟨hb1, by omega⟩ ⟨ht.1, by omega⟩ rk hrk).mono ?_
          rintro e wB ⟨hcase, hbB⟩
          have HBB := Lib.hid (HBE.out.trans hbB)
          rcases hcase with ⟨rfl, rfl⟩ | ⟨wk, A', c', rfl, hwl, rfl, hown⟩
          · have hre := HRE2.out
            rw [mkCodes_none (k := j + 1) HSTEP.out k (by omega)] at hre
            obtain ⟨rfl, rfl⟩ := Prod.mk.inj hre
            obtain rfl : m = 0 := hm.out.symm
            clear hre hbB
            go_wp2_with fail
            go_ret2
            exact ⟨none, 0, rfl, Sl.nil _ _ _, HBB.out⟩
          obtain ⟨-, hrng⟩ := imgCode_rng (n := k) (base := base) (at' := t) HIM.out l.length wk (Nat.le_refl _) hrk.out
          obtain ⟨AE, cE, e1, hs⟩ := sl_ownI (l := wk) (by rw [hwl]; exact hown) (fun x hx => wf_u64R (hrng x hx))
          rw [hwl] at e1
          simp only [Value.slice.injEq, true_and] at e1
          obtain ⟨rfl, rfl⟩ := e1
          obtain ⟨bp, op, hAp⟩ := hs.addr (by rw [hwl]; exact hc0)
          subst hAp
          have HC := Lib.hid (ws_cells hs)
          have HCL : Hid ((wk.map (Value.int .u64)).length = ml * 1) := Lib.hid (by rw [List.length_map, hwl, Nat.mul_one])
          have HN : Hid (mkCodes L base (j + 1) = some (cs ++ [wk])) := HSTEP
          have HQ : Hid (k + (cs ++ [wk]).flatten.length = q + ml) := Lib.hid (by
            rw [List.flatten_append, List.length_append, ← hq.out]
            simp [hwl]
            omega)
          have HFL : Hid ((mkDoors L base k ++ (cs ++ [wk]).flatten).map (Value.int .u64) = (mkDoors L base k ++ cs.flatten).map (Value.int .u64) ++ wk.map (Value.int .u64)) := Lib.hid (by
            rw [List.flatten_append]
            simp [List.append_assoc])
          have HOB := Lib.hid (own_belI HOW.out hbB)
          have hszB : base0 ≤ wB.heap.size := Nat.le_trans hsz hbB.size
          have HBW := Lib.hid (HBr.out.trans hbB)
          clear hs hown hwl hbB hrng
          go_wp2_with (show wpList _ _ _ ({ dst := _, op := .call { callee := .builtin .append, args := _, argTypes := _ }, type := _, pos := _, after := _, guard := none } :: _) _ _; refine at_append base0 37 (.int .u64 0) 1 8 Try.underlying27 info_u64 rfl (by decide) (.slice AO q cO) q ((mkDoors L base k ++ cs.flatten).map (Value.int .u64)) (by rfl) HOB.out ⟨bp, op, none⟩ ml c' (wk.map (Value.int .u64)) (by rfl) HCL.out HC.out (u64s_oneI _) (by simp only [maxLen]; omega) (by omega) hszB W2 hwb HBW.out rfl ?_; intro v8 w8 o8 g8 b8 at8; have HB8 := Lib.hid b8; have hs8 := Nat.le_trans hszB g8.size; obtain ⟨A8, c8, rfl⟩ := own_sliceI o8; have HO8 := Lib.hid o8; clear o8 g8 b8 at8)
          go_wp2
          go_roundw
          case rel => exact ⟨j + 1, q + ml, t + ml, A8, c8, cs ++ [wk], by simp, by omega, by simp, by simp, HAT, HN, HQ, Lib.hid (by rw [HFL.out]; simpa using HO8.out), HB8, hs8⟩
          case measure => simp [intOf]; omega
    · have hk1 : k < n := by omega
      have hk2 : (k : Int) < n := by omega
      have k0 : 0 ≤ (k : Int) := by omega
      have ek : IntKind.i64.wrap ((k : Int) + 1) = (k : Int) + 1 := wrap_i64 (by omega) (by omega)
      have hkL : k < L.length := by rw [hn.out]; exact hk1
      obtain ⟨dv, ev, hdv⟩ : ∃ dv ev, Hid (wput 1 0 0 0 false 0 0 t = (dv, ev)) := ⟨_, _, Lib.hid rfl⟩
      have HMD : Hid (mkDoors L base (k + 1) = mkDoors L base k ++ [dv]) := Lib.hid (by rw [mkDoors, hat.out, hdv.out])
      clear hke
      go_wp2_with fail
      refine (rdoor_any t dv ev _ hdv).mono ?_
      rintro e wB ⟨rfl, hbB⟩
      have hC := hbB.alloc (.cells #[.int .u64 dv] 37)
      have HOC := Lib.hid (own_belI HOW.out hC)
      have HNEW : Hid (∀ j u, [Value.int .u64 dv][j]? = some u → (wB.alloc (.cells #[.int .u64 dv] 37)).cell? ((⟨wB.heap.size, 0, none⟩ : Addr).add j) = some u) := Lib.hid (cell_one_new _ _ _)
      have hszC : base0 ≤ (wB.alloc (.cells #[.int .u64 dv] 37)).heap.size := Nat.le_trans hsz hC.size
      have HBC := Lib.hid (HBr.out.trans hC)
      have hsr := HS2.out.mono FnR.mono HBC.out
      clear hbB hC
      obtain ⟨ml, hml⟩ : ∃ ml, Hid ((L[k]).code.length = ml) := ⟨_, Lib.hid rfl⟩
      have h64 := HFI.out.c64 _ (List.getElem_mem hkL)
      rw [hml.out] at h64
      have ht : 0 ≤ t ∧ t ≤ 2000 := by
        have h1 := hat.out
        unfold atOf at h1
        rw [hn.out] at h1
        have h2 := HSZL.out k (by rw [hn.out]; exact hkn)
        omega
      have et : IntKind.i64.wrap (t + (ml : Int)) = t + ml := wrap_i64 (by omega) (by omega)
      have HAT : Hid (atOf L base (k + 1) = t + ml) := Lib.hid (by
        rw [← hat.out]
        unfold atOf
        rw [sz, code_nth hkL, hml.out]
        omega)
      go_wp2_with (show wpList _ _ _ ({ dst := _, op := .call { callee := .builtin .append, args := _, argTypes := _ }, type := _, pos := _, after := _, guard := none } :: _) _ _; refine at_append base0 37 (.int .u64 0) 1 8 Try.underlying27 info_u64 rfl (by decide) (.slice AO k cO) k ((mkDoors L base k).map (Value.int .u64)) (by rfl) HOC.out ⟨wB.heap.size, 0, none⟩ 1 1 [.int .u64 dv] (by rfl) rfl HNEW.out (by simp [Value.oneCell']) (by simp only [maxLen]; omega) (by omega) hszC W2 hwb HBC.out rfl ?_; intro v8 w8 o8 g8 b8 at8; have HB8 := Lib.hid b8; have hs8 := Nat.le_trans hszC g8.size; obtain ⟨A8, c8, rfl⟩ := own_sliceI o8; have HO8 := Lib.hid o8; have q5 := (K2.out.bel HB8.out).cell1 rfl; obtain ⟨Ak, ck, -, d1, -⟩ := fn_cells (HS2.out.mono FnR.mono HB8.out) k hkL; rw [hml.out] at d1; clear o8 g8 b8 at8)
      go_wp2
      go_roundw
      case rel => exact ⟨k + 1, t + ml, A8, c8, by simp, by omega, by simp, by simp, HAT, Lib.hid (by rw [HMD.out, List.map_append]; exact HO8.out), HB8, hs8⟩
      case measure => simp [intOf]; omega
end Go.Proofs.Yteopeocgbfdofaa
set_option linter.unusedVariables false
set_option linter.unusedSimpArgs false
namespace Go.Proofs.Yteopeocgbfdofaa
open Go.RowKit

def imgPart (L : List FnD) (fn base at' : Int) : List Int × Int :=
  if progMay L = true ∧ 0 ≤ fn ∧ fn < L.length ∧ 0 ≤ base ∧ base ≤ 1024 - (L.length : Int) ∧ 0 ≤ at' ∧ at' ≤ 1024 - (((L.map FnD.code)[fn.toNat]!).length : Int) then
    match imgCode L.length ((L.map FnD.code)[fn.toNat]!) base at' ((L.map FnD.code)[fn.toNat]!).length with
    | none => ([], 8)
    | some ws => (ws, 0)
  else ([], 1)
set_option maxHeartbeats 4000000 in
set_option maxRecDepth 100000 in
theorem part_any (A : Option Addr) (c n : Nat) (L : List FnD) (fn base at' : Int) (w : World) (hL : Sl FnR 2 w A c L) (hn : Hid (L.length = n)) (ws : List Int) (er : Int) (m : Nat) (hr : Hid (imgPart L fn base at' = (ws, er))) (hm : Hid (ws.length = m)) :
    Calls Try.prog 17 #[.agg #[.slice A n c], .int .i64 fn, .int .i64 base, .int .i64 at'] w fun e w' => ∃ A' c', e = .returned (.tuple #[.slice A' m c', .int .i64 er]) ∧ Sl (IntR .u64) 1 w' A' c' ws ∧ Bel w w' := by
  have HBa := Lib.hid ((Bel.refl w).alloc (.cells #[.slice A n c] 24))
  have HS := Lib.hid (hL.mono FnR.mono HBa.out)
  have K0 := Lib.hid (One.new w 24 (.slice A n c))
  obtain ⟨mb, hmb⟩ : ∃ mb, Hid (progMay L = mb) := ⟨_, Lib.hid rfl⟩
  have HIMM := Lib.hid (sl_imm hL)
  have HRE := hr.out
  unfold imgPart at HRE
  clear hL
  go_enter Try.func17, Try.ntmps17
  go_wp2_with fail
  generalize w.alloc (.cells #[.slice A n c] 24) = W0 at *
  generalize w.heap.size = g at *
  refine (progmay_any A c n L mb _ HS.out hn hmb).mono ?_
  rintro e W1 ⟨rfl, hb⟩
  have HB1 := Lib.hid (HBa.out.trans hb)
  have HS1 := Lib.hid (HS.out.mono FnR.mono hb)
  have K1 := Lib.hid (K0.out.bel hb)
  have q0 := K1.out.cell1 rfl
  clear hb
  cases mb
  · rw [if_neg (by rw [hmb.out]; simp)] at HRE
    obtain ⟨rfl, rfl⟩ := Prod.mk.inj HRE
    obtain rfl : m = 0 := hm.out.symm
    clear HRE
    go_wp2_with fail
    go_ret2
    exact ⟨none, 0, rfl, Sl.nil _ _ _, HB1.out⟩
  by_cases h1 : fn < 0
  · rw [if_neg (by omega)] at HRE
    obtain ⟨rfl, rfl⟩ := Prod.mk.inj HRE
    obtain rfl : m = 0 := hm.out.symm
    clear HRE
    go_wp2_with fail
    go_ret2
    exact ⟨none, 0, rfl, Sl.nil _ _ _, HB1.out⟩
  by_cases h2 : (n : Int) ≤ fn
  · rw [if_neg (by rw [hn.out]; omega)] at HRE
    obtain ⟨rfl, rfl⟩ := Prod.mk.inj HRE
    obtain rfl : m = 0 := hm.out.symm
    clear HRE
    go_wp2_with fail
    go_ret2
    exact ⟨none, 0, rfl, Sl.nil _ _ _, HB1.out⟩
  by_cases h3 : base < 0
  · rw [if_neg (by omega)] at HRE
    obtain ⟨rfl, rfl⟩ := Prod.mk.inj HRE
    obtain rfl : m = 0 := hm.out.symm
    clear HRE
    go_wp2_with fail
    go_ret2
    exact ⟨none, 0, rfl, Sl.nil _ _ _, HB1.out⟩
  have HFI := Lib.hid (fine_of hmb.out)
  have hn8 : n ≤ 8 := by rw [← hn.out]; exact HFI.out.n8
  have hn0 : 0 < n := by rw [← hn.out]; exact HFI.out.n0
  have er1 : IntKind.i64.wrap (1024 - (n : Int)) = 1024 - (n : Int) := wrap_i64 (by omega) (by omega)
  have emin : min (1023 : Int) (1024 - (n : Int)) = 1024 - (n : Int) := by omega
  by_cases h4 : 1024 - (n : Int) < base
  · rw [if_neg (by rw [hn.out]; omega)] at HRE
    obtain ⟨rfl, rfl⟩ := Prod.mk.inj HRE
    obtain rfl : m = 0 := hm.out.symm
    clear HRE
    go_wp2_with fail
    go_ret2
    exact ⟨none, 0, rfl, Sl.nil _ _ _, HB1.out⟩
  by_cases h5 : at' < 0
  · rw [if_neg (by omega)] at HRE
    obtain ⟨rfl, rfl⟩ := Prod.mk.inj HRE
    obtain rfl : m = 0 := hm.out.symm
    clear HRE
    go_wp2_with fail
    go_ret2
    exact ⟨none, 0, rfl, Sl.nil _ _ _, HB1.out⟩
  obtain ⟨j, rfl⟩ : ∃ j : Nat, fn = j := ⟨fn.toNat, by omega⟩
  have hjn : j < n := by omega
  have hjL : j < L.length := by rw [hn.out]; exact hjn
  obtain ⟨b, o, rfl⟩ := HS1.out.addr (by rw [hn.out]; exact hn0)
  obtain ⟨Ak, ck, -, d1, -⟩ := fn_cells HS1.out j hjL
  obtain ⟨l, hl⟩ : ∃ l, Hid ((L[j]).code = l) := ⟨_, Lib.hid rfl⟩
  obtain ⟨ml, hml⟩ : ∃ ml, Hid (l.length = ml) := ⟨_, Lib.hid rfl⟩
  have h64 := HFI.out.c64 _ (List.getElem_mem hjL)
  have hc0 := HFI.out.c0 _ (List.getElem_mem hjL)
  have hok := HFI.out.ok j hjL
  rw [hl.out] at d1 h64 hok hc0
  rw [hml.out] at d1 h64 hc0
  have HOK := Lib.hid hok
  have HIM : Hid (∀ i ∈ l, U32 i.imm) := Lib.hid (fun i hi => HIMM.out _ (List.getElem_mem hjL) i (by rw [hl.out]; exact hi))
  rw [show ((j : Int)).toNat = j from rfl, code_nth hjL, hl.out, hml.out, hn.out] at HRE
  have em1 : IntKind.i64.wrap (1024 - (ml : Int)) = 1024 - (ml : Int) := wrap_i64 (by omega) (by omega)
  have hjn2 : (j : Int) < n := by omega
  have hj0 : (0 : Int) ≤ j := by omega
  clear hok h1
  by_cases h6 : 1024 - (ml : Int) < at'
  · rw [if_neg (by omega)] at HRE
    obtain ⟨rfl, rfl⟩ := Prod.mk.inj HRE
    obtain rfl : m = 0 := hm.out.symm
    clear HRE
    go_wp2_with fail
    go_ret2
    exact ⟨none, 0, rfl, Sl.nil _ _ _, HB1.out⟩
  rw [if_pos ⟨hmb.out, by omega, by omega, by omega, by omega, by omega, by omega⟩] at HRE
  obtain ⟨rk, hrk⟩ : ∃ rk, Hid (imgCode n l base at' l.length = rk) := ⟨_, Lib.hid rfl⟩
  have hrk2 := hrk.out
  rw [hml.out] at hrk2
  rw [hrk2] at HRE
  have HRE2 := Lib.hid HRE
  clear HRE hrk2
  go_wp2_with fail
  refine (code_any _ c n L j base at' _ HS1.out hn hn8 hjL l hl HOK ml hml h64 ⟨by omega, by omega⟩ ⟨by omega, by omega⟩ rk hrk).mono ?_
  rintro e wB ⟨hcase, hbB⟩
  have HBB := Lib.hid (HB1.out.trans hbB)
  rcases hcase with ⟨rfl, rfl⟩ | ⟨wk, A', c', rfl, hwl, rfl, hown⟩
  · obtain ⟨rfl, rfl⟩ := Prod.mk.inj HRE2.out
    obtain rfl : m = 0 := hm.out.symm
    clear hbB HRE2
    go_wp2_with fail
    go_ret2
    exact ⟨none, 0, rfl, Sl.nil _ _ _, HBB.out⟩
  obtain ⟨rfl, rfl⟩ := Prod.mk.inj HRE2.out
  obtain rfl : m = ml := by rw [← hm.out, hwl]
  obtain ⟨-, hrng⟩ := imgCode_rng (n := n) (base := base) (at' := at') HIM.out l.length wk (Nat.le_refl _) hrk.out
  obtain ⟨AE, cE, e1, hs⟩ := sl_ownI (l := wk) (by rw [hwl]; exact hown) (fun x hx => wf_u64R (hrng x hx))
  rw [hwl] at e1
  simp only [Value.slice.injEq, true_and] at e1
  obtain ⟨rfl, rfl⟩ := e1
  have HSE := Lib.hid hs
  clear hs hown hbB HRE2 hrng
  go_wp2_with fail
  go_ret2
  exact ⟨A', c', rfl, HSE.out, HBB.out⟩
end Go.Proofs.Yteopeocgbfdofaa
set_option linter.unusedVariables false
set_option linter.unusedSimpArgs false
namespace Go.Proofs.Yteopeocgbfdofaa
open Go.RowKit

set_option maxHeartbeats 2000000 in
theorem long_same (A B : Option Addr) (n c d : Nat) (l : List Int) (w : World) (h1 : Sl (IntR .u64) 1 w A c l) (h2 : Sl (IntR .u64) 1 w B d l) (hn : Hid (l.length = n)) :
    Calls Try.prog 16 #[.slice A n c, .slice B n d] w fun e w' => e = .returned (.bool true) ∧ Bel w w' := by
  have H1 := Lib.hid h1
  have H2 := Lib.hid h2
  have hnn : n ≤ 9223372036854775807 := by rw [← hn.out]; have := h1.le; have := h1.big; simp only [maxLen] at this; omega
  clear h1 h2
  go_enter Try.func16, Try.ntmps16
  go_wp2_with fail
  go_loopw [5] (fun kv wr => ∃ k : Nat, kv = .int .i64 k ∧ k ≤ n ∧ Hid (Bel w wr)) (fun kv _ => n - (intOf kv).toNat)
  case atStart => exact ⟨0, rfl, Nat.zero_le _, Lib.hid (Bel.refl _)⟩
  case round =>
    obtain ⟨k, rfl, hkn, hbr⟩ := hrel
    by_cases hke : k = n
    · subst hke
      go_wp2_with fail
      go_ret
      exact ⟨rfl, hbr.out⟩
    · have hk1 : k < n := by omega
      have hk2 : (k : Int) < n := by omega
      have k0 : 0 ≤ (k : Int) := by omega
      have ek : IntKind.i64.wrap ((k : Int) + 1) = (k : Int) + 1 := wrap_i64 (by omega) (by omega)
      have hkL : k < l.length := by rw [hn.out]; exact hk1
      have s1 := H1.out.mono (IntR.mono _) hbr.out
      have s2 := H2.out.mono (IntR.mono _) hbr.out
      obtain ⟨x, hx⟩ : ∃ x, Hid (l.getD k 0 = x) := ⟨_, Lib.hid rfl⟩
      obtain ⟨b1, o1, rfl, d1⟩ := s1.int_cell (by omega)
      obtain ⟨b2, o2, rfl, d2⟩ := s2.int_cell (by omega)
      have c1 := (d1 k hkL).1
      have c2 := (d2 k hkL).1
      rw [hx.out] at c1 c2
      have hxx : (x != x) = false := by simp
      clear s1 s2 hke d1 d2
      go_wp2_with fail
      go_quiet (fail)
      go_wp2_with fail
      go_roundw
      case rel => exact ⟨k + 1, by simp, by omega, Lib.hid (by repeat (first | exact hbr.out | refine Bel.drewN ?_ _ | refine Bel.drew ?_ | refine Bel.alloc ?_ _))⟩
      case measure => simp [intOf]; omega
set_option maxHeartbeats 4000000 in
set_option maxRecDepth 100000 in
theorem rpart_any (A : Option Addr) (c n : Nat) (L : List FnD) (fn base at' : Int) (w : World) (hL : Sl FnR 2 w A c L) (hn : Hid (L.length = n)) (ws : List Int) (er : Int) (m : Nat) (hr : Hid (imgPart L fn base at' = (ws, er))) (hm : Hid (ws.length = m)) :
    Calls Try.prog 18 #[.agg #[.slice A n c], .int .i64 fn, .int .i64 base, .int .i64 at'] w fun e w' => ∃ A' c', e = .returned (.tuple #[.slice A' m c', .int .i64 er]) ∧ Sl (IntR .u64) 1 w' A' c' ws ∧ Bel w w' := by
  have HBa := Lib.hid ((Bel.refl w).alloc (.cells #[.slice A n c] 24))
  have HS := Lib.hid (hL.mono FnR.mono HBa.out)
  have K0 := Lib.hid (One.new w 24 (.slice A n c))
  obtain ⟨mb, hmb⟩ : ∃ mb, Hid (progMay L = mb) := ⟨_, Lib.hid rfl⟩
  have HIMM := Lib.hid (sl_imm hL)
  have HRE := hr.out
  unfold imgPart at HRE
  clear hL
  go_enter Try.func18, Try.ntmps18
  go_wp2_with fail
  generalize w.alloc (.cells #[.slice A n c] 24) = W0 at *
  generalize w.heap.size = g at *
  refine (refProgMay_any A c n L mb _ HS.out hn hmb).mono ?_
  rintro e W1 ⟨rfl, hb⟩
  have HB1 := Lib.hid (HBa.out.trans hb)
  have HS1 := Lib.hid (HS.out.mono FnR.mono hb)
  have K1 := Lib.hid (K0.out.bel hb)
  have q0 := K1.out.cell1 rfl
  clear hb
  cases mb
  · rw [if_neg (by rw [hmb.out]; simp)] at HRE
    obtain ⟨rfl, rfl⟩ := Prod.mk.inj HRE
    obtain rfl : m = 0 := hm.out.symm
    clear HRE
    go_wp2_with fail
    go_ret2
    exact ⟨none, 0, rfl, Sl.nil _ _ _, HB1.out⟩
  by_cases h1 : fn < 0
  · rw [if_neg (by omega)] at HRE
    obtain ⟨rfl, rfl⟩ := Prod.mk.inj HRE
    obtain rfl : m = 0 := hm.out.symm
    clear HRE
    go_wp2_with fail
    go_ret2
    exact ⟨none, 0, rfl, Sl.nil _ _ _, HB1.out⟩
  by_cases h2 : (n : Int) ≤ fn
  · rw [if_neg (by rw [hn.out]; omega)] at HRE
    obtain ⟨rfl, rfl⟩ := Prod.mk.inj HRE
    obtain rfl : m = 0 := hm.out.symm
    clear HRE
    go_wp2_with fail
    go_ret2
    exact ⟨none, 0, rfl, Sl.nil _ _ _, HB1.out⟩
  by_cases h3 : base < 0
  · rw [if_neg (by omega)] at HRE
    obtain ⟨rfl, rfl⟩ := Prod.mk.inj HRE
    obtain rfl : m = 0 := hm.out.symm
    clear HRE
    go_wp2_with fail
    go_ret2
    exact ⟨none, 0, rfl, Sl.nil _ _ _, HB1.out⟩
  have HFI := Lib.hid (fine_of hmb.out)
  have hn8 : n ≤ 8 := by rw [← hn.out]; exact HFI.out.n8
  have hn0 : 0 < n := by rw [← hn.out]; exact HFI.out.n0
  have hh3 : ¬ base < 0 := h3
  by_cases h3b : 1023 < base
  · rw [if_neg (by rw [hn.out]; omega)] at HRE
    obtain ⟨rfl, rfl⟩ := Prod.mk.inj HRE
    obtain rfl : m = 0 := hm.out.symm
    clear HRE
    go_wp2_with fail
    go_ret2
    exact ⟨none, 0, rfl, Sl.nil _ _ _, HB1.out⟩
  have er1 : IntKind.i64.wrap (base + (n : Int)) = base + (n : Int) := wrap_i64 (by omega) (by omega)
  by_cases h4 : 1024 < base + (n : Int)
  · rw [if_neg (by rw [hn.out]; omega)] at HRE
    obtain ⟨rfl, rfl⟩ := Prod.mk.inj HRE
    obtain rfl : m = 0 := hm.out.symm
    clear HRE
    go_wp2_with fail
    go_ret2
    exact ⟨none, 0, rfl, Sl.nil _ _ _, HB1.out⟩
  by_cases h5 : at' < 0
  · rw [if_neg (by omega)] at HRE
    obtain ⟨rfl, rfl⟩ := Prod.mk.inj HRE
    obtain rfl : m = 0 := hm.out.symm
    clear HRE
    go_wp2_with fail
    go_ret2
    exact ⟨none, 0, rfl, Sl.nil _ _ _, HB1.out⟩
  by_cases h5b : 1024 < at'
  · rw [if_neg (by omega)] at HRE
    obtain ⟨rfl, rfl⟩ := Prod.mk.inj HRE
    obtain rfl : m = 0 := hm.out.symm
    clear HRE
    go_wp2_with fail
    go_ret2
    exact ⟨none, 0, rfl, Sl.nil _ _ _, HB1.out⟩
  obtain ⟨j, rfl⟩ : ∃ j : Nat, fn = j := ⟨fn.toNat, by omega⟩
  have hjn : j < n := by omega
  have hjL : j < L.length := by rw [hn.out]; exact hjn
  obtain ⟨b, o, rfl⟩ := HS1.out.addr (by rw [hn.out]; exact hn0)
  obtain ⟨Ak, ck, -, d1, -⟩ := fn_cells HS1.out j hjL
  obtain ⟨l, hl⟩ : ∃ l, Hid ((L[j]).code = l) := ⟨_, Lib.hid rfl⟩
  obtain ⟨ml, hml⟩ : ∃ ml, Hid (l.length = ml) := ⟨_, Lib.hid rfl⟩
  have h64 := HFI.out.c64 _ (List.getElem_mem hjL)
  have hc0 := HFI.out.c0 _ (List.getElem_mem hjL)
  have hok := HFI.out.ok j hjL
  rw [hl.out] at d1 h64 hok hc0
  rw [hml.out] at d1 h64 hc0
  have HOK := Lib.hid hok
  have HIM : Hid (∀ i ∈ l, U32 i.imm) := Lib.hid (fun i hi => HIMM.out _ (List.getElem_mem hjL) i (by rw [hl.out]; exact hi))
  rw [show ((j : Int)).toNat = j from rfl, code_nth hjL, hl.out, hml.out, hn.out] at HRE
  have em1 : IntKind.i64.wrap (at' + (ml : Int)) = at' + (ml : Int) := wrap_i64 (by omega) (by omega)
  have hjn2 : (j : Int) < n := by omega
  have hj0 : (0 : Int) ≤ j := by omega
  clear hok h1
  by_cases h6 : 1024 < at' + (ml : Int)
  · rw [if_neg (by omega)] at HRE
    obtain ⟨rfl, rfl⟩ := Prod.mk.inj HRE
    obtain rfl : m = 0 := hm.out.symm
    clear HRE
    go_wp2_with fail
    go_ret2
    exact ⟨none, 0, rfl, Sl.nil _ _ _, HB1.out⟩
  rw [if_pos ⟨hmb.out, by omega, by omega, by omega, by omega, by omega, by omega⟩] at HRE
  obtain ⟨rk, hrk⟩ : ∃ rk, Hid (imgCode n l base at' l.length = rk) := ⟨_, Lib.hid rfl⟩
  have hrk2 := hrk.out
  rw [hml.out] at hrk2
  rw [hrk2] at HRE
  have HRE2 := Lib.hid HRE
  clear HRE hrk2
  go_wp2_with fail
  refine (rcode_any _ c n L j base at' _ HS1.out hn hn8 hjL l hl HOK ml hml h64 ⟨by omega, by omega⟩ ⟨by omega, by omega⟩ rk hrk).mono ?_
  rintro e wB ⟨hcase, hbB⟩
  have HBB := Lib.hid (HB1.out.trans hbB)
  rcases hcase with ⟨rfl, rfl⟩ | ⟨wk, A', c', rfl, hwl, rfl, hown⟩
  · obtain ⟨rfl, rfl⟩ := Prod.mk.inj HRE2.out
    obtain rfl : m = 0 := hm.out.symm
    clear hbB HRE2
    go_wp2_with fail
    go_ret2
    exact ⟨none, 0, rfl, Sl.nil _ _ _, HBB.out⟩
  obtain ⟨rfl, rfl⟩ := Prod.mk.inj HRE2.out
  obtain rfl : m = ml := by rw [← hm.out, hwl]
  obtain ⟨-, hrng⟩ := imgCode_rng (n := n) (base := base) (at' := at') HIM.out l.length wk (Nat.le_refl _) hrk.out
  obtain ⟨AE, cE, e1, hs⟩ := sl_ownI (l := wk) (by rw [hwl]; exact hown) (fun x hx => wf_u64R (hrng x hx))
  rw [hwl] at e1
  simp only [Value.slice.injEq, true_and] at e1
  obtain ⟨rfl, rfl⟩ := e1
  have HSE := Lib.hid hs
  clear hs hown hbB HRE2 hrng
  go_wp2_with fail
  go_ret2
  exact ⟨A', c', rfl, HSE.out, HBB.out⟩
end Go.Proofs.Yteopeocgbfdofaa
