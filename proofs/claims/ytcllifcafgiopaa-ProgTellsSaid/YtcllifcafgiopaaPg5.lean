/- prog.Put by its contract. -/
import Derived.Test.YtcllifcafgiopaaPg4
set_option linter.unusedVariables false
set_option linter.unusedSimpArgs false
namespace Go.Proofs.Ytcllifcafgiopaa
open Go.RowKit

/-- The bytes of a program. -/
def progBytes (L : List FnD) : List Int := [88, 86, (L.length : Int)] ++ L.flatMap FnD.bytes
def putP (L : List FnD) : List Int × Int := if progMay L = true then (progBytes L, 0) else ([], 1)
structure ProgOk (L : List FnD) : Prop where
  n0 : 0 < L.length
  n8 : L.length ≤ 8
  a0 : (L.map FnD.args).getD 0 0 = 0
  fine : ∀ j (hj : j < L.length), fnFine L[j] = true
theorem progMay_iff {L : List FnD} : progMay L = true ↔ ProgOk L := by
  unfold progMay
  simp only [Bool.and_eq_true, decide_eq_true_iff, List.all_eq_true]
  constructor
  · rintro ⟨⟨⟨h0, h1⟩, h2⟩, h3⟩
    exact ⟨h0, h1, h2, fun j hj => h3 _ (List.getElem_mem hj)⟩
  · rintro ⟨h0, h1, h2, h3⟩
    refine ⟨⟨⟨h0, h1⟩, h2⟩, fun f hf => ?_⟩
    obtain ⟨j, hj, rfl⟩ := List.mem_iff_getElem.1 hf
    exact h3 j hj
theorem fnFine_facts {f : FnD} (h : fnFine f = true) : 0 ≤ f.args ∧ f.args ≤ 4 ∧ 0 < f.code.length ∧ f.code.length ≤ 64 ∧ ∀ k, k < f.code.length → (f.code[k]!).okB = true := by
  unfold fnFine at h
  simp only [Bool.and_eq_true, decide_eq_true_iff] at h
  obtain ⟨⟨h1, h2⟩, h3⟩ := h
  obtain ⟨m0, m1, m2⟩ := crsMay_facts h3
  exact ⟨h1, h2, m0, m1, m2⟩
theorem fnBytes_len (f : FnD) : f.bytes.length = 2 + 8 * f.code.length := by
  unfold FnD.bytes
  rw [List.length_append, code_le]
  simp
theorem fns_le : ∀ (L : List FnD), (∀ f ∈ L, fnFine f = true) → (L.flatMap FnD.bytes).length ≤ 514 * L.length
  | [], _ => by simp
  | f :: L, h => by
    have ih := fns_le L (fun g hg => h g (List.mem_cons_of_mem _ hg))
    have hf := (fnFine_facts (h f (List.mem_cons_self ..))).2.2.2.1
    rw [List.flatMap_cons, List.length_append, fnBytes_len, List.length_cons]
    omega
theorem fns_take (L : List FnD) {k : Nat} (hk : k < L.length) : (L.take (k + 1)).flatMap FnD.bytes = (L.take k).flatMap FnD.bytes ++ (L[k]).bytes := by
  rw [← List.take_append_getElem hk, List.flatMap_append]
  simp
set_option maxHeartbeats 8000000 in
set_option maxRecDepth 100000 in
theorem progPut_in (A : Option Addr) (c n : Nat) (L : List FnD) (w : World) (h : Sl FnR 2 w A c L) (hn : Hid (L.length = n)) (hm : Hid (progMay L = true)) :
    Calls Try.prog 11 #[.agg #[.slice A n c]] w fun e w' => ∃ v, e = .returned (.tuple #[v, .int .i64 0]) ∧ w'.ownsRow w.heap.size 5 1 v (progBytes L).length (u8s (progBytes L)) ∧ Bel w w' := by
  have HS := Lib.hid h
  have HOK := Lib.hid (progMay_iff.1 hm.out)
  have hn8 : n ≤ 8 := by rw [← hn.out]; exact HOK.out.n8
  clear h
  have hq := cell_fresh w #[.slice A n c] 24 0 (.slice A n c) rfl
  have hbM := Blk.new w 24 #[.slice A n c]
  have HBa := Lib.hid ((Bel.refl w).alloc (.cells #[.slice A n c] 24))
  go_enter Try.func11, Try.ntmps11
  go_wp2_with fail
  refine (progmay_any A c n L true _ (HS.out.mono FnR.mono HBa.out) hn hm).mono ?_
  rintro e w1 ⟨rfl, hb⟩
  have HB1 := HBa.out.trans hb
  have q0 := hb.cell hq
  have hbM1 := (hbM.bel hb).alloc (.cells #[.iface 21 (.int .i32 88), .iface 21 (.int .i32 86), .iface 3 (.int .i64 n)] 20)
  have HBM1 := Lib.hid hbM1
  clear hb hq hbM hbM1
  have hbP := Blk.new w1 20 #[.iface 21 (.int .i32 88), .iface 21 (.int .i32 86), .iface 3 (.int .i64 n)]
  have HB2 := HB1.alloc (.cells #[.iface 21 (.int .i32 88), .iface 21 (.int .i32 86), .iface 3 (.int .i64 n)] 20)
  have hbw := HB2.size
  have HBP := Lib.hid hbP
  have HB2 := Lib.hid HB2
  clear hbP
  go_wp2_with fail
  refine (put_flat [.r 88, .r 86, .i n] 3 w.heap.size _ [] _ _ (World.ownsRow_nil _ _ _ _) (Lib.hid rfl) HBP.out (Lib.hid (by
    intro p hp
    simp only [List.mem_cons, List.not_mem_nil, or_false] at hp
    rcases hp with rfl | rfl | rfl
    · exact ⟨by decide, by decide⟩
    · exact ⟨by decide, by decide⟩
    · exact ⟨by omega, by omega⟩)) hbw (Lib.hid (by simp))).mono ?_
  rintro e w2 ⟨v2, rfl, hp2⟩
  have HP2 : Hid (PutO w.heap.size _ v2 [88, 86, (n : Int)] w2) := Lib.hid hp2
  have HBw2 := Lib.hid (hp2.bel w (Nat.le_refl _) HB2.out)
  have hbM2 := hp2.k8.blk _ _ _ HBM1.out (by decide)
  have q0 : w2.cell? ⟨w.heap.size, 0, none⟩ = some (.slice A n c) := hbM2.cell 0 rfl
  have hbw2 := Nat.le_trans hbw hp2.k8.size
  clear hp2 hbM2 HBM1 HBP HB1 hbw
  go_wp2_with fail
  clear q0
  go_loopw [4, 21] (fun ov iv wr => ∃ k : Nat, iv = .int .i64 k ∧ k ≤ n ∧ PutO w.heap.size w2 ov ([88, 86, (n : Int)] ++ (L.take k).flatMap FnD.bytes) wr) (fun _ iv _ => n - (intOf iv).toNat)
  case atStart => exact ⟨0, rfl, Nat.zero_le _, by simpa using PutO.refl HP2.out.own⟩
  case round =>
    obtain ⟨k, rfl, hk, ho⟩ := hrel
    have HPO := Lib.hid ho
    have HBw := Lib.hid (ho.bel w (Nat.le_refl _) HBw2.out)
    have hbw := Nat.le_trans hbw2 ho.k8.size
    clear ho
    by_cases hkn : k = n
    · subst hkn
      have HF : Hid ([88, 86, (k : Int)] ++ (L.take k).flatMap FnD.bytes = progBytes L) := Lib.hid (by
        rw [List.take_of_length_le (by rw [hn.out]; exact Nat.le_refl _)]
        unfold progBytes
        rw [hn.out])
      have HOW : Hid (wr.ownsRow w.heap.size 5 1 u4 (progBytes L).length (u8s (progBytes L))) := Lib.hid (by
        have := HPO.out.own
        rw [HF.out] at this
        exact this)
      go_wp2_with fail
      go_ret2
      exact ⟨_, rfl, HOW.out, HBw.out⟩
    · have hk1 : k < n := by omega
      have hk2 : (k : Int) < n := by omega
      have k0 : 0 ≤ (k : Int) := by omega
      have ek : IntKind.i64.wrap ((k : Int) + 1) = (k : Int) + 1 := wrap_i64 (by omega) (by omega)
      have hkl : k < L.length := by rw [hn.out]; exact hk1
      obtain ⟨bA, oA, rfl⟩ := HS.out.addr (by rw [hn.out]; omega)
      obtain ⟨A', c', i0, i1, hsc⟩ := fn_cells HS.out k hkl
      have i0 := HBw.out.cell i0
      have i1 := HBw.out.cell i1
      have HFI := Lib.hid (HOK.out.fine k hkl)
      have HTK : Hid ([88, 86, (n : Int)] ++ (L.take (k + 1)).flatMap FnD.bytes = ([88, 86, (n : Int)] ++ (L.take k).flatMap FnD.bytes) ++ (L[k]).bytes) := Lib.hid (by rw [fns_take L hkl, List.append_assoc])
      have hle : ([88, 86, (n : Int)] ++ (L.take k).flatMap FnD.bytes).length ≤ 50000 := by
        have h1 := fns_le (L.take k) (fun f hf => by
          obtain ⟨j, hj, rfl⟩ := List.mem_iff_getElem.1 (List.mem_of_mem_take hf)
          exact HOK.out.fine j hj)
        rw [List.length_take] at h1
        rw [List.length_append]
        simp only [List.length_cons, List.length_nil]
        omega
      obtain ⟨bk, hbk⟩ : ∃ bk, Hid ([88, 86, (n : Int)] ++ (L.take k).flatMap FnD.bytes = bk) := ⟨_, Lib.hid rfl⟩
      rw [hbk.out] at HTK hle
      have HPO : Hid (PutO w.heap.size w2 u4 bk wr) := Lib.hid (by rw [← hbk.out]; exact HPO.out)
      obtain ⟨f, hf⟩ : ∃ f, Hid (L[k] = f) := ⟨_, Lib.hid rfl⟩
      rw [hf.out] at i0 i1 hsc HFI HTK
      clear hf
      obtain ⟨g, l⟩ := f
      simp only at i0 i1 hsc
      obtain ⟨nl, hnl⟩ : ∃ nl, Hid (l.length = nl) := ⟨_, Lib.hid rfl⟩
      rw [hnl.out] at i1
      have HSC := Lib.hid hsc
      have HBX : Bel wr ((wr.alloc (.cells #[.int .i64 g, .slice A' nl c'] 38)).alloc (.cells #[.iface 38 (.agg #[.int .i64 g, .slice A' nl c'])] 20)) := ((Bel.refl wr).alloc _).alloc _
      have hbP := Blk.new (wr.alloc (.cells #[.int .i64 g, .slice A' nl c'] 38)) 20 #[.iface 38 (.agg #[.int .i64 g, .slice A' nl c'])]
      have HPO2 := Lib.hid (HPO.out.to HBX)
      have hbw3 := Nat.le_trans hbw HBX.size
      rw [World.size_alloc] at hbP
      have HBP := Lib.hid hbP
      have HLE := Lib.hid hle
      have HBX := Lib.hid (HBw.out.trans HBX)
      clear hsc hbP hle hkn
      go_wp2_with fail
      refine (put_fn g A' nl c' l w.heap.size _ bk _ w _ HPO2.out.own (Nat.le_refl _) HBX.out HSC.out hnl HBP.out HFI hbw3 HLE).mono ?_
      rintro e w6 ⟨v6, rfl, hp6⟩
      have HP6 := Lib.hid (HPO2.out.trans hp6)
      clear hp6
      go_wp2
      go_roundw
      case rel => exact ⟨k + 1, by simp, by omega, by rw [HTK.out]; exact HP6.out⟩
      case measure => simp [intOf]; omega
theorem progPut_no (A : Option Addr) (c n : Nat) (L : List FnD) (w : World) (h : Sl FnR 2 w A c L) (hn : Hid (L.length = n)) (hm : Hid (progMay L = false)) :
    Calls Try.prog 11 #[.agg #[.slice A n c]] w fun e w' => e = .returned (.tuple #[.slice none 0 0, .int .i64 1]) ∧ Bel w w' := by
  have HS := Lib.hid h
  clear h
  have HBa := Lib.hid ((Bel.refl w).alloc (.cells #[.slice A n c] 24))
  go_enter Try.func11, Try.ntmps11
  go_wp2_with fail
  refine (progmay_any A c n L false _ (HS.out.mono FnR.mono HBa.out) hn hm).mono ?_
  rintro e w1 ⟨rfl, hb⟩
  have HB1 := HBa.out.trans hb
  clear hb
  go_wp2_with fail
  go_ret2
  exact ⟨rfl, HB1⟩
theorem code_wf : ∀ (l : List InstD), (∀ k, k < l.length → (l[k]!).okB = true) → (∀ k, k < l.length → U32 (l[k]!).imm) → ∀ x ∈ l.flatMap InstD.put, 0 ≤ x ∧ x < 256
  | [], _, _, x, hx => by simp at hx
  | i :: l, h1, h2, x, hx => by
    rw [List.flatMap_cons, List.mem_append] at hx
    rcases hx with hx | hx
    · exact put_range (i := i) (h1 0 (by simp)) (h2 0 (by simp)) x hx
    · exact code_wf l (fun k hk => h1 (k + 1) (by simpa using hk)) (fun k hk => h2 (k + 1) (by simpa using hk)) x hx
theorem fn_wf {f : FnD} (h : fnFine f = true) (h2 : ∀ k, k < f.code.length → U32 (f.code[k]!).imm) : ∀ x ∈ f.bytes, 0 ≤ x ∧ x < 256 := by
  intro x hx
  obtain ⟨a0, a4, m0, m1, m2⟩ := fnFine_facts h
  unfold FnD.bytes at hx
  rw [List.mem_append] at hx
  rcases hx with hx | hx
  · simp only [List.mem_cons, List.not_mem_nil, or_false] at hx
    rcases hx with rfl | rfl <;> omega
  · exact code_wf f.code m2 h2 x hx
theorem Sl.fn_imm {w : World} {A : Option Addr} {c : Nat} {L : List FnD} (h : Sl FnR 2 w A c L) (j : Nat) (hj : j < L.length) : ∀ k, k < (L[j]).code.length → U32 ((L[j]).code[k]!).imm := by
  intro k hk
  obtain ⟨b, off, cs, -, -, ⟨A', c', -, hs, -⟩, -⟩ := h.get j hj
  obtain ⟨b', off', cs', -, -, ⟨-, hw⟩, -⟩ := hs.get k hk
  rw [getElem!_pos _ k hk]
  exact hw.imm
theorem progBytes_range {w : World} {A : Option Addr} {c : Nat} {L : List FnD} (h : Sl FnR 2 w A c L) (hp : progMay L = true) : ∀ x ∈ progBytes L, 0 ≤ x ∧ x < 256 := by
  intro x hx
  have hok := progMay_iff.1 hp
  have h8 := hok.n8
  unfold progBytes at hx
  rw [List.mem_append] at hx
  rcases hx with hx | hx
  · simp only [List.mem_cons, List.not_mem_nil, or_false] at hx
    rcases hx with rfl | rfl | rfl <;> omega
  · obtain ⟨f, hf, hx⟩ := List.mem_flatMap.1 hx
    obtain ⟨j, hj, rfl⟩ := List.mem_iff_getElem.1 hf
    exact fn_wf (hok.fine j hj) (h.fn_imm j hj) x hx
theorem progBytes_wf {w : World} {A : Option Addr} {c : Nat} {L : List FnD} (h : Sl FnR 2 w A c L) (hp : progMay L = true) : ∀ x ∈ progBytes L, (Lit.int .u8 x).wf = true := fun x hx => wf_u8 (progBytes_range h hp x hx)
theorem progPut_any (A : Option Addr) (c n : Nat) (L : List FnD) (w : World) (bs : List Int) (m : Nat) (e : Int) (h : Sl FnR 2 w A c L) (hn : Hid (L.length = n)) (hr : Hid (putP L = (bs, e))) (hm : Hid (bs.length = m)) :
    Calls Try.prog 11 #[.agg #[.slice A n c]] w fun e' w' => ∃ A' c', e' = .returned (.tuple #[.slice A' m c', .int .i64 e]) ∧ Sl (IntR .u8) 1 w' A' c' bs ∧ Bel w w' := by
  by_cases hp : progMay L = true
  · have e1 : putP L = (progBytes L, 0) := if_pos hp
    rw [hr.out] at e1
    simp only [Prod.mk.injEq] at e1
    obtain ⟨rfl, rfl⟩ := e1
    refine (progPut_in A c n L w h hn (Lib.hid hp)).mono ?_
    rintro e w' ⟨v, rfl, ho, hb⟩
    obtain ⟨A', c', rfl, hs⟩ := sl_of_own ho (progBytes_wf h hp)
    exact ⟨A', c', by rw [hm.out], hs, hb⟩
  · have e1 : putP L = ([], 1) := if_neg hp
    rw [hr.out] at e1
    simp only [Prod.mk.injEq] at e1
    obtain ⟨rfl, rfl⟩ := e1
    obtain rfl : m = 0 := hm.out.symm
    refine (progPut_no A c n L w h hn (Lib.hid (by simpa using hp))).mono ?_
    rintro e w' ⟨rfl, hb⟩
    exact ⟨none, 0, rfl, Sl.nil _ _ _, hb⟩
end Go.Proofs.Ytcllifcafgiopaa
