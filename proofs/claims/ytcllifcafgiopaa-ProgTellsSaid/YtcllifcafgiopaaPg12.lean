/- What is put is got, and what is got is put: programs, plain. -/
import Derived.Test.YtcllifcafgiopaaPg11
set_option linter.unusedVariables false
set_option linter.unusedSimpArgs false
namespace Go.Proofs.Ytcllifcafgiopaa
open Go.RowKit

theorem tk_app (a t : List Int) {n : Nat} (hn : n = a.length) : tkL (a ++ t) false n = a ∧ tkR (a ++ t) false n = t ∧ tkB (a ++ t) false n = false := by
  subst hn
  have h : ¬ (false = true ∨ (a ++ t).length < a.length) := by
    rw [List.length_append]
    simp
  refine ⟨?_, ?_, ?_⟩
  · unfold tkL
    rw [if_neg h, List.take_left']
    rfl
  · unfold tkR
    rw [if_neg h, List.drop_left']
    rfl
  · unfold tkB
    rw [decide_eq_false (fun hh => h (.inr hh))]
    rfl
theorem rd_cons (x : Int) (t : List Int) : rdX (x :: t) false = x ∧ tkR (x :: t) false 1 = t ∧ tkB (x :: t) false 1 = false := by
  obtain ⟨h1, h2, h3⟩ := tk_app [x] t (n := 1) rfl
  refine ⟨?_, h2, h3⟩
  unfold rdX
  rw [show x :: t = [x] ++ t from rfl, h1]
  rfl
def InsOk (i : InstD) : Prop := i.okB = true ∧ U32 i.imm
theorem rdI_put {i : InstD} (h : InsOk i) (t : List Int) : rdI (i.put ++ t) false = (i, t, false) := by
  obtain ⟨h1, h2, h3⟩ := tk_app i.put t (n := 8) rfl
  have hg : getR i.put = (i, 0) := getR_put h.1 h.2
  unfold rdI rdB
  rw [h1, h2, h3, hg]
  rfl
theorem rdCode_put : ∀ (l acc : List InstD) (t : List Int), (∀ i ∈ l, InsOk i) → rdCode l.length acc (l.flatMap InstD.put ++ t) false = (acc ++ l, t, false)
  | [], acc, t, _ => by simp [rdCode]
  | i :: l, acc, t, h => by
    rw [List.length_cons, List.flatMap_cons, List.append_assoc, rdCode, rdI_put (h i (List.mem_cons_self ..))]
    simp only [Bool.false_eq_true, if_false]
    rw [rdCode_put l _ t (fun k hk => h k (List.mem_cons_of_mem _ hk)), List.append_assoc]
    rfl
theorem rdF_put (f : FnD) (t : List Int) (h : ∀ i ∈ f.code, InsOk i) : rdF (f.bytes ++ t) false = (f, t, false) := by
  obtain ⟨a, code⟩ := f
  have e : FnD.bytes ⟨a, code⟩ ++ t = a :: ((code.length : Int) :: (code.flatMap InstD.put ++ t)) := by
    unfold FnD.bytes
    simp
  rw [e]
  obtain ⟨h1, h2, h3⟩ := rd_cons a ((code.length : Int) :: (code.flatMap InstD.put ++ t))
  obtain ⟨k1, k2, k3⟩ := rd_cons (code.length : Int) (code.flatMap InstD.put ++ t)
  unfold rdF
  rw [h1, h2, h3, k1, k2, k3, Int.toNat_natCast, rdCode_put code [] t h]
  rfl
def ProgIns (L : List FnD) : Prop := ∀ f ∈ L, ∀ i ∈ f.code, InsOk i
theorem rdFns_put : ∀ (L acc : List FnD) (t : List Int), ProgIns L → rdFns L.length acc (L.flatMap FnD.bytes ++ t) false = (acc ++ L, t, false)
  | [], acc, t, _ => by simp [rdFns]
  | f :: L, acc, t, h => by
    rw [List.length_cons, List.flatMap_cons, List.append_assoc, rdFns, rdF_put f _ (h f (List.mem_cons_self ..))]
    simp only [Bool.false_eq_true, if_false]
    rw [rdFns_put L _ t (fun k hk => h k (List.mem_cons_of_mem _ hk)), List.append_assoc]
    rfl
/-- What is put is got; with something behind it is not. -/
theorem getP_put {L : List FnD} (hi : ProgIns L) (t : List Int) : getP (progBytes L ++ t) = if t = [] ∧ progMay L = true then (L, 0) else ([], 7) := by
  have e : progBytes L ++ t = 88 :: (86 :: ((L.length : Int) :: (L.flatMap FnD.bytes ++ t))) := by
    unfold progBytes
    simp
  rw [e]
  obtain ⟨h1, h2, h3⟩ := rd_cons 88 (86 :: ((L.length : Int) :: (L.flatMap FnD.bytes ++ t)))
  obtain ⟨k1, k2, k3⟩ := rd_cons 86 ((L.length : Int) :: (L.flatMap FnD.bytes ++ t))
  obtain ⟨m1, m2, m3⟩ := rd_cons (L.length : Int) (L.flatMap FnD.bytes ++ t)
  unfold getP getP2
  rw [h1, h2, h3, k1, k2, k3, m1, m2, m3, Int.toNat_natCast, rdFns_put L [] t hi]
  simp
/-! ### What is got is put -/
theorem tkB_false {l : List Int} {bad : Bool} {n : Nat} (h : tkB l bad n = false) : bad = false ∧ n ≤ l.length ∧ tkL l bad n = l.take n ∧ tkR l bad n = l.drop n := by
  unfold tkB at h
  rw [Bool.or_eq_false_iff] at h
  obtain ⟨rfl, h2⟩ := h
  have h3 := of_decide_eq_false h2
  have h4 : ¬ (false = true ∨ l.length < n) := by
    rintro (h | h)
    · cases h
    · exact h3 h
  exact ⟨rfl, by omega, if_neg h4, if_neg h4⟩
theorem rd_one {l : List Int} {bad : Bool} (h : tkB l bad 1 = false) : bad = false ∧ l = rdX l bad :: tkR l bad 1 := by
  obtain ⟨rfl, h1, h2, h3⟩ := tkB_false h
  refine ⟨rfl, ?_⟩
  unfold rdX
  rw [h2, h3]
  cases l with
  | nil => simp at h1
  | cons x l => rfl
theorem rdI_back {l : List Int} {bad : Bool} (hl : ∀ x ∈ l, 0 ≤ x ∧ x < 256) (h : (rdI l bad).2.2 = false) : bad = false ∧ l = (rdI l bad).1.put ++ (rdI l bad).2.1 ∧ InsOk (rdI l bad).1 := by
  unfold rdI rdB at h ⊢
  simp only [Bool.or_eq_false_iff] at h
  obtain ⟨h1, h2⟩ := h
  obtain ⟨rfl, k1, k2, k3⟩ := tkB_false h1
  have h3 := of_decide_eq_false h2
  rw [k2] at h3 ⊢
  rw [k3]
  have hr : ∀ x ∈ l.take 8, 0 ≤ x ∧ x < 256 := fun x hx => hl x (List.mem_of_mem_take hx)
  have hlen : (l.take 8).length = 8 := by rw [List.length_take]; omega
  have hwf := getR_wf hr
  unfold getR at h3 hwf ⊢
  rw [if_pos hlen] at h3 hwf ⊢
  by_cases hm : (getI (l.take 8)).may = true
  · rw [if_pos hm] at hwf ⊢
    refine ⟨rfl, ?_, hm, hwf.imm⟩
    simp only
    rw [put_get hlen hr hm, List.take_append_drop]
  · rw [if_neg hm] at h3
    simp at h3
theorem rdCode_back : ∀ (n : Nat) (acc : List InstD) (l : List Int) (bad : Bool), (∀ x ∈ l, 0 ≤ x ∧ x < 256) → (rdCode n acc l bad).2.2 = false → bad = false ∧ ∃ ns, (rdCode n acc l bad).1 = acc ++ ns ∧ ns.length = n ∧ l = ns.flatMap InstD.put ++ (rdCode n acc l bad).2.1 ∧ ∀ i ∈ ns, InsOk i
  | 0, acc, l, bad, _, h => ⟨h, [], by simp [rdCode], rfl, by simp [rdCode], fun i hi => by cases hi⟩
  | n + 1, acc, l, bad, hl, h => by
    unfold rdCode at h ⊢
    by_cases hb : bad = true
    · rw [if_pos hb] at h
      simp only at h
      rw [hb] at h
      cases h
    · rw [if_neg hb] at h ⊢
      obtain ⟨e1, ns, e2, e3, e4, e5⟩ := rdCode_back n _ (rdI l bad).2.1 _ (show ∀ x ∈ (rdI l bad).2.1, 0 ≤ x ∧ x < 256 from tkR_mem hl bad 8) h
      obtain ⟨e6, e7, e8⟩ := rdI_back hl e1
      refine ⟨e6, (rdI l bad).1 :: ns, ?_, by rw [List.length_cons, e3], ?_, fun i hi => ?_⟩
      · rw [e2, List.append_assoc]
        rfl
      · rw [List.flatMap_cons, List.append_assoc, ← e4]
        exact e7
      · rcases List.mem_cons.1 hi with rfl | hi
        · exact e8
        · exact e5 i hi
theorem rdF_back {l : List Int} {bad : Bool} (hl : ∀ x ∈ l, 0 ≤ x ∧ x < 256) (h : (rdF l bad).2.2 = false) : bad = false ∧ l = (rdF l bad).1.bytes ++ (rdF l bad).2.1 ∧ ∀ i ∈ (rdF l bad).1.code, InsOk i := by
  have hl1 := tkR_mem hl bad 1
  have hl2 := tkR_mem hl1 (tkB l bad 1) 1
  have hx := rdX_mem hl1 (tkB l bad 1)
  obtain ⟨e1, ns, e2, e3, e4, e5⟩ := rdCode_back (rdX (tkR l bad 1) (tkB l bad 1)).toNat [] _ _ hl2 h
  obtain ⟨e6, e7⟩ := rd_one e1
  obtain ⟨e8, e9⟩ := rd_one e6
  have hlen : (ns.length : Int) = rdX (tkR l bad 1) (tkB l bad 1) := by rw [e3]; omega
  unfold rdF
  simp only
  rw [e2]
  refine ⟨e8, ?_, fun i hi => e5 i (by simpa using hi)⟩
  unfold FnD.bytes
  simp only [List.nil_append]
  rw [hlen, List.append_assoc, ← e4]
  rw [show ([rdX l bad, rdX (tkR l bad 1) (tkB l bad 1)] ++ tkR (tkR l bad 1) (tkB l bad 1) 1) = rdX l bad :: (rdX (tkR l bad 1) (tkB l bad 1) :: tkR (tkR l bad 1) (tkB l bad 1) 1) from rfl, ← e7]
  exact e9
theorem rdFns_back : ∀ (n : Nat) (acc : List FnD) (l : List Int) (bad : Bool), (∀ x ∈ l, 0 ≤ x ∧ x < 256) → (rdFns n acc l bad).2.2 = false → bad = false ∧ ∃ ns, (rdFns n acc l bad).1 = acc ++ ns ∧ ns.length = n ∧ l = ns.flatMap FnD.bytes ++ (rdFns n acc l bad).2.1 ∧ ProgIns ns
  | 0, acc, l, bad, _, h => ⟨h, [], by simp [rdFns], rfl, by simp [rdFns], fun i hi => by cases hi⟩
  | n + 1, acc, l, bad, hl, h => by
    unfold rdFns at h ⊢
    by_cases hb : bad = true
    · rw [if_pos hb] at h
      simp only at h
      rw [hb] at h
      cases h
    · rw [if_neg hb] at h ⊢
      obtain ⟨e1, ns, e2, e3, e4, e5⟩ := rdFns_back n _ _ _ (rdF_wf hl bad).2.2 h
      obtain ⟨e6, e7, e8⟩ := rdF_back hl e1
      refine ⟨e6, (rdF l bad).1 :: ns, ?_, by rw [List.length_cons, e3], ?_, fun i hi => ?_⟩
      · rw [e2, List.append_assoc]
        rfl
      · rw [List.flatMap_cons, List.append_assoc, ← e4]
        exact e7
      · rcases List.mem_cons.1 hi with rfl | hi
        · exact e8
        · exact e5 i hi
/-- What is got is put as the same bytes, and may be. -/
theorem getP_back {bs : List Int} (hl : ∀ x ∈ bs, 0 ≤ x ∧ x < 256) {L : List FnD} (h : getP bs = (L, 0)) : progMay L = true ∧ bs = progBytes L ∧ ProgIns L := by
  unfold getP at h
  split at h
  · rename_i hh
    obtain ⟨h88, h86⟩ := hh
    simp only at h
    split at h
    · rename_i hg
      obtain ⟨g1, g2, g3⟩ := hg
      simp only [Prod.mk.injEq, and_true] at h
      subst h
      have hl1 := tkR_mem hl false 1
      have hl2 := tkR_mem hl1 (tkB bs false 1) 1
      have hl3 := tkR_mem hl2 (tkB (tkR bs false 1) (tkB bs false 1) 1) 1
      have hx := rdX_mem hl2 (tkB (tkR bs false 1) (tkB bs false 1) 1)
      obtain ⟨e1, ns, e2, e3, e4, e5⟩ := rdFns_back _ [] _ _ hl3 g1
      obtain ⟨e6, e7⟩ := rd_one e1
      obtain ⟨e8, e9⟩ := rd_one e6
      obtain ⟨e10, e11⟩ := rd_one e8
      refine ⟨g3, ?_, ?_⟩
      · unfold progBytes
        unfold getP2 at g2 ⊢
        rw [g2] at e4
        rw [e2, List.nil_append]
        have hlen : (ns.length : Int) = rdX (tkR (tkR bs false 1) (tkB bs false 1) 1) (tkB (tkR bs false 1) (tkB bs false 1) 1) := by rw [e3]; omega
        rw [List.append_nil] at e4
        rw [hlen, ← e4]
        rw [h88] at e11
        rw [h86] at e9
        rw [show ([88, 86, rdX (tkR (tkR bs false 1) (tkB bs false 1) 1) (tkB (tkR bs false 1) (tkB bs false 1) 1)] ++ tkR (tkR (tkR bs false 1) (tkB bs false 1) 1) (tkB (tkR bs false 1) (tkB bs false 1) 1) 1) = 88 :: (86 :: (rdX (tkR (tkR bs false 1) (tkB bs false 1) 1) (tkB (tkR bs false 1) (tkB bs false 1) 1) :: tkR (tkR (tkR bs false 1) (tkB bs false 1) 1) (tkB (tkR bs false 1) (tkB bs false 1) 1) 1)) from rfl, ← e7, ← e9]
        exact e11
      · unfold getP2
        rw [e2, List.nil_append]
        exact e5
    · simp at h
  · simp at h
theorem getP_err (bs : List Int) : (getP bs).2 = 0 ∨ getP bs = ([], 7) := by
  unfold getP
  split
  · simp only
    split
    · exact .inl rfl
    · exact .inr rfl
  · exact .inr rfl
theorem prog_ins {w : World} {A : Option Addr} {c : Nat} {L : List FnD} (h : Sl FnR 2 w A c L) (hp : progMay L = true) : ProgIns L := by
  intro f hf i hi
  obtain ⟨j, hj, rfl⟩ := List.mem_iff_getElem.1 hf
  obtain ⟨k, hk, rfl⟩ := List.mem_iff_getElem.1 hi
  have h1 := (fnFine_facts ((progMay_iff.1 hp).fine j hj)).2.2.2.2 k hk
  have h2 := h.fn_imm j hj k hk
  rw [getElem!_pos _ k hk] at h1 h2
  exact ⟨h1, h2⟩
/-- With one byte less, or one more, it is none. -/
theorem getP_less {L : List FnD} (hp : progMay L = true) (hi : ProgIns L) (hr : ∀ x ∈ progBytes L, 0 ≤ x ∧ x < 256) {n : Nat} (hn : n + 1 = (progBytes L).length) : getP ((progBytes L).take n) = ([], 7) := by
  rcases getP_err ((progBytes L).take n) with h | h
  · obtain ⟨L', hL⟩ : ∃ L', getP ((progBytes L).take n) = (L', 0) := ⟨(getP ((progBytes L).take n)).1, by rw [← h]⟩
    obtain ⟨h1, h2, h3⟩ := getP_back (fun x hx => hr x (List.mem_of_mem_take hx)) hL
    have h4 := List.take_append_drop n (progBytes L)
    rw [h2] at h4
    have h5 := getP_put h3 ((progBytes L).drop n)
    rw [h4] at h5
    have h6 := getP_put hi []
    rw [List.append_nil, if_pos ⟨rfl, hp⟩, h5] at h6
    have hd : (progBytes L).drop n ≠ [] := by
      intro e
      have := congrArg List.length e
      rw [List.length_drop] at this
      simp only [List.length_nil] at this
      omega
    rw [if_neg (fun hh => hd hh.1)] at h6
    simp at h6
  · exact h
theorem getP_more {L : List FnD} (hi : ProgIns L) (x : Int) : getP (progBytes L ++ [x]) = ([], 7) := by
  rw [getP_put hi, if_neg (by simp)]
theorem progBytes_len (L : List FnD) : (progBytes L).length = 3 + (L.map fun f => 2 + 8 * f.code.length).sum := by
  unfold progBytes
  rw [List.length_append, List.length_flatMap]
  have : (L.map fun f => f.bytes.length) = L.map fun f => 2 + 8 * f.code.length := List.map_congr_left fun f _ => fnBytes_len f
  rw [this]
  rfl
theorem progGet_any (A : Option Addr) (c n : Nat) (bs : List Int) (w : World) (h : Sl (IntR .u8) 1 w A c bs) (hn : Hid (bs.length = n)) (L : List FnD) (e : Int) (m : Nat) (hr : Hid (getP bs = (L, e))) (hm : Hid (L.length = m)) :
    Calls Try.prog 12 #[.slice A n c] w fun e' w' => ∃ A' c', e' = .returned (.tuple #[.agg #[.slice A' m c'], .int .i64 e]) ∧ Sl FnR 2 w' A' c' L ∧ Bel w w' := by
  have hg := hr.out
  unfold getP at hg
  by_cases hh : rdX bs false = 88 ∧ rdX (tkR bs false 1) (tkB bs false 1) = 86
  · rw [if_pos hh] at hg
    have := progGet_yes A c n bs w h hn (Lib.hid hh) _ _ _ (Lib.hid rfl) L e (Lib.hid hg.symm)
    rw [hm.out] at this
    exact this
  · rw [if_neg hh] at hg
    simp only [Prod.mk.injEq] at hg
    obtain ⟨rfl, rfl⟩ := hg
    obtain rfl : m = 0 := hm.out.symm
    refine (progGet_no A c n bs w h hn (Lib.hid hh)).mono ?_
    rintro e w' ⟨rfl, hb⟩
    exact ⟨none, 0, rfl, Sl.nil _ _ _, hb⟩
end Go.Proofs.Ytcllifcafgiopaa
