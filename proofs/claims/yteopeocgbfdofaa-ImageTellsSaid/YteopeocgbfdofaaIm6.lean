/- The words of an image, one by one; plain. -/
import Derived.Test.YteopeocgbfdofaaIm5
set_option linter.unusedVariables false
set_option linter.unusedSimpArgs false
namespace Go.Proofs.Yteopeocgbfdofaa
open Go.RowKit

/-- An image's words, wherever it lies: instructions, and how far from the image's beginning they go. -/
def goes (i : InstD) : Prop := i.op = 1 ∨ i.op = 6
instance (i : InstD) : Decidable (goes i) := inferInstanceAs (Decidable (_ ∨ _))
def dlt (d : Int) (k : Nat) (i : InstD) : Int := if i.op = 1 then d + k + i.off + 1 else i.imm
def doorI : InstD := ⟨1, 0, 0, 0, false, 0, 0⟩
def dDoors (L : List FnD) : Nat → List (InstD × Int)
  | 0 => []
  | k + 1 => dDoors L k ++ [(doorI, (L.length : Int) + sz L k)]
def dCode (d : Int) (l : List InstD) : Nat → List (InstD × Int)
  | 0 => []
  | k + 1 => dCode d l k ++ [(l[k]!, dlt d k l[k]!)]
def dCodes (L : List FnD) : Nat → List (InstD × Int)
  | 0 => []
  | k + 1 => dCodes L k ++ dCode ((L.length : Int) + sz L k) ((L.map FnD.code)[k]!) ((L.map FnD.code)[k]!).length
def desc (L : List FnD) : List (InstD × Int) := dDoors L L.length ++ dCodes L L.length
def wordTo (base : Int) (p : InstD × Int) : Int := if goes p.1 then base + p.2 else 0
def wordAt (base : Int) (p : InstD × Int) : Int := (wputD p.1 (wordTo base p)).1
theorem door_ok : doorI.okB = true := by decide +kernel
/-- What may be a word. -/
structure Wok (len : Int) (p : InstD × Int) : Prop where
  ok : p.1.okB = true
  imm : U32 p.1.imm
  goes : goes p.1 → 0 ≤ p.2 ∧ p.2 < len
theorem doors_desc (L : List FnD) (base : Int) : ∀ k, mkDoors L base k = (dDoors L k).map (wordAt base)
  | 0 => rfl
  | k + 1 => by
    rw [mkDoors, dDoors, List.map_append, doors_desc L base k, List.map_singleton]
    congr 2
    unfold wordAt wordTo atOf
    rw [if_pos (show goes doorI from .inl rfl), Int.add_assoc]
    rfl
theorem dDoors_len (L : List FnD) : ∀ k, (dDoors L k).length = k
  | 0 => rfl
  | k + 1 => by rw [dDoors, List.length_append, dDoors_len L k]; rfl
theorem dDoors_get (L : List FnD) : ∀ (n k : Nat) (h : k < (dDoors L n).length), (dDoors L n)[k] = (doorI, (L.length : Int) + sz L k)
  | 0, k, h => by simp [dDoors] at h
  | n + 1, k, h => by
    have hl := dDoors_len L n
    unfold dDoors
    by_cases hk : k < n
    · rw [List.getElem_append_left (by omega)]
      exact dDoors_get L n k (by omega)
    · obtain rfl : k = n := by
        rw [dDoors, List.length_append, hl] at h
        simp at h
        omega
      rw [List.getElem_append_right (by omega)]
      simp [hl]
theorem goTo_word (n m : Nat) (base d : Int) (k : Nat) (i : InstD) : (goTo n m base (base + d) k i).1 = wordTo base (i, dlt d k i) := by
  by_cases h1 : i.op = 1
  · simp only [goTo, wordTo, goes, dlt, h1, true_or, if_true]
    omega
  · by_cases h6 : i.op = 6
    · simp [goTo, wordTo, goes, dlt, h6]
    · simp [goTo, wordTo, goes, dlt, h1, h6]
theorem code_desc {n : Nat} {l : List InstD} {base d : Int} (hok : ∀ k, k < l.length → (l[k]!).okB = true) (hi : ∀ i ∈ l, U32 i.imm) (hd : 0 ≤ d) (len : Int) (hn : (n : Int) ≤ len) (hl : d + l.length ≤ len) : ∀ (k : Nat) (ws : List Int), k ≤ l.length → imgCode n l base (base + d) k = some ws → ws = (dCode d l k).map (wordAt base) ∧ ∀ p ∈ dCode d l k, Wok len p
  | 0, ws, _, h => by
    simp only [imgCode, Option.some.injEq] at h
    subst h
    exact ⟨rfl, fun p hp => (by cases hp)⟩
  | k + 1, ws, hk, h => by
    rw [imgCode, Option.bind_eq_some_iff] at h
    obtain ⟨ws', h1, h2⟩ := h
    obtain ⟨e1, e2⟩ := code_desc hok hi hd len hn hl k ws' (by omega) h1
    have hkl : k < l.length := by omega
    have ho := hok k hkl
    have him : U32 (l[k]!).imm := by rw [getElem!_pos l k hkl]; exact hi _ (List.getElem_mem hkl)
    have hoff := off_rng ho
    split at h2
    · rename_i hg
      simp only [Option.some.injEq] at h2
      subst h2
      have hto := goTo_word n l.length base d k l[k]!
      refine ⟨?_, fun p hp => ?_⟩
      · rw [dCode, List.map_append, ← e1, List.map_singleton, hto]
        rfl
      · rcases List.mem_append.1 hp with hp | hp
        · exact e2 p hp
        · obtain rfl := List.mem_singleton.1 hp
          refine ⟨ho, him, fun hgo => ?_⟩
          show 0 ≤ dlt d k l[k]! ∧ dlt d k l[k]! < len
          by_cases h1 : (l[k]!).op = 1
          · unfold goTo at hg
            unfold dlt
            rw [if_pos h1] at hg ⊢
            have hg2 := of_decide_eq_true hg
            omega
          · have h6 : (l[k]!).op = 6 := hgo.resolve_left h1
            have := him.lo
            unfold goTo at hg
            unfold dlt
            rw [if_neg h1, if_pos h6] at hg
            rw [if_neg h1]
            have hg2 := of_decide_eq_true hg
            omega
    · cases h2
theorem dCode_len (d : Int) (l : List InstD) : ∀ k, (dCode d l k).length = k
  | 0 => rfl
  | k + 1 => by rw [dCode, List.length_append, dCode_len d l k]; rfl
theorem dCodes_len (L : List FnD) : ∀ k, (dCodes L k).length = sz L k
  | 0 => rfl
  | k + 1 => by rw [dCodes, List.length_append, dCodes_len L k, dCode_len, sz]
theorem sz_mono (L : List FnD) : ∀ {k m : Nat}, k ≤ m → sz L k ≤ sz L m := by
  intro k m h
  induction m with
  | zero => obtain rfl : k = 0 := by omega
            exact Nat.le_refl _
  | succ m ih =>
    by_cases e : k = m + 1
    · subst e; exact Nat.le_refl _
    · have := ih (by omega)
      rw [sz]
      omega
theorem codes_desc {L : List FnD} {base : Int} (hf : Fine L) (hi : ∀ f ∈ L, ∀ i ∈ f.code, U32 i.imm) : ∀ (k : Nat) (cs : List (List Int)), k ≤ L.length → mkCodes L base k = some cs → cs.flatten = (dCodes L k).map (wordAt base) ∧ ∀ p ∈ dCodes L k, Wok ((L.length : Int) + sz L L.length) p
  | 0, cs, _, h => by
    simp only [mkCodes, Option.some.injEq] at h
    subst h
    exact ⟨rfl, fun p hp => (by cases hp)⟩
  | k + 1, cs, hk, h => by
    rw [mkCodes, Option.bind_eq_some_iff] at h
    obtain ⟨cs', h1, h2⟩ := h
    rw [Option.bind_eq_some_iff] at h2
    obtain ⟨c, h3, h4⟩ := h2
    simp only [Option.some.injEq] at h4
    subst h4
    obtain ⟨e1, e2⟩ := codes_desc hf hi k cs' (by omega) h1
    have hkL : k < L.length := by omega
    have hm := sz_mono L (show k + 1 ≤ L.length by omega)
    rw [sz, code_nth hkL] at hm
    have hat : atOf L base k = base + ((L.length : Int) + sz L k) := by unfold atOf; omega
    rw [code_nth hkL, hat] at h3
    obtain ⟨f1, f2⟩ := code_desc (n := L.length) (l := (L[k]).code) (base := base) (d := (L.length : Int) + sz L k) (fun j hj => hf.ok k hkL j hj) (hi _ (List.getElem_mem hkL)) (by omega) ((L.length : Int) + sz L L.length) (by omega) (by omega) _ c (Nat.le_refl _) h3
    rw [dCodes, code_nth hkL]
    refine ⟨?_, fun p hp => ?_⟩
    · rw [List.flatten_append, List.map_append, e1, ← f1]
      simp
    · rcases List.mem_append.1 hp with hp | hp
      · exact e2 p hp
      · exact f2 p hp
/-- The words of an image that is made. -/
theorem make_ok {L : List FnD} {base : Int} {ws : List Int} (hi : ∀ f ∈ L, ∀ i ∈ f.code, U32 i.imm) (h : imgMake L base = (ws, 0)) : progMay L = true ∧ 0 ≤ base ∧ base + imgSize L ≤ 1024 ∧ ws = (desc L).map (wordAt base) ∧ (desc L).length = imgSize L ∧ ∀ p ∈ desc L, Wok (imgSize L) p := by
  unfold imgMake at h
  split at h
  · rename_i hc
    obtain ⟨hm, h0, h1⟩ := hc
    have hs : imgSize L = L.length + sz L L.length := by unfold imgSize; rw [if_pos hm]
    have hf := fine_of hm
    split at h
    · simp at h
    · rename_i cs hcs
      obtain ⟨hws, -⟩ := Prod.mk.inj h
      obtain ⟨e1, e2⟩ := codes_desc hf hi L.length cs (Nat.le_refl _) hcs
      refine ⟨hm, h0, h1, ?_, ?_, fun p hp => ?_⟩
      · rw [← hws, doors_desc, e1, desc, List.map_append]
      · rw [desc, List.length_append, dDoors_len, dCodes_len, hs]
      · rcases List.mem_append.1 hp with hp | hp
        · obtain ⟨j, hj, rfl⟩ := List.mem_iff_getElem.1 hp
          rw [dDoors_get]
          rw [dDoors_len] at hj
          refine ⟨door_ok, u32_lit 0 (by decide), fun _ => ?_⟩
          have hm2 := sz_mono L (show j + 1 ≤ L.length by omega)
          rw [sz, code_nth hj] at hm2
          have hc0 := hf.c0 _ (List.getElem_mem hj)
          rw [hs]
          simp only
          omega
        · have := e2 p hp
          rw [hs]
          exact ⟨this.ok, this.imm, by have := this.goes; intro hg; have := this hg; omega⟩
  · simp at h
def normI (i : InstD) : InstD := ⟨i.op, i.fn, i.dst, i.src, i.reg, 0, if i.op = 6 then 0 else i.imm⟩
theorem word_get {base : Int} {s : Nat} {p : InstD × Int} (hb : 0 ≤ base) (hs : base + s ≤ 1024) (h : Wok s p) : wget (wordAt base p) = (normI p.1, wordTo base p, 0) ∧ 0 ≤ wordAt base p ∧ wordAt base p < 18446744073709551616 := by
  have hto : 0 ≤ wordTo base p ∧ wordTo base p ≤ 1023 ∧ (0 < wordTo base p → p.1.op = 1 ∨ p.1.op = 6) := by
    unfold wordTo
    by_cases hg : goes p.1
    · rw [if_pos hg]
      have := h.goes hg
      exact ⟨by omega, by omega, fun _ => hg⟩
    · rw [if_neg hg]
      exact ⟨by omega, by omega, fun h => by omega⟩
  obtain ⟨v, hv⟩ : ∃ v, wput p.1.op p.1.fn p.1.dst p.1.src p.1.reg p.1.off p.1.imm (wordTo base p) = (v, 0) := ⟨wordI (codeN p.1.op p.1.fn p.1.reg) p.1.dst p.1.src (wordTo base p) (if p.1.op = 6 then 0 else p.1.imm), if_pos ⟨h.ok, hto⟩⟩
  have e : wordAt base p = v := by unfold wordAt wputD; rw [hv]
  have := wget_wput h.imm hv
  rw [e]
  refine ⟨this.1, this.2.1, ?_⟩
  have := this.2.2
  omega
end Go.Proofs.Yteopeocgbfdofaa
