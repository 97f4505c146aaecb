/- What is known of registers, and how a function is gone through (chapters 10, 11), as plain functions. Nothing of the program. -/
import Derived.Test.YtebdnobgdimdoaaCrsPure
import Derived.Test.YtebdnobgdimdoaaPg1
import Derived.Test.YtebdnobgdimdoaaBnd7
set_option linter.unusedVariables false
set_option linter.unusedSimpArgs false
namespace Go.Proofs.Ytebdnobgdimdoaa
open Go.RowKit

/-- Bounds, from the first word up to the second. -/
abbrev Bd := Nat × Nat
def bdOk (b : Bd) : Prop := b.1 ≤ b.2 ∧ b.2 < 4294967296
def bdAll : Bd := (0, 4294967295)
theorem bdAll_ok : bdOk bdAll := ⟨by decide, by decide⟩
/-- What is known of registers: of those that are set, their bounds. -/
abbrev ShD := Nat → Option Bd
def shOk (s : ShD) : Prop := ∀ k b, s k = some b → bdOk b
def shGet (s : ShD) (n : Int) : Option Bd := if 0 ≤ n ∧ n < 8 then s n.toNat else none
def shPut (s : ShD) (n : Int) (b : Bd) : ShD := if 0 ≤ n ∧ n < 8 then fun k => if (k : Int) = n then some b else s k else s
def shWord (s : ShD) (i : InstD) : Option Bd := if i.reg = true then shGet s i.src else some (i.imm.toNat, i.imm.toNat)
def shBack (s : ShD) : ShD := fun k => if k = 0 then some bdAll else if k ≤ 5 then none else s k
def joinB (a b : Bd) : Bd := (nmin a.1 b.1, nmax a.2 b.2)
def shJoin (s t : ShD) : ShD := fun k => match s k, t k with
  | some a, some b => some (joinB a b)
  | _, _ => none
def shNew (args : Nat) : ShD := fun k => if 1 ≤ k ∧ k ≤ args then some bdAll else none
theorem shGet_ok {s : ShD} (h : shOk s) {n : Int} {b : Bd} (e : shGet s n = some b) : bdOk b := by
  unfold shGet at e
  split at e
  · exact h _ _ e
  · cases e
theorem shPut_ok {s : ShD} (h : shOk s) {n : Int} {b : Bd} (hb : bdOk b) : shOk (shPut s n b) := by
  unfold shPut
  split
  · intro k c e
    by_cases hk : (k : Int) = n
    · simp only [hk, if_true] at e
      cases e; exact hb
    · simp only [hk, if_false] at e
      exact h _ _ e
  · exact h
theorem shBack_ok {s : ShD} (h : shOk s) : shOk (shBack s) := by
  intro k c e
  unfold shBack at e
  split at e
  · cases e; exact bdAll_ok
  · split at e
    · cases e
    · exact h _ _ e
theorem joinB_ok {a b : Bd} (h : bdOk a) (k : bdOk b) : bdOk (joinB a b) := by
  obtain ⟨h1, h2⟩ := h
  obtain ⟨k1, k2⟩ := k
  unfold bdOk joinB nmin nmax
  simp only
  omega
theorem shJoin_ok {s t : ShD} (h : shOk s) (k : shOk t) : shOk (shJoin s t) := by
  intro i c e
  unfold shJoin at e
  cases hs : s i with
  | none => simp [hs] at e
  | some a =>
    cases ht : t i with
    | none => simp [hs, ht] at e
    | some b =>
      simp only [hs, ht, Option.some.injEq] at e
      subst e
      exact joinB_ok (h _ _ hs) (k _ _ ht)
theorem shNew_ok (args : Nat) : shOk (shNew args) := by
  intro k c e
  unfold shNew at e
  split at e
  · cases e; exact bdAll_ok
  · cases e

/-- A map's schema. -/
structure SchD where
  kind : Int
  cap : Int
  words : Int
  ver : Int
deriving DecidableEq, Inhabited
def schMay (s : SchD) : Bool := decide (0 ≤ s.kind ∧ s.kind ≤ 3 ∧ 1 ≤ s.cap ∧ s.cap ≤ 16 ∧ 1 ≤ s.words ∧ s.words ≤ (if s.kind = 3 then 1 else 4) ∧ 0 ≤ s.ver ∧ s.ver ≤ 1000)
def hArgs (n : Int) : Int := if n = 0 then 3 else if n = 1 then 4 else if n = 2 then 2 else if n = 3 then 2 else if n = 4 then 0 else if n = 5 then 2 else -1
def hFits (n : Int) (s : SchD) : Bool := if n = 5 then schMay s && decide (s.kind = 3) else if n = 0 ∨ n = 1 ∨ n = 2 ∨ n = 3 then schMay s && decide (s.kind ≠ 3) else false

/-- What is known at each place of a function: nothing, if it is not reached. -/
abbrev InsD := List (Option ShD)
def vTo (ins : InsD) (k : Nat) (s : ShD) : Option InsD := if h : k < ins.length then some (ins.set k (some (match ins[k] with
  | some t => shJoin t s
  | none => s))) else none
def vWay (ins : InsD) (k : Nat) (s : ShD) (d : Int) (c : Nat × Nat × Bool) : Option InsD := if c.2.2 = true then vTo ins k (shPut s d (c.1, c.2.1)) else some ins
/-- Which condition holds where another one does not. -/
def vElse (c : Int) : Int := if c = 1 then 2 else if c = 2 then 1 else if c = 3 then 4 else if c = 4 then 3 else 0
def vHanded (s : ShD) (many : Nat) : Bool := (List.range many).all fun k => (shGet s ((k : Int) + 1)).isSome
def vHelp (s : ShD) (n : Int) (ls : List SchD) : Bool :=
  if n = 4 then true else
  match shGet s 1 with
  | none => false
  | some b => decide (b.1 = b.2 ∧ b.1 < ls.length) && hFits n (ls[b.1]!) && (if n = 0 ∨ n = 1 then (match shGet s 3 with
    | none => false
    | some c => decide ((c.2 : Int) < (ls[b.1]!).words)) else true)
def vStep (p : List FnD) (fn : Nat) (ls : List SchD) (k : Nat) (i : InstD) (s : ShD) (ins : InsD) : Option InsD :=
  if i.op = 0 then
    (shWord s i).bind fun b => (if i.fn = 0 then some bdAll else shGet s i.dst).bind fun own => vTo ins (k + 1) (shPut s i.dst (aluS i.fn.toNat own.1 own.2 b.1 b.2))
  else if i.op = 1 then
    if i.fn = 0 then vTo ins (k + i.off.toNat + 1) s
    else (shGet s i.dst).bind fun own => (shWord s i).bind fun b => (vWay ins (k + i.off.toNat + 1) s i.dst (cutS i.fn own.1 own.2 b.1 b.2)).bind fun ins1 => vWay ins1 (k + 1) s i.dst (cutS (vElse i.fn) own.1 own.2 b.1 b.2)
  else if i.op = 2 then
    (shWord s i).bind fun b => if b.2 < 4 then vTo ins (k + 1) (shPut s i.dst bdAll) else none
  else if i.op = 3 then
    (shWord s i).bind fun b => if b.2 < 16 then vTo ins (k + 1) (shPut s i.dst bdAll) else none
  else if i.op = 4 then
    (shGet s i.dst).bind fun _ => (shWord s i).bind fun b => if b.2 < 16 then vTo ins (k + 1) s else none
  else if i.op = 5 then
    if 0 ≤ hArgs i.imm ∧ vHanded s (hArgs i.imm).toNat = true ∧ vHelp s i.imm ls = true then vTo ins (k + 1) (shBack s) else none
  else if i.op = 6 then
    if i.imm < p.length ∧ (fn : Int) < i.imm ∧ vHanded s (((p.map FnD.args).getD i.imm.toNat 0).toNat) = true then vTo ins (k + 1) (shBack s) else none
  else (shGet s 0).bind fun _ => some ins
/-- The first places are gone through. -/
def vUpto (p : List FnD) (fn : Nat) (ls : List SchD) (l : List InstD) (args : Nat) : Nat → Option InsD
  | 0 => some ((List.replicate l.length none).set 0 (some (shNew args)))
  | k + 1 => (vUpto p fn ls l args k).bind fun ins => match ins.getD k none with
    | some s => vStep p fn ls k l[k]! s ins
    | none => some ins
def vShapes (p : List FnD) (fn : Int) (ls : List SchD) : Option InsD × Int :=
  if progMay p = true ∧ ls.length ≤ 4 ∧ ls.all schMay = true then
    if 0 ≤ fn ∧ fn < p.length then
      match vUpto p fn.toNat ls ((p.map FnD.code).getD fn.toNat []) ((p.map FnD.args).getD fn.toNat 0).toNat ((p.map FnD.code).getD fn.toNat []).length with
      | some ins => (some ins, 0)
      | none => (none, 8)
    else (none, 3)
  else (none, 1)
def insOk (ins : InsD) : Prop := ∀ s ∈ ins, ∀ t, s = some t → shOk t
theorem vTo_ok {ins ins' : InsD} {k : Nat} {s : ShD} (h : insOk ins) (hs : shOk s) (e : vTo ins k s = some ins') : insOk ins' ∧ ins'.length = ins.length := by
  unfold vTo at e
  split at e
  · rename_i hk
    cases e
    refine ⟨fun x hx t ht => ?_, List.length_set⟩
    rcases List.mem_or_eq_of_mem_set hx with hx | hx
    · exact h x hx t ht
    · subst hx
      cases ht
      cases hq : ins[k] with
      | none => exact hs
      | some u => exact shJoin_ok (h _ (List.getElem_mem hk) u hq) hs
  · cases e
end Go.Proofs.Ytebdnobgdimdoaa
