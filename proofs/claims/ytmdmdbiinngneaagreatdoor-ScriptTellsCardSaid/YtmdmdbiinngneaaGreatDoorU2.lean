import Derived.Lib.AtoiAll
import Derived.Lib.ItoaNum
namespace Go.Proofs.YtmdmdbiinngneaaGreatDoor.Pieces
open Go

def isDig (b : UInt8) : Prop := 48 ≤ b.toNat ∧ b.toNat ≤ 57
/-- The number that digits spell, behind one that has been read. -/
def numF (acc : Nat) : List UInt8 → Nat
  | [] => acc
  | c :: r => numF (acc * 10 + (c.toNat - 48)) r
def numL (l : List UInt8) : Nat := numF 0 l
theorem numF_lt : ∀ (l : List UInt8) (acc k : Nat), (∀ b ∈ l, isDig b) → acc < 10 ^ k → numF acc l < 10 ^ (k + l.length)
  | [], acc, k, _, h => h
  | c :: r, acc, k, hd, h => by
    have hc := hd c (by simp)
    have := numF_lt r (acc * 10 + (c.toNat - 48)) (k + 1) (fun b hb => hd b (by simp [hb])) (by
      rw [Nat.pow_succ]
      have := hc.1; have := hc.2
      omega)
    rw [List.length_cons, show k + (r.length + 1) = k + 1 + r.length by omega]
    exact this
theorem parse_digits : ∀ (l : List UInt8) (acc k : Nat), (∀ b ∈ l, isDig b) → acc < 10 ^ k → k + l.length ≤ 18 → Lib.parseUint10 acc l = .ok (numF acc l)
  | [], acc, k, _, _, _ => rfl
  | c :: r, acc, k, hd, h, hk => by
    have hc := hd c (by simp)
    have h1 := hc.1
    have h2 := hc.2
    have hk' : k + 1 + r.length ≤ 18 := by simp at hk; omega
    have hp : 10 ^ k ≤ 10 ^ 17 := Nat.pow_le_pow_right (by decide) (by omega)
    unfold Lib.parseUint10
    rw [if_pos ⟨h1, h2⟩, if_neg (by omega), if_neg (by omega)]
    exact parse_digits r _ (k + 1) (fun b hb => hd b (by simp [hb])) (by rw [Nat.pow_succ]; omega) hk'
/-- A value, or out of range: no other end. -/
def isNumP {α : Type} : Lib.NumEnd α → Bool
  | .ok _ => true
  | .range => true
  | _ => false
theorem parse_digits_ne : ∀ (l : List UInt8) (acc : Nat), (∀ b ∈ l, isDig b) → isNumP (Lib.parseUint10 acc l) = true
  | [], acc, _ => rfl
  | c :: r, acc, hd => by
    have hc := hd c (by simp)
    unfold Lib.parseUint10
    rw [if_pos ⟨hc.1, hc.2⟩]
    split
    · rfl
    · split
      · rfl
      · exact parse_digits_ne r _ (fun b hb => hd b (by simp [hb]))
/-- strconv.Atoi of some digits, not too many: their number. -/
theorem atoi_digits (l : List UInt8) (h0 : l ≠ []) (hd : ∀ b ∈ l, isDig b) (hl : l.length ≤ 9) : Lib.atoiAll l = .ok (numL l : Nat) := by
  obtain ⟨c, r, rfl⟩ := List.exists_cons_of_ne_nil h0
  have hc := hd c (by simp)
  have h1 := hc.1
  have h2 := hc.2
  have hlt := numF_lt (c :: r) 0 0 hd (by decide)
  have hle : 10 ^ (0 + (c :: r).length) ≤ 10 ^ 9 := Nat.pow_le_pow_right (by decide) (by omega)
  unfold Lib.atoiAll
  simp only
  rw [if_neg (by omega)]
  unfold Lib.parseMag
  rw [if_neg (List.cons_ne_nil _ _), parse_digits (c :: r) 0 0 hd (by decide) (by omega)]
  simp only [numL]
  rw [if_neg (by omega), if_neg (by omega), if_neg (by omega)]
theorem atoi_digits_ne (l : List UInt8) (h0 : l ≠ []) (hd : ∀ b ∈ l, isDig b) : isNumP (Lib.atoiAll l) = true := by
  obtain ⟨c, r, rfl⟩ := List.exists_cons_of_ne_nil h0
  have hc := hd c (by simp)
  have h1 := hc.1
  have h2 := hc.2
  unfold Lib.atoiAll
  simp only
  rw [if_neg (by omega)]
  unfold Lib.parseMag
  rw [if_neg (List.cons_ne_nil _ _)]
  have := parse_digits_ne (c :: r) 0 hd
  cases h : Lib.parseUint10 0 (c :: r) with
  | range => rfl
  | ok u =>
    simp only
    split
    · rfl
    · split <;> rfl
  | _ => rw [h] at this; exact absurd this (by decide)
/-! ### The numeral of a number -/
end Go.Proofs.YtmdmdbiinngneaaGreatDoor.Pieces
