import Derived.Lib.AtoiAll
import Derived.Lib.ItoaNum
namespace Go.Proofs.YtmdmdbiinngneaaDoor.Pieces
open Go

def isDig (b : UInt8) : Prop := 48 ≤ b.toNat ∧ b.toNat ≤ 57
/-- The number that digits spell, behind one that has been read. -/
def numF (acc : Nat) : List UInt8 → Nat
  | [] => acc
  | c :: r => numF (acc * 10 + (c.toNat - 48)) r
def numL (l : List UInt8) : Nat := numF 0 l
theorem numF_append (l m : List UInt8) : ∀ acc, numF acc (l ++ m) = numF (numF acc l) m := by
  induction l with
  | nil => intro acc; rfl
  | cons c r ih => intro acc; exact ih _
theorem numF_lt : ∀ (l : List UInt8) (acc k : Nat), (∀ b ∈ l, isDig b) → acc < 10 ^ k → numF acc l < 10 ^ (k + l.length)
  | [], acc, k, _, h => h
  | c :: r, acc, k, hd, h => by
    have hc := hd c (by simp)
    have := numF_lt r (acc * 10 + (c.toNat - 48)) (k + 1) (fun b hb => hd b (by simp [hb])) (by
      rw [Nat.pow_succ]
      have := hc.1; have := hc.2
      omega)
    rw [List.length_cons, show k + (r.length + 1) = k + 1 + r.length by omega]
    exact this
theorem parse_digits : ∀ (l : List UInt8) (acc k : Nat), (∀ b ∈ l, isDig b) → acc < 10 ^ k → k + l.length ≤ 18 → Lib.parseUint10 acc l = .ok (numF acc l)
  | [], acc, k, _, _, _ => rfl
  | c :: r, acc, k, hd, h, hk => by
    have hc := hd c (by simp)
    have h1 := hc.1
    have h2 := hc.2
    have hk' : k + 1 + r.length ≤ 18 := by simp at hk; omega
    have hp : 10 ^ k ≤ 10 ^ 17 := Nat.pow_le_pow_right (by decide) (by omega)
    unfold Lib.parseUint10
    rw [if_pos ⟨h1, h2⟩, if_neg (by omega), if_neg (by omega)]
    exact parse_digits r _ (k + 1) (fun b hb => hd b (by simp [hb])) (by rw [Nat.pow_succ]; omega) hk'
/-- A value, or out of range: no other end. -/
def isNumP {α : Type} : Lib.NumEnd α → Bool
  | .ok _ => true
  | .range => true
  | _ => false
theorem parse_digits_ne : ∀ (l : List UInt8) (acc : Nat), (∀ b ∈ l, isDig b) → isNumP (Lib.parseUint10 acc l) = true
  | [], acc, _ => rfl
  | c :: r, acc, hd => by
    have hc := hd c (by simp)
    unfold Lib.parseUint10
    rw [if_pos ⟨hc.1, hc.2⟩]
    split
    · rfl
    · split
      · rfl
      · exact parse_digits_ne r _ (fun b hb => hd b (by simp [hb]))
/-- strconv.Atoi of some digits, not too many: their number. -/
theorem atoi_digits (l : List UInt8) (h0 : l ≠ []) (hd : ∀ b ∈ l, isDig b) (hl : l.length ≤ 9) : Lib.atoiAll l = .ok (numL l : Nat) := by
  obtain ⟨c, r, rfl⟩ := List.exists_cons_of_ne_nil h0
  have hc := hd c (by simp)
  have h1 := hc.1
  have h2 := hc.2
  have hlt := numF_lt (c :: r) 0 0 hd (by decide)
  have hle : 10 ^ (0 + (c :: r).length) ≤ 10 ^ 9 := Nat.pow_le_pow_right (by decide) (by omega)
  unfold Lib.atoiAll
  simp only
  rw [if_neg (by omega)]
  unfold Lib.parseMag
  rw [if_neg (List.cons_ne_nil _ _), parse_digits (c :: r) 0 0 hd (by decide) (by omega)]
  simp only [numL]
  rw [if_neg (by omega), if_neg (by omega), if_neg (by omega)]
theorem atoi_digits_ne (l : List UInt8) (h0 : l ≠ []) (hd : ∀ b ∈ l, isDig b) : isNumP (Lib.atoiAll l) = true := by
  obtain ⟨c, r, rfl⟩ := List.exists_cons_of_ne_nil h0
  have hc := hd c (by simp)
  have h1 := hc.1
  have h2 := hc.2
  unfold Lib.atoiAll
  simp only
  rw [if_neg (by omega)]
  unfold Lib.parseMag
  rw [if_neg (List.cons_ne_nil _ _)]
  have := parse_digits_ne (c :: r) 0 hd
  cases h : Lib.parseUint10 0 (c :: r) with
  | range => rfl
  | ok u =>
    simp only
    split
    · rfl
    · split <;> rfl
  | _ => rw [h] at this; exact absurd this (by decide)
/-! ### The numeral of a number -/
theorem dec_dig : ∀ (u : Nat), ∀ b ∈ Lib.decDigits u, isDig b := by
  intro u
  induction u using Nat.strongRecOn with
  | _ u ih =>
    intro b hb
    rw [Lib.decDigits] at hb
    split at hb
    · rename_i h
      obtain rfl := List.mem_singleton.1 hb
      unfold isDig
      rw [UInt8.toNat_ofNat_of_lt' (by show 48 + u < 256; omega)]
      omega
    · rcases List.mem_append.1 hb with h | h
      · exact ih (u / 10) (by omega) b h
      · obtain rfl := List.mem_singleton.1 h
        unfold isDig
        rw [UInt8.toNat_ofNat_of_lt' (by show 48 + u % 10 < 256; omega)]
        omega
theorem num_dec (u : Nat) : numL (Lib.decDigits u) = u := by
  induction u using Nat.strongRecOn with
  | _ u ih =>
    rw [Lib.decDigits]
    split
    · show 0 * 10 + ((UInt8.ofNat (48 + u)).toNat - 48) = u
      rw [UInt8.toNat_ofNat_of_lt' (by show 48 + u < 256; omega)]
      omega
    · have h1 := ih (u / 10) (by omega)
      have h2 : numL (Lib.decDigits (u / 10) ++ [UInt8.ofNat (48 + u % 10)]) = numF (numL (Lib.decDigits (u / 10))) [UInt8.ofNat (48 + u % 10)] := numF_append _ _ _
      rw [h2, h1]
      show u / 10 * 10 + ((UInt8.ofNat (48 + u % 10)).toNat - 48) = u
      rw [UInt8.toNat_ofNat_of_lt' (by show 48 + u % 10 < 256; omega)]
      omega
theorem dec_ne (u : Nat) : Lib.decDigits u ≠ [] := by
  rw [Lib.decDigits]
  split <;> simp
theorem dec_len (u k : Nat) (h : u < 10 ^ k) (hk : 1 ≤ k) : (Lib.decDigits u).length ≤ k := by
  induction k generalizing u with
  | zero => omega
  | succ k ih =>
    rw [Lib.decDigits]
    split
    · simp
    · rw [List.length_append]
      rw [Nat.pow_succ] at h
      by_cases hk0 : k = 0
      · subst hk0; simp at h; omega
      · have := ih (u / 10) (by omega) (by omega)
        simp
        omega
end Go.Proofs.YtmdmdbiinngneaaDoor.Pieces
