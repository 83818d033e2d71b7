import Derived.Test.YtmdmdbiinngneaaDoorU4
import Derived.Test.YtmdmdbiinngneaaDoorQ20
namespace Go.Proofs.YtmdmdbiinngneaaDoor.Q
open Go Go.RowKit Go.Proofs.YtmdmdbiinngneaaDoorW.PrintWords Go.Proofs.YtmdmdbiinngneaaDoorW.PrintLast Go.Proofs.YtmdmdbiinngneaaDoorW.PrintMore Go.Proofs.YtmdmdbiinngneaaDoor.Pieces
set_option linter.unusedVariables false
set_option linter.unusedSimpArgs false
/-! ### Small things -/
theorem and_small (x : Int) : 0 ≤ Go.bits .and .i64 x 65535 ∧ Go.bits .and .i64 x 65535 ≤ 65535 := by
  have h : ((BitVec.ofInt 64 x) &&& (BitVec.ofInt 64 65535)).toNat ≤ 65535 := by
    rw [BitVec.toNat_and]
    exact Nat.and_le_right
  have e : Go.bits .and .i64 x 65535 = IntKind.i64.wrap (((BitVec.ofInt 64 x) &&& (BitVec.ofInt 64 65535)).toNat : Int) := rfl
  rw [e, IntKind.wrap_i64]
  omega
theorem tmod_small (x : Int) (m : Int) (hm : 0 < m) : 0 ≤ Int.tmod (Go.bits .and .i64 x 65535) m ∧ Int.tmod (Go.bits .and .i64 x 65535) m < m := by
  obtain ⟨h0, h1⟩ := and_small x
  rw [Int.tmod_eq_emod_of_nonneg h0]
  exact ⟨Int.emod_nonneg _ (by omega), Int.emod_lt_of_pos _ hm⟩
theorem strOf_bytesOf (l : List UInt8) : (l.map fun b => (b.toNat : Int)).map (fun n : Int => UInt8.ofNat n.toNat) = l := by
  rw [List.map_map]
  conv => rhs; rw [← List.map_id l]
  exact List.map_congr_left fun b _ => by simp
theorem strOfNums_of {xs : List Int} {l : List UInt8} (h : xs = l.map fun b => (b.toNat : Int)) : strOfNums xs = mkB l := by
  subst h
  unfold strOfNums mkB
  rw [strOf_bytesOf]
/-! ### ScriptMany -/
abbrev remB : List UInt8 := [32, 35, 32, 120, 10, 10]
abbrev dropB : List UInt8 := [100, 114, 111, 112, 32, 97, 10]
def times (n : Nat) (l : List UInt8) : List UInt8 := (List.replicate n l).flatten
theorem times_succ (n : Nat) (l : List UInt8) : times (n + 1) l = l ++ times n l := by simp [times, List.replicate_succ]
theorem times_snoc (n : Nat) (l : List UInt8) : times (n + 1) l = times n l ++ l := by
  simp [times, List.replicate_succ', List.flatten_append]
theorem times_len (n : Nat) (l : List UInt8) : (times n l).length = n * l.length := by simp [times]
theorem lex_rem : lexS [32, 35, 32, 120] = ([], 0, 0) := by kernel_rfl
theorem lex_none : lexS [] = ([], 0, 0) := by kernel_rfl
def dropT : List S53 := [⟨1, 0, ⟨#[100, 114, 111, 112]⟩, 0⟩, ⟨1, 5, ⟨#[97]⟩, 0⟩]
theorem lex_drop : lexS [100, 114, 111, 112, 32, 97] = (dropT, 0, 0) := by kernel_rfl
theorem line_drop : lineP dropT 6 = (4, ⟨#[97]⟩, 0, [], 0, 0, 5, 0, 0) := by kernel_rfl
theorem parseT_blank {fr : Nat} {l : List UInt8} {acc : List S34} (hne : l ≠ []) (h : lexS (lineB l) = ([], 0, 0)) : parseT fr l acc = parseT (fr + (lineB l).length + 1) (restB l) acc := by
  rw [parseT_step fr l acc hne, h]
  rfl
theorem parseT_full {fr : Nat} {l : List UInt8} {acc : List S34} {T : List S53} (hne : l ≠ []) (h : lexS (lineB l) = (T, 0, 0)) (hT : T.length ≠ 0) (ha : acc.length = 1000) : parseT fr l acc = (acc, (fr : Int) + (rd_T53 T 0).f1, 5) := by
  rw [parseT_step fr l acc hne, h]
  simp only [if_true, if_neg hT, if_pos ha]
theorem parseT_op {fr : Nat} {l : List UInt8} {acc : List S34} {T : List S53} {r : LRes} (hne : l ≠ []) (h : lexS (lineB l) = (T, 0, 0)) (hT : T.length ≠ 0) (ha : acc.length ≠ 1000) (hr : lineP T (lineB l).length = r) (he : errOf r = 0) :
    parseT fr l acc = parseT (fr + (lineB l).length + 1) (restB l) (acc ++ [opAt fr r]) := by
  rw [parseT_step fr l acc hne, h]
  simp only [if_true, if_neg hT, if_neg ha, hr, if_pos he]
theorem parse_rem (fr : Nat) (l : List UInt8) (acc : List S34) : parseT fr (remB ++ l) acc = parseT (fr + 6) l acc := by
  have e1 : lineB (remB ++ l) = [32, 35, 32, 120] := by simp [lineB]
  have e2 : restB (remB ++ l) = 10 :: l := by simp [restB, List.dropWhile]
  have e3 : lineB (10 :: l) = [] := by simp [lineB]
  have e4 : restB (10 :: l) = l := by simp [restB, List.dropWhile]
  rw [parseT_blank (l := remB ++ l) (by simp) (by rw [e1]; exact lex_rem), e1, e2, parseT_blank (l := 10 :: l) (by simp) (by rw [e3]; exact lex_none), e3, e4]
  rfl
theorem parse_drop (fr : Nat) (l : List UInt8) (acc : List S34) : parseT fr (dropB ++ l) acc = if acc.length = 1000 then (acc, (fr : Int), 5) else parseT (fr + 7) l (acc ++ [(⟨4, ⟨#[97]⟩, ⟨0, []⟩, 0, 0 + (fr : Int), 5 + (fr : Int)⟩ : S34)]) := by
  have e1 : lineB (dropB ++ l) = [100, 114, 111, 112, 32, 97] := by simp [lineB]
  have e2 : restB (dropB ++ l) = l := by simp [restB, List.dropWhile]
  have e5 : lexS (lineB (dropB ++ l)) = (dropT, 0, 0) := by rw [e1]; exact lex_drop
  by_cases h : acc.length = 1000
  · rw [if_pos h, parseT_full (by simp) e5 (by decide) h]
    show (acc, (fr : Int) + 0, (5 : Int)) = _
    rw [Int.add_zero]
  · rw [if_neg h, parseT_op (r := (4, ⟨#[97]⟩, 0, [], 0, 0, 5, 0, 0)) (by simp) e5 (by decide) h (by rw [e1]; exact line_drop) rfl, e1, e2]
    rfl
theorem parse_rems : ∀ (m fr : Nat) (l : List UInt8) (acc : List S34), parseT fr (times m remB ++ l) acc = parseT (fr + 6 * m) l acc
  | 0, fr, l, acc => by simp [times]
  | m + 1, fr, l, acc => by
    rw [times_succ, List.append_assoc, parse_rem, parse_rems m]
    congr 1
    omega
theorem parse_drops : ∀ (n fr : Nat) (acc : List S34), acc.length ≤ 1000 → ∃ ops : List S34,
    if acc.length + n ≤ 1000 then parseT fr (times n dropB) acc = (ops, 0, 0) ∧ ops.length = acc.length + n
    else parseT fr (times n dropB) acc = (ops, ((fr + 7 * (1000 - acc.length) : Nat) : Int), 5) ∧ ops.length = 1000
  | 0, fr, acc, h => ⟨acc, by rw [if_pos (by omega)]; exact ⟨parseT_nil _ _, rfl⟩⟩
  | n + 1, fr, acc, h => by
    rw [times_succ, parse_drop]
    by_cases h1 : acc.length = 1000
    · refine ⟨acc, ?_⟩
      rw [if_neg (by omega), if_pos h1]
      exact ⟨by rw [h1]; rfl, h1⟩
    · obtain ⟨ops, ho⟩ := parse_drops n (fr + 7) (acc ++ [(⟨4, ⟨#[97]⟩, ⟨0, []⟩, 0, 0 + (fr : Int), 5 + (fr : Int)⟩ : S34)]) (by simp; omega)
      refine ⟨ops, ?_⟩
      rw [if_neg h1]
      rw [List.length_append, List.length_singleton] at ho
      by_cases h2 : acc.length + (n + 1) ≤ 1000
      · rw [if_pos (by omega)] at ho
        rw [if_pos h2]
        exact ⟨ho.1, by omega⟩
      · rw [if_neg (by omega)] at ho
        rw [if_neg h2]
        refine ⟨?_, ho.2⟩
        rw [ho.1]
        congr 3
        omega
theorem bytesOf_mk (l : List UInt8) : bytesOf (mkB l) = l.map fun b => (b.toNat : Int) := rfl
theorem many_l1 (n m : Nat) (hn : n ≤ 1100) (hm : m ≤ 30) : ∀ (d j k : Nat) (xs : List Int), j + d = n → d + 30000 < k → xs = (times m remB ++ times j dropB).map (fun b => (b.toNat : Int)) →
    carcanetlaw25_ScriptMany.l1 k n m true xs j = some true
  | 0, j, k, xs, hj, hk, hx => by
    obtain ⟨k, rfl⟩ : ∃ q, k = q + 1 := ⟨k - 1, by omega⟩
    obtain rfl : j = n := by omega
    simp only [carcanetlaw25_ScriptMany.l1]
    rw [if_neg (by omega), strOfNums_of hx]
    have hsz : (mkB (times m remB ++ times j dropB)).size = m * 6 + j * 7 := by
      rw [mkB_size, List.length_append, times_len, times_len]; rfl
    rw [parse_eq _ (by omega) k (by omega), mkB_data, parse_rems]
    obtain ⟨ops, ho⟩ := parse_drops j (0 + 6 * m) [] (by simp)
    rw [List.length_nil] at ho
    simp only [Option.bind_some]
    by_cases h : (j : Int) > 1000
    · rw [if_pos h]
      rw [if_neg (by omega)] at ho
      obtain ⟨h1, h2⟩ := ho
      rw [h1]
      simp only [if_true]
      rw [if_pos (by omega), w64 (x := 6 * (m : Int)) (by omega) (by omega), w64 (by omega) (by omega), if_pos (by omega)]
      rfl
    · rw [if_neg h]
      rw [if_pos (by omega)] at ho
      obtain ⟨h1, h2⟩ := ho
      rw [h1]
      simp only [if_true]
      rw [if_pos (by omega)]
      rfl
  | d + 1, j, k, xs, hj, hk, hx => by
    obtain ⟨k, rfl⟩ : ∃ q, k = q + 1 := ⟨k - 1, by omega⟩
    simp only [carcanetlaw25_ScriptMany.l1]
    have hl : xs.length = m * 6 + j * 7 := by
      rw [hx, List.length_map, List.length_append, times_len, times_len]; rfl
    rw [if_pos (by omega), if_pos (by omega), w64 (by omega) (by omega)]
    have e : xs ++ bytesOf (⟨#[100, 114, 111, 112, 32, 97, 10]⟩ : ByteArray) = (times m remB ++ times (j + 1) dropB).map (fun b => (b.toNat : Int)) := by
      rw [times_snoc, ← List.append_assoc, List.map_append, ← hx]
      rfl
    exact many_l1 n m hn hm d (j + 1) k _ (by omega) (by omega) e
theorem many_l0 (n m : Nat) (hn : n ≤ 1100) (hm : m ≤ 30) : ∀ (d j k : Nat) (xs : List Int), j + d = m → d + 32000 < k → xs = (times j remB).map (fun b => (b.toNat : Int)) →
    carcanetlaw25_ScriptMany.l0 k n m true xs j = some true
  | 0, j, k, xs, hj, hk, hx => by
    obtain ⟨k, rfl⟩ : ∃ q, k = q + 1 := ⟨k - 1, by omega⟩
    obtain rfl : j = m := by omega
    simp only [carcanetlaw25_ScriptMany.l0]
    rw [if_neg (by omega)]
    exact many_l1 n j hn hm n 0 k xs (by omega) (by omega) (by rw [hx]; simp [times])
  | d + 1, j, k, xs, hj, hk, hx => by
    obtain ⟨k, rfl⟩ : ∃ q, k = q + 1 := ⟨k - 1, by omega⟩
    simp only [carcanetlaw25_ScriptMany.l0]
    have hl : xs.length = j * 6 := by
      rw [hx, List.length_map, times_len]; rfl
    rw [if_pos (by omega), if_pos (by omega), w64 (by omega) (by omega)]
    have e : xs ++ bytesOf (⟨#[32, 35, 32, 120, 10, 10]⟩ : ByteArray) = (times (j + 1) remB).map (fun b => (b.toNat : Int)) := by
      rw [times_snoc, List.map_append, ← hx]
      rfl
    exact many_l0 n m hn hm d (j + 1) k _ (by omega) (by omega) e
theorem many_true (a0 a1 : Int) : ∃ k, carcanetlaw25_ScriptMany.f k a0 a1 = some true := by
  obtain ⟨K, hK⟩ : ∃ K : Nat, 39999 < K := ⟨40000, by decide⟩
  refine ⟨K, ?_⟩
  unfold carcanetlaw25_ScriptMany.f carcanetlaw25_shown.f
  obtain ⟨h0, h1⟩ := tmod_small a0 1101 (by decide)
  obtain ⟨h2, h3⟩ := tmod_small a1 31 (by decide)
  obtain ⟨n, hn⟩ := Int.eq_ofNat_of_zero_le h0
  obtain ⟨m, hm⟩ := Int.eq_ofNat_of_zero_le h2
  rw [hn, hm]
  exact many_l0 n m (by omega) (by omega) m 0 K [] (by omega) (by omega) rfl
end Go.Proofs.YtmdmdbiinngneaaDoor.Q
