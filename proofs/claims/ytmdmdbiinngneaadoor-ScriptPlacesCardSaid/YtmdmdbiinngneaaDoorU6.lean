import Derived.Test.YtmdmdbiinngneaaDoorU4
import Derived.Test.YtmdmdbiinngneaaDoorQ16
namespace Go.Proofs.YtmdmdbiinngneaaDoor.Q
open Go Go.RowKit Go.Proofs.YtmdmdbiinngneaaDoorW.PrintWords Go.Proofs.YtmdmdbiinngneaaDoorW.PrintLast Go.Proofs.YtmdmdbiinngneaaDoorW.PrintMore Go.Proofs.YtmdmdbiinngneaaDoor.Pieces
set_option linter.unusedVariables false
set_option linter.unusedSimpArgs false
/-! ### What is the same as itself -/
theorem sameEdges_l (l : List S39) (hl : l.length ≤ 1000000000000) : ∀ (d i k : Nat), i + d = l.length → d < k → carcanetref03_SameEdges.l0 k l l i = some true
  | 0, i, k, h, hk => by
    obtain ⟨k, rfl⟩ : ∃ q, k = q + 1 := ⟨k - 1, by omega⟩
    simp only [carcanetref03_SameEdges.l0]
    rw [if_neg (by omega)]
  | d + 1, i, k, h, hk => by
    obtain ⟨k, rfl⟩ : ∃ q, k = q + 1 := ⟨k - 1, by omega⟩
    simp only [carcanetref03_SameEdges.l0]
    rw [if_pos (by omega), if_pos (by omega), if_pos (by omega), if_neg (by simp), w64 (by omega) (by omega), show (i : Int) + 1 = ((i + 1 : Nat) : Int) by omega]
    exact sameEdges_l l hl d (i + 1) k (by omega) (by omega)
theorem sameGraph_self (k : Nat) (n : Int) (l : List S39) (hl : l.length ≤ 1000000000000) (hk : l.length < k) : carcanetref03_SameGraph.f k n l n l = some true := by
  unfold carcanetref03_SameGraph.f carcanetref03_SameEdges.f
  rw [if_pos rfl, if_pos rfl]
  have := sameEdges_l l hl l.length 0 k (by omega) hk
  rw [show ((0 : Nat) : Int) = 0 from rfl] at this
  rw [this]
  rfl
theorem same_self (k : Nat) (x : S34) (f4 f5 : Int) (hl : x.f2.f1.length ≤ 1000000000000) (hk : x.f2.f1.length < k) :
    carcanetref25_Same.f k x.f0 x.f1 x.f2.f0 x.f2.f1 x.f3 f4 f5 x.f0 x.f1 x.f2.f0 x.f2.f1 x.f3 f4 f5 = some true := by
  unfold carcanetref25_Same.f
  rw [if_pos rfl, if_pos rfl, if_pos rfl, if_pos rfl, if_pos rfl, sameGraph_self k _ _ hl hk]
  rfl
/-! ### What operations may be -/
theorem normal_len (n : Int) (l : List S39) : (graphNormal n l).2.1.length ≤ 4000 := by
  unfold graphNormal
  repeat' split
  all_goals first
    | exact Nat.zero_le _
    | (simp only; omega)
theorem line_edges_len (l : List S53) (en : Int) : (lineP l en).2.2.2.1.length ≤ 4000 := by
  unfold lineP lineLoad finR errR
  repeat' split
  all_goals first
    | exact Nat.zero_le _
    | exact normal_len _ _
theorem takeP_lt' {l : List S53} {k : Int} {i : Nat} (h : takeP l k i = true) : i < l.length := by
  unfold takeP at h
  rw [Bool.and_eq_true, decide_eq_true_eq] at h
  exact h.1
/-- An operation has two tokens at least. -/
theorem line_two {l : List S53} {en : Int} (h : errOf (lineP l en) = 0) : 2 ≤ l.length := by
  unfold errOf lineP at h
  split at h
  · split at h
    · rename_i h2
      have := takeP_lt' h2
      omega
    · exact absurd h (show ¬ (3 : Int) = 0 by decide)
  · exact absurd h (show ¬ (3 : Int) = 0 by decide)
/-- What is told of each operation that is read: its places, how many edges. -/
def OpIn (B : Int) (x : S34) : Prop := (0 ≤ x.f4 ∧ x.f4 ≤ B) ∧ (0 ≤ x.f5 ∧ x.f5 ≤ B) ∧ x.f2.f1.length ≤ 4000
def OpsIn (B : Int) (l : List S34) : Prop := ∀ x ∈ l, OpIn B x
theorem OpsIn.snoc {B : Int} {l : List S34} (h : OpsIn B l) {x : S34} (hx : OpIn B x) : OpsIn B (l ++ [x]) := by
  intro y hy
  rcases List.mem_append.1 hy with hy | hy
  · exact h y hy
  · obtain rfl := List.mem_singleton.1 hy
    exact hx
theorem restB_len (l : List UInt8) : (restB l).length = 0 ∨ (restB l).length + (lineB l).length + 1 = l.length := by
  rcases indexByte_line l with ⟨_, _, h⟩ | ⟨_, h, h2⟩
  · exact .inl (by rw [h]; rfl)
  · right
    have := congrArg List.length h
    rw [List.length_drop] at this
    omega
theorem parse_in (B : Int) : ∀ (n : Nat) (l : List UInt8), l.length ≤ n → l.length ≤ 1048576 → ∀ (fr : Nat) (acc : List S34), ((fr + l.length : Nat) : Int) ≤ B → OpsIn B acc →
    OpsIn B (parseT fr l acc).1 ∧ 0 ≤ (parseT fr l acc).2.1 ∧ (parseT fr l acc).2.1 ≤ B ∧ 2 * (parseT fr l acc).1.length ≤ 2 * acc.length + l.length
  | n, [], _, _, fr, acc, hB, ha => by
    rw [parseT_nil]
    exact ⟨ha, Int.le_refl _, by simp only; omega, by simp⟩
  | 0, c :: r, hn, _, _, _, _, _ => absurd hn (by simp)
  | n + 1, c :: r, hn, hm, fr, acc, hB, ha => by
    have hrest := restB_lt c r
    generalize hl : c :: r = l at *
    have hne : l ≠ [] := by rw [← hl]; simp
    have hln := lineB_le l
    obtain ⟨w1, w2, w3⟩ := lexS_within (lineB l) (by omega)
    have wl := lexS_len (lineB l) (by omega)
    have next : ∀ acc', OpsIn B acc' → OpsIn B (parseT (fr + (lineB l).length + 1) (restB l) acc').1 ∧ 0 ≤ (parseT (fr + (lineB l).length + 1) (restB l) acc').2.1 ∧ (parseT (fr + (lineB l).length + 1) (restB l) acc').2.1 ≤ B ∧ 2 * (parseT (fr + (lineB l).length + 1) (restB l) acc').1.length ≤ 2 * acc'.length + (restB l).length := fun acc' ha' => by
      rcases restB_len l with h0 | h0
      · rw [List.length_eq_zero_iff.1 h0, parseT_nil]
        exact ⟨ha', Int.le_refl _, by simp only; omega, by simp⟩
      · exact parse_in B n (restB l) (by omega) (by omega) _ acc' (by omega) ha'
    rw [parseT_step fr l acc hne]
    split
    · split
      · obtain ⟨h1, h2, h3, h4⟩ := next acc ha
        exact ⟨h1, h2, h3, by omega⟩
      · split
        · obtain ⟨v1, v2⟩ := rd_within w1 (by omega) 0
          exact ⟨ha, by simp only; omega, by simp only; omega, by simp only; omega⟩
        · obtain ⟨⟨x1, x2⟩, ⟨x3, x4⟩, x5, x6⟩ := line_within (en := ((lineB l).length : Int)) w1 (by omega) (by omega) (Int.le_refl _)
          split
          · rename_i he
            have h2 := line_two he
            obtain ⟨h1, h3, h4, h5⟩ := next _ (ha.snoc (x := opAt fr (lineP (lexS (lineB l)).1 (lineB l).length)) ⟨⟨by simp only [opAt]; omega, by simp only [opAt]; omega⟩, ⟨by simp only [opAt]; omega, by simp only [opAt]; omega⟩, line_edges_len _ _⟩)
            refine ⟨h1, h3, h4, ?_⟩
            rw [List.length_append, List.length_singleton] at h5
            rcases restB_len l with h0 | h0 <;> omega
          · exact ⟨ha, by simp only [posOf]; omega, by simp only [posOf]; omega, by simp only; omega⟩
    · exact ⟨ha, by simp only; omega, by simp only; omega, by simp only; omega⟩
theorem parse_ok_pos : ∀ (n : Nat) (l : List UInt8), l.length ≤ n → ∀ (fr : Nat) (acc : List S34), (parseT fr l acc).2.2 = 0 → (parseT fr l acc).2.1 = 0
  | n, [], _, fr, acc, _ => by rw [parseT_nil]
  | 0, c :: r, hn, _, _, _ => absurd hn (by simp)
  | n + 1, c :: r, hn, fr, acc, h => by
    have hrest := restB_lt c r
    generalize hl : c :: r = l at *
    have hne : l ≠ [] := by rw [← hl]; simp
    rw [parseT_step fr l acc hne] at h ⊢
    by_cases c1 : (lexS (lineB l)).2.2 = 0
    · simp only [if_pos c1] at h ⊢
      by_cases c2 : (lexS (lineB l)).1.length = 0
      · simp only [if_pos c2] at h ⊢
        exact parse_ok_pos n (restB l) (by omega) _ _ h
      · simp only [if_neg c2] at h ⊢
        by_cases c3 : acc.length = 1000
        · simp only [if_pos c3] at h
          exact absurd h (by decide)
        · simp only [if_neg c3] at h ⊢
          by_cases c4 : errOf (lineP (lexS (lineB l)).1 (lineB l).length) = 0
          · simp only [if_pos c4] at h ⊢
            exact parse_ok_pos n (restB l) (by omega) _ _ h
          · simp only [if_neg c4] at h
            exact absurd h c4
    · simp only [if_neg c1] at h
      exact absurd h c1
theorem rd34_left (a b : List S34) (i : Nat) (h : i < a.length) : rd_T34 (a ++ b) (i : Int) = rd_T34 a (i : Int) := by
  unfold rd_T34
  simp only [Int.toNat_natCast, List.getD_eq_getElem?_getD]
  rw [List.getElem?_append_left h]
theorem rd34_right (a b : List S34) (i : Nat) (h : i < b.length) : rd_T34 (a ++ b) ((a.length + i : Nat) : Int) = rd_T34 b (i : Int) := by
  unfold rd_T34
  simp only [Int.toNat_natCast, List.getD_eq_getElem?_getD]
  rw [List.getElem?_append_right (by omega), Nat.add_sub_cancel_left]
theorem rd34_map (f : S34 → S34) (b : List S34) (i : Nat) (h : i < b.length) : rd_T34 (b.map f) (i : Int) = f (rd_T34 b (i : Int)) := by
  unfold rd_T34
  simp only [Int.toNat_natCast, List.getD_eq_getElem?_getD]
  rw [List.getElem?_map, List.getElem?_eq_getElem h]
  rfl
theorem rd34_mem (b : List S34) (i : Nat) (h : i < b.length) : rd_T34 b (i : Int) ∈ b := by
  unfold rd_T34
  simp only [Int.toNat_natCast, List.getD_eq_getElem?_getD]
  rw [List.getElem?_eq_getElem h]
  exact List.getElem_mem h
theorem cut_size (s : ByteArray) (m : Nat) : (s.extract 0 (mn (s.size : Int) (m : Int)).toNat).size ≤ m ∧ 0 ≤ mn (s.size : Int) (m : Int) ∧ mn (s.size : Int) (m : Int) ≤ s.size := by
  unfold mn
  split
  · refine ⟨?_, by omega, by omega⟩
    rw [ByteArray.size_extract]
    simp only [Int.toNat_natCast]
    omega
  · refine ⟨?_, by omega, by omega⟩
    rw [ByteArray.size_extract]
    simp only [Int.toNat_natCast]
    omega
end Go.Proofs.YtmdmdbiinngneaaDoor.Q
