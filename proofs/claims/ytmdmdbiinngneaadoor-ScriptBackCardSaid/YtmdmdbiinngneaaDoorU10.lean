import Derived.Test.YtmdmdbiinngneaaDoorU9
import Derived.Test.YtmdmdbiinngneaaDoorQ17
namespace Go.Proofs.YtmdmdbiinngneaaDoor.Q
open Go Go.RowKit Go.Proofs.YtmdmdbiinngneaaDoorW.PrintWords Go.Proofs.YtmdmdbiinngneaaDoorW.PrintLast Go.Proofs.YtmdmdbiinngneaaDoorW.PrintMore Go.Proofs.YtmdmdbiinngneaaDoor.Pieces
set_option linter.unusedVariables false
set_option linter.unusedSimpArgs false
theorem back_l1 (l m : List S34) (hb : m.map bare = l.map bare) (hl : ∀ x ∈ l, OpOk x) (hll : l.length ≤ 1000000) : ∀ (d i k : Nat), i + d = l.length → 5000 + d < k → carcanetlaw25_ScriptBack.l1 k true l m (i : Int) = some true
  | 0, i, k, h, hk => by
    obtain ⟨k, rfl⟩ : ∃ q, k = q + 1 := ⟨k - 1, by omega⟩
    simp only [carcanetlaw25_ScriptBack.l1]
    rw [if_neg (by omega)]
  | d + 1, i, k, h, hk => by
    obtain ⟨k, rfl⟩ : ∃ q, k = q + 1 := ⟨k - 1, by omega⟩
    have hlen : m.length = l.length := by
      have := congrArg List.length hb
      simpa using this
    have hi : i < l.length := by omega
    have him : i < m.length := by omega
    have he : bare (m[i]'him) = bare (l[i]'hi) := by
      have := congrArg (fun z => z[i]?) hb
      simp only [List.getElem?_map, List.getElem?_eq_getElem hi, List.getElem?_eq_getElem him, Option.map_some, Option.some.injEq] at this
      exact this
    unfold bare at he
    injection he with h0 h1 h2 h3
    have hed := opOk_edges (hl _ (List.getElem_mem hi))
    simp only [carcanetlaw25_ScriptBack.l1]
    rw [if_pos (by omega), if_pos (by omega), if_pos (by omega), rd34_get l i hi, rd34_get m i him, h0, h1, h2, h3, same_self k _ _ _ (by omega) (by omega)]
    simp only [Option.bind_some, if_true]
    rw [w64 (by omega) (by omega), show (i : Int) + 1 = ((i + 1 : Nat) : Int) by omega]
    exact back_l1 l m hb hl hll d (i + 1) k (by omega) (by omega)
theorem textP_take (l : List S34) (i : Nat) (h : i < l.length) : textP (l.take (i + 1)) = textP (l.take i) ++ (opText (l[i]'h) ++ [10]) := by
  rw [List.take_succ_eq_append_getElem h, textP_snoc]
theorem textP_take_le (l : List S34) (i : Nat) : (textP (l.take i)).length ≤ (textP l).length := by
  conv => rhs; rw [← List.take_append_drop i l]
  unfold textP
  rw [List.flatMap_append, List.length_append]
  omega
theorem back_l0 (l : List S34) (hl : ∀ x ∈ l, OpOk x) (hll : l.length ≤ 1000) (ht : (textP l).length ≤ 100000) : ∀ (d i k : Nat), i + d = l.length → 400000 + d < k →
    carcanetlaw25_ScriptBack.l0 k true l (mkB (textP l)) (mkB (textP (l.take i))) (i : Int) = some true
  | 0, i, k, h, hk => by
    obtain ⟨k, rfl⟩ : ∃ q, k = q + 2 := ⟨k - 2, by omega⟩
    simp only [carcanetlaw25_ScriptBack.l0]
    rw [if_neg (by omega), parse_eq (mkB (textP l)) (by rw [mkB_size]; omega) (k + 1) (by rw [mkB_size]; omega), mkB_data]
    obtain ⟨m, hm, hb⟩ := parse_text l 0 [] hl (by simp; omega)
    have hlen : m.length = l.length := by
      have := congrArg List.length hb
      simpa using this
    rw [hm]
    simp only [Option.bind_some, List.nil_append]
    have hmok : ∀ x ∈ m, OpOk x := fun x hx => by
      have : bare x ∈ l.map bare := by rw [← hb]; exact List.mem_map_of_mem hx
      obtain ⟨y, hy, he⟩ := List.mem_map.1 this
      exact bare_ok he.symm (hl y hy)
    have htm : textP m = textP l := textP_bare m l hb
    rw [show l.take i = l from List.take_of_length_le (by omega)]
    simp only [if_true]
    rw [if_pos (by omega), text_eq m hmok (by omega) (by rw [htm]; omega), htm]
    simp only [Option.bind_some, carcanetlaw25_ScriptBack.j1]
    rw [if_neg (by simp)]
    exact back_l1 l m hb hl (by omega) l.length 0 k (by omega) (by omega)
  | d + 1, i, k, h, hk => by
    obtain ⟨k, rfl⟩ : ∃ q, k = q + 1 := ⟨k - 1, by omega⟩
    have hi : i < l.length := by omega
    have h1 := textP_take_le l (i + 1)
    rw [textP_take l i hi, List.length_append, List.length_append, List.length_singleton] at h1
    simp only [carcanetlaw25_ScriptBack.l0]
    rw [if_pos (by omega), if_pos (by omega), rd34_get l i hi, line_text_eq _ (hl _ (List.getElem_mem hi)) k (by omega)]
    simp only [Option.bind_some]
    rw [mkB_size, mkB_size, if_pos (by omega), mkB_app, mkB_size, List.length_append, if_pos (by omega), c10, mkB_app, List.append_assoc, ← textP_take l i hi, w64 (by omega) (by omega), show (i : Int) + 1 = ((i + 1 : Nat) : Int) by omega]
    exact back_l0 l hl hll ht d (i + 1) k (by omega) (by omega)
theorem back_true (a0 : ByteArray) : ∃ k, carcanetlaw25_ScriptBack.f k a0 = some true := by
  obtain ⟨s1, s2, s3⟩ := cut_size a0 1500
  rw [show ((1500 : Nat) : Int) = 1500 from rfl] at s1 s2 s3
  unfold carcanetlaw25_ScriptBack.f carcanetlaw25_shown.f
  simp only [Option.bind_some, if_pos s2, if_pos s3]
  generalize a0.extract 0 (mn (a0.size : Int) 1500).toNat = s at s1 ⊢
  obtain ⟨K, hK⟩ : ∃ K : Nat, 500000 < K := ⟨500001, by decide⟩
  refine ⟨K, ?_⟩
  have es : s.data.toList.length = s.size := rfl
  rw [parse_eq s (by omega) K (by omega)]
  simp only [Option.bind_some]
  obtain ⟨_, _, _, a4⟩ := parse_in s.size s.size s.data.toList (by omega) (by omega) 0 [] (by omega) (fun _ h => absurd h (by simp))
  obtain ⟨b1, b2⟩ := parse_ops s.size s.data.toList (by omega) (by omega) 0 [] (fun _ h => absurd h (by simp))
  simp only [List.length_nil] at a4
  have b3 : (textP (parseT 0 s.data.toList []).1).length ≤ 100000 := by
    have : (textP []).length = 0 := rfl
    omega
  rw [text_eq _ b1 (by omega) (by omega)]
  simp only [Option.bind_some]
  exact back_l0 _ b1 (by omega) b3 (parseT 0 s.data.toList []).1.length 0 K (by omega) (by omega)
end Go.Proofs.YtmdmdbiinngneaaDoor.Q
