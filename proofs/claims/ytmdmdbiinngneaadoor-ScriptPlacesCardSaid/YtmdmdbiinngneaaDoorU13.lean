import Derived.Test.YtmdmdbiinngneaaDoorU12
import Derived.Test.YtmdmdbiinngneaaDoorQ22
namespace Go.Proofs.YtmdmdbiinngneaaDoor.Q
open Go Go.RowKit Go.Proofs.YtmdmdbiinngneaaDoorW.PrintWords Go.Proofs.YtmdmdbiinngneaaDoorW.PrintLast Go.Proofs.YtmdmdbiinngneaaDoorW.PrintMore Go.Proofs.YtmdmdbiinngneaaDoor.Pieces
set_option linter.unusedVariables false
set_option linter.unusedSimpArgs false
/-! ### ScriptPlaces -/
theorem places_l0 (s : ByteArray) (hs : s.size ≤ 1048576) (ops : List S34) (pos er : Int) (hok : ∀ x ∈ ops, OpOk x) (hin : OpsIn 1048576 ops) (hlen : ops.length ≤ 1000000)
    (h0 : er = 0 → pos = 0) (h1 : er ≠ 0 → lastOf 0 ops ≤ pos) (h2 : pos ≤ s.size) : ∀ (d i k : Nat) (last : Int), i + d = ops.length → d + 5000 < k → Chain s.data.toList last (ops.drop i) → lastOf last (ops.drop i) = lastOf 0 ops →
    carcanetlaw25_ScriptPlaces.l0 k s true ops pos er last (i : Int) = some true
  | 0, i, k, last, h, hk, hc, hl => by
    obtain ⟨k, rfl⟩ : ∃ q, k = q + 1 := ⟨k - 1, by omega⟩
    rw [List.drop_eq_nil_of_le (by omega)] at hl
    have hl' : last = lastOf 0 ops := hl
    simp only [carcanetlaw25_ScriptPlaces.l0]
    rw [if_neg (by omega), if_pos trivial]
    by_cases c : er = 0
    · rw [if_pos c, if_pos (h0 c)]
    · have := h1 c
      rw [if_neg c, if_pos (by omega), show decide (pos ≤ (s.size : Int)) = true from decide_eq_true h2]
  | d + 1, i, k, last, h, hk, hc, hl => by
    obtain ⟨k, rfl⟩ : ∃ q, k = q + 1 := ⟨k - 1, by omega⟩
    have hi : i < ops.length := by omega
    have hx := hok _ (List.getElem_mem hi)
    obtain ⟨⟨b0, b1⟩, ⟨b2, b3⟩, b4⟩ := hin _ (List.getElem_mem hi)
    rw [List.drop_eq_getElem_cons hi] at hc hl
    obtain ⟨⟨q1, q2, q3, q4, q5⟩, hc2⟩ := hc
    have hsz : s.data.toList.length = s.size := rfl
    have h32 := isName_len hx.1
    have hnm : (ops[i]'hi).f1.size = (ops[i]'hi).f1.data.toList.length := rfl
    unfold nextOf at q3
    have hN := op_normed hx
    have go : carcanetlaw25_ScriptPlaces.l0 k s true ops pos er (wrap64 ((ops[i]'hi).f5 + ((ops[i]'hi).f1.size : Int))) (wrap64 ((i : Int) + 1)) = some true := by
      rw [w64 (x := (i : Int) + 1) (by omega) (by omega), w64 (by omega) (by omega), show (i : Int) + 1 = ((i + 1 : Nat) : Int) by omega]
      exact places_l0 s hs ops pos er hok hin hlen h0 h1 h2 d (i + 1) k _ (by omega) (by omega) hc2 hl
    simp only [carcanetlaw25_ScriptPlaces.l0]
    rw [if_pos (by omega), if_pos (by omega), rd34_get ops i hi]
    generalize ops[i]'hi = x at *
    have e1 : wrap64 ((s.size : Int) - (x.f1.size : Int)) = (s.size : Int) - (x.f1.size : Int) := w64 (by omega) (by omega)
    have e2 : wrap64 (x.f5 + (x.f1.size : Int)) = x.f5 + (x.f1.size : Int) := w64 (by omega) (by omega)
    rw [e2] at go
    rw [e1, e2]
    have hne : ¬ x.f1.toList = [] := by rw [ByteArray.toList_eq]; exact q4
    rw [if_neg (by omega), if_neg (by omega), if_neg (by omega), if_neg hne, if_pos (by omega), if_pos (by omega), if_pos (by omega)]
    have htx : (s.extract x.f5.toNat (x.f5 + (x.f1.size : Int)).toNat).toList = x.f1.toList := by
      rw [ByteArray.toList_eq, ByteArray.toList_eq, ByteArray.data_extract, Array.toList_extract, List.extract_eq_take_drop, show (x.f5 + (x.f1.size : Int)).toNat - x.f5.toNat = x.f1.data.toList.length by omega]
      exact q5
    have hkind : 1 ≤ x.f0 ∧ x.f0 ≤ 4 := by
      rcases hx.2 with ⟨h, _⟩ | ⟨h, _⟩ | ⟨h | h, _⟩ <;> omega
    rw [if_pos htx, if_neg (by omega), if_neg (by omega), right_true hN k (by have := hN.2.2.2.2; omega)]
    simp only [Option.bind_some, if_true]
    rcases hx.2 with ⟨k0, _, k3⟩ | ⟨k0, k1, k4, k2⟩ | ⟨k0, k3, k2⟩
    · rw [if_pos k0, if_neg (by omega), if_neg (by rw [k0]; decide)]
      exact go
    · have hz : ¬ wrap64 (x.f2.f0 + (x.f2.f1.length : Int)) > 0 := by rw [k2]; show ¬ wrap64 (0 + ((0 : Nat) : Int)) > 0; unfold wrap64; omega
      rw [if_neg (by omega), if_neg hz, if_pos (by omega), if_neg (by rw [k0, show decide (x.f3 ≤ 4) = true from decide_eq_true k4]; decide)]
      exact go
    · have hz : ¬ wrap64 (x.f2.f0 + (x.f2.f1.length : Int)) > 0 := by rw [k2]; show ¬ wrap64 (0 + ((0 : Nat) : Int)) > 0; unfold wrap64; omega
      have h2' : (x.f0 == 2) = false := by rw [beq_eq_false_iff_ne]; omega
      rw [if_neg (by omega), if_neg hz, if_neg (by omega), if_neg (by rw [h2']; decide)]
      exact go
theorem places_true (a0 : ByteArray) : ∃ k, carcanetlaw25_ScriptPlaces.f k a0 = some true := by
  obtain ⟨s1, s2, s3⟩ := cut_size a0 1500
  rw [show ((1500 : Nat) : Int) = 1500 from rfl] at s1 s2 s3
  unfold carcanetlaw25_ScriptPlaces.f carcanetlaw25_shown.f
  simp only [Option.bind_some, if_pos s2, if_pos s3]
  generalize a0.extract 0 (mn (a0.size : Int) 1500).toNat = s at s1 ⊢
  obtain ⟨K, hK⟩ : ∃ K : Nat, 500000 < K := ⟨500001, by decide⟩
  refine ⟨K, ?_⟩
  have es : s.data.toList.length = s.size := rfl
  rw [parse_eq s (by omega) K (by omega)]
  simp only [Option.bind_some]
  obtain ⟨a1, a2, a3, a4⟩ := parse_in s.size s.size s.data.toList (by omega) (by omega) 0 [] (by omega) (fun _ h => absurd h (by simp))
  obtain ⟨b1, _⟩ := parse_ops s.size s.data.toList (by omega) (by omega) 0 [] (fun _ h => absurd h (by simp))
  obtain ⟨c1, c2⟩ := parse_places s.data.toList (by omega) s.size s.data.toList (by omega) 0 [] (by simp) trivial (by show (0 : Int) ≤ _; omega)
  simp only [List.length_nil] at a4
  have hin : OpsIn 1048576 (parseT 0 s.data.toList []).1 := fun x hx => by
    obtain ⟨h1, h2, h3⟩ := a1 x hx
    exact ⟨by omega, by omega, h3⟩
  have := places_l0 s (by omega) _ _ _ b1 hin (by omega) (fun h => parse_ok_pos _ _ (Nat.le_refl _) _ _ h) c2 a3 (parseT 0 s.data.toList []).1.length 0 K 0 (by omega) (by omega) (by rw [List.drop_zero]; exact c1) (by rw [List.drop_zero])
  exact this
end Go.Proofs.YtmdmdbiinngneaaDoor.Q
