import Derived.Test.YtmdmdbiinngneaaGreatDoorU4
import Derived.Test.YtmdmdbiinngneaaGreatDoorQ8
import Derived.Laws.Strings
namespace Go.Proofs.YtmdmdbiinngneaaGreatDoor.Q
open Go Go.RowKit Go.Proofs.YtmdmdbiinngneaaGreatDoorW.PrintWords Go.Proofs.YtmdmdbiinngneaaGreatDoorW.PrintLast Go.Proofs.YtmdmdbiinngneaaGreatDoorW.PrintMore Go.Proofs.YtmdmdbiinngneaaGreatDoor.Pieces
set_option linter.unusedVariables false
set_option linter.unusedSimpArgs false
/-! ### Edges in order -/
def ltE (x y : S64) : Prop := x.f0 < y.f0 ∨ (x.f0 = y.f0 ∧ x.f1 < y.f1)
theorem ltE_dec (x y : S64) : ltOf cmpEdge x y = true ↔ ltE x y := by
  unfold ltOf cmpEdge cmp3 ltE
  rw [decide_eq_true_eq]
  repeat' split
  all_goals omega
theorem leE_iff (x y : S64) : (!(ltOf cmpEdge) y x) = true ↔ ¬ ltE y x := by
  rw [Bool.not_eq_true', ← Bool.not_eq_true, ltE_dec]
theorem s39_ext {x y : S64} (h0 : x.f0 = y.f0) (h1 : x.f1 = y.f1) : x = y := by
  cases x; cases y; simp_all
theorem ltE_tri (x y : S64) (h : ¬ ltE y x) (h2 : sameE y x = false) : ltE x y := by
  unfold ltE at h ⊢
  unfold sameE at h2
  have : ¬ (y.f0 = x.f0 ∧ y.f1 = x.f1) := fun ⟨a, b⟩ => by simp [a, b] at h2
  omega
theorem sameE_eq {x y : S64} (h : sameE x y = true) : x = y := by
  unfold sameE at h
  rw [Bool.and_eq_true, beq_iff_eq, beq_iff_eq] at h
  exact s39_ext h.1 h.2
theorem leE_trans (a b c : S64) (h : (!(ltOf cmpEdge) b a) = true) (k : (!(ltOf cmpEdge) c b) = true) : (!(ltOf cmpEdge) c a) = true := by
  rw [leE_iff] at *
  unfold ltE at *
  omega
theorem leE_total (a b : S64) : ((!(ltOf cmpEdge) b a) || (!(ltOf cmpEdge) a b)) = true := by
  rw [Bool.or_eq_true, leE_iff, leE_iff]
  unfold ltE
  omega
theorem sortE_sorted (xs : List S64) : (sortE xs).Pairwise (fun x y => ¬ ltE y x) := by
  have := List.pairwise_mergeSort (le := fun x y : S64 => !(ltOf cmpEdge) y x) leE_trans leE_total xs
  exact this.imp fun {a b} h => (leE_iff a b).1 h
theorem sortE_mem (xs : List S64) (x : S64) : x ∈ sortE xs ↔ x ∈ xs := (List.mergeSort_perm xs _).mem_iff
theorem sortE_len (xs : List S64) : (sortE xs).length = xs.length := (List.mergeSort_perm xs _).length_eq
theorem compactGo_sub : ∀ (l : List S64) (p : S64), (compactGo p l).Sublist l
  | [], _ => List.Sublist.refl _
  | y :: r, p => by
    unfold compactGo
    split
    · exact (compactGo_sub r y).cons _
    · exact (compactGo_sub r y).cons_cons _
theorem compactE_sub (l : List S64) : (compactE l).Sublist l := by
  cases l with
  | nil => exact List.Sublist.refl _
  | cons x r => exact (compactGo_sub r x).cons_cons _
theorem compactGo_lt : ∀ (l : List S64) (p : S64), (p :: l).Pairwise (fun x y => ¬ ltE y x) → (p :: compactGo p l).Pairwise ltE
  | [], p, _ => List.pairwise_singleton _ _
  | y :: r, p, h => by
    obtain ⟨h1, h2⟩ := List.pairwise_cons.1 h
    have ih := compactGo_lt r y h2
    unfold compactGo
    split
    · rename_i hs
      rw [← sameE_eq hs]
      exact ih
    · rename_i hs
      have hlt := ltE_tri p y (h1 y (by simp)) (by simpa using hs)
      refine List.pairwise_cons.2 ⟨fun z hz => ?_, ih⟩
      rcases List.mem_cons.1 hz with rfl | hz
      · exact hlt
      · have := (List.pairwise_cons.1 ih).1 z hz
        unfold ltE at *
        omega
theorem compactE_lt {l : List S64} (h : l.Pairwise (fun x y => ¬ ltE y x)) : (compactE l).Pairwise ltE := by
  cases l with
  | nil => exact List.Pairwise.nil
  | cons x r => exact compactGo_lt r x h
theorem compactGo_self : ∀ (l : List S64) (p : S64), (p :: l).Pairwise ltE → compactGo p l = l
  | [], _, _ => rfl
  | y :: r, p, h => by
    obtain ⟨h1, h2⟩ := List.pairwise_cons.1 h
    have hlt := h1 y (by simp)
    unfold compactGo
    rw [if_neg, compactGo_self r y h2]
    intro hs
    rw [sameE_eq hs] at hlt
    unfold ltE at hlt
    omega
theorem compactGo_mem : ∀ (l : List S64) (p x : S64), x ∈ p :: compactGo p l ↔ x ∈ p :: l
  | [], _, _ => Iff.rfl
  | y :: r, p, x => by
    have ih := compactGo_mem r y x
    unfold compactGo
    split
    · rename_i hs
      have e := sameE_eq hs
      subst e
      rw [ih]
      simp
    · rw [List.mem_cons, ih, List.mem_cons (b := p)]
theorem compactE_mem (l : List S64) (x : S64) : x ∈ compactE l ↔ x ∈ l := by
  cases l with
  | nil => exact Iff.rfl
  | cons y r => exact compactGo_mem r y x
/-- An edge of a right graph of n vertices. -/
def EdgeIn (n : Int) (x : S64) : Prop := 0 ≤ x.f0 ∧ x.f0 < x.f1 ∧ x.f1 < n
theorem normGo_some (n : Int) : ∀ (l acc all : List S64), normGo n l acc = some all → (∀ x ∈ acc, EdgeIn n x) → (∀ x ∈ all, EdgeIn n x) ∧ all.length ≤ acc.length + l.length
  | [], acc, all, h, ha => by
    simp only [normGo, Option.some.injEq] at h
    subst h
    exact ⟨ha, by simp⟩
  | x :: r, acc, all, h, ha => by
    unfold normGo at h
    split at h
    · cases h
    · rename_i hb
      have hx : x.f0 ≠ x.f1 → EdgeIn n (edgeOf x) := fun hne => by
        unfold EdgeIn edgeOf mnE mxE at *
        simp only
        revert hb
        repeat' split
        all_goals intro hb
        all_goals omega
      obtain ⟨h1, h2⟩ := normGo_some n r _ all h (by
        intro y hy
        split at hy
        · exact ha y hy
        · rename_i hne
          rcases List.mem_append.1 hy with hy | hy
          · exact ha y hy
          · obtain rfl := List.mem_singleton.1 hy
            exact hx hne)
      refine ⟨h1, ?_⟩
      rw [List.length_cons]
      split at h2
      · omega
      · rw [List.length_append, List.length_singleton] at h2
        omega
theorem normGo_self (n : Int) : ∀ (l acc : List S64), (∀ x ∈ l, EdgeIn n x) → normGo n l acc = some (acc ++ l)
  | [], acc, _ => by simp [normGo]
  | x :: r, acc, h => by
    obtain ⟨h0, h1, h2⟩ := h x (by simp)
    have e1 : mnE x.f0 x.f1 = x.f0 := by unfold mnE; rw [if_neg (by omega)]
    have e2 : mxE x.f0 x.f1 = x.f1 := by unfold mxE; rw [if_pos (by omega)]
    have e3 : edgeOf x = x := by unfold edgeOf; rw [e1, e2]
    unfold normGo
    rw [e1, e2, if_neg (by omega), if_neg (by omega), e3, normGo_self n r _ (fun y hy => h y (by simp [hy]))]
    simp
/-- The edges of a right graph. -/
def Normed (n : Int) (es : List S64) : Prop := 0 ≤ n ∧ n ≤ 1000 ∧ es.Pairwise ltE ∧ (∀ x ∈ es, EdgeIn n x) ∧ es.length ≤ 4000
theorem normal_ok {n : Int} {l : List S64} (h : (graphNormal n l).2.2 = 0) : (graphNormal n l).1 = n ∧ Normed n (graphNormal n l).2.1 ∧ (graphNormal n l).2.1.length ≤ l.length := by
  unfold graphNormal at h ⊢
  split at h
  · exact absurd h (show ¬ (1 : Int) = 0 by decide)
  · split at h
    · exact absurd h (show ¬ (5 : Int) = 0 by decide)
    · rename_i h1 h2
      rw [if_neg h1, if_neg h2]
      cases hn : normGo n l [] with
      | none => rw [hn] at h; exact absurd h (show ¬ (4 : Int) = 0 by decide)
      | some all =>
        rw [hn] at h
        obtain ⟨h3, h4⟩ := normGo_some n l [] all hn (fun _ h => absurd h (by simp))
        simp only at h ⊢
        have hlen : (compactE (sortE all)).length ≤ l.length := by
          have := (compactE_sub (sortE all)).length_le
          rw [sortE_len] at this
          simp at h4
          omega
        split at h
        · exact absurd h (show ¬ (5 : Int) = 0 by decide)
        · rename_i h5
          rw [if_neg h5]
          refine ⟨rfl, ⟨by omega, by omega, compactE_lt (sortE_sorted all), fun x hx => ?_, by simp only; omega⟩, hlen⟩
          exact h3 x ((sortE_mem all x).1 ((compactE_sub _).subset hx))
end Go.Proofs.YtmdmdbiinngneaaGreatDoor.Q
