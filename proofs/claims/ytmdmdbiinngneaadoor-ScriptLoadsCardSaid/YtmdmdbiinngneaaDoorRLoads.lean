/- ScriptLoads (a graph that is written is read as it is; a vertex that is not there is told at its place) returns true for every n and every slice of edges; its arguments read as before. Conditions: the card's own (the listed package-level variables of strconv and math/bits hold what the program's text lays). -/
import Derived.Test.YtmdmdbiinngneaaDoorR0
import Derived.Test.YtmdmdbiinngneaaDoorU11
import Derived.Deep.SlicePairs
import Derived.Carry
import Derived.Test.YtmdmdbiinngneaaDoorCards
import Derived.Test.YtmdmdbiinngneaaDoorTie
import Derived.SevenTiedAt
namespace Go.Proofs.YtmdmdbiinngneaaDoor.Q
open Go Go.ChangeShapes Go.WideShapes Go.ChangeAt Go.RowKit Go.ChangeMaps Go.Proofs.YtmdmdbiinngneaaDoorW.PrintWords Go.Proofs.YtmdmdbiinngneaaDoorW.PrintLast Go.Proofs.YtmdmdbiinngneaaDoorW.PrintMore
open Go.ChangeMaps (open_string shut_string)
set_option linter.unusedVariables false
set_option linter.unusedSimpArgs false
open Go.Deep (open_slice_pairs)
theorem laidOut : laidOutB Tryd.prog = true := by kernel_rfl
theorem cE : Tryd.prog.cellsOf 39 = 2 := by kernel_rfl
theorem cI : Tryd.prog.cellsOf 3 = 1 := by kernel_rfl
theorem bE : Tryd.prog.bytesOf 39 = 16 := by kernel_rfl
def numOf : Value → Int
  | .int _ k => k
  | _ => 0
/-- A row of edges that came in. -/
theorem open_edges {H : Type} {enc : TypeId × Value → H} {W : World} {a : Option Addr} {len cap : Nat} {d : DataW H} {ps : List MemPlace} {ts : List TypeId} {ds : List (DataW H)} {j : Nat}
    (hsz : (DataW.weightsEach Tryd.prog ts ds).all (· ≤ reachBytes) = true) (ht : ts[j]? = some 29) (hd : ds[j]? = some d)
    (h : DataW.Trod enc Tryd.prog W 0 (fun _ => true) true 29 (.slice a len cap) d ps) : ∃ l : List S39, l.length = len ∧ Kd.C k39 W a len l ∧ len ≤ cap ∧ len * 16 ≤ 140737488351232 := by
  obtain ⟨fuel, hf⟩ := h
  rcases open_slice_pairs Tryd.underlying29 Tryd.underlying39 cE rfl rfl cI cI hf with ⟨hcs, _⟩ | ⟨x, l, c, m, n, V0, V1, D0, D1, P0, P1, hcs, _, hl, hm, hmeq, hx, hall⟩
  · simp [Value.cells] at hcs
    obtain ⟨rfl, rfl, rfl⟩ := hcs
    exact ⟨[], rfl, Kd.C_nil _ _, Nat.le_refl _, by simp⟩
  · simp [Value.cells] at hcs
    obtain ⟨rfl, rfl, rfl⟩ := hcs
    simp only [if_true] at hmeq
    subst hmeq
    obtain ⟨hx, _⟩ := Prod.mk.inj hx
    subst hx
    have z := sized_slice hsz ht hd Tryd.underlying29
    rw [bE, show reachBytes = 140737488351232 from rfl] at z
    simp only [List.length_map, List.length_range] at z
    have hmx : len ≤ 9223372036854775807 := by
      have h1 : maxLen ≤ 9223372036854775807 := by decide
      omega
    refine ⟨(List.range len).map fun i => ⟨numOf (V0 i), numOf (V1 i)⟩, by simp, ⟨by simp, hmx, fun _ => ⟨x, rfl, fun i p hp => ?_⟩⟩, hl, by omega⟩
    have hi : i < len := by
      have := (List.getElem?_eq_some_iff.1 hp).1
      simpa using this
    obtain ⟨t0, t1, u0, u1⟩ := hall i (by omega)
    obtain ⟨z0, e0, _⟩ := DataW.trod_int Tryd.underlying3 u0
    obtain ⟨z1, e1, _⟩ := DataW.trod_int Tryd.underlying3 u1
    simp only [List.cons.injEq, and_true] at e0 e1
    have hp' : p = ⟨z0, z1⟩ := by
      rw [List.getElem?_map, List.getElem?_range hi] at hp
      simp only [Option.map_some, Option.some.injEq] at hp
      rw [← hp, e0, e1]
      rfl
    subst hp'
    refine ⟨[.int .i64 z0, .int .i64 z1], rfl, k39_mk _ _, fun q u hq => ?_⟩
    rcases q with _ | _ | q
    · simp only [List.getElem?_cons_zero, Option.some.injEq] at hq
      rw [← hq, Nat.add_zero, ← e0]
      exact t0
    · simp only [List.getElem?_cons_succ, List.getElem?_cons_zero, Option.some.injEq] at hq
      rw [← hq, ← e1]
      exact t1
    · simp at hq
set_option maxRecDepth 100000 in
theorem loads_lifted (os : Os) (started : os.Started) (H : Type) (enc : TypeId × Value → H) :
    ReturnsInHanded {} Tryd.checked os 4 .any (fun w args => (Rows.scriptLoadsSpec.pre enc Tryd.prog Tryd.f4 [] false w args ∧ laidMetH Tryd.prog laidL w) ∧ sizedMet enc Tryd.prog Tryd.f4 (OpenSpec.ofChange Rows.scriptLoadsSpec) false w args)
      (Rows.scriptLoadsSpec.post enc Tryd.prog Tryd.f4 false true false false) := by
  refine returnsInHanded_of_change_and (C := Tryd.checked) (X := fun w _ => laidMetH Tryd.prog laidL w) (fun _ _ _ hh h => h.of_heap hh) own started (by kernel_rfl) Tryd.func4
    (ChangeSpec.witness_shaped (enc := enc) (C := Tryd.checked) (os := os) (X := fun w _ => laidMetH Tryd.prog laidL w) false (World.doorLaid Tryd.prog 400 os) #[.int .i64 0, .slice none 0 0] 8 rfl (World.shaped_of_RefB (by kernel_rfl) (by kernel_rfl)) (by kernel_rfl) (by kernel_rfl) (by kernel_rfl) (door_met os _)) ?_
  intro W base args ds gs before hval0 hW hcnd hsz0 hL _
  have hval : ∀ (j : Nat) t v, Tryd.f4.params[j]? = some t → args[j]? = some v → Value.okWide Tryd.prog W .any base t v := hval0
  have hsz := hsz0
  have hW' := hW
  obtain ⟨p, q, hA0, hV, rfl, hfz, hnd⟩ := hW
  have hA : DataW.TrodAll enc Tryd.prog W 0 (fun _ => true) true Tryd.f4.params.toList args.toList ds p := hA0
  rw [Tryd.params4] at hA hval hsz
  obtain ⟨v0, vs0, d0, ds0, p0, q0, hargs, rfl, rfl, h0, r0⟩ := trodAll_cons hA
  obtain ⟨v1, vs1, d1, ds1, p1, q1, rfl, rfl, rfl, h1, r1⟩ := trodAll_cons r0
  obtain ⟨rfl, rfl, rfl⟩ := trodAll_nil r1
  obtain rfl : args = #[v0, v1] := by cases args; simp_all
  obtain ⟨rfl, rfl⟩ := trodVars_none hV
  obtain ⟨a0, rfl, rfl, rfl, w0⟩ := open_int Tryd.underlying3 (hval 0 3 v0 rfl rfl) h0
  obtain ⟨a1, len1, cap1, rfl⟩ := okWide_slice Tryd.underlying29 (hval 1 29 v1 rfl rfl)
  have k1 := h1
  have lt1 : ∀ x ∈ p1, x.block < W.heap.size := by obtain ⟨m, hm⟩ := k1; exact DataW.trod_lt m _ _ _ hm
  obtain ⟨l1, hlen1, hC1, hcap1, hby1⟩ := open_edges hsz (j := 1) rfl rfl h1
  have hgw := gw_of_laid hL
  clear hA0 hval0 hsz0 hL
  subst hlen1
  obtain ⟨k, hk⟩ := loads_true a0 l1 (by omega)
  refine (carcanetlaw25_ScriptLoads.calls k a0 a1 cap1 l1 true W hgw hC1 hcap1 hk).mono fun e W' ⟨he, bel⟩ => ?_
  subst he
  exact ⟨_, rfl, _, _, _, [], _, [], hW', trodAll_mk1 (shut_bool Tryd.underlying4 _), (trodAll_cons_mk (shut_int Tryd.underlying3 w0) (trodAll_cons_mk (Below.trod laidOut (by kernel_rfl) (of_decide_eq_true (by kernel_rfl)) k1 bel lt1) trodAll_mk0)), rfl, bel.frame _, fun h => by cases h⟩
theorem loads_over : Rows.scriptLoadsRow.holds Tryd.pinned (OpenSpec.ofChange Rows.scriptLoadsSpec) :=
  OpenClaim.holds_of_wide 4 Tryd.f4 rfl rfl rfl rfl rfl rfl rfl ⟨rfl, rfl, rfl, rfl, rfl⟩ rfl rfl rfl rfl rfl (by kernel_rfl) Tryd.func4 (by kernel_rfl)
    (of_decide_eq_true (by kernel_rfl)) (by unfold Func.isWrapper; first | (rw [if_pos (by decide +kernel)]; kernel_rfl) | (rw [if_neg (by decide +kernel)]; exact ⟨rfl, rfl⟩))
    (fun os started H enc _ => loads_lifted os started H enc)
theorem loads_card : Rows.ScriptLoadsCardSaid :=
  Claim7.holds_tied_plain_at .later [] [.data, .data, .data, .sentinel, .sentinel] true (true, "8542bd2f2a4c2b31673db820eb6fcbf11c9bf018cbd0501eb6711d4c38fe0748") true
    loads_over (fun _ h => by cases h) (by kernel_rfl) (fun _ h => by cases h) scriptLoads_row_tie rfl ⟨rfl, rfl⟩ (by kernel_rfl) rfl
    (fun f fn hf hfn => by
      obtain rfl : f = 4 := Option.some.inj ((show Tryd.prog.funcNamed "carcanet/carcanetlaw25.ScriptLoads" = some 4 by kernel_rfl).symm.trans hf) |>.symm
      obtain rfl : fn = Tryd.f4 := (Option.some.inj (Tryd.func4.symm.trans hfn)).symm
      exact ⟨by kernel_rfl, fun j t ht => by
        rw [Tryd.params4] at ht
        have hm : t ∈ [3, 29] := by simpa using Array.mem_of_getElem? ht
        have hall : ([3, 29].all fun u => !Tryd.prog.wantsStandIn u) = true := by kernel_rfl
        exact (show Tryd.prog.wantsStandIn t = false by simpa using List.all_eq_true.1 hall t hm)⟩)
    (by kernel_rfl)
#print axioms loads_card
end Go.Proofs.YtmdmdbiinngneaaDoor.Q
