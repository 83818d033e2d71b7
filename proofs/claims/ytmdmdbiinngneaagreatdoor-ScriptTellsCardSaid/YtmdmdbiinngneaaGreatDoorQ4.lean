-- Laid by prx.py (ours), out of the translation's print. Not trusted: Lean checks it.
import Derived.Test.YtmdmdbiinngneaaGreatDoorQ0
import Derived.Test.YtmdmdbiinngneaaGreatDoorQ3
import Derived.WalkSmall
import Derived.Lib.OthersKept
import Derived.Lib.Hide
namespace Go.Proofs.YtmdmdbiinngneaaGreatDoor.Q
open Go.RowKit Go.Proofs.YtmdmdbiinngneaaGreatDoorW.PrintWords Go.Proofs.YtmdmdbiinngneaaGreatDoorW.PrintLast Go.Proofs.YtmdmdbiinngneaaGreatDoorW.PrintMore
attribute [local go_sem] max2_int min2_int max_two min_two max_three min_three max_four min_four   -- for this text's walks alone
set_option linter.unusedVariables false
set_option linter.unusedSimpArgs false

/-! ### HAND runes_Decode: function 21 -/
def isFFFD (s : ByteArray) (pos : Nat) : Bool := decide (3 ≤ (s.extract pos s.size).size) && ((s.extract pos s.size).extract 0 ((3 : Nat) : Int).toNat).toList == (⟨#[239, 191, 189]⟩ : ByteArray).toList
theorem hasPrefix_FFFD (s : ByteArray) (pos : Nat) : strings_HasPrefix.f (s.extract pos s.size) (⟨#[239, 191, 189]⟩ : ByteArray) = some (isFFFD s pos) := by
  unfold strings_HasPrefix.f stringslite_HasPrefix.f isFFFD
  have h3 : (⟨#[239, 191, 189]⟩ : ByteArray).size = 3 := rfl
  rw [h3]
  by_cases hc : 3 ≤ (s.extract pos s.size).size
  · rw [if_pos (by omega), if_pos (by omega), if_pos (by omega)]
    simp only [Option.bind_some, hc, decide_true, Bool.true_and]
  · rw [if_neg (by omega)]
    simp only [Option.bind_some, hc, decide_false, Bool.false_and]
def runes_Decode.go (s : ByteArray) : Nat → Nat → List S72 → List S72 × Int × Int
  | 0, _, acc => (acc, 0, 0)
  | b + 1, pos, acc =>
    if pos < s.size then
      if ((Utf8.decode s pos).1 == 65533 && !isFFFD s pos) = true then ([], pos, 2)
      else runes_Decode.go s b (pos + (Utf8.decode s pos).2) (acc ++ [(⟨pos, (Utf8.decode s pos).1⟩ : S72)])
    else (acc, 0, 0)
def runes_Decode.f (a0 : ByteArray) : Option (List S72 × Int × Int) := if a0.size < 8796093022208 then some (runes_Decode.go a0 a0.size 0 []) else none
theorem width_pos (s : ByteArray) (pos : Nat) (h : pos < s.size) : 1 ≤ (Utf8.decode s pos).2 := by
  by_cases ha : (s[pos]'h).toNat < 128
  · rw [decode_ascii s pos h ha]
    exact Nat.le_refl _
  · exact (decode_high s pos h (by omega)).2
theorem Kd.R_iterAt {α : Type} {d : Kd α} {e : Nat} {w : World} {base : Nat} {v : Value} {xs : List α} {k : Nat} (h : d.R e w base (fun _ => True) v xs) (hk : k < base) (s : ByteArray) (p : Nat) : d.R e (w.iterAt k s p) base (fun _ => True) v xs :=
  Kd.R_mono (Kd.R_move (Kd.R_bound h) (fun j hj => Lib.iterAt_other w k j s p (by omega))) (fun _ _ => trivial)
theorem runes_Decode.go_step (s : ByteArray) (b pos : Nat) (acc : List S72) (h : pos < s.size) (hn : ((Utf8.decode s pos).1 == 65533 && !isFFFD s pos) = false) :
    runes_Decode.go s (b + 1) pos acc = runes_Decode.go s b (pos + (Utf8.decode s pos).2) (acc ++ [(⟨pos, (Utf8.decode s pos).1⟩ : S72)]) := by
  simp only [runes_Decode.go, h, if_true, hn, Bool.false_eq_true, if_false]
theorem runes_Decode.go_bad (s : ByteArray) (b pos : Nat) (acc : List S72) (h : pos < s.size) (hn : ((Utf8.decode s pos).1 == 65533 && !isFFFD s pos) = true) :
    runes_Decode.go s (b + 1) pos acc = ([], (pos : Int), 2) := by
  simp only [runes_Decode.go, h, if_true, hn]
theorem runes_Decode.go_end (s : ByteArray) (b pos : Nat) (acc : List S72) (h : ¬ pos < s.size) : runes_Decode.go s b pos acc = (acc, 0, 0) := by
  cases b <;> simp [runes_Decode.go, h]
set_option maxHeartbeats 1000000 in
set_option maxRecDepth 100000 in
theorem runes_Decode.calls (a0 : ByteArray) (r1 : List S72) (r2 r3 : Int) (w : World) (h : runes_Decode.f a0 = some (r1, r2, r3)) :
    Calls Tryz.prog 21 #[.string a0] w fun e w' => ∃ v0_ : Value, e = .returned (.tuple #[v0_, .int .i64 r2, .int .i64 r3]) ∧ Kd.R k72 72 w' w.heap.size (fun _ => True) v0_ r1 ∧ Below w.heap.size w w' := by
  have hu72 := Tryz.underlying72
  unfold runes_Decode.f at h
  by_cases hlim : a0.size < 8796093022208
  · rw [if_pos hlim] at h
    have HLIM := Aside0.mk hlim
    clear hlim
    have hgo := Lib.hid (Option.some.inj h)
    clear h
    go_enter Tryz.func21, Tryz.ntmps21
    go_wp2
    go_loopw [5] (fun v5 wr => ∃ (pos b : Nat) (acc : List S72), Aside0 (wr.heap[w.heap.size]? = some (.stringIter a0 pos)) ∧ Aside0 (Kd.R k72 72 wr (w.heap.size + 1) (fun _ => True) v5 acc) ∧ Aside0 (Below w.heap.size w wr) ∧ Hid (runes_Decode.go a0 b pos acc = (r1, r2, r3)) ∧ Aside0 (acc.length ≤ pos) ∧ Aside0 (a0.size ≤ pos + b)) (fun _ wr => a0.size - wr.iterPos w.heap.size)
    case atStart =>
      exact ⟨0, a0.size, [], ⟨by show (w.heap.push _)[w.heap.size]? = _; simp⟩, ⟨Kd.R_nil _ _ _ _ _⟩, ⟨below_alloc (Below.refl _ _) _⟩, hgo, ⟨by simp⟩, ⟨by omega⟩⟩
    case round =>
      obtain ⟨pos, b, acc, HIT, HO, HB, HG, HACC, HBB⟩ := hrel
      have hmeas : wr.iterPos w.heap.size = pos := iterPos_of HIT.out
      have HM := Aside0.mk hmeas
      clear hmeas
      by_cases hp : pos < a0.size
      · have hnx : ∀ ty, (Instr.next (.pointer (some ⟨w.heap.size, 0, none⟩)) true ty).run Tryz.prog wr = _ := fun ty => Lib.run_next_any_at wr w.heap.size a0 pos ty HIT.out hp
        have HP := Aside0.mk hp
        clear hp
        have HWD := Aside0.mk (width_pos a0 pos HP.out)
        have HIT1 := Aside0.mk (Lib.iterAt_heap wr w.heap.size a0 pos (pos + (Utf8.decode a0 pos).2) HIT.out)
        have HO1 := Aside0.mk (Kd.R_iterAt HO.out (show w.heap.size < w.heap.size + 1 by omega) a0 (pos + (Utf8.decode a0 pos).2))
        have HB1 := Aside0.mk (Lib.below_iterAt HB.out (Nat.le_refl w.heap.size) a0 (pos + (Utf8.decode a0 pos).2))
        have HPX := Aside0.mk (hasPrefix_FFFD a0 pos)
        cases b with
        | zero => exact absurd HBB.out (by have := HP.out; omega)
        | succ b =>
        have HSZ := Aside0.mk (Array.getElem?_eq_some_iff.1 HIT.out).1
        by_cases hc : (Utf8.decode a0 pos).1 = 65533
        · simp only [show (((Utf8.decode a0 pos).1 : Nat) : Int) = 65533 from by omega] at hnx
          have hple : pos ≤ a0.size := Nat.le_of_lt HP.out
          by_cases hf : isFFFD a0 pos = true
          · have HN := Aside0.mk (show ((Utf8.decode a0 pos).1 == 65533 && !isFFFD a0 pos) = false by simp [hf])
            have HSTEP := Aside0.mk (runes_Decode.go_step a0 b pos acc HP.out HN.out)
            simp only [show (((Utf8.decode a0 pos).1 : Nat) : Int) = 65533 from by omega] at HSTEP
            clear hc
            go_wp2_with (first | (go_at_call 45; refine (strings_HasPrefix.calls _ _ true _ (HPX.out.trans (by rw [hf]))).mono ?_; rintro e w' ⟨rfl, ⟨nd, rfl⟩⟩) | ((with_reducible refine gate_builtin (b := .append) (xs := #[.tmp 24, .tmp 28]) rfl ?_); at_builtin; refine Kd.R_append k72 (w0 := (wr.iterAt w.heap.size a0 (pos + (Utf8.decode a0 pos).2)).drewN nd) (w.heap.size + 1) rfl (.tmp 24) (.tmp 28) 67 72 (.agg #[(.int .i64 0), (.int .i32 0)]) 16 rfl Tryz.underlying67 info72 rfl (by decide) (by omega) u5 acc (⟨pos, 65533⟩ : S72) [.int .i64 pos, .int .i32 65533] (fun _ => True) (fun _ => False) rfl rfl ?aP (fun _ hk => hk.elim) ?aF ?aO ?aB ?aS ?aL ?_; (case aP => exact k72_mkM _ _ _ (⟨pos, 65533⟩ : S72)); (case aF => exact (fun _ _ => trivial)); (case aO => exact (Kd.R_drewN HO1.out nd)); (case aB => exact Below.refl _ _); (case aS => show _ ≤ (World.drewN _ _).heap.size; rw [World.heap_drewN]; rw [Lib.iterAt_size]; exact HSZ.out); (case aL => have := HACC.out; have := HP.out; have := HLIM.out; omega); intro v1 w1 ho hb hg hat; have HIT2 := Aside0.mk ((hb.block w.heap.size (Nat.lt_succ_self _)).trans HIT1.out); have HB2 := Aside0.mk ((pw_below_drewN HB1.out nd).trans (hb.mono (Nat.le_succ _))); have HO2 := Aside0.mk ho; clear ho hb hg hat))
            go_roundw
            case measure => rw [HM.out, iterPos_of HIT2.out]; have := HWD.out; have := HP.out; omega
            case rel => exact ⟨pos + (Utf8.decode a0 pos).2, b, acc ++ [(⟨pos, 65533⟩ : S72)], HIT2, HO2, HB2, HSTEP.out.symm.trans HG, ⟨by have := HACC.out; have := HWD.out; simp; omega⟩, ⟨by have := HBB.out; have := HWD.out; omega⟩⟩
          · have hf' : isFFFD a0 pos = false := by simpa using hf
            have HN := (runes_Decode.go_bad a0 b pos acc HP.out (show ((Utf8.decode a0 pos).1 == 65533 && !isFFFD a0 pos) = true by simp [hf', hc])).symm.trans HG
            simp only [Prod.mk.injEq] at HN
            obtain ⟨rfl, rfl, rfl⟩ := HN
            clear hc hf HG
            go_wp2_with (first | (go_at_call 45; refine (strings_HasPrefix.calls _ _ false _ (HPX.out.trans (by rw [hf']))).mono ?_; rintro e w' ⟨rfl, ⟨nd, rfl⟩⟩))
            go_ret3
            exact ⟨_, rfl, Kd.R_nil _ _ _ _ _, pw_below_drewN HB1.out _⟩
        · have hcb : (((Utf8.decode a0 pos).1 : Int) == 65533) = false := by simp; omega
          have HN := Aside0.mk (show ((Utf8.decode a0 pos).1 == 65533 && !isFFFD a0 pos) = false by simp [hc])
          clear hc
          go_wp2_with (first | ((with_reducible refine gate_builtin (b := .append) (xs := #[.tmp 24, .tmp 28]) rfl ?_); at_builtin; refine Kd.R_append k72 (w0 := (wr.iterAt w.heap.size a0 (pos + (Utf8.decode a0 pos).2))) (w.heap.size + 1) rfl (.tmp 24) (.tmp 28) 67 72 (.agg #[(.int .i64 0), (.int .i32 0)]) 16 rfl Tryz.underlying67 info72 rfl (by decide) (by omega) u5 acc (⟨pos, (Utf8.decode a0 pos).1⟩ : S72) [.int .i64 pos, .int .i32 (Utf8.decode a0 pos).1] (fun _ => True) (fun _ => False) rfl rfl ?aP (fun _ hk => hk.elim) ?aF ?aO ?aB ?aS ?aL ?_; (case aP => exact k72_mkM _ _ _ (⟨pos, (Utf8.decode a0 pos).1⟩ : S72)); (case aF => exact (fun _ _ => trivial)); (case aO => exact HO1.out); (case aB => exact Below.refl _ _); (case aS => rw [Lib.iterAt_size]; exact HSZ.out); (case aL => have := HACC.out; have := HP.out; have := HLIM.out; omega); intro v1 w1 ho hb hg hat; have HIT2 := Aside0.mk ((hb.block w.heap.size (Nat.lt_succ_self _)).trans HIT1.out); have HB2 := Aside0.mk (HB1.out.trans (hb.mono (Nat.le_succ _))); have HO2 := Aside0.mk ho; clear ho hb hg hat))
          go_roundw
          case measure => rw [HM.out, iterPos_of HIT2.out]; have := HWD.out; have := HP.out; omega
          case rel => exact ⟨pos + (Utf8.decode a0 pos).2, b, acc ++ [(⟨pos, (Utf8.decode a0 pos).1⟩ : S72)], HIT2, HO2, HB2, (runes_Decode.go_step a0 b pos acc HP.out HN.out).symm.trans HG, ⟨by have := HACC.out; have := HWD.out; simp; omega⟩, ⟨by have := HBB.out; have := HWD.out; omega⟩⟩
      · have hnx : ∀ ty, (Instr.next (.pointer (some ⟨w.heap.size, 0, none⟩)) true ty).run Tryz.prog wr = _ := fun ty => Lib.run_next_end_at wr w.heap.size a0 pos ty HIT.out hp
        have hfin := HG.out
        rw [runes_Decode.go_end _ _ _ _ hp] at hfin
        simp only [Prod.mk.injEq] at hfin
        obtain ⟨rfl, rfl, rfl⟩ := hfin
        go_wp2
        go_ret3
        exact ⟨_, rfl, Kd.R_lower HO.out (by omega), HB.out⟩
  · rw [if_neg hlim] at h; cases h

end Go.Proofs.YtmdmdbiinngneaaGreatDoor.Q
