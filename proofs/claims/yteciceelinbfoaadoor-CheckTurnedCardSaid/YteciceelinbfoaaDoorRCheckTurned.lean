/-
  The law maquettelaw09.CheckTurned returns true for every input, and its arguments read afterwards as they did before.
  Conditions: none beyond the statement's own.
-/
import Derived.Test.YteciceelinbfoaaDoorLCheckTurned
import Derived.Test.YteciceelinbfoaaDoorRows
import Derived.Test.YteciceelinbfoaaDoorRdc
import Derived.Test.YteciceelinbfoaaDoorRw
import Derived.Test.YteciceelinbfoaaDoorHd
import Derived.Test.YteciceelinbfoaaDoorCards
set_option linter.unusedVariables false
namespace Go.Proofs.YteciceelinbfoaaDoor.checkTurned
open Go.ChangeShapes Go.WideShapes Go.ChangeAt Go.RowKit Mq

theorem own : ownKnob Tryd.prog.godebug = none := by kernel_rfl
theorem laid : laidOutB Tryd.prog = true := by kernel_rfl


set_option maxRecDepth 100000 in
theorem lifted (os : Os) (started : os.Started) (H : Type) (enc : TypeId × Value → H) :
    ReturnsInHanded {} Tryd.checked os 4 .any (fun w args => (Rows.checkTurnedSpec.pre enc Tryd.prog Tryd.f4 [] false w args ∧ laidMetH Tryd.prog laidL w) ∧ sizedMet enc Tryd.prog Tryd.f4 (OpenSpec.ofChange Rows.checkTurnedSpec) false w args) (Rows.checkTurnedSpec.post enc Tryd.prog Tryd.f4 false true false false) := by
  refine returnsInHanded_of_change_and (C := Tryd.checked) (X := fun w _ => laidMetH Tryd.prog laidL w) (fun _ _ _ hh h => h.of_heap hh) own started (by kernel_rfl) Tryd.func4
    (ChangeSpec.witness_at (enc := enc) (C := Tryd.checked) (os := os) (X := fun w _ => laidMetH Tryd.prog laidL w) false (laidWorld os) #[.agg #[.int .u8 0, .slice none 0 0, .slice none 0 0, .slice none 0 0, .slice none 0 0, .slice none 0 0], .int .u8 0, .int .u8 0, .int .u8 0, .int .u8 0] 8 rfl (by kernel_rfl) (by kernel_rfl) (by kernel_rfl) (by kernel_rfl) (by kernel_rfl) (laidWorld_met os _)) ?_
  intro W base args ds gs before hval0 hW _ hsz0 hL _
  have hsz : (DataW.weightsEach Tryd.prog (Tryd.f4.params.toList ++ Rows.checkTurnedSpec.plain.varTypes Tryd.prog) (ds ++ gs)).all (· ≤ reachBytes) = true := hsz0
  clear hsz0
  have hval : ∀ (j : Nat) t v, Tryd.f4.params[j]? = some t → args[j]? = some v → Value.okWide Tryd.prog W .any base t v := hval0
  have hW' := hW
  obtain ⟨p, q, hA0, hV, rfl, hfz, hnd⟩ := hW
  have hA : DataW.TrodAll enc Tryd.prog W 0 (fun _ => true) true Tryd.f4.params.toList args.toList ds p := hA0
  have hAk := hA
  have hlt : ∀ x ∈ p, x.block < W.heap.size := fun x hx => hW'.lt x (List.mem_append_left _ hx)
  rw [Tryd.params4] at hA hval hsz
  obtain ⟨v0, vs0, d0, ds0, p0, q0, hargs, rfl, rfl, h0, r0⟩ := trodAll_cons hA
  obtain ⟨v1, vs1, d1, ds1, p1, q1, rfl, rfl, rfl, h1, r1⟩ := trodAll_cons r0
  obtain ⟨v2, vs2, d2, ds2, p2, q2, rfl, rfl, rfl, h2, r2⟩ := trodAll_cons r1
  obtain ⟨v3, vs3, d3, ds3, p3, q3, rfl, rfl, rfl, h3, r3⟩ := trodAll_cons r2
  obtain ⟨v4, vs4, d4, ds4, p4, q4, rfl, rfl, rfl, h4, r4⟩ := trodAll_cons r3
  obtain ⟨rfl, rfl, rfl⟩ := trodAll_nil r4
  obtain rfl : args = #[v0, v1, v2, v3, v4] := by cases args; simp_all
  obtain ⟨rfl, rfl⟩ := trodVars_none hV
  obtain ⟨a0, rfl, ha0⟩ := op_agg Tryd.underlying25 rd_shape (hval 0 25 v0 rfl rfl) h0
  obtain ⟨z1, rfl, -, -, wz1⟩ := open_int Tryd.underlying5 (hval 1 5 v1 rfl rfl) h1
  obtain ⟨a1, rfl⟩ := Int.eq_ofNat_of_zero_le (show 0 ≤ z1 by have := bounds_u8 wz1; omega)
  have ha1 : a1 < 256 := by have := bounds_u8 wz1; omega
  obtain ⟨z2, rfl, -, -, wz2⟩ := open_int Tryd.underlying5 (hval 2 5 v2 rfl rfl) h2
  obtain ⟨a2, rfl⟩ := Int.eq_ofNat_of_zero_le (show 0 ≤ z2 by have := bounds_u8 wz2; omega)
  have ha2 : a2 < 256 := by have := bounds_u8 wz2; omega
  obtain ⟨z3, rfl, -, -, wz3⟩ := open_int Tryd.underlying5 (hval 3 5 v3 rfl rfl) h3
  obtain ⟨a3, rfl⟩ := Int.eq_ofNat_of_zero_le (show 0 ≤ z3 by have := bounds_u8 wz3; omega)
  have ha3 : a3 < 256 := by have := bounds_u8 wz3; omega
  obtain ⟨z4, rfl, -, -, wz4⟩ := open_int Tryd.underlying5 (hval 4 5 v4 rfl rfl) h4
  obtain ⟨a4, rfl⟩ := Int.eq_ofNat_of_zero_le (show 0 ≤ z4 by have := bounds_u8 wz4; omega)
  have ha4 : a4 < 256 := by have := bounds_u8 wz4; omega
  clear hA0 hval0
  have hG := errG_of_laid hL
  refine (walk_CheckTurned a0 a1 a2 a3 a4 W ha0 ha1 ha2 ha3 ha4 hG).mono fun e W' ⟨he, hg⟩ => ?_
  subst he
  exact ⟨_, rfl, post_of_below (pv := []) hW' (fun _ _ _ => (trodAll_cons_mk (shut_bool Tryd.underlying4 _) trodAll_mk0))
    (fun sp hsp => trodAll_stays laid (parsRead_at (by kernel_rfl)) hAk (fun x hx => hg.same (hlt x hx)) (fun x hx => hsp x (List.mem_append_left _ hx))) (fun _ _ => rfl) rfl
    hg (ok_one (by kernel_rfl) rfl (okWide_bool_mk Tryd.underlying4 _))⟩

theorem over : Rows.checkTurnedRow.holds Tryd.pinned (OpenSpec.ofChange Rows.checkTurnedSpec) :=
  OpenClaim.holds_of_wide 4 Tryd.f4 rfl rfl rfl rfl rfl rfl rfl ⟨rfl, rfl, rfl, rfl, rfl⟩ rfl rfl rfl rfl rfl (by kernel_rfl) Tryd.func4 (by kernel_rfl)
    (of_decide_eq_true (by kernel_rfl)) (by unfold Func.isWrapper; first | (rw [if_pos (by decide +kernel)]; kernel_rfl) | (rw [if_neg (by decide +kernel)]; exact ⟨rfl, rfl⟩))
    (fun os started H enc _ => lifted os started H enc)

theorem row_tie : Rows.checkTurnedRow.laidByTextAt .later Tryd.pinned [.handle] true := checkTurned_row_tie
set_option maxRecDepth 100000 in
theorem proved : Rows.CheckTurnedCardSaid :=
  Claim7.holds_tied_plain_at .later [] [.handle] true (true, "601637326226084943ab3dd803e331349a98fb75a4614279f8b9626a11aebfa8") true
    over (fun _ h => by cases h) (by kernel_rfl) (fun _ h => by cases h) row_tie rfl ⟨rfl, rfl⟩ (by kernel_rfl) rfl
    (fun f fn hf hfn => by
      obtain rfl : f = 4 := Option.some.inj ((show Tryd.prog.funcNamed "maquette/maquettelaw09.CheckTurned" = some 4 by kernel_rfl).symm.trans hf) |>.symm
      obtain rfl : fn = Tryd.f4 := (Option.some.inj (Tryd.func4.symm.trans hfn)).symm
      exact ⟨by kernel_rfl, fun j t ht => by
        rw [Tryd.params4] at ht
        have ha : (#[25, 5, 5, 5, 5] : Array TypeId).all (fun t => !Tryd.prog.wantsStandIn t) = true := by kernel_rfl
        have hm := Array.all_eq_true'.1 ha t (Array.mem_of_getElem? ht)
        exact (by simpa using hm : Tryd.prog.wantsStandIn t = false)⟩)
    (by kernel_rfl)
#print axioms proved
end Go.Proofs.YteciceelinbfoaaDoor.checkTurned
