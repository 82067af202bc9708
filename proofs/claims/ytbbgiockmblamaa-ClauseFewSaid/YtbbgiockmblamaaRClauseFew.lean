/-
  The law maquettelaw11.ClauseFew returns true for every input, and its arguments read afterwards as they did before.
  Conditions: none beyond the statement's own.
-/
import Derived.Test.YtbbgiockmblamaaLClauseFew
import Derived.Test.YtbbgiockmblamaaRows
import Derived.Test.YtbbgiockmblamaaRdt
import Derived.Test.YtbbgiockmblamaaRw
set_option linter.unusedVariables false
namespace Go.Proofs.Ytbbgiockmblamaa.clauseFew
open Go.ChangeShapes Go.WideShapes Go.ChangeAt Go.RowKit Mq

theorem own : ownKnob Try.prog.godebug = none := by kernel_rfl
theorem laid : laidOutB Try.prog = true := by kernel_rfl

set_option maxRecDepth 100000 in
theorem lifted (os : Os) (started : os.Started) (H : Type) (enc : TypeId × Value → H) :
    ReturnsInHanded {} Try.checked os 9 .any (Rows.clauseFewSpec.pre6 enc Try.prog Try.f9 Rows.clauseFewRow.domain false) (Rows.clauseFewSpec.post enc Try.prog Try.f9 false true false false) := by
  refine returnsInHanded_of_change_sized (C := Try.checked) own started (by kernel_rfl) Try.func9
    (ChangeSpec.witness6 (enc := enc) (C := Try.checked) false ⟨#[], #[.slice none 0 0, .int .u8 0, .slice none 0 0, .agg #[.int .u32 0, .int .i64 0]], []⟩ 8 (by kernel_rfl) (by kernel_rfl) (by kernel_rfl) (by kernel_rfl)) ?_
  intro W base args ds gs before hval0 hW _ hsz0 _
  have hsz : (DataW.weightsEach Try.prog (Try.f9.params.toList ++ Rows.clauseFewSpec.plain.varTypes Try.prog) (ds ++ gs)).all (· ≤ reachBytes) = true := hsz0
  clear hsz0
  have hval : ∀ (j : Nat) t v, Try.f9.params[j]? = some t → args[j]? = some v → Value.okWide Try.prog W .any base t v := hval0
  have hW' := hW
  obtain ⟨p, q, hA0, hV, rfl, hfz, hnd⟩ := hW
  have hA : DataW.TrodAll enc Try.prog W 0 (fun _ => true) true Try.f9.params.toList args.toList ds p := hA0
  have hAk := hA
  have hlt : ∀ x ∈ p, x.block < W.heap.size := fun x hx => hW'.lt x (List.mem_append_left _ hx)
  rw [Try.params9] at hA hval hsz
  obtain ⟨v0, vs0, d0, ds0, p0, q0, hargs, rfl, rfl, h0, r0⟩ := trodAll_cons hA
  obtain ⟨v1, vs1, d1, ds1, p1, q1, rfl, rfl, rfl, h1, r1⟩ := trodAll_cons r0
  obtain ⟨v2, vs2, d2, ds2, p2, q2, rfl, rfl, rfl, h2, r2⟩ := trodAll_cons r1
  obtain ⟨v3, vs3, d3, ds3, p3, q3, rfl, rfl, rfl, h3, r3⟩ := trodAll_cons r2
  obtain ⟨rfl, rfl, rfl⟩ := trodAll_nil r3
  obtain rfl : args = #[v0, v1, v2, v3] := by cases args; simp_all
  obtain ⟨rfl, rfl⟩ := trodVars_none hV
  have hr0 := sl_reach Try.underlying22 h0
  obtain ⟨a0, rfl, ha0⟩ := op_slice Try.underlying22 rd_rules (hval 0 22 v0 rfl rfl) h0
  have hb0 : a0.l.length * Try.prog.bytesOf 37 ≤ reachBytes := sl_bytes hsz (j := 0) (t := 22) (e := 37) rfl rfl Try.underlying22 (hr0 _ _ _ rfl)
  obtain ⟨z1, rfl, -, -, wz1⟩ := open_int Try.underlying5 (hval 1 5 v1 rfl rfl) h1
  obtain ⟨a1, rfl⟩ := Int.eq_ofNat_of_zero_le (show 0 ≤ z1 by have := bounds_u8 wz1; omega)
  have ha1 : a1 < 256 := by have := bounds_u8 wz1; omega
  have hr2 := sl_reach Try.underlying25 h2
  obtain ⟨a2, rfl, ha2⟩ := op_slice Try.underlying25 rd_clauses (hval 2 25 v2 rfl rfl) h2
  have hb2 : a2.l.length * Try.prog.bytesOf 35 ≤ reachBytes := sl_bytes hsz (j := 2) (t := 25) (e := 35) rfl rfl Try.underlying25 (hr2 _ _ _ rfl)
  obtain ⟨a3, rfl, ha3⟩ := op_agg Try.underlying28 rd_pfx (hval 3 28 v3 rfl rfl) h3
  clear hA0 hval0
  refine (walk_ClauseFew a0 a1 a2 a3 W ha0 hb0 ha1 ha2 hb2 ha3).mono fun e W' ⟨he, hg⟩ => ?_
  subst he
  exact ⟨_, rfl, post_of_below (pv := []) hW' (fun _ _ _ => (trodAll_cons_mk (shut_bool Try.underlying4 _) trodAll_mk0))
    (fun sp hsp => trodAll_stays laid (parsRead_at (by kernel_rfl)) hAk (fun x hx => hg.same (hlt x hx)) (fun x hx => hsp x (List.mem_append_left _ hx))) (fun _ _ => rfl) rfl
    hg (ok_one (by kernel_rfl) rfl (okWide_bool_mk Try.underlying4 _))⟩

theorem over : Rows.clauseFewRow.holds Try.pinned (OpenSpec.ofChange Rows.clauseFewSpec) :=
  OpenClaim.holds_of_wide 9 Try.f9 rfl rfl rfl rfl rfl rfl rfl ⟨rfl, rfl, rfl, rfl, rfl⟩ rfl rfl rfl rfl rfl (by kernel_rfl) Try.func9 (by kernel_rfl)
    (of_decide_eq_true (by kernel_rfl)) (by unfold Func.isWrapper; first | (rw [if_pos (by decide +kernel)]; kernel_rfl) | (rw [if_neg (by decide +kernel)]; exact ⟨rfl, rfl⟩))
    (fun os started H enc _ => lifted os started H enc)

theorem proved : Rows.ClauseFewSaid :=
  over
#print axioms proved
end Go.Proofs.Ytbbgiockmblamaa.clauseFew
