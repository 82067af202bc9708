import Derived.Test.YtimlfmklbfgliaaDoorCw
set_option linter.unusedVariables false
namespace Go.Proofs.YtimlfmklbfgliaaDoor
open Go.RowKit Mq
attribute [local go_sem high] max2_ii min2_ii

set_option maxRecDepth 100000 in
theorem matches_any (c : Cl) (hc : c.Ok) (o : Pfx) (ht : o.Ok) (t : Nat) (htg : t < 256) (w : World) :
    Calls Tryd.prog 30 #[clv c, pfxv o, .int .u8 t] w fun e w' => e = .returned (.bool (matchB c o t)) ∧ Below w.heap.size w w' := by
  have h1 := u8_and_nat t c.wi htg hc.wi
  have h2 := u8_and_nat t c.out htg hc.out
  have HM : Hid (matchB c o t = ((c.any || coversB c.px o) && (((t &&& c.wi : Nat) : Int) == (c.wi : Int)) && (((t &&& c.out : Nat) : Int) == 0))) := Lib.hid (by rw [eqn_dec, eq0_dec]; simp only [matchB, forB, tagsB, Bool.and_assoc])
  have H1 := Lib.hid h1; have H2 := Lib.hid h2
  clear h1 h2
  unfold clv pfxv
  cases ha : c.any with
  | true =>
    go_enter Tryd.func30, Tryd.ntmps30
    go_wp2_with fail
    all_goals
      go_ret
      exact ⟨rt_bool (by rw [HM.out, ← H1.out, ← H2.out, ha]; simp [*]), gb_alloc (gb_alloc (Below.refl _ _) _) _⟩
  | false =>
    have HC := Lib.hid (covers_any c.px o hc.px ht)
    go_enter Tryd.func30, Tryd.ntmps30
    go_wp2_with fail
    refine (HC.out _).mono ?_
    rintro e w1 ⟨rfl, hb1⟩
    have hB := gb_trans (gb_alloc (gb_alloc (Below.refl w.heap.size w) (.cells #[.bool false, .int .u32 c.px.addr, .int .i64 c.px.bits, .int .u8 c.wi, .int .u8 c.out, .bool c.drop, .int .u8 c.set, .int .u8 c.clr, .int .i64 c.more, .int .i64 c.pref] 80)) (.cells #[.int .u32 o.addr, .int .i64 o.bits] 64)) hb1
    have hbx := gb_blk hb1 (gb_old _ (.cells #[.int .u32 o.addr, .int .i64 o.bits] 64) (gb_new w (.cells #[.bool false, .int .u32 c.px.addr, .int .i64 c.px.bits, .int .u8 c.wi, .int .u8 c.out, .bool c.drop, .int .u8 c.set, .int .u8 c.clr, .int .i64 c.more, .int .i64 c.pref] 80))) (by simp <;> omega)
    have q3 : w1.cell? ⟨w.heap.size, 3, none⟩ = some (.int .u8 c.wi) := gb_cell hbx 3
    have q4 : w1.cell? ⟨w.heap.size, 4, none⟩ = some (.int .u8 c.out) := gb_cell hbx 4
    have B := Lib.hid hB
    clear hB hb1 hbx
    cases hcv : coversB c.px o with
    | false =>
      have HV := Lib.hid hcv
      clear hcv
      go_wp2_with fail
      go_ret
      exact ⟨rt_bool (by rw [HM.out, HV.out, ha]; simp), B.out⟩
    | true =>
      have HV := Lib.hid hcv
      clear hcv
      go_wp2_with fail
      all_goals
        go_ret
        exact ⟨rt_bool (by rw [HM.out, HV.out, ← H1.out, ← H2.out, ha]; simp [*]), B.out⟩
end Go.Proofs.YtimlfmklbfgliaaDoor
